/-
  Merged texts.
-/
import Derived.Laws.MakeOwn
import Derived.Test.YtiohdbjggmmjcaaGreatWAD
set_option linter.unusedVariables false
set_option linter.unusedSimpArgs false
set_option linter.unusedSectionVars false
set_option linter.defProp false
set_option maxRecDepth 100000
set_option maxHeartbeats 8000000
section
namespace Go.Pg
open Go
def zelem(P:Program)(e:TypeId):Option V:=(kV P e).bind fun z=>if z.cells.toList.all Value.oneCell'=true then some (fJ z) else none
theorem Az(p:Tag→Bool)(q:Nat→Bool)(tp:Bool)(l:List Value):V.anyL p q tp (l.map .c)=false:=by
 induction l with
 | nil=>rfl
 | cons x xs ih=>simp [V.anyL,V.any,ih]
theorem vI(v:Value):(fJ v).free=true:=by
 cases v<;>simp [fJ,V.free,V.any,Az]
theorem DK(z:Array Value)(n:Nat):((Array.range (n*z.size)).map (z[·%z.size]!)).toList=(List.replicate n z.toList).flatten:=by
 induction n with
 | zero=>simp [Array.range_zero']
 | succ n ih =>
  have e:(Array.range ((n+1)*z.size)).toList=List.range (n*z.size)++(List.range z.size).map (n*z.size+·):=by
   simp only[Array.toList_range]
   rw[Nat.add_mul,Nat.one_mul,List.range_add]
  simp only[Array.toList_map,Array.toList_range] at ih ⊢
  simp only[Array.toList_range] at e
  rw[e,List.map_append,ih,List.replicate_succ',List.flatten_append]
  congr 1
  simp only[List.map_map,List.flatten_cons,List.flatten_nil,List.append_nil]
  apply List.ext_getElem?
  intro j
  by_cases hj:j<z.size
  ·simp [hj,Nat.mod_eq_of_lt hj]
  ·simp [hj]
section
variable {P:Program} {C:Cx} {s:St} {L L':Lay} {a:Act} {w w':World}
theorem rf{v:V}{z:Value}(n:Nat)(hr:Rep L w v z)(hf:v.free=true)(h1:z.cells.toList.all Value.oneCell'=true) :
  RepE L w z.cells.size (List.replicate n v) (List.replicate n z.cells.toList).flatten:=by
 induction n with
 | zero=>rfl
 | succ n ih =>
  rw[List.replicate_succ,List.replicate_succ,List.flatten_cons]
  exact⟨z,_,rfl,rfl,⟨hf,h1⟩,hr,ih⟩
theorem DL{e:TypeId}{k cap:Nat}{xs:List V}{arr:Array Value}(S:Sim C s L a w)(hcap:arr.size=cap*k)(hlen:xs.length≤cap)(hm:cap≤maxLen)(hr:RepE L w k xs (arr.toList.take (xs.length*k))) :
  ∃L',Sim C { s with nid:=s.nid+1 } L' a (w.alloc (.cells arr e))∧Rep L' (w.alloc (.cells arr e)) (.sl (.own s.nid e) k xs) (.slice (some ⟨w.heap.size,0,none⟩) xs.length cap):=by
 have G:=Grow.alloc w (.cells arr e)
 have E:=S.wf.leOwn (s:=s) w.heap.size
 refine⟨L.addOwn s.nid w.heap.size,S.grow G E rfl (fun b cs h => .inl h) (S.wf.addOwn S.hB (by simp)),_,_,_,rfl,hr.trans (p:=fun _=>false) (q:=fun _=>false) rfl (S.wf.whole G E), ?_⟩
 exact .inr ⟨w.heap.size,arr,by simp [Lay.addOwn,upd],rfl,heap_alloc_new w _,hlen,hm,hcap,rfl⟩
def vJ(P:Program)(s:St)(t:TypeId)(l c:V):Option (V × St) :=
 match l,c with
 | .c (.int _ n),.c (.int _ m)=>(elemT P t).bind fun e=>(tapp P e).bind fun (k,bytes)=>(zelem P e).bind fun z =>
   if 0≤n∧n≤m∧(bytes:Int)*m≤281474976710656∧m≤9223372036854775807 then some (.sl (.own s.nid e) k (List.replicate n.toNat z),{ s with nid:=s.nid+1 }) else none
 | _,_=>none
theorem AA{e:TypeId}{v:V}(h:zelem P e=some v):∃z,kV P e=some z∧v=fJ z∧z.cells.toList.all Value.oneCell'=true:=by
 simp only[zelem,Option.bind_eq_some_iff,Option.ite_none_right_eq_some,Option.some.injEq] at h
 obtain⟨z,hz,h1,rfl⟩:=h
 exact⟨z,hz,rfl,h1⟩
theorem Uj{t:TypeId}{l c r:V}{ul uc:Value}{s':St}(h:vJ P s t l c=some (r,s'))(S:Sim C s L a w)(hl:Rep L w l ul)(hc:Rep L w c uc) :
  ∃u w' L',(Instr.makeSlice t ul uc).run P w = .ok u w'∧Sim C s' L' a w'∧Rep L' w' r u:=by
 unfold vJ at h
 split at h
 ·rename_i kl n kc m
  simp only[Option.bind_eq_some_iff,Prod.exists,Option.ite_none_right_eq_some,Option.some.injEq,Prod.mk.injEq] at h
  obtain⟨e,he,k,bytes,hk,v,hv,⟨h0,h1,h2,h3⟩,rfl,rfl⟩:=h
  obtain⟨i,z,hi,hz,hzs,hik,rfl,hpos⟩:=jc hk
  obtain⟨z',hz',rfl,hone⟩:=AA hv
  have:z'=z:=by simp [kV,hi,hz] at hz';exact hz'.symm
  subst this
  simp only[Rep] at hl hc;subst hl;subst hc
  have hrun:=run_make (P:=P) w t e i z' (bW he) hi hz kl kc n m h0 h1 h2 h3
  have hcells:(madeCells z'.cells (m.toNat*i.size)).toList=(List.replicate m.toNat z'.cells.toList).flatten:=by
   rw[hik,←hzs];exact DK z'.cells m.toNat
  have htake:((List.replicate m.toNat z'.cells.toList).flatten).take (n.toNat*k)=(List.replicate n.toNat z'.cells.toList).flatten:=by
   have e1:m.toNat=n.toNat+(m.toNat-n.toNat):=by omega
   rw[e1,←List.replicate_append_replicate,List.flatten_append]
   have hl:((List.replicate n.toNat z'.cells.toList).flatten).length=n.toNat*k:=by simp [hzs]
   rw[←hl];exact List.take_left
  obtain⟨L',h4,h5⟩:=DL (e:=e) (k:=k) (cap:=m.toNat) (xs:=List.replicate n.toNat (fJ z')) (arr:=madeCells z'.cells (m.toNat*i.size)) S
   (by rw[size_madeCells,hik]) (by simp;omega) (by simp only[maxLen];omega)
   (by rw[hcells,List.length_replicate,htake,←hzs];exact rf _ (qX L w z') (vI z') hone)
  rw[List.length_replicate] at h5
  exact⟨_,_,L',hrun,h4,h5⟩
 ·cases h
def bsTag(len id:Nat)(e:TypeId):Tag:=match len with|0 => .nn|_+1 => .own id e
def setAll(k:Nat)(xs:List V):List (Nat × V)→Option (List V)
 | []=>some xs
 | (i,v)::rest =>
  match v.cs with
  | some l=>if l.length=k∧v.free=true∧l.all V.one=true∧i<xs.length then setAll k (xs.set i v) rest else none
  | none=>none
def eP(P:Program)(s:St)(t:TypeId)(len:Nat)(parts:List (Nat × V)):Option (V × St) :=
 (elemT P t).bind fun e=>(tapp P e).bind fun (k,_)=>(zelem P e).bind fun z=>(setAll k (List.replicate len z) parts).bind fun xs =>
  if len*k≤16777216 then some (.sl (bsTag len s.nid e) k xs,{ s with nid:=s.nid+1 }) else none
theorem J9{k:Nat}(sv:Operand→V)(se:Operand→Value)(hs:∀x,Rep L w (sv x) (se x)):∀(parts:List (Nat × Operand)) (xs r:List V) (ucells:Array Value),
  setAll k xs (parts.map fun p=>(p.1,sv p.2))=some r→RepE L w k xs ucells.toList →
  ∃ur,Instr.fill (fun i=>some (i*k,k)) ucells (parts.map fun p=>(p.1,se p.2))=some ur∧RepE L w k r ur.toList∧r.length=xs.length:=by
 intro parts
 induction parts with
 | nil =>
  intro xs r ucells h hr
  simp only[List.map_nil,setAll,Option.some.injEq] at h
  subst h
  exact⟨ucells,rfl,hr,rfl⟩
 | cons p rest ih =>
  intro xs r ucells h hr
  obtain⟨i,x⟩:=p
  have hv:=hs x
  simp only[List.map_cons,setAll] at h ⊢
  generalize sv x=v at hv h
  generalize se x=u at hv ⊢
  split at h
  ·rename_i l hcs
   simp only[Option.ite_none_right_eq_some] at h
   obtain⟨⟨h1,h2,h3,h4⟩,h⟩:=h
   have hrl:=qh hv hcs
   have hll:=hrl.length
   have hcl:=hr.length
   simp only[Array.length_toList] at hll hcl
   have hfit:i*k+k≤xs.length*k:=by
    have:=Nat.mul_le_mul_right k (show i+1≤xs.length from h4)
    rwa [Nat.add_mul,Nat.one_mul] at this
   have hfold:=uB u.cells.toList 0 (i*k) ucells (by simp;omega)
   simp only[Nat.add_zero,Array.length_toList,hll,h1] at hfold
   have hr':RepE L w k (xs.set i v) (u.cells.zipIdx.foldl (fun cs (x:Value × Nat)=>cs.setIfInBounds (i*k+x.2) x.1) ucells).toList:=by
    rw[←Array.foldl_toList,Array.toList_zipIdx,hfold]
    exact hr.set h4 (by omega) ⟨h2,List.all_eq_true.2 (vG hrl h3)⟩ hv
   obtain⟨ur,h5,h6,h7⟩:=ih _ r _ h hr'
   refine⟨ur, ?_,h6,by simpa using h7⟩
   simp only[Instr.fill]
   rw[if_neg (by simp [hll,h1];omega)]
   exact h5
  ·cases h
theorem mY{t:TypeId}{len:Nat}{parts:Array (Nat × Operand)}{e:TypeId}{k bytes:Nat}{v:V}{xs:List V}(hev:∀x,Rep L w (s.ev x) (a.eval x))(he:elemT P t=some e)(hk:tapp P e=some (k,bytes))(hv:zelem P e=some v)
  (hxs:setAll k (List.replicate len v) (parts.toList.map fun p=>(p.1,s.ev p.2))=some xs) (h24:len*k≤16777216) :
  ∃ur,(Instr.buildSlice t len (parts.map fun (i,x)=>(i,a.eval x))).run P w = .ok (.slice (some ⟨w.heap.size,0,none⟩) len len) (w.alloc (.cells ur e))∧ur.size=len*k∧xs.length=len∧RepE L w k xs ur.toList∧len≤maxLen:=by
 obtain⟨i,z,hi,hz,hzs,hik,_,hpos⟩:=jc hk
 obtain⟨z',hz',rfl,hone⟩:=AA hv
 have:z'=z:=by simp [kV,hi,hz] at hz';exact hz'.symm
 subst this
 have hsz:tsz P e=some k:=by simp [tsz,hi,hik]
 have hinit:RepE L w k (List.replicate len (fJ z')) ((Array.range (len*k)).map (z'.cells[·%z'.cells.size]!)).toList:=by
  rw[←hzs,DK]
  exact rf _ (qX L w z') (vI z') hone
 obtain⟨ur,h1,h2,h3⟩:=J9 s.ev a.eval hev parts.toList _ xs _ hxs hinit
 rw[List.length_replicate] at h3
 have hul:ur.size=len*k:=by have:=h2.length;simpa [h3] using this
 refine⟨ur, ?_,hul,h3,h2, ?_⟩
 ·have h24':¬len*k > 2^24:=by omega
  by_cases h0:len*k=0
  ·have hl0:len=0:=by
    rcases Nat.mul_eq_zero.1 h0 with h|h
    ·exact h
    ·omega
   subst hl0
   have h1':Instr.fill (fun i=>some (i*k,k)) ((Array.range 0).map fun x=>(#[]:Array Value)[x%(#[]:Array Value).size]!) (parts.toList.map fun p=>(p.1,a.eval p.2))=some ur:=by
    rw[←h1];congr 1;simp [Array.range_zero']
   simp only[Instr.buildSlice,Sem.run_bind,run_underlying (bW he),Result.andThen_ok,gJ hsz]
   rw[if_neg h24',if_pos h0]
   simp only[Sem.run_bind,Sem.run_pure,Result.andThen_ok,Array.toList_map,h0]
   simp only[h1']
   simp [newRow]
  ·simp only[Instr.buildSlice,Sem.run_bind,run_underlying (bW he),Result.andThen_ok,gJ hsz]
   rw[if_neg h24',if_neg h0]
   simp only[Sem.run_bind,lh hz',Sem.run_pure,Result.andThen_ok,Array.toList_map]
   simp only[h1]
   simp [newRow]
 ·have:len≤len*k:=Nat.le_mul_of_pos_right len hpos
  simp only[maxLen];omega
theorem AB{t:TypeId}{len:Nat}{parts:Array (Nat × Operand)}{r:V}{s':St}(S:Sim C s L a w)(h:eP P s t len (parts.toList.map fun p=>(p.1,s.ev p.2))=some (r,s')) :
  ∃u w' L',(Instr.buildSlice t len (parts.map fun (i,x)=>(i,a.eval x))).run P w = .ok u w'∧Sim C s' L' a w'∧Rep L' w' r u:=by
 simp only[eP,Option.bind_eq_some_iff,Prod.exists,Option.ite_none_right_eq_some,Option.some.injEq,Prod.mk.injEq] at h
 obtain⟨e,he,k,bytes,hk,v,hv,xs,hxs,h24,rfl,rfl⟩:=h
 obtain⟨ur,h1,hul,h3,h2,hm⟩:=mY S.ev he hk hv hxs h24
 obtain⟨L',h4,h5⟩:=DL (e:=e) (k:=k) (cap:=len) (xs:=xs) (arr:=ur) S hul (by omega) hm (by rw[h3,←hul,←Array.length_toList,List.take_length];exact h2)
 rw[h3] at h5
 refine⟨_,_,L',h1,h4, ?_⟩
 cases len with
 | zero =>
  have hx:xs=[]:=List.eq_nil_of_length_eq_zero h3
  subst hx
  exact⟨_,0,[],rfl,rfl,rfl,rfl,rfl⟩
 | succ n=>exact h5
def lI(P:Program)(s:St)(t:TypeId)(id k:Nat)(xs:List V)(lo hi:Option V):Option (V × St) :=
 (slV P t (.sl .fz k xs) lo hi).map fun r=>(r,s.mapV (frz id))
theorem G7{t e:TypeId}{id k:Nat}{xs:List V}{r:V}{ux:Value}{s':St}{lo hi:Option Operand}(h:lI P s t id k xs (lo.map s.ev) (hi.map s.ev)=some (r,s'))(S:Sim C s L a w)(hx:Rep L w (.sl (.own id e) k xs) ux)
  (hlo:∀x,lo=some x→∃u,s.ev x = .c u) (hhi:∀x,hi=some x→∃u,s.ev x = .c u) :
  ∃u L',(Instr.sliceAt t ux (lo.map a.eval) (hi.map a.eval) none).run P w = .ok u w∧Sim C s' L' a w∧Rep L' w r u:=by
 simp only[lI,Option.map_eq_some_iff,Prod.mk.injEq] at h
 obtain⟨r',hr,rfl,rfl⟩:=h
 obtain⟨S',hψ⟩:=S.freeze id
 have hx':=hψ _ _ hx
 have e1:frz id (.sl (.own id e) k xs) = .sl .fz k xs:=by simp [frz,V.map,Tag.is]
 rw[e1] at hx'
 have bd:∀(o:Option Operand),(∀x,o=some x→∃u,s.ev x = .c u)→o.map s.ev=none∧o.map a.eval=none∨∃v u,o.map s.ev=some v∧o.map a.eval=some u∧Rep (L.freeze id) w v u:=by
  intro o ho
  cases o with
  | none=>exact .inl ⟨rfl,rfl⟩
  | some x =>
   obtain⟨u,hu⟩:=ho x rfl
   have:=S.ev x
   rw[hu] at this
   exact .inr ⟨_,_,rfl,rfl,by rw[hu];exact this⟩
 obtain⟨u,h1,h2⟩:=NY hr hx' (bd lo hlo) (bd hi hhi)
 exact⟨u,L.freeze id,h1,S',h2⟩
def jG(P:Program)(src dst:TypeId)(x:V):Option V :=
 match x with
 | .c (.string z)=>if gy P src=true∧(elemT P dst).bind (qg P)=some .u8 then some (.sl .fz 1 (qi z)) else none
 | _=>none
theorem AC(w:World)(g n:Nat)(arr:Array Value)(e:TypeId)(fr:Nat × Nat)(hg:w.heap[g]?=some (.cells arr e fr)):∃fr',(w.freeze ⟨g,n,none⟩ 1).heap[g]?=some (.cells arr e fr'):=by
 simp only[World.freeze]
 rw[if_neg (by decide)]
 simp only[Array.getElem?_modify,if_true,hg,Option.map_some]
 exact⟨_,rfl⟩
theorem jr(w:World)(g n k:Nat)(h:k≠g):(w.freeze ⟨g,n,none⟩ 1).heap[k]?=w.heap[k]?:=by
 simp only[World.freeze]
 rw[if_neg (by decide)]
 simp only[Array.getElem?_modify]
 rw[if_neg (by omega)]
theorem rq(w:World)(g n:Nat):(w.freeze ⟨g,n,none⟩ 1).heap.size=w.heap.size:=by
 simp only[World.freeze]
 rw[if_neg (by decide)]
 simp
theorem G8{src dst:TypeId}{x r:V}{ux:Value}(h:jG P src dst x=some r)(S:Sim C s L a w)(hx:Rep L w x ux) :
  ∃u w' L',(convert src dst ux).run P w = .ok u w'∧Sim C s L' a w'∧Rep L' w' r u:=by
 unfold jG at h
 split at h
 ·rename_i z
  simp only[Option.ite_none_right_eq_some,Option.bind_eq_some_iff,Option.some.injEq] at h
  obtain⟨⟨h0,e,he,h1⟩,rfl⟩:=h
  simp only[Rep] at hx;subst hx
  have hcap:=grownCap_ge w z.size 0 e
  let arr:Array Value:=z.data.map (fun b=>Value.int .u8 b.toNat)++Array.replicate (grownCap w z.size 0 e-z.size) (.int .u8 0)
  have harr:arr.toList.take z.size=byteCells z:=by
   have:(z.data.map (fun b=>Value.int .u8 b.toNat)).toList=byteCells z:=by simp [byteCells]
   simp only[arr,Array.toList_append,this]
   rw[←byteCells_length z]
   exact List.take_left
  have hasz:arr.size=grownCap w z.size 0 e:=by simp [arr];omega
  let w1:World:=w.drew.alloc (.cells arr e)
  have hh:w1.heap[w.heap.size]?=some (.cells arr e (0,0)):=heap_alloc_new w.drew _
  have G1:Grow w w1:=Grow.drewAlloc w _
  let w2:World:=w1.freeze ⟨w.heap.size,arr.size,none⟩ 1
  have G:Grow w w2:=⟨rfl,rfl,rfl,by rw[rq];exact G1.size,fun k hk=>(jr w1 _ _ k (by omega)).trans (G1.block k hk),G1.drawn⟩
  have E:=Lay.leA L w.heap.size
  have hsz:w.heap.size<w2.heap.size:=by rw[rq];simp [w1]
  obtain⟨fr,hfr⟩:=AC w1 w.heap.size arr.size arr e (0,0) hh
  refine⟨.slice (some ⟨w.heap.size,0,none⟩) z.size (grownCap w z.size 0 e),w2,L.addA w.heap.size, ?_,S.grow G E rfl (fun b cs h => .inl h) (S.wf.addA S.hB hsz),some ⟨w.heap.size,0,none⟩,grownCap w z.size 0 e,byteCells z,by simp [qi],Au z, ?_⟩
  ·have hsh:w1.shape? w.heap.size=some (e,arr.size):=by simp [World.shape?,hh]
   simp only[convert,Sem.run_bind,run_underlying (iL h0),run_underlying (bW he),run_underlying (mW h1),Result.andThen_ok,Conv.stringToBytes,run_choose_drew]
   have hnf:(Question.appendCap z.size 0 e).forced=false:=rfl
   rw[hnf]
   simp only[Bool.false_eq_true,if_false,Result.andThen_ok,newRow,Sem.run_bind,run_newObj_alloc,Sem.run_pure,markStringish,run_shape]
   have e2:((w.drew.alloc (.cells (z.data.map (fun b=>Value.int .u8 b.toNat)++Array.replicate ((Question.appendCap z.size 0 e).cut (w.tape w.drawn (.appendCap z.size 0 e))-z.size) (.int .u8 0)) e)).shape? w.drew.heap.size)=some (e,arr.size):=hsh
   rw[e2]
   rfl
  ·refine⟨by simpa [qi] using hcap,.inr ⟨w.heap.size,0,rfl,.inr rfl,arr,e,fr,hfr, ?_⟩⟩
   simp only[List.drop_zero,byteCells_length]
   exact harr
 ·cases h
def mZ(P:Program)(s:St)(src dst:TypeId)(x:V):Option (V × St) :=
 match x with
 | .sl (.own id _) k xs=>if src=dst∧(elemT P dst).bind (qg P)=some .u8∧0<xs.length then some (.sl .fz k xs,s.mapV (frz id)) else none
 | _=>none
theorem PN{src dst:TypeId}{x r:V}{ux:Value}{s':St}(h:mZ P s src dst x=some (r,s'))(S:Sim C s L a w)(hx:Rep L w x ux) :
  ∃u w' L',(convert src dst ux).run P w = .ok u w'∧Sim C s' L' a w'∧Rep L' w' r u:=by
 unfold mZ at h
 split at h
 ·rename_i id e' k xs
  simp only[Option.ite_none_right_eq_some,Option.bind_eq_some_iff,Option.some.injEq,Prod.mk.injEq] at h
  obtain⟨⟨rfl,⟨e,he,h1⟩,hpos⟩,rfl,rfl⟩:=h
  obtain⟨S',hψ⟩:=S.freeze id
  have hx':=hψ _ _ hx
  have e1:frz id (.sl (.own id e') k xs) = .sl .fz k xs:=by simp [frz,V.map,Tag.is]
  rw[e1] at hx'
  obtain⟨ad,cap,cells,rfl,h2,h3⟩:=hx
  rcases h3 with ⟨h4,_⟩|⟨g,arr,h4,rfl,h5,_⟩
  ·omega
  ·have hW:=S.wf.own id g h4
   have hA:(L.freeze id).A g := .inr h4
   have hO:∀i,(L.freeze id).own i≠some g:=fun i h=>(S'.wf.own i g h).2.2 hA
   obtain⟨fr,hfr⟩:=AC w g arr.size arr e' (0,0) h5
   have K:o7 (L.freeze id) (L.freeze id) w (w.freeze ⟨g,arr.size,none⟩ 1):=by
    refine⟨rfl,fun g' h=>⟨h, ?_⟩,fun j e _ g' h=>⟨⟨rfl,h⟩,jr w _ _ g' (fun e=>by subst e;exact hO j h)⟩,fun b _ g' h=>⟨h,.of (jr w _ _ g' (fun e=>by subst e;exact (S'.wf.boxW b _ h).2.2 hA))⟩⟩
    by_cases hg:g'=g
    ·subst hg
     intro arr' e'' fr' h'
     rw[h5] at h'
     simp only[Option.some.injEq,Obj.cells.injEq] at h'
     obtain⟨rfl,rfl,_⟩:=h'
     exact⟨fr,hfr⟩
    ·exact .of (jr w _ _ g' hg)
   have hsz:(w.freeze ⟨g,arr.size,none⟩ 1).heap.size=w.heap.size:=rq w _ _
   refine⟨.slice (some ⟨g,0,none⟩) xs.length cap,w.freeze ⟨g,arr.size,none⟩ 1,L.freeze id, ?_,⟨S'.defers,S'.size,fun t=>(S'.env t).whole K,fun t=>(S'.hid t).whole K, ?_,S'.wf.mono (Nat.le_refl _) (by rw[hsz];exact Nat.le_refl _),S'.kp.trans ⟨rfl,rfl,rfl,by rw[hsz];exact Nat.le_refl _, ?_,Nat.le_refl _⟩⟩,hx'.whole K⟩
   ·have hsh:w.shape? g=some (e',arr.size):=by simp [World.shape?,h5]
    simp [convert,run_underlying (bW he),run_underlying (mW h1),markStringish,hsh]
   ·intro b cs hb
    obtain⟨g',arr',h7,h8,h9⟩:=S'.box b cs hb
    exact⟨g',arr',h7,(jr w _ _ g' (fun e=>by subst e;exact (S'.wf.boxW b _ h7).2.2 hA)).trans h8,h9.whole K⟩
   ·intro k' hk' hW'
    exact jr w _ _ k' (fun e=>by subst e;exact hW.2.1.elim (fun h=>by omega) hW')
 ·cases h
def dP(b:Nat)(v:V):V:=if v.any (fun _=>false) (fun j=>j == b) false then .top else v
def Lay.kill(L:Lay)(b:Nat):Lay:={ L with A:=fun g=>L.A g∨L.box b=some g,box:=fun j=>if j=b then none else L.box j }
theorem Sim.kill(S:Sim C s L a w)(b:Nat):Sim C { (s.mapV (dP b)) with bx:=upd (fun j=>(s.bx j).map fun x=>(x.1,x.2.map (dP b))) b none } (L.kill b) a w:=by
 have W:=S.wf
 have K:Trans (fun _=>false) (fun j=>j == b) _root_.id _root_.id L (L.kill b) w w:=by
  refine⟨rfl,fun g h=>⟨.inl h,.of rfl⟩,fun j e _ g h=>⟨⟨rfl,h⟩,rfl⟩,fun j hj g h => ?_⟩
  have:j≠b:=by simpa using hj
  simp only[Lay.kill,id_eq,if_neg this];exact⟨h,.of rfl⟩
 have hψ:∀v u,Rep L w v u→Rep (L.kill b) w (dP b v) u:=by
  intro v u h
  unfold dP
  split
  ·trivial
  ·rename_i hv
   have:=h.trans rfl K (by simpa using hv)
   rwa [map_id.1] at this
 refine⟨S.defers,S.size,fun t=>hψ _ _ (S.env t),fun t=>hψ _ _ (S.hid t), ?_, ?_,S.kp⟩
 ·intro j cs h
  simp only[upd] at h
  split at h
  ·cases h
  ·rename_i hj
   simp only[Option.map_eq_some_iff] at h
   obtain⟨l,hl,rfl⟩:=h
   obtain⟨g,arr,h1,h2,h3⟩:=S.box j l hl
   exact⟨g,arr,by simp only[Lay.kill,if_neg hj];exact h1,h2,by show Reps _ _ (l.2.map (dP b)) (arr.toList.take (l.2.map (dP b)).length);rw[List.length_map];exact iZ hψ h3⟩
 ·exact {
   nidO:=W.nidO
   nidB:=fun j g h=>by
    simp only[Lay.kill] at h
    split at h
    ·cases h
    ·exact W.nidB j g h
   own:=fun j g h=>by
    obtain⟨h1,h2,h3⟩:=W.own j g h
    exact⟨h1,h2,fun h'=>h'.elim h3 (fun h'=>W.dis j b g h h')⟩
   boxW:=fun j g h=>by
    simp only[Lay.kill] at h
    split at h
    ·cases h
    ·rename_i hj
     obtain⟨h1,h2,h3⟩:=W.boxW j g h
     exact⟨h1,h2,fun h'=>h'.elim h3 (fun h'=>hj (W.injB j b g h h'))⟩
   injO:=W.injO
   injB:=fun i j g h h'=>by
    simp only[Lay.kill] at h h'
    split at h
    ·cases h
    ·split at h'
     ·cases h'
     ·exact W.injB i j g h h'
   dis:=fun i j g h h'=>by
    simp only[Lay.kill] at h'
    split at h'
    ·cases h'
    ·exact W.dis i j g h h'
   old:=fun g h=>h.elim (W.old g) (fun h=>(W.boxW b g h).1)
   frz:=fun g h=>h.elim (W.frz g) (fun h => .inr (W.boxW b g h).2.1) }
theorem DN{L:Lay}{w:World}{l:List V}{us:List Value}(h:Reps L w l us)(h1:l.all (fun v=>v.free&&v.one)=true):RepE L w 1 l us:=by
 induction l generalizing us with
 | nil=>exact h
 | cons x xs ih =>
  obtain⟨u,r,rfl,h2,h3⟩:=h
  simp only[List.all_cons,Bool.and_eq_true] at h1
  have ho:=NZ h2 h1.1.2
  have hc:u.cells=#[u]:=by cases u<;>first|rfl|(simp [Value.oneCell'] at ho)
  exact⟨u,r,by simp [hc],by simp [hc],⟨h1.1.1,by simp [hc,ho]⟩,h2,ih h3 h1.2⟩
def vK(P:Program)(s:St)(t:TypeId)(b off:Nat)(lo hi:Option V):Option (V × St) :=
 (s.bx b).bind fun y=>(oN P t).bind fun (n,e)=>(bdV lo 0).bind fun l=>(bdV hi n).bind fun h =>
  if off=0∧tsz P e=some 1∧y.2.length=n∧y.2.all (fun v=>v.free&&v.one)=true∧0≤l∧l≤h∧h≤n then
   some (.sl .fz 1 ((y.2.take h.toNat).drop l.toNat),{ (s.mapV (dP b)) with bx:=upd (fun j=>(s.bx j).map fun x=>(x.1,x.2.map (dP b))) b none }) else none
theorem G9{t:TypeId}{b off:Nat}{r:V}{ux:Value}{s':St}{lo hi:Option Operand}(h:vK P s t b off (lo.map s.ev) (hi.map s.ev)=some (r,s'))(S:Sim C s L a w)(hx:Rep L w (.ref b off) ux)
  (rl:lo.map s.ev=none∧lo.map a.eval=none∨∃v u,lo.map s.ev=some v∧lo.map a.eval=some u∧Rep L w v u) (rh:hi.map s.ev=none∧hi.map a.eval=none∨∃v u,hi.map s.ev=some v∧hi.map a.eval=some u∧Rep L w v u) :
  ∃u L',(Instr.sliceAt t ux (lo.map a.eval) (hi.map a.eval) none).run P w = .ok u w∧Sim C s' L' a w∧Rep L' w r u:=by
 simp only[vK,Option.bind_eq_some_iff,Prod.exists,Option.ite_none_right_eq_some,Option.some.injEq,Prod.mk.injEq] at h
 obtain⟨e0,cs,hcs,n,e,hn,l,hl,h',hh,⟨rfl,h1,h2,h3,h4,h5,h6⟩,rfl,rfl⟩:=h
 obtain⟨g,arr,hg,ha,hr⟩:=S.box b _ hcs
 obtain⟨g',hg',rfl⟩:=hx
 rw[hg] at hg'
 simp only[Option.some.injEq] at hg'
 subst hg'
 have S':=S.kill b
 have hal:cs.length≤arr.toList.length:=by have h0:=hr.length;simp only[List.length_take] at h0;omega
 have hb:=lm (P:=P) (w:=w) (isS:=false) (len:=n) (Nat.le_refl _) (jO hl rl) (jO hh rh) h4 h5 h6
 have hE:=DN hr h3
 have K:Trans (fun _=>false) (fun j=>j == b) _root_.id _root_.id L (L.kill b) w w:=by
  refine⟨rfl,fun g h=>⟨.inl h,.of rfl⟩,fun j e _ g h=>⟨⟨rfl,h⟩,rfl⟩,fun j hj g h => ?_⟩
  have:j≠b:=by simpa using hj
  simp only[Lay.kill,id_eq,if_neg this];exact⟨h,.of rfl⟩
 have hE':=RepE.trans rfl K hE
 have hE2:=(hE'.take h'.toNat).drop l.toNat
 simp only[List.take_take] at hE2
 rw[Nat.min_eq_left (show h'.toNat*1≤cs.length by omega)] at hE2
 have hlen:((cs.take h'.toNat).drop l.toNat).length=h'.toNat-l.toNat:=by simp;omega
 refine⟨.slice (some (if n=l.toNat then (⟨g,0,none⟩:Addr) else (⟨g,0,none⟩:Addr).add (l.toNat*1))) (h'.toNat-l.toNat) (n-l.toNat),L.kill b, ?_,S', ?_⟩
 ·simp [Instr.sliceAt,run_underlying (uz hn),hb,gJ h1,Instr.sureAddr]
 ·refine⟨_,_,(arr.toList.take (h'.toNat*1)).drop (l.toNat*1),by rw[hlen],hE2, ?_⟩
  rw[hlen]
  refine⟨by omega, ?_⟩
  rcases Nat.eq_zero_or_pos (h'.toNat-l.toNat) with hz|hz
  ·exact .inl hz
  ·right
   refine⟨g,l.toNat, ?_,.inr hg,arr,e0,(0,0),ha, ?_⟩
   ·rw[if_neg (by omega)];simp [Addr.add];omega
   ·simp only[Nat.mul_one]
    rw[List.drop_take]
    simp only[List.length_take,List.length_drop]
    congr 1
    omega
end
end Go.Pg
end
section
namespace Go.Pg
open Go
def nS(x0:V)(cs:List V):Option V :=
 match x0,cs with
 | .agg _,cs=>some (.agg cs)
 | x,[y]=>if x.one=true then some y else none
 | _,_=>none
def lq(P:Program)(s:St)(t:TypeId)(id k:Nat)(xs:List V)(i off:Nat)(x:V):Option St :=
 (xs[i]?).bind fun x0=>x0.cs.bind fun c0=>x.cs.bind fun l=>(nS x0 (c0.take off++l++c0.drop (off+l.length))).bind fun x1 =>
  if tsz P t=some l.length∧off+l.length≤c0.length∧l.all V.one=true∧x1.free=true then some (s.mapV (aF id k i x1)) else none
section
variable {P:Program} {C:Cx} {s:St} {L L':Lay} {a:Act} {w w':World}
theorem Ha{x0 x1:V}{cs:List V}{u0:Value}{us:List Value}(h:nS x0 cs=some x1)(h0:Rep L w x0 u0)(hr:Reps L w cs us)(hone:∀u∈us,u.oneCell'=true) :
  ∃u1:Value,u1.cells.toList=us∧Rep L w x1 u1:=by
 unfold nS at h
 split at h
 ·simp only[Option.some.injEq] at h
  subst h
  exact⟨.agg us.toArray,by simp [Value.cells],us.toArray,rfl,by simpa using hr⟩
 ·rename_i y hx
  simp only[Option.ite_none_right_eq_some,Option.some.injEq] at h
  obtain⟨_,rfl⟩:=h
  obtain⟨u,r,rfl,h2,h3⟩:=hr
  simp only[Reps] at h3
  subst h3
  have hu:=hone u (by simp)
  refine⟨u, ?_,h2⟩
  cases u<;>first|rfl|(simp [Value.oneCell'] at hu)
 ·cases h
theorem Ko{id k i g:Nat}{x1:V}{u1:Value}{arr arr':Array Value}{e:TypeId}(hg:L.own id=some g)(ha:w.heap[g]?=some (.cells arr e (0,0)))
  (hinj:∀j,L.own j=some g→j=id) (hnA:¬L.A g) (harr:arr'.size=arr.size) (hk:u1.cells.size=k)
  (harr':∀len,i<len→len*k≤arr.size→arr'.toList.take (len*k)=(arr.toList.take (len*k)).take (i*k)++u1.cells.toList++(arr.toList.take (len*k)).drop (i*k+k))
  (harr0:∀len,len≤i→arr'.toList.take (len*k)=arr.toList.take (len*k))
  (hx1:Rep L (w.setRow g arr') x1 u1) (hf:x1.free=true∧u1.cells.toList.all Value.oneCell'=true) {v:V} {u:Value} (h:Rep L w v u):Rep L (w.setRow g arr') (aF id k i x1 v) u:=by
 have K:Trans (Tag.is id) (fun _=>false) _root_.id _root_.id L L w (w.setRow g arr') :=
  ⟨rfl,fun g' h=>⟨h,.of (setRow_other w g g' arr' (fun e=>by subst e;exact hnA h))⟩,
   fun j e hj g' h=>⟨⟨rfl,h⟩,setRow_other w g g' arr' (fun e=>by subst e;have:=hinj j h;simp [Tag.is,this] at hj)⟩,fun _ _ g' h=>⟨h,.setRow ha harr g'⟩⟩
 unfold aF
 split
 ·rename_i j e' k' xs
  split
  ·rename_i hj
   subst hj
   split
   ·rename_i hkk
    subst hkk
    obtain⟨ad,cap,cells,rfl,h2,h3⟩:=h
    have h2':=h2.trans (p:=Tag.is j) (q:=fun _=>false) rfl K
    rcases h3 with ⟨h4,rfl,rfl⟩|⟨g',arr0,h4,rfl,h5,h6,h7,h8,h9⟩
    ·have hx0:xs=[]:=List.eq_nil_of_length_eq_zero h4
     subst hx0
     exact⟨none,0,cells,rfl,h2',.inl ⟨rfl,rfl,rfl⟩⟩
    ·rw[hg] at h4
     simp only[Option.some.injEq] at h4
     subst h4
     rw[ha] at h5
     simp only[Option.some.injEq,Obj.cells.injEq] at h5
     obtain⟨rfl,rfl,_⟩:=h5
     have hle:xs.length*k'≤arr.size:=by rw[h8];exact Nat.mul_le_mul_right _ h6
     by_cases hi:i<xs.length
     ·refine⟨some ⟨g,0,none⟩,cap,_,by simp,h2'.set hi hk hf hx1,.inr ⟨g,arr',hg,rfl,setRow_heap w g arr _ _ _ ha,by simpa using h6,h7,by rw[harr,h8], ?_⟩⟩
      rw[List.length_set,harr' xs.length hi hle,h9]
     ·rw[List.set_eq_of_length_le (by omega)]
      exact⟨some ⟨g,0,none⟩,cap,cells,rfl,h2',.inr ⟨g,arr',hg,rfl,setRow_heap w g arr _ _ _ ha,h6,h7,by rw[harr,h8],by rw[harr0 xs.length (by omega)];exact h9⟩⟩
   ·trivial
  ·rename_i hj
   have:=h.trans rfl K (by simp [V.any,Tag.is,hj])
   rwa [map_id.1] at this
 ·rename_i j e' k' xs i' off
  split
  ·rename_i hj
   subst hj
   split
   ·rename_i hkk
    subst hkk
    obtain⟨g0,o,cells,rfl,h2,h3⟩:=h
    have h2':=h2.trans (p:=Tag.is j) (q:=fun _=>false) rfl K
    obtain⟨h4,rfl,arr0,h5,h9⟩:=h3
    rw[hg] at h4
    simp only[Option.some.injEq] at h4
    subst h4
    rw[ha] at h5
    simp only[Option.some.injEq,Obj.cells.injEq] at h5
    obtain⟨rfl,rfl,_⟩:=h5
    have hcl:cells.length=xs.length*k':=h2.length
    have hle:xs.length*k'≤arr.size:=by
     have:=congrArg List.length h9
     rw[hcl,List.length_take] at this
     have e:arr.toList.length=arr.size:=Array.length_toList
     omega
    by_cases hi:i<xs.length
    ·have h7:=h2'.set hi hk hf hx1
     have h8:=h7.length
     refine⟨g,0,_,rfl,h7,hg,rfl,arr',setRow_heap w g arr _ _ _ ha, ?_⟩
     rw[h8,List.length_set,harr' xs.length hi hle,←hcl,h9]
    ·rw[List.set_eq_of_length_le (by omega)]
     exact⟨g,0,cells,rfl,h2',hg,rfl,arr',setRow_heap w g arr _ _ _ ha,by rw[hcl,harr0 xs.length (by omega),←hcl];exact h9⟩
   ·trivial
  ·rename_i hj
   have:=h.trans rfl K (by simp [V.any,Tag.is,hj])
   rwa [map_id.1] at this
 ·exact jR K h
theorem Uk(l u:List Value)(i k n:Nat)(hu:u.length=k)(hi:i+k≤n)(hn:n≤l.length) :
  (l.take i++u++l.drop (i+k)).take n=(l.take n).take i++u++(l.take n).drop (i+k):=by
 have e1:(l.take i++u).length=i+k:=by simp [hu];omega
 rw[List.take_append,List.take_of_length_le (by omega),e1,List.take_take,Nat.min_eq_left (by omega),List.drop_take]
theorem PO{t:TypeId}{id k i off:Nat}{e:TypeId}{xs:List V}{x:V}{u ux:Value}{s':St}(h:lq P s t id k xs i off x=some s')(S:Sim C s L a w)(hu:Rep L w (.el (.own id e) k xs i off) u)(hx:Rep L w x ux) :
  ∃w',(Instr.storeAt t u ux).run P w = .ok () w'∧Sim C s' L a w':=by
 simp only[lq,Option.bind_eq_some_iff,Option.ite_none_right_eq_some,Option.some.injEq] at h
 obtain⟨x0,hx0,c0,hc0,l,hl,x1,hx1,⟨h1,h2,h3,h4⟩,rfl⟩:=h
 obtain⟨g,o,cells,rfl,hr,hg,rfl,arr,ha,htake⟩:=hu
 obtain⟨u0,h5,h6,h7,h8⟩:=hr.get hx0
 have hcl:=hr.length
 have hi:i<xs.length:=(List.getElem?_eq_some_iff.1 hx0).1
 have hik:i*k+k≤xs.length*k:=by
  have:=Nat.mul_le_mul_right k (show i+1≤xs.length from hi)
  rwa [Nat.add_mul,Nat.one_mul] at this
 have hrl:=qh hx hl
 have hll:ux.cells.size=l.length:=by simpa using hrl.length
 have hr0:=qh h8 hc0
 have hc0l:u0.cells.size=c0.length:=by simpa using hr0.length
 have hal:xs.length*k≤arr.size:=by
  have:=congrArg List.length htake
  simp only[List.length_take,Array.length_toList] at this
  omega
 have hone:=vG hrl h3
 have hrun:=yH (P:=P) (w:=w) (t:=t) (g:=g) (o:=0+i*k+off) (v:=ux) (arr:=arr) (e:=e) (by rw[hll];exact h1) ha (by omega) hone
 obtain⟨hw1,hw2,hw3⟩:=S.wf.own id g hg
 let us1:List Value:=u0.cells.toList.take off++ux.cells.toList++u0.cells.toList.drop (off+l.length)
 have hus1:Reps L w (c0.take off++l++c0.drop (off+l.length)) us1:=((hr0.take off).append hrl).append (hr0.drop _)
 have hone1:∀u∈us1,u.oneCell'=true:=by
  intro v hv
  simp only[us1,List.mem_append] at hv
  rcases hv with (hv|hv)|hv
  ·exact List.all_eq_true.1 h7.2 v (List.mem_of_mem_take hv)
  ·exact hone v hv
  ·exact List.all_eq_true.1 h7.2 v (List.mem_of_mem_drop hv)
 obtain⟨u1,hu1,hru1⟩:=Ha hx1 h8 hus1 hone1
 have hu1k:u1.cells.size=k:=by
  have:u1.cells.toList.length=us1.length:=by rw[hu1]
  simp only[Array.length_toList,us1,List.length_append,List.length_take,List.length_drop,hll] at this
  omega
 have hu0:(arr.toList.drop (i*k)).take k=u0.cells.toList:=by
  rw[←h5,←htake,List.drop_take,List.take_take]
  congr 1
  rw[hcl]
  omega
 have hnew:arr.toList.take (0+i*k+off)++ux.cells.toList++arr.toList.drop (0+i*k+off+ux.cells.size)=arr.toList.take (i*k)++u1.cells.toList++arr.toList.drop (i*k+k):=by
  rw[hu1,hll]
  simp only[us1,Nat.zero_add]
  have e1:arr.toList.take (i*k+off)=arr.toList.take (i*k)++u0.cells.toList.take off:=by
   rw[List.take_add,←hu0,List.take_take,Nat.min_eq_left (by omega)]
  have e2:arr.toList.drop (i*k+off+l.length)=u0.cells.toList.drop (off+l.length)++arr.toList.drop (i*k+k):=by
   rw[←hu0]
   have:=List.take_append_drop (k-(off+l.length)) (arr.toList.drop (i*k+off+l.length))
   rw[←this,List.drop_drop,List.drop_take,List.drop_drop]
   congr 2
   ·congr 1;omega
   ·omega
  rw[e1,e2]
  simp [List.append_assoc]
 rw[hnew] at hrun
 let arr':Array Value:=(arr.toList.take (i*k)++u1.cells.toList++arr.toList.drop (i*k+k)).toArray
 have harr:arr'.size=arr.size:=by simp [arr',hu1k];omega
 have hfree:x1.free=true∧u1.cells.toList.all Value.oneCell'=true:=⟨h4,by rw[hu1];exact List.all_eq_true.2 hone1⟩
 have K0:Trans (Tag.is id) (fun _=>false) _root_.id _root_.id L L w (w.setRow g arr') :=
  ⟨rfl,fun g' h=>⟨h,.of (setRow_other w g g' arr' (fun e=>by subst e;exact hw3 h))⟩,
   fun j e hj g' h=>⟨⟨rfl,h⟩,setRow_other w g g' arr' (fun e=>by subst e;have:=S.wf.injO j id _ h hg;simp [Tag.is,this] at hj)⟩,fun b _ g' h=>⟨h,.of (setRow_other w g g' arr' (fun e=>by subst e;exact S.wf.dis id b _ hg h))⟩⟩
 have hru1':Rep L (w.setRow g arr') x1 u1:=by
  have:=hru1.trans rfl K0 (V.free.any h4 (Tag.is id) (fun _=>false) rfl false)
  rwa [map_id.1] at this
 refine⟨_,hrun,S.mapV (nid:=s.nid) (fun v u h=>Ko (arr:=arr) (arr':=arr') hg ha (fun j hj=>S.wf.injO j id g hj hg) hw3 harr hu1k ?_ ?_ hru1' hfree h)
  (fun b g' h=>⟨h,setRow_other w g g' _ (fun e=>by subst e;exact S.wf.dis id b _ hg h)⟩) (S.wf.mono (Nat.le_refl _) (by simp)) (Kp.setRow _ hw2)⟩
 ·intro len hlen hle
  have:=Nat.mul_le_mul_right k (show i+1≤len from hlen)
  rw[Nat.add_mul,Nat.one_mul] at this
  simp only[arr']
  exact Uk _ _ _ _ _ (by simpa using hu1k) this (by simpa using hle)
 ·intro len hlen
  have:=Nat.mul_le_mul_right k hlen
  simp only[arr']
  rw[List.append_assoc,List.take_append,List.take_take,Nat.min_eq_left this]
  have:len*k-(arr.toList.take (i*k)).length=0:=by simp;omega
  rw[this]
  simp
theorem He(w:World)(g o n:Nat)(arr:Array Value)(e:TypeId)(fr:Nat × Nat)(hg:w.heap[g]?=some (.cells arr e fr)):∃fr',(w.freeze ⟨g,o,none⟩ n).heap[g]?=some (.cells arr e fr'):=by
 simp only[World.freeze]
 split
 ·exact⟨fr,hg⟩
 ·simp only[Array.getElem?_modify,if_true,hg,Option.map_some]
  exact⟨_,rfl⟩
theorem jH(w:World)(g o n k:Nat)(h:k≠g):(w.freeze ⟨g,o,none⟩ n).heap[k]?=w.heap[k]?:=by
 simp only[World.freeze]
 split
 ·rfl
 ·simp only[Array.getElem?_modify]
  rw[if_neg (by omega)]
theorem Em(w:World)(g o n:Nat):(w.freeze ⟨g,o,none⟩ n).heap.size=w.heap.size:=by
 simp only[World.freeze]
 split<;>simp
theorem Eo(w:World)(g o n:Nat):(w.freeze ⟨g,o,none⟩ n).os=w.os∧(w.freeze ⟨g,o,none⟩ n).tape=w.tape∧(w.freeze ⟨g,o,none⟩ n).output=w.output:=by
 simp only[World.freeze]
 split<;>exact⟨rfl,rfl,rfl⟩
theorem CW(w:World)(g o n:Nat):(w.freeze ⟨g,o,none⟩ n).drawn=w.drawn:=by
 simp only[World.freeze]
 split<;>rfl
theorem Sim.freezeW(S:Sim C s L a w){id g:Nat}(n o:Nat){arr:Array Value}{e:TypeId}(h4:L.own id=some g)(h5:w.heap[g]?=some (.cells arr e (0,0))) :
  Sim C (s.mapV (frz id)) (L.freeze id) a (w.freeze ⟨g,o,none⟩ n):=by
 obtain⟨S',hψ⟩:=S.freeze id
 have hW:=S.wf.own id g h4
 have hA:(L.freeze id).A g := .inr h4
 have hO:∀i,(L.freeze id).own i≠some g:=fun i h=>(S'.wf.own i g h).2.2 hA
 obtain⟨fr,hfr⟩:=He w g o n arr e (0,0) h5
 have K:o7 (L.freeze id) (L.freeze id) w (w.freeze ⟨g,o,none⟩ n):=by
  refine⟨rfl,fun g' h=>⟨h, ?_⟩,fun j e _ g' h=>⟨⟨rfl,h⟩,jH w _ _ _ g' (fun e=>by subst e;exact hO j h)⟩,fun b _ g' h=>⟨h,.of (jH w _ _ _ g' (fun e=>by subst e;exact (S'.wf.boxW b _ h).2.2 hA))⟩⟩
  by_cases hg:g'=g
  ·subst hg
   intro arr' e'' fr' h'
   rw[h5] at h'
   simp only[Option.some.injEq,Obj.cells.injEq] at h'
   obtain⟨rfl,rfl,_⟩:=h'
   exact⟨fr,hfr⟩
  ·exact .of (jH w _ _ _ g' hg)
 have hsz:(w.freeze ⟨g,o,none⟩ n).heap.size=w.heap.size:=Em w _ _ _
 obtain⟨ho,ht,hp⟩:=Eo w g o n
 refine⟨S'.defers,S'.size,fun t=>(S'.env t).whole K,fun t=>(S'.hid t).whole K, ?_,S'.wf.mono (Nat.le_refl _) (by rw[hsz];exact Nat.le_refl _),S'.kp.trans ⟨ho,ht,hp,by rw[hsz];exact Nat.le_refl _, ?_,by rw[CW];exact Nat.le_refl _⟩⟩
 ·intro b cs hb
  obtain⟨g',arr',h7,h8,h9⟩:=S'.box b cs hb
  exact⟨g',arr',h7,(jH w _ _ _ g' (fun e=>by subst e;exact (S'.wf.boxW b _ h7).2.2 hA)).trans h8,h9.whole K⟩
 ·intro k' hk' hW'
  exact jH w _ _ _ k' (fun e=>by subst e;exact hW.2.1.elim (fun h=>by omega) hW')
def u8L:List V→Option (List UInt8)
 | []=>some []
 | .c (.int .u8 n)::r=>if 0≤n∧n<256 then (u8L r).map (UInt8.ofNat n.toNat::·) else none
 | _=>none
theorem PP{xs:List V}{l:List UInt8}{cells:List Value}(h:u8L xs=some l)(r:RepE L w 1 xs cells):cells=Lib.byteCells l:=by
 induction xs generalizing l cells with
 | nil=>simp [u8L] at h;subst h;simpa [RepE,Lib.byteCells] using r
 | cons x xs ih =>
  unfold u8L at h
  split at h
  ·rename_i heq;cases heq
  ·rename_i n r' heq
   simp only[List.cons.injEq] at heq
   obtain⟨rfl,rfl⟩:=heq
   simp only[Option.ite_none_right_eq_some,Option.map_eq_some_iff] at h
   obtain⟨⟨h0,h1⟩,l',h2,rfl⟩:=h
   obtain⟨u,rest,rfl,_,_,h4,h5⟩:=r
   simp only[Rep] at h4
   subst h4
   rw[ih h2 h5]
   have:((UInt8.ofNat n.toNat).toNat:Int)=n:=by
    rw[UInt8.toNat_ofNat']
    omega
   simp only[Lib.byteCells,Value.cells,List.map_cons,this]
   rfl
  ·cases h
theorem ZA{xs:List V}{l:List UInt8}(h:u8L xs=some l):l.length=xs.length:=by
 induction xs generalizing l with
 | nil=>simp [u8L] at h;subst h;rfl
 | cons x xs ih =>
  unfold u8L at h
  split at h
  ·rename_i heq;cases heq
  ·rename_i n r' heq
   simp only[List.cons.injEq] at heq
   obtain⟨rfl,rfl⟩:=heq
   simp only[Option.ite_none_right_eq_some,Option.map_eq_some_iff] at h
   obtain⟨_,l',h2,rfl⟩:=h
   simp [ih h2]
  ·cases h
def sdV(x:V):Option V :=
 match x with
 | .sl t k (y::ys)=>some (.el t k (y::ys) 0 0)
 | .c (.slice none 0 0)=>some (.c (.pointer none))
 | _=>none
theorem ZB{x r:V}{u:Value}(h:sdV x=some r)(rx:Rep L w x u)(ts:Array TypeId)(ty:TypeId):∃v,(Builtin.unsafeSliceData_ ts ty #[u]).run P w = .ok v w∧Rep L w r v:=by
 unfold sdV at h
 split at h
 ·rename_i t k y ys
  simp only[Option.some.injEq] at h
  subst h
  obtain⟨ad,cap,cells,rfl,h2,h3⟩:=rx
  obtain⟨g,o,rfl,h4⟩:=h3.el (by simp) h2.length
  have hc:cap≠0:=by have:=h3.le;simp at this;omega
  exact⟨_,Lib.run_unsafeSliceData_row w ts ty _ _ _ hc,g,o,cells,by simp,h2,h4⟩
 ·simp only[Option.some.injEq] at h
  subst h
  simp only[Rep] at rx
  subst rx
  exact⟨_,Lib.run_unsafeSliceData_nil w ts ty 0 0,rfl⟩
 ·cases h
def rC(P:Program)(t:TypeId):Option TypeId:=match P.underlying t with|some (.pointer e)=>some e|_=>none
theorem PQ{t e:TypeId}(h:rC P t=some e):P.underlying t=some (.pointer e):=by
 unfold rC at h;split at h<;>simp_all
def usV(P:Program)(s:St)(pt:TypeId)(x n:V):Option (V × St) :=
 match x,n with
 | .el (.own id e) 1 xs 0 0,.c (.int .i64 m)=>(u8L xs).bind fun l=>if rC P pt=some e∧P.cellsOf e=1∧m=xs.length∧xs.length≠0∧xs.length≤9223372036854775807 then some (.c (.string ⟨l.toArray⟩),s.mapV (frz id)) else none
 | .c (.pointer none),.c (.int .i64 0)=>some (.c (.string ⟨#[]⟩),s)
 | _,_=>none
theorem adi{pt it ty:TypeId}{x n r:V}{ux un:Value}{s':St}(h:usV P s pt x n=some (r,s'))(S:Sim C s L a w)(hx:Rep L w x ux)(hn:Rep L w n un) :
  ∃u w' L',(Builtin.unsafeString_ #[pt,it] ty #[ux,un]).run P w = .ok u w'∧Sim C s' L' a w'∧Rep L' w' r u:=by
 unfold usV at h
 split at h
 ·rename_i id e xs m
  simp only[Option.bind_eq_some_iff,Option.ite_none_right_eq_some,Option.some.injEq,Prod.mk.injEq] at h
  obtain⟨l,hl,⟨hp,hc,rfl,h0,h63⟩,rfl,rfl⟩:=h
  simp only[Rep] at hn;subst hn
  obtain⟨g,o,cells,rfl,h2,hg,rfl,arr,h5,h6⟩:=hx
  have hll:=ZA hl
  have hcells:=PP hl h2
  subst hcells
  have hle:l.length≤arr.size:=by
   have:=congrArg List.length h6
   simp only[List.length_take,Array.length_toList,Lib.byteCells_length] at this
   omega
  have hrun:=Lib.run_unsafeString_row (P:=P) w pt it ty e (PQ hp) hc g arr.size (by simp [World.shape?,h5]) l (by intro hh;subst hh;simp at hll;exact h0 hll.symm) hle (by omega) (by
   intro j x hj
   rw[dS]
   have hrow:Row w g 0 (Lib.byteCells l):=⟨arr,e,(0,0),h5,by rw[List.drop_zero];exact h6⟩
   exact hrow.cell (by simp [Lib.byteCells,hj]))
  rw[hll] at hrun
  exact⟨_,_,_,by simpa using hrun,S.freezeW _ _ hg h5,rfl⟩
 ·simp only[Option.some.injEq,Prod.mk.injEq] at h
  obtain⟨rfl,rfl⟩:=h
  simp only[Rep] at hx hn
  subst hx;subst hn
  exact⟨_,_,_,Lib.run_unsafeString_none w pt it ty none,S,rfl⟩
 ·cases h
end
end Go.Pg
end
