/-
  Merged texts.
-/
import Derived.Laws.MakeOwn
import Derived.Test.YtopbmdnbdpjheaaGreatWAA
import Derived.MapKept
set_option linter.all false
set_option linter.unusedVariables false
set_option linter.unusedSimpArgs false
set_option linter.unusedSectionVars false
set_option linter.defProp false
set_option maxRecDepth 100000
set_option maxHeartbeats 8000000
section
namespace Go.Pg
open Go
def zelem(P:Program)(e:TypeId):Option V:=(lV P e).bind fun z=>if z.cells.toList.all Value.oneCell'=true then some (jd z)else none
def aa1(p:Tag->Bool)(q:Nat->Bool)(tp:Bool)(l:List Value):V.anyL p q tp (l.map .c)=false:=by induction l<;>grind[V.anyL,V.any]
theorem UE(v:Value):(jd v).free=true:=by cases v<;>simp[jd,V.free,V.any,aa1]
theorem Tc(z:Array Value)(n:Nat):((Array.range (n*z.size)).map (z[·%z.size]!)).toList=(List.replicate n z.toList).flatten:=by
 induction n with
 |zero=>simp[Array.range_zero']
 |succ n i =>
  have e:(Array.range ((n+1)*z.size)).toList=List.range (n*z.size)++(List.range z.size).map (n*z.size+·):=by simp only[Array.toList_range];rw[nK,Nat.one_mul,List.range_add]
  simp only[Rj,Array.toList_range]at i⊢;simp only[Array.toList_range]at e;rw[e,nJ,i,List.replicate_succ',aas];congr 1;simp only[zA,List.flatten_cons,List.flatten_nil,gV];apply IW;intro j;by_cases hj:j<z.size
  .simp[hj,Md hj]
  .simp[hj]
section
variable {P:Program} {C:Cx} {s:St} {L L':Lay} {a:Act} {w w':World}
theorem Yv{v:V}{z:Value}(n:Nat)(h:Rep L w v z)(hf:v.free=true)(h1:z.cells.toList.all Value.oneCell'=true) :
  RepE L w z.cells.size (List.replicate n v) (List.replicate n z.cells.toList).flatten:=by
 induction n with
 |zero=>rfl
 |succ n i =>exact⟨z,_,rfl,rfl,⟨hf,h1⟩,h,i⟩
theorem Xg{e:TypeId}{k cap:Nat}{xs:List V}{arr:Array Value}(S:Sim C s L a w)(c:arr.size=cap*k)(d:xs.length<=cap)(hm:cap<=maxLen)(f:RepE L w k xs (arr.toList.take (xs.length*k))) :
  ∃L',Sim C {s with nid:=s.nid+1} L' a (w.alloc (.cells arr e))/\Rep L' (w.alloc (.cells arr e)) (.sl (.own s.nid e) k xs) (.slice (some ⟨w.heap.size,0,none⟩) xs.length cap):=by
 have G:=Grow.alloc w (.cells arr e)
 have E:=S.wf.leOwn (s:=s) w.heap.size
 refine⟨L.addOwn s.nid w.heap.size,S.grow G E rfl (fun b cs h=>.inl h) (S.wf.addOwn S.hB Aa),_,_,_,rfl,f.trans (p:=fun _=>false) (q:=fun _=>false) rfl (S.wf.whole G E),?_⟩
 exact .inr ⟨w.heap.size,arr,by simp[Lay.addOwn,upd],rfl,heap_alloc_new w _,d,hm,c,rfl⟩
def yO(P:Program)(s:St)(t:TypeId)(l c:V):Option (V×St) :=
 match l,c with
 | .c (.int _ n),.c (.int _ m)=>(elemT P t).bind fun e=>(tapp P e).bind fun(k,bytes)=>(zelem P e).bind fun z =>if 0<=n/\n<=m/\(bytes:Int)*m<=281474976710656/\m<=9223372036854775807 then some (.sl (.own s.nid e) k (List.replicate n.toNat z),{s with nid:=s.nid+1})else none
 |_,_=>none
theorem aar{e:TypeId}{v:V}(h:zelem P e=some v):∃z,lV P e=some z/\v=jd z/\z.cells.toList.all Value.oneCell'=true:=by grind[zelem,Option.bind_eq_some_iff]
theorem alM{t:TypeId}{l c r:V}{G F:Value}{s':St}(h:yO P s t l c=some (r,s'))(S:Sim C s L a w)(hl:Rep L w l G)(x:Rep L w c F) :
  ∃u w' L',(Instr.makeSlice t G F).run P w = .ok u w'/\Sim C s' L' a w'/\Rep L' w' r u:=by
 unfold yO at h
 split at h
 .rename_i kl n kc m;simp[bg]at h;obtain⟨e,he,k,bytes,hk,v,hv,⟨I,h1,h2,h3⟩,rfl,rfl⟩:=h;obtain⟨i,z,hi,E,g,j,rfl,y⟩:=pW hk;obtain⟨b,q,rfl,p⟩:=aar hv;have:b=z:=by simp[lV,hi,E]at q;exact q.symm
  subst this;simp[Rep]at hl x;subst x;have A:=run_make (P:=P) w t e i b (iw he) hi E kl kc n m I h1 h2 h3;have d:(madeCells b.cells (m.toNat*i.size)).toList=(List.replicate m.toNat b.cells.toList).flatten:=by rw[j,<-g];exact Tc b.cells m.toNat
  have f:((List.replicate m.toNat b.cells.toList).flatten).take (n.toNat*k)=(List.replicate n.toNat b.cells.toList).flatten:=by
   have H:m.toNat=n.toNat+(m.toNat-n.toNat):=Om;rw[H,<-List.replicate_append_replicate];have hl:((List.replicate n.toNat b.cells.toList).flatten).length=n.toNat*k:=by simp[g]
   grind
  obtain⟨L',h4,h5⟩:=Xg (e:=e) (k:=k) (cap:=m.toNat) (xs:=List.replicate n.toNat (jd b)) (arr:=madeCells b.cells (m.toNat*i.size)) S
   (by rw[size_madeCells,j]) (by simp;omega) (by simp[maxLen];omega)
   (by rw[d,List.length_replicate,f,<-g];exact Yv _ (Iu L w b) (UE b) p)
  grind
 .cases h
def bsTag(len id:Nat)(e:TypeId):Tag:=match len with|0=>.nn|_+1=>.own id e
def setAll(k:Nat)(xs:List V):List (Nat×V)->Option (List V)
 |[]=>some xs
 |(i,v)::r =>
  match v.cs with
  |some l=>if l.length=k/\v.free=true/\l.all V.one=true/\i<xs.length then setAll k (xs.set i v) r else none
  |none=>none
def qp(P:Program)(s:St)(t:TypeId)(len:Nat)(parts:List (Nat×V)):Option (V×St) :=
 (elemT P t).bind fun e=>(tapp P e).bind fun(k,_)=>(zelem P e).bind fun z=>(setAll k (List.replicate len z) parts).bind fun xs =>
  if len*k<=16777216 then some (.sl (bsTag len s.nid e) k xs,{s with nid:=s.nid+1})else none
theorem aq8{k:Nat}(sv:Operand->V)(se:Operand->Value)(t:∀x,Rep L w (sv x) (se x)):∀(parts:List (Nat×Operand)) (xs r:List V) (a:Array Value),
  setAll k xs (parts.map fun p=>(p.1,sv p.2))=some r->RepE L w k xs a.toList ->
  ∃q,Instr.fill (fun i=>some (i*k,k)) a (parts.map fun p=>(p.1,se p.2))=some q/\RepE L w k r q.toList/\r.length=xs.length:=by
 intro parts
 induction parts with
 |nil =>intro xs r a h f;simp[setAll]at h;subst h;exact⟨a,rfl,f,rfl⟩
 |cons p n y =>
  intro xs r a h f;obtain⟨i,x⟩:=p;have hv:=t x;simp only[dm,setAll]at h⊢;generalize sv x=v at hv h;generalize se x=u at hv⊢;split at h
  .rename_i l j;simp only[dh]at h;obtain⟨⟨h1,h2,h3,h4⟩,h⟩:=h;have d:=xE hv j;have c:=d.length;have g:=f.length;simp at c g;have m:i*k+k<=xs.length*k:=by have:=vY k (show i+1<=xs.length from h4);grind
   have b:=NQ u.cells.toList 0 (i*k) a (by simp;omega);simp only[iQ,c,h1]at b;have s:RepE L w k (xs.set i v) (u.cells.zipIdx.foldl (fun cs (x:Value×Nat)=>cs.setIfInBounds (i*k+x.2) x.1) a).toList:=by rw[<-Array.foldl_toList,Array.toList_zipIdx,b];exact f.set h4 Om ⟨h2,lM.2 (KQ d h3)⟩ hv
   simp[Instr.fill];grind
  .cases h
theorem MS{t:TypeId}{len:Nat}{parts:Array (Nat×Operand)}{e:TypeId}{k bytes:Nat}{v:V}{xs:List V}(m:∀x,Rep L w (s.ev x) (a.eval x))(he:elemT P t=some e)(hk:tapp P e=some (k,bytes))(hv:zelem P e=some v)
  (hxs:setAll k (List.replicate len v) (parts.toList.map fun p=>(p.1,s.ev p.2))=some xs) (y:len*k<=16777216) :
  ∃u,(Instr.buildSlice t len (parts.map fun(i,x)=>(i,a.eval x))).run P w = .ok (.slice (some ⟨w.heap.size,0,none⟩) len len) (w.alloc (.cells u e))/\u.size=len*k/\xs.length=len/\RepE L w k xs u.toList/\len<=maxLen:=by
 obtain⟨i,z,hi,C,E,n,_,d⟩:=pW hk
 obtain⟨g,c,rfl,r⟩:=aar hv
 have:g=z:=by simp[lV,hi,C]at c;exact c.symm
 have f:tsz P e=some k:=by simp[tsz,hi,n]
 have b:RepE L w k (List.replicate len (jd g)) ((Array.range (len*k)).map (g.cells[·%g.cells.size]!)).toList:=by grind[Tc,Yv,Iu,UE]
 obtain⟨u,h1,h2,h3⟩:=aq8 s.ev a.eval m parts.toList _ xs _ hxs b
 rw[List.length_replicate]at h3
 have q:u.size=len*k:=by have:=h2.length;simpa[h3]using this
 refine⟨u,?_,q,h3,h2,?_⟩
 .have h:¬len*k > 2^24:=Om;by_cases j:len*k=0
  .have A:len=0:=by grind[Nat.mul_eq_zero]
   have l:Instr.fill (fun i=>some (i*k,k)) ((Array.range 0).map fun x=>(#[]:Array Value)[x%(#[]:Array Value).size]!) (parts.toList.map fun p=>(p.1,a.eval p.2))=some u:=by grind
   simp only[Instr.buildSlice,Sem.run_bind,run_underlying (iw he),Result.andThen_ok,mF f];rw[ag h,ah j];simp only[Sem.run_bind,Sem.run_pure,Result.andThen_ok,Rj,j];simp only[l];simp[newRow]
  .simp[Instr.buildSlice,Sem.run_bind,run_underlying (iw he),Result.andThen_ok,mF f];rw[ag h,ag j];simp[Sem.run_bind,DF c];simp[h1];simp[newRow]
 .have:len<=len*k:=Nat.le_mul_of_pos_right len d;simp[maxLen];omega
theorem adn{t:TypeId}{len:Nat}{parts:Array (Nat×Operand)}{r:V}{s':St}(S:Sim C s L a w)(h:qp P s t len (parts.toList.map fun p=>(p.1,s.ev p.2))=some (r,s')) :
  ∃u w' L',(Instr.buildSlice t len (parts.map fun(i,x)=>(i,a.eval x))).run P w = .ok u w'/\Sim C s' L' a w'/\Rep L' w' r u:=by
 simp only[qp,bg,uD,dh]at h
 obtain⟨e,he,k,bytes,hk,v,hv,xs,hxs,c,rfl,rfl⟩:=h
 obtain⟨d,h1,b,h3,h2,hm⟩:=MS S.ev he hk hv hxs c
 obtain⟨L',h4,h5⟩:=Xg (e:=e) (k:=k) (cap:=len) (xs:=xs) (arr:=d) S b Om hm (by rw[h3,<-b,<-iQ,gB];exact h2)
 rw[h3]at h5
 refine⟨_,_,L',h1,h4,?_⟩
 cases len with
 |zero =>have hx:xs=[]:=kJ h3;subst hx;exact⟨_,0,[],rfl,rfl,rfl,rfl,rfl⟩
 |succ n=>exact h5
def zf(P:Program)(s:St)(t:TypeId)(id k:Nat)(xs:List V)(lo hi:Option V):Option (V×St) :=
 (slV P t (.sl .fz k xs) lo hi).map fun r=>(r,s.mapV (frz id))
theorem ar2{t e:TypeId}{id k:Nat}{xs:List V}{r:V}{g:Value}{s':St}{lo hi:Option Operand}(h:zf P s t id k xs (lo.map s.ev) (hi.map s.ev)=some (r,s'))(S:Sim C s L a w)(hx:Rep L w (.sl (.own id e) k xs) g)
  (d:∀x,lo=some x->∃u,s.ev x = .c u) (c:∀x,hi=some x->∃u,s.ev x = .c u) :
  ∃u L',(Instr.sliceAt t g (lo.map a.eval) (hi.map a.eval) none).run P w = .ok u w/\Sim C s' L' a w/\Rep L' w r u:=by
 simp[zf]at h
 obtain⟨r',j,rfl,rfl⟩:=h
 obtain⟨m,l⟩:=S.freeze id
 have b:=l _ _ hx
 have i:frz id (.sl (.own id e) k xs) = .sl .fz k xs:=by simp[frz,V.map,Tag.is]
 rw[i]at b
 have bd:∀(o:Option Operand),(∀x,o=some x->∃u,s.ev x = .c u)->o.map s.ev=none/\o.map a.eval=none\/∃v u,o.map s.ev=some v/\o.map a.eval=some u/\Rep (L.freeze id) w v u:=by
  intro o ho
  cases o with
  |none=>exact .inl ⟨rfl,rfl⟩
  |some x =>obtain⟨u,f⟩:=ho x rfl;have:=S.ev x;rw[f]at this;exact .inr ⟨_,_,rfl,rfl,by rw[f];exact this⟩
 obtain⟨u,h1,h2⟩:=Y1 j b (bd lo d) (bd hi c)
 grind
def vP(P:Program)(src d:TypeId)(x:V):Option V :=
 match x with
 | .c (.string z)=>if iU P src=true/\(elemT P d).bind (kS P)=some .u8 then some (.sl .fz 1 (uI z))else none
 |_=>none
theorem UF(w:World)(g n:Nat)(arr:Array Value)(e:TypeId)(fr:Nat×Nat)(hg:w.heap[g]?=some (.cells arr e fr)):∃f,(w.freeze ⟨g,n,none⟩ 1).heap[g]?=some (.cells arr e f):=by simp[World.freeze];grind
theorem EH(w:World)(g n k:Nat)(h:k≠g):(w.freeze ⟨g,n,none⟩ 1).heap[k]?=w.heap[k]?:=by simp[World.freeze];grind
theorem NS(w:World)(g n:Nat):(w.freeze ⟨g,n,none⟩ 1).heap.size=w.heap.size:=by simp only[World.freeze];grind
theorem auc{src d:TypeId}{x r:V}{t:Value}(h:vP P src d x=some r)(S:Sim C s L a w)(hx:Rep L w x t) :
  ∃u w' L',(convert src d t).run P w = .ok u w'/\Sim C s L' a w'/\Rep L' w' r u:=by
 unfold vP at h
 split at h
 .rename_i z;simp[dh,bg,aO]at h;obtain⟨⟨y,e,he,h1⟩,rfl⟩:=h;simp[Rep]at hx;subst hx;have f:=grownCap_ge w z.size 0 e;let arr:Array Value:=z.data.map (fun b=>Value.int .u8 b.toNat)++Array.replicate (grownCap w z.size 0 e-z.size) (.int .u8 0)
  have p:arr.toList.take z.size=byteCells z:=by
   have:(z.data.map (fun b=>Value.int .u8 b.toNat)).toList=byteCells z:=by simp[byteCells]
   rw[<-byteCells_length z];grind
  let c:World:=w.drew.alloc (.cells arr e);have q:c.heap[w.heap.size]?=some (.cells arr e (0,0)):=heap_alloc_new w.drew _;have g:Grow w c:=Grow.drewAlloc w _;let n:World:=c.freeze ⟨w.heap.size,arr.size,none⟩ 1;have G:Grow w n:=⟨rfl,rfl,rfl,by rw[NS];exact g.size,fun k hk=>(EH c _ _ k Om).trans (g.block k hk),g.drawn⟩;have E:=Lay.leA L w.heap.size;have m:w.heap.size<n.heap.size:=by rw[NS];simp[c]
  obtain⟨fr,i⟩:=UF c w.heap.size arr.size arr e (0,0) q;refine⟨.slice (some ⟨w.heap.size,0,none⟩) z.size (grownCap w z.size 0 e),n,L.addA w.heap.size,?_,S.grow G E rfl (fun b cs h=>.inl h) (S.wf.addA S.hB m),some ⟨w.heap.size,0,none⟩,grownCap w z.size 0 e,byteCells z,by simp[uI],SL z,?_⟩
  .have l:c.shape? w.heap.size=some (e,arr.size):=by simp[World.shape?,q]
   simp[convert,Sem.run_bind,run_underlying (yM y),run_underlying (iw he),run_underlying (CV h1),Result.andThen_ok,Conv.stringToBytes,run_choose_drew];have j:(Question.appendCap z.size 0 e).forced=false:=rfl;rw[j];simp only[oq,if_false,Result.andThen_ok,newRow,Sem.run_bind,run_newObj_alloc,Sem.run_pure,markStringish,run_shape];have v:((w.drew.alloc (.cells (z.data.map (fun b=>Value.int .u8 b.toNat)++Array.replicate ((Question.appendCap z.size 0 e).cut (w.tape w.drawn (.appendCap z.size 0 e))-z.size) (.int .u8 0)) e)).shape? w.drew.heap.size)=some (e,arr.size):=l;rw[v];rfl
  .refine⟨by simpa[uI]using f,.inr ⟨w.heap.size,0,rfl,.inr rfl,arr,e,fr,i,?_⟩⟩;grind
 .cases h
def rP(P:Program)(s:St)(src d:TypeId)(x:V):Option (V×St) :=
 match x with
 | .sl (.own id _) k xs=>if src=d/\(elemT P d).bind (kS P)=some .u8/\0<xs.length then some (.sl .fz k xs,s.mapV (frz id))else none
 |_=>none
theorem aqZ{src f:TypeId}{x r:V}{v:Value}{s':St}(h:rP P s src f x=some (r,s'))(S:Sim C s L a w)(hx:Rep L w x v) :
  ∃u w' L',(convert src f v).run P w = .ok u w'/\Sim C s' L' a w'/\Rep L' w' r u:=by
 unfold rP at h
 split at h
 .rename_i id e' k xs;simp[dh,bg]at h;obtain⟨⟨rfl,⟨e,he,h1⟩,q⟩,rfl,rfl⟩:=h;obtain⟨c,I⟩:=S.freeze id;have m:=I _ _ hx;have A:frz id (.sl (.own id e') k xs) = .sl .fz k xs:=by simp[frz,V.map,Tag.is]
  rw[A]at m;obtain⟨ad,cap,cells,rfl,h2,h3⟩:=hx;rcases h3 with⟨h4,_⟩|⟨g,arr,h4,rfl,h5,_⟩
  .omega
  .have M:=S.wf.own id g h4;have hA:(L.freeze id).A g:=.inr h4;have G:∀i,(L.freeze id).own i≠some g:=fun i h=>(c.wf.own i g h).2.2 hA
   obtain⟨fr,H⟩:=UF w g arr.size arr e' (0,0) h5
   have K:qN (L.freeze id) (L.freeze id) w (w.freeze ⟨g,arr.size,none⟩ 1):=by
    refine⟨rfl,fun d h=>⟨h,?_⟩,fun j e _ d h=>⟨⟨rfl,h⟩,EH w _ _ d (fun e=>by subst e;exact G j h)⟩,fun b _ d h=>⟨h,.of (EH w _ _ d (fun e=>by subst e;exact(c.wf.boxW b _ h).2.2 hA))⟩⟩;by_cases hg:d=g
    .intro arr' y E J;grind
    .exact .of (EH w _ _ d hg)
   have l:(w.freeze ⟨g,arr.size,none⟩ 1).heap.size=w.heap.size:=NS w _ _;refine⟨.slice (some ⟨g,0,none⟩) xs.length cap,w.freeze ⟨g,arr.size,none⟩ 1,L.freeze id,?_,⟨c.defers,c.size,fun t=>(c.env t).whole K,fun t=>(c.hid t).whole K,?_,c.wf.mono (az _) (by rw[l];exact az _),c.kp.trans ⟨rfl,rfl,rfl,by rw[l];exact az _,?_,az _⟩⟩,m.whole K⟩
   .have n:w.shape? g=some (e',arr.size):=by simp[World.shape?,h5]
    simp[convert,run_underlying (iw he),run_underlying (CV h1),markStringish,n]
   .intro b cs hb;exact(c.box b cs hb).keep rfl rfl (fun d p=>⟨p,EH w _ _ d (fun e=>by subst e;exact(c.wf.boxW b _ p).2.2 hA)⟩) (fun _ F=>F.whole K)
   .grind[EH]
 .cases h
def gY(b:Nat)(v:V):V:=if v.any (fun _=>false) (fun j=>j == b) false then .top else v
def Lay.kill(L:Lay)(b:Nat):Lay:={L with A:=fun g=>L.A g\/L.box b=some g,box:=fun j=>if j=b then none else L.box j}
theorem Sim.kill(S:Sim C s L a w)(b:Nat):Sim C {(s.mapV (gY b))with bx:=upd (fun j=>(s.bx j).map fun x=>(x.1,x.2.map (gY b))) b none} (L.kill b) a w:=by
 have W:=S.wf
 have K:Trans (fun _=>false) (fun j=>j == b) _root_.id _root_.id L (L.kill b) w w:=by
  refine⟨rfl,fun g h=>⟨.inl h,.of rfl⟩,fun j e _ g h=>⟨⟨rfl,h⟩,rfl⟩,fun j hj g h => ?_⟩;have:j≠b:=by simpa using hj
  simp[Lay.kill,id_eq,ag this];exact⟨h,.of rfl⟩
 have d:∀v u,Rep L w v u->Rep (L.kill b) w (gY b v) u:=by
  intro v u h;unfold gY;split
  .trivial
  .rename_i hv;have:=h.trans rfl K (by simpa using hv);rwa [map_id.1]at this
 refine⟨S.defers,S.size,fun t=>d _ _ (S.env t),fun t=>d _ _ (S.hid t),?_,?_,S.kp⟩
 .intro j cs h;simp only[upd]at h;split at h
  .cases h
  .rename_i hj;simp only[bF]at h;obtain⟨l,hl,rfl⟩:=h;exact(S.box j l hl).keep rfl (aj ..) (fun g h1=>⟨by simp[Lay.kill,ag hj];exact h1,rfl⟩) (fun _ h3=>Bf d h3)
 .exact{
   nidO:=W.nidO
   nidB:=fun j g h=>by
    simp only[Lay.kill]at h
    split at h
    .cases h
    .exact W.nidB j g h
   own:=fun j g h=>by
    obtain⟨h1,h2,h3⟩:=W.own j g h
    exact⟨h1,h2,fun c=>c.elim h3 (fun c=>W.dis j b g h c)⟩
   boxW:=fun j g h=>by
    simp only[Lay.kill]at h
    split at h
    .cases h
    .rename_i hj
     obtain⟨h1,h2,h3⟩:=W.boxW j g h
     exact⟨h1,h2,fun c=>c.elim h3 (fun c=>hj (W.injB j b g h c))⟩
   injO:=W.injO
   injB:=fun i j g h c=>by
    simp only[Lay.kill]at h c
    split at h
    .cases h
    .split at c
     .cases c
     .exact W.injB i j g h c
   dis:=fun i j g h c=>by
    simp only[Lay.kill]at c
    split at c
    .cases c
    .exact W.dis i j g h c
   old:=fun g h=>h.elim (W.old g) (fun h=>(W.boxW b g h).1)
   frz:=fun g h=>h.elim (W.frz g) (fun h=>.inr (W.boxW b g h).2.1)}
theorem ap8{L:Lay}{w:World}{l:List V}{us:List Value}(h:Reps L w l us)(h1:l.all (fun v=>v.free&&v.one)=true):RepE L w 1 l us:=by
 induction l generalizing us with
 |nil=>exact h
 |cons x xs i =>
  obtain⟨u,r,rfl,h2,h3⟩:=h;simp only[List.all_cons,lL]at h1;have ho:=Yx h2 h1.1.2;have a:u.cells=#[u]:=by cases u<;>first|rfl|(simp[Value.oneCell']at ho)
  exact⟨u,r,by simp[a],by simp[a],⟨h1.1.1,by simp[a,ho]⟩,h2,i h3 h1.2⟩
def Lh(P:Program)(s:St)(t:TypeId)(b off:Nat)(lo hi:Option V):Option (V×St) :=
 (s.bx b).bind fun y=>(sH P t).bind fun(n,e)=>(bdV lo 0).bind fun l=>(bdV hi n).bind fun h =>
  if off=0/\tsz P e=some 1/\y.2.length=n/\y.2.all (fun v=>v.free&&v.one)=true/\0<=l/\l<=h/\h<=n then
   some (.sl .fz 1 ((y.2.take h.toNat).drop l.toNat),{(s.mapV (gY b))with bx:=upd (fun j=>(s.bx j).map fun x=>(x.1,x.2.map (gY b))) b none})else none
theorem arW{t:TypeId}{b off:Nat}{r:V}{m:Value}{s':St}{lo hi:Option Operand}(h:Lh P s t b off (lo.map s.ev) (hi.map s.ev)=some (r,s'))(S:Sim C s L a w)(hx:Rep L w (.ref b off) m)
  (J:lo.map s.ev=none/\lo.map a.eval=none\/∃v u,lo.map s.ev=some v/\lo.map a.eval=some u/\Rep L w v u) (I:hi.map s.ev=none/\hi.map a.eval=none\/∃v u,hi.map s.ev=some v/\hi.map a.eval=some u/\Rep L w v u) :
  ∃u L',(Instr.sliceAt t m (lo.map a.eval) (hi.map a.eval) none).run P w = .ok u w/\Sim C s' L' a w/\Rep L' w r u:=by
 simp only[Lh,bg,uD,dh]at h
 obtain⟨q,cs,k,n,e,F,l,hl,c,E,⟨rfl,h1,h2,h3,h4,h5,x⟩,rfl,rfl⟩:=h
 obtain⟨g,⟨hg,A⟩,rfl⟩:=hx
 obtain⟨arr,ha,G⟩:=(S.box b _ k).cells hg A
 have p:=S.kill b
 have hb:=Ea (P:=P) (w:=w) (isS:=false) (len:=n) (az _) (sJ hl J) (sJ E I) h4 h5 x
 have y:=ap8 G h3
 have K:Trans (fun _=>false) (fun j=>j == b) _root_.id _root_.id L (L.kill b) w w:=by
  refine⟨rfl,fun g h=>⟨.inl h,.of rfl⟩,fun j e _ g h=>⟨⟨rfl,h⟩,rfl⟩,fun j hj g h => ?_⟩;have:j≠b:=by simpa using hj
  simp[Lay.kill,id_eq,ag this];exact⟨h,.of rfl⟩
 have i:=RepE.trans rfl K y
 have d:=(i.take c.toNat).drop l.toNat
 simp only[uA]at d
 rw[qj (show c.toNat*1<=cs.length by omega)]at d
 have f:((cs.take c.toNat).drop l.toNat).length=c.toNat-l.toNat:=by simp;omega
 refine⟨.slice (some (if n=l.toNat then(⟨g,0,none⟩:Addr)else(⟨g,0,none⟩:Addr).add (l.toNat*1))) (c.toNat-l.toNat) (n-l.toNat),L.kill b,?_,p,?_⟩
 .simp[Instr.sliceAt,run_underlying (MK F),hb,mF h1,Instr.sureAddr]
 .refine⟨_,_,(arr.toList.take (c.toNat*1)).drop (l.toNat*1),by rw[f],d,?_⟩;refine⟨by omega,?_⟩;rcases gG (c.toNat-l.toNat)with H|H
  .omega
  .right;refine⟨g,l.toNat,?_,.inr hg,arr,q,(0,0),ha,?_⟩
   .rw[ag (by omega)];simp[Addr.add];omega
   .rw[sD];grind
end
end Go.Pg
end
section
namespace Go.Pg
open Go
def Be(a:V)(cs:List V):Option V :=
 match a,cs with
 | .agg _,cs=>some (.agg cs)
 |x,[y]=>if x.one=true then some y else none
 |_,_=>none
def rV(P:Program)(s:St)(t:TypeId)(id k:Nat)(xs:List V)(i off:Nat)(x:V):Option St :=
 (xs[i]?).bind fun a=>a.cs.bind fun c=>x.cs.bind fun l=>(Be a (c.take off++l++c.drop (off+l.length))).bind fun x1 =>
  if tsz P t=some l.length/\off+l.length<=c.length/\l.all V.one=true/\x1.free=true then some (s.mapV (aY id k i x1))else none
section
variable {P:Program} {C:Cx} {s:St} {L L':Lay} {a:Act} {w w':World}
theorem apS{x x1:V}{cs:List V}{f:Value}{us:List Value}(h:Be x cs=some x1)(g:Rep L w x f)(b:Reps L w cs us)(a:∀u∈us,u.oneCell'=true) :
  ∃c:Value,c.cells.toList=us/\Rep L w x1 c:=by
 unfold Be at h
 split at h
 .simp at h;subst h;exact⟨.agg us.toArray,by simp[Value.cells],us.toArray,rfl,by simpa using b⟩
 .simp at h;obtain⟨_,rfl⟩:=h;obtain⟨u,r,rfl,h2,h3⟩:=b;subst h3;have d:=a u Aa;refine⟨u,?_,h2⟩;cases u<;>first|rfl|(simp[Value.oneCell']at d)
 .cases h
theorem arp{id k i g:Nat}{x1:V}{E:Value}{arr arr':Array Value}{e:TypeId}(hg:L.own id=some g)(ha:w.heap[g]?=some (.cells arr e (0,0)))
  (y:∀j,L.own j=some g->j=id) (G:¬L.A g) (b:arr'.size=arr.size) (hk:E.cells.size=k)
  (c:∀len,i<len->len*k<=arr.size->arr'.toList.take (len*k)=(arr.toList.take (len*k)).take (i*k)++E.cells.toList++(arr.toList.take (len*k)).drop (i*k+k))
  (d:∀len,len<=i->arr'.toList.take (len*k)=arr.toList.take (len*k))
  (A:Rep L (w.setRow g arr') x1 E) (hf:x1.free=true/\E.cells.toList.all Value.oneCell'=true) {v:V} {u:Value} (h:Rep L w v u):Rep L (w.setRow g arr') (aY id k i x1 v) u:=by
 have K:Trans (Tag.is id) (fun _=>false) _root_.id _root_.id L L w (w.setRow g arr') :=
  ⟨rfl,fun n h=>⟨h,.of (setRow_other w g n arr' (fun e=>by subst e;exact G h))⟩,
   fun j e hj n h=>⟨⟨rfl,h⟩,setRow_other w g n arr' (fun e=>by subst e;have:=y j h;simp[Tag.is,this]at hj)⟩,fun _ _ n h=>⟨h,.setRow ha b n⟩⟩
 unfold aY
 split
 .rename_i j e' C xs;split
  .rename_i hj;subst hj;split
   .rename_i l;subst l;obtain⟨ad,cap,cells,rfl,h2,h3⟩:=h;have a:=h2.trans (p:=Tag.is j) (q:=fun _=>false) rfl K;rcases h3 with⟨h4,rfl,rfl⟩|⟨n,r,h4,rfl,h5,F,s,t,x⟩
    .have H:xs=[]:=kJ h4;subst H;exact⟨none,0,cells,rfl,a,.inl ⟨rfl,rfl,rfl⟩⟩
    .rw[hg]at h4;simp only[aO]at h4;subst h4;rw[ha]at h5;simp only[aO,Obj.cells.injEq]at h5;obtain⟨rfl,rfl,_⟩:=h5;have m:xs.length*C<=arr.size:=by rw[t];exact vY _ F
     by_cases hi:i<xs.length
     .refine⟨some ⟨g,0,none⟩,cap,_,by simp,a.set hi hk hf A,.inr ⟨g,arr',hg,rfl,setRow_heap w g arr _ _ _ ha,by simpa using F,s,by rw[b,t],?_⟩⟩;rw[nI,c xs.length hi m,x]
     .rw[L9 Om];exact⟨some ⟨g,0,none⟩,cap,cells,rfl,a,.inr ⟨g,arr',hg,rfl,setRow_heap w g arr _ _ _ ha,F,s,by rw[b,t],by rw[d xs.length Om];exact x⟩⟩
   .trivial
  .rename_i hj;have:=h.trans rfl K (by simp[V.any,Tag.is,hj]);rwa [map_id.1]at this
 .rename_i j e' C xs J off;split
  .rename_i hj;subst hj;split
   .rename_i l;subst l;obtain⟨I,o,cells,rfl,h2,h3⟩:=h;have a:=h2.trans (p:=Tag.is j) (q:=fun _=>false) rfl K;obtain⟨h4,rfl,r,h5,x⟩:=h3;rw[hg]at h4;simp only[aO]at h4;subst h4;rw[ha]at h5;simp only[aO,Obj.cells.injEq]at h5;obtain⟨rfl,rfl,_⟩:=h5;have f:cells.length=xs.length*C:=h2.length;have m:xs.length*C<=arr.size:=by grind
    by_cases hi:i<xs.length
    .have s:=a.set hi hk hf A;have t:=s.length;refine⟨g,0,_,rfl,s,hg,rfl,arr',setRow_heap w g arr _ _ _ ha,?_⟩;rw[t,nI,c xs.length hi m,<-f,x]
    .rw[L9 Om];exact⟨g,0,cells,rfl,a,hg,rfl,arr',setRow_heap w g arr _ _ _ ha,by rw[f,d xs.length Om,<-f];exact x⟩
   .trivial
  .rename_i hj;have:=h.trans rfl K (by simp[V.any,Tag.is,hj]);rwa [map_id.1]at this
 .exact Io K h
theorem aq3(l u:List Value)(i k n:Nat)(h:u.length=k)(hi:i+k<=n)(b:n<=l.length) :
  (l.take i++u++l.drop (i+k)).take n=(l.take n).take i++u++(l.take n).drop (i+k):=by
 have a:(l.take i++u).length=i+k:=by simp[h];omega
 grind[List.take_append,List.take_of_length_le,List.drop_take]
theorem atY{t:TypeId}{id k i off:Nat}{e:TypeId}{xs:List V}{x:V}{u G:Value}{s':St}(h:rV P s t id k xs i off x=some s')(S:Sim C s L a w)(hu:Rep L w (.el (.own id e) k xs i off) u)(hx:Rep L w x G) :
  ∃w',(Instr.storeAt t u G).run P w = .ok () w'/\Sim C s' L a w':=by
 simp only[rV,bg,dh,aO]at h
 obtain⟨x0,T,U,W,l,hl,x1,hx1,⟨h1,h2,h3,h4⟩,rfl⟩:=h
 obtain⟨g,o,cells,rfl,hr,hg,rfl,arr,ha,Y⟩:=hu
 obtain⟨H,h5,h6,h7,h8⟩:=hr.get T
 have hcl:=hr.length
 have hi:i<xs.length:=(qK.1 T).1
 have hik:i*k+k<=xs.length*k:=by have:=vY k (show i+1<=xs.length from hi);rwa [nK,Nat.one_mul]at this
 have A:=xE hx hl
 have r:G.cells.size=l.length:=by simpa using A.length
 have y:=xE h8 W
 have hc0l:H.cells.size=U.length:=by simpa using y.length
 have hal:xs.length*k<=arr.size:=by grind
 have M:=KQ A h3
 have n:=YO (P:=P) (w:=w) (t:=t) (g:=g) (o:=0+i*k+off) (v:=G) (arr:=arr) (e:=e) (by rw[r];exact h1) ha (by omega) M
 obtain⟨hw1,hw2,R⟩:=S.wf.own id g hg
 let m:List Value:=H.cells.toList.take off++G.cells.toList++H.cells.toList.drop (off+l.length)
 have Q:Reps L w (U.take off++l++U.drop (off+l.length)) m:=((y.take off).append A).append (y.drop _)
 have d:∀u∈m,u.oneCell'=true:=by grind
 obtain⟨I,F,N⟩:=apS hx1 h8 Q d
 have f:I.cells.size=k:=by
  have:I.cells.toList.length=m.length:=by rw[F]
  simp only[iQ,m,aN,bI,eH,r]at this;omega
 have Z:(arr.toList.drop (i*k)).take k=H.cells.toList:=by grind[List.drop_take]
 have K:arr.toList.take (0+i*k+off)++G.cells.toList++arr.toList.drop (0+i*k+off+G.cells.size)=arr.toList.take (i*k)++I.cells.toList++arr.toList.drop (i*k+k):=by
  rw[F,r];simp only[m,nM];have e1:arr.toList.take (i*k+off)=arr.toList.take (i*k)++H.cells.toList.take off:=by rw[List.take_add,<-Z,uA,qj (by omega)]
  have e2:arr.toList.drop (i*k+off+l.length)=H.cells.toList.drop (off+l.length)++arr.toList.drop (i*k+k):=by grind[List.take_append_drop,List.drop_drop,List.drop_take]
  rw[e1,e2];simp[bZ]
 rw[K]at n
 let arr':Array Value:=(arr.toList.take (i*k)++I.cells.toList++arr.toList.drop (i*k+k)).toArray
 have J:arr'.size=arr.size:=by simp[arr',f];omega
 have q:x1.free=true/\I.cells.toList.all Value.oneCell'=true:=⟨h4,by rw[F];exact lM.2 d⟩
 have K0:Trans (Tag.is id) (fun _=>false) _root_.id _root_.id L L w (w.setRow g arr') :=
  ⟨rfl,fun p h=>⟨h,.of (setRow_other w g p arr' (fun e=>by subst e;exact R h))⟩,
   fun j e hj p h=>⟨⟨rfl,h⟩,setRow_other w g p arr' (fun e=>by subst e;have:=S.wf.injO j id _ h hg;simp[Tag.is,this]at hj)⟩,fun b _ p h=>⟨h,.of (setRow_other w g p arr' (fun e=>by subst e;exact S.wf.dis id b _ hg h))⟩⟩
 have E:Rep L (w.setRow g arr') x1 I:=by have:=N.trans rfl K0 (V.free.any h4 (Tag.is id) (fun _=>false) rfl false);rwa [map_id.1]at this
 refine⟨_,n,S.mapV (nid:=s.nid) (fun v u h=>arp (arr:=arr) (arr':=arr') hg ha (fun j hj=>S.wf.injO j id g hj hg) R J f ?_ ?_ E q h)
  (fun b p h=>⟨h,setRow_other w g p _ (fun e=>by subst e;exact S.wf.dis id b _ hg h)⟩) (S.wf.mono (az _) (by simp)) (Kp.setRow _ hw2)⟩
 .intro len c X;have:=vY k (show i+1<=len from c);rw[nK,Nat.one_mul]at this;simp only[arr'];exact aq3 _ _ _ _ _ (by simpa using f) this (by simpa using X)
 .intro len c;have:=vY k c;simp only[arr'];rw[bZ,Gt,uA,qj this];have:len*k-(arr.toList.take (i*k)).length=0:=by simp;omega
  rw[this];simp
theorem agB(w:World)(g o n:Nat)(arr:Array Value)(e:TypeId)(fr:Nat×Nat)(hg:w.heap[g]?=some (.cells arr e fr)):∃f,(w.freeze ⟨g,o,none⟩ n).heap[g]?=some (.cells arr e f):=by simp[World.freeze];grind
theorem G8(w:World)(g o n k:Nat)(h:k≠g):(w.freeze ⟨g,o,none⟩ n).heap[k]?=w.heap[k]?:=by simp[World.freeze];grind
theorem agC(w:World)(g o n:Nat):(w.freeze ⟨g,o,none⟩ n).heap.size=w.heap.size:=by simp[World.freeze];split<;>simp
theorem agA(w:World)(g o n:Nat):(w.freeze ⟨g,o,none⟩ n).os=w.os/\(w.freeze ⟨g,o,none⟩ n).tape=w.tape/\(w.freeze ⟨g,o,none⟩ n).output=w.output:=by simp[World.freeze];grind
theorem agz(w:World)(g o n:Nat):(w.freeze ⟨g,o,none⟩ n).drawn=w.drawn:=by simp[World.freeze];split<;>rfl
theorem Sim.freezeW(S:Sim C s L a w){id g:Nat}(n o:Nat){arr:Array Value}{e:TypeId}(h4:L.own id=some g)(h5:w.heap[g]?=some (.cells arr e (0,0))) :
  Sim C (s.mapV (frz id)) (L.freeze id) a (w.freeze ⟨g,o,none⟩ n):=by
 obtain⟨c,y⟩:=S.freeze id
 have x:=S.wf.own id g h4
 have hA:(L.freeze id).A g:=.inr h4
 have q:∀i,(L.freeze id).own i≠some g:=fun i h=>(c.wf.own i g h).2.2 hA
 obtain⟨fr,r⟩:=agB w g o n arr e (0,0) h5
 have K:qN (L.freeze id) (L.freeze id) w (w.freeze ⟨g,o,none⟩ n):=by
  refine⟨rfl,fun d h=>⟨h,?_⟩,fun j e _ d h=>⟨⟨rfl,h⟩,G8 w _ _ _ d (fun e=>by subst e;exact q j h)⟩,fun b _ d h=>⟨h,.of (G8 w _ _ _ d (fun e=>by subst e;exact(c.wf.boxW b _ h).2.2 hA))⟩⟩;by_cases hg:d=g
  .intro arr' l m v;grind
  .exact .of (G8 w _ _ _ d hg)
 have f:(w.freeze ⟨g,o,none⟩ n).heap.size=w.heap.size:=agC w _ _ _
 obtain⟨ho,u,hp⟩:=agA w g o n
 refine⟨c.defers,c.size,fun t=>(c.env t).whole K,fun t=>(c.hid t).whole K,?_,c.wf.mono (az _) (by rw[f];exact az _),c.kp.trans ⟨ho,u,hp,by rw[f];exact az _,?_,by rw[agz];exact az _⟩⟩
 .intro b cs hb;exact(c.box b cs hb).keep rfl rfl (fun d k=>⟨k,G8 w _ _ _ d (fun e=>by subst e;exact(c.wf.boxW b _ k).2.2 hA)⟩) (fun _ p=>p.whole K)
 .grind[G8]
def u8L:List V->Option (List UInt8)
 |[]=>some []
 | .c (.int .u8 n)::r=>if 0<=n/\n<256 then(u8L r).map (UInt8.ofNat n.toNat::·)else none
 |_=>none
theorem auF{xs:List V}{l:List UInt8}{cells:List Value}(h:u8L xs=some l)(r:RepE L w 1 xs cells):cells=Lib.byteCells l:=by
 induction xs generalizing l cells with
 |nil=>simp[u8L]at h;subst h;simpa[RepE,Lib.byteCells]using r
 |cons x xs i =>
  unfold u8L at h;split at h
  .grind
  .rename_i n r' a;obtain⟨rfl,rfl⟩:=a;simp at h;obtain⟨⟨c,h1⟩,d,h2,rfl⟩:=h;obtain⟨u,b,rfl,_,_,h4,h5⟩:=r;subst h4;rw[i h2 h5];have:((UInt8.ofNat n.toNat).toNat:Int)=n:=by rw[UInt8.toNat_ofNat'];omega
   simp only[Lib.byteCells,dm,this];rfl
  .cases h
theorem auG{xs:List V}{l:List UInt8}(h:u8L xs=some l):l.length=xs.length:=by
 induction xs generalizing l with
 |nil=>simp[u8L]at h;subst h;rfl
 |cons x xs i =>
  unfold u8L at h;split at h
  .grind
  .simp at h;grind
  .cases h
def sdV(x:V):Option V :=
 match x with
 | .sl t k (y::ys)=>some (.el t k (y::ys) 0 0)
 | .c (.slice none 0 0)=>some (.c (.pointer none))
 |_=>none
theorem aq1{x r:V}{u:Value}(h:sdV x=some r)(a:Rep L w x u)(ts:Array TypeId)(ty:TypeId):∃v,(Builtin.unsafeSliceData_ ts ty #[u]).run P w = .ok v w/\Rep L w r v:=by
 unfold sdV at h;split at h
 .simp at h;subst h;obtain⟨ad,cap,cells,rfl,h2,h3⟩:=a;obtain⟨g,o,rfl,h4⟩:=h3.el Aa h2.length;have b:cap≠0:=by have:=h3.le;simp at this;omega
  exact⟨_,Lib.run_unsafeSliceData_row w ts ty _ _ _ b,g,o,cells,by simp,h2,h4⟩
 .simp at h;subst h;subst a;exact⟨_,Lib.run_unsafeSliceData_nil w ts ty 0 0,rfl⟩
 .cases h
def nY(P:Program)(t:TypeId):Option TypeId:=match P.underlying t with|some (.pointer e)=>some e|_=>none
theorem apu{t e:TypeId}(h:nY P t=some e):P.underlying t=some (.pointer e):=by grind[nY]
def usV(P:Program)(s:St)(p:TypeId)(x n:V):Option (V×St) :=
 match x,n with
 | .el (.own id e) 1 xs 0 0,.c (.int .i64 m)=>(u8L xs).bind fun l=>if nY P p=some e/\P.cellsOf e=1/\m=xs.length/\xs.length≠0/\xs.length<=9223372036854775807 then some (.c (.string ⟨l.toArray⟩),s.mapV (frz id))else none
 | .c (.pointer none),.c (.int .i64 0)=>some (.c (.string ⟨#[]⟩),s)
 |_,_=>none
theorem auW{p it ty:TypeId}{x n r:V}{t un:Value}{s':St}(h:usV P s p x n=some (r,s'))(S:Sim C s L a w)(hx:Rep L w x t)(k:Rep L w n un) :
  ∃u w' L',(Builtin.unsafeString_ #[p,it] ty #[t,un]).run P w = .ok u w'/\Sim C s' L' a w'/\Rep L' w' r u:=by
 unfold usV at h
 split at h
 .rename_i id e xs m;simp only[bg,dh]at h;obtain⟨l,hl,⟨hp,A,rfl,v,y⟩,rfl,rfl⟩:=h;simp[Rep]at k;subst k;obtain⟨g,o,cells,rfl,h2,hg,rfl,arr,h5,q⟩:=hx;have d:=auG hl;have b:=auF hl h2;subst b;have i:l.length<=arr.size:=by have:=mV List.length q;simp[Lib.byteCells_length]at this;omega
  have c:=Lib.run_unsafeString_row (P:=P) w p it ty e (apu hp) A g arr.size (by simp[World.shape?,h5]) l (by intro E;subst E;exact v d.symm) i Om (by intro j x hj;rw[jO];have f:Row w g 0 (Lib.byteCells l):=⟨arr,e,(0,0),h5,by exact q⟩;exact f.cell (by simp[Lib.byteCells,hj]));rw[d]at c;exact⟨_,_,_,by simpa using c,S.freezeW _ _ hg h5,rfl⟩
 .obtain⟨rfl,rfl⟩:=h;subst hx;subst k;exact⟨_,_,_,Lib.run_unsafeString_none w p it ty none,S,rfl⟩
 .cases h
end
end Go.Pg
end
section
namespace Go.Pg
open Go
def ny(P:Program)(t:TypeId):Option (TypeId×TypeId):=match P.underlying t with|some (.map k e)=>some (k,e)|_=>none
def J5{P:Program}{t k e:TypeId}(h:ny P t=some (k,e)):P.underlying t=some (.map k e):=by grind[ny]
abbrev Me:=Value×V×Nat
def mpF:List Me->List V
 |[]=>[]
 |(k,v,b)::r=>.c k::v :: .c (.int .i64 b)::mpF r
def mpC(clk:Nat)(ps:List Me):List V:=.c (.int .i64 clk) :: .c (.int .i64 ps.length)::mpF ps
def mpP:List V->Option (List Me)
 |[]=>some []
 | .c k::v :: .c (.int .i64 b)::r=>if 0<=b then(mpP r).map ((k,v,b.toNat)::·)else none
 |_=>none
theorem O4:∀ps:List Me,mpP (mpF ps)=some ps
 |[]=>rfl
 |(k,v,b)::r=>by show(if(0:Int)<=b then(mpP (mpF r)).map ((k,v,(b:Int).toNat)::·)else none)=_;rw[O4 r];simp
theorem WY:∀{l:List V} {ps:List Me},mpP l=some ps->l=mpF ps
 |[],ps,h=>by simp[mpP]at h;subst h;rfl
 | .c k::v :: .c (.int .i64 b)::r,ps,h=>by simp[mpP]at h;obtain⟨c,q,a,rfl⟩:=h;rw[WY a];grind[mpF]
def mpQ:List V->Option (Nat×List Me)
 | .c (.int .i64 clk) :: .c (.int .i64 m)::r=>if 0<=clk then(mpP r).bind fun ps=>if m=ps.length then some (clk.toNat,ps)else none else none
 |_=>none
def tH(clk:Nat)(ps:List Me):mpQ (mpC clk ps)=some (clk,ps):=by show(if(0:Int)<=clk then(mpP (mpF ps)).bind fun q=>if(ps.length:Int)=q.length then some ((clk:Int).toNat,q)else none else none)=_;grind[O4]
def WX{l:List V}{clk:Nat}{ps:List Me}(h:mpQ l=some (clk,ps)):l=mpC clk ps:=by unfold mpQ at h;grind[WY,mpC,Option.bind_eq_some_iff]
def WZ:∀ps:List Me,(mpF ps).length=3*ps.length
 |[]=>rfl
 |(k,v,b)::r=>by simp[mpF,WZ r];omega
def rJ(P:Program)(t:TypeId)(v:Value):Bool :=
 match P.underlying t,v with
 |some (.int _),.int _ _=>true
 |some .string,.string _=>true
 |_,_=>false
def qY:Value->Value->Option Bool
 | .int k a,.int c b=>if k=c then some (a == b)else none
 | .string a,.string b=>some (a == b)
 |_,_=>none
def mIx:List Me->Value->Nat->Option (Option (Nat×V))
 |[],_,_=>some none
 |(a,v,_)::r,k,i=>match qY k a with
  |some true=>some (some (i,v))
  |some false=>mIx r k (i+1)
  |none=>none
def yN(ps:List Me)(clk:Nat)(k:Value)(x:V):Option (Nat×List Me):=(mIx ps k 0).map fun r=>match r with
 |some (i,_)=>(clk,ps.modify i fun e=>(k,x,e.2.2))
 |none=>(clk+1,ps++[(k,x,clk)])
def OX(ps:List Me)(k:Value):Option (List Me):=(mIx ps k 0).map fun r=>match r with
 |some (i,_)=>ps.eraseIdx i
 |none=>ps
section
variable {P:Program} {C:Cx} {s:St} {L:Lay} {a:Act} {w:World}
def EntR(L:Lay)(w:World):List MapEntry->List Me->Prop
 |[],[]=>True
 |e::a,p::ps=>(e.key=p.1/\Rep L w p.2.1 e.val/\e.born=p.2.2)/\EntR L w a ps
 |_,_=>False
theorem TY:∀{a:List MapEntry} {ps:List Me},Reps L w (mpF ps) (CE a)->EntR L w a ps
 |[],[],_=>trivial
 |e::a,(k,v,b)::ps,h=>by obtain⟨u,r,h1,h2,i,f,h3,h4,j,g,h5,c,d⟩:=h;obtain⟨rfl,rfl⟩:=h1;obtain⟨rfl,rfl⟩:=h3;obtain⟨rfl,rfl⟩:=h5;simp[Rep]at h2 c;exact⟨⟨h2,h4,by show e.born=b;omega⟩,TY d⟩
theorem TZ:∀{a:List MapEntry} {ps:List Me},EntR L w a ps->Reps L w (mpF ps) (CE a)
 |[],[],_=>rfl
 |e::a,(k,v,b)::ps,h=>by obtain⟨⟨h1,h2,h3⟩,h4⟩:=h;exact⟨_,_,rfl,h1,_,_,rfl,h2,_,_,rfl,by show _=_;rw[h3],TZ h4⟩
theorem EntR.len:∀{a:List MapEntry} {ps:List Me},EntR L w a ps->a.length=ps.length
 |[],[],_=>rfl
 |_::_,_::_,h=>mV (·+1) (EntR.len h.2)
theorem EntR.mono{L':Lay}{w':World}(hK:∀v u,Rep L w v u->Rep L' w' v u):∀{a:List MapEntry} {ps:List Me},EntR L w a ps->EntR L' w' a ps
 |[],[],_=>trivial
 |_::_,_::_,⟨⟨h1,h2,h3⟩,h4⟩=>⟨⟨h1,hK _ _ h2,h3⟩,EntR.mono hK h4⟩
theorem EntR.app:∀{b a:List MapEntry} {ps p:List Me},EntR L w b ps->EntR L w a p->EntR L w (b++a) (ps++p)
 |[],_,[],_,_,h=>h
 |_::_,_,_::_,_,⟨h1,h2⟩,h=>⟨h1,EntR.app h2 h⟩
theorem EntR.modify{f:MapEntry->MapEntry}{g:Me->Me}(hf:∀e p,e.key=p.1->e.born=p.2.2->(f e).key=(g p).1/\Rep L w (g p).2.1 (f e).val/\(f e).born=(g p).2.2):∀{a:List MapEntry} {ps:List Me} (i:Nat),EntR L w a ps->EntR L w (a.modify i f) (ps.modify i g)
 |[],[],i,_=>by cases i<;>exact ae
 |e::a,p::ps,0,⟨h1,h2⟩=>by exact⟨hf e p h1.1 h1.2.2,h2⟩
 |e::a,p::ps,i+1,⟨h1,h2⟩=>by exact⟨h1,EntR.modify hf i h2⟩
theorem EntR.erase:∀{a:List MapEntry} {ps:List Me} (i:Nat),EntR L w a ps->EntR L w (a.eraseIdx i) (ps.eraseIdx i)
 |[],[],i,_=>by cases i<;>exact ae
 |_::_,_::_,0,h=>h.2
 |_::_,_::_,i+1,⟨h1,h2⟩=>⟨h1,EntR.erase i h2⟩
theorem EntR.key:∀{c:List MapEntry} {ps:List Me} {k:Value} {d:TypeDesc} (i:Nat) {r:Option (Nat×V)},EntR L w c ps->mIx ps k i=some r->(∀a b,qY k a=some b->Instr.sameNow d k a=some b) ->
  match r with
  |some (j,v)=>i<=j/\j-i<ps.length/\(∃u,Instr.findNow d k c i=some (some (j,u))/\Rep L w v u)/\∃e,c[j-i]?=some e/\qY k e.key=some true
  |none=>Instr.findNow d k c i=some none
 |[],[],k,d,i,r,_,h,_=>by simp[mIx,aO]at h;subst h;rfl
 |e::c,(a,v,b)::ps,k,d,i,r,⟨⟨h1,h2,h3⟩,h4⟩,h,hd=>by
  unfold mIx at h;split at h
  .unfold Instr.findNow;grind
  .have l:=EntR.key (i+1) h4 h hd;cases r with
   |none =>unfold Instr.findNow;grind
   |some q =>
    obtain⟨m,i2,⟨u,n,f⟩,e',p,g⟩:=l;refine⟨by omega,by simp;omega,⟨u,?_,f⟩,e',?_,g⟩
    .unfold Instr.findNow;grind
    .grind
  .cases h
theorem Ph{t:TypeId}{k:Value}(h:rJ P t k=true):∃d,P.underlying t=some d/\(∀a b,qY k a=some b->Instr.sameNow d k a=some b)/\(∀n g,(Instr.checkKey g (n+1) t k).run P w = .ok () w):=by
 unfold rJ at h;split at h
 .rename_i i j n f;refine⟨_,f,fun a b c => ?_,fun n g => ?_⟩
  .cases a<;>simp only[qY,reduceCtorEq]at c
   exact c
  .unfold Instr.checkKey;simp only[Sem.run_bind,run_underlying f];rfl
 .rename_i b f;refine⟨_,f,fun a b c => ?_,fun n g => ?_⟩
  .cases a<;>simp only[qY,reduceCtorEq]at c
   exact c
  .unfold Instr.checkKey;simp only[Sem.run_bind,run_underlying f];rfl
 .cases h
theorem BoxOk.map{b g:Nat}{x:TypeId×List V}{clk:Nat}{ps:List Me}(h:BoxOk L w b x)(hg:L.box b=some g)(k:mpQ x.2=some (clk,ps))(hm:MapAt w g false):∃a:Array MapEntry,w.heap[g]?=some (.map a clk)/\EntR L w a.toList ps:=by
 obtain⟨q,o,l,h1,⟨h2,h3⟩,h4⟩:=h;obtain⟨a,c,h5⟩:=hm;rw[hg]at h1;cases h1
 rw[h5]at h2;cases h2
 have h3:l = .int .i64 c :: .int .i64 a.size::CE a.toList:=h3;rw[WX k]at h4
 have j:∀l:List MapEntry,(CE l).length=3*l.length:=fun l=>by
  induction l with
  |nil=>rfl
  |cons e l r=>show(CE l).length+3=_;rw[dB];omega
 have d:(mpC clk ps).length=3*ps.length+2:=by unfold mpC;simp[dB,WZ]
 obtain⟨u,s,m,f,v,t,n,i,p⟩:=h4;simp[Rep]at f i;grind[TY]
def C9(P:Program)(s:St)(t:TypeId):Option (V×St):=(ny P t).map fun _=>(.mh false s.nid,{s with bx:=upd s.bx s.nid (some (t,mpC 0 [])),nid:=s.nid+1})
theorem amn{t:TypeId}{r:V}{s':St}(h:C9 P s t=some (r,s'))(S:Sim C s L a w):∃u w' L',(Instr.makeMap t none).run P w = .ok u w'/\Sim C s' L' a w'/\Rep L' w' r u:=by
 simp only[C9,bF]at h;obtain⟨_,_,rfl,rfl⟩:=h;have c:(w.alloc (.map #[] 0)).heap[w.heap.size]?=some (.map #[] 0):=heap_alloc_new w _;have G:Grow w (w.alloc (.map #[] 0)):=⟨rfl,rfl,rfl,by simp,fun k hk=>RowKit.Below.heap_alloc _ _ _ Om,az _⟩;have E:=S.wf.leBox (s:=s) w.heap.size;refine⟨_,w.alloc (.map #[] 0),L.addBox s.nid w.heap.size,rfl,S.grow G E rfl ?_ (S.wf.addBox S.hB Aa),w.heap.size,⟨by simp[Lay.addBox,upd],_,_,c⟩,rfl⟩;intro b cs h;simp[upd]at h;split at h
 .rename_i hb;subst hb;simp at h;subst h;exact .inr ⟨w.heap.size,_,_,by simp[Lay.addBox,upd],⟨c,rfl⟩,⟨_,_,rfl,rfl,_,_,rfl,rfl,rfl⟩⟩
 .exact .inl h
def AA:Option (Nat×V)->Value->V
 |some x,_=>x.2
 |none,z=>jd z
def atM(P:Program)(t:TypeId)(q:Nat×List Me)(key:V)(ok:Bool):Option V:=(ny P t).bind fun p=>match key with
 | .c k=>if rJ P p.1 k=true then(mIx q.2 k 0).bind fun r=>(lV P p.2).map fun z=>bif ok then .tup [AA r z,.c (.bool r.isSome)]else AA r z else none
 |_=>none
def lkB(P:Program)(s:St)(t:TypeId)(b:Nat)(key:V)(ok:Bool):Option V:=(s.bx b).bind fun x=>(mpQ x.2).bind fun q=>atM P t q key ok
theorem Wu{t:TypeId}{b:Nat}{key r:V}{v l:Value}{ok:Bool}(h:lkB P s t b key ok=some r)(S:Sim C s L a w)(hx:Rep L w (.mh false b) v)(q:Rep L w key l):∃u,(Instr.lookup t v l ok).run P w = .ok u w/\Rep L w r u:=by
 simp only[lkB,bg]at h;obtain⟨x,m,⟨clk,ps⟩,E,h⟩:=h;unfold atM at h;simp only[bg]at h;obtain⟨⟨J,el⟩,hm,h⟩:=h;split at h
 .rename_i k;simp only[dh,bg,bF]at h;obtain⟨hk,ix,hi,z,H,rfl⟩:=h;obtain⟨g,⟨hg,c⟩,rfl⟩:=hx;simp only[Rep]at q;subst q;obtain⟨y,he,F⟩:=(S.box b _ m).map hg E c;obtain⟨d,G,hd,A⟩:=Ph (w:=w) hk;have hK:=EntR.key 0 F hi hd;have n:(zeroValue el).run P w = .ok z w:=DF H w;have hf:∃o,Instr.findNow d l y.toList 0=some o/\(match ix with|some x=>∃j u,o=some (j,u)/\Rep L w x.2 u|none=>o=none):=by grind
  obtain⟨o,ho,f⟩:=hf
  have i:(Instr.lookup t (.map (some g)) l ok).run P w = .ok (if ok then .tuple #[(match o with|some x=>x.2|none=>z),.bool o.isSome]else(match o with|some x=>x.2|none=>z)) w:=by
   unfold Instr.lookup
   simp only[Sem.run_bind,run_underlying (J5 hm),Result.andThen_ok,MapKept.run_getObj_map he,Sem.run_pure,A,Instr.findKey,run_underlying G,ho]
   cases o with
   |none=>simp[n]
   |some p=>cases ok<;>simp
  refine⟨_,i,?_⟩;cases ix with
  |none =>
   subst f;cases ok
   .exact Iu L w z
   .exact⟨_,rfl,_,_,rfl,Iu L w z,_,_,rfl,rfl,rfl⟩
  |some I =>
   obtain⟨j,u,rfl,h2⟩:=f;cases ok
   .exact h2
   .exact⟨_,rfl,_,_,rfl,h2,_,_,rfl,rfl,rfl⟩
 .cases h
def y8(w:World)(g:Nat)(a:Array MapEntry)(clk:Nat):World:={w with heap:=w.heap.setIfInBounds g (.map a clk)}
theorem YS{g:Nat}{b a:Array MapEntry}{clk c:Nat}(he:w.heap[g]?=some (.map b clk)):(y8 w g a c).heap[g]?=some (.map a c):=by grind[y8]
theorem IB{g b:Nat}{a:Array MapEntry}{c:Nat}(h:b≠g):(y8 w g a c).heap[b]?=w.heap[b]?:=by grind[y8]
theorem KY{b g:Nat}{x:TypeId×List V}{y f:Array MapEntry}{clk d:Nat}{p:List Me}(S:Sim C s L a w)(hx:s.bx b=some x)(hg:L.box b=some g)(he:w.heap[g]?=some (.map y clk))(r:EntR L w f.toList p) :
  Sim C {s with bx:=upd s.bx b (some (x.1,mpC d p))} L a (y8 w g f d):=by
 obtain⟨F,n,q⟩:=S.wf.boxW b g hg
 have K:qN L L w (y8 w g f d):=by
  refine⟨rfl,fun j h=>⟨h,.of (IB fun e=>by subst e;exact q h)⟩,fun id e _ j h=>⟨⟨rfl,h⟩,IB fun e=>by subst e;exact S.wf.dis id b _ h hg⟩,fun c _ j h=>⟨h,?_⟩⟩;by_cases hj:j=g
  .subst hj;refine⟨fun G H h1=>(by rw[he]at h1;cases h1),fun i hi => ?_⟩;cases i
   .exact⟨_,_,YS he⟩
   .obtain⟨_,_,_,_,h1⟩:=hi;rw[he]at h1;cases h1
  .exact .of (IB hj)
 refine⟨S.defers,S.size,fun t=>(S.env t).whole K,fun t=>(S.hid t).whole K,fun c cs h => ?_,S.wf.mono (az _) (by simp[y8]),S.kp.trans ⟨rfl,rfl,rfl,by simp[y8],fun k hk E=>IB (fun e=>by subst e;exact n.elim (fun h=>by omega) E),az _⟩⟩
 simp[upd]at h
 split at h
 .rename_i hb;subst hb;simp at h;subst h;have m:f.size=p.length:=by rw[<-r.len,iQ]
  have l:Reps L (y8 w g f d) (mpC d p) (.int .i64 d :: .int .i64 f.size::CE f.toList):=⟨_,_,rfl,rfl,_,_,rfl,by show _=_;rw[m],TZ (r.mono fun v u h=>h.whole K)⟩;exact⟨g,_,_,hg,⟨YS he,rfl⟩,l.takeAll⟩
 .rename_i hb;exact(S.box c cs h).keep rfl rfl (fun j h4=>⟨h4,IB fun e=>by subst e;exact hb (S.wf.injB c b _ h4 hg)⟩) (fun _ A=>A.whole K)
def upM(P:Program)(t:TypeId)(q:Nat×List Me)(key x:V):Option (Nat×List Me):=(ny P t).bind fun p=>match key with
 | .c k=>if rJ P p.1 k=true then yN q.2 q.1 k x else none
 |_=>none
def rH(P:Program)(s:St)(t:TypeId)(b:Nat)(key x:V):Option St:=(s.bx b).bind fun y=>(mpQ y.2).bind fun q=>(upM P t q key x).map fun r=>{s with bx:=upd s.bx b (some (y.1,mpC r.1 r.2))}
theorem aqX{k a:Value}(h:qY k a=some true):Instr.sameBits 10000 a k=true:=by
 cases k<;>cases a<;>simp[qY]at h
 .obtain⟨rfl,rfl⟩:=h;simp[Instr.sameBits]
 .rename_i a b;show(b == a)=true;rw[MapKept.bytes_beq]at h⊢;exact h.symm
theorem Xb{t:TypeId}{b:Nat}{key x:V}{E i n:Value}{s':St}(h:rH P s t b key x=some s')(S:Sim C s L a w)(hm:Rep L w (.mh false b) E)(A:Rep L w key i)(hx:Rep L w x n) :
  ∃w',(Instr.mapUpdate t E i n).run P w = .ok () w'/\Sim C s' L a w':=by
 simp only[rH,bg,bF]at h
 obtain⟨y,c,⟨clk,ps⟩,H,r,h,rfl⟩:=h
 unfold upM at h
 simp only[bg]at h
 obtain⟨⟨M,el⟩,I,h⟩:=h
 split at h
 .simp at h;obtain⟨hk,h⟩:=h;simp[yN,bF]at h;obtain⟨ix,hi,h⟩:=h;obtain⟨g,⟨hg,k⟩,rfl⟩:=hm;simp[Rep]at A;subst A;obtain⟨q,he,m⟩:=(S.box b _ c).map hg H k;obtain⟨d,J,hd,G⟩:=Ph (w:=w) hk;have hK:=EntR.key 0 m hi hd;unfold Instr.mapUpdate;simp[Sem.run_bind,run_underlying (J5 I),Result.andThen_ok,MapKept.run_getObj_map he,G,Instr.findKey,run_underlying J];cases ix with
  |none =>subst h;rw[hK];simp only[Sem.run_pure,Result.andThen_ok,MapKept.run_setObj_map _ he];refine⟨_,rfl,KY S c hg he ?_⟩;rw[Array.toList_push];exact m.app ⟨⟨rfl,hx,rfl⟩,trivial⟩
  |some K =>
   obtain⟨j,v⟩:=K;subst h;obtain⟨_,h2,⟨u,h3,_⟩,e,h4,h5⟩:=hK;have F:q[j]?=some e:=by rw[<-Array.getElem?_toList];exact h4
   have l:Instr.sameBits 10000 ((q[j]?).map (·.key) |>.getD i) i=true:=by rw[F];exact aqX h5
   rw[h3];simp only[Sem.run_pure,Sem.run_bind,Result.andThen_ok,Instr.keyThatStays,l,if_true,MapKept.run_setObj_map _ he];refine⟨_,rfl,KY S c hg he ?_⟩;rw[Array.toList_modify];exact m.modify (f:=fun e=>{e with key:=i,val:=n}) (g:=fun e=>(i,x,e.2.2)) (fun e p h1 h2=>⟨rfl,hx,h2⟩) j
 .cases h
def dlM(P:Program)(t:TypeId)(q:Nat×List Me)(key:V):Option (Nat×List Me):=(ny P t).bind fun p=>match key with
 | .c k=>if rJ P p.1 k=true then(OX q.2 k).map fun r=>(q.1,r)else none
 |_=>none
def yc(P:Program)(s:St)(t:TypeId)(b:Nat)(key:V):Option St:=(s.bx b).bind fun y=>(mpQ y.2).bind fun q=>(dlM P t q key).map fun r=>{s with bx:=upd s.bx b (some (y.1,mpC r.1 r.2))}
theorem aeQ{t ty tk:TypeId}{b:Nat}{key:V}{m n:Value}{s':St}(h:yc P s t b key=some s')(S:Sim C s L a w)(hm:Rep L w (.mh false b) m)(l:Rep L w key n) :
  ∃w',(Builtin.delete_ #[t,tk] ty #[m,n]).run P w = .ok (.tuple #[]) w'/\Sim C s' L a w':=by
 simp only[yc,bg,bF]at h
 obtain⟨y,c,⟨clk,ps⟩,q,r,h,rfl⟩:=h
 unfold dlM at h
 simp only[bg]at h
 obtain⟨⟨F,el⟩,x,h⟩:=h
 split at h
 .simp only[dh,bF,OX]at h;obtain⟨hk,G,⟨ix,hi,h⟩,rfl⟩:=h;obtain⟨g,⟨hg,f⟩,rfl⟩:=hm;simp[Rep]at l;subst l;obtain⟨k,he,i⟩:=(S.box b _ c).map hg q f;obtain⟨d,A,hd,p⟩:=Ph (w:=w) hk;have hK:=EntR.key 0 i hi hd;unfold Builtin.delete_;simp only[List.getElem?_toArray,vX,zy,Sem.run_bind,run_underlying (J5 x),Result.andThen_ok,MapKept.run_getObj_map he,p,Instr.findKey,run_underlying A];cases ix with
  |none =>subst h;rw[hK];simp only[Sem.run_pure,Sem.run_bind,Result.andThen_ok,MapKept.run_setObj_map _ he];exact⟨_,rfl,KY S c hg he i⟩
  |some E =>obtain⟨j,v⟩:=E;subst h;obtain⟨_,h2,⟨u,h3,_⟩,_⟩:=hK;rw[h3];simp only[Sem.run_pure,Sem.run_bind,Result.andThen_ok,MapKept.run_setObj_map _ he];refine⟨_,rfl,KY S c hg he ?_⟩;rw[show(k.eraseIdxIfInBounds j).toList=k.toList.eraseIdx j by simp];exact i.erase j
 .cases h
def lnB(P:Program)(s:St)(t:TypeId)(b:Nat):Option V:=(s.bx b).bind fun y=>(mpQ y.2).bind fun q=>(ny P t).map fun _=>.c (.int .i64 q.2.length)
theorem alu{t ty:TypeId}{b:Nat}{r:V}{f:Value}(h:lnB P s t b=some r)(S:Sim C s L a w)(hm:Rep L w (.mh false b) f):∃u,(Builtin.len_ #[t] ty #[f]).run P w = .ok u w/\Rep L w r u:=by
 simp only[lnB,bg,bF]at h;obtain⟨y,d,⟨clk,ps⟩,j,⟨k,e⟩,m,rfl⟩:=h;obtain⟨g,⟨hg,c⟩,rfl⟩:=hm;obtain⟨i,he,l⟩:=(S.box b _ d).map hg j c;have:=l.len;refine⟨.int .i64 i.size,?_,?_⟩
 .unfold Builtin.len_;simp[run_underlying (J5 m),MapKept.run_getObj_map he];rfl
 .show _=_;grind
theorem amq{t:TypeId}{b d:Nat}{k x v:V}:rH P (s.put (some d) v) t b k x=(rH P s t b k x).map fun s'=>s'.put (some d) v:=by
 show((s.bx b).bind fun y=>(mpQ y.2).bind fun q=>(upM P t q k x).map fun r=>({s with bx:=upd s.bx b (some (y.1,mpC r.1 r.2))}:St).put (some d) v)=_
 unfold rH
 cases s.bx b with
 |none=>rfl
 |some y =>
  simp
  cases mpQ y.2 with
  |none=>rfl
  |some q=>simp;rfl
theorem aeR{t:TypeId}{b d:Nat}{k v:V}:yc P (s.put (some d) v) t b k=(yc P s t b k).map fun s'=>s'.put (some d) v:=by
 show((s.bx b).bind fun y=>(mpQ y.2).bind fun q=>(dlM P t q k).map fun r=>({s with bx:=upd s.bx b (some (y.1,mpC r.1 r.2))}:St).put (some d) v)=_
 unfold yc
 cases s.bx b with
 |none=>rfl
 |some y =>
  simp
  cases mpQ y.2 with
  |none=>rfl
  |some q=>simp;rfl
end
end Go.Pg
end
section
namespace Go.Pg
open Go
structure ResLay (A:Nat->Prop) (w w':World) (L:Lay):Prop where
 A:∀g,L.A g->A g\/(w.heap.size<=g/\g<w'.heap.size)
 own:∀id g,L.own id=some g->w.heap.size<=g/\g<w'.heap.size/\¬L.A g
 inj:∀i j g,L.own i=some g->L.own j=some g->i=j
def oI(P:Program)(f:FuncId):Bool :=
 match P.funcs[f]? with
 |some fn => !(fn.name == "runtime.NumGoroutine")&&fn.body.isSome
 |none=>false
def Good(P:Program)[Tb P](f:FuncId)(args:List V)(r:V):Prop :=
 oI P f=true/\∀(A:Nat->Prop) (w:World) (c:List Value),Tb.T P w->(∀g,A g->g<w.heap.size)->Reps ⟨A,fun _=>none,fun _=>none⟩ w args c ->
  Calls P f c.toArray w fun e w'=>∃u L,e = .returned u/\Rep L w' r u/\Kp (fun _=>False) w.heap.size w w'/\ResLay A w w' L
mutual
def V.idb:V->Nat
 | .c _=>0
 | .sl (.own id _) _ _=>id+1
 | .sl .fz _ _=>0
 | .sl .nn _ _=>0
 | .agg cs=>V.idbL cs
 | .tup cs=>V.idbL cs
 | .ref _ _=>0
 | .el (.own id _) _ _ _ _=>id+1
 | .el .fz _ _ _ _=>0
 | .el .nn _ _ _ _=>0
 | .fn _ fs cs=>max (V.idbL fs) (V.idbL cs)
 | .top=>0
 | .nif=>0
 | .mh _ _=>0
 | .bs _ _ _ _ _=>0
def V.idbL:List V->Nat
 | []=>0
 | x::xs=>max (V.idb x) (V.idbL xs)
end
mutual
def V.flat:V->Bool
 | .c _=>true
 | .sl (.own _ _) _ xs=>V.flatL xs
 | .sl .fz _ _=>false
 | .sl .nn _ xs=>V.flatL xs
 | .agg cs=>V.flatL cs
 | .tup cs=>V.flatL cs
 | .ref _ _=>false
 | .el _ _ _ _ _=>false
 | .fn _ fs cs=>V.flatL fs&&V.flatL cs
 | .top=>true
 | .nif=>true
 | .mh _ _=>true
 | .bs _ _ _ _ _=>false
def V.flatL:List V->Bool
 | []=>true
 | x::xs=>V.flat x&&V.flatL xs
end
def Tag.ge(n:Nat):Tag->Bool
 | .fz=>false
 | .nn=>false
 | .own id _ => !decide (id<n)
def OA(n:Nat):(∀v:V,v.idb<=n->v.any (Tag.ge n) (fun _=>false) false=false)/\(∀l,V.idbL l<=n->V.anyL (Tag.ge n) (fun _=>false) false l=false):=by
 refine V.ind ?_ ?_ ?_ ?_ ?_ ?_ ?_ ?_ ?_ ?_ ?_ ?_ ?_
 .intro v _;rfl
 .intro _;rfl
 .intro t k xs _ h;cases t with
  |fz=>rfl
  |nn=>rfl
  |own id e=>simp only[V.idb]at h;simp[V.any,Tag.ge];omega
 .intro i b _;rfl
 .intro cs a h;exact a h
 .intro cs a h;exact a h
 .intro b o _;rfl
 .intro b be bo c bn _;rfl
 .intro t k xs i o _ h;cases t with
  |fz=>rfl
  |nn=>rfl
  |own id e=>simp only[V.idb]at h;simp[V.any,Tag.ge];omega
 .intro f fs cs h1 h2 h;simp only[V.idb]at h;simp[V.any,h1 Om,h2 Om]
 .intro _;rfl
 .intro _;rfl
 .intro x xs h1 h2 h;simp only[V.idbL]at h;simp[V.anyL,h1 Om,h2 Om]
def Yw{L:Lay}{w:World}(A:Nat->Prop):(∀v u,V.flat v=true->Rep L w v u->Rep {L with A:=A} w v u) /\
  (∀l,(∀us,V.flatL l=true->Reps L w l us->Reps {L with A:=A} w l us)/\(∀k us,V.flatL l=true->RepE L w k l us->RepE {L with A:=A} w k l us)):=by
 refine V.ind ?_ ?_ ?_ ?_ ?_ ?_ ?_ ?_ ?_ ?_ ?_ ?_ ?_
 .intro v u _ h;exact h
 .intro u _ h;exact h
 .rintro t k xs ⟨_,g⟩ u hf ⟨a,cap,cells,h1,h2,h3⟩;cases t with
  |fz=>simp[V.flat]at hf
  |nn=>exact⟨a,cap,cells,h1,g k cells hf h2,h3⟩
  |own id e=>exact⟨a,cap,cells,h1,g k cells hf h2,h3⟩
 .rintro t n u _ ⟨r,h1,h2⟩;exact⟨r,h1,by cases t<;>exact h2⟩
 .rintro cs ⟨g,_⟩ u hf ⟨a,h1,h2⟩;exact⟨a,h1,g _ hf h2⟩
 .rintro cs ⟨g,_⟩ u hf ⟨a,h1,h2⟩;exact⟨a,h1,g _ hf h2⟩
 .intro b o u hf;simp[V.flat]at hf
 .intro b be bo m bn u hf;simp[V.flat]at hf
 .intro t k xs i o _ u hf;simp[V.flat]at hf
 .rintro f fs cs ⟨c,_⟩ ⟨d,_⟩ u hf ⟨a,b,h1,h2,h3⟩;simp only[V.flat,lL]at hf;exact⟨a,b,h1,c _ hf.1 h2,d _ hf.2 h3⟩
 .intro u _ _;trivial
 .exact⟨fun us _ h=>h,fun k us _ h=>h⟩
 .rintro x xs j ⟨c,d⟩;refine⟨?_,?_⟩
  .rintro us hf ⟨u,r,h1,h2,h3⟩;simp only[V.flatL,lL]at hf;exact⟨u,r,h1,j u hf.1 h2,c r hf.2 h3⟩
  .rintro k us hf ⟨u,r,h1,h2,h3,h4,h5⟩;simp only[V.flatL,lL]at hf;exact⟨u,r,h1,h2,h3,j u hf.1 h4,d k r hf.2 h5⟩
def V.erase(v:V):V:=v.map (fun _=>.fz) id
def V.shift(n:Nat)(v:V):V:=v.map (fun t=>match t with | .fz=>.fz | .nn=>.nn | .own id e=>.own (id+n) e) id
def V.noRef(v:V):Bool := !v.any (fun _=>false) (fun _=>true) false
def ownFree(l:List V):Bool := !V.anyL Tag.isOwn (fun _=>false) false l
def noRefs(l:List V):Bool := !V.anyL (fun _=>false) (fun _=>true) false l
def St.freezeAll(s:St):List Nat->St
 |[]=>s
 |id::ids=>(s.mapV (frz id)).freezeAll ids
inductive Kd where
 | p|q|r|x|z
 | a (l:List (Nat × Nat))
 | w (id k:Nat)
 | n
 | g (id:Nat)
 | o (b:Bool)
def V.calm(v:V):Bool := !v.any Tag.isOwn (fun _=>true) false
def V.ownless(v:V):Bool := !v.any Tag.isOwn (fun _=>false) true
def kq(l:List V)(v:V):Kd:=if l.all V.free&&v.calm then .p else if l.all V.ownless&&v.ownless then .o false else .q
def kr(v:V):Kd:=if v.ownless then .o true else .r
def V.aOk:V->Bool
 | .c _=>true
 | .sl _ _ _=>true
 | .el _ _ _ _ _=>true
 | .ref _ _=>true
 | .nif=>true
 |_=>false
def V.aL:V->List (Nat×Nat)
 | .sl (.own id _) k _=>[(id,k)]
 | .el (.own id _) k _ _ _=>[(id,k)]
 |_=>[]
def ka(l:List V)(v:V):Kd :=
 match l.all V.aOk,l.flatMap V.aL with
 |true,p::r=>.a (p::r)
 |_,_=>kq l v
def kc(l:List V)(ids:List Nat)(r:V):Kd :=
 match ids with
 |[]=>if r.idb=0 then kq l r else .n
 |_=>.z
def GoodZ(P:Program)[Tb P](g:FuncId)(args:List V)(s s':St)(r:V):Prop :=
 ∀(C:Cx) (L:Lay) (a:Act) (w:World) (c:List Value),C.TOk P->Sim C s L a w->Reps L w args c ->
  (oI P g=true/\Calls P g c.toArray w fun e w'=>∃u L',e = .returned u/\Sim C s' L' a w'/\Rep L' w' r u) \/
  ∃u w' L',(callFunc g c.toArray).run P w = .ok (.value u) w'/\Sim C s' L' a w'/\Rep L' w' r u
def GoodE(P:Program)[Tb P](g:FuncId)(args:List V)(s:St)(φ:St->V->Prop):Prop :=
 ∀(C:Cx) (L:Lay) (a:Act) (w:World) (c:List Value),C.TOk P->Sim C s L a w->Reps L w args c ->
  oI P g=true/\Calls P g c.toArray w fun e w'=>∃u L' s' r,φ s' r/\e = .returned u/\Sim C s' L' a w'/\Rep L' w' r u
def eX(P:Program)[Tb P](f:V)(args:List Operand)(d:Option Nat)(s:St)(K:Kd->St->Prop):Prop :=
 match f with
 | .fn g fs cs=>(∃(ids:List Nat) (r:V),Good P g ((fs++args.map (s.freezeAll ids).ev++cs).map V.erase) r/\ownFree (fs++cs)=true/\noRefs (fs++args.map (s.freezeAll ids).ev++cs)=true/\r.noRef=true /\
   (ownFree (args.map (s.freezeAll ids).ev)||r.flat)=true/\K (kc (f::args.map s.ev) ids r) (St.put {s.freezeAll ids with nid:=s.nid+r.idb} d (r.shift s.nid))) \/
   (∃(s':St) (r:V),GoodZ P g (fs++args.map s.ev++cs) s s' r/\K .z (s'.put d r)) \/
   ∃r:V,(∀e n h,GoodZ P g (fs++args.map s.ev++cs) ⟨e,s.bx,n,h⟩ ⟨e,s.bx,n,h⟩ r)/\K .r (s.put d r)
 |_=>False
section
variable {P:Program} [Tb P] {C:Cx} {s:St} {L L':Lay} {a:Act} {w w':World}
theorem agx(ids:List Nat):∀s:St,(s.freezeAll ids).nid=s.nid:=by
 induction ids with
 |nil=>intro s;rfl
 |cons i ids a=>intro s;exact a _
theorem Sim.freezeAll(ids:List Nat):∀{s:St} {L:Lay},Sim C s L a w->∃L',Sim C (s.freezeAll ids) L' a w/\∀v u,ownFree [v]=true->Rep L w v u->Rep L' w v u:=by
 induction ids with
 |nil=>intro s L S;exact⟨L,S,fun v u _ h=>h⟩
 |cons i ids f =>
  intro s L S;obtain⟨c,k⟩:=S.freeze i;obtain⟨b,d,h2⟩:=f c;refine⟨b,d,fun v u hv h=>h2 v u hv ?_⟩
  have K:Trans Tag.isOwn (fun _=>false) _root_.id _root_.id L (L.freeze i) w w :=
   ⟨rfl,fun g h=>⟨.inl h,.of rfl⟩,fun j e hj g h=>by simp[Tag.isOwn]at hj,fun _ _ _ h=>⟨h,.of rfl⟩⟩
  have:=h.trans rfl K (by simpa[ownFree,V.anyL]using hv);rwa [map_id.1]at this
theorem aaZ(p:Tag->Bool)(q:Nat->Bool)(tp:Bool)(l a:List V):V.anyL p q tp (l++a)=(V.anyL p q tp l||V.anyL p q tp a):=by induction l<;>grind[V.anyL]
theorem Jd{p p':Tag->Bool}{q q':Nat->Bool}:(∀v:V,v.any p q false=false->v.any p' q' false=false->v.any (fun t=>p t||p' t) (fun b=>q b||q' b) false=false) /\
  (∀l,V.anyL p q false l=false->V.anyL p' q' false l=false->V.anyL (fun t=>p t||p' t) (fun b=>q b||q' b) false l=false):=by
 refine V.ind ?_ ?_ ?_ ?_ ?_ ?_ ?_ ?_ ?_ ?_ ?_ ?_ ?_<;>simp_all[V.any,V.anyL]
theorem Zu(h:C.TOk P)(S:Sim C s L a w):Tb.T P w:=h w S.kp
theorem adu{f:FuncId}{vs:List V}{us:List Value}{r:V}(U:C.TOk P)(S:Sim C s L a w)(T:Reps L w vs us)(hg:Good P f (vs.map V.erase) r)(x:noRefs vs=true)(R:r.noRef=true)(Q:(ownFree vs||r.flat)=true) :
  Calls P f us.toArray w fun e w'=>∃u L',e = .returned u/\Sim C {s with nid:=s.nid+r.idb} L' a w'/\Rep L' w' (r.shift s.nid) u:=by
 have hB:=S.hB
 let F:Nat->Prop:=fun g=>L.A g\/(r.flat=true/\∃id,L.own id=some g)
 have N:∀g,F g->g<w.heap.size:=fun g h=>h.elim (S.wf.old g) (fun⟨_,id,h⟩=>(S.wf.own id g h).1)
 have y:Reps ⟨F,fun _=>none,fun _=>none⟩ w (vs.map V.erase) us:=by
  cases n:r.flat with
  |true =>
   have K:Trans (fun _=>false) (fun _=>true) (fun _=>.fz) id L ⟨F,fun _=>none,fun _=>none⟩ w w :=
    ⟨rfl,fun g h=>⟨.inl h,.of rfl⟩,fun i e _ g h=>⟨.inr ⟨n,i,h⟩,rfl⟩,fun b hb=>by simp at hb⟩
   have:=T.trans rfl K (by simpa[noRefs]using x);rwa [H6]at this
  |false =>
   have K:Trans Tag.isOwn (fun _=>true) (fun _=>.fz) id L ⟨F,fun _=>none,fun _=>none⟩ w w :=
    ⟨rfl,fun g h=>⟨.inl h,.of rfl⟩,fun i e h=>by simp[Tag.isOwn]at h,fun b hb=>by simp at hb⟩
   have h1:ownFree vs=true:=by simpa[n]using Q
   have h3:=(Jd (p:=Tag.isOwn) (p':=fun _=>false) (q:=fun _=>false) (q':=fun _=>true)).2 vs (by simpa[ownFree]using h1) (by simpa[noRefs]using x);have:=T.trans (p:=Tag.isOwn) (q:=fun _=>true) rfl K (by simpa using h3);rwa [H6]at this
 refine(hg.2 F w us (Zu U S) N y).mono ?_
 rintro e w' ⟨u,H,rfl,I,l,d⟩
 have G:Grow w w':=⟨l.os,l.tape,l.output,l.size,fun k hk=>l.block k hk (fun h=>h),l.drawn⟩
 let m:Lay:={A:=fun g=>L.A g\/(H.A g/\w.heap.size<=g),own:=fun j=>if j<s.nid then L.own j else if j-s.nid<r.idb then H.own (j-s.nid)else none,box:=L.box}
 have E:L.Le m:=⟨fun g h=>.inl h,fun i g h=>by simp[m,S.wf.nidO i g h,h],fun _ _ h=>h⟩
 have W:=S.wf
 have wf:Wf C (s.nid+r.idb) m w':={
  nidO:=fun j g h=>by grind
  nidB:=fun b g h=>by have:=W.nidB b g h;omega
  own:=fun j g h=>by
   simp only[m]at h
   split at h
   .obtain⟨h1,h2,h3⟩:=W.own j g h
    exact⟨by have:=G.size;omega,h2,fun c=>c.elim h3 (fun⟨_,c⟩=>by omega)⟩
   .split at h
    .obtain⟨h1,h2,h3⟩:=d.own _ g h
     exact⟨h2,.inl Om,fun c=>c.elim (fun c=>by have:=W.old g c;omega) (fun⟨c,_⟩=>h3 c)⟩
    .cases h
  boxW:=fun b g h=>by
   obtain⟨h1,h2,h3⟩:=W.boxW b g h
   exact⟨by have:=G.size;omega,h2,fun c=>c.elim h3 (fun⟨_,c⟩=>by omega)⟩
  injO:=fun i j g h c=>by
   simp only[m]at h c
   split at h
   .split at c
    .exact W.injO i j g h c
    .split at c
     .have:=(W.own i g h).1;have:=(d.own _ g c).1;omega
     .cases c
   .split at h
    .split at c
     .have:=(W.own j g c).1;have:=(d.own _ g h).1;omega
     .split at c
      .have:=d.inj _ _ g h c;omega
      .cases c
    .cases h
  injB:=W.injB
  dis:=fun i j g h c=>by
   simp only[m]at h
   split at h
   .exact W.dis i j g h c
   .split at h
    .have:=(d.own _ g h).1;have:=(W.boxW j g c).1;omega
    .cases h
  old:=fun g h=>h.elim (fun h=>by have:=W.old g h;have:=G.size;omega) (fun⟨h,c⟩=>by
   rcases d.A g h with h1|h1
   .grind
   .exact h1.2)
  frz:=fun g h=>h.elim (W.frz g) (fun⟨_,c⟩=>.inr (.inl Om))}
 refine⟨u,m,rfl,S.grow G E rfl (fun b cs h=>.inl h) wf,?_⟩
 have M:∀id e,Tag.ge r.idb (.own id e)=false->∀g,H.own id=some g->m.own (id+s.nid)=some g:=by intro id e hid g h;simp only[Tag.ge,Bool.not_eq_eq_eq_not,xN,Ru]at hid;have h1:¬id+s.nid<s.nid:=Om;have h2:id+s.nid-s.nid=id:=Om;simp only[m,ag h1,h2,ah hid,h]
 have v:r.any (fun t=>Tag.ge r.idb t||false) (fun b=>false||true) false=false:=by have:=(Jd (p:=Tag.ge r.idb) (p':=fun _=>false) (q:=fun _=>false) (q':=fun _=>true)).1 r ((OA r.idb).1 r (az _)) (by simpa[V.noRef]using R);exact this
 cases n:r.flat with
 |true =>
  have J:=(Yw (fun _=>False)).1 r u n I
  have K:Trans (fun t=>Tag.ge r.idb t||false) (fun b=>false||true) (fun t=>match t with | .fz=>.fz | .nn=>.nn | .own id e=>.own (id+s.nid) e) id {H with A:=fun _=>False} m w' w' :=
   ⟨rfl,fun g h=>h.elim,fun id e hid g h=>⟨⟨rfl,M id e (by simpa using hid) g h⟩,rfl⟩,fun b hb=>by simp at hb⟩
  exact J.trans rfl K v
 |false =>
  have K:Trans (fun t=>Tag.ge r.idb t||false) (fun b=>false||true) (fun t=>match t with | .fz=>.fz | .nn=>.nn | .own id e=>.own (id+s.nid) e) id H m w' w':=by
   refine⟨rfl,fun g h=>⟨?_,.of rfl⟩,fun id e hid g h=>⟨⟨rfl,M id e (by simpa using hid) g h⟩,rfl⟩,fun b hb=>by simp at hb⟩;rcases d.A g h with h1|h1
   .grind
   .grind
  exact I.trans rfl K v
end
end Go.Pg
end
section
namespace Go.Pg
open Go
section
variable {P:Program} {C:Cx} {s:St} {L L':Lay} {a:Act} {w w':World}
def rf(k:Nat):List V->Option (List V)
 |[]=>some []
 |v::r=>v.cs.bind fun l=>if l.length=k then(rf k r).map (l++·)else none
theorem Ut{k:Nat}:∀{xs cs:List V} {us:List Value},rf k xs=some cs->RepE L w k xs us->Reps L w cs us:=by
 intro xs
 induction xs with
 |nil=>intro cs us h a;simp[rf]at h;subst h;exact a
 |cons v r i =>intro cs us h a;simp[rf,bg]at h;obtain⟨l,hl,hk,c,b,rfl⟩:=h;obtain⟨u,r',rfl,_,_,h4,h5⟩:=a;exact(xE h4 hl).append (i b h5)
def FQ(P:Program)(s:St)(t:TypeId)(k:Nat)(y:V):Option (Nat×List V) :=
 match y with
 | .bs b _ o a n=>if a=k/\(elemT P t).isSome/\0<n then(s.bx b).bind fun x=>if o+n*k<=x.2.length then some (n,(x.2.drop o).take (n*k))else none else none
 |y=>(rQ P t k y).bind fun ys=>(rf k ys).map fun cs=>(ys.length,cs)
theorem aui{α:Type}(l:List α)(o n m:Nat)(h:o+n<=m):((l.take m).drop o).take n=(l.drop o).take n:=by grind[List.drop_take,Nat.min_eq_left]
theorem Y6{t:TypeId}{k n:Nat}{y:V}{cs:List V}{u:Value}(S:Sim C s L a w)(h:FQ P s t k y=some (n,cs))(p:Rep L w y u)(h1:cs.all V.one=true) :
  ∃news,Src P k t u n news w/\Reps L w cs news:=by
 unfold FQ at h
 split at h
 .rename_i b be o m n'
  simp only[dh,bg,aO,dR]at h
  obtain⟨⟨rfl,he,r⟩,x,hx,l,rfl,rfl⟩:=h
  obtain⟨e,he⟩:=pF.1 he
  obtain⟨q,_⟩|⟨g,cap,arr,hg,rfl,ha,_⟩:=p
  .omega
  obtain⟨arr',i,f⟩:=(S.box b x hx).cells hg ⟨_,_,ha⟩
  rw[ha]at i
  obtain⟨rfl,_,_⟩:=i
  have c:=(f.drop o).take (n'*m)
  rw[aui _ _ _ _ l]at c
  have d:((arr.toList.drop o).take (n'*m)).length=n'*m:=by
   have h3:=c.length
   grind
  refine⟨_,Src.ofSlice w (iw he) ⟨g,o,none⟩ n' cap _ d ?_ (KQ c h1),c⟩
  intro j v hj
  rw[jO]
  exact Row.cell (w:=w) (g:=g) (o:=o) ⟨arr,_,_,ha,by rw[d]⟩ hj
 .grind[QE,Ut,Option.bind_eq_some_iff,Option.map_eq_some_iff]
theorem akT{b:Nat}(K:Trans (fun _=>false) (fun j=>j == b) _root_.id _root_.id L L' w w'){v:V}{u:Value}(h:Rep L w v u):Rep L' w' (gY b v) u:=by
 unfold gY;split
 .trivial
 .rename_i hv;have:=h.trans rfl K (by simpa using hv);rwa [map_id.1]at this
theorem akU{b:Nat}(K:qN L L' w w'){v:V}{u:Value}(h:Rep L w v u):Rep L' w' (gY b v) u:=by
 unfold gY;split
 .trivial
 .exact h.whole K
theorem Wf.setBox{nid b:Nat}(W:Wf C nid L w)(hB:C.B<=w.heap.size)(c:w.heap.size<w'.heap.size):Wf C (max nid (b+1)) (L.addBox b w.heap.size) w' where
 nidO:=fun i g h=>by have:=W.nidO i g h;omega
 nidB:=fun id g h=>by
  simp[Lay.addBox,upd]at h;split at h
  .omega
  .have:=W.nidB id g h;omega
 own:=fun b g h=>by obtain⟨h1,h2,h3⟩:=W.own b g h;exact⟨by omega,h2,h3⟩
 boxW:=fun id g h=>by
  simp[Lay.addBox,upd]at h;split at h
  .simp at h;subst h;exact⟨c,.inl hB,fun h=>by have:=W.old _ h;omega⟩
  .obtain⟨h1,h2,h3⟩:=W.boxW id g h;exact⟨by omega,h2,h3⟩
 injO:=W.injO
 injB:=fun i j g h a=>by
  simp[Lay.addBox,upd]at h a;split at h<;>split at a
  .omega
  .simp at h;have:=(W.boxW j _ a).1;omega
  .simp at a;have:=(W.boxW i _ h).1;omega
  .exact W.injB i j g h a
 dis:=fun i j g h a=>by
  simp[Lay.addBox,upd]at a;split at a
  .simp at a;have:=(W.own i _ h).1;omega
  .exact W.dis i j g h a
 old:=fun g h=>by have:=W.old g h;omega
 frz:=W.frz
def Fb(s:St)(b n:Nat):Option (List V):=if n=0 then some []else(s.bx b).bind fun x=>if n<=x.2.length then some (x.2.take n)else none
def JY(s:St)(b:Nat)(x:TypeId×List V)(nid:Nat):St :=
 {(s.mapV (gY b))with bx:=upd (fun j=>(s.bx j).map fun y=>(y.1,y.2.map (gY b))) b (some (x.1,x.2.map (gY b))),nid:=nid}
def zK(P:Program)(s:St)(t t2:TypeId)(x y:V):Option (V×St) :=
 (elemT P t).bind fun e=>(tapp P e).bind fun(k,bytes)=>(FQ P s t2 k y).bind fun(m,cs) =>
  match x with
  | .c (.slice none 0 0)=>if 0<m/\cs.all V.one=true/\Fits m bytes then some (.bs s.nid e 0 k m,{s with bx:=upd s.bx s.nid (some (e,cs)),nid:=s.nid+1})else none
  | .bs b e' 0 a n=>(Fb s b (n*k)).bind fun old=>if e'=e/\a=k/\0<m/\cs.all V.one=true/\Fits (n+m) bytes then some (.bs b e 0 k (n+m),JY s b (e,old++cs) (max s.nid (b+1)))else none
  |_=>none
theorem Vz{olds news:List Value}{n cap k:Nat}{e:TypeId}{z:Value}(a:z.cells.size=k)(hl:(olds++news).length=n*k) :
  ((olds++news).toArray++Builtin.zeroCells z.cells (grownCap w n cap e-n)).size=grownCap w n cap e*k:=by
 have h:=grownCap_ge w n cap e
 simp[size_zeroCells,a,hl,<-nK]
 grind
theorem abJ{t t2 ty:TypeId}{x y r:V}{ux uy:Value}{s':St}(h:zK P s t t2 x y=some (r,s'))(S:Sim C s L a w)(hx:Rep L w x ux)(hy:Rep L w y uy) :
  ∃u w' L',(Builtin.append_ #[t,t2] ty #[ux,uy]).run P w = .ok u w'/\Sim C s' L' a w'/\Rep L' w' r u:=by
 simp only[zK,bg,uD]at h
 obtain⟨e,he,k,bytes,hk,m,cs,hys,h⟩:=h
 obtain⟨i,z,hi,hz,hzs,rfl,rfl,hpos⟩:=pW hk
 have hu:=iw he
 split at h
 .
  simp only[dh,aO,dR]at h
  obtain⟨⟨h0,h1,A,U⟩,rfl,rfl⟩:=h
  obtain⟨news,f,H⟩:=Y6 S hys hy h1
  have X:=f.newsLen
  simp only[Rep]at hx;subst hx
  have d:=run_append_grow_src (P:=P) w t t2 ty e i z hu hi hz none 0 0 [] (by simp[Builtin.firstCells]) uy m news f (by omega)
   (by simp only[maxLen]at A;omega) (growslice_fits (by omega) (by rw[nM];exact U))
  simp only[nM]at d
  have G:=Grow.drewAlloc w (iJ w [] news m 0 e z)
  have E:=S.wf.leBox (s:=s) w.heap.size
  have hh:(w.drew.alloc (iJ w [] news m 0 e z)).heap[w.heap.size]?=some (iJ w [] news m 0 e z):=heap_alloc_new w.drew _
  refine⟨_,_,L.addBox s.nid w.heap.size,d,S.grow G E rfl ?_ (S.wf.addBox S.hB (by simp)),.inr ⟨w.heap.size,_,_,by simp[Lay.addBox,upd],rfl,hh,grownCap_ge w m 0 e,grownCap_le_maxLen w m 0 e A,?_⟩⟩
  .intro b x hb
   simp only[upd]at hb
   split at hb
   .rename_i hbn
    subst hbn
    simp only[aO]at hb
    subst hb
    refine .inr (BoxOk.mk (g:=w.heap.size) (by simp[Lay.addBox,upd]) hh ?_)
    have h5:=H.whole (S.wf.whole G E)
    have h6:=h5.length
    rw[IR,iY,<-h6,pq]
    exact h5
   .grind
  .grind[Vz]
 .
  rename_i b e' k' n
  simp only[bg,dh,aO,dR]at h
  obtain⟨old,c,⟨rfl,rfl,h0,h1,A,U⟩,rfl,rfl⟩:=h
  obtain⟨news,f,H⟩:=Y6 S hys hy h1
  have X:=f.newsLen
  have hor:∀g arr,L.box b=some g->w.heap[g]?=some (.cells arr e' (0,0))->n*i.size<=arr.size->Reps L w old (arr.toList.take (n*i.size))/\old.length=n*i.size:=by
   intro g arr hg ha hle
   unfold Fb at c
   split at c
   .rename_i hz0
    simp only[aO]at c
    subst c
    rw[hz0]
    exact⟨by simp[Reps],rfl⟩
   .simp only[bg,dh,aO]at c
    obtain⟨x,hx1,hx2,rfl⟩:=c
    obtain⟨arr',N,Y⟩:=(S.box b x hx1).cells hg ⟨_,_,ha⟩
    rw[ha]at N
    simp only[aO,Obj.cells.injEq]at N
    obtain⟨rfl,_,_⟩:=N
    have h3:=Y.take (n*i.size)
    rw[uA,qj hx2]at h3
    exact⟨h3,by simp;omega⟩
  have F:∀(ad:Option Addr) (cap:Nat) (olds:List Value),(Builtin.firstCells i.size n (.slice ad n cap)).run P w.drew = .ok olds.toArray w.drew->Reps L w old olds->olds.length=n*i.size->cap<n+m ->
    ∃u w' L',(Builtin.append_ #[t,t2] ty #[.slice ad n cap,uy]).run P w = .ok u w'/\Sim C (JY s b (e',old++cs) (max s.nid (b+1))) L' a w'/\Rep L' w' (.bs b e' 0 i.size (n+m)) u:=by
   intro ad cap olds hol1 hol2 hol3 J
   have d:=run_append_grow_src (P:=P) w t t2 ty e' i z hu hi hz ad n cap olds hol1 uy m news f J
    (by simp only[maxLen]at A;omega) (growslice_fits J U)
   have hh:(w.drew.alloc (iJ w olds news (n+m) cap e' z)).heap[w.heap.size]?=some (iJ w olds news (n+m) cap e' z):=heap_alloc_new w.drew _
   have G:=Grow.drewAlloc w (iJ w olds news (n+m) cap e' z)
   have W:=S.wf
   have K:Trans (fun _=>false) (fun j=>j == b) _root_.id _root_.id L (L.addBox b w.heap.size) w (w.drew.alloc (iJ w olds news (n+m) cap e' z)) :=
    ⟨rfl,fun g h=>⟨h,.of (G.block g (W.old g h))⟩,fun j e hj g h=>⟨⟨rfl,h⟩,G.block g (W.own j g h).1⟩,fun j hj g h=>by
     have:j≠b:=by simpa using hj
     exact⟨by simp[Lay.addBox,upd,this,h],.of (G.block g (W.boxW j g h).1)⟩⟩
   have I:∀v u,Rep L w v u->Rep (L.addBox b w.heap.size) (w.drew.alloc (iJ w olds news (n+m) cap e' z)) (gY b v) u:=fun v u h=>akT K h
   have hsz:=Vz (w:=w) (cap:=cap) (e:=e') (n:=n+m) hzs (by rw[aN,hol3,X,nK]:(olds++news).length=(n+m)*i.size)
   refine⟨_,_,L.addBox b w.heap.size,d,⟨S.defers,S.size,fun t=>I _ _ (S.env t),fun t=>I _ _ (S.hid t),?_,W.setBox S.hB (by simp),S.kp.trans (G.kp _ S.hB)⟩,.inr ⟨w.heap.size,_,_,by simp[Lay.addBox,upd],rfl,hh,grownCap_ge w _ cap e',grownCap_le_maxLen w _ cap e' A,by rw[hsz,nM];exact az _⟩⟩
   intro j x hj
   simp only[JY,upd]at hj
   split at hj
   .rename_i p
    subst p
    simp only[aO]at hj
    subst hj
    refine BoxOk.mk (g:=w.heap.size) (by simp[Lay.addBox,upd]) hh ?_
    have h5:=Bf I (hol2.append H)
    have h6:=h5.length
    rw[IR]
    show Reps _ _ ((old++cs).map (gY j)) (((olds++news)++_).take ((old++cs).map (gY j)).length)
    rw[<-h6,pq]
    exact h5
   .rename_i p
    simp only[bF]at hj
    obtain⟨l,hl,rfl⟩:=hj
    exact(S.box j l hl).keep rfl (aj ..) (fun g k1=>⟨by simp[Lay.addBox,upd,p,k1],G.block g (W.boxW j g k1).1⟩) (fun _ k3=>Bf I k3)
  obtain⟨hn0,rfl⟩|⟨g,cap,arr,hg,rfl,ha,Q,R,T⟩:=hx
  .subst hn0
   have hol:old=[]:=by unfold Fb at c;rw[ah (by simp)]at c;exact(Option.some.inj c).symm
   subst hol
   exact F none 0 [] (by simp[Builtin.firstCells]) rfl (by simp) (by omega)
  .have hcn:n*i.size<=cap*i.size:=vY _ Q
   obtain⟨M,hor2⟩:=hor g arr hg ha (by omega)
   have Z:(arr.toList.take (n*i.size)).length=n*i.size:=by simp;omega
   by_cases q:n+m<=cap
   .have hfit:n*i.size+news.length<=arr.size:=by
     have:=vY i.size q
     rw[nK]at this
     rw[X];omega
    have d:=IA (P:=P) (ty:=ty) hu hi ha f q hfit
    have hs':(arr.toList.take (n*i.size)++news++arr.toList.drop (n*i.size+news.length)).toArray.size=arr.size:=by grind
    have K:=ZY (w:=w) (arr:=(arr.toList.take (n*i.size)++news++arr.toList.drop (n*i.size+news.length)).toArray) ha hs' (S.wf.boxW b g hg).2.2 (fun j h=>S.wf.dis j b g h hg)
    have I:∀v u,Rep L w v u->Rep L _ (gY b v) u:=fun v u h=>akU (b:=b) K h
    refine⟨_,_,L,d,⟨S.defers,S.size,fun t=>I _ _ (S.env t),fun t=>I _ _ (S.hid t),?_,S.wf.mono (by show s.nid<=max s.nid (b+1);omega) (by simp),S.kp.trans (Kp.setRow _ (S.wf.boxW b g hg).2.1)⟩,
     .inr ⟨g,cap,_,hg,rfl,setRow_heap w g arr _ _ _ ha,q,R,by rw[hs'];exact T⟩⟩
    intro j x hj
    simp only[JY,upd]at hj
    split at hj
    .rename_i p
     subst p
     simp only[aO]at hj
     subst hj
     refine BoxOk.mk hg (setRow_heap w g arr _ _ _ ha) ?_
     have h5:=Bf I (M.append H)
     have h6:=h5.length
     show Reps _ _ ((old++cs).map (gY j)) (List.take ((old++cs).map (gY j)).length _)
     rw[List.toList_toArray,<-h6,pq]
     exact h5
    .rename_i p
     simp only[bF]at hj
     obtain⟨l,hl,rfl⟩:=hj
     exact(S.box j l hl).keep rfl (aj ..) (fun g' k1=>⟨k1,setRow_other w g g' _ (fun e=>by subst e;exact p (S.wf.injB j b g' k1 hg))⟩) (fun _ k3=>Bf I k3)
   .refine F (some ⟨g,0,none⟩) cap (arr.toList.take (n*i.size)) ?_ M Z (by omega)
    refine run_firstCells_some w.drew i.size n ⟨g,0,none⟩ _ cap _ Z ?_
    intro j v hj
    rw[jO,World.cell?_drew]
    have hrow:Row w g 0 (arr.toList.take (n*i.size)):=⟨arr,e',(0,0),ha,by rw[Z,lX]⟩
    exact hrow.cell hj
 .cases h
def EU(P:Program)(s:St)(t:TypeId)(len:Nat)(parts:List (Nat×V)):Option (V×St) :=
 (elemT P t).bind fun e=>(tapp P e).bind fun(k,_) =>
  match len,parts with
  |1,[(0,v)]=>v.cs.bind fun l=>if l.length=k/\l.all V.one=true/\k<=16777216/\v.free=false then some (.bs s.nid e 0 k 1,{s with bx:=upd s.bx s.nid (some (e,l)),nid:=s.nid+1})else none
  |_,_=>none
theorem alp{t e:TypeId}{k bytes:Nat}{u:Value}(he:elemT P t=some e)(hk:tapp P e=some (k,bytes))(g:u.cells.size=k)(l:k<=16777216) :
  ∃j,(Instr.buildSlice t 1 #[(0,u)]).run P w = .ok (.slice (some ⟨w.heap.size,0,none⟩) 1 1) (w.alloc (.cells j e))/\j.toList=u.cells.toList:=by
 obtain⟨i,z,hi,m,n,b,_,f⟩:=pW hk
 have d:lV P e=some z:=by simp[lV,hi,m]
 have c:tsz P e=some k:=by simp[tsz,hi,b]
 have h:=NQ u.cells.toList 0 0 ((Array.range (1*k)).map (z.cells[·%z.cells.size]!)) (by simp;omega)
 refine⟨_,?_,h.trans ?_⟩
 .have a:¬1*k > 2^24:=Om;simp only[Instr.buildSlice,Sem.run_bind,run_underlying (iw he),Result.andThen_ok,mF c];rw[ag a,ag Om];simp only[Sem.run_bind,DF d,Sem.run_pure,Result.andThen_ok];have h1:Instr.fill (fun i=>some (i*k,k)) ((Array.range (1*k)).map (z.cells[·%z.cells.size]!)) [(0,u)]=some (u.cells.zipIdx.foldl (fun cs (x:Value×Nat)=>cs.setIfInBounds (0*k+x.2) x.1) ((Array.range (1*k)).map (z.cells[·%z.cells.size]!))):=by simp only[Instr.fill];rw[ag (by simp[g])]
  simp only[h1];rw[<-Array.foldl_toList,Array.toList_zipIdx];simp[newRow]
 .simp[g]
theorem aln{t:TypeId}{len:Nat}{parts:Array (Nat×Operand)}{r:V}{s':St}(S:Sim C s L a w)(h:EU P s t len (parts.toList.map fun p=>(p.1,s.ev p.2))=some (r,s')) :
  ∃u w' L',(Instr.buildSlice t len (parts.map fun(i,x)=>(i,a.eval x))).run P w = .ok u w'/\Sim C s' L' a w'/\Rep L' w' r u:=by
 simp only[EU,bg,uD]at h
 obtain⟨e,he,k,bytes,hk,h⟩:=h
 split at h
 .rename_i v hp;simp[bg,dh]at h;obtain⟨l,hl,⟨h1,h2,h3,_⟩,rfl,rfl⟩:=h
  obtain⟨x,hx,hv⟩:∃x,parts=#[(0,x)]/\s.ev x=v:=by
   obtain⟨pl⟩:=parts
   cases pl with
   |nil=>simp at hp
   |cons p q =>
    cases q with
    |nil=>grind
    |cons=>simp at hp
  subst hx;have m:=S.ev x;rw[hv]at m;have c:=xE m hl;have d:(a.eval x).cells.size=k:=by have:=c.length;simp at this;omega
  obtain⟨f,h4,h5⟩:=alp (P:=P) (w:=w) he hk d h3;have n:f.size=k:=by have:=mV List.length h5;simpa[d]using this
  have G:=Grow.alloc w (.cells f e);have E:=S.wf.leBox (s:=s) w.heap.size;refine⟨_,_,L.addBox s.nid w.heap.size,by simpa using h4,S.grow G E rfl ?_ (S.wf.addBox S.hB Aa),.inr ⟨w.heap.size,1,f,by simp[Lay.addBox,upd],rfl,heap_alloc_new w _,az _,by simp[maxLen],by omega⟩⟩;intro b y hb;simp[upd]at hb;split at hb
  .rename_i j;subst j;simp at hb;subst hb;refine .inr (BoxOk.mk (g:=w.heap.size) (arr:=f) (by simp[Lay.addBox,upd]) (heap_alloc_new w _) ?_);rw[h5];exact(c.whole (S.wf.whole G E)).takeAll
  .grind
 .cases h
def BO(P:Program)[Tb P](t:TypeId):Bool:=match elemT P t with|some e=>Tb.nest P e|none=>false
def JS(x y:V):Bool :=
 match x with
 | .bs _ _ _ _ _=>true
 |_=>match y with | .bs _ _ _ _ _=>true|_=>false
mutual
def V.bo(id m:Nat):V->V
 | .c v => .c v
 | .sl .fz k xs => .sl .fz k xs
 | .sl .nn k xs => .sl .nn k xs
 | .sl (.own j e) k xs=>if j=id then .bs m e 0 k xs.length else .sl (.own j e) k xs
 | .agg cs => .agg (V.boL id m cs)
 | .tup cs => .tup (V.boL id m cs)
 | .ref b off => .ref b off
 | .el .fz k xs i off => .el .fz k xs i off
 | .el .nn k xs i off => .el .nn k xs i off
 | .el (.own j e) k xs i off=>if j=id then .ref m (i*k+off) else .el (.own j e) k xs i off
 | .fn f fs cs => .fn f (V.boL id m fs) (V.boL id m cs)
 | .top => .top
 | .nif => .nif
 | .mh i b => .mh i b
 | .bs b e o k n => .bs b e o k n
def V.boL(id m:Nat):List V->List V
 | []=>[]
 | x::xs=>V.bo id m x::V.boL id m xs
end
theorem MR(id m:Nat)(l:List V):V.boL id m l=l.map (V.bo id m):=by induction l<;>grind[V.boL]
def Lay.bo(L:Lay)(id m g:Nat):Lay:={A:=L.A,own:=fun j=>if j=id then none else L.own j,box:=upd L.box m (some g)}
theorem ap9{id m g:Nat}(hg:L.own id=some g)(hm:∀b g,L.box b=some g->b<m)(c:∃arr e,w.heap[g]?=some (.cells arr e (0,0))) :
  (∀v u,Rep L w v u->Rep (L.bo id m g) w (V.bo id m v) u)/\(∀l us,Reps L w l us->Reps (L.bo id m g) w (V.boL id m l) us):=by
 have K:Trans (Tag.is id) (fun _=>false) _root_.id _root_.id L (L.bo id m g) w w :=
  ⟨rfl,fun s h=>⟨h,.of rfl⟩,fun j e hj s h=>⟨⟨rfl,by
   have:j≠id:=by simpa[Tag.is]using hj
   simp[Lay.bo,this,h]⟩,rfl⟩,fun b _ s h=>⟨by
   have:=hm b s h
   simp[Lay.bo,upd,show b≠m by omega,h],.of rfl⟩⟩
 have p:∀v u,v.any (Tag.is id) (fun _=>false) false=false->Rep L w v u->Rep (L.bo id m g) w v u:=fun v u hv h=>by have:=h.trans rfl K hv;rwa [map_id.1]at this
 have y:(L.bo id m g).box m=some g:=by simp[Lay.bo,upd]
 refine V.ind ?_ ?_ ?_ ?_ ?_ ?_ ?_ ?_ ?_ ?_ ?_ ?_ ?_
 .intro v u h;exact h
 .intro u h;exact h
 .intro t k xs _ u h;cases t with
  |fz=>exact p _ _ rfl h
  |nn=>exact p _ _ rfl h
  |own j e =>
   simp only[V.bo];split
   .rename_i hj;subst hj;obtain⟨a,cap,cells,rfl,h2,⟨h3,rfl,rfl⟩|⟨s,arr,h3,rfl,h4,h5,C,E,F⟩⟩:=h
    .exact .inl ⟨h3,by rw[h3]⟩
    .rw[hg]at h3;simp only[aO]at h3;subst h3;exact .inr ⟨g,cap,arr,y,rfl,h4,h5,C,by rw[E];omega⟩
   .rename_i hj;exact p _ _ (by simp[V.any,Tag.is,hj]) h
 .intro i b u h;exact p _ _ rfl h
 .rintro cs A u ⟨a,h1,h2⟩;exact⟨a,h1,A _ h2⟩
 .rintro cs A u ⟨a,h1,h2⟩;exact⟨a,h1,A _ h2⟩
 .intro b o u h;exact p _ _ rfl h
 .intro b e o k n u h;exact p _ _ rfl h
 .intro t k xs i o _ u h;cases t with
  |fz=>exact p _ _ rfl h
  |nn=>exact p _ _ rfl h
  |own j e =>
   simp only[V.bo];split
   .rename_i hj;subst hj;obtain⟨s,G,cells,rfl,h2,h3,rfl,h4⟩:=h;rw[hg]at h3;simp only[aO]at h3;subst h3;exact⟨g,⟨y,c⟩,by rw[nM]⟩
   .rename_i hj;exact p _ _ (by simp[V.any,Tag.is,hj]) h
 .rintro f fs cs d q u ⟨a,b,h1,h2,h3⟩;exact⟨a,b,h1,d _ h2,q _ h3⟩
 .intro u _;trivial
 .intro us h;exact h
 .rintro x xs d q us ⟨u,r,h1,h2,h3⟩;exact⟨u,r,h1,d _ h2,q _ h3⟩
theorem Wf.bo{nid id g:Nat}(W:Wf C nid L w)(hg:L.own id=some g):Wf C (nid+1) (L.bo id nid g) w where
 nidO:=fun j c h=>by
  simp only[Lay.bo]at h;split at h
  .cases h
  .have:=W.nidO j c h;omega
 nidB:=fun b c h=>by
  simp only[Lay.bo,upd]at h;split at h
  .omega
  .have:=W.nidB b c h;omega
 own:=fun j c h=>by
  simp only[Lay.bo]at h;split at h
  .cases h
  .exact W.own j c h
 boxW:=fun b c h=>by
  simp only[Lay.bo,upd]at h;split at h
  .simp only[aO]at h;subst h;exact W.own id g hg
  .exact W.boxW b c h
 injO:=fun i j c h a=>by
  simp only[Lay.bo]at h a;split at h
  .cases h
  .split at a
   .cases a
   .exact W.injO i j c h a
 injB:=fun i j c h a=>by
  simp only[Lay.bo,upd]at h a;split at h<;>split at a
  .omega
  .simp only[aO]at h;subst h;exact(W.dis id j g hg a).elim
  .simp only[aO]at a;subst a;exact(W.dis id i g hg h).elim
  .exact W.injB i j c h a
 dis:=fun i j c h a=>by
  simp only[Lay.bo,upd]at h a;split at h
  .cases h
  .rename_i hi;split at a
   .simp only[aO]at a;subst a;exact hi (W.injO i id g h hg)
   .exact W.dis i j c h a
 old:=W.old
 frz:=W.frz
def boS(s:St)(id:Nat)(e:TypeId)(cs:List V):St :=
 {(s.mapV (V.bo id s.nid))with bx:=upd (fun j=>(s.bx j).map fun y=>(y.1,y.2.map (V.bo id s.nid))) s.nid (some (e,cs.map (V.bo id s.nid))),nid:=s.nid+1}
def FU(P:Program)(s:St)(t:TypeId)(id:Nat)(e:TypeId)(k:Nat)(xs:List V)(i off:Nat)(y:V):Option St :=
 if y.free=true then none else(rf k xs).bind fun cs=>oZ P (boS s id e cs) t s.nid (i*k+off) (V.bo id s.nid y)
theorem at7{t:TypeId}{id:Nat}{e:TypeId}{k i off:Nat}{xs:List V}{y:V}{u v:Value}{s':St}(h:FU P s t id e k xs i off y=some s')(S:Sim C s L a w)(r:Rep L w (.el (.own id e) k xs i off) u)(I:Rep L w y v) :
  ∃w' L',(Instr.storeAt t u v).run P w = .ok () w'/\Sim C s' L' a w':=by
 unfold FU at h
 split at h
 .cases h
 simp only[bg]at h
 obtain⟨cs,n,h⟩:=h
 have p:=r
 obtain⟨g,o,cells,rfl,h2,h3,rfl,arr,h4,h5⟩:=r
 have B:=ap9 (m:=s.nid) h3 (fun b g h=>S.wf.nidB b g h) ⟨arr,e,h4⟩
 have d:=B.1
 have f:=d _ _ p
 have E:V.bo id s.nid (.el (.own id e) k xs i off) = .ref s.nid (i*k+off):=by simp[V.bo]
 rw[E]at f
 have A:Sim C (boS s id e cs) (L.bo id s.nid g) a w:=by
  refine⟨S.defers,S.size,fun t=>d _ _ (S.env t),fun t=>d _ _ (S.hid t),?_,S.wf.bo h3,S.kp⟩;intro j x hj;simp only[boS,upd]at hj;split at hj
  .rename_i c;subst c;simp only[aO]at hj;subst hj;refine BoxOk.mk (g:=g) (arr:=arr) (by simp[Lay.bo,upd]) h4 ?_;have q:=Ut n h2;have F:=q.length;show Reps _ _ (cs.map (V.bo id s.nid)) (arr.toList.take (cs.map (V.bo id s.nid)).length);rw[aj,<-F,h5];exact Bf d q
  .rename_i c;simp only[bF]at hj;obtain⟨l,hl,rfl⟩:=hj;exact(S.box j l hl).keep rfl (aj ..) (fun M J=>⟨by simp[Lay.bo,upd,c,J],rfl⟩) (fun _ K=>Bf d K)
 obtain⟨w',G,H⟩:=QI h A f (d _ _ I)
 exact⟨w',_,G,H⟩
end
end Go.Pg
end
