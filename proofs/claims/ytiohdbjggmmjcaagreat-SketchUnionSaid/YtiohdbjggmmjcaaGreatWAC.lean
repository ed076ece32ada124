/-
  Merged texts.
-/
import Derived.Test.YtiohdbjggmmjcaaGreatWAB
set_option linter.unusedVariables false
set_option linter.unusedSimpArgs false
set_option linter.unusedSectionVars false
set_option linter.defProp false
set_option maxRecDepth 100000
set_option maxHeartbeats 8000000
section
namespace Go.Pg
open Go
def u8s:List V→Option (List Int)
 | []=>some []
 | .c (.int .u8 n)::r=>(u8s r).map (n::·)
 | _=>none
def unV(op:UnOp)(x:V):Option V :=
 match op,x with
 | .neg,.c (.int k n)=>some (.c (.int k (k.wrap (0-n))))
 | .xor,.c (.int k n)=>some (.c (.int k (bits .xor k (if k.signed then -1 else k.max) n)))
 | .not,.c (.bool b)=>some (.c (.bool (!b)))
 | _,_=>none
def Ue(P:Program)(t:TypeId):Option FloatKind:=match P.underlying t with|some (.float k)=>some k|_=>none
def PH(s:FloatKind)(b:Nat)(k:IntKind):Option Int:=match (s.decode b).toInt .zero with|some n=>if k.min≤n∧n≤k.max then some n else none|none=>none
def cxV(x y:V):Option V:=match x,y with | .c (.float k a),.c (.float k' b)=>if k=k' then some (.c (.complex k a b)) else none|_,_=>none
def reV(x:V):Option V:=match x with | .c (.complex k a _)=>some (.c (.float k a))|_=>none
def imV(x:V):Option V:=match x with | .c (.complex k _ b)=>some (.c (.float k b))|_=>none
def kW(P:Program)(src dst:TypeId)(x:V):Option V :=
 match qg P dst,x with
 | some k,.c (.int _ n)=>if (P.underlying src).isSome then some (.c (.int k (k.wrap n))) else none
 | none,.c (.int _ n)=>if (P.underlying src).isSome then (Ue P dst).map fun k => .c (.float k (k.nearest n)) else none
 | some k,.c (.float s b)=>if (P.underlying src).isSome then (PH s b k).map fun n => .c (.int k n) else none
 | _,.c (.string z)=>if (P.underlying src).isSome&&gy P dst then some (.c (.string z)) else none
 | _,.c (.slice none _ _)=>if ((elemT P src).bind (qg P))=some .u8&&gy P dst then some (.c (.string .empty)) else none
 | _,.sl _ k xs=>if ((elemT P src).bind (qg P))=some .u8&&gy P dst&&k == 1 then (u8s xs).map fun ns => .c (.string (strOfNums ns)) else none
 | _,_=>none
def qH(b:Bool)(x y:V):V :=
 match x,y with
 | .c (.bool p),.c (.bool q) => .c (.bool (bif b then p else q))
 | x,y=>bif b then x else y
def dY(P:Program)(t:TypeId)(cs:List V)(off:Nat):Option V :=
 match kZ P t with
 | some true=>(tsz P t).bind fun n=>if off+n≤cs.length then some (.agg ((cs.drop off).take n)) else none
 | some false=>cs[off]?
 | none=>none
def iaV(P:Program)(t:TypeId)(x i:V):Option V :=
 match x,i with
 | .sl tg k xs,.c (.int _ n)=>if (elemT P t).bind (tsz P)=some k∧0≤n∧n<xs.length then some (.el tg k xs n.toNat 0) else none
 | .ref b off,.c (.int _ n)=>(oN P t).bind fun (len,e)=>(tsz P e).bind fun k=>if 0≤n∧n<len then some (.ref b (off+n.toNat*k)) else none
 | .bs b _ o k m,.c (.int _ n)=>if (elemT P t).bind (tsz P)=some k∧0≤n∧n<m then some (.ref b (o+n.toNat*k)) else none
 | _,_=>none
def faV(P:Program)(t:TypeId)(x:V)(f:Nat):Option V :=
 (lg P t f).bind fun (ft,n)=>(tsz P ft).bind fun k=>if k=0 then none else
  match x with
  | .ref b off=>some (.ref b (off+n))
  | .el tg j xs i off=>some (.el tg j xs i (off+n))
  | _=>none
def wZ(P:Program)(t:TypeId)(x:V)(f:Nat):Option V :=
 match x with
 | .agg cs=>(lg P t f).bind fun (ft,n)=>dY P ft cs n
 | _=>none
def ixV(P:Program)(t:TypeId)(x i:V):Option V :=
 match x,i with
 | .c (.string z),.c (.int _ n)=>if gy P t=true∧0≤n∧n<z.size then some (.c (.int .u8 ((z.data.toList.getD n.toNat 0).toNat))) else none
 | .agg cs,.c (.int _ n)=>(oN P t).bind fun (len,e)=>(tsz P e).bind fun k=>if 0≤n∧n<len then dY P e cs (n.toNat*k) else none
 | _,_=>none
def bdV(x:Option V)(d:Nat):Option Int :=
 match x with
 | none=>some d
 | some (.c (.int _ n))=>some n
 | _=>none
def slV(P:Program)(t:TypeId)(x:V)(lo hi:Option V):Option V :=
 match x with
 | .c (.string z)=>(bdV lo 0).bind fun l=>(bdV hi z.size).bind fun h=>if gy P t=true∧0≤l∧l≤h∧h≤z.size then some (.c (.string (z.extract l.toNat h.toNat))) else none
 | .sl .fz k xs=>(bdV lo 0).bind fun l=>(bdV hi xs.length).bind fun h=>if (elemT P t).bind (tsz P)=some k∧0≤l∧l≤h∧h≤xs.length then some (.sl .fz k ((xs.take h.toNat).drop l.toNat)) else none
 | .c (.slice none 0 0)=>(bdV lo 0).bind fun l=>(bdV hi 0).bind fun h=>if ((elemT P t).bind (tsz P)).isSome∧l=0∧h=0 then some (.c (.slice none 0 0)) else none
 | .bs b be o k n=>(bdV lo 0).bind fun l=>(bdV hi n).bind fun h=>if (elemT P t).bind (tsz P)=some k∧0≤l∧l≤h∧h≤n∧(l=0∨l<n) then some (.bs b be (o+l.toNat*k) k (h.toNat-l.toNat)) else none
 | _=>none
def Ej(P:Program)(t:TypeId)(x:V):Option V :=
 match x with
 | .c (.string z)=>if gy P t then some (.c (.int .i64 z.size)) else none
 | .c (.slice none n _)=>if (elemT P t).isSome then some (.c (.int .i64 n)) else none
 | .sl _ _ xs=>if (elemT P t).isSome then some (.c (.int .i64 xs.length)) else none
 | .bs _ _ _ _ n=>if (elemT P t).isSome then some (.c (.int .i64 n)) else none
 | _=>none
def nR(mx:Bool)(x y:V):Option V :=
 match x,y with
 | .c (.int k a),.c (.int _ b)=>some (.c (.int k (if mx then (if b > a then b else a) else (if b<a then b else a))))
 | _,_=>none
def zH(P:Program)(t:TypeId):Option (List (Nat × Nat)) :=
 match P.underlying t with
 | some (.struct fs)=>fs.toList.mapM fun f=>(tsz P f.type).map fun n=>(f.offset,n)
 | some (.array n e)=>(tsz P e).map fun k=>(List.range n).map fun i=>(i*k,k)
 | _=>none
def qY(places:List (Nat × Nat))(cells:List V):List (Nat × V)→Option (List V)
 | []=>some cells
 | (i,v)::rest =>
  match places[i]?,v.cs with
  | some (off,size),some l=>if l.length=size∧off+l.length≤cells.length then qY places (cells.take off++l++cells.drop (off+l.length)) rest else none
  | _,_=>none
def uA(P:Program)(t:TypeId)(parts:List (Nat × V)):Option V :=
 (kV P t).bind fun z=>(zH P t).bind fun ps=>(qY ps (z.cells.toList.map .c) parts).map .agg
section
variable {P:Program} {L:Lay} {w:World}
theorem Row.cell{g o j:Nat}{cells:List Value}{v:Value}(h:Row w g o cells)(hj:cells[j]?=some v):w.cell? ⟨g,o+j,none⟩=some v:=by
 obtain⟨arr,e,fr,h1,h2⟩:=h
 rw[cell_of_row w g (o+j) arr e fr h1]
 rw[←h2,List.getElem?_take] at hj
 split at hj
 ·simpa [List.getElem?_drop] using hj
 ·cases hj
theorem ElMem.row{t:Tag}{g o:Nat}{cells:List Value}(h:ElMem L w t g o cells):Row w g o cells:=by
 cases t with
 | fz=>exact h.2
 | nn=>exact h.elim
 | own id e=>obtain⟨_,rfl,arr,h3,h4⟩:=h;exact⟨arr,e,_,h3,by simpa using h4⟩
theorem SlMem.el{t:Tag}{k:Nat}{a:Option Addr}{len cap:Nat}{cells:List Value}(h:SlMem L w t k a len cap cells)(h0:0<len)(hc:cells.length=len*k) :
  ∃g o,a=some ⟨g,o,none⟩∧ElMem L w t g o cells:=by
 cases t with
 | fz =>
  obtain⟨_,h|⟨g,o,h1,h2,h3⟩⟩:=h
  ·omega
  ·exact⟨g,o,h1,h2,h3⟩
 | nn=>have:=h.1;omega
 | own id e =>
  rcases h with ⟨h,_⟩|⟨g,arr,h1,h2,h3,h4,h5,h6,h7⟩
  ·omega
  ·exact⟨g,0,h2,h1,rfl,arr,h3,by rw[hc];exact h7⟩
theorem SlMem.le{t:Tag}{k:Nat}{a:Option Addr}{len cap:Nat}{cells:List Value}(h:SlMem L w t k a len cap cells):len≤cap:=by
 cases t with
 | fz=>exact h.1
 | nn=>have:=h.1;omega
 | own id e=>rcases h with ⟨h,_,_⟩|⟨g,arr,h1,h2,h3,h4,_⟩<;>omega
theorem dS(g o n:Nat):(⟨g,o,none⟩:Addr).add n=⟨g,o+n,none⟩:=Addr.add_lit g o n
theorem yE{t:TypeId}{cs:List V}{off g o:Nat}{r:V}{us:List Value}(h:dY P t cs off=some r)(hr:Reps L w cs us)(hw:Row w g o us) :
  ∃u,(loadVar t ⟨g,o+off,none⟩).run P w = .ok u w∧Rep L w r u:=by
 unfold dY at h
 split at h
 ·rename_i ha
  simp only[Option.bind_eq_some_iff,Option.ite_none_right_eq_some,Option.some.injEq] at h
  obtain⟨n,hn,hle,rfl⟩:=h
  have hl:=hr.length
  have hr':=(hr.drop off).take n
  have hlen:((us.drop off).take n).length=n:=by simp;omega
  have hc:∀j v,((us.drop off).take n)[j]?=some v→w.cell? ((⟨g,o+off,none⟩:Addr).add j)=some v:=by
   intro j v hj
   rw[dS,Nat.add_assoc]
   refine hw.cell ?_
   rw[List.getElem?_take] at hj
   split at hj
   ·simpa [List.getElem?_drop] using hj
   ·cases hj
  refine⟨.agg ((us.drop off).take n).toArray, ?_,_,rfl,by simpa using hr'⟩
  have:=run_loadCells_list (P:=P) w ⟨g,o+off,none⟩ _ hc
  rw[hlen] at this
  simp [loadVar,mG ha,gJ hn,this]
 ·rename_i ha
  obtain⟨u,hu,hru⟩:=hr.get h
  refine⟨u, ?_,hru⟩
  simp [loadVar,mG ha,hw.cell hu]
 ·cases h
theorem G5{t:TypeId}{cs:List V}{off:Nat}{r:V}{us:Array Value}(h:dY P t cs off=some r)(hr:Reps L w cs us.toList) :
  ∃u,(part t us off).run P w = .ok u w∧Rep L w r u:=by
 unfold dY at h
 split at h
 ·rename_i ha
  simp only[Option.bind_eq_some_iff,Option.ite_none_right_eq_some,Option.some.injEq] at h
  obtain⟨n,hn,hle,rfl⟩:=h
  have hr':=(hr.drop off).take n
  refine⟨.agg (us.extract off (off+n)),by simp [part,mG ha,gJ hn],_,rfl, ?_⟩
  rw[Array.toList_extract]
  simpa [List.extract_eq_take_drop] using hr'
 ·rename_i ha
  obtain⟨u,hu,hru⟩:=hr.get h
  refine⟨u, ?_,hru⟩
  simp at hu
  simp [part,mG ha,hu]
 ·cases h
theorem PI{xs:List V}{ns:List Int}{cells:List Value}(h:u8s xs=some ns)(r:RepE L w 1 xs cells):cells=ns.map (Value.int .u8):=by
 induction xs generalizing ns cells with
 | nil=>simp [u8s] at h;subst h;simpa [RepE] using r
 | cons x xs ih =>
  unfold u8s at h
  split at h
  ·rename_i heq;cases heq
  ·rename_i n r' heq
   simp only[List.cons.injEq] at heq
   obtain⟨rfl,rfl⟩:=heq
   simp only[Option.map_eq_some_iff] at h
   obtain⟨ns',h1,rfl⟩:=h
   obtain⟨u,rest,rfl,_,_,h4,h5⟩:=r
   simp only[Rep] at h4
   subst h4
   rw[ih h1 h5]
   rfl
  ·cases h
theorem Zr{op:UnOp}{x r:V}{u:Value}(h:unV op x=some r)(rx:Rep L w x u):∃v,(Op.unary op u).run P w = .ok v w∧Rep L w r v:=by
 unfold unV at h
 split at h
 ·simp only[Rep] at rx;subst rx;simp at h;subst h;exact⟨_,by simp [Op.unary,Op.intArith];rfl,by simp [Rep]⟩
 ·simp only[Rep] at rx;subst rx;simp only[Option.some.injEq] at h;subst h;exact⟨_,rfl,rfl⟩
 ·simp only[Rep] at rx;subst rx;simp at h;subst h;exact⟨_,rfl,rfl⟩
 ·cases h
theorem Uf{P:Program}{t:TypeId}{k:FloatKind}(h:Ue P t=some k):P.underlying t=some (.float k):=by
 unfold Ue at h
 split at h
 ·rename_i k' hk;simp only[Option.some.injEq] at h;subst h;exact hk
 ·cases h
theorem Zt{at_:Array TypeId}{ty:TypeId}{x y r:V}{ux uy:Value}(h:cxV x y=some r)(rx:Rep L w x ux)(ry:Rep L w y uy):∃v,(Builtin.complex_ at_ ty #[ux,uy]).run P w = .ok v w∧Rep L w r v:=by
 unfold cxV at h
 split at h
 ·simp only[Option.ite_none_right_eq_some,Option.some.injEq] at h
  obtain⟨rfl,rfl⟩:=h
  simp only[Rep] at rx ry;subst rx;subst ry
  rename_i k a b
  exact⟨.complex k a b,by cases k<;>rfl,by simp [Rep]⟩
 ·cases h
theorem Zu{at_:Array TypeId}{ty:TypeId}{x r:V}{ux:Value}(h:reV x=some r)(rx:Rep L w x ux):∃v,(Builtin.real_ at_ ty #[ux]).run P w = .ok v w∧Rep L w r v:=by
 unfold reV at h
 split at h
 ·simp only[Option.some.injEq] at h;subst h
  simp only[Rep] at rx;subst rx
  rename_i k a b
  exact⟨.float k a,rfl,by simp [Rep]⟩
 ·cases h
theorem Zv{at_:Array TypeId}{ty:TypeId}{x r:V}{ux:Value}(h:imV x=some r)(rx:Rep L w x ux):∃v,(Builtin.imag_ at_ ty #[ux]).run P w = .ok v w∧Rep L w r v:=by
 unfold imV at h
 split at h
 ·simp only[Option.some.injEq] at h;subst h
  simp only[Rep] at rx;subst rx
  rename_i k a b
  exact⟨.float k b,rfl,by simp [Rep]⟩
 ·cases h
theorem PK{src dst:TypeId}{x r:V}{u:Value}(h:kW P src dst x=some r)(rx:Rep L w x u):∃v,(convert src dst u).run P w = .ok v w∧Rep L w r v:=by
 unfold kW at h
 split at h
 ·rename_i k k' n hk
  simp only[Option.ite_none_right_eq_some,Option.some.injEq] at h
  obtain⟨h0,rfl⟩:=h
  obtain⟨d,hd⟩:=Option.isSome_iff_exists.1 h0
  simp only[Rep] at rx;subst rx
  exact⟨_,by simp [convert,run_underlying hd,run_underlying (mW hk),Conv.intToInt],rfl⟩
 ·simp only[Option.ite_none_right_eq_some,Option.map_eq_some_iff] at h
  obtain⟨h0,k,hk,rfl⟩:=h
  obtain⟨d,hd⟩:=Option.isSome_iff_exists.1 h0
  simp only[Rep] at rx;subst rx
  exact⟨_,by simp [convert,run_underlying hd,run_underlying (Uf hk),Conv.intToFloat],rfl⟩
 ·rename_i k s b hk
  simp only[Option.ite_none_right_eq_some,Option.map_eq_some_iff] at h
  obtain⟨h0,n,hn,rfl⟩:=h
  obtain⟨d,hd⟩:=Option.isSome_iff_exists.1 h0
  simp only[Rep] at rx;subst rx
  refine⟨_, ?_,rfl⟩
  unfold PH at hn
  split at hn
  ·rename_i m hm
   simp only[Option.ite_none_right_eq_some,Option.some.injEq] at hn
   obtain⟨h1,rfl⟩:=hn
   simp [convert,run_underlying hd,run_underlying (mW hk),Conv.floatToInt,hm,h1]
  ·cases hn
 ·rename_i z hk
  simp only[Option.ite_none_right_eq_some,Bool.and_eq_true,Option.some.injEq] at h
  obtain⟨⟨h0,h1⟩,rfl⟩:=h
  obtain⟨d,hd⟩:=Option.isSome_iff_exists.1 h0
  simp only[Rep] at rx;subst rx
  exact⟨_,by simp [convert,run_underlying hd,run_underlying (iL h1)],rfl⟩
 ·simp only[Option.ite_none_right_eq_some,Bool.and_eq_true,decide_eq_true_eq,Option.bind_eq_some_iff,Option.some.injEq] at h
  obtain⟨⟨⟨e,he,hk⟩,h1⟩,rfl⟩:=h
  simp only[Rep] at rx;subst rx
  exact⟨_,run_convert_bytes_nil w src e (bW he) (mW hk) _ _ dst (iL h1),rfl⟩
 ·rename_i t k xs
  simp only[Option.ite_none_right_eq_some,Bool.and_eq_true,decide_eq_true_eq,Option.bind_eq_some_iff,Option.map_eq_some_iff,beq_iff_eq] at h
  obtain⟨⟨⟨⟨e,he,hk⟩,h1⟩,rfl⟩,ns,hns,rfl⟩:=h
  obtain⟨a,cap,cells,rfl,h2,h3⟩:=rx
  have hcl:=h2.length
  have hce:=PI hns h2
  subst hce
  simp only[List.length_map,Nat.mul_one] at hcl
  rcases Nat.eq_zero_or_pos xs.length with h0|h0
  ·have hnn:ns=[]:=List.eq_nil_of_length_eq_zero (by omega)
   subst hnn
   refine⟨.string .empty, ?_, ?_⟩
   ·rw[h0,run_convert_bytes_string w src dst e a 0 cap (bW he) (mW hk) (iL h1)]
    cases a<;>simp [Conv.bytesToString,loadCells,loadCellsFrom]
   ·simp only[Rep];rfl
  ·obtain⟨g,o,rfl,h4⟩:=h3.el h0 (by simpa using hcl)
   refine⟨_,run_convert_bytes_arg w src e (bW he) (mW hk) g o _ cap ns hcl ?_ dst (iL h1),rfl⟩
   intro i hi
   refine h4.row.cell ?_
   simp [List.getElem?_eq_getElem (show i<ns.length by omega),List.getD]
 ·cases h
theorem PL{b:Bool}{x y:V}{ux uy:Value}(rx:Rep L w x ux)(ry:Rep L w y uy):Rep L w (qH b x y) (if b then ux else uy):=by
 unfold qH
 split
 ·simp only[Rep] at rx ry;subst rx;subst ry;cases b<;>simp [Rep]
 ·cases b<;>simpa
theorem Zw{t:TypeId}{x i r:V}{ux ui:Value}(h:iaV P t x i=some r)(rx:Rep L w x ux)(ri:Rep L w i ui):∃v,(Instr.indexAt t ux ui).run P w = .ok v w∧Rep L w r v:=by
 unfold iaV at h
 split at h
 ·rename_i tg k xs ik n
  simp only[Option.ite_none_right_eq_some,Option.bind_eq_some_iff,Option.some.injEq] at h
  obtain⟨⟨⟨e,he,hk⟩,h0,h1⟩,rfl⟩:=h
  simp only[Rep] at ri;subst ri
  obtain⟨a,cap,cells,rfl,h2,h3⟩:=rx
  obtain⟨g,o,rfl,h4⟩:=h3.el (by omega) h2.length
  have hu:=bW he
  refine⟨.pointer (some ⟨g,o+n.toNat*k,none⟩), ?_,g,o,cells,by simp,h2,h4⟩
  simp [Instr.indexAt,asIntOf,run_underlying hu,h0,h1,gJ hk,dS]
 ·rename_i b off ik n
  simp only[Option.bind_eq_some_iff,Option.ite_none_right_eq_some,Option.some.injEq,Prod.exists] at h
  obtain⟨len,e,he,k,hk,⟨h0,h1⟩,rfl⟩:=h
  simp only[Rep] at ri;subst ri
  obtain⟨g,hb,rfl⟩:=rx
  have hu:=uz he
  refine⟨.pointer (some ⟨g,off+n.toNat*k,none⟩), ?_,g,hb,rfl⟩
  simp [Instr.indexAt,asIntOf,run_underlying hu,Instr.sureAddr,h0,h1,gJ hk,dS]
 ·rename_i b be o kk m ik n
  simp only[Option.ite_none_right_eq_some,Option.some.injEq,Option.bind_eq_some_iff] at h
  obtain⟨⟨⟨e,he,hk⟩,h0,h1⟩,rfl⟩:=h
  simp only[Rep] at ri;subst ri
  obtain⟨hz,rfl⟩|⟨g,cap,arr,hb,rfl,hrest⟩:=rx
  ·subst hz;exact absurd h1 (by simp only[Int.ofNat_zero,Int.natCast_zero];omega)
  have hu:=bW he
  refine⟨.pointer (some ⟨g,o+n.toNat*kk,none⟩), ?_,g,hb,rfl⟩
  simp [Instr.indexAt,asIntOf,run_underlying hu,h0,h1,gJ hk,dS]
 ·cases h
theorem Zx{t:TypeId}{f:Nat}{x r:V}{ux:Value}(h:faV P t x f=some r)(rx:Rep L w x ux):∃v,(Instr.fieldAt t ux f).run P w = .ok v w∧Rep L w r v:=by
 simp only[faV,Option.bind_eq_some_iff,Prod.exists,Option.ite_none_left_eq_some] at h
 obtain⟨ft,n,hf,k,hk,hk0,h⟩:=h
 obtain⟨fs,fd,hu,hfd,h1,h2⟩:=Am hf
 subst h1 h2
 split at h
 ·rename_i b off
  simp only[Option.some.injEq] at h;subst h
  obtain⟨g,hb,rfl⟩:=rx
  refine⟨.pointer (some ⟨g,off+fd.offset,none⟩), ?_,g,hb,rfl⟩
  simp [Instr.fieldAt,run_underlying hu,hfd,Instr.sureAddr,fieldPlace,gJ hk,hk0,dS]
 ·rename_i tg j xs i off
  simp only[Option.some.injEq] at h;subst h
  obtain⟨g,o,cells,rfl,h3,h4⟩:=rx
  refine⟨.pointer (some ⟨g,o+i*j+(off+fd.offset),none⟩), ?_,g,o,cells,rfl,h3,h4⟩
  simp [Instr.fieldAt,run_underlying hu,hfd,Instr.sureAddr,fieldPlace,gJ hk,hk0,dS,Nat.add_assoc]
 ·cases h
theorem J5{t:TypeId}{f:Nat}{x r:V}{ux:Value}(h:wZ P t x f=some r)(rx:Rep L w x ux):∃v,(Instr.field t ux f).run P w = .ok v w∧Rep L w r v:=by
 unfold wZ at h
 split at h
 ·simp only[Option.bind_eq_some_iff,Prod.exists] at h
  obtain⟨ft,n,hf,h⟩:=h
  obtain⟨fs,fd,hu,hfd,h1,h2⟩:=Am hf
  subst h1 h2
  obtain⟨a,rfl,ra⟩:=rx
  obtain⟨u,h3,h4⟩:=G5 h ra
  exact⟨u,by simp [Instr.field,run_underlying hu,hfd,asAgg,h3],h4⟩
 ·cases h
theorem Zy{t:TypeId}{x i r:V}{ux ui:Value}(h:ixV P t x i=some r)(rx:Rep L w x ux)(ri:Rep L w i ui):∃v,(Instr.index t ux ui).run P w = .ok v w∧Rep L w r v:=by
 unfold ixV at h
 split at h
 ·rename_i z ik n
  simp only[Option.ite_none_right_eq_some,Option.some.injEq] at h
  obtain⟨⟨h0,h1,h2⟩,rfl⟩:=h
  simp only[Rep] at ri rx;subst ri;subst rx
  have hlt:n.toNat<z.size:=by omega
  have hg:z[n.toNat]?=some z[n.toNat]:=getElem?_pos z n.toNat hlt
  have hd:z.data.toList.getD n.toNat 0=z[n.toNat]:=by
   have:n.toNat<z.data.toList.length:=by simpa using hlt
   simp [List.getD,List.getElem?_eq_getElem this];rfl
  refine⟨.int .u8 (z[n.toNat]).toNat, ?_,by rw[hd];rfl⟩
  simp [Instr.index,asIntOf,run_underlying (iL h0),h1,hg]
 ·rename_i cs ik n
  simp only[Option.bind_eq_some_iff,Prod.exists,Option.ite_none_right_eq_some] at h
  obtain⟨len,e,he,k,hk,⟨h0,h1⟩,h⟩:=h
  simp only[Rep] at ri;subst ri
  obtain⟨a,rfl,ra⟩:=rx
  obtain⟨u,h3,h4⟩:=G5 h ra
  exact⟨u,by simp [Instr.index,asIntOf,run_underlying (uz he),h0,h1,gJ hk,h3],h4⟩
 ·cases h
theorem Ug{t ty:TypeId}{x r:V}{ux:Value}(h:Ej P t x=some r)(rx:Rep L w x ux):∃v,(Builtin.len_ #[t] ty #[ux]).run P w = .ok v w∧Rep L w r v:=by
 unfold Ej at h
 split at h
 ·simp only[Option.ite_none_right_eq_some,Option.some.injEq] at h
  obtain⟨h0,rfl⟩:=h
  simp only[Rep] at rx;subst rx
  exact⟨_,by simp [Builtin.len_,run_underlying (iL h0),goInt],rfl⟩
 ·simp only[Option.ite_none_right_eq_some,Option.some.injEq] at h
  obtain⟨h0,rfl⟩:=h
  obtain⟨e,he⟩:=Option.isSome_iff_exists.1 h0
  simp only[Rep] at rx;subst rx
  exact⟨_,by simp [Builtin.len_,run_underlying (bW he),goInt],rfl⟩
 ·simp only[Option.ite_none_right_eq_some,Option.some.injEq] at h
  obtain⟨h0,rfl⟩:=h
  obtain⟨e,he⟩:=Option.isSome_iff_exists.1 h0
  obtain⟨a,cap,cells,rfl,h2,h3⟩:=rx
  exact⟨_,by simp [Builtin.len_,run_underlying (bW he),goInt],rfl⟩
 ·simp only[Option.ite_none_right_eq_some,Option.some.injEq] at h
  obtain⟨h0,rfl⟩:=h
  obtain⟨e,he⟩:=Option.isSome_iff_exists.1 h0
  obtain⟨hz,rfl⟩|⟨g,cap,arr,hb,rfl,hrest⟩:=rx
  ·subst hz;exact⟨_,by simp [Builtin.len_,run_underlying (bW he),goInt],rfl⟩
  exact⟨_,by simp [Builtin.len_,run_underlying (bW he),goInt],rfl⟩
 ·cases h
theorem jO{x:Option V}{ux:Option Value}{d:Nat}{n:Int}(h:bdV x d=some n)(hx:x=none∧ux=none∨∃v u,x=some v∧ux=some u∧Rep L w v u) :
  (ux=none∧n=d)∨∃k,ux=some (.int k n):=by
 rcases hx with ⟨rfl,rfl⟩|⟨v,u,rfl,rfl,hr⟩
 ·simp [bdV] at h;exact .inl ⟨rfl,h.symm⟩
 ·unfold bdV at h
  split at h
  ·rename_i heq;cases heq
  ·rename_i k n' heq
   simp only[Option.some.injEq] at heq h
   subst heq;subst h
   simp only[Rep] at hr
   exact .inr ⟨k,by rw[hr]⟩
  ·cases h
theorem lm{isS:Bool}{len cap:Nat}{lo hi:Option Value}{l h:Int}(hlc:len≤cap)(hl:(lo=none∧l=(0:Nat))∨∃k,lo=some (.int k l))(hh:(hi=none∧h=len)∨∃k,hi=some (.int k h))
  (h0:0≤l) (h1:l≤h) (h2:h≤len):(Instr.sliceBounds isS len cap lo hi none).run P w = .ok (l.toNat,h.toNat,cap) w:=by
 have e:(h.toNat:Int)=h:=by omega
 have h3:0≤h:=by omega
 have h4:h≤cap:=by omega
 rcases hl with ⟨rfl,rfl⟩|⟨k,rfl⟩<;>rcases hh with ⟨rfl,rfl⟩|⟨k',rfl⟩ <;>
  simp [Instr.sliceBounds,Instr.sliceBound,asIntOf, *]
theorem NY{t:TypeId}{x r:V}{ux:Value}{lo hi:Option V}{ul uh:Option Value}(h:slV P t x lo hi=some r)(rx:Rep L w x ux)
  (rl:lo=none∧ul=none∨∃v u,lo=some v∧ul=some u∧Rep L w v u) (rh:hi=none∧uh=none∨∃v u,hi=some v∧uh=some u∧Rep L w v u) :
  ∃v,(Instr.sliceAt t ux ul uh none).run P w = .ok v w∧Rep L w r v:=by
 unfold slV at h
 split at h
 ·rename_i z
  simp only[Option.bind_eq_some_iff,Option.ite_none_right_eq_some,Option.some.injEq] at h
  obtain⟨l,hl,h',hh,⟨hs,h0,h1,h2⟩,rfl⟩:=h
  simp only[Rep] at rx;subst rx
  have hb:=lm (P:=P) (w:=w) (isS:=false) (Nat.le_refl _) (jO hl rl) (jO hh rh) h0 h1 h2
  exact⟨_,by simp [Instr.sliceAt,Instr.slice,run_underlying (iL hs),hb],rfl⟩
 ·rename_i k xs
  simp only[Option.bind_eq_some_iff,Option.ite_none_right_eq_some,Option.some.injEq] at h
  obtain⟨l,hl,h',hh,⟨⟨e,he,hk⟩,h0,h1,h2⟩,rfl⟩:=h
  obtain⟨a,cap,cells,rfl,h3,h4⟩:=rx
  have hle:=h4.le
  have hb:=lm (P:=P) (w:=w) (isS:=true) hle (jO hl rl) (jO hh rh) h0 h1 h2
  refine⟨.slice (if cap=l.toNat then a else a.map (·.add (l.toNat*k))) (h'.toNat-l.toNat) (cap-l.toNat), ?_, ?_⟩
  ·simp [Instr.sliceAt,Instr.slice,run_underlying (bW he),hb,gJ hk]
  ·have hlen:((xs.take h'.toNat).drop l.toNat).length=h'.toNat-l.toNat:=by simp;omega
   refine⟨_,_,(cells.take (h'.toNat*k)).drop (l.toNat*k),by rw[hlen],(h3.take _).drop _, ?_⟩
   rw[hlen]
   refine⟨by omega, ?_⟩
   rcases Nat.eq_zero_or_pos (h'.toNat-l.toNat) with hz|hz
   ·exact .inl hz
   ·right
    obtain⟨g,o,rfl,hA,arr,ea,fr,h5,h6⟩:=h4.el (by omega) h3.length
    refine⟨g,o+l.toNat*k, ?_,hA,arr,ea,fr,h5, ?_⟩
    ·rw[if_neg (by omega)];simp [dS]
    ·rw[←h6]
     have hcl:cells.length=xs.length*k:=h3.length
     simp only[←List.drop_drop]
     have:(((arr.toList.drop o).take cells.length).take (h'.toNat*k))=(arr.toList.drop o).take (h'.toNat*k):=by
      rw[List.take_take,Nat.min_eq_left]
      rw[hcl];exact Nat.mul_le_mul_right _ (by omega)
     rw[this,List.drop_take]
     simp only[List.length_take,List.length_drop]
     congr 1
     have h8:cells.length≤arr.toList.length-o:=by
      have:=congrArg List.length h6
      simp only[List.length_take,List.length_drop] at this
      omega
     have h9:h'.toNat*k≤xs.length*k:=Nat.mul_le_mul_right _ (by omega)
     omega
 ·simp only[Option.bind_eq_some_iff,Option.ite_none_right_eq_some,Option.some.injEq] at h
  obtain⟨l,hl,h',hh,⟨hs,rfl,rfl⟩,rfl⟩:=h
  simp only[Rep] at rx;subst rx
  obtain⟨k,hk⟩:=Option.isSome_iff_exists.1 hs
  simp only[Option.bind_eq_some_iff] at hk
  obtain⟨e,he,hk⟩:=hk
  have hb:=lm (P:=P) (w:=w) (isS:=true) (len:=0) (cap:=0) (Nat.le_refl _) (jO hl rl) (jO hh rh) (by decide) (by decide) (by decide)
  exact⟨_,by simp [Instr.sliceAt,Instr.slice,run_underlying (bW he),hb,gJ hk],rfl⟩
 ·rename_i b be o k n
  simp only[Option.bind_eq_some_iff,Option.ite_none_right_eq_some,Option.some.injEq] at h
  obtain⟨l,hl,h',hh,⟨⟨e,he,hk⟩,h0,h1,h2,h9⟩,rfl⟩:=h
  obtain⟨hz,rfl⟩|⟨g,cap,arr,hg,rfl,ha,hc1,hc2,hc3⟩:=rx
  ·subst hz
   have hl0:l=0:=by omega
   have hh0:h'=0:=by omega
   subst hl0 hh0
   have hb:=lm (P:=P) (w:=w) (isS:=true) (len:=0) (cap:=0) (Nat.le_refl _) (jO hl rl) (jO hh rh) (by decide) (by decide) (by decide)
   exact⟨_,by simp [Instr.sliceAt,Instr.slice,run_underlying (bW he),hb,gJ hk],.inl ⟨rfl,rfl⟩⟩
  ·have hb:=lm (P:=P) (w:=w) (isS:=true) hc1 (jO hl rl) (jO hh rh) h0 h1 h2
   have hlc:l.toNat≤cap:=by omega
   have hm:l.toNat*k+(cap-l.toNat)*k=cap*k:=by rw[←Nat.add_mul];congr 1;omega
   refine⟨.slice (some ⟨g,o+l.toNat*k,none⟩) (h'.toNat-l.toNat) (cap-l.toNat), ?_,.inr ⟨g,cap-l.toNat,arr,hg,rfl,ha,by omega,by omega,by omega⟩⟩
   have hif:(if cap=l.toNat then (⟨g,o,none⟩:Addr) else (⟨g,o,none⟩:Addr).add (l.toNat*k))=⟨g,o+l.toNat*k,none⟩:=by
    split
    ·have:l.toNat=0:=by omega
     simp [this]
    ·simp [dS]
   have hif2:(if cap=l.toNat then some (⟨g,o,none⟩:Addr) else (some (⟨g,o,none⟩:Addr)).map (·.add (l.toNat*k)))=some ⟨g,o+l.toNat*k,none⟩:=by
    rw[←hif];split<;>rfl
   simp only[Option.map_some] at hif2
   simp [Instr.sliceAt,Instr.slice,run_underlying (bW he),hb,gJ hk,hif2]
 ·cases h
theorem Uh{t:TypeId}{tg:Tag}{k i off:Nat}{xs:List V}{ux:Value}{x r:V}{cs:List V}(rx:Rep L w (.el tg k xs i off) ux)(hx:xs[i]?=some x)(hc:x.cs=some cs)(h:dY P t cs off=some r) :
  ∃v,(Instr.loadAt t ux).run P w = .ok v w∧Rep L w r v:=by
 obtain⟨g,o,cells,rfl,h3,h4⟩:=rx
 obtain⟨u,h5,h6,h7,h8⟩:=h3.get hx
 have hrow:Row w g (o+i*k) u.cells.toList:=by
  obtain⟨arr,e,fr,h9,h10⟩:=h4.row
  refine⟨arr,e,fr,h9, ?_⟩
  have hi:i<xs.length:=(List.getElem?_eq_some_iff.1 hx).1
  have hcl:cells.length=xs.length*k:=h3.length
  have hik:i*k+k≤xs.length*k:=by
   have:=Nat.mul_le_mul_right k (show i+1≤xs.length from hi)
   rwa [Nat.add_mul,Nat.one_mul] at this
  rw[←h5,←h10,←List.drop_drop,List.drop_take]
  simp only[List.length_take,List.length_drop,List.take_take,Array.length_toList]
  have hal:cells.length≤arr.size-o:=by
   have:=congrArg List.length h10
   simp only[List.length_take,List.length_drop,Array.length_toList] at this
   omega
  congr 1
  omega
 obtain⟨v,h9,h10⟩:=yE h (qh h8 hc) hrow
 exact⟨v,by simpa [Instr.loadAt,Instr.sureAddr] using h9,h10⟩
theorem yG{mx:Bool}{at_:Array TypeId}{ty:TypeId}{x y r:V}{ux uy:Value}(h:nR mx x y=some r)(rx:Rep L w x ux)(ry:Rep L w y uy) :
  ∃v,(if mx then Builtin.max_ at_ ty #[ux,uy] else Builtin.min_ at_ ty #[ux,uy]:Sem Value).run P w = .ok v w∧Rep L w r v:=by
 unfold nR at h
 split at h
 ·simp only[Option.some.injEq] at h;subst h
  simp only[Rep] at rx ry;subst rx;subst ry
  cases mx
  ·exact⟨_,by simp [Builtin.min_,Builtin.min2];rfl,by simp [Rep]⟩
  ·exact⟨_,by simp [Builtin.max_,Builtin.max2];rfl,by simp [Rep]⟩
 ·cases h
theorem uB(vs:List Value):∀(j off:Nat) (cs:Array Value),off+j+vs.length≤cs.size →
  ((vs.zipIdx j).foldl (fun (cs:Array Value) (x:Value × Nat)=>cs.setIfInBounds (off+x.2) x.1) cs).toList=cs.toList.take (off+j)++vs++cs.toList.drop (off+j+vs.length):=by
 induction vs with
 | nil=>intro j off cs _;simp
 | cons v vs ih =>
  intro j off cs h
  simp only[List.length_cons] at h
  simp only[List.zipIdx_cons,List.foldl_cons]
  rw[ih (j+1) off _ (by simp;omega)]
  have e:=list_seg_step cs.toList (off+j) v vs (by simpa using by omega)
  simpa [Array.toList_setIfInBounds,Nat.add_assoc] using e
theorem DI(ps:List (Nat × Nat))(place:Nat→Option (Nat × Nat))(hp:∀i x,ps[i]?=some x→place i=some x)(sv:Operand→V)(se:Operand→Value)(hs:∀x,Rep L w (sv x) (se x)) :
  ∀(parts:List (Nat × Operand)) (cells r:List V) (ucells:Array Value),
  qY ps cells (parts.map fun p=>(p.1,sv p.2))=some r→Reps L w cells ucells.toList →
  ∃ur,Instr.fill place ucells (parts.map fun p=>(p.1,se p.2))=some ur∧Reps L w r ur.toList:=by
 intro parts
 induction parts with
 | nil =>
  intro cells r ucells h hr
  simp only[List.map_nil,qY,Option.some.injEq] at h
  subst h
  exact⟨ucells,rfl,hr⟩
 | cons p rest ih =>
   intro cells r ucells h hr
   obtain⟨i,x⟩:=p
   have hv:=hs x
   simp only[List.map_cons,qY] at h ⊢
   generalize sv x=v at hv h
   generalize se x=u at hv ⊢
   split at h
   ·rename_i off size l hpl hcs
    simp only[Option.ite_none_right_eq_some] at h
    obtain⟨⟨h1,h2⟩,h⟩:=h
    have hrl:=qh hv hcs
    have hll:=hrl.length
    have hcl:=hr.length
    simp only[Array.length_toList] at hll hcl
    have hfold:=uB u.cells.toList 0 off ucells (by simp;omega)
    simp only[Nat.add_zero,Array.length_toList,hll] at hfold
    have hr':Reps L w (cells.take off++l++cells.drop (off+l.length)) (u.cells.zipIdx.foldl (fun cs (x:Value × Nat)=>cs.setIfInBounds (off+x.2) x.1) ucells).toList:=by
     rw[←Array.foldl_toList,Array.toList_zipIdx,hfold]
     exact ((hr.take off).append hrl).append (hr.drop _)
    obtain⟨ur,h3,h4⟩:=ih _ r _ h hr'
    refine⟨ur, ?_,h4⟩
    simp only[Instr.fill,hp _ _ hpl]
    rw[if_neg (by simp [hll];omega)]
    exact h3
   ·cases h
theorem JY(fs:List Field):∀(ps:List (Nat × Nat)),(fs.mapM fun f=>(tsz P f.type).map fun n=>(f.offset,n))=some ps →
  (fs.mapM fun f=>(do pure (f.offset,←sizeOf f.type):Sem (Nat × Nat))).run P w = .ok ps w:=by
 induction fs with
 | nil=>intro ps h;simp at h;subst h;rfl
 | cons f fs ih =>
  intro ps h
  simp only[List.mapM_cons,Option.bind_eq_bind,Option.bind_eq_some_iff,Option.map_eq_some_iff,Option.pure_def,Option.some.injEq] at h
  obtain⟨p,⟨n,hn,rfl⟩,ps',h1,rfl⟩:=h
  simp only[List.mapM_cons,Sem.run_bind,gJ hn,Result.andThen_ok,ih ps' h1,Sem.run_pure]
theorem J6{t:TypeId}{parts:Array (Nat × Operand)}(sv:Operand→V)(se:Operand→Value)(hs:∀x,Rep L w (sv x) (se x)){r:V}(h:uA P t (parts.toList.map fun p=>(p.1,sv p.2))=some r) :
  ∃v,(Instr.build t (parts.map fun (i,x)=>(i,se x))).run P w = .ok v w∧Rep L w r v:=by
 simp only[uA,Option.bind_eq_some_iff,Option.map_eq_some_iff] at h
 obtain⟨z,hz,ps,hps,cs,hcs,rfl⟩:=h
 unfold zH at hps
 split at hps
 ·rename_i fs hu
  obtain⟨ur,h1,h2⟩:=DI (L:=L) (w:=w) ps (ps.toArray[·]?) (fun i x h=>by simpa using h) sv se hs parts.toList _ cs z.cells hcs (qf L w _)
  have hm:=JY (P:=P) (w:=w) fs.toList ps hps
  have hm':(fs.mapM fun f=>(do pure (f.offset,←sizeOf f.type):Sem (Nat × Nat))).run P w = .ok ps.toArray w:=by
   rw[Array.mapM_eq_mapM_toList,Sem.run_map,hm];rfl
  refine⟨.agg ur, ?_,_,rfl,h2⟩
  simp only[Instr.build,Sem.run_bind,lh hz,Result.andThen_ok,run_underlying hu,hm',Array.toList_map,h1,Sem.run_pure]
 ·rename_i n e hu
  simp only[Option.map_eq_some_iff] at hps
  obtain⟨k,hk,rfl⟩:=hps
  obtain⟨ur,h1,h2⟩:=DI (L:=L) (w:=w) _ (fun i=>some (i*k,k)) (fun i x h=>by
   simp only[List.getElem?_map,Option.map_eq_some_iff] at h
   obtain⟨j,hj,rfl⟩:=h
   have:=(List.getElem?_eq_some_iff.1 hj).2
   rw[List.getElem_range] at this
   rw[this]) sv se hs parts.toList _ cs z.cells hcs (qf L w _)
  refine⟨.agg ur, ?_,_,rfl,h2⟩
  simp only[Instr.build,Sem.run_bind,lh hz,Result.andThen_ok,run_underlying hu,gJ hk,Array.toList_map,h1,Sem.run_pure]
 ·cases hps
end
end Go.Pg
end
