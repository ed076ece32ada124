/-
  Texts of this claim, merged; own names are short.
-/
import Derived.Test.YtjiolbcdfgclaaaGreatDoorWAA
import Derived.Deep.AppendSrc
import Derived.Laws.OwnMore
set_option linter.unusedVariables false
set_option linter.unusedSimpArgs false
set_option linter.unusedSectionVars false
set_option linter.defProp false
set_option maxRecDepth 100000
set_option maxHeartbeats 8000000
section
namespace Go.Pg
open Go
def u8s:List V→Option (List Int)
 | []=>some []
 | .c (.int .u8 n)::r=>(u8s r).map (n::·)
 | _=>none
def unV(op:UnOp)(x:V):Option V :=
 match op,x with
 | .neg,.c (.int k n)=>some (.c (.int k (k.wrap (0-n))))
 | .xor,.c (.int k n)=>some (.c (.int k (bits .xor k (if k.signed then -1 else k.max) n)))
 | .not,.c (.bool b)=>some (.c (.bool (!b)))
 | _,_=>none
def mM(P:Program)(src dst:TypeId)(x:V):Option V :=
 match rY P dst,x with
 | some k,.c (.int _ n)=>if (P.underlying src).isSome then some (.c (.int k (k.wrap n))) else none
 | _,.c (.string z)=>if (P.underlying src).isSome&&ji P dst then some (.c (.string z)) else none
 | _,.c (.slice none _ _)=>if ((elemT P src).bind (rY P))=some .u8&&ji P dst then some (.c (.string .empty)) else none
 | _,.sl _ k xs=>if ((elemT P src).bind (rY P))=some .u8&&ji P dst&&k == 1 then (u8s xs).map fun ns => .c (.string (strOfNums ns)) else none
 | _,_=>none
def tZ(b:Bool)(x y:V):V :=
 match x,y with
 | .c (.bool p),.c (.bool q) => .c (.bool (bif b then p else q))
 | x,y=>bif b then x else y
def EI(P:Program)(t:TypeId)(cs:List V)(off:Nat):Option V :=
 match mV P t with
 | some true=>(tsz P t).bind fun n=>if off+n≤cs.length then some (.agg ((cs.drop off).take n)) else none
 | some false=>cs[off]?
 | none=>none
def iaV(P:Program)(t:TypeId)(x i:V):Option V :=
 match x,i with
 | .sl tg k xs,.c (.int _ n)=>if (elemT P t).bind (tsz P)=some k∧0≤n∧n<xs.length then some (.el tg k xs n.toNat 0) else none
 | .ref b off,.c (.int _ n)=>(jD P t).bind fun (len,e)=>(tsz P e).bind fun k=>if 0≤n∧n<len then some (.ref b (off+n.toNat*k)) else none
 | _,_=>none
def faV(P:Program)(t:TypeId)(x:V)(f:Nat):Option V :=
 (mW P t f).bind fun (ft,n)=>(tsz P ft).bind fun k=>if k=0 then none else
  match x with
  | .ref b off=>some (.ref b (off+n))
  | .el tg j xs i off=>some (.el tg j xs i (off+n))
  | _=>none
def zx(P:Program)(t:TypeId)(x:V)(f:Nat):Option V :=
 match x with
 | .agg cs=>(mW P t f).bind fun (ft,n)=>EI P ft cs n
 | _=>none
def ixV(P:Program)(t:TypeId)(x i:V):Option V :=
 match x,i with
 | .c (.string z),.c (.int _ n)=>if ji P t=true∧0≤n∧n<z.size then some (.c (.int .u8 ((z.data.toList.getD n.toNat 0).toNat))) else none
 | .agg cs,.c (.int _ n)=>(jD P t).bind fun (len,e)=>(tsz P e).bind fun k=>if 0≤n∧n<len then EI P e cs (n.toNat*k) else none
 | _,_=>none
def bdV(x:Option V)(d:Nat):Option Int :=
 match x with
 | none=>some d
 | some (.c (.int _ n))=>some n
 | _=>none
def slV(P:Program)(t:TypeId)(x:V)(lo hi:Option V):Option V :=
 match x with
 | .c (.string z)=>(bdV lo 0).bind fun l=>(bdV hi z.size).bind fun h=>if ji P t=true∧0≤l∧l≤h∧h≤z.size then some (.c (.string (z.extract l.toNat h.toNat))) else none
 | .sl .fz k xs=>(bdV lo 0).bind fun l=>(bdV hi xs.length).bind fun h=>if (elemT P t).bind (tsz P)=some k∧0≤l∧l≤h∧h≤xs.length then some (.sl .fz k ((xs.take h.toNat).drop l.toNat)) else none
 | .c (.slice none 0 0)=>(bdV lo 0).bind fun l=>(bdV hi 0).bind fun h=>if ((elemT P t).bind (tsz P)).isSome∧l=0∧h=0 then some (.c (.slice none 0 0)) else none
 | _=>none
def Je(P:Program)(t:TypeId)(x:V):Option V :=
 match x with
 | .c (.string z)=>if ji P t then some (.c (.int .i64 z.size)) else none
 | .c (.slice none n _)=>if (elemT P t).isSome then some (.c (.int .i64 n)) else none
 | .sl _ _ xs=>if (elemT P t).isSome then some (.c (.int .i64 xs.length)) else none
 | _=>none
def qx(mx:Bool)(x y:V):Option V :=
 match x,y with
 | .c (.int k a),.c (.int _ b)=>some (.c (.int k (if mx then (if b > a then b else a) else (if b<a then b else a))))
 | _,_=>none
def xC(P:Program)(t:TypeId):Option (List (Nat × Nat)) :=
 match P.underlying t with
 | some (.struct fs)=>fs.toList.mapM fun f=>(tsz P f.type).map fun n=>(f.offset,n)
 | some (.array n e)=>(tsz P e).map fun k=>(List.range n).map fun i=>(i*k,k)
 | _=>none
def ut(places:List (Nat × Nat))(cells:List V):List (Nat × V)→Option (List V)
 | []=>some cells
 | (i,v)::rest =>
  match places[i]?,v.cs with
  | some (off,size),some l=>if l.length=size∧off+l.length≤cells.length then ut places (cells.take off++l++cells.drop (off+l.length)) rest else none
  | _,_=>none
def wM(P:Program)(t:TypeId)(parts:List (Nat × V)):Option V :=
 (tY P t).bind fun z=>(xC P t).bind fun ps=>(ut ps (z.cells.toList.map .c) parts).map .agg
section
variable {P:Program} {L:Lay} {w:World}
theorem Row.cell{g o j:Nat}{cells:List Value}{v:Value}(h:Row w g o cells)(hj:cells[j]?=some v):w.cell? ⟨g,o+j,none⟩=some v:=by
 obtain⟨arr,e,fr,h1,h2⟩:=h
 rw[cell_of_row w g (o+j) arr e fr h1]
 rw[←h2,List.getElem?_take] at hj
 split at hj
 ·simpa [List.getElem?_drop] using hj
 ·cases hj
theorem ElMem.row{t:Tag}{g o:Nat}{cells:List Value}(h:ElMem L w t g o cells):Row w g o cells:=by
 cases t with
 | fz=>exact h.2
 | nn=>exact h.elim
 | own id e=>obtain⟨_,rfl,arr,h3,h4⟩:=h;exact⟨arr,e,_,h3,by simpa using h4⟩
theorem SlMem.el{t:Tag}{k:Nat}{a:Option Addr}{len cap:Nat}{cells:List Value}(h:SlMem L w t k a len cap cells)(h0:0<len)(hc:cells.length=len*k) :
  ∃g o,a=some ⟨g,o,none⟩∧ElMem L w t g o cells:=by
 cases t with
 | fz =>
  obtain⟨_,h|⟨g,o,h1,h2,h3⟩⟩:=h
  ·omega
  ·exact⟨g,o,h1,h2,h3⟩
 | nn=>have:=h.1;omega
 | own id e =>
  rcases h with ⟨h,_⟩|⟨g,arr,h1,h2,h3,h4,h5,h6,h7⟩
  ·omega
  ·exact⟨g,0,h2,h1,rfl,arr,h3,by rw[hc];exact h7⟩
theorem SlMem.le{t:Tag}{k:Nat}{a:Option Addr}{len cap:Nat}{cells:List Value}(h:SlMem L w t k a len cap cells):len≤cap:=by
 cases t with
 | fz=>exact h.1
 | nn=>have:=h.1;omega
 | own id e=>rcases h with ⟨h,_,_⟩|⟨g,arr,h1,h2,h3,h4,_⟩<;>omega
theorem kU(g o n:Nat):(⟨g,o,none⟩:Addr).add n=⟨g,o+n,none⟩:=Addr.add_lit g o n
theorem AA{t:TypeId}{cs:List V}{off g o:Nat}{r:V}{us:List Value}(h:EI P t cs off=some r)(hr:Reps L w cs us)(hw:Row w g o us) :
  ∃u,(loadVar t ⟨g,o+off,none⟩).run P w = .ok u w∧Rep L w r u:=by
 unfold EI at h
 split at h
 ·rename_i ha
  simp only[Option.bind_eq_some_iff,Option.ite_none_right_eq_some,Option.some.injEq] at h
  obtain⟨n,hn,hle,rfl⟩:=h
  have hl:=hr.length
  have hr':=(hr.drop off).take n
  have hlen:((us.drop off).take n).length=n:=by simp;omega
  have hc:∀j v,((us.drop off).take n)[j]?=some v→w.cell? ((⟨g,o+off,none⟩:Addr).add j)=some v:=by
   intro j v hj
   rw[kU,Nat.add_assoc]
   refine hw.cell ?_
   rw[List.getElem?_take] at hj
   split at hj
   ·simpa [List.getElem?_drop] using hj
   ·cases hj
  refine⟨.agg ((us.drop off).take n).toArray, ?_,_,rfl,by simpa using hr'⟩
  have:=run_loadCells_list (P:=P) w ⟨g,o+off,none⟩ _ hc
  rw[hlen] at this
  simp [loadVar,pq ha,jE hn,this]
 ·rename_i ha
  obtain⟨u,hu,hru⟩:=hr.get h
  refine⟨u, ?_,hru⟩
  simp [loadVar,pq ha,hw.cell hu]
 ·cases h
theorem Jf{t:TypeId}{cs:List V}{off:Nat}{r:V}{us:Array Value}(h:EI P t cs off=some r)(hr:Reps L w cs us.toList) :
  ∃u,(part t us off).run P w = .ok u w∧Rep L w r u:=by
 unfold EI at h
 split at h
 ·rename_i ha
  simp only[Option.bind_eq_some_iff,Option.ite_none_right_eq_some,Option.some.injEq] at h
  obtain⟨n,hn,hle,rfl⟩:=h
  have hr':=(hr.drop off).take n
  refine⟨.agg (us.extract off (off+n)),by simp [part,pq ha,jE hn],_,rfl, ?_⟩
  rw[Array.toList_extract]
  simpa [List.extract_eq_take_drop] using hr'
 ·rename_i ha
  obtain⟨u,hu,hru⟩:=hr.get h
  refine⟨u, ?_,hru⟩
  simp at hu
  simp [part,pq ha,hu]
 ·cases h
theorem Ti{xs:List V}{ns:List Int}{cells:List Value}(h:u8s xs=some ns)(r:RepE L w 1 xs cells):cells=ns.map (Value.int .u8):=by
 induction xs generalizing ns cells with
 | nil=>simp [u8s] at h;subst h;simpa [RepE] using r
 | cons x xs ih =>
  unfold u8s at h
  split at h
  ·rename_i heq;cases heq
  ·rename_i n r' heq
   simp only[List.cons.injEq] at heq
   obtain⟨rfl,rfl⟩:=heq
   simp only[Option.map_eq_some_iff] at h
   obtain⟨ns',h1,rfl⟩:=h
   obtain⟨u,rest,rfl,_,_,h4,h5⟩:=r
   simp only[Rep] at h4
   subst h4
   rw[ih h1 h5]
   rfl
  ·cases h
theorem acX{op:UnOp}{x r:V}{u:Value}(h:unV op x=some r)(rx:Rep L w x u):∃v,(Op.unary op u).run P w = .ok v w∧Rep L w r v:=by
 unfold unV at h
 split at h
 ·simp only[Rep] at rx;subst rx;simp at h;subst h;exact⟨_,by simp [Op.unary,Op.intArith];rfl,by simp [Rep]⟩
 ·simp only[Rep] at rx;subst rx;simp only[Option.some.injEq] at h;subst h;exact⟨_,rfl,rfl⟩
 ·simp only[Rep] at rx;subst rx;simp at h;subst h;exact⟨_,rfl,rfl⟩
 ·cases h
theorem Tj{src dst:TypeId}{x r:V}{u:Value}(h:mM P src dst x=some r)(rx:Rep L w x u):∃v,(convert src dst u).run P w = .ok v w∧Rep L w r v:=by
 unfold mM at h
 split at h
 ·rename_i k k' n hk
  simp only[Option.ite_none_right_eq_some,Option.some.injEq] at h
  obtain⟨h0,rfl⟩:=h
  obtain⟨d,hd⟩:=Option.isSome_iff_exists.1 h0
  simp only[Rep] at rx;subst rx
  exact⟨_,by simp [convert,run_underlying hd,run_underlying (qY hk),Conv.intToInt],rfl⟩
 ·rename_i z hk
  simp only[Option.ite_none_right_eq_some,Bool.and_eq_true,Option.some.injEq] at h
  obtain⟨⟨h0,h1⟩,rfl⟩:=h
  obtain⟨d,hd⟩:=Option.isSome_iff_exists.1 h0
  simp only[Rep] at rx;subst rx
  exact⟨_,by simp [convert,run_underlying hd,run_underlying (kS h1)],rfl⟩
 ·simp only[Option.ite_none_right_eq_some,Bool.and_eq_true,decide_eq_true_eq,Option.bind_eq_some_iff,Option.some.injEq] at h
  obtain⟨⟨⟨e,he,hk⟩,h1⟩,rfl⟩:=h
  simp only[Rep] at rx;subst rx
  exact⟨_,run_convert_bytes_nil w src e (dY he) (qY hk) _ _ dst (kS h1),rfl⟩
 ·rename_i t k xs
  simp only[Option.ite_none_right_eq_some,Bool.and_eq_true,decide_eq_true_eq,Option.bind_eq_some_iff,Option.map_eq_some_iff,beq_iff_eq] at h
  obtain⟨⟨⟨⟨e,he,hk⟩,h1⟩,rfl⟩,ns,hns,rfl⟩:=h
  obtain⟨a,cap,cells,rfl,h2,h3⟩:=rx
  have hcl:=h2.length
  have hce:=Ti hns h2
  subst hce
  simp only[List.length_map,Nat.mul_one] at hcl
  rcases Nat.eq_zero_or_pos xs.length with h0|h0
  ·have hnn:ns=[]:=List.eq_nil_of_length_eq_zero (by omega)
   subst hnn
   refine⟨.string .empty, ?_, ?_⟩
   ·rw[h0,run_convert_bytes_string w src dst e a 0 cap (dY he) (qY hk) (kS h1)]
    cases a<;>simp [Conv.bytesToString,loadCells,loadCellsFrom]
   ·simp only[Rep];rfl
  ·obtain⟨g,o,rfl,h4⟩:=h3.el h0 (by simpa using hcl)
   refine⟨_,run_convert_bytes_arg w src e (dY he) (qY hk) g o _ cap ns hcl ?_ dst (kS h1),rfl⟩
   intro i hi
   refine h4.row.cell ?_
   simp [List.getElem?_eq_getElem (show i<ns.length by omega),List.getD]
 ·cases h
theorem Tm{b:Bool}{x y:V}{ux uy:Value}(rx:Rep L w x ux)(ry:Rep L w y uy):Rep L w (tZ b x y) (if b then ux else uy):=by
 unfold tZ
 split
 ·simp only[Rep] at rx ry;subst rx;subst ry;cases b<;>simp [Rep]
 ·cases b<;>simpa
theorem acY{t:TypeId}{x i r:V}{ux ui:Value}(h:iaV P t x i=some r)(rx:Rep L w x ux)(ri:Rep L w i ui):∃v,(Instr.indexAt t ux ui).run P w = .ok v w∧Rep L w r v:=by
 unfold iaV at h
 split at h
 ·rename_i tg k xs ik n
  simp only[Option.ite_none_right_eq_some,Option.bind_eq_some_iff,Option.some.injEq] at h
  obtain⟨⟨⟨e,he,hk⟩,h0,h1⟩,rfl⟩:=h
  simp only[Rep] at ri;subst ri
  obtain⟨a,cap,cells,rfl,h2,h3⟩:=rx
  obtain⟨g,o,rfl,h4⟩:=h3.el (by omega) h2.length
  have hu:=dY he
  refine⟨.pointer (some ⟨g,o+n.toNat*k,none⟩), ?_,g,o,cells,by simp,h2,h4⟩
  simp [Instr.indexAt,asIntOf,run_underlying hu,h0,h1,jE hk,kU]
 ·rename_i b off ik n
  simp only[Option.bind_eq_some_iff,Option.ite_none_right_eq_some,Option.some.injEq,Prod.exists] at h
  obtain⟨len,e,he,k,hk,⟨h0,h1⟩,rfl⟩:=h
  simp only[Rep] at ri;subst ri
  obtain⟨g,hb,rfl⟩:=rx
  have hu:=wK he
  refine⟨.pointer (some ⟨g,off+n.toNat*k,none⟩), ?_,g,hb,rfl⟩
  simp [Instr.indexAt,asIntOf,run_underlying hu,Instr.sureAddr,h0,h1,jE hk,kU]
 ·cases h
theorem acZ{t:TypeId}{f:Nat}{x r:V}{ux:Value}(h:faV P t x f=some r)(rx:Rep L w x ux):∃v,(Instr.fieldAt t ux f).run P w = .ok v w∧Rep L w r v:=by
 simp only[faV,Option.bind_eq_some_iff,Prod.exists,Option.ite_none_left_eq_some] at h
 obtain⟨ft,n,hf,k,hk,hk0,h⟩:=h
 obtain⟨fs,fd,hu,hfd,h1,h2⟩:=Ce hf
 subst h1 h2
 split at h
 ·rename_i b off
  simp only[Option.some.injEq] at h;subst h
  obtain⟨g,hb,rfl⟩:=rx
  refine⟨.pointer (some ⟨g,off+fd.offset,none⟩), ?_,g,hb,rfl⟩
  simp [Instr.fieldAt,run_underlying hu,hfd,Instr.sureAddr,fieldPlace,jE hk,hk0,kU]
 ·rename_i tg j xs i off
  simp only[Option.some.injEq] at h;subst h
  obtain⟨g,o,cells,rfl,h3,h4⟩:=rx
  refine⟨.pointer (some ⟨g,o+i*j+(off+fd.offset),none⟩), ?_,g,o,cells,rfl,h3,h4⟩
  simp [Instr.fieldAt,run_underlying hu,hfd,Instr.sureAddr,fieldPlace,jE hk,hk0,kU,Nat.add_assoc]
 ·cases h
theorem MW{t:TypeId}{f:Nat}{x r:V}{ux:Value}(h:zx P t x f=some r)(rx:Rep L w x ux):∃v,(Instr.field t ux f).run P w = .ok v w∧Rep L w r v:=by
 unfold zx at h
 split at h
 ·simp only[Option.bind_eq_some_iff,Prod.exists] at h
  obtain⟨ft,n,hf,h⟩:=h
  obtain⟨fs,fd,hu,hfd,h1,h2⟩:=Ce hf
  subst h1 h2
  obtain⟨a,rfl,ra⟩:=rx
  obtain⟨u,h3,h4⟩:=Jf h ra
  exact⟨u,by simp [Instr.field,run_underlying hu,hfd,asAgg,h3],h4⟩
 ·cases h
theorem ac0{t:TypeId}{x i r:V}{ux ui:Value}(h:ixV P t x i=some r)(rx:Rep L w x ux)(ri:Rep L w i ui):∃v,(Instr.index t ux ui).run P w = .ok v w∧Rep L w r v:=by
 unfold ixV at h
 split at h
 ·rename_i z ik n
  simp only[Option.ite_none_right_eq_some,Option.some.injEq] at h
  obtain⟨⟨h0,h1,h2⟩,rfl⟩:=h
  simp only[Rep] at ri rx;subst ri;subst rx
  have hlt:n.toNat<z.size:=by omega
  have hg:z[n.toNat]?=some z[n.toNat]:=getElem?_pos z n.toNat hlt
  have hd:z.data.toList.getD n.toNat 0=z[n.toNat]:=by
   have:n.toNat<z.data.toList.length:=by simpa using hlt
   simp [List.getD,List.getElem?_eq_getElem this];rfl
  refine⟨.int .u8 (z[n.toNat]).toNat, ?_,by rw[hd];rfl⟩
  simp [Instr.index,asIntOf,run_underlying (kS h0),h1,hg]
 ·rename_i cs ik n
  simp only[Option.bind_eq_some_iff,Prod.exists,Option.ite_none_right_eq_some] at h
  obtain⟨len,e,he,k,hk,⟨h0,h1⟩,h⟩:=h
  simp only[Rep] at ri;subst ri
  obtain⟨a,rfl,ra⟩:=rx
  obtain⟨u,h3,h4⟩:=Jf h ra
  exact⟨u,by simp [Instr.index,asIntOf,run_underlying (wK he),h0,h1,jE hk,h3],h4⟩
 ·cases h
theorem WU{t ty:TypeId}{x r:V}{ux:Value}(h:Je P t x=some r)(rx:Rep L w x ux):∃v,(Builtin.len_ #[t] ty #[ux]).run P w = .ok v w∧Rep L w r v:=by
 unfold Je at h
 split at h
 ·simp only[Option.ite_none_right_eq_some,Option.some.injEq] at h
  obtain⟨h0,rfl⟩:=h
  simp only[Rep] at rx;subst rx
  exact⟨_,by simp [Builtin.len_,run_underlying (kS h0),goInt],rfl⟩
 ·simp only[Option.ite_none_right_eq_some,Option.some.injEq] at h
  obtain⟨h0,rfl⟩:=h
  obtain⟨e,he⟩:=Option.isSome_iff_exists.1 h0
  simp only[Rep] at rx;subst rx
  exact⟨_,by simp [Builtin.len_,run_underlying (dY he),goInt],rfl⟩
 ·simp only[Option.ite_none_right_eq_some,Option.some.injEq] at h
  obtain⟨h0,rfl⟩:=h
  obtain⟨e,he⟩:=Option.isSome_iff_exists.1 h0
  obtain⟨a,cap,cells,rfl,h2,h3⟩:=rx
  exact⟨_,by simp [Builtin.len_,run_underlying (dY he),goInt],rfl⟩
 ·cases h
theorem qy{x:Option V}{ux:Option Value}{d:Nat}{n:Int}(h:bdV x d=some n)(hx:x=none∧ux=none∨∃v u,x=some v∧ux=some u∧Rep L w v u) :
  (ux=none∧n=d)∨∃k,ux=some (.int k n):=by
 rcases hx with ⟨rfl,rfl⟩|⟨v,u,rfl,rfl,hr⟩
 ·simp [bdV] at h;exact .inl ⟨rfl,h.symm⟩
 ·unfold bdV at h
  split at h
  ·rename_i heq;cases heq
  ·rename_i k n' heq
   simp only[Option.some.injEq] at heq h
   subst heq;subst h
   simp only[Rep] at hr
   exact .inr ⟨k,by rw[hr]⟩
  ·cases h
theorem rZ{isS:Bool}{len cap:Nat}{lo hi:Option Value}{l h:Int}(hlc:len≤cap)(hl:(lo=none∧l=(0:Nat))∨∃k,lo=some (.int k l))(hh:(hi=none∧h=len)∨∃k,hi=some (.int k h))
  (h0:0≤l) (h1:l≤h) (h2:h≤len):(Instr.sliceBounds isS len cap lo hi none).run P w = .ok (l.toNat,h.toNat,cap) w:=by
 have e:(h.toNat:Int)=h:=by omega
 have h3:0≤h:=by omega
 have h4:h≤cap:=by omega
 rcases hl with ⟨rfl,rfl⟩|⟨k,rfl⟩<;>rcases hh with ⟨rfl,rfl⟩|⟨k',rfl⟩ <;>
  simp [Instr.sliceBounds,Instr.sliceBound,asIntOf, *]
theorem QB{t:TypeId}{x r:V}{ux:Value}{lo hi:Option V}{ul uh:Option Value}(h:slV P t x lo hi=some r)(rx:Rep L w x ux)
  (rl:lo=none∧ul=none∨∃v u,lo=some v∧ul=some u∧Rep L w v u) (rh:hi=none∧uh=none∨∃v u,hi=some v∧uh=some u∧Rep L w v u) :
  ∃v,(Instr.sliceAt t ux ul uh none).run P w = .ok v w∧Rep L w r v:=by
 unfold slV at h
 split at h
 ·rename_i z
  simp only[Option.bind_eq_some_iff,Option.ite_none_right_eq_some,Option.some.injEq] at h
  obtain⟨l,hl,h',hh,⟨hs,h0,h1,h2⟩,rfl⟩:=h
  simp only[Rep] at rx;subst rx
  have hb:=rZ (P:=P) (w:=w) (isS:=false) (Nat.le_refl _) (qy hl rl) (qy hh rh) h0 h1 h2
  exact⟨_,by simp [Instr.sliceAt,Instr.slice,run_underlying (kS hs),hb],rfl⟩
 ·rename_i k xs
  simp only[Option.bind_eq_some_iff,Option.ite_none_right_eq_some,Option.some.injEq] at h
  obtain⟨l,hl,h',hh,⟨⟨e,he,hk⟩,h0,h1,h2⟩,rfl⟩:=h
  obtain⟨a,cap,cells,rfl,h3,h4⟩:=rx
  have hle:=h4.le
  have hb:=rZ (P:=P) (w:=w) (isS:=true) hle (qy hl rl) (qy hh rh) h0 h1 h2
  refine⟨.slice (if cap=l.toNat then a else a.map (·.add (l.toNat*k))) (h'.toNat-l.toNat) (cap-l.toNat), ?_, ?_⟩
  ·simp [Instr.sliceAt,Instr.slice,run_underlying (dY he),hb,jE hk]
  ·have hlen:((xs.take h'.toNat).drop l.toNat).length=h'.toNat-l.toNat:=by simp;omega
   refine⟨_,_,(cells.take (h'.toNat*k)).drop (l.toNat*k),by rw[hlen],(h3.take _).drop _, ?_⟩
   rw[hlen]
   refine⟨by omega, ?_⟩
   rcases Nat.eq_zero_or_pos (h'.toNat-l.toNat) with hz|hz
   ·exact .inl hz
   ·right
    obtain⟨g,o,rfl,hA,arr,ea,fr,h5,h6⟩:=h4.el (by omega) h3.length
    refine⟨g,o+l.toNat*k, ?_,hA,arr,ea,fr,h5, ?_⟩
    ·rw[if_neg (by omega)];simp [kU]
    ·rw[←h6]
     have hcl:cells.length=xs.length*k:=h3.length
     simp only[←List.drop_drop]
     have:(((arr.toList.drop o).take cells.length).take (h'.toNat*k))=(arr.toList.drop o).take (h'.toNat*k):=by
      rw[List.take_take,Nat.min_eq_left]
      rw[hcl];exact Nat.mul_le_mul_right _ (by omega)
     rw[this,List.drop_take]
     simp only[List.length_take,List.length_drop]
     congr 1
     have h8:cells.length≤arr.toList.length-o:=by
      have:=congrArg List.length h6
      simp only[List.length_take,List.length_drop] at this
      omega
     have h9:h'.toNat*k≤xs.length*k:=Nat.mul_le_mul_right _ (by omega)
     omega
 ·simp only[Option.bind_eq_some_iff,Option.ite_none_right_eq_some,Option.some.injEq] at h
  obtain⟨l,hl,h',hh,⟨hs,rfl,rfl⟩,rfl⟩:=h
  simp only[Rep] at rx;subst rx
  obtain⟨k,hk⟩:=Option.isSome_iff_exists.1 hs
  simp only[Option.bind_eq_some_iff] at hk
  obtain⟨e,he,hk⟩:=hk
  have hb:=rZ (P:=P) (w:=w) (isS:=true) (len:=0) (cap:=0) (Nat.le_refl _) (qy hl rl) (qy hh rh) (by decide) (by decide) (by decide)
  exact⟨_,by simp [Instr.sliceAt,Instr.slice,run_underlying (dY he),hb,jE hk],rfl⟩
 ·cases h
theorem WV{t:TypeId}{tg:Tag}{k i off:Nat}{xs:List V}{ux:Value}{x r:V}{cs:List V}(rx:Rep L w (.el tg k xs i off) ux)(hx:xs[i]?=some x)(hc:x.cs=some cs)(h:EI P t cs off=some r) :
  ∃v,(Instr.loadAt t ux).run P w = .ok v w∧Rep L w r v:=by
 obtain⟨g,o,cells,rfl,h3,h4⟩:=rx
 obtain⟨u,h5,h6,h7,h8⟩:=h3.get hx
 have hrow:Row w g (o+i*k) u.cells.toList:=by
  obtain⟨arr,e,fr,h9,h10⟩:=h4.row
  refine⟨arr,e,fr,h9, ?_⟩
  have hi:i<xs.length:=(List.getElem?_eq_some_iff.1 hx).1
  have hcl:cells.length=xs.length*k:=h3.length
  have hik:i*k+k≤xs.length*k:=by
   have:=Nat.mul_le_mul_right k (show i+1≤xs.length from hi)
   rwa [Nat.add_mul,Nat.one_mul] at this
  rw[←h5,←h10,←List.drop_drop,List.drop_take]
  simp only[List.length_take,List.length_drop,List.take_take,Array.length_toList]
  have hal:cells.length≤arr.size-o:=by
   have:=congrArg List.length h10
   simp only[List.length_take,List.length_drop,Array.length_toList] at this
   omega
  congr 1
  omega
 obtain⟨v,h9,h10⟩:=AA h (wL h8 hc) hrow
 exact⟨v,by simpa [Instr.loadAt,Instr.sureAddr] using h9,h10⟩
theorem AB{mx:Bool}{at_:Array TypeId}{ty:TypeId}{x y r:V}{ux uy:Value}(h:qx mx x y=some r)(rx:Rep L w x ux)(ry:Rep L w y uy) :
  ∃v,(if mx then Builtin.max_ at_ ty #[ux,uy] else Builtin.min_ at_ ty #[ux,uy]:Sem Value).run P w = .ok v w∧Rep L w r v:=by
 unfold qx at h
 split at h
 ·simp only[Option.some.injEq] at h;subst h
  simp only[Rep] at rx ry;subst rx;subst ry
  cases mx
  ·exact⟨_,by simp [Builtin.min_,Builtin.min2];rfl,by simp [Rep]⟩
  ·exact⟨_,by simp [Builtin.max_,Builtin.max2];rfl,by simp [Rep]⟩
 ·cases h
theorem Cj(vs:List Value):∀(j off:Nat) (cs:Array Value),off+j+vs.length≤cs.size →
  ((vs.zipIdx j).foldl (fun (cs:Array Value) (x:Value × Nat)=>cs.setIfInBounds (off+x.2) x.1) cs).toList=cs.toList.take (off+j)++vs++cs.toList.drop (off+j+vs.length):=by
 induction vs with
 | nil=>intro j off cs _;simp
 | cons v vs ih =>
  intro j off cs h
  simp only[List.length_cons] at h
  simp only[List.zipIdx_cons,List.foldl_cons]
  rw[ih (j+1) off _ (by simp;omega)]
  have e:=list_seg_step cs.toList (off+j) v vs (by simpa using by omega)
  simpa [Array.toList_setIfInBounds,Nat.add_assoc] using e
theorem Fp(ps:List (Nat × Nat))(place:Nat→Option (Nat × Nat))(hp:∀i x,ps[i]?=some x→place i=some x)(sv:Operand→V)(se:Operand→Value)(hs:∀x,Rep L w (sv x) (se x)) :
  ∀(parts:List (Nat × Operand)) (cells r:List V) (ucells:Array Value),
  ut ps cells (parts.map fun p=>(p.1,sv p.2))=some r→Reps L w cells ucells.toList →
  ∃ur,Instr.fill place ucells (parts.map fun p=>(p.1,se p.2))=some ur∧Reps L w r ur.toList:=by
 intro parts
 induction parts with
 | nil =>
  intro cells r ucells h hr
  simp only[List.map_nil,ut,Option.some.injEq] at h
  subst h
  exact⟨ucells,rfl,hr⟩
 | cons p rest ih =>
   intro cells r ucells h hr
   obtain⟨i,x⟩:=p
   have hv:=hs x
   simp only[List.map_cons,ut] at h ⊢
   generalize sv x=v at hv h
   generalize se x=u at hv ⊢
   split at h
   ·rename_i off size l hpl hcs
    simp only[Option.ite_none_right_eq_some] at h
    obtain⟨⟨h1,h2⟩,h⟩:=h
    have hrl:=wL hv hcs
    have hll:=hrl.length
    have hcl:=hr.length
    simp only[Array.length_toList] at hll hcl
    have hfold:=Cj u.cells.toList 0 off ucells (by simp;omega)
    simp only[Nat.add_zero,Array.length_toList,hll] at hfold
    have hr':Reps L w (cells.take off++l++cells.drop (off+l.length)) (u.cells.zipIdx.foldl (fun cs (x:Value × Nat)=>cs.setIfInBounds (off+x.2) x.1) ucells).toList:=by
     rw[←Array.foldl_toList,Array.toList_zipIdx,hfold]
     exact ((hr.take off).append hrl).append (hr.drop _)
    obtain⟨ur,h3,h4⟩:=ih _ r _ h hr'
    refine⟨ur, ?_,h4⟩
    simp only[Instr.fill,hp _ _ hpl]
    rw[if_neg (by simp [hll];omega)]
    exact h3
   ·cases h
theorem Be(fs:List Field):∀(ps:List (Nat × Nat)),(fs.mapM fun f=>(tsz P f.type).map fun n=>(f.offset,n))=some ps →
  (fs.mapM fun f=>(do pure (f.offset,←sizeOf f.type):Sem (Nat × Nat))).run P w = .ok ps w:=by
 induction fs with
 | nil=>intro ps h;simp at h;subst h;rfl
 | cons f fs ih =>
  intro ps h
  simp only[List.mapM_cons,Option.bind_eq_bind,Option.bind_eq_some_iff,Option.map_eq_some_iff,Option.pure_def,Option.some.injEq] at h
  obtain⟨p,⟨n,hn,rfl⟩,ps',h1,rfl⟩:=h
  simp only[List.mapM_cons,Sem.run_bind,jE hn,Result.andThen_ok,ih ps' h1,Sem.run_pure]
theorem MX{t:TypeId}{parts:Array (Nat × Operand)}(sv:Operand→V)(se:Operand→Value)(hs:∀x,Rep L w (sv x) (se x)){r:V}(h:wM P t (parts.toList.map fun p=>(p.1,sv p.2))=some r) :
  ∃v,(Instr.build t (parts.map fun (i,x)=>(i,se x))).run P w = .ok v w∧Rep L w r v:=by
 simp only[wM,Option.bind_eq_some_iff,Option.map_eq_some_iff] at h
 obtain⟨z,hz,ps,hps,cs,hcs,rfl⟩:=h
 unfold xC at hps
 split at hps
 ·rename_i fs hu
  obtain⟨ur,h1,h2⟩:=Fp (L:=L) (w:=w) ps (ps.toArray[·]?) (fun i x h=>by simpa using h) sv se hs parts.toList _ cs z.cells hcs (zu L w _)
  have hm:=Be (P:=P) (w:=w) fs.toList ps hps
  have hm':(fs.mapM fun f=>(do pure (f.offset,←sizeOf f.type):Sem (Nat × Nat))).run P w = .ok ps.toArray w:=by
   rw[Array.mapM_eq_mapM_toList,Sem.run_map,hm];rfl
  refine⟨.agg ur, ?_,_,rfl,h2⟩
  simp only[Instr.build,Sem.run_bind,qZ hz,Result.andThen_ok,run_underlying hu,hm',Array.toList_map,h1,Sem.run_pure]
 ·rename_i n e hu
  simp only[Option.map_eq_some_iff] at hps
  obtain⟨k,hk,rfl⟩:=hps
  obtain⟨ur,h1,h2⟩:=Fp (L:=L) (w:=w) _ (fun i=>some (i*k,k)) (fun i x h=>by
   simp only[List.getElem?_map,Option.map_eq_some_iff] at h
   obtain⟨j,hj,rfl⟩:=h
   have:=(List.getElem?_eq_some_iff.1 hj).2
   rw[List.getElem_range] at this
   rw[this]) sv se hs parts.toList _ cs z.cells hcs (zu L w _)
  refine⟨.agg ur, ?_,_,rfl,h2⟩
  simp only[Instr.build,Sem.run_bind,qZ hz,Result.andThen_ok,run_underlying hu,jE hk,Array.toList_map,h1,Sem.run_pure]
 ·cases hps
end
end Go.Pg
end
section
namespace Go.Pg
open Go
def V.one:V→Bool
 | .c v=>v.oneCell'
 | .agg _=>false
 | .tup _=>false
 | .top=>false
 | .sl _ _ _=>true
 | .ref _ _=>true
 | .el _ _ _ _ _=>true
 | .fn _ _ _=>true
 | .nif=>true
def aJ(id:Nat)(v:V):V:=if v.has id then .top else v
def frz(id:Nat)(v:V):V:=v.map (fun t=>if t.is id then .fz else t) _root_.id
def ay(id k i:Nat)(x:V)(v:V):V :=
 match v with
 | .sl (.own j e) k' xs=>if j=id then (if k'=k then .sl (.own j e) k' (xs.set i x) else .top) else .sl (.own j e) k' xs
 | .el (.own j e) k' xs i' off=>if j=id then (if k'=k then .el (.own j e) k' (xs.set i x) i' off else .top) else .el (.own j e) k' xs i' off
 | v=>aJ id v
def St.mapV(s:St)(ψ:V→V):St:={ env:=fun t=>ψ (s.env t),bx:=fun b=>(s.bx b).map fun x=>(x.1,x.2.map ψ),nid:=s.nid,hd:=fun t=>ψ (s.hd t) }
structure Grow (w w':World):Prop where
 os:w'.os=w.os
 tape:w'.tape=w.tape
 output:w'.output=w.output
 size:w.heap.size≤w'.heap.size
 block:∀k,k<w.heap.size→w'.heap[k]?=w.heap[k]?
theorem Grow.kp{w w':World}(G:Grow w w')(Wr:Nat→Prop){B:Nat}(hB:B≤w.heap.size):Kp Wr B w w' :=
 ⟨G.os,G.tape,G.output,G.size,fun k hk _=>G.block k (by omega)⟩
theorem Grow.alloc(w:World)(o:Obj):Grow w (w.alloc o):=⟨rfl,rfl,rfl,by simp,fun k hk=>RowKit.Below.heap_alloc w o k hk⟩
theorem Grow.drewAlloc(w:World)(o:Obj):Grow w (w.drew.alloc o):=⟨rfl,rfl,rfl,by simp,fun k hk=>RowKit.Below.heap_alloc w.drew o k hk⟩
structure Lay.Le (L L':Lay):Prop where
 A:∀g,L.A g→L'.A g
 own:∀i g,L.own i=some g→L'.own i=some g
 box:∀b g,L.box b=some g→L'.box b=some g
section
variable {P:Program} {C:Cx} {s:St} {L L':Lay} {a:Act} {w w':World}
theorem Sim.hB(S:Sim C s L a w):C.B≤w.heap.size:=S.kp.size
theorem Wf.whole(W:Wf C s.nid L w)(G:Grow w w')(E:L.Le L'):Whole L L' w w' where
 fz':=rfl
 A:=fun g h=>⟨E.A g h,.of (G.block g (W.old g h))⟩
 own:=fun id _ _ g h=>⟨⟨rfl,E.own id g h⟩,G.block g (W.own id g h).1⟩
 box:=fun b _ g h=>E.box b g h
theorem BoxOk.grow{b:Nat}{cs:TypeId × List V}(W:Wf C s.nid L w)(G:Grow w w')(E:L.Le L')(h:BoxOk L w b cs):BoxOk L' w' b cs:=by
 obtain⟨g,arr,h1,h2,h3⟩:=h
 exact⟨g,arr,E.box b g h1,(G.block g (W.boxW b g h1).1).trans h2,h3.whole (W.whole G E)⟩
theorem Sim.grow{s':St}(S:Sim C s L a w)(G:Grow w w')(E:L.Le L')(he:s'.env=s.env)(hb:∀b cs,s'.bx b=some cs→s.bx b=some cs∨BoxOk L' w' b cs)(wf:Wf C s'.nid L' w')(hh:s'.hd=s.hd:=by rfl):Sim C s' L' a w' where
 defers:=S.defers
 size:=S.size
 env:=fun t=>by rw[he];exact (S.env t).whole (S.wf.whole G E)
 hid:=fun t=>by rw[hh];exact (S.hid t).whole (S.wf.whole G E)
 box:=fun b cs h=>(hb b cs h).elim (fun h=>(S.box b cs h).grow S.wf G E) id
 wf:=wf
 kp:=S.kp.trans (G.kp C.Wr S.hB)
def Lay.addOwn(L:Lay)(i g:Nat):Lay:={ L with own:=upd L.own i (some g) }
def Lay.addBox(L:Lay)(i g:Nat):Lay:={ L with box:=upd L.box i (some g) }
def Lay.addA(L:Lay)(g:Nat):Lay:={ L with A:=fun x=>L.A x∨x=g }
theorem Wf.leOwn(W:Wf C s.nid L w)(g:Nat):L.Le (L.addOwn s.nid g) :=
 ⟨fun _ h=>h,fun i g' h=>by have:=W.nidO i g' h;simp [Lay.addOwn,upd,show i≠s.nid by omega,h],fun _ _ h=>h⟩
theorem Wf.leBox(W:Wf C s.nid L w)(g:Nat):L.Le (L.addBox s.nid g) :=
 ⟨fun _ h=>h,fun _ _ h=>h,fun i g' h=>by have:=W.nidB i g' h;simp [Lay.addBox,upd,show i≠s.nid by omega,h]⟩
theorem Lay.leA(L:Lay)(g:Nat):L.Le (L.addA g):=⟨fun _ h => .inl h,fun _ _ h=>h,fun _ _ h=>h⟩
theorem Wf.addOwn{nid:Nat}(W:Wf C nid L w)(hB:C.B≤w.heap.size)(hs:w.heap.size<w'.heap.size):Wf C (nid+1) (L.addOwn nid w.heap.size) w' where
 nidO:=fun id g h=>by
  simp only[Lay.addOwn,upd] at h
  split at h
  ·omega
  ·have:=W.nidO id g h;omega
 nidB:=fun b g h=>by have:=W.nidB b g h;omega
 own:=fun id g h=>by
  simp only[Lay.addOwn,upd] at h
  split at h
  ·simp only[Option.some.injEq] at h;subst h;exact⟨hs,.inl hB,fun h=>by have:=W.old _ h;omega⟩
  ·obtain⟨h1,h2,h3⟩:=W.own id g h;exact⟨by omega,h2,h3⟩
 boxW:=fun b g h=>by obtain⟨h1,h2,h3⟩:=W.boxW b g h;exact⟨by omega,h2,h3⟩
 injO:=fun i j g h h'=>by
  simp only[Lay.addOwn,upd] at h h'
  split at h<;>split at h'
  ·omega
  ·simp only[Option.some.injEq] at h;subst h;have:=(W.own j _ h').1;omega
  ·simp only[Option.some.injEq] at h';subst h';have:=(W.own i _ h).1;omega
  ·exact W.injO i j g h h'
 injB:=W.injB
 dis:=fun i j g h h'=>by
  simp only[Lay.addOwn,upd] at h
  split at h
  ·simp only[Option.some.injEq] at h;subst h;have:=(W.boxW j _ h').1;omega
  ·exact W.dis i j g h h'
 old:=fun g h=>by have:=W.old g h;omega
 frz:=W.frz
theorem Wf.addBox{nid:Nat}(W:Wf C nid L w)(hB:C.B≤w.heap.size)(hs:w.heap.size<w'.heap.size):Wf C (nid+1) (L.addBox nid w.heap.size) w' where
 nidO:=fun b g h=>by have:=W.nidO b g h;omega
 nidB:=fun id g h=>by
  simp only[Lay.addBox,upd] at h
  split at h
  ·omega
  ·have:=W.nidB id g h;omega
 own:=fun b g h=>by obtain⟨h1,h2,h3⟩:=W.own b g h;exact⟨by omega,h2,h3⟩
 boxW:=fun id g h=>by
  simp only[Lay.addBox,upd] at h
  split at h
  ·simp only[Option.some.injEq] at h;subst h;exact⟨hs,.inl hB,fun h=>by have:=W.old _ h;omega⟩
  ·obtain⟨h1,h2,h3⟩:=W.boxW id g h;exact⟨by omega,h2,h3⟩
 injO:=W.injO
 injB:=fun i j g h h'=>by
  simp only[Lay.addBox,upd] at h h'
  split at h<;>split at h'
  ·omega
  ·simp only[Option.some.injEq] at h;subst h;have:=(W.boxW j _ h').1;omega
  ·simp only[Option.some.injEq] at h';subst h';have:=(W.boxW i _ h).1;omega
  ·exact W.injB i j g h h'
 dis:=fun i j g h h'=>by
  simp only[Lay.addBox,upd] at h'
  split at h'
  ·simp only[Option.some.injEq] at h';subst h';have:=(W.own i _ h).1;omega
  ·exact W.dis i j g h h'
 old:=fun g h=>by have:=W.old g h;omega
 frz:=W.frz
theorem Wf.addA{nid:Nat}(W:Wf C nid L w)(hB:C.B≤w.heap.size)(hs:w.heap.size<w'.heap.size):Wf C nid (L.addA w.heap.size) w' where
 nidO:=W.nidO
 nidB:=W.nidB
 own:=fun b g h=>by
  obtain⟨h1,h2,h3⟩:=W.own b g h
  exact⟨by omega,h2,fun h=>h.elim h3 (fun h=>by omega)⟩
 boxW:=fun b g h=>by
  obtain⟨h1,h2,h3⟩:=W.boxW b g h
  exact⟨by omega,h2,fun h=>h.elim h3 (fun h=>by omega)⟩
 injO:=W.injO
 injB:=W.injB
 dis:=W.dis
 old:=fun g h=>h.elim (fun h=>by have:=W.old g h;omega) (fun h=>by omega)
 frz:=fun g h=>h.elim (W.frz g) (fun h => .inr (.inl (by omega)))
theorem Wf.mono{nid nid':Nat}(W:Wf C nid L w)(hn:nid≤nid')(hs:w.heap.size≤w'.heap.size):Wf C nid' L w' where
 nidO:=fun id g h=>by have:=W.nidO id g h;omega
 nidB:=fun id g h=>by have:=W.nidB id g h;omega
 own:=fun b g h=>by obtain⟨h1,h2,h3⟩:=W.own b g h;exact⟨by omega,h2,h3⟩
 boxW:=fun b g h=>by obtain⟨h1,h2,h3⟩:=W.boxW b g h;exact⟨by omega,h2,h3⟩
 injO:=W.injO
 injB:=W.injB
 dis:=W.dis
 old:=fun g h=>by have:=W.old g h;omega
 frz:=W.frz
def wO(s:St)(e:TypeId)(l:List V):V × St:=(.ref s.nid 0,{ s with bx:=upd s.bx s.nid (some (e,l)),nid:=s.nid+1 })
theorem Fv{e:TypeId}{l:List V}{us:Array Value}(S:Sim C s L a w)(hr:Reps L w l us.toList) :
  ∃L',Sim C (wO s e l).2 L' a (w.alloc (.cells us e))∧Rep L' (w.alloc (.cells us e)) (wO s e l).1 (.pointer (some ⟨w.heap.size,0,none⟩)):=by
 have G:=Grow.alloc w (.cells us e)
 have E:=S.wf.leBox (s:=s) w.heap.size
 refine⟨L.addBox s.nid w.heap.size,S.grow G E rfl ?_ (S.wf.addBox S.hB (by simp)),w.heap.size,by simp [Lay.addBox,upd],rfl⟩
 intro b cs h
 simp only[wO,upd] at h
 split at h
 ·rename_i hb
  subst hb
  simp only[Option.some.injEq] at h
  subst h
  exact .inr ⟨w.heap.size,us,by simp [Lay.addBox,upd],heap_alloc_new w _,hr.whole (S.wf.whole G E)⟩
 ·exact .inl h
def uu(P:Program)(s:St)(elem:TypeId):Option (V × St):=(tY P elem).map fun z=>wO s elem (z.cells.toList.map .c)
def MZ(s:St)(e:TypeId)(x:V):Option (V × St):=x.cs.map fun l=>wO s e l
theorem Tn{elem:TypeId}{r:V}{s':St}(h:uu P s elem=some (r,s'))(S:Sim C s L a w) :
  ∃u w' L',(Instr.alloc elem true (.tuple #[])).run P w = .ok u w'∧Sim C s' L' a w'∧Rep L' w' r u:=by
 simp only[uu,Option.map_eq_some_iff] at h
 obtain⟨z,hz,h⟩:=h
 obtain⟨L',h1,h2⟩:=Fv (e:=elem) (us:=z.cells) S (zu L w z.cells.toList)
 rw[h] at h1 h2
 exact⟨_,_,L',by simp [Instr.alloc,qZ hz,newVar,newRow],h1,h2⟩
theorem ac1{elem:TypeId}{x r:V}{u:Value}{s':St}(h:MZ s elem x=some (r,s'))(S:Sim C s L a w)(hr:Rep L w x u) :
  ∃v w' L',(Instr.box elem u).run P w = .ok v w'∧Sim C s' L' a w'∧Rep L' w' r v:=by
 simp only[MZ,Option.map_eq_some_iff] at h
 obtain⟨l,hl,h⟩:=h
 obtain⟨L',h1,h2⟩:=Fv (e:=elem) (us:=u.cells) S (wL hr hl)
 rw[h] at h1 h2
 exact⟨_,_,L',by simp [Instr.box,newVar,newRow],h1,h2⟩
def nN(P:Program)(s:St)(t:TypeId)(b off:Nat):Option V:=(s.bx b).bind fun x=>EI P t x.2 off
theorem CB{t:TypeId}{b off:Nat}{r:V}{u:Value}(h:nN P s t b off=some r)(S:Sim C s L a w)(hu:Rep L w (.ref b off) u) :
  ∃v,(Instr.loadAt t u).run P w = .ok v w∧Rep L w r v:=by
 simp only[nN,Option.bind_eq_some_iff] at h
 obtain⟨⟨e,cs⟩,hcs,h⟩:=h
 obtain⟨g,arr,h1,h2,h3⟩:=S.box b _ hcs
 obtain⟨g',h1',rfl⟩:=hu
 rw[h1] at h1'
 simp only[Option.some.injEq] at h1'
 subst h1'
 obtain⟨v,h4,h5⟩:=AA (P:=P) (g:=g) (o:=0) h h3 ⟨arr,e,(0,0),h2,by rw[List.drop_zero,List.take_length]⟩
 exact⟨v,by simpa [Instr.loadAt,Instr.sureAddr] using h4,h5⟩
theorem QC{x:V}{u:Value}(h:Rep L w x u)(h1:x.one=true):u.oneCell'=true:=by
 cases x<;>simp only[V.one,Bool.false_eq_true] at h1
 case c v=>simp only[Rep] at h;subst h;exact h1
 case sl=>obtain⟨_,_,_,rfl,_⟩:=h;rfl
 case ref=>obtain⟨_,_,rfl⟩:=h;rfl
 case el=>obtain⟨_,_,_,rfl,_⟩:=h;rfl
 case fn=>obtain⟨_,_,rfl,_⟩:=h;rfl
 case nif=>obtain⟨_,_,rfl⟩:=h;rfl
theorem CE{l:List V}{us:List Value}(h:Reps L w l us)(h1:l.all V.one=true):∀u∈us,u.oneCell'=true:=by
 induction l generalizing us with
 | nil=>simp only[Reps] at h;simp [h]
 | cons x xs ih =>
  obtain⟨u,r,rfl,h2,h3⟩:=h
  simp only[List.all_cons,Bool.and_eq_true] at h1
  intro v hv
  rcases List.mem_cons.1 hv with rfl|hv
  ·exact QC h2 h1.1
  ·exact ih h3 h1.2 v hv
theorem AC{t:TypeId}{g o:Nat}{v:Value}{arr:Array Value}{e:TypeId}(ht:tsz P t=some v.cells.size)(hg:w.heap[g]?=some (.cells arr e (0,0)))(hfit:o+v.cells.size≤arr.size)(h1:∀u∈v.cells.toList,u.oneCell'=true) :
  (Instr.storeAt t (.pointer (some ⟨g,o,none⟩)) v).run P w = .ok () (w.setRow g (arr.toList.take o++v.cells.toList++arr.toList.drop (o+v.cells.size)).toArray):=by
 have:=run_storeCells_at P g o e v.cells.toList 0 arr w hg (by simpa using hfit) h1
 simp only[Nat.add_zero,Array.length_toList] at this
 simp [Instr.storeAt,Instr.sureAddr,storeVar,jE ht,this]
theorem Kp.setRow{Wr:Nat→Prop}{B g:Nat}(arr:Array Value)(hg:B≤g∨Wr g):Kp Wr B w (w.setRow g arr) :=
 ⟨rfl,rfl,rfl,by simp,fun k hk hW=>setRow_other w g k arr (fun e=>by subst e;exact hg.elim (fun h=>by omega) hW)⟩
theorem WW{g:Nat}{arr:Array Value}(hA:¬L.A g)(hO:∀i,L.own i≠some g):Whole L L w (w.setRow g arr) where
 fz':=rfl
 A:=fun g' h=>⟨h,.of (setRow_other w g g' arr (fun e=>by subst e;exact hA h))⟩
 own:=fun id e _ g' h=>⟨⟨rfl,h⟩,setRow_other w g g' arr (fun e=>by subst e;exact hO id h)⟩
 box:=fun _ _ _ h=>h
def lZ(P:Program)(s:St)(t:TypeId)(b off:Nat)(x:V):Option St :=
 (s.bx b).bind fun y=>x.cs.bind fun l=>if tsz P t=some l.length∧off+l.length≤y.2.length∧l.all V.one=true then
  some { s with bx:=upd s.bx b (some (y.1,y.2.take off++l++y.2.drop (off+l.length))) } else none
theorem Fz{t:TypeId}{b off:Nat}{x:V}{u ux:Value}{s':St}(h:lZ P s t b off x=some s')(S:Sim C s L a w)(hu:Rep L w (.ref b off) u)(hx:Rep L w x ux) :
  ∃w',(Instr.storeAt t u ux).run P w = .ok () w'∧Sim C s' L a w':=by
 simp only[lZ,Option.bind_eq_some_iff,Option.ite_none_right_eq_some,Option.some.injEq] at h
 obtain⟨⟨e,cs⟩,hcs,l,hl,⟨h1,h2,h3⟩,rfl⟩:=h
 simp only at h2
 obtain⟨g,arr,hg,ha,hr⟩:=S.box b _ hcs
 simp only at ha hr
 obtain⟨g',hg',rfl⟩:=hu
 rw[hg] at hg'
 simp only[Option.some.injEq] at hg'
 subst hg'
 have hrl:=wL hx hl
 have hll:ux.cells.size=l.length:=by simpa using hrl.length
 have hal:arr.size=cs.length:=by simpa using hr.length
 obtain⟨hw1,hw2,hw3⟩:=S.wf.boxW b g hg
 have hO:∀i,L.own i≠some g:=fun i h=>S.wf.dis i b g h hg
 have K:=WW (w:=w) (arr:=(arr.toList.take off++ux.cells.toList++arr.toList.drop (off+ux.cells.size)).toArray) hw3 hO
 refine⟨_,AC (by rw[hll];exact h1) ha (by omega) (CE hrl h3),S.defers,S.size,fun t=>(S.env t).whole K,fun t=>(S.hid t).whole K, ?_,S.wf.mono (Nat.le_refl _) (by simp),S.kp.trans (Kp.setRow _ hw2)⟩
 intro b' cs' h
 simp only[upd] at h
 split at h
 ·rename_i hb
  subst hb
  simp only[Option.some.injEq] at h
  subst h
  refine⟨g,_,hg,setRow_heap w g arr _ e _ ha, ?_⟩
  have:=(((hr.take off).append hrl).append (hr.drop (off+l.length))).whole K
  rw[←hll] at this ⊢
  simpa using this
 ·rename_i hb
  obtain⟨g',arr',h4,h5,h6⟩:=S.box b' cs' h
  exact⟨g',arr',h4,(setRow_other w g g' _ (fun e=>by subst e;exact hb (S.wf.injB b' b g' h4 hg))).trans h5,h6.whole K⟩
theorem ahq{id:Nat}{v:V}(h:v.has id=false):v.any (Tag.is id) (fun _=>false) false=false:=h
theorem su{id:Nat}(K:Trans (Tag.is id) (fun _=>false) _root_.id _root_.id L L' w w'){v:V}{u:Value}(h:Rep L w v u):Rep L' w' (aJ id v) u:=by
 unfold aJ
 split
 ·trivial
 ·rename_i hn
  have:=h.trans rfl K (ahq (by simpa using hn))
  rwa [map_id.1] at this
theorem Jg{ψ:V→V}(hψ:∀v u,Rep L w v u→Rep L' w' (ψ v) u){l:List V}{us:List Value}(h:Reps L w l us):Reps L' w' (l.map ψ) us:=by
 induction l generalizing us with
 | nil=>exact h
 | cons x xs ih=>obtain⟨u,r,rfl,h2,h3⟩:=h;exact⟨u,r,rfl,hψ x u h2,ih h3⟩
theorem Sim.mapV{nid:Nat}(S:Sim C s L a w){ψ:V→V}(hψ:∀v u,Rep L w v u→Rep L' w' (ψ v) u)(hbox:∀b g,L.box b=some g→L'.box b=some g∧w'.heap[g]?=w.heap[g]?)
  (wf:Wf C nid L' w') (kp:Kp C.Wr C.B w w'):Sim C { s.mapV ψ with nid:=nid } L' a w' where
 defers:=S.defers
 size:=S.size
 env:=fun t=>hψ _ _ (S.env t)
 hid:=fun t=>hψ _ _ (S.hid t)
 box:=fun b cs h=>by
  simp only[St.mapV,Option.map_eq_some_iff] at h
  obtain⟨l,hl,rfl⟩:=h
  obtain⟨g,arr,h1,h2,h3⟩:=S.box b l hl
  exact⟨g,arr,(hbox b g h1).1,(hbox b g h1).2.trans h2,Jg hψ h3⟩
 wf:=wf
 kp:=S.kp.trans kp
def Lay.freeze(L:Lay)(id:Nat):Lay:={ L with A:=fun g=>L.A g∨L.own id=some g,own:=fun j=>if j=id then none else L.own j }
theorem Sim.freeze(S:Sim C s L a w)(id:Nat):Sim C (s.mapV (frz id)) (L.freeze id) a w∧∀v u,Rep L w v u→Rep (L.freeze id) w (frz id v) u:=by
 have K:Trans (fun _=>false) (fun _=>false) (fun t=>if t.is id then .fz else t) _root_.id L (L.freeze id) w w:=by
  refine⟨Prod.ext rfl (Prod.ext rfl (funext fun j=>funext fun e => ?_)),fun g h=>⟨.inl h,.of rfl⟩,fun j e _ g h=>⟨?_,rfl⟩,fun _ _ _ h=>h⟩
  ·show (if (j == id)=true then Tag.fz else Tag.own j e).notNN=true
   split<;>rfl
  by_cases hj:j=id
  ·subst hj;simp [Tag.is,Lay.freeze,h]
  ·simp [Tag.is,hj,Lay.freeze,h]
 have hψ:∀v u,Rep L w v u→Rep (L.freeze id) w (frz id v) u:=fun v u h=>h.trans rfl K (MS.1 v)
 refine⟨S.mapV (nid:=s.nid) hψ (fun b g h=>⟨h,rfl⟩) ?_ (Kp.refl _ _ _),hψ⟩
 have W:=S.wf
 exact {
  nidO:=fun j g h=>by
   simp only[Lay.freeze] at h
   split at h
   ·cases h
   ·exact W.nidO j g h
  nidB:=W.nidB
  own:=fun j g h=>by
   simp only[Lay.freeze] at h
   split at h
   ·cases h
   ·rename_i hj
    obtain⟨h1,h2,h3⟩:=W.own j g h
    exact⟨h1,h2,fun h'=>h'.elim h3 (fun h'=>hj (W.injO j id g h h'))⟩
  boxW:=fun b g h=>by
   obtain⟨h1,h2,h3⟩:=W.boxW b g h
   exact⟨h1,h2,fun h'=>h'.elim h3 (fun h'=>W.dis id b g h' h)⟩
  injO:=fun i j g h h'=>by
   simp only[Lay.freeze] at h h'
   split at h
   ·cases h
   ·split at h'
    ·cases h'
    ·exact W.injO i j g h h'
  injB:=W.injB
  dis:=fun i j g h h'=>by
   simp only[Lay.freeze] at h
   split at h
   ·cases h
   ·exact W.dis i j g h h'
  old:=fun g h=>h.elim (W.old g) (fun h=>(W.own id g h).1)
  frz:=fun g h=>h.elim (W.frz g) (fun h => .inr (W.own id g h).2.1) }
def tapp(P:Program)(e:TypeId):Option (Nat × Nat):=(P.info? e).bind fun i=>i.zero.bind fun z=>if z.cells.size=i.size∧0<i.size then some (i.size,i.bytes) else none
theorem vK{e:TypeId}{k b:Nat}(h:tapp P e=some (k,b)):∃i z,P.info? e=some i∧i.zero=some z∧z.cells.size=k∧i.size=k∧i.bytes=b∧0<k:=by
 simp only[tapp,Option.bind_eq_some_iff,Option.ite_none_right_eq_some,Option.some.injEq,Prod.mk.injEq] at h
 obtain⟨i,hi,z,hz,⟨h1,h2⟩,rfl,rfl⟩:=h
 exact⟨i,z,hi,hz,h1,rfl,rfl,h2⟩
def l7(z:ByteArray):List V:=z.data.toList.map fun b => .c (.int .u8 b.toNat)
def CG(P:Program)(t:TypeId)(k:Nat)(y:V):Option (List V) :=
 match y with
 | .sl _ k' ys=>if k'=k∧(elemT P t).isSome then some ys else none
 | .c (.slice none 0 _)=>if (elemT P t).isSome then some [] else none
 | .c (.string z)=>if k=1∧ji P t=true then some (l7 z) else none
 | _=>none
theorem CJ(z:ByteArray):RepE L w 1 (l7 z) (byteCells z):=by
 unfold l7 byteCells
 induction z.data.toList with
 | nil=>rfl
 | cons b l ih=>exact⟨_,_,rfl,rfl,⟨rfl,rfl⟩,rfl,ih⟩
theorem Jh{t:TypeId}{k:Nat}{y:V}{ys:List V}{u:Value}(h:CG P t k y=some ys)(hr:Rep L w y u) :
  ∃news,Src P k t u ys.length news w∧RepE L w k ys news:=by
 unfold CG at h
 split at h
 ·rename_i tg k' ys'
  simp only[Option.ite_none_right_eq_some,Option.some.injEq] at h
  obtain⟨⟨rfl,h1⟩,rfl⟩:=h
  obtain⟨e,he⟩:=Option.isSome_iff_exists.1 h1
  obtain⟨a,cap,cells,rfl,h2,h3⟩:=hr
  refine⟨cells, ?_,h2⟩
  cases a with
  | none =>
   have h0:ys'.length=0:=by
    cases tg with
    | fz =>
     rcases h3 with ⟨_,h|⟨g,o,h,_⟩⟩
     ·exact h
     ·cases h
    | nn=>exact h3.1
    | own id e =>
     rcases h3 with ⟨h,_⟩|⟨g,arr,_,h,_⟩
     ·exact h
     ·cases h
   have hc:cells=[]:=List.eq_nil_of_length_eq_zero (by rw[h2.length,h0,Nat.zero_mul])
   subst hc
   rw[h0]
   exact Src.ofNil w (dY he) cap
  | some ad =>
   refine Src.ofSlice w (dY he) ad _ cap cells h2.length ?_ h2.one
   intro j v hj
   have hpos:0<ys'.length:=by
    rcases Nat.eq_zero_or_pos ys'.length with h0|h0
    ·have hc:cells=[]:=List.eq_nil_of_length_eq_zero (by rw[h2.length,h0,Nat.zero_mul])
     rw[hc] at hj;cases hj
    ·exact h0
   obtain⟨g,o,h5,h6⟩:=h3.el hpos h2.length
   simp only[Option.some.injEq] at h5
   subst h5
   rw[kU]
   exact h6.row.cell hj
 ·simp only[Option.ite_none_right_eq_some,Option.some.injEq] at h
  obtain⟨h1,rfl⟩:=h
  obtain⟨e,he⟩:=Option.isSome_iff_exists.1 h1
  simp only[Rep] at hr;subst hr
  exact⟨[],Src.ofNil w (dY he) _,rfl⟩
 ·rename_i z
  simp only[Option.ite_none_right_eq_some,Option.some.injEq] at h
  obtain⟨⟨rfl,h1⟩,rfl⟩:=h
  simp only[Rep] at hr;subst hr
  refine⟨byteCells z, ?_,CJ z⟩
  have:=Src.ofString (P:=P) w (kS h1) z
  rwa [show (l7 z).length=z.size by simp [l7]]
 ·cases h
def Fits(n bytes:Nat):Prop:=n≤maxLen∧n*bytes≤140737488355328
instance (n bytes:Nat):Decidable (Fits n bytes):=by unfold Fits;infer_instance
def lC(P:Program)(s:St)(t t2:TypeId)(x y:V):Option (V × St) :=
 (elemT P t).bind fun e=>(tapp P e).bind fun (k,bytes)=>(CG P t2 k y).bind fun ys =>
  match x with
  | .c (.slice none 0 0)=>if Fits ys.length bytes then some (.sl (.own s.nid e) k ys,{ s with nid:=s.nid+1 }) else none
  | .sl (.own id e') k' xs=>if e'=e∧k'=k∧Fits (xs.length+ys.length) bytes then some (.sl (.own id e) k (xs++ys),{ s.mapV (aJ id) with nid:=max s.nid (id+1) }) else none
  | _=>none
theorem ww{t t2 ty e:TypeId}{i:TypeInfo}(ht:P.underlying t=some (.slice e))(hi:P.info? e=some i){g n m cap:Nat}{arr:Array Value}(hg:w.heap[g]?=some (.cells arr e (0,0))){x:Value}{news:List Value}
  (hs:Src P i.size t2 x m news w) (hroom:n+m≤cap) (hfit:n*i.size+news.length≤arr.size) :
  (Builtin.append_ #[t,t2] ty #[.slice (some ⟨g,0,none⟩) n cap,x]).run P w =
   .ok (.slice (some ⟨g,0,none⟩) (n+m) cap) (w.setRow g (arr.toList.take (n*i.size)++news++arr.toList.drop (n*i.size+news.length)).toArray):=by
 have hst:=run_storeCells_at P g (n*i.size) e news 0 arr w hg (by simpa using hfit) hs.one
 simp only[Nat.add_zero] at hst
 rcases hs.kind with ⟨e',hk⟩|hk<;>simp [Builtin.append_,run_underlying ht,run_underlying hk,sizeOf,typeInfo,hi,hs.len,hroom,hs.cells,Addr.add_lit,hst]
theorem lI{t t2 ty e:TypeId}{i:TypeInfo}(ht:P.underlying t=some (.slice e))(hi:P.info? e=some i){x:Value}{news:List Value}(hs:Src P i.size t2 x 0 news w) :
  (Builtin.append_ #[t,t2] ty #[.slice none 0 0,x]).run P w = .ok (.slice none 0 0) w:=by
 rcases hs.kind with ⟨e',hk⟩|hk<;>simp [Builtin.append_,run_underlying ht,run_underlying hk,sizeOf,typeInfo,hi,hs.len,hs.cells]
def jO(w:World)(olds news:List Value)(n cap:Nat)(e:TypeId)(z:Value):Obj :=
 .cells ((olds++news).toArray++Builtin.zeroCells z.cells (grownCap w n cap e-n)) e
theorem zy{olds news:List Value}{n cap k:Nat}{e:TypeId}{z:Value}{id:Nat}{L':Lay}{w'':World}(ho:L'.own id=some w.heap.size)(hh:w''.heap[w.heap.size]?=some (jO w olds news n cap e z))
  (hz:z.cells.size=k) (hl:(olds++news).length=n*k) (hm:n≤maxLen) :
  SlMem L' w'' (.own id e) k (some ⟨w.heap.size,0,none⟩) n (grownCap w n cap e) (olds++news):=by
 refine .inr ⟨w.heap.size,_,ho,rfl,hh,grownCap_ge w n cap e,grownCap_le_maxLen w n cap e hm, ?_, ?_⟩
 ·have hge:=grownCap_ge w n cap e
  simp only[Array.size_append,List.size_toArray,size_zeroCells,hz,hl,←Nat.add_mul]
  congr 1
  omega
 ·rw[Array.toList_append,←hl]
  exact List.take_left
theorem Na{t t2 ty:TypeId}{x y r:V}{ux uy:Value}{s':St}(h:lC P s t t2 x y=some (r,s'))(S:Sim C s L a w)(hx:Rep L w x ux)(hy:Rep L w y uy) :
  ∃u w' L',(Builtin.append_ #[t,t2] ty #[ux,uy]).run P w = .ok u w'∧Sim C s' L' a w'∧Rep L' w' r u:=by
 simp only[lC,Option.bind_eq_some_iff,Prod.exists] at h
 obtain⟨e,he,k,bytes,hk,ys,hys,h⟩:=h
 obtain⟨i,z,hi,hz,hzs,rfl,rfl,hpos⟩:=vK hk
 have hu:=dY he
 obtain⟨news,hsrc,hre⟩:=Jh hys hy
 have hnl:=hre.length
 split at h
 ·
  simp only[Option.ite_none_right_eq_some,Option.some.injEq,Prod.mk.injEq] at h
  obtain⟨⟨hf1,hf2⟩,rfl,rfl⟩:=h
  simp only[Rep] at hx;subst hx
  rcases Nat.eq_zero_or_pos ys.length with h0|h0
  ·rw[h0] at hsrc
   have hys0:ys=[]:=List.eq_nil_of_length_eq_zero h0
   subst hys0
   exact⟨_,w,L,lI hu hi hsrc,⟨S.defers,S.size,S.env,S.hid,S.box,S.wf.mono (by simp) (Nat.le_refl _),S.kp⟩,none,0,[],rfl,rfl,.inl ⟨rfl,rfl,rfl⟩⟩
  ·have hrun:=run_append_grow_src (P:=P) w t t2 ty e i z hu hi hz none 0 0 [] (by simp [Builtin.firstCells]) uy ys.length news hsrc (by omega)
    (by simp only[maxLen] at hf1;omega) (growslice_fits (by omega) (by rw[Nat.zero_add];exact hf2))
   simp only[Nat.zero_add] at hrun
   have G:=Grow.drewAlloc w (jO w [] news ys.length 0 e z)
   have E:=S.wf.leOwn (s:=s) w.heap.size
   have hh:(w.drew.alloc (jO w [] news ys.length 0 e z)).heap[w.heap.size]?=some (jO w [] news ys.length 0 e z):=heap_alloc_new w.drew _
   refine⟨_,_,L.addOwn s.nid w.heap.size,hrun,S.grow G E rfl (fun b cs h => .inl h) (S.wf.addOwn S.hB (by simp)),_,_,news,rfl, ?_, ?_⟩
   ·exact hre.trans (p:=fun _=>false) (q:=fun _=>false) rfl (S.wf.whole G E)
   ·have:=zy (olds:=[]) (id:=s.nid) (L':=L.addOwn s.nid w.heap.size) (by simp [Lay.addOwn,upd]) hh hzs (by simpa using hnl) hf1
    exact this
 ·
  rename_i id e' k' xs
  simp only[Option.ite_none_right_eq_some,Option.some.injEq,Prod.mk.injEq] at h
  obtain⟨⟨rfl,rfl,hf1,hf2⟩,rfl,rfl⟩:=h
  obtain⟨ad,cap,cells,rfl,hxe,hmem⟩:=hx
  have hxl:=hxe.length
  have keepRow:∀g arr,L.own id=some g→Trans (Tag.is id) (fun _=>false) _root_.id _root_.id L L w (w.setRow g arr):=fun g arr hg =>
   ⟨rfl,fun g' h=>⟨h,.of (setRow_other w g g' arr (fun e=>by subst e;exact (S.wf.own id _ hg).2.2 h))⟩,
    fun j e hj g' h=>⟨⟨rfl,h⟩,setRow_other w g g' arr (fun e=>by subst e;have:=S.wf.injO j id _ h hg;simp [Tag.is,this] at hj)⟩,fun _ _ _ h=>h⟩
  have hgrow:∀(olds:List Value),(Builtin.firstCells i.size xs.length (.slice ad xs.length cap)).run P w.drew = .ok olds.toArray w.drew→RepE L w i.size xs olds→cap<xs.length+ys.length →
    ∃u w' L',(Builtin.append_ #[t,t2] ty #[.slice ad xs.length cap,uy]).run P w = .ok u w'∧Sim C { s.mapV (aJ id) with nid:=max s.nid (id+1) } L' a w'∧Rep L' w' (.sl (.own id e') i.size (xs++ys)) u:=by
   intro olds hold hxo hcap
   have hol:=hxo.length
   have hrun:=run_append_grow_src (P:=P) w t t2 ty e' i z hu hi hz ad xs.length cap olds hold uy ys.length news hsrc hcap
    (by simp only[maxLen] at hf1;omega) (growslice_fits hcap hf2)
   have hh:(w.drew.alloc (jO w olds news (xs.length+ys.length) cap e' z)).heap[w.heap.size]?=some (jO w olds news (xs.length+ys.length) cap e' z):=heap_alloc_new w.drew _
   have G:=Grow.drewAlloc w (jO w olds news (xs.length+ys.length) cap e' z)
   have K:Trans (Tag.is id) (fun _=>false) _root_.id _root_.id L (L.addOwn id w.heap.size) w (w.drew.alloc (jO w olds news (xs.length+ys.length) cap e' z)) :=
    ⟨rfl,fun g h=>⟨h,.of (G.block g (S.wf.old g h))⟩,fun j e hj g h=>⟨⟨rfl,by
     have:j≠id:=fun e=>by subst e;simp [Tag.is] at hj
     simp [Lay.addOwn,upd,this,h]⟩,G.block g (S.wf.own j g h).1⟩,fun _ _ _ h=>h⟩
   have W:=S.wf
   have wf:Wf C (max s.nid (id+1)) (L.addOwn id w.heap.size) (w.drew.alloc (jO w olds news (xs.length+ys.length) cap e' z)):={
    nidO:=fun j g h=>by
     simp only[Lay.addOwn,upd] at h
     split at h
     ·omega
     ·have:=W.nidO j g h;omega
    nidB:=fun j g h=>by have:=W.nidB j g h;omega
    own:=fun j g h=>by
     simp only[Lay.addOwn,upd] at h
     split at h
     ·simp only[Option.some.injEq] at h;subst h;exact⟨by simp,.inl S.hB,fun h=>by have:=W.old _ h;omega⟩
     ·obtain⟨h1,h2,h3⟩:=W.own j g h;exact⟨by simp;omega,h2,h3⟩
    boxW:=fun b g h=>by obtain⟨h1,h2,h3⟩:=W.boxW b g h;exact⟨by simp;omega,h2,h3⟩
    injO:=fun i j g h h'=>by
     simp only[Lay.addOwn,upd] at h h'
     split at h<;>split at h'
     ·omega
     ·simp only[Option.some.injEq] at h;subst h;have:=(W.own j _ h').1;omega
     ·simp only[Option.some.injEq] at h';subst h';have:=(W.own i _ h).1;omega
     ·exact W.injO i j g h h'
    injB:=W.injB
    dis:=fun i j g h h'=>by
     simp only[Lay.addOwn,upd] at h
     split at h
     ·simp only[Option.some.injEq] at h;subst h;have:=(W.boxW j _ h').1;omega
     ·exact W.dis i j g h h'
    old:=fun g h=>by have:=W.old g h;simp;omega
    frz:=W.frz }
   refine⟨_,_,L.addOwn id w.heap.size,hrun,S.mapV (fun v u h=>su K h) (fun b g h=>⟨h,G.block g (W.boxW b g h).1⟩) wf (G.kp _ S.hB),some ⟨w.heap.size,0,none⟩,grownCap w (xs.length+ys.length) cap e',olds++news,by simp, ?_, ?_⟩
   ·exact (hxo.append hre).trans (p:=Tag.is id) (q:=fun _=>false) rfl K
   ·have:=zy (olds:=olds) (news:=news) (id:=id) (n:=xs.length+ys.length) (L':=L.addOwn id w.heap.size) (by simp [Lay.addOwn,upd]) hh hzs (by rw[List.length_append,hol,hnl,Nat.add_mul]) hf1
    rw[List.length_append]
    exact this
  rcases hmem with ⟨h1,rfl,rfl⟩|⟨g,arr,h1,rfl,h3,h4,h5,h6,h7⟩
  ·
   have hx0:xs=[]:=List.eq_nil_of_length_eq_zero h1
   subst hx0
   simp only[RepE] at hxe
   subst hxe
   rcases Nat.eq_zero_or_pos ys.length with h0|h0
   ·rw[h0] at hsrc
    have hys0:ys=[]:=List.eq_nil_of_length_eq_zero h0
    subst hys0
    refine⟨_,w,L,lI hu hi hsrc,S.mapV (fun v u h=>su ?_ h) (fun b g h=>⟨h,rfl⟩) (S.wf.mono (by omega) (Nat.le_refl _)) (Kp.refl _ _ _),none,0,[],rfl,rfl,.inl ⟨rfl,rfl,rfl⟩⟩
    exact⟨rfl,fun g h=>⟨h,.of rfl⟩,fun j e _ g h=>⟨⟨rfl,h⟩,rfl⟩,fun _ _ _ h=>h⟩
   ·exact hgrow [] (by simp [Builtin.firstCells]) rfl (by simpa using h0)
  ·by_cases hroom:xs.length+ys.length≤cap
   ·have hfit:xs.length*i.size+news.length≤arr.size:=by rw[hnl,h6,←Nat.add_mul];exact Nat.mul_le_mul_right _ hroom
    have hrun:=ww (P:=P) (ty:=ty) hu hi h3 hsrc hroom hfit
    have K:=keepRow g (arr.toList.take (xs.length*i.size)++news++arr.toList.drop (xs.length*i.size+news.length)).toArray h1
    refine⟨_,_,L,hrun,S.mapV (fun v u h=>su K h) (fun b g' h=>⟨h,setRow_other w g g' _ (fun e=>by subst e;exact S.wf.dis id b _ h1 h)⟩) (S.wf.mono (by omega) (by simp)) (Kp.setRow _ (S.wf.own id g h1).2.1),
     some ⟨g,0,none⟩,cap,cells++news,by simp,(hxe.append hre).trans (p:=Tag.is id) (q:=fun _=>false) rfl K,.inr ⟨g,_,h1,rfl,setRow_heap w g arr _ e' _ h3,by simpa using hroom,h5, ?_, ?_⟩⟩
    ·simp only[List.size_toArray,List.length_append,List.length_take,List.length_drop,Array.length_toList]
     omega
    ·rw[h7]
     have:(xs++ys).length*i.size=(cells++news).length:=by rw[List.length_append,List.length_append,hxl,hnl,Nat.add_mul]
     rw[this]
     exact List.take_left
   ·refine hgrow cells ?_ hxe (by omega)
    refine run_firstCells_some w.drew i.size xs.length ⟨g,0,none⟩ _ cap cells hxl ?_
    intro j v hj
    rw[kU,World.cell?_drew]
    have hrow:Row w g 0 cells:=⟨arr,e',(0,0),h3,by rw[hxl];simpa using h7⟩
    exact hrow.cell hj
 ·cases h
end
end Go.Pg
end
