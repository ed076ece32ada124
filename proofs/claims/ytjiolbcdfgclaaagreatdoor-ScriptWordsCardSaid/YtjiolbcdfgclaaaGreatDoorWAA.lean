/-
  Texts of this claim, merged; own names are short.
-/
import Derived.WalkKit
import Derived.Laws.StructEq
import Derived.WalkSpells
import Derived.WalkLawsBesides
import Derived.Laws.Pointers
import Derived.LaidEqlPtr
import Derived.Lib.Builder
import Derived.Lib.UnsafeStr
set_option linter.unusedVariables false
set_option linter.unusedSimpArgs false
set_option linter.unusedSectionVars false
set_option linter.defProp false
set_option maxRecDepth 100000
set_option maxHeartbeats 8000000
section
namespace Go.Pg
open Go
theorem aI{a b:Prop}(h:a)(k:b):a∧b:=⟨h,k⟩
inductive Tag where
 | fz
 | nn
 | own (id:Nat) (e:TypeId)
def Tag.is(id:Nat):Tag→Bool
 | .fz=>false
 | .nn=>false
 | .own i _=>i == id
def Tag.isOwn:Tag→Bool
 | .fz=>false
 | .nn=>true
 | .own _ _=>true
def Tag.nnOk:Tag→Bool
 | .fz=>true
 | .nn=>true
 | .own _ _=>false
def Tag.notNN:Tag→Bool
 | .fz=>true
 | .nn=>false
 | .own _ _=>true
inductive V where
 | c (v:Value)
 | sl (t:Tag) (k:Nat) (xs:List V)
 | agg (cs:List V)
 | tup (vs:List V)
 | ref (b off:Nat)
 | el (t:Tag) (k:Nat) (xs:List V) (i off:Nat)
 | fn (f:FuncId) (first captured:List V)
 | top
 | nif
structure Lay where
 A:Nat→Prop
 own:Nat→Option Nat
 box:Nat→Option Nat
mutual
def V.any(p:Tag→Bool)(q:Nat→Bool)(tp:Bool):V→Bool
 | .c _=>false
 | .sl t _ _=>p t
 | .agg cs=>V.anyL p q tp cs
 | .tup cs=>V.anyL p q tp cs
 | .ref b _=>q b
 | .el t _ _ _ _=>p t
 | .fn _ fs cs=>V.anyL p q tp fs||V.anyL p q tp cs
 | .top=>tp
 | .nif=>false
def V.anyL(p:Tag→Bool)(q:Nat→Bool)(tp:Bool):List V→Bool
 | []=>false
 | x::xs=>V.any p q tp x||V.anyL p q tp xs
end
def V.free(v:V):Bool := !(v.any Tag.isOwn (fun _=>true) true)
def V.has(id:Nat)(v:V):Bool:=v.any (Tag.is id) (fun _=>false) false
def Row(w:World)(g o:Nat)(cells:List Value):Prop :=
 ∃arr e fr,w.heap[g]?=some (.cells arr e fr)∧(arr.toList.drop o).take cells.length=cells
def SlMem(L:Lay)(w:World)(t:Tag)(k:Nat)(a:Option Addr)(len cap:Nat)(cells:List Value):Prop :=
 match t with
 | .fz=>len≤cap∧(len=0∨∃g o,a=some ⟨g,o,none⟩∧L.A g∧Row w g o cells)
 | .nn=>len=0∧a.isSome=true
 | .own id e=>(len=0∧a=none∧cap=0) ∨
   ∃g arr,L.own id=some g∧a=some ⟨g,0,none⟩∧w.heap[g]?=some (.cells arr e (0,0))∧len≤cap∧cap≤maxLen∧arr.size=cap*k∧arr.toList.take (len*k)=cells
def ElMem(L:Lay)(w:World)(t:Tag)(g o:Nat)(cells:List Value):Prop :=
 match t with
 | .fz=>L.A g∧Row w g o cells
 | .nn=>False
 | .own id e=>L.own id=some g∧o=0∧∃arr,w.heap[g]?=some (.cells arr e (0,0))∧arr.toList.take cells.length=cells
mutual
def V.map(τ:Tag→Tag)(ρ:Nat→Nat):V→V
 | .c v => .c v
 | .sl t k xs => .sl (τ t) k xs
 | .agg cs => .agg (V.mapL τ ρ cs)
 | .tup cs => .tup (V.mapL τ ρ cs)
 | .ref b off => .ref (ρ b) off
 | .el t k xs i off => .el (τ t) k xs i off
 | .fn f fs cs => .fn f (V.mapL τ ρ fs) (V.mapL τ ρ cs)
 | .top => .top
 | .nif => .nif
def V.mapL(τ:Tag→Tag)(ρ:Nat→Nat):List V→List V
 | []=>[]
 | x::xs=>V.map τ ρ x::V.mapL τ ρ xs
end
mutual
def Rep(L:Lay)(w:World):V→Value→Prop
 | .c v,u=>u=v
 | .sl t k xs,u=>∃a cap cells,u = .slice a xs.length cap∧RepE L w k xs cells∧SlMem L w t k a xs.length cap cells
 | .agg cs,u=>∃a,u = .agg a∧Reps L w cs a.toList
 | .tup cs,u=>∃a,u = .tuple a∧Reps L w cs a.toList
 | .ref b off,u=>∃g,L.box b=some g∧u = .pointer (some ⟨g,off,none⟩)
 | .el t k xs i off,u=>∃g o cells,u = .pointer (some ⟨g,o+i*k+off,none⟩)∧RepE L w k xs cells∧ElMem L w t g o cells
 | .fn f fs cs,u=>∃a b,u = .func (.func f) a b∧Reps L w fs a.toList∧Reps L w cs b.toList
 | .top,_=>True
 | .nif,u=>∃t v,u = .iface t v
def Reps(L:Lay)(w:World):List V→List Value→Prop
 | [],us=>us=[]
 | x::xs,us=>∃u r,us=u::r∧Rep L w x u∧Reps L w xs r
def RepE(L:Lay)(w:World)(k:Nat):List V→List Value→Prop
 | [],us=>us=[]
 | x::xs,us=>∃u r,us=u.cells.toList++r∧u.cells.size=k∧(x.free=true∧u.cells.toList.all Value.oneCell'=true)∧Rep L w x u∧RepE L w k xs r
end
structure Kp (Wr:Nat→Prop) (B:Nat) (w w':World):Prop where
 os:w'.os=w.os
 tape:w'.tape=w.tape
 output:w'.output=w.output
 size:w.heap.size≤w'.heap.size
 block:∀k,k<B→¬Wr k→w'.heap[k]?=w.heap[k]?
theorem Kp.refl(Wr:Nat→Prop)(B:Nat)(w:World):Kp Wr B w w:=⟨rfl,rfl,rfl,Nat.le_refl _,fun _ _ _=>rfl⟩
theorem Kp.trans{Wr:Nat→Prop}{B:Nat}{a b c:World}(h:Kp Wr B a b)(k:Kp Wr B b c):Kp Wr B a c :=
 ⟨k.os.trans h.os,k.tape.trans h.tape,k.output.trans h.output,Nat.le_trans h.size k.size,fun i hi hw=>(k.block i hi hw).trans (h.block i hi hw)⟩
theorem Kp.mono{Wr Wr':Nat→Prop}{B B':Nat}{a b:World}(h:Kp Wr B a b)(hB:B'≤B)(hW:∀g,g<B'→Wr g→Wr' g):Kp Wr' B' a b :=
 ⟨h.os,h.tape,h.output,h.size,fun i hi hw=>h.block i (Nat.lt_of_lt_of_le hi hB) fun x=>hw (hW i hi x)⟩
theorem Kp.alloc{Wr:Nat→Prop}{B:Nat}{a w:World}(h:Kp Wr B a w)(hB:B≤w.heap.size)(o:Obj):Kp Wr B a (w.alloc o) :=
 h.trans ⟨rfl,rfl,rfl,by simp,fun k hk _=>RowKit.Below.heap_alloc _ _ _ (by omega)⟩
class Tb (P:Program) where
 T:World→Prop
 keep:∀w w',T w→Kp (fun _=>False) w.heap.size w w'→T w'
theorem Kp.drew{Wr:Nat→Prop}{B:Nat}{a w:World}(h:Kp Wr B a w):Kp Wr B a w.drew:=⟨h.os,h.tape,h.output,h.size,h.block⟩
theorem V.ind{p:V→Prop}{q:List V→Prop}(hc:∀v,p (.c v))(hnif:p .nif)(hsl:∀t k xs,q xs→p (.sl t k xs))(hagg:∀cs,q cs→p (.agg cs))(htup:∀cs,q cs→p (.tup cs))
  (href:∀b o,p (.ref b o)) (hel:∀t k xs i o,q xs→p (.el t k xs i o)) (hfn:∀f fs cs,q fs→q cs→p (.fn f fs cs)) (htop:p .top) (hnil:q []) (hcons:∀x xs,p x→q xs→q (x::xs)) :
  (∀v,p v)∧(∀l,q l):=by
 have h1:∀v,p v:=fun v=>V.rec (motive_1:=p) (motive_2:=q) hc (fun t k xs h=>hsl t k xs h) (fun cs h=>hagg cs h) (fun cs h=>htup cs h) href (fun t k xs i o h=>hel t k xs i o h) (fun f fs cs h h'=>hfn f fs cs h h') htop hnif hnil (fun x xs h h'=>hcons x xs h h') v
 exact⟨h1,fun l=>by induction l with|nil=>exact hnil|cons x xs ih=>exact hcons x xs (h1 x) ih⟩
theorem xx(τ:Tag→Tag)(ρ:Nat→Nat)(l:List V):V.mapL τ ρ l=l.map (V.map τ ρ):=by
 induction l with
 | nil=>rfl
 | cons x xs ih=>simp [V.mapL,ih]
theorem map_id:(∀v:V,v.map id id=v)∧(∀l,V.mapL id id l=l):=by
 refine V.ind ?_ ?_ ?_ ?_ ?_ ?_ ?_ ?_ ?_ ?_ ?_<;>intros<;>simp_all [V.map,V.mapL]
theorem WN(p:Tag→Bool)(q:Nat→Bool)(hp:p .fz=false)(tp:Bool) :
  (∀v:V,v.any Tag.isOwn (fun _=>true) true=false→v.any p q tp=false)∧(∀l,V.anyL Tag.isOwn (fun _=>true) true l=false→V.anyL p q tp l=false):=by
 refine V.ind ?_ ?_ ?_ ?_ ?_ ?_ ?_ ?_ ?_ ?_ ?_
 ·intro v _;rfl
 ·intro _;rfl
 ·intro t k xs _ h;cases t with
  | fz=>simpa [V.any] using hp
  | nn=>simp [V.any,Tag.isOwn] at h
  | own id e=>simp [V.any,Tag.isOwn] at h
 ·intro cs ih h;exact ih h
 ·intro cs ih h;exact ih h
 ·intro b off h;simp [V.any] at h
 ·intro t k xs i off _ h;cases t with
  | fz=>simpa [V.any] using hp
  | nn=>simp [V.any,Tag.isOwn] at h
  | own id e=>simp [V.any,Tag.isOwn] at h
 ·intro f fs cs ih1 ih2 h
  simp only[V.any,Bool.or_eq_false_iff] at h ⊢
  exact⟨ih1 h.1,ih2 h.2⟩
 ·intro h;simp [V.any] at h
 ·intro _;rfl
 ·intro x xs ih1 ih2 h
  simp only[V.anyL,Bool.or_eq_false_iff] at h ⊢
  exact⟨ih1 h.1,ih2 h.2⟩
theorem V.free.any{v:V}(h:v.free=true)(p:Tag→Bool)(q:Nat→Bool)(hp:p .fz=false)(tp:Bool):v.any p q tp=false :=
 (WN p q hp tp).1 v (by simpa [V.free] using h)
theorem WO(τ:Tag→Tag)(ρ:Nat→Nat)(hτ:τ .fz = .fz) :
  (∀v:V,v.any Tag.isOwn (fun _=>true) true=false→v.map τ ρ=v)∧(∀l,V.anyL Tag.isOwn (fun _=>true) true l=false→V.mapL τ ρ l=l):=by
 refine V.ind ?_ ?_ ?_ ?_ ?_ ?_ ?_ ?_ ?_ ?_ ?_
 ·intro v _;rfl
 ·intro _;rfl
 ·intro t k xs _ h;cases t with
  | fz=>simp [V.map,hτ]
  | nn=>simp [V.any,Tag.isOwn] at h
  | own id e=>simp [V.any,Tag.isOwn] at h
 ·intro cs ih h;simp [V.map,ih h]
 ·intro cs ih h;simp [V.map,ih h]
 ·intro b off h;simp [V.any] at h
 ·intro t k xs i off _ h;cases t with
  | fz=>simp [V.map,hτ]
  | nn=>simp [V.any,Tag.isOwn] at h
  | own id e=>simp [V.any,Tag.isOwn] at h
 ·intro f fs cs ih1 ih2 h
  simp only[V.any,Bool.or_eq_false_iff] at h
  simp [V.map,ih1 h.1,ih2 h.2]
 ·intro _;rfl
 ·intro _;rfl
 ·intro x xs ih1 ih2 h
  simp only[V.anyL,Bool.or_eq_false_iff] at h
  simp [V.mapL,ih1 h.1,ih2 h.2]
theorem V.free.map{v:V}(h:v.free=true)(τ:Tag→Tag)(ρ:Nat→Nat)(hτ:τ .fz = .fz):v.map τ ρ=v :=
 (WO τ ρ hτ).1 v (by simpa [V.free] using h)
def RowKept(w w':World)(g:Nat):Prop:=∀arr e fr,w.heap[g]?=some (.cells arr e fr)→∃fr',w'.heap[g]?=some (.cells arr e fr')
theorem RowKept.of{w w':World}{g:Nat}(h:w'.heap[g]?=w.heap[g]?):RowKept w w' g:=fun _ _ fr hg=>⟨fr,h.trans hg⟩
theorem Row.keep{w w':World}{g o:Nat}{cells:List Value}(h:Row w g o cells)(hg:RowKept w w' g):Row w' g o cells:=by
 obtain⟨arr,e,fr,h1,h2⟩:=h
 obtain⟨fr',h3⟩:=hg arr e fr h1
 exact⟨arr,e,fr',h3,h2⟩
structure Trans (p:Tag→Bool) (q:Nat→Bool) (τ:Tag→Tag) (ρ:Nat→Nat) (L L':Lay) (w w':World):Prop where
 fz':(τ .fz,(τ .nn).nnOk,fun id e=>(τ (.own id e)).notNN)=(Tag.fz,true,fun _ _=>true)
 A:∀g,L.A g→L'.A g∧RowKept w w' g
 own:∀id e,p (.own id e)=false→∀g,L.own id=some g→(match τ (.own id e) with | .fz=>L'.A g | .nn=>False | .own id' e'=>e'=e∧L'.own id'=some g)∧w'.heap[g]?=w.heap[g]?
 box:∀b,q b=false→∀g,L.box b=some g→L'.box (ρ b)=some g
theorem Trans.fz{p:Tag→Bool}{q:Nat→Bool}{τ:Tag→Tag}{ρ:Nat→Nat}{L L':Lay}{w w':World}(K:Trans p q τ ρ L L' w w'):τ .fz = .fz:=(Prod.mk.inj K.fz').1
theorem Trans.nn{p:Tag→Bool}{q:Nat→Bool}{τ:Tag→Tag}{ρ:Nat→Nat}{L L':Lay}{w w':World}(K:Trans p q τ ρ L L' w w'):(τ .nn).nnOk=true:=(Prod.mk.inj (Prod.mk.inj K.fz').2).1
theorem Trans.ownNN{p:Tag→Bool}{q:Nat→Bool}{τ:Tag→Tag}{ρ:Nat→Nat}{L L':Lay}{w w':World}(K:Trans p q τ ρ L L' w w')(id:Nat)(e:TypeId):(τ (.own id e)).notNN=true:=congrFun (congrFun (Prod.mk.inj (Prod.mk.inj K.fz').2).2 id) e
section
variable {L L':Lay} {w w':World}
theorem SlMem.trans{p:Tag→Bool}{q:Nat→Bool}{τ:Tag→Tag}{ρ:Nat→Nat}(K:Trans p q τ ρ L L' w w'){t:Tag}{k:Nat}{a:Option Addr}{len cap:Nat}{cells:List Value}(ht:p t=false)
  (h:SlMem L w t k a len cap cells):SlMem L' w' (τ t) k a len cap cells:=by
 cases t with
 | fz =>
  rw[K.fz]
  obtain⟨h0,h⟩:=h
  refine⟨h0,h.imp id ?_⟩
  rintro⟨g,o,h1,h2,h3⟩
  exact⟨g,o,h1,(K.A g h2).1,h3.keep (K.A g h2).2⟩
 | nn =>
  obtain⟨h0,h1⟩:=h
  have hn:=K.nn
  cases ht':τ .nn with
  | fz=>exact⟨by omega,.inl h0⟩
  | nn=>exact⟨h0,h1⟩
  | own id e=>rw[ht'] at hn;cases hn
 | own id e =>
  rcases h with ⟨h1,h2,h3⟩|⟨g,arr,h1,h2,h3,h4,h5,h6,h7⟩
  ·cases ht':τ (.own id e) with
   | fz=>exact⟨by omega,.inl h1⟩
   | nn=>have:=K.ownNN id e;rw[ht'] at this;cases this
   | own id' e'=>exact .inl ⟨h1,h2,h3⟩
  ·obtain⟨ho,hb⟩:=K.own id e ht g h1
   cases ht':τ (.own id e) with
   | fz =>
    rw[ht'] at ho
    refine⟨h4,.inr ⟨g,0,h2,ho,arr,e,(0,0),hb.trans h3, ?_⟩⟩
    have:cells.length=len*k:=by rw[←h7];have:=Nat.mul_le_mul_right k h4;simp only[List.length_take,Array.length_toList,h6];omega
    simp [this,h7]
   | nn=>rw[ht'] at ho;exact ho.elim
   | own id' e' =>
    rw[ht'] at ho
    obtain⟨rfl,ho⟩:=ho
    exact .inr ⟨g,arr,ho,h2,hb.trans h3,h4,h5,h6,h7⟩
theorem ElMem.trans{p:Tag→Bool}{q:Nat→Bool}{τ:Tag→Tag}{ρ:Nat→Nat}(K:Trans p q τ ρ L L' w w'){t:Tag}{g o:Nat}{cells:List Value}(ht:p t=false)
  (h:ElMem L w t g o cells):ElMem L' w' (τ t) g o cells:=by
 cases t with
 | fz=>rw[K.fz];exact⟨(K.A g h.1).1,h.2.keep (K.A g h.1).2⟩
 | nn=>exact h.elim
 | own id e =>
  obtain⟨h1,rfl,arr,h3,h4⟩:=h
  obtain⟨ho,hb⟩:=K.own id e ht g h1
  cases ht':τ (.own id e) with
  | fz=>rw[ht'] at ho;exact⟨ho,arr,e,(0,0),hb.trans h3,by simpa using h4⟩
  | nn=>rw[ht'] at ho;exact ho.elim
  | own id' e' =>
   rw[ht'] at ho
   obtain⟨rfl,ho⟩:=ho
   exact⟨ho,rfl,arr,hb.trans h3,h4⟩
theorem qO{p:Tag→Bool}{q:Nat→Bool}{τ:Tag→Tag}{ρ:Nat→Nat}(hp:p .fz=false)(K:Trans p q τ ρ L L' w w') :
  (∀v u,v.any p q false=false→Rep L w v u→Rep L' w' (v.map τ ρ) u) ∧
  (∀l,(∀us,V.anyL p q false l=false→Reps L w l us→Reps L' w' (V.mapL τ ρ l) us)∧∀k us,RepE L w k l us→RepE L' w' k l us):=by
 refine V.ind ?_ ?_ ?_ ?_ ?_ ?_ ?_ ?_ ?_ ?_ ?_
 ·intro v u _ h;exact h
 ·intro u _ h;exact h
 ·rintro t k xs ⟨_,ih⟩ u ha ⟨a,cap,cells,h1,h2,h3⟩
  exact⟨a,cap,cells,h1,ih k cells h2,h3.trans K ha⟩
 ·rintro cs ⟨ih,_⟩ u ha ⟨a,h1,h2⟩
  exact⟨a,h1,ih _ ha h2⟩
 ·rintro cs ⟨ih,_⟩ u ha ⟨a,h1,h2⟩
  exact⟨a,h1,ih _ ha h2⟩
 ·rintro b off u ha ⟨g,h1,h2⟩
  exact⟨g,K.box b ha g h1,h2⟩
 ·rintro t k xs i off ⟨_,ih⟩ u ha ⟨g,o,cells,h1,h2,h3⟩
  exact⟨g,o,cells,h1,ih k cells h2,h3.trans K ha⟩
 ·rintro f fs cs ⟨ih1,_⟩ ⟨ih2,_⟩ u ha ⟨a,b,h1,h2,h3⟩
  simp only[V.any,Bool.or_eq_false_iff] at ha
  exact⟨a,b,h1,ih1 _ ha.1 h2,ih2 _ ha.2 h3⟩
 ·intro u _ _;trivial
 ·exact⟨fun us _ h=>h,fun k us h=>h⟩
 ·rintro x xs ihx ⟨ih1,ih2⟩
  refine⟨?_, ?_⟩
  ·rintro us ha ⟨u,r,h1,h2,h3⟩
   simp only[V.anyL,Bool.or_eq_false_iff] at ha
   exact⟨u,r,h1,ihx u ha.1 h2,ih1 r ha.2 h3⟩
  ·rintro k us ⟨u,r,h1,h2,h3,h4,h5⟩
   have:=ihx u (V.free.any h3.1 p q hp _) h4
   rw[V.free.map h3.1 τ ρ K.fz] at this
   exact⟨u,r,h1,h2,h3,this,ih2 k r h5⟩
theorem Rep.trans{p:Tag→Bool}{q:Nat→Bool}{τ:Tag→Tag}{ρ:Nat→Nat}(hp:p .fz=false)(K:Trans p q τ ρ L L' w w'){v:V}{u:Value}(ha:v.any p q false=false)(h:Rep L w v u) :
  Rep L' w' (v.map τ ρ) u:=(qO hp K).1 v u ha h
theorem Reps.trans{p:Tag→Bool}{q:Nat→Bool}{τ:Tag→Tag}{ρ:Nat→Nat}(hp:p .fz=false)(K:Trans p q τ ρ L L' w w'){l:List V}{us:List Value}(ha:V.anyL p q false l=false)(h:Reps L w l us) :
  Reps L' w' (V.mapL τ ρ l) us:=((qO hp K).2 l).1 us ha h
theorem RepE.trans{p:Tag→Bool}{q:Nat→Bool}{τ:Tag→Tag}{ρ:Nat→Nat}(hp:p .fz=false)(K:Trans p q τ ρ L L' w w'){k:Nat}{l:List V}{us:List Value}(h:RepE L w k l us) :
  RepE L' w' k l us:=((qO hp K).2 l).2 k us h
theorem MS:(∀v:V,v.any (fun _=>false) (fun _=>false) false=false)∧(∀l,V.anyL (fun _=>false) (fun _=>false) false l=false):=by
 refine V.ind ?_ ?_ ?_ ?_ ?_ ?_ ?_ ?_ ?_ ?_ ?_<;>intros<;>simp_all [V.any,V.anyL]
abbrev Whole(L L':Lay)(w w':World):Prop:=Trans (fun _=>false) (fun _=>false) id id L L' w w'
theorem Rep.whole(K:Whole L L' w w'){v:V}{u:Value}(h:Rep L w v u):Rep L' w' v u:=by
 have:=h.trans rfl K (MS.1 v);rwa [map_id.1] at this
theorem Reps.whole(K:Whole L L' w w'){l:List V}{us:List Value}(h:Reps L w l us):Reps L' w' l us:=by
 have:=h.trans rfl K (MS.2 l);rwa [map_id.2] at this
theorem Reps.length{l:List V}{us:List Value}(h:Reps L w l us):us.length=l.length:=by
 induction l generalizing us with
 | nil=>simp only[Reps] at h;simp [h]
 | cons x xs ih=>obtain⟨u,r,rfl,_,h3⟩:=h;simp [ih h3]
theorem Reps.get{l:List V}{us:List Value}(h:Reps L w l us){i:Nat}{v:V}(hv:l[i]?=some v):∃u,us[i]?=some u∧Rep L w v u:=by
 induction l generalizing us i with
 | nil=>simp at hv
 | cons x xs ih =>
  obtain⟨u,r,rfl,h2,h3⟩:=h
  cases i with
  | zero=>simp at hv;subst hv;exact⟨u,by simp,h2⟩
  | succ i=>simp at hv;simpa using ih h3 hv
theorem Reps.append{l l':List V}{us us':List Value}(h:Reps L w l us)(h':Reps L w l' us'):Reps L w (l++l') (us++us'):=by
 induction l generalizing us with
 | nil=>simp only[Reps] at h;simpa [h] using h'
 | cons x xs ih=>obtain⟨u,r,rfl,h2,h3⟩:=h;exact⟨u,r++us',rfl,h2,ih h3⟩
theorem Reps.split{l l':List V}{us:List Value}(h:Reps L w (l++l') us):∃a b,us=a++b∧Reps L w l a∧Reps L w l' b:=by
 induction l generalizing us with
 | nil=>exact⟨[],us,rfl,rfl,h⟩
 | cons x xs ih=>obtain⟨u,r,rfl,h2,h3⟩:=h;obtain⟨a,b,rfl,h4,h5⟩:=ih h3;exact⟨u::a,b,rfl,⟨u,a,rfl,h2,h4⟩,h5⟩
theorem Reps.take{l:List V}{us:List Value}(h:Reps L w l us)(n:Nat):Reps L w (l.take n) (us.take n):=by
 induction l generalizing us n with
 | nil=>simp only[Reps] at h;simp [h,Reps]
 | cons x xs ih =>
  obtain⟨u,r,rfl,h2,h3⟩:=h
  cases n with
  | zero=>simp [Reps]
  | succ n=>exact⟨u,r.take n,by simp,h2,ih h3 n⟩
theorem Reps.drop{l:List V}{us:List Value}(h:Reps L w l us)(n:Nat):Reps L w (l.drop n) (us.drop n):=by
 induction l generalizing us n with
 | nil=>simp only[Reps] at h;simp [h,Reps]
 | cons x xs ih =>
  cases n with
  | zero=>simpa using h
  | succ n=>obtain⟨u,r,rfl,h2,h3⟩:=h;simpa using ih h3 n
theorem RepE.length{k:Nat}{l:List V}{us:List Value}(h:RepE L w k l us):us.length=l.length*k:=by
 induction l generalizing us with
 | nil=>simp only[RepE] at h;simp [h]
 | cons x xs ih=>obtain⟨u,r,rfl,h2,_,_,h5⟩:=h;simp [ih h5,h2,Nat.add_mul,Nat.add_comm]
theorem RepE.append{k:Nat}{l l':List V}{us us':List Value}(h:RepE L w k l us)(h':RepE L w k l' us'):RepE L w k (l++l') (us++us'):=by
 induction l generalizing us with
 | nil=>simp only[RepE] at h;simpa [h] using h'
 | cons x xs ih=>obtain⟨u,r,rfl,h2,h3,h4,h5⟩:=h;exact⟨u,r++us',by simp,h2,h3,h4,ih h5⟩
theorem RepE.drop{k:Nat}{l:List V}{us:List Value}(h:RepE L w k l us)(n:Nat):RepE L w k (l.drop n) (us.drop (n*k)):=by
 induction l generalizing us n with
 | nil=>simp only[RepE] at h;simp [h,RepE]
 | cons x xs ih =>
  cases n with
  | zero=>simpa using h
  | succ n =>
   obtain⟨u,r,rfl,h2,h3,h4,h5⟩:=h
   have:=ih h5 n
   have e:(u.cells.toList++r).drop ((n+1)*k)=r.drop (n*k):=by
    rw[List.drop_append,List.drop_eq_nil_of_le (by simp [h2,Nat.add_mul])]
    simp [h2,Nat.add_mul]
   rw[e];exact this
theorem RepE.take{k:Nat}{l:List V}{us:List Value}(h:RepE L w k l us)(n:Nat):RepE L w k (l.take n) (us.take (n*k)):=by
 induction l generalizing us n with
 | nil=>simp only[RepE] at h;simp [h,RepE]
 | cons x xs ih =>
  cases n with
  | zero=>simp [RepE]
  | succ n =>
   obtain⟨u,r,rfl,h2,h3,h4,h5⟩:=h
   refine⟨u,r.take (n*k), ?_,h2,h3,h4,ih h5 n⟩
   rw[List.take_append,List.take_of_length_le (by simp [h2,Nat.add_mul])]
   simp [h2,Nat.add_mul,Nat.add_sub_cancel]
theorem RepE.one{k:Nat}{l:List V}{us:List Value}(h:RepE L w k l us):∀u∈us,u.oneCell'=true:=by
 induction l generalizing us with
 | nil=>simp only[RepE] at h;simp [h]
 | cons x xs ih =>
  obtain⟨u,r,rfl,h2,h3,h4,h5⟩:=h
  intro v hv
  rcases List.mem_append.1 hv with h6|h6
  ·exact List.all_eq_true.1 h3.2 v h6
  ·exact ih h5 v h6
theorem RepE.get{k:Nat}{l:List V}{us:List Value}(h:RepE L w k l us){i:Nat}{v:V}(hv:l[i]?=some v) :
  ∃u,(us.drop (i*k)).take k=u.cells.toList∧u.cells.size=k∧(v.free=true∧u.cells.toList.all Value.oneCell'=true)∧Rep L w v u:=by
 have hi:i<l.length:=(List.getElem?_eq_some_iff.1 hv).1
 have h1:=h.drop i
 rw[List.drop_eq_getElem_cons hi] at h1
 obtain⟨u,r,h2,h3,h4,h5,_⟩:=h1
 have:l[i]=v:=(List.getElem?_eq_some_iff.1 hv).2
 rw[this] at h4 h5
 exact⟨u,by rw[h2];simp [h3],h3,h4,h5⟩
theorem RepE.set{k:Nat}{l:List V}{us:List Value}(h:RepE L w k l us){i:Nat}{v:V}{u:Value}(hi:i<l.length)(hk:u.cells.size=k)(hf:v.free=true∧u.cells.toList.all Value.oneCell'=true)(hu:Rep L w v u) :
  RepE L w k (l.set i v) (us.take (i*k)++u.cells.toList++us.drop (i*k+k)):=by
 have e:l.set i v=l.take i++([v]++l.drop (i+1)):=by
  rw[List.set_eq_take_append_cons_drop,if_pos hi];rfl
 rw[e,List.append_assoc]
 refine (h.take i).append (RepE.append ⟨u,[],by simp,hk,hf,hu,rfl⟩ ?_)
 have:=h.drop (i+1)
 rwa [Nat.add_mul,Nat.one_mul] at this
end
end Go.Pg
end
section
namespace Go.Pg
open Go
structure St where
 env:Nat→V
 bx:Nat→Option (TypeId × List V)
 nid:Nat
 hd:Nat→V:=fun _ => .top
def upd{α:Type}(f:Nat→α)(d:Nat)(v:α):Nat→α:=fun t=>if t=d then v else f t
theorem abr{α:Type}(f:Nat→α)(d:Nat)(v:α):upd f d v d=v:=by simp [upd]
theorem aoZ{α:Type}(f:Nat→α)(d t:Nat)(v:α)(h:t≠d):upd f d v t=f t:=by simp [upd,h]
def iJ:Value→V
 | .agg cs => .agg (cs.toList.map .c)
 | .tuple vs => .tup (vs.toList.map .c)
 | v => .c v
def St.ev(s:St):Operand→V
 | .tmp t=>s.env t
 | .const v=>iJ v
 | .global g => .c (.pointer (some ⟨g,0,none⟩))
 | .func f => .fn f [] []
def St.put(s:St)(d:Option Nat)(v:V):St :=
 match d with
 | some d=>{ s with env:=upd s.env d v }
 | none=>s
structure Cx where
 n:Nat
 A0:Nat→Prop
 Wr:Nat→Prop
 w0:World
 hid:Nat→Value:=fun _=>undef
abbrev Cx.B(C:Cx):Nat:=C.w0.heap.size
def Cx.TOk(C:Cx)(P:Program)[Tb P]:Prop:=∀w',Kp C.Wr C.B C.w0 w'→Tb.T P w'
structure Wf (C:Cx) (nid:Nat) (L:Lay) (w:World):Prop where
 nidO:∀id g,L.own id=some g→id<nid
 nidB:∀b g,L.box b=some g→b<nid
 own:∀id g,L.own id=some g→g<w.heap.size∧(C.B≤g∨C.Wr g)∧¬L.A g
 boxW:∀b g,L.box b=some g→g<w.heap.size∧(C.B≤g∨C.Wr g)∧¬L.A g
 injO:∀i j g,L.own i=some g→L.own j=some g→i=j
 injB:∀i j g,L.box i=some g→L.box j=some g→i=j
 dis:∀i j g,L.own i=some g→L.box j=some g→False
 old:∀g,L.A g→g<w.heap.size
 frz:∀g,L.A g→C.A0 g∨C.B≤g∨C.Wr g
def BoxOk(L:Lay)(w:World)(b:Nat)(x:TypeId × List V):Prop :=
 ∃g arr,L.box b=some g∧w.heap[g]?=some (.cells arr x.1 (0,0))∧Reps L w x.2 arr.toList
structure Sim (C:Cx) (s:St) (L:Lay) (a:Act) (w:World):Prop where
 defers:a.defers=[]
 size:a.tmps.size=C.n
 env:∀t,Rep L w (s.env t) (a.tmps.getD t undef)
 hid:∀t,Rep L w (s.hd t) (C.hid t)
 box:∀b cs,s.bx b=some cs→BoxOk L w b cs
 wf:Wf C s.nid L w
 kp:Kp C.Wr C.B C.w0 w
theorem zu(L:Lay)(w:World)(l:List Value):Reps L w (l.map .c) l:=by
 induction l with
 | nil=>rfl
 | cons x xs ih=>exact⟨x,xs,rfl,rfl,ih⟩
theorem uq(L:Lay)(w:World)(v:Value):Rep L w (iJ v) v:=by
 cases v<;>first|rfl|exact⟨_,rfl,zu L w _⟩
section
variable {C:Cx} {s:St} {L:Lay} {a:Act} {w:World}
theorem Sim.ev(S:Sim C s L a w)(x:Operand):Rep L w (s.ev x) (a.eval x):=by
 cases x with
 | tmp t=>exact S.env t
 | const v=>exact uq L w v
 | global g=>rfl
 | func f=>exact⟨#[],#[],rfl,rfl,rfl⟩
theorem Sim.put(S:Sim C s L a w){v:V}{u:Value}(h:Rep L w v u){d:Option Nat}(hd:∀t,d=some t→t<C.n):Sim C (s.put d v) L (a.put d u) w:=by
 cases d with
 | none=>exact S
 | some d =>
  have hd:=hd d rfl
  refine⟨S.defers,by simp [Act.put,S.size],fun t => ?_,S.hid,S.box,S.wf,S.kp⟩
  simp only[St.put,Act.put,upd]
  by_cases ht:t=d
  ·subst ht
   have:t<a.tmps.size:=by rw[S.size];exact hd
   simp [Array.getD,this,h]
  ·have:=S.env t
   rw[if_neg ht]
   simpa [Array.getD_eq_getD_getElem?,Array.getElem?_setIfInBounds,Ne.symm ht] using this
end
def tsz(P:Program)(t:TypeId):Option Nat:=(P.info? t).map (·.size)
def tY(P:Program)(t:TypeId):Option Value:=(P.info? t).bind (·.zero)
def mV(P:Program)(t:TypeId):Option Bool:=(P.underlying t).map fun | .struct _=>true | .array _ _=>true|_=>false
def elemT(P:Program)(t:TypeId):Option TypeId:=match P.underlying t with|some (.slice e)=>some e|_=>none
def mW(P:Program)(t:TypeId)(f:Nat):Option (TypeId × Nat):=match P.underlying t with|some (.struct fs)=>(fs[f]?).map fun x=>(x.type,x.offset)|_=>none
def jD(P:Program)(t:TypeId):Option (Nat × TypeId):=match P.underlying t with|some (.array n e)=>some (n,e)|_=>none
def ji(P:Program)(t:TypeId):Bool:=match P.underlying t with|some .string=>true|_=>false
def nI(P:Program)(t:TypeId):Bool:=match P.underlying t with|some .bool=>true|_=>false
def rY(P:Program)(t:TypeId):Option IntKind:=match P.underlying t with|some (.int k)=>some k|_=>none
section
variable {P:Program} {t:TypeId}
theorem WP{n:Nat}(h:tsz P t=some n):∃i,P.info? t=some i∧i.size=n:=by simpa [tsz] using h
theorem MV{v:Value}(h:tY P t=some v):∃i,P.info? t=some i∧i.zero=some v:=by simpa [tY,Option.bind_eq_some_iff] using h
theorem dY{e:TypeId}(h:elemT P t=some e):P.underlying t=some (.slice e):=by
 unfold elemT at h;split at h<;>simp_all
theorem wK{n:Nat}{e:TypeId}(h:jD P t=some (n,e)):P.underlying t=some (.array n e):=by
 unfold jD at h;split at h<;>simp_all
theorem kS(h:ji P t=true):P.underlying t=some .string:=by
 unfold ji at h;split at h<;>simp_all
theorem Au(h:nI P t=true):P.underlying t=some .bool:=by
 unfold nI at h;split at h<;>simp_all
theorem qY{k:IntKind}(h:rY P t=some k):P.underlying t=some (.int k):=by
 unfold rY at h;split at h<;>simp_all
theorem Ce{f n:Nat}{ft:TypeId}(h:mW P t f=some (ft,n)):∃fs fd,P.underlying t=some (.struct fs)∧fs[f]?=some fd∧fd.type=ft∧fd.offset=n:=by
 unfold mW at h
 split at h
 ·rename_i fs hu
  simp only[Option.map_eq_some_iff,Prod.mk.injEq] at h
  obtain⟨fd,h1,h2,h3⟩:=h
  exact⟨fs,fd,hu,h1,h2,h3⟩
 ·cases h
theorem jE{n:Nat}(h:tsz P t=some n)(w:World):(sizeOf t).run P w = .ok n w:=by
 obtain⟨i,h1,h2⟩:=WP h
 simp [sizeOf,typeInfo,h1,h2]
theorem qZ{v:Value}(h:tY P t=some v)(w:World):(zeroValue t).run P w = .ok v w:=by
 obtain⟨i,h1,h2⟩:=MV h
 simp [zeroValue,typeInfo,h1,h2]
theorem pq{b:Bool}(h:mV P t=some b)(w:World):(isAgg t).run P w = .ok b w:=by
 simp only[mV,Option.map_eq_some_iff] at h
 obtain⟨d,h1,h2⟩:=h
 cases d<;>simp_all [isAgg,run_underlying h1]
end
def V.cs:V→Option (List V)
 | .agg l=>some l
 | .top=>none
 | .c v=>some (v.cells.toList.map .c)
 | .sl t k xs=>some [.sl t k xs]
 | .tup vs=>some [.tup vs]
 | .ref b o=>some [.ref b o]
 | .el t k xs i o=>some [.el t k xs i o]
 | .fn f a b=>some [.fn f a b]
 | .nif=>some [.nif]
theorem wL{L:Lay}{w:World}{v:V}{u:Value}{l:List V}(h:Rep L w v u)(hc:v.cs=some l):Reps L w l u.cells.toList:=by
 cases v<;>simp only[V.cs,Option.some.injEq,reduceCtorEq] at hc
 case c x=>subst hc;simp only[Rep] at h;subst h;exact zu L w _
 case agg cs=>subst hc;obtain⟨a,rfl,h⟩:=h;exact h
 all_goals
  subst hc
  have hu:u.cells.toList=[u]:=by
   first
    | (obtain⟨_,_,_,rfl,_⟩:=h;rfl)
    | (obtain⟨_,rfl,_⟩:=h;rfl)
    | (obtain⟨_,_,rfl,_⟩:=h;rfl)
    | (obtain⟨_,_,_,h1,_⟩:=h;subst h1;rfl)
  rw[hu]
  exact⟨u,[],rfl,h,rfl⟩
def ug(op:BinOp)(k:IntKind)(a b:Int):Option Value :=
 match op with
 | .add=>some (.int k (k.wrap (a+b)))
 | .sub=>some (.int k (k.wrap (a-b)))
 | .mul=>some (.int k (k.wrap (a*b)))
 | .quo=>if b=0 then none else some (.int k (k.wrap (a.tdiv b)))
 | .rem=>if b=0 then none else some (.int k (a.tmod b))
 | .and=>some (.int k (bits .and k a b))
 | .or=>some (.int k (bits .or k a b))
 | .xor=>some (.int k (bits .xor k a b))
 | .andNot=>some (.int k (bits .andNot k a b))
 | .eql=>some (.bool (a == b))
 | .neq=>some (.bool (a != b))
 | .lss=>some (.bool (decide (a<b)))
 | .leq=>some (.bool (decide (a≤b)))
 | .gtr=>some (.bool (decide (a > b)))
 | .geq=>some (.bool (decide (a≥b)))
 | .shl | .shr=>none
def acV(op:BinOp)(a b:ByteArray):Option Value :=
 match op with
 | .add=>if a.size+b.size≤9223372036854775807 then some (.string (a++b)) else none
 | .eql=>some (.bool (decide (a=b)))
 | .neq=>some (.bool (!decide (a=b)))
 | .lss=>some (.bool (Op.bytesLess a.toList b.toList))
 | .leq=>some (.bool (Op.bytesLess a.toList b.toList||decide (a=b)))
 | .gtr=>some (.bool (!(Op.bytesLess a.toList b.toList||decide (a=b))))
 | .geq=>some (.bool (!Op.bytesLess a.toList b.toList))
 | _=>none
def BG:V→Option Bool
 | .c (.slice none _ _)=>some true
 | .sl _ _ (_::_)=>some false
 | .sl .nn _ []=>some false
 | _=>none
def jM(P:Program)(t:TypeId):Bool:=match P.underlying t with|some (.pointer e)=>(P.info? e).isSome|_=>false
def xy:V→Option Bool
 | .c (.pointer p)=>some p.isNone
 | .ref _ _=>some false
 | .el _ _ _ _ _=>some false
 | _=>none
inductive EqK where
 | n
 | b
 | s
def QA(P:Program)(f:Field):Option (Nat × EqK) :=
 if f.name = "_" then none else
  match P.underlying f.type with
  | some (.int _)=>some (f.offset,.n)
  | some .bool=>some (f.offset,.b)
  | some .string=>some (f.offset,.s)
  | _=>none
def qo(P:Program)(t:TypeId):Option (List (Nat × EqK)) :=
 if P.stoodInHeld t=true∨P.eqGuardType P.depth t=true then none else
  match P.underlying t with
  | some (.struct fs)=>fs.toList.mapM (QA P)
  | _=>none
def eqK(k:EqK)(x y:Option V)(z:Option Bool):Option Bool :=
 match k,x,y with
 | .n,some (.c (.int k a)),some (.c (.int k' b))=>if k=k' then z.map fun z=>(a == b)&&z else none
 | .b,some (.c (.bool a)),some (.c (.bool b))=>z.map fun z=>(a == b)&&z
 | .s,some (.c (.string a)),some (.c (.string b))=>z.map fun z=>decide (a=b)&&z
 | _,_,_=>none
def eqL:List (Nat × EqK)→List V→List V→Option Bool
 | [],_,_=>some true
 | (o,k)::r,xs,ys=>eqK k xs[o]? ys[o]? (eqL r xs ys)
def ahp(P:Program)(op:BinOp)(t:TypeId)(x y:V):Option V :=
 match op,x,y with
 | .eql,x,.c (.pointer none)=>if jM P t=true then (xy x).map fun b => .c (.bool b) else none
 | .neq,x,.c (.pointer none)=>if jM P t=true then (xy x).map fun b => .c (.bool (!b)) else none
 | .eql,.ref b o,.ref b' o'=>if jM P t=true∧b=b'∧o=o' then some (.c (.bool true)) else none
 | .neq,.ref b o,.ref b' o'=>if jM P t=true∧b=b'∧o=o' then some (.c (.bool false)) else none
 | .eql,.agg xs,.agg ys=>(qo P t).bind fun pl=>(eqL pl xs ys).map fun b => .c (.bool b)
 | .neq,.agg xs,.agg ys=>(qo P t).bind fun pl=>(eqL pl xs ys).map fun b => .c (.bool (!b))
 | _,_,_=>none
def eu(P:Program)(op:BinOp)(t:TypeId)(x y:V):Option V :=
 match op,x,y with
 | .shl,.c (.int k a),.c (.int _ b)=>if b<0 then none else some (.c (.int k (k.wrap (a*2^min b.toNat k.bits))))
 | .shr,.c (.int k a),.c (.int _ b)=>if b<0 then none else some (.c (.int k (a.fdiv (2^min b.toNat k.bits))))
 | op,.c (.int k a),.c (.int k' b)=>if k=k' then (ug op k a b).map .c else none
 | op,.c (.string a),.c (.string b)=>(acV op a b).map .c
 | .eql,.c (.bool a),.c (.bool b)=>if nI P t then some (.c (.bool (a == b))) else none
 | .neq,.c (.bool a),.c (.bool b)=>if nI P t then some (.c (.bool (!(a == b)))) else none
 | .eql,x,.c (.slice none 0 0)=>if (elemT P t).isSome then (BG x).map fun b => .c (.bool b) else none
 | .neq,x,.c (.slice none 0 0)=>if (elemT P t).isSome then (BG x).map fun b => .c (.bool (!b)) else none
 | op,x,y=>ahp P op t x y
theorem Jd(a b:ByteArray):(a.toList == b.toList)=decide (a=b):=by
 rw[Bool.eq_iff_iff]
 simp only[ByteArray.toList_eq,beq_iff_eq,decide_eq_true_eq]
 constructor
 ·intro h
  have:=Array.ext' h
  cases a;cases b;simp_all
 ·intro h;rw[h]
section
variable {P:Program} {L:Lay} {w:World}
theorem Aw{x:V}{u:Value}{b:Bool}(h:BG x=some b)(r:Rep L w x u):∃a n c,u = .slice a n c∧a.isNone=b:=by
 unfold BG at h
 split at h
 ·simp only[Rep] at r;subst r;simp at h;exact⟨_,_,_,rfl,by simp [←h]⟩
 ·rename_i t k y ys
  obtain⟨a,cap,cells,rfl,h2,h3⟩:=r
  simp at h
  refine⟨_,_,_,rfl, ?_⟩
  cases t with
  | fz =>
   obtain⟨_,h3⟩:=h3
   simp at h3
   obtain⟨g,o,rfl,_⟩:=h3
   simp [←h]
  | nn=>simp [SlMem] at h3
  | own id e =>
   rcases h3 with ⟨h3,_⟩|⟨g,arr,_,rfl,_⟩
   ·simp at h3
   ·simp [←h]
 ·obtain⟨a,cap,cells,rfl,h2,h3⟩:=r
  simp at h
  refine⟨_,_,_,rfl, ?_⟩
  obtain⟨_,h3⟩:=h3
  cases a with
  | none=>cases h3
  | some _=>simp [←h]
 ·cases h
theorem WQ{op:BinOp}{k:IntKind}{a b:Int}{r:Value}(h:ug op k a b=some r)(t:TypeId):(binOp op t (.int k a) (.int k b)).run P w = .ok r w:=by
 cases op<;>simp only[ug,Option.some.injEq,reduceCtorEq,Option.ite_none_left_eq_some] at h
 case quo=>obtain⟨h0,h⟩:=h;subst h;simp [binOp,Op.intDiv,h0]
 case rem=>obtain⟨h0,h⟩:=h;subst h;simp [binOp,Op.intDiv,h0]
 all_goals
  subst h
  simp [binOp,Op.intArith,Op.intCmp,intBits_and,intBits_or,intBits_xor,intBits_andNot]
theorem WR{op:BinOp}{a b:ByteArray}{r:Value}(h:acV op a b=some r)(t:TypeId):(binOp op t (.string a) (.string b)).run P w = .ok r w:=by
 cases op<;>simp only[acV,Option.some.injEq,reduceCtorEq,Option.ite_none_right_eq_some] at h
 case add =>
  obtain⟨h0,h⟩:=h
  subst h
  have:¬((a.size+b.size:Nat):Int) > IntKind.i64.max:=by rw[IntKind.max_i64];omega
  simp only[binOp,Op.stringOp]
  rw[if_neg this];rfl
 all_goals
  subst h
  simp [binOp,Op.stringOp,Jd]
theorem gp(op:BinOp)(t:TypeId)(x y:Operand)(u v:Value)(h1:u ≠ .nilIface)(h2:∀a,u ≠ .agg a):(eqGuard op t x y u v).run P w = .ok () w:=by
 cases u<;>first|exact absurd rfl h1|exact absurd rfl (h2 _)|(cases op<;>rfl)
theorem Cf(d:Nat){t e:TypeId}(hu:P.underlying t=some (.slice e))(a:Option Addr)(n c:Nat):(Op.equalIn (d+1) t (.slice a n c) (.slice none 0 0)).run P w = .ok a.isNone w:=by
 cases a<;>simp [Op.equalIn,run_underlying hu]
theorem xA{t e:TypeId}(hu:P.underlying t=some (.slice e))(a:Option Addr)(n c:Nat):(Op.equal t (.slice a n c) (.slice none 0 0)).run P w = .ok a.isNone w:=Cf 9999 hu a n c
theorem vJ{t:TypeId}(h:jM P t=true):∃e j,P.underlying t=some (.pointer e)∧P.info? e=some j∧P.pointee t=e:=by
 unfold jM at h
 split at h
 ·rename_i e hu
  obtain⟨j,hj⟩:=Option.isSome_iff_exists.1 h
  exact⟨e,j,hu,hj,by simp [Program.pointee,hu]⟩
 ·cases h
theorem xB{x:V}{u:Value}{b:Bool}(h:xy x=some b)(r:Rep L w x u):∃p,u = .pointer p∧p.isNone=b:=by
 unfold xy at h
 split at h
 ·simp only[Rep] at r;subst r;exact⟨_,rfl,by simpa using h⟩
 ·obtain⟨g,_,rfl⟩:=r;exact⟨_,rfl,by simpa using h⟩
 ·obtain⟨g,o,cells,rfl,_⟩:=r;exact⟨_,rfl,by simpa using h⟩
 ·cases h
theorem Ci{t:TypeId}{pl:List (Nat × EqK)}(h:qo P t=some pl):P.stoodInHeld t=false∧P.eqGuardType P.depth t=false∧P.underlying t=some (.struct (P.fieldsOf t))∧(P.fieldsOf t).toList.mapM (QA P)=some pl:=by
 unfold qo at h
 split at h
 ·cases h
 ·rename_i h0
  simp only[not_or,Bool.not_eq_true] at h0
  split at h
  ·rename_i fs hu
   have:P.fieldsOf t=fs:=by simp [Program.fieldsOf,hu]
   rw[this]
   exact⟨h0.1,h0.2,hu,h⟩
  ·cases h
theorem acW(d:Nat){uxs uys:Array Value}{xs ys:List V}(rx:Reps L w xs uxs.toList)(ry:Reps L w ys uys.toList):∀(fs:List Field) (pl:List (Nat × EqK)) (b:Bool),fs.mapM (QA P)=some pl→eqL pl xs ys=some b →
  (Op.eqFields (d+1) uxs uys fs).run P w = .ok b w:=by
 intro fs
 induction fs with
 | nil =>
  intro pl b h1 h2
  simp only[List.mapM_nil,pure,Option.some.injEq] at h1
  subst h1
  simp only[eqL,Option.some.injEq] at h2
  subst h2
  rfl
 | cons f fs ih =>
  intro pl b h1 h2
  rw[List.mapM_cons] at h1
  simp only[bind,Option.bind_eq_some_iff,pure,Option.some.injEq] at h1
  obtain⟨⟨o,k⟩,h1,pl',h3,rfl⟩:=h1
  rw[eqL] at h2
  unfold QA at h1
  split at h1
  ·cases h1
  ·rename_i hn
   have step:∀(u v:Value) (r z:Bool),uxs[f.offset]?=some u→uys[f.offset]?=some v→mV P f.type=some false→(Op.equalIn (d+1) f.type u v).run P w = .ok r w→eqL pl' xs ys=some z→(Op.eqFields (d+1) uxs uys (f::fs)).run P w = .ok (r&&z) w:=by
    intro u v r z hu hv ha hr hz
    have p1:(part f.type uxs f.offset).run P w = .ok u w:=by simp [part,pq ha,hu]
    have p2:(part f.type uys f.offset).run P w = .ok v w:=by simp [part,pq ha,hv]
    have:=ih pl' z h3 hz
    simp only[Op.eqFields,hn,ne_eq,not_false_eq_true,if_true,Sem.run_bind,p1,p2,hr,Result.andThen_ok]
    cases r
    ·rfl
    ·simpa using this
   unfold eqK at h2
   split at h2
   ·rename_i k1 a k2 b' hx hy
    simp only[Option.ite_none_right_eq_some,Option.map_eq_some_iff] at h2
    obtain⟨rfl,z,hz,rfl⟩:=h2
    split at h1
    ·rename_i q hq
     simp only[Option.some.injEq,Prod.mk.injEq] at h1
     obtain⟨rfl,_⟩:=h1
     obtain⟨u,hu,hru⟩:=rx.get hx
     obtain⟨v,hv,hrv⟩:=ry.get hy
     simp only[Rep] at hru hrv
     subst hru;subst hrv
     exact step _ _ _ z (by simpa using hu) (by simpa using hv) (by simp [mV,hq]) (run_equalIn_int w d f.type k1 q a b' hq) hz
    all_goals simp at h1
   ·rename_i a b' hx hy
    simp only[Option.map_eq_some_iff] at h2
    obtain⟨z,hz,rfl⟩:=h2
    split at h1
    ·simp at h1
    ·rename_i hq
     simp only[Option.some.injEq,Prod.mk.injEq] at h1
     obtain⟨rfl,_⟩:=h1
     obtain⟨u,hu,hru⟩:=rx.get hx
     obtain⟨v,hv,hrv⟩:=ry.get hy
     simp only[Rep] at hru hrv
     subst hru;subst hrv
     exact step _ _ _ z (by simpa using hu) (by simpa using hv) (by simp [mV,hq]) (run_equalIn_bool w d f.type a b' hq) hz
    all_goals simp at h1
   ·rename_i a b' hx hy
    simp only[Option.map_eq_some_iff] at h2
    obtain⟨z,hz,rfl⟩:=h2
    split at h1
    ·simp at h1
    ·simp at h1
    ·rename_i hq
     simp only[Option.some.injEq,Prod.mk.injEq] at h1
     obtain⟨rfl,_⟩:=h1
     obtain⟨u,hu,hru⟩:=rx.get hx
     obtain⟨v,hv,hrv⟩:=ry.get hy
     simp only[Rep] at hru hrv
     subst hru;subst hrv
     refine step _ _ _ z (by simpa using hu) (by simpa using hv) (by simp [mV,hq]) ?_ hz
     rw[←Jd]
     exact run_equalIn_string w d f.type a b' hq
    all_goals simp at h1
   ·cases h2
theorem Fj{t:TypeId}{pl:List (Nat × EqK)}{xs ys:List V}{b:Bool}{uxs uys:Array Value}(h1:qo P t=some pl)(h2:eqL pl xs ys=some b)(rx:Reps L w xs uxs.toList)(ry:Reps L w ys uys.toList) :
  (Op.equal t (.agg uxs) (.agg uys)).run P w = .ok b w:=by
 obtain⟨g1,g2,g3,g4⟩:=Ci h1
 show (Op.equalIn (9999+1) t (.agg uxs) (.agg uys)).run P w=_
 rw[run_equalIn_struct w 9999 t uxs uys g3 g1]
 exact acW 9998 rx ry _ _ _ g4 h2
theorem Az{op:BinOp}{t:TypeId}(h:P.eqGuardType P.depth t=false)(x y:Operand)(u v:Array Value):(eqGuard op t x y (.agg u) (.agg v)).run P w = .ok () w:=by
 cases op<;>simp [eqGuard,h]
theorem WS{op:BinOp}{t:TypeId}{x y r:V}{ux uy:Value}(h:ahp P op t x y=some r)(rx:Rep L w x ux)(ry:Rep L w y uy)(ox oy:Operand) :
  ∃u,(do eqGuard op t ox oy ux uy;binOp op t ux uy:Sem Value).run P w = .ok u w∧Rep L w r u:=by
 unfold ahp at h
 split at h
 ·simp only[Rep] at ry;subst ry
  simp only[Option.ite_none_right_eq_some,Option.map_eq_some_iff] at h
  obtain⟨h0,b,h1,rfl⟩:=h
  obtain⟨p,rfl,hp⟩:=xB h1 rx
  obtain⟨e,j,hu,hj,he⟩:=vJ h0
  refine⟨.bool p.isNone, ?_,by rw[hp];rfl⟩
  rw[Sem.run_bind,gp _ _ _ _ _ _ (by simp) (by simp)]
  exact run_eql_pointer_nil w t p (by rw[he];exact hu)
 ·simp only[Rep] at ry;subst ry
  simp only[Option.ite_none_right_eq_some,Option.map_eq_some_iff] at h
  obtain⟨h0,b,h1,rfl⟩:=h
  obtain⟨p,rfl,hp⟩:=xB h1 rx
  obtain⟨e,j,hu,hj,he⟩:=vJ h0
  refine⟨.bool (!p.isNone), ?_,by rw[hp];rfl⟩
  rw[Sem.run_bind,gp _ _ _ _ _ _ (by simp) (by simp)]
  exact run_neq_pointer_nil w t p (by rw[he];exact hu)
 ·simp only[Option.ite_none_right_eq_some,Option.some.injEq] at h
  obtain⟨⟨h0,rfl,rfl⟩,rfl⟩:=h
  obtain⟨g,hg,rfl⟩:=rx
  obtain⟨g',hg',rfl⟩:=ry
  rw[hg] at hg'
  simp only[Option.some.injEq] at hg'
  subst hg'
  obtain⟨e,j,hu,hj,he⟩:=vJ h0
  refine⟨.bool true, ?_,rfl⟩
  rw[Sem.run_bind,gp _ _ _ _ _ _ (by simp) (by simp)]
  exact run_eql_ptr_same w _ hu hj
 ·simp only[Option.ite_none_right_eq_some,Option.some.injEq] at h
  obtain⟨⟨h0,rfl,rfl⟩,rfl⟩:=h
  obtain⟨g,hg,rfl⟩:=rx
  obtain⟨g',hg',rfl⟩:=ry
  rw[hg] at hg'
  simp only[Option.some.injEq] at hg'
  subst hg'
  obtain⟨e,j,hu,hj,he⟩:=vJ h0
  refine⟨.bool false, ?_,rfl⟩
  rw[Sem.run_bind,gp _ _ _ _ _ _ (by simp) (by simp)]
  exact Lib.run_neq_ptr_same w _ hu hj
 ·simp only[Option.bind_eq_some_iff,Option.map_eq_some_iff] at h
  obtain⟨pl,h1,b,h2,rfl⟩:=h
  obtain⟨u,rfl,ru⟩:=rx
  obtain⟨v,rfl,rv⟩:=ry
  refine⟨.bool b, ?_,rfl⟩
  rw[Sem.run_bind,Az (Ci h1).2.1]
  have:=Fj h1 h2 ru rv
  simp only[binOp,Result.andThen_ok,Sem.run_bind,this,Sem.run_pure]
 ·simp only[Option.bind_eq_some_iff,Option.map_eq_some_iff] at h
  obtain⟨pl,h1,b,h2,rfl⟩:=h
  obtain⟨u,rfl,ru⟩:=rx
  obtain⟨v,rfl,rv⟩:=ry
  refine⟨.bool (!b), ?_,rfl⟩
  rw[Sem.run_bind,Az (Ci h1).2.1]
  have:=Fj h1 h2 ru rv
  simp only[binOp,Result.andThen_ok,Sem.run_bind,this,Sem.run_pure]
 ·cases h
theorem WT{op:BinOp}{t:TypeId}{x y r:V}{ux uy:Value}(h:eu P op t x y=some r)(rx:Rep L w x ux)(ry:Rep L w y uy)(ox oy:Operand) :
  ∃u,(do eqGuard op t ox oy ux uy;binOp op t ux uy:Sem Value).run P w = .ok u w∧Rep L w r u:=by
 unfold eu at h
 split at h
 ·simp only[Rep] at rx ry;subst rx;subst ry
  simp only[Option.ite_none_left_eq_some,Option.some.injEq] at h
  obtain⟨h0,rfl⟩:=h
  refine⟨_, ?_,rfl⟩
  rw[Sem.run_bind,gp _ _ _ _ _ _ (by simp) (by simp)]
  simp [binOp,Op.shift,h0]
 ·simp only[Rep] at rx ry;subst rx;subst ry
  simp only[Option.ite_none_left_eq_some,Option.some.injEq] at h
  obtain⟨h0,rfl⟩:=h
  refine⟨_, ?_,rfl⟩
  rw[Sem.run_bind,gp _ _ _ _ _ _ (by simp) (by simp)]
  simp [binOp,Op.shift,h0]
 ·simp only[Rep] at rx ry;subst rx;subst ry
  simp only[Option.ite_none_right_eq_some,Option.map_eq_some_iff] at h
  obtain⟨rfl,v,h1,rfl⟩:=h
  exact⟨v,by rw[Sem.run_bind,gp _ _ _ _ _ _ (by simp) (by simp)];exact WQ h1 t,rfl⟩
 ·simp only[Rep] at rx ry;subst rx;subst ry
  simp only[Option.map_eq_some_iff] at h
  obtain⟨v,h1,rfl⟩:=h
  exact⟨v,by rw[Sem.run_bind,gp _ _ _ _ _ _ (by simp) (by simp)];exact WR h1 t,rfl⟩
 ·simp only[Rep] at rx ry;subst rx;subst ry
  simp only[Option.ite_none_right_eq_some,Option.some.injEq] at h
  obtain⟨h0,rfl⟩:=h
  exact⟨_,by rw[Sem.run_bind,gp _ _ _ _ _ _ (by simp) (by simp)];exact run_eql_bool w t _ _ (Au h0),rfl⟩
 ·simp only[Rep] at rx ry;subst rx;subst ry
  simp only[Option.ite_none_right_eq_some,Option.some.injEq] at h
  obtain⟨h0,rfl⟩:=h
  exact⟨_,by rw[Sem.run_bind,gp _ _ _ _ _ _ (by simp) (by simp)];exact run_neq_bool w t _ _ (Au h0),rfl⟩
 ·simp only[Rep] at ry;subst ry
  simp only[Option.ite_none_right_eq_some,Option.map_eq_some_iff] at h
  obtain⟨h0,b,h1,rfl⟩:=h
  obtain⟨a,n,c,rfl,h2⟩:=Aw h1 rx
  obtain⟨e,he⟩:=Option.isSome_iff_exists.1 h0
  have hu:=dY he
  refine⟨.bool a.isNone, ?_,by rw[h2];rfl⟩
  rw[Sem.run_bind,gp _ _ _ _ _ _ (by simp) (by simp)]
  simp only[binOp]
  simp [xA hu]
 ·simp only[Rep] at ry;subst ry
  simp only[Option.ite_none_right_eq_some,Option.map_eq_some_iff] at h
  obtain⟨h0,b,h1,rfl⟩:=h
  obtain⟨a,n,c,rfl,h2⟩:=Aw h1 rx
  obtain⟨e,he⟩:=Option.isSome_iff_exists.1 h0
  have hu:=dY he
  refine⟨.bool (!a.isNone), ?_,by rw[h2];rfl⟩
  rw[Sem.run_bind,gp _ _ _ _ _ _ (by simp) (by simp)]
  simp only[binOp]
  simp [xA hu]
 ·exact WS h rx ry ox oy
end
end Go.Pg
end
