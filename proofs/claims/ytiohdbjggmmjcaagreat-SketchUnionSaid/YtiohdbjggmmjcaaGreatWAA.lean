/-
  Merged texts.
-/
import Derived.WalkKit
set_option linter.unusedVariables false
set_option linter.unusedSimpArgs false
set_option linter.unusedSectionVars false
set_option linter.defProp false
set_option maxRecDepth 100000
set_option maxHeartbeats 8000000
section
namespace Go.Pg
open Go
theorem aI{a b:Prop}(h:a)(k:b):a∧b:=⟨h,k⟩
inductive Tag where
 | fz
 | nn
 | own (id:Nat) (e:TypeId)
def Tag.is(id:Nat):Tag→Bool
 | .fz=>false
 | .nn=>false
 | .own i _=>i == id
def Tag.isOwn:Tag→Bool
 | .fz=>false
 | .nn=>true
 | .own _ _=>true
def Tag.nnOk:Tag→Bool
 | .fz=>true
 | .nn=>true
 | .own _ _=>false
def Tag.notNN:Tag→Bool
 | .fz=>true
 | .nn=>false
 | .own _ _=>true
inductive V where
 | c (v:Value)
 | sl (t:Tag) (k:Nat) (xs:List V)
 | agg (cs:List V)
 | tup (vs:List V)
 | ref (b off:Nat)
 | el (t:Tag) (k:Nat) (xs:List V) (i off:Nat)
 | fn (f:FuncId) (first captured:List V)
 | top
 | nif
 | mp (t:Tag) (es:List (ByteArray × Value))
 | bs (b:Nat) (e:TypeId) (o k n:Nat)
structure Lay where
 A:Nat→Prop
 own:Nat→Option Nat
 box:Nat→Option Nat
mutual
def V.any(p:Tag→Bool)(q:Nat→Bool)(tp:Bool):V→Bool
 | .c _=>false
 | .sl t _ _=>p t
 | .agg cs=>V.anyL p q tp cs
 | .tup cs=>V.anyL p q tp cs
 | .ref b _=>q b
 | .el t _ _ _ _=>p t
 | .fn _ fs cs=>V.anyL p q tp fs||V.anyL p q tp cs
 | .top=>tp
 | .nif=>false
 | .mp t _=>p t
 | .bs b _ _ _ _=>q b
def V.anyL(p:Tag→Bool)(q:Nat→Bool)(tp:Bool):List V→Bool
 | []=>false
 | x::xs=>V.any p q tp x||V.anyL p q tp xs
end
def V.free(v:V):Bool := !(v.any Tag.isOwn (fun _=>true) true)
def V.has(id:Nat)(v:V):Bool:=v.any (Tag.is id) (fun _=>false) false
def Row(w:World)(g o:Nat)(cells:List Value):Prop :=
 ∃arr e fr,w.heap[g]?=some (.cells arr e fr)∧(arr.toList.drop o).take cells.length=cells
def SlMem(L:Lay)(w:World)(t:Tag)(k:Nat)(a:Option Addr)(len cap:Nat)(cells:List Value):Prop :=
 match t with
 | .fz=>len≤cap∧(len=0∨∃g o,a=some ⟨g,o,none⟩∧L.A g∧Row w g o cells)
 | .nn=>len=0∧a.isSome=true∧cap=0
 | .own id e=>(len=0∧a=none∧cap=0) ∨
   ∃g arr,L.own id=some g∧a=some ⟨g,0,none⟩∧w.heap[g]?=some (.cells arr e (0,0))∧len≤cap∧cap≤maxLen∧arr.size=cap*k∧arr.toList.take (len*k)=cells
def ElMem(L:Lay)(w:World)(t:Tag)(g o:Nat)(cells:List Value):Prop :=
 match t with
 | .fz=>L.A g∧Row w g o cells
 | .nn=>False
 | .own id e=>L.own id=some g∧o=0∧∃arr,w.heap[g]?=some (.cells arr e (0,0))∧arr.toList.take cells.length=cells
mutual
def V.map(τ:Tag→Tag)(ρ:Nat→Nat):V→V
 | .c v => .c v
 | .sl t k xs => .sl (τ t) k xs
 | .agg cs => .agg (V.mapL τ ρ cs)
 | .tup cs => .tup (V.mapL τ ρ cs)
 | .ref b off => .ref (ρ b) off
 | .el t k xs i off => .el (τ t) k xs i off
 | .fn f fs cs => .fn f (V.mapL τ ρ fs) (V.mapL τ ρ cs)
 | .top => .top
 | .nif => .nif
 | .mp t es => .mp (τ t) es
 | .bs b e o k n => .bs (ρ b) e o k n
def V.mapL(τ:Tag→Tag)(ρ:Nat→Nat):List V→List V
 | []=>[]
 | x::xs=>V.map τ ρ x::V.mapL τ ρ xs
end
def MpMem(L:Lay)(w:World)(t:Tag)(r:Option Nat)(es:List (ByteArray × Value)):Prop :=
 match t with
 | .own id _=>∃g arr clk,r=some g∧L.own id=some g∧w.heap[g]?=some (.map arr clk)∧arr.toList.map (fun x=>(x.key,x.val))=es.map fun x=>(Value.string x.1,x.2)
 | _=>True
mutual
def Rep(L:Lay)(w:World):V→Value→Prop
 | .c v,u=>u=v
 | .sl t k xs,u=>∃a cap cells,u = .slice a xs.length cap∧RepE L w k xs cells∧SlMem L w t k a xs.length cap cells
 | .agg cs,u=>∃a,u = .agg a∧Reps L w cs a.toList
 | .tup cs,u=>∃a,u = .tuple a∧Reps L w cs a.toList
 | .ref b off,u=>∃g,L.box b=some g∧u = .pointer (some ⟨g,off,none⟩)
 | .el t k xs i off,u=>∃g o cells,u = .pointer (some ⟨g,o+i*k+off,none⟩)∧RepE L w k xs cells∧ElMem L w t g o cells
 | .fn f fs cs,u=>∃a b,u = .func (.func f) a b∧Reps L w fs a.toList∧Reps L w cs b.toList
 | .top,_=>True
 | .nif,u=>∃t v,u = .iface t v
 | .mp t es,u=>∃r,u = .map r∧MpMem L w t r es
 | .bs b e o k n,u=>n=0∧u = .slice none 0 0∨∃g cap arr,L.box b=some g∧u = .slice (some ⟨g,o,none⟩) n cap∧w.heap[g]?=some (.cells arr e (0,0))∧n≤cap∧cap≤maxLen∧o+cap*k≤arr.size
def Reps(L:Lay)(w:World):List V→List Value→Prop
 | [],us=>us=[]
 | x::xs,us=>∃u r,us=u::r∧Rep L w x u∧Reps L w xs r
def RepE(L:Lay)(w:World)(k:Nat):List V→List Value→Prop
 | [],us=>us=[]
 | x::xs,us=>∃u r,us=u.cells.toList++r∧u.cells.size=k∧(x.free=true∧u.cells.toList.all Value.oneCell'=true)∧Rep L w x u∧RepE L w k xs r
end
structure Kp (Wr:Nat→Prop) (B:Nat) (w w':World):Prop where
 os:w'.os=w.os
 tape:w'.tape=w.tape
 output:w'.output=w.output
 size:w.heap.size≤w'.heap.size
 block:∀k,k<B→¬Wr k→w'.heap[k]?=w.heap[k]?
 drawn:w.drawn≤w'.drawn
theorem Kp.refl(Wr:Nat→Prop)(B:Nat)(w:World):Kp Wr B w w:=⟨rfl,rfl,rfl,Nat.le_refl _,fun _ _ _=>rfl,Nat.le_refl _⟩
theorem Kp.trans{Wr:Nat→Prop}{B:Nat}{a b c:World}(h:Kp Wr B a b)(k:Kp Wr B b c):Kp Wr B a c :=
 ⟨k.os.trans h.os,k.tape.trans h.tape,k.output.trans h.output,Nat.le_trans h.size k.size,fun i hi hw=>(k.block i hi hw).trans (h.block i hi hw),Nat.le_trans h.drawn k.drawn⟩
theorem Kp.mono{Wr Wr':Nat→Prop}{B B':Nat}{a b:World}(h:Kp Wr B a b)(hB:B'≤B)(hW:∀g,g<B'→Wr g→Wr' g):Kp Wr' B' a b :=
 ⟨h.os,h.tape,h.output,h.size,fun i hi hw=>h.block i (Nat.lt_of_lt_of_le hi hB) fun x=>hw (hW i hi x),h.drawn⟩
theorem Kp.alloc{Wr:Nat→Prop}{B:Nat}{a w:World}(h:Kp Wr B a w)(hB:B≤w.heap.size)(o:Obj):Kp Wr B a (w.alloc o) :=
 h.trans ⟨rfl,rfl,rfl,by simp,fun k hk _=>RowKit.Below.heap_alloc _ _ _ (by omega),Nat.le_refl _⟩
class Tb (P:Program) where
 T:World→Prop
 keep:∀w w',T w→Kp (fun _=>False) w.heap.size w w'→T w'
 nest:TypeId→Bool:=fun _=>false
theorem Kp.drew{Wr:Nat→Prop}{B:Nat}{a w:World}(h:Kp Wr B a w):Kp Wr B a w.drew:=⟨h.os,h.tape,h.output,h.size,h.block,Nat.le_trans h.drawn (Nat.le_succ _)⟩
theorem V.ind{p:V→Prop}{q:List V→Prop}(hc:∀v,p (.c v))(hnif:p .nif)(hsl:∀t k xs,q xs→p (.sl t k xs))(hmp:∀t es,p (.mp t es))(hagg:∀cs,q cs→p (.agg cs))(htup:∀cs,q cs→p (.tup cs))
  (href:∀b o,p (.ref b o)) (hbs:∀b e o k n,p (.bs b e o k n)) (hel:∀t k xs i o,q xs→p (.el t k xs i o)) (hfn:∀f fs cs,q fs→q cs→p (.fn f fs cs)) (htop:p .top) (hnil:q []) (hcons:∀x xs,p x→q xs→q (x::xs)) :
  (∀v,p v)∧(∀l,q l):=by
 have h1:∀v,p v:=fun v=>V.rec (motive_1:=p) (motive_2:=q) hc (fun t k xs h=>hsl t k xs h) (fun cs h=>hagg cs h) (fun cs h=>htup cs h) href (fun t k xs i o h=>hel t k xs i o h) (fun f fs cs h h'=>hfn f fs cs h h') htop hnif hmp hbs hnil (fun x xs h h'=>hcons x xs h h') v
 exact⟨h1,fun l=>by induction l with|nil=>exact hnil|cons x xs ih=>exact hcons x xs (h1 x) ih⟩
theorem vw(τ:Tag→Tag)(ρ:Nat→Nat)(l:List V):V.mapL τ ρ l=l.map (V.map τ ρ):=by
 induction l with
 | nil=>rfl
 | cons x xs ih=>simp [V.mapL,ih]
theorem map_id:(∀v:V,v.map id id=v)∧(∀l,V.mapL id id l=l):=by
 refine V.ind ?_ ?_ ?_ ?_ ?_ ?_ ?_ ?_ ?_ ?_ ?_ ?_ ?_<;>intros<;>simp_all [V.map,V.mapL]
theorem TV(p:Tag→Bool)(q:Nat→Bool)(hp:p .fz=false)(tp:Bool) :
  (∀v:V,v.any Tag.isOwn (fun _=>true) true=false→v.any p q tp=false)∧(∀l,V.anyL Tag.isOwn (fun _=>true) true l=false→V.anyL p q tp l=false):=by
 refine V.ind ?_ ?_ ?_ ?_ ?_ ?_ ?_ ?_ ?_ ?_ ?_ ?_ ?_
 ·intro v _;rfl
 ·intro _;rfl
 ·intro t k xs _ h;cases t with
  | fz=>simpa [V.any] using hp
  | nn=>simp [V.any,Tag.isOwn] at h
  | own id e=>simp [V.any,Tag.isOwn] at h
 ·intro t es h;cases t with
  | fz=>simpa [V.any] using hp
  | nn=>simp [V.any,Tag.isOwn] at h
  | own id e=>simp [V.any,Tag.isOwn] at h
 ·intro cs ih h;exact ih h
 ·intro cs ih h;exact ih h
 ·intro b off h;simp [V.any] at h
 ·intro b be bo bk bn h;simp [V.any] at h
 ·intro t k xs i off _ h;cases t with
  | fz=>simpa [V.any] using hp
  | nn=>simp [V.any,Tag.isOwn] at h
  | own id e=>simp [V.any,Tag.isOwn] at h
 ·intro f fs cs ih1 ih2 h
  simp only[V.any,Bool.or_eq_false_iff] at h ⊢
  exact⟨ih1 h.1,ih2 h.2⟩
 ·intro h;simp [V.any] at h
 ·intro _;rfl
 ·intro x xs ih1 ih2 h
  simp only[V.anyL,Bool.or_eq_false_iff] at h ⊢
  exact⟨ih1 h.1,ih2 h.2⟩
theorem V.free.any{v:V}(h:v.free=true)(p:Tag→Bool)(q:Nat→Bool)(hp:p .fz=false)(tp:Bool):v.any p q tp=false :=
 (TV p q hp tp).1 v (by simpa [V.free] using h)
theorem TW(τ:Tag→Tag)(ρ:Nat→Nat)(hτ:τ .fz = .fz) :
  (∀v:V,v.any Tag.isOwn (fun _=>true) true=false→v.map τ ρ=v)∧(∀l,V.anyL Tag.isOwn (fun _=>true) true l=false→V.mapL τ ρ l=l):=by
 refine V.ind ?_ ?_ ?_ ?_ ?_ ?_ ?_ ?_ ?_ ?_ ?_ ?_ ?_
 ·intro v _;rfl
 ·intro _;rfl
 ·intro t k xs _ h;cases t with
  | fz=>simp [V.map,hτ]
  | nn=>simp [V.any,Tag.isOwn] at h
  | own id e=>simp [V.any,Tag.isOwn] at h
 ·intro t es h;cases t with
  | fz=>simp [V.map,hτ]
  | nn=>simp [V.any,Tag.isOwn] at h
  | own id e=>simp [V.any,Tag.isOwn] at h
 ·intro cs ih h;simp [V.map,ih h]
 ·intro cs ih h;simp [V.map,ih h]
 ·intro b off h;simp [V.any] at h
 ·intro b be bo bk bn h;simp [V.any] at h
 ·intro t k xs i off _ h;cases t with
  | fz=>simp [V.map,hτ]
  | nn=>simp [V.any,Tag.isOwn] at h
  | own id e=>simp [V.any,Tag.isOwn] at h
 ·intro f fs cs ih1 ih2 h
  simp only[V.any,Bool.or_eq_false_iff] at h
  simp [V.map,ih1 h.1,ih2 h.2]
 ·intro _;rfl
 ·intro _;rfl
 ·intro x xs ih1 ih2 h
  simp only[V.anyL,Bool.or_eq_false_iff] at h
  simp [V.mapL,ih1 h.1,ih2 h.2]
theorem V.free.map{v:V}(h:v.free=true)(τ:Tag→Tag)(ρ:Nat→Nat)(hτ:τ .fz = .fz):v.map τ ρ=v :=
 (TW τ ρ hτ).1 v (by simpa [V.free] using h)
def RowKept(w w':World)(g:Nat):Prop:=∀arr e fr,w.heap[g]?=some (.cells arr e fr)→∃fr',w'.heap[g]?=some (.cells arr e fr')
theorem RowKept.of{w w':World}{g:Nat}(h:w'.heap[g]?=w.heap[g]?):RowKept w w' g:=fun _ _ fr hg=>⟨fr,h.trans hg⟩
theorem Row.keep{w w':World}{g o:Nat}{cells:List Value}(h:Row w g o cells)(hg:RowKept w w' g):Row w' g o cells:=by
 obtain⟨arr,e,fr,h1,h2⟩:=h
 obtain⟨fr',h3⟩:=hg arr e fr h1
 exact⟨arr,e,fr',h3,h2⟩
def SizeKept(w w':World)(g:Nat):Prop:=∀arr e,w.heap[g]?=some (.cells arr e (0,0))→∃arr',w'.heap[g]?=some (.cells arr' e (0,0))∧arr'.size=arr.size
theorem SizeKept.of{w w':World}{g:Nat}(h:w'.heap[g]?=w.heap[g]?):SizeKept w w' g:=fun arr _ hg=>⟨arr,h.trans hg,rfl⟩
theorem SizeKept.trans{a b c:World}{g:Nat}(h:SizeKept a b g)(k:SizeKept b c g):SizeKept a c g:=fun arr e hg=>by
 obtain⟨arr1,h1,h2⟩:=h arr e hg
 obtain⟨arr2,h3,h4⟩:=k arr1 e h1
 exact⟨arr2,h3,h4.trans h2⟩
structure Trans (p:Tag→Bool) (q:Nat→Bool) (τ:Tag→Tag) (ρ:Nat→Nat) (L L':Lay) (w w':World):Prop where
 fz':(τ .fz,(τ .nn).nnOk,fun id e=>(τ (.own id e)).notNN)=(Tag.fz,true,fun _ _=>true)
 A:∀g,L.A g→L'.A g∧RowKept w w' g
 own:∀id e,p (.own id e)=false→∀g,L.own id=some g→(match τ (.own id e) with | .fz=>L'.A g | .nn=>False | .own id' e'=>e'=e∧L'.own id'=some g)∧w'.heap[g]?=w.heap[g]?
 box:∀b,q b=false→∀g,L.box b=some g→L'.box (ρ b)=some g∧SizeKept w w' g
theorem Trans.fz{p:Tag→Bool}{q:Nat→Bool}{τ:Tag→Tag}{ρ:Nat→Nat}{L L':Lay}{w w':World}(K:Trans p q τ ρ L L' w w'):τ .fz = .fz:=(Prod.mk.inj K.fz').1
theorem Trans.nn{p:Tag→Bool}{q:Nat→Bool}{τ:Tag→Tag}{ρ:Nat→Nat}{L L':Lay}{w w':World}(K:Trans p q τ ρ L L' w w'):(τ .nn).nnOk=true:=(Prod.mk.inj (Prod.mk.inj K.fz').2).1
theorem Trans.ownNN{p:Tag→Bool}{q:Nat→Bool}{τ:Tag→Tag}{ρ:Nat→Nat}{L L':Lay}{w w':World}(K:Trans p q τ ρ L L' w w')(id:Nat)(e:TypeId):(τ (.own id e)).notNN=true:=congrFun (congrFun (Prod.mk.inj (Prod.mk.inj K.fz').2).2 id) e
section
variable {L L':Lay} {w w':World}
theorem SlMem.trans{p:Tag→Bool}{q:Nat→Bool}{τ:Tag→Tag}{ρ:Nat→Nat}(K:Trans p q τ ρ L L' w w'){t:Tag}{k:Nat}{a:Option Addr}{len cap:Nat}{cells:List Value}(ht:p t=false)
  (h:SlMem L w t k a len cap cells):SlMem L' w' (τ t) k a len cap cells:=by
 cases t with
 | fz =>
  rw[K.fz]
  obtain⟨h0,h⟩:=h
  refine⟨h0,h.imp id ?_⟩
  rintro⟨g,o,h1,h2,h3⟩
  exact⟨g,o,h1,(K.A g h2).1,h3.keep (K.A g h2).2⟩
 | nn =>
  obtain⟨h0,h1,h2⟩:=h
  have hn:=K.nn
  cases ht':τ .nn with
  | fz=>exact⟨by omega,.inl h0⟩
  | nn=>exact⟨h0,h1,h2⟩
  | own id e=>rw[ht'] at hn;cases hn
 | own id e =>
  rcases h with ⟨h1,h2,h3⟩|⟨g,arr,h1,h2,h3,h4,h5,h6,h7⟩
  ·cases ht':τ (.own id e) with
   | fz=>exact⟨by omega,.inl h1⟩
   | nn=>have:=K.ownNN id e;rw[ht'] at this;cases this
   | own id' e'=>exact .inl ⟨h1,h2,h3⟩
  ·obtain⟨ho,hb⟩:=K.own id e ht g h1
   cases ht':τ (.own id e) with
   | fz =>
    rw[ht'] at ho
    refine⟨h4,.inr ⟨g,0,h2,ho,arr,e,(0,0),hb.trans h3, ?_⟩⟩
    have:cells.length=len*k:=by rw[←h7];have:=Nat.mul_le_mul_right k h4;simp only[List.length_take,Array.length_toList,h6];omega
    simp [this,h7]
   | nn=>rw[ht'] at ho;exact ho.elim
   | own id' e' =>
    rw[ht'] at ho
    obtain⟨rfl,ho⟩:=ho
    exact .inr ⟨g,arr,ho,h2,hb.trans h3,h4,h5,h6,h7⟩
theorem MpMem.trans{p:Tag→Bool}{q:Nat→Bool}{τ:Tag→Tag}{ρ:Nat→Nat}(K:Trans p q τ ρ L L' w w'){t:Tag}{r:Option Nat}{es:List (ByteArray × Value)}(ht:p t=false)
  (h:MpMem L w t r es):MpMem L' w' (τ t) r es:=by
 cases t with
 | fz=>rw[K.fz];trivial
 | nn =>
  have hn:=K.nn
  cases ht':τ .nn with
  | fz=>trivial
  | nn=>trivial
  | own id e=>rw[ht'] at hn;cases hn
 | own id e =>
  obtain⟨g,arr,clk,h1,h2,h3,h4⟩:=h
  obtain⟨ho,hb⟩:=K.own id e ht g h2
  cases ht':τ (.own id e) with
  | fz=>trivial
  | nn=>trivial
  | own id' e' =>
   rw[ht'] at ho
   obtain⟨rfl,ho⟩:=ho
   exact⟨g,arr,clk,h1,ho,hb.trans h3,h4⟩
theorem ElMem.trans{p:Tag→Bool}{q:Nat→Bool}{τ:Tag→Tag}{ρ:Nat→Nat}(K:Trans p q τ ρ L L' w w'){t:Tag}{g o:Nat}{cells:List Value}(ht:p t=false)
  (h:ElMem L w t g o cells):ElMem L' w' (τ t) g o cells:=by
 cases t with
 | fz=>rw[K.fz];exact⟨(K.A g h.1).1,h.2.keep (K.A g h.1).2⟩
 | nn=>exact h.elim
 | own id e =>
  obtain⟨h1,rfl,arr,h3,h4⟩:=h
  obtain⟨ho,hb⟩:=K.own id e ht g h1
  cases ht':τ (.own id e) with
  | fz=>rw[ht'] at ho;exact⟨ho,arr,e,(0,0),hb.trans h3,by simpa using h4⟩
  | nn=>rw[ht'] at ho;exact ho.elim
  | own id' e' =>
   rw[ht'] at ho
   obtain⟨rfl,ho⟩:=ho
   exact⟨ho,rfl,arr,hb.trans h3,h4⟩
theorem oM{p:Tag→Bool}{q:Nat→Bool}{τ:Tag→Tag}{ρ:Nat→Nat}(hp:p .fz=false)(K:Trans p q τ ρ L L' w w') :
  (∀v u,v.any p q false=false→Rep L w v u→Rep L' w' (v.map τ ρ) u) ∧
  (∀l,(∀us,V.anyL p q false l=false→Reps L w l us→Reps L' w' (V.mapL τ ρ l) us)∧∀k us,RepE L w k l us→RepE L' w' k l us):=by
 refine V.ind ?_ ?_ ?_ ?_ ?_ ?_ ?_ ?_ ?_ ?_ ?_ ?_ ?_
 ·intro v u _ h;exact h
 ·intro u _ h;exact h
 ·rintro t k xs ⟨_,ih⟩ u ha ⟨a,cap,cells,h1,h2,h3⟩
  exact⟨a,cap,cells,h1,ih k cells h2,h3.trans K ha⟩
 ·rintro t es u ha ⟨r,h1,h2⟩
  exact⟨r,h1,h2.trans K ha⟩
 ·rintro cs ⟨ih,_⟩ u ha ⟨a,h1,h2⟩
  exact⟨a,h1,ih _ ha h2⟩
 ·rintro cs ⟨ih,_⟩ u ha ⟨a,h1,h2⟩
  exact⟨a,h1,ih _ ha h2⟩
 ·rintro b off u ha ⟨g,h1,h2⟩
  exact⟨g,(K.box b ha g h1).1,h2⟩
 ·rintro b be bo bk bn u ha (h0|⟨g,cap,arr,h1,h2,h3,h4,h5,h6⟩)
  ·exact .inl h0
  obtain⟨k1,k2⟩:=K.box b ha g h1
  obtain⟨arr',k3,k4⟩:=k2 arr be h3
  exact .inr ⟨g,cap,arr',k1,h2,k3,h4,h5,by rw[k4];exact h6⟩
 ·rintro t k xs i off ⟨_,ih⟩ u ha ⟨g,o,cells,h1,h2,h3⟩
  exact⟨g,o,cells,h1,ih k cells h2,h3.trans K ha⟩
 ·rintro f fs cs ⟨ih1,_⟩ ⟨ih2,_⟩ u ha ⟨a,b,h1,h2,h3⟩
  simp only[V.any,Bool.or_eq_false_iff] at ha
  exact⟨a,b,h1,ih1 _ ha.1 h2,ih2 _ ha.2 h3⟩
 ·intro u _ _;trivial
 ·exact⟨fun us _ h=>h,fun k us h=>h⟩
 ·rintro x xs ihx ⟨ih1,ih2⟩
  refine⟨?_, ?_⟩
  ·rintro us ha ⟨u,r,h1,h2,h3⟩
   simp only[V.anyL,Bool.or_eq_false_iff] at ha
   exact⟨u,r,h1,ihx u ha.1 h2,ih1 r ha.2 h3⟩
  ·rintro k us ⟨u,r,h1,h2,h3,h4,h5⟩
   have:=ihx u (V.free.any h3.1 p q hp _) h4
   rw[V.free.map h3.1 τ ρ K.fz] at this
   exact⟨u,r,h1,h2,h3,this,ih2 k r h5⟩
theorem Rep.trans{p:Tag→Bool}{q:Nat→Bool}{τ:Tag→Tag}{ρ:Nat→Nat}(hp:p .fz=false)(K:Trans p q τ ρ L L' w w'){v:V}{u:Value}(ha:v.any p q false=false)(h:Rep L w v u) :
  Rep L' w' (v.map τ ρ) u:=(oM hp K).1 v u ha h
theorem Reps.trans{p:Tag→Bool}{q:Nat→Bool}{τ:Tag→Tag}{ρ:Nat→Nat}(hp:p .fz=false)(K:Trans p q τ ρ L L' w w'){l:List V}{us:List Value}(ha:V.anyL p q false l=false)(h:Reps L w l us) :
  Reps L' w' (V.mapL τ ρ l) us:=((oM hp K).2 l).1 us ha h
theorem RepE.trans{p:Tag→Bool}{q:Nat→Bool}{τ:Tag→Tag}{ρ:Nat→Nat}(hp:p .fz=false)(K:Trans p q τ ρ L L' w w'){k:Nat}{l:List V}{us:List Value}(h:RepE L w k l us) :
  RepE L' w' k l us:=((oM hp K).2 l).2 k us h
theorem J3:(∀v:V,v.any (fun _=>false) (fun _=>false) false=false)∧(∀l,V.anyL (fun _=>false) (fun _=>false) false l=false):=by
 refine V.ind ?_ ?_ ?_ ?_ ?_ ?_ ?_ ?_ ?_ ?_ ?_ ?_ ?_<;>intros<;>simp_all [V.any,V.anyL]
abbrev o7(L L':Lay)(w w':World):Prop:=Trans (fun _=>false) (fun _=>false) id id L L' w w'
theorem Rep.whole(K:o7 L L' w w'){v:V}{u:Value}(h:Rep L w v u):Rep L' w' v u:=by
 have:=h.trans rfl K (J3.1 v);rwa [map_id.1] at this
theorem Reps.whole(K:o7 L L' w w'){l:List V}{us:List Value}(h:Reps L w l us):Reps L' w' l us:=by
 have:=h.trans rfl K (J3.2 l);rwa [map_id.2] at this
theorem Reps.length{l:List V}{us:List Value}(h:Reps L w l us):us.length=l.length:=by
 induction l generalizing us with
 | nil=>simp only[Reps] at h;simp [h]
 | cons x xs ih=>obtain⟨u,r,rfl,_,h3⟩:=h;simp [ih h3]
theorem Reps.get{l:List V}{us:List Value}(h:Reps L w l us){i:Nat}{v:V}(hv:l[i]?=some v):∃u,us[i]?=some u∧Rep L w v u:=by
 induction l generalizing us i with
 | nil=>simp at hv
 | cons x xs ih =>
  obtain⟨u,r,rfl,h2,h3⟩:=h
  cases i with
  | zero=>simp at hv;subst hv;exact⟨u,by simp,h2⟩
  | succ i=>simp at hv;simpa using ih h3 hv
theorem Reps.append{l l':List V}{us us':List Value}(h:Reps L w l us)(h':Reps L w l' us'):Reps L w (l++l') (us++us'):=by
 induction l generalizing us with
 | nil=>simp only[Reps] at h;simpa [h] using h'
 | cons x xs ih=>obtain⟨u,r,rfl,h2,h3⟩:=h;exact⟨u,r++us',rfl,h2,ih h3⟩
theorem Reps.split{l l':List V}{us:List Value}(h:Reps L w (l++l') us):∃a b,us=a++b∧Reps L w l a∧Reps L w l' b:=by
 induction l generalizing us with
 | nil=>exact⟨[],us,rfl,rfl,h⟩
 | cons x xs ih=>obtain⟨u,r,rfl,h2,h3⟩:=h;obtain⟨a,b,rfl,h4,h5⟩:=ih h3;exact⟨u::a,b,rfl,⟨u,a,rfl,h2,h4⟩,h5⟩
theorem Reps.take{l:List V}{us:List Value}(h:Reps L w l us)(n:Nat):Reps L w (l.take n) (us.take n):=by
 induction l generalizing us n with
 | nil=>simp only[Reps] at h;simp [h,Reps]
 | cons x xs ih =>
  obtain⟨u,r,rfl,h2,h3⟩:=h
  cases n with
  | zero=>simp [Reps]
  | succ n=>exact⟨u,r.take n,by simp,h2,ih h3 n⟩
theorem Reps.drop{l:List V}{us:List Value}(h:Reps L w l us)(n:Nat):Reps L w (l.drop n) (us.drop n):=by
 induction l generalizing us n with
 | nil=>simp only[Reps] at h;simp [h,Reps]
 | cons x xs ih =>
  cases n with
  | zero=>simpa using h
  | succ n=>obtain⟨u,r,rfl,h2,h3⟩:=h;simpa using ih h3 n
theorem RepE.length{k:Nat}{l:List V}{us:List Value}(h:RepE L w k l us):us.length=l.length*k:=by
 induction l generalizing us with
 | nil=>simp only[RepE] at h;simp [h]
 | cons x xs ih=>obtain⟨u,r,rfl,h2,_,_,h5⟩:=h;simp [ih h5,h2,Nat.add_mul,Nat.add_comm]
theorem RepE.append{k:Nat}{l l':List V}{us us':List Value}(h:RepE L w k l us)(h':RepE L w k l' us'):RepE L w k (l++l') (us++us'):=by
 induction l generalizing us with
 | nil=>simp only[RepE] at h;simpa [h] using h'
 | cons x xs ih=>obtain⟨u,r,rfl,h2,h3,h4,h5⟩:=h;exact⟨u,r++us',by simp,h2,h3,h4,ih h5⟩
theorem RepE.drop{k:Nat}{l:List V}{us:List Value}(h:RepE L w k l us)(n:Nat):RepE L w k (l.drop n) (us.drop (n*k)):=by
 induction l generalizing us n with
 | nil=>simp only[RepE] at h;simp [h,RepE]
 | cons x xs ih =>
  cases n with
  | zero=>simpa using h
  | succ n =>
   obtain⟨u,r,rfl,h2,h3,h4,h5⟩:=h
   have:=ih h5 n
   have e:(u.cells.toList++r).drop ((n+1)*k)=r.drop (n*k):=by
    rw[List.drop_append,List.drop_eq_nil_of_le (by simp [h2,Nat.add_mul])]
    simp [h2,Nat.add_mul]
   rw[e];exact this
theorem RepE.take{k:Nat}{l:List V}{us:List Value}(h:RepE L w k l us)(n:Nat):RepE L w k (l.take n) (us.take (n*k)):=by
 induction l generalizing us n with
 | nil=>simp only[RepE] at h;simp [h,RepE]
 | cons x xs ih =>
  cases n with
  | zero=>simp [RepE]
  | succ n =>
   obtain⟨u,r,rfl,h2,h3,h4,h5⟩:=h
   refine⟨u,r.take (n*k), ?_,h2,h3,h4,ih h5 n⟩
   rw[List.take_append,List.take_of_length_le (by simp [h2,Nat.add_mul])]
   simp [h2,Nat.add_mul,Nat.add_sub_cancel]
theorem RepE.one{k:Nat}{l:List V}{us:List Value}(h:RepE L w k l us):∀u∈us,u.oneCell'=true:=by
 induction l generalizing us with
 | nil=>simp only[RepE] at h;simp [h]
 | cons x xs ih =>
  obtain⟨u,r,rfl,h2,h3,h4,h5⟩:=h
  intro v hv
  rcases List.mem_append.1 hv with h6|h6
  ·exact List.all_eq_true.1 h3.2 v h6
  ·exact ih h5 v h6
theorem RepE.get{k:Nat}{l:List V}{us:List Value}(h:RepE L w k l us){i:Nat}{v:V}(hv:l[i]?=some v) :
  ∃u,(us.drop (i*k)).take k=u.cells.toList∧u.cells.size=k∧(v.free=true∧u.cells.toList.all Value.oneCell'=true)∧Rep L w v u:=by
 have hi:i<l.length:=(List.getElem?_eq_some_iff.1 hv).1
 have h1:=h.drop i
 rw[List.drop_eq_getElem_cons hi] at h1
 obtain⟨u,r,h2,h3,h4,h5,_⟩:=h1
 have:l[i]=v:=(List.getElem?_eq_some_iff.1 hv).2
 rw[this] at h4 h5
 exact⟨u,by rw[h2];simp [h3],h3,h4,h5⟩
theorem RepE.set{k:Nat}{l:List V}{us:List Value}(h:RepE L w k l us){i:Nat}{v:V}{u:Value}(hi:i<l.length)(hk:u.cells.size=k)(hf:v.free=true∧u.cells.toList.all Value.oneCell'=true)(hu:Rep L w v u) :
  RepE L w k (l.set i v) (us.take (i*k)++u.cells.toList++us.drop (i*k+k)):=by
 have e:l.set i v=l.take i++([v]++l.drop (i+1)):=by
  rw[List.set_eq_take_append_cons_drop,if_pos hi];rfl
 rw[e,List.append_assoc]
 refine (h.take i).append (RepE.append ⟨u,[],by simp,hk,hf,hu,rfl⟩ ?_)
 have:=h.drop (i+1)
 rwa [Nat.add_mul,Nat.one_mul] at this
end
end Go.Pg
end
