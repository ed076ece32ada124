/-
  Texts of this claim, merged; own names are short.
-/
import Derived.WalkKit
import Derived.Laws.StructEq
import Derived.WalkSpells
import Derived.WalkLawsBesides
import Derived.Laws.Pointers
import Derived.LaidEqlPtr
import Derived.Lib.Builder
import Derived.Lib.UnsafeStr
import Derived.Deep.AppendSrc
import Derived.Laws.OwnMore
set_option linter.unusedVariables false
set_option linter.unusedSimpArgs false
set_option linter.unusedSectionVars false
set_option linter.defProp false
set_option maxRecDepth 100000
set_option maxHeartbeats 8000000
section
namespace Go.Pg
open Go
theorem aI {a b : Prop} (h : a) (k : b) : a ∧ b := ⟨h, k⟩
inductive Tag where
 | fz
 | nn
 | own (id : Nat) (e : TypeId)
def Tag.is (id : Nat) : Tag → Bool
 | .fz => false
 | .nn => false
 | .own i _ => i == id
def Tag.isOwn : Tag → Bool
 | .fz => false
 | .nn => true
 | .own _ _ => true
def Tag.nnOk : Tag → Bool
 | .fz => true
 | .nn => true
 | .own _ _ => false
def Tag.notNN : Tag → Bool
 | .fz => true
 | .nn => false
 | .own _ _ => true
inductive V where
 | c (v : Value)
 | sl (t : Tag) (k : Nat) (xs : List V)
 | agg (cs : List V)
 | tup (vs : List V)
 | ref (b off : Nat)
 | el (t : Tag) (k : Nat) (xs : List V) (i off : Nat)
 | fn (f : FuncId) (first captured : List V)
 | top
 | nif
structure Lay where
 A : Nat → Prop
 own : Nat → Option Nat
 box : Nat → Option Nat
mutual
def V.any (p : Tag → Bool) (q : Nat → Bool) (tp : Bool) : V → Bool
 | .c _ => false
 | .sl t _ _ => p t
 | .agg cs => V.anyL p q tp cs
 | .tup cs => V.anyL p q tp cs
 | .ref b _ => q b
 | .el t _ _ _ _ => p t
 | .fn _ fs cs => V.anyL p q tp fs || V.anyL p q tp cs
 | .top => tp
 | .nif => false
def V.anyL (p : Tag → Bool) (q : Nat → Bool) (tp : Bool) : List V → Bool
 | [] => false
 | x :: xs => V.any p q tp x || V.anyL p q tp xs
end
def V.free (v : V) : Bool := !(v.any Tag.isOwn (fun _ => true) true)
def V.has (id : Nat) (v : V) : Bool := v.any (Tag.is id) (fun _ => false) false
def Row (w : World) (g o : Nat) (cells : List Value) : Prop :=
 ∃ arr e fr, w.heap[g]? = some (.cells arr e fr) ∧ (arr.toList.drop o).take cells.length = cells
def SlMem (L : Lay) (w : World) (t : Tag) (k : Nat) (a : Option Addr) (len cap : Nat) (cells : List Value) : Prop :=
 match t with
 | .fz => len ≤ cap ∧ (len = 0 ∨ ∃ g o, a = some ⟨g, o, none⟩ ∧ L.A g ∧ Row w g o cells)
 | .nn => len = 0 ∧ a.isSome = true
 | .own id e => (len = 0 ∧ a = none ∧ cap = 0) ∨
   ∃ g arr, L.own id = some g ∧ a = some ⟨g, 0, none⟩ ∧ w.heap[g]? = some (.cells arr e (0, 0)) ∧ len ≤ cap ∧ cap ≤ maxLen ∧ arr.size = cap * k ∧ arr.toList.take (len * k) = cells
def ElMem (L : Lay) (w : World) (t : Tag) (g o : Nat) (cells : List Value) : Prop :=
 match t with
 | .fz => L.A g ∧ Row w g o cells
 | .nn => False
 | .own id e => L.own id = some g ∧ o = 0 ∧ ∃ arr, w.heap[g]? = some (.cells arr e (0, 0)) ∧ arr.toList.take cells.length = cells
mutual
def V.map (τ : Tag → Tag) (ρ : Nat → Nat) : V → V
 | .c v => .c v
 | .sl t k xs => .sl (τ t) k xs
 | .agg cs => .agg (V.mapL τ ρ cs)
 | .tup cs => .tup (V.mapL τ ρ cs)
 | .ref b off => .ref (ρ b) off
 | .el t k xs i off => .el (τ t) k xs i off
 | .fn f fs cs => .fn f (V.mapL τ ρ fs) (V.mapL τ ρ cs)
 | .top => .top
 | .nif => .nif
def V.mapL (τ : Tag → Tag) (ρ : Nat → Nat) : List V → List V
 | [] => []
 | x :: xs => V.map τ ρ x :: V.mapL τ ρ xs
end
mutual
def Rep (L : Lay) (w : World) : V → Value → Prop
 | .c v, u => u = v
 | .sl t k xs, u => ∃ a cap cells, u = .slice a xs.length cap ∧ RepE L w k xs cells ∧ SlMem L w t k a xs.length cap cells
 | .agg cs, u => ∃ a, u = .agg a ∧ Reps L w cs a.toList
 | .tup cs, u => ∃ a, u = .tuple a ∧ Reps L w cs a.toList
 | .ref b off, u => ∃ g, L.box b = some g ∧ u = .pointer (some ⟨g, off, none⟩)
 | .el t k xs i off, u => ∃ g o cells, u = .pointer (some ⟨g, o + i * k + off, none⟩) ∧ RepE L w k xs cells ∧ ElMem L w t g o cells
 | .fn f fs cs, u => ∃ a b, u = .func (.func f) a b ∧ Reps L w fs a.toList ∧ Reps L w cs b.toList
 | .top, _ => True
 | .nif, u => ∃ t v, u = .iface t v
def Reps (L : Lay) (w : World) : List V → List Value → Prop
 | [], us => us = []
 | x :: xs, us => ∃ u r, us = u :: r ∧ Rep L w x u ∧ Reps L w xs r
def RepE (L : Lay) (w : World) (k : Nat) : List V → List Value → Prop
 | [], us => us = []
 | x :: xs, us => ∃ u r, us = u.cells.toList ++ r ∧ u.cells.size = k ∧ (x.free = true ∧ u.cells.toList.all Value.oneCell' = true) ∧ Rep L w x u ∧ RepE L w k xs r
end
structure Kp (Wr : Nat → Prop) (B : Nat) (w w' : World) : Prop where
 os : w'.os = w.os
 tape : w'.tape = w.tape
 output : w'.output = w.output
 size : w.heap.size ≤ w'.heap.size
 block : ∀ k, k < B → ¬ Wr k → w'.heap[k]? = w.heap[k]?
theorem Kp.refl (Wr : Nat → Prop) (B : Nat) (w : World) : Kp Wr B w w := ⟨rfl, rfl, rfl, Nat.le_refl _, fun _ _ _ => rfl⟩
theorem Kp.trans {Wr : Nat → Prop} {B : Nat} {a b c : World} (h : Kp Wr B a b) (k : Kp Wr B b c) : Kp Wr B a c :=
 ⟨k.os.trans h.os, k.tape.trans h.tape, k.output.trans h.output, Nat.le_trans h.size k.size, fun i hi hw => (k.block i hi hw).trans (h.block i hi hw)⟩
theorem Kp.mono {Wr Wr' : Nat → Prop} {B B' : Nat} {a b : World} (h : Kp Wr B a b) (hB : B' ≤ B) (hW : ∀ g, g < B' → Wr g → Wr' g) : Kp Wr' B' a b :=
 ⟨h.os, h.tape, h.output, h.size, fun i hi hw => h.block i (Nat.lt_of_lt_of_le hi hB) fun x => hw (hW i hi x)⟩
theorem Kp.alloc {Wr : Nat → Prop} {B : Nat} {a w : World} (h : Kp Wr B a w) (hB : B ≤ w.heap.size) (o : Obj) : Kp Wr B a (w.alloc o) :=
 h.trans ⟨rfl, rfl, rfl, by simp, fun k hk _ => RowKit.Below.heap_alloc _ _ _ (by omega)⟩
class Tb (P : Program) where
 T : World → Prop
 keep : ∀ w w', T w → Kp (fun _ => False) w.heap.size w w' → T w'
theorem Kp.drew {Wr : Nat → Prop} {B : Nat} {a w : World} (h : Kp Wr B a w) : Kp Wr B a w.drew := ⟨h.os, h.tape, h.output, h.size, h.block⟩
theorem V.ind {p : V → Prop} {q : List V → Prop} (hc : ∀ v, p (.c v)) (hnif : p .nif) (hsl : ∀ t k xs, q xs → p (.sl t k xs)) (hagg : ∀ cs, q cs → p (.agg cs)) (htup : ∀ cs, q cs → p (.tup cs))
  (href : ∀ b o, p (.ref b o)) (hel : ∀ t k xs i o, q xs → p (.el t k xs i o)) (hfn : ∀ f fs cs, q fs → q cs → p (.fn f fs cs)) (htop : p .top) (hnil : q []) (hcons : ∀ x xs, p x → q xs → q (x :: xs)) :
  (∀ v, p v) ∧ (∀ l, q l) := by
 have h1 : ∀ v, p v := fun v => V.rec (motive_1 := p) (motive_2 := q) hc (fun t k xs h => hsl t k xs h) (fun cs h => hagg cs h) (fun cs h => htup cs h) href (fun t k xs i o h => hel t k xs i o h) (fun f fs cs h h' => hfn f fs cs h h') htop hnif hnil (fun x xs h h' => hcons x xs h h') v
 exact ⟨h1, fun l => by induction l with | nil => exact hnil | cons x xs ih => exact hcons x xs (h1 x) ih⟩
theorem xx (τ : Tag → Tag) (ρ : Nat → Nat) (l : List V) : V.mapL τ ρ l = l.map (V.map τ ρ) := by
 induction l with
 | nil => rfl
 | cons x xs ih => simp [V.mapL, ih]
theorem map_id : (∀ v : V, v.map id id = v) ∧ (∀ l, V.mapL id id l = l) := by
 refine V.ind ?_ ?_ ?_ ?_ ?_ ?_ ?_ ?_ ?_ ?_ ?_ <;> intros <;> simp_all [V.map, V.mapL]
theorem WN (p : Tag → Bool) (q : Nat → Bool) (hp : p .fz = false) (tp : Bool) :
  (∀ v : V, v.any Tag.isOwn (fun _ => true) true = false → v.any p q tp = false) ∧ (∀ l, V.anyL Tag.isOwn (fun _ => true) true l = false → V.anyL p q tp l = false) := by
 refine V.ind ?_ ?_ ?_ ?_ ?_ ?_ ?_ ?_ ?_ ?_ ?_
 ·intro v _; rfl
 ·intro _; rfl
 ·intro t k xs _ h; cases t with
  | fz => simpa [V.any] using hp
  | nn => simp [V.any, Tag.isOwn] at h
  | own id e => simp [V.any, Tag.isOwn] at h
 ·intro cs ih h; exact ih h
 ·intro cs ih h; exact ih h
 ·intro b off h; simp [V.any] at h
 ·intro t k xs i off _ h; cases t with
  | fz => simpa [V.any] using hp
  | nn => simp [V.any, Tag.isOwn] at h
  | own id e => simp [V.any, Tag.isOwn] at h
 ·intro f fs cs ih1 ih2 h
  simp only [V.any, Bool.or_eq_false_iff] at h ⊢
  exact ⟨ih1 h.1, ih2 h.2⟩
 ·intro h; simp [V.any] at h
 ·intro _; rfl
 ·intro x xs ih1 ih2 h
  simp only [V.anyL, Bool.or_eq_false_iff] at h ⊢
  exact ⟨ih1 h.1, ih2 h.2⟩
theorem V.free.any {v : V} (h : v.free = true) (p : Tag → Bool) (q : Nat → Bool) (hp : p .fz = false) (tp : Bool) : v.any p q tp = false :=
 (WN p q hp tp).1 v (by simpa [V.free] using h)
theorem WO (τ : Tag → Tag) (ρ : Nat → Nat) (hτ : τ .fz = .fz) :
  (∀ v : V, v.any Tag.isOwn (fun _ => true) true = false → v.map τ ρ = v) ∧ (∀ l, V.anyL Tag.isOwn (fun _ => true) true l = false → V.mapL τ ρ l = l) := by
 refine V.ind ?_ ?_ ?_ ?_ ?_ ?_ ?_ ?_ ?_ ?_ ?_
 ·intro v _; rfl
 ·intro _; rfl
 ·intro t k xs _ h; cases t with
  | fz => simp [V.map, hτ]
  | nn => simp [V.any, Tag.isOwn] at h
  | own id e => simp [V.any, Tag.isOwn] at h
 ·intro cs ih h; simp [V.map, ih h]
 ·intro cs ih h; simp [V.map, ih h]
 ·intro b off h; simp [V.any] at h
 ·intro t k xs i off _ h; cases t with
  | fz => simp [V.map, hτ]
  | nn => simp [V.any, Tag.isOwn] at h
  | own id e => simp [V.any, Tag.isOwn] at h
 ·intro f fs cs ih1 ih2 h
  simp only [V.any, Bool.or_eq_false_iff] at h
  simp [V.map, ih1 h.1, ih2 h.2]
 ·intro _; rfl
 ·intro _; rfl
 ·intro x xs ih1 ih2 h
  simp only [V.anyL, Bool.or_eq_false_iff] at h
  simp [V.mapL, ih1 h.1, ih2 h.2]
theorem V.free.map {v : V} (h : v.free = true) (τ : Tag → Tag) (ρ : Nat → Nat) (hτ : τ .fz = .fz) : v.map τ ρ = v :=
 (WO τ ρ hτ).1 v (by simpa [V.free] using h)
def RowKept (w w' : World) (g : Nat) : Prop := ∀ arr e fr, w.heap[g]? = some (.cells arr e fr) → ∃ fr', w'.heap[g]? = some (.cells arr e fr')
theorem RowKept.of {w w' : World} {g : Nat} (h : w'.heap[g]? = w.heap[g]?) : RowKept w w' g := fun _ _ fr hg => ⟨fr, h.trans hg⟩
theorem Row.keep {w w' : World} {g o : Nat} {cells : List Value} (h : Row w g o cells) (hg : RowKept w w' g) : Row w' g o cells := by
 obtain ⟨arr, e, fr, h1, h2⟩ := h
 obtain ⟨fr', h3⟩ := hg arr e fr h1
 exact ⟨arr, e, fr', h3, h2⟩
structure Trans (p : Tag → Bool) (q : Nat → Bool) (τ : Tag → Tag) (ρ : Nat → Nat) (L L' : Lay) (w w' : World) : Prop where
 fz' : (τ .fz, (τ .nn).nnOk, fun id e => (τ (.own id e)).notNN) = (Tag.fz, true, fun _ _ => true)
 A : ∀ g, L.A g → L'.A g ∧ RowKept w w' g
 own : ∀ id e, p (.own id e) = false → ∀ g, L.own id = some g → (match τ (.own id e) with | .fz => L'.A g | .nn => False | .own id' e' => e' = e ∧ L'.own id' = some g) ∧ w'.heap[g]? = w.heap[g]?
 box : ∀ b, q b = false → ∀ g, L.box b = some g → L'.box (ρ b) = some g
theorem Trans.fz {p : Tag → Bool} {q : Nat → Bool} {τ : Tag → Tag} {ρ : Nat → Nat} {L L' : Lay} {w w' : World} (K : Trans p q τ ρ L L' w w') : τ .fz = .fz := (Prod.mk.inj K.fz').1
theorem Trans.nn {p : Tag → Bool} {q : Nat → Bool} {τ : Tag → Tag} {ρ : Nat → Nat} {L L' : Lay} {w w' : World} (K : Trans p q τ ρ L L' w w') : (τ .nn).nnOk = true := (Prod.mk.inj (Prod.mk.inj K.fz').2).1
theorem Trans.ownNN {p : Tag → Bool} {q : Nat → Bool} {τ : Tag → Tag} {ρ : Nat → Nat} {L L' : Lay} {w w' : World} (K : Trans p q τ ρ L L' w w') (id : Nat) (e : TypeId) : (τ (.own id e)).notNN = true := congrFun (congrFun (Prod.mk.inj (Prod.mk.inj K.fz').2).2 id) e
section
variable {L L' : Lay} {w w' : World}
theorem SlMem.trans {p : Tag → Bool} {q : Nat → Bool} {τ : Tag → Tag} {ρ : Nat → Nat} (K : Trans p q τ ρ L L' w w') {t : Tag} {k : Nat} {a : Option Addr} {len cap : Nat} {cells : List Value} (ht : p t = false)
  (h : SlMem L w t k a len cap cells) : SlMem L' w' (τ t) k a len cap cells := by
 cases t with
 | fz =>
  rw [K.fz]
  obtain ⟨h0, h⟩ := h
  refine ⟨h0, h.imp id ?_⟩
  rintro ⟨g, o, h1, h2, h3⟩
  exact ⟨g, o, h1, (K.A g h2).1, h3.keep (K.A g h2).2⟩
 | nn =>
  obtain ⟨h0, h1⟩ := h
  have hn := K.nn
  cases ht' : τ .nn with
  | fz => exact ⟨by omega, .inl h0⟩
  | nn => exact ⟨h0, h1⟩
  | own id e => rw [ht'] at hn; cases hn
 | own id e =>
  rcases h with ⟨h1, h2, h3⟩ | ⟨g, arr, h1, h2, h3, h4, h5, h6, h7⟩
  ·cases ht' : τ (.own id e) with
   | fz => exact ⟨by omega, .inl h1⟩
   | nn => have := K.ownNN id e; rw [ht'] at this; cases this
   | own id' e' => exact .inl ⟨h1, h2, h3⟩
  ·obtain ⟨ho, hb⟩ := K.own id e ht g h1
   cases ht' : τ (.own id e) with
   | fz =>
    rw [ht'] at ho
    refine ⟨h4, .inr ⟨g, 0, h2, ho, arr, e, (0, 0), hb.trans h3, ?_⟩⟩
    have : cells.length = len * k := by rw [← h7]; have := Nat.mul_le_mul_right k h4; simp only [List.length_take, Array.length_toList, h6]; omega
    simp [this, h7]
   | nn => rw [ht'] at ho; exact ho.elim
   | own id' e' =>
    rw [ht'] at ho
    obtain ⟨rfl, ho⟩ := ho
    exact .inr ⟨g, arr, ho, h2, hb.trans h3, h4, h5, h6, h7⟩
theorem ElMem.trans {p : Tag → Bool} {q : Nat → Bool} {τ : Tag → Tag} {ρ : Nat → Nat} (K : Trans p q τ ρ L L' w w') {t : Tag} {g o : Nat} {cells : List Value} (ht : p t = false)
  (h : ElMem L w t g o cells) : ElMem L' w' (τ t) g o cells := by
 cases t with
 | fz => rw [K.fz]; exact ⟨(K.A g h.1).1, h.2.keep (K.A g h.1).2⟩
 | nn => exact h.elim
 | own id e =>
  obtain ⟨h1, rfl, arr, h3, h4⟩ := h
  obtain ⟨ho, hb⟩ := K.own id e ht g h1
  cases ht' : τ (.own id e) with
  | fz => rw [ht'] at ho; exact ⟨ho, arr, e, (0, 0), hb.trans h3, by simpa using h4⟩
  | nn => rw [ht'] at ho; exact ho.elim
  | own id' e' =>
   rw [ht'] at ho
   obtain ⟨rfl, ho⟩ := ho
   exact ⟨ho, rfl, arr, hb.trans h3, h4⟩
theorem qO {p : Tag → Bool} {q : Nat → Bool} {τ : Tag → Tag} {ρ : Nat → Nat} (hp : p .fz = false) (K : Trans p q τ ρ L L' w w') :
  (∀ v u, v.any p q false = false → Rep L w v u → Rep L' w' (v.map τ ρ) u) ∧
  (∀ l, (∀ us, V.anyL p q false l = false → Reps L w l us → Reps L' w' (V.mapL τ ρ l) us) ∧ ∀ k us, RepE L w k l us → RepE L' w' k l us) := by
 refine V.ind ?_ ?_ ?_ ?_ ?_ ?_ ?_ ?_ ?_ ?_ ?_
 ·intro v u _ h; exact h
 ·intro u _ h; exact h
 ·rintro t k xs ⟨_, ih⟩ u ha ⟨a, cap, cells, h1, h2, h3⟩
  exact ⟨a, cap, cells, h1, ih k cells h2, h3.trans K ha⟩
 ·rintro cs ⟨ih, _⟩ u ha ⟨a, h1, h2⟩
  exact ⟨a, h1, ih _ ha h2⟩
 ·rintro cs ⟨ih, _⟩ u ha ⟨a, h1, h2⟩
  exact ⟨a, h1, ih _ ha h2⟩
 ·rintro b off u ha ⟨g, h1, h2⟩
  exact ⟨g, K.box b ha g h1, h2⟩
 ·rintro t k xs i off ⟨_, ih⟩ u ha ⟨g, o, cells, h1, h2, h3⟩
  exact ⟨g, o, cells, h1, ih k cells h2, h3.trans K ha⟩
 ·rintro f fs cs ⟨ih1, _⟩ ⟨ih2, _⟩ u ha ⟨a, b, h1, h2, h3⟩
  simp only [V.any, Bool.or_eq_false_iff] at ha
  exact ⟨a, b, h1, ih1 _ ha.1 h2, ih2 _ ha.2 h3⟩
 ·intro u _ _; trivial
 ·exact ⟨fun us _ h => h, fun k us h => h⟩
 ·rintro x xs ihx ⟨ih1, ih2⟩
  refine ⟨?_, ?_⟩
  ·rintro us ha ⟨u, r, h1, h2, h3⟩
   simp only [V.anyL, Bool.or_eq_false_iff] at ha
   exact ⟨u, r, h1, ihx u ha.1 h2, ih1 r ha.2 h3⟩
  ·rintro k us ⟨u, r, h1, h2, h3, h4, h5⟩
   have := ihx u (V.free.any h3.1 p q hp _) h4
   rw [V.free.map h3.1 τ ρ K.fz] at this
   exact ⟨u, r, h1, h2, h3, this, ih2 k r h5⟩
theorem Rep.trans {p : Tag → Bool} {q : Nat → Bool} {τ : Tag → Tag} {ρ : Nat → Nat} (hp : p .fz = false) (K : Trans p q τ ρ L L' w w') {v : V} {u : Value} (ha : v.any p q false = false) (h : Rep L w v u) :
  Rep L' w' (v.map τ ρ) u := (qO hp K).1 v u ha h
theorem Reps.trans {p : Tag → Bool} {q : Nat → Bool} {τ : Tag → Tag} {ρ : Nat → Nat} (hp : p .fz = false) (K : Trans p q τ ρ L L' w w') {l : List V} {us : List Value} (ha : V.anyL p q false l = false) (h : Reps L w l us) :
  Reps L' w' (V.mapL τ ρ l) us := ((qO hp K).2 l).1 us ha h
theorem RepE.trans {p : Tag → Bool} {q : Nat → Bool} {τ : Tag → Tag} {ρ : Nat → Nat} (hp : p .fz = false) (K : Trans p q τ ρ L L' w w') {k : Nat} {l : List V} {us : List Value} (h : RepE L w k l us) :
  RepE L' w' k l us := ((qO hp K).2 l).2 k us h
theorem MS : (∀ v : V, v.any (fun _ => false) (fun _ => false) false = false) ∧ (∀ l, V.anyL (fun _ => false) (fun _ => false) false l = false) := by
 refine V.ind ?_ ?_ ?_ ?_ ?_ ?_ ?_ ?_ ?_ ?_ ?_ <;> intros <;> simp_all [V.any, V.anyL]
abbrev Whole (L L' : Lay) (w w' : World) : Prop := Trans (fun _ => false) (fun _ => false) id id L L' w w'
theorem Rep.whole (K : Whole L L' w w') {v : V} {u : Value} (h : Rep L w v u) : Rep L' w' v u := by
 have := h.trans rfl K (MS.1 v); rwa [map_id.1] at this
theorem Reps.whole (K : Whole L L' w w') {l : List V} {us : List Value} (h : Reps L w l us) : Reps L' w' l us := by
 have := h.trans rfl K (MS.2 l); rwa [map_id.2] at this
theorem Reps.length {l : List V} {us : List Value} (h : Reps L w l us) : us.length = l.length := by
 induction l generalizing us with
 | nil => simp only [Reps] at h; simp [h]
 | cons x xs ih => obtain ⟨u, r, rfl, _, h3⟩ := h; simp [ih h3]
theorem Reps.get {l : List V} {us : List Value} (h : Reps L w l us) {i : Nat} {v : V} (hv : l[i]? = some v) : ∃ u, us[i]? = some u ∧ Rep L w v u := by
 induction l generalizing us i with
 | nil => simp at hv
 | cons x xs ih =>
  obtain ⟨u, r, rfl, h2, h3⟩ := h
  cases i with
  | zero => simp at hv; subst hv; exact ⟨u, by simp, h2⟩
  | succ i => simp at hv; simpa using ih h3 hv
theorem Reps.append {l l' : List V} {us us' : List Value} (h : Reps L w l us) (h' : Reps L w l' us') : Reps L w (l ++ l') (us ++ us') := by
 induction l generalizing us with
 | nil => simp only [Reps] at h; simpa [h] using h'
 | cons x xs ih => obtain ⟨u, r, rfl, h2, h3⟩ := h; exact ⟨u, r ++ us', rfl, h2, ih h3⟩
theorem Reps.split {l l' : List V} {us : List Value} (h : Reps L w (l ++ l') us) : ∃ a b, us = a ++ b ∧ Reps L w l a ∧ Reps L w l' b := by
 induction l generalizing us with
 | nil => exact ⟨[], us, rfl, rfl, h⟩
 | cons x xs ih => obtain ⟨u, r, rfl, h2, h3⟩ := h; obtain ⟨a, b, rfl, h4, h5⟩ := ih h3; exact ⟨u :: a, b, rfl, ⟨u, a, rfl, h2, h4⟩, h5⟩
theorem Reps.take {l : List V} {us : List Value} (h : Reps L w l us) (n : Nat) : Reps L w (l.take n) (us.take n) := by
 induction l generalizing us n with
 | nil => simp only [Reps] at h; simp [h, Reps]
 | cons x xs ih =>
  obtain ⟨u, r, rfl, h2, h3⟩ := h
  cases n with
  | zero => simp [Reps]
  | succ n => exact ⟨u, r.take n, by simp, h2, ih h3 n⟩
theorem Reps.drop {l : List V} {us : List Value} (h : Reps L w l us) (n : Nat) : Reps L w (l.drop n) (us.drop n) := by
 induction l generalizing us n with
 | nil => simp only [Reps] at h; simp [h, Reps]
 | cons x xs ih =>
  cases n with
  | zero => simpa using h
  | succ n => obtain ⟨u, r, rfl, h2, h3⟩ := h; simpa using ih h3 n
theorem RepE.length {k : Nat} {l : List V} {us : List Value} (h : RepE L w k l us) : us.length = l.length * k := by
 induction l generalizing us with
 | nil => simp only [RepE] at h; simp [h]
 | cons x xs ih => obtain ⟨u, r, rfl, h2, _, _, h5⟩ := h; simp [ih h5, h2, Nat.add_mul, Nat.add_comm]
theorem RepE.append {k : Nat} {l l' : List V} {us us' : List Value} (h : RepE L w k l us) (h' : RepE L w k l' us') : RepE L w k (l ++ l') (us ++ us') := by
 induction l generalizing us with
 | nil => simp only [RepE] at h; simpa [h] using h'
 | cons x xs ih => obtain ⟨u, r, rfl, h2, h3, h4, h5⟩ := h; exact ⟨u, r ++ us', by simp, h2, h3, h4, ih h5⟩
theorem RepE.drop {k : Nat} {l : List V} {us : List Value} (h : RepE L w k l us) (n : Nat) : RepE L w k (l.drop n) (us.drop (n * k)) := by
 induction l generalizing us n with
 | nil => simp only [RepE] at h; simp [h, RepE]
 | cons x xs ih =>
  cases n with
  | zero => simpa using h
  | succ n =>
   obtain ⟨u, r, rfl, h2, h3, h4, h5⟩ := h
   have := ih h5 n
   have e : (u.cells.toList ++ r).drop ((n + 1) * k) = r.drop (n * k) := by
    rw [List.drop_append, List.drop_eq_nil_of_le (by simp [h2, Nat.add_mul])]
    simp [h2, Nat.add_mul]
   rw [e]; exact this
theorem RepE.take {k : Nat} {l : List V} {us : List Value} (h : RepE L w k l us) (n : Nat) : RepE L w k (l.take n) (us.take (n * k)) := by
 induction l generalizing us n with
 | nil => simp only [RepE] at h; simp [h, RepE]
 | cons x xs ih =>
  cases n with
  | zero => simp [RepE]
  | succ n =>
   obtain ⟨u, r, rfl, h2, h3, h4, h5⟩ := h
   refine ⟨u, r.take (n * k), ?_, h2, h3, h4, ih h5 n⟩
   rw [List.take_append, List.take_of_length_le (by simp [h2, Nat.add_mul])]
   simp [h2, Nat.add_mul, Nat.add_sub_cancel]
theorem RepE.one {k : Nat} {l : List V} {us : List Value} (h : RepE L w k l us) : ∀ u ∈ us, u.oneCell' = true := by
 induction l generalizing us with
 | nil => simp only [RepE] at h; simp [h]
 | cons x xs ih =>
  obtain ⟨u, r, rfl, h2, h3, h4, h5⟩ := h
  intro v hv
  rcases List.mem_append.1 hv with h6 | h6
  ·exact List.all_eq_true.1 h3.2 v h6
  ·exact ih h5 v h6
theorem RepE.get {k : Nat} {l : List V} {us : List Value} (h : RepE L w k l us) {i : Nat} {v : V} (hv : l[i]? = some v) :
  ∃ u, (us.drop (i * k)).take k = u.cells.toList ∧ u.cells.size = k ∧ (v.free = true ∧ u.cells.toList.all Value.oneCell' = true) ∧ Rep L w v u := by
 have hi : i < l.length := (List.getElem?_eq_some_iff.1 hv).1
 have h1 := h.drop i
 rw [List.drop_eq_getElem_cons hi] at h1
 obtain ⟨u, r, h2, h3, h4, h5, _⟩ := h1
 have : l[i] = v := (List.getElem?_eq_some_iff.1 hv).2
 rw [this] at h4 h5
 exact ⟨u, by rw [h2]; simp [h3], h3, h4, h5⟩
theorem RepE.set {k : Nat} {l : List V} {us : List Value} (h : RepE L w k l us) {i : Nat} {v : V} {u : Value} (hi : i < l.length) (hk : u.cells.size = k) (hf : v.free = true ∧ u.cells.toList.all Value.oneCell' = true) (hu : Rep L w v u) :
  RepE L w k (l.set i v) (us.take (i * k) ++ u.cells.toList ++ us.drop (i * k + k)) := by
 have e : l.set i v = l.take i ++ ([v] ++ l.drop (i + 1)) := by
  rw [List.set_eq_take_append_cons_drop, if_pos hi]; rfl
 rw [e, List.append_assoc]
 refine (h.take i).append (RepE.append ⟨u, [], by simp, hk, hf, hu, rfl⟩ ?_)
 have := h.drop (i + 1)
 rwa [Nat.add_mul, Nat.one_mul] at this
end
end Go.Pg
end
section
namespace Go.Pg
open Go
structure St where
 env : Nat → V
 bx : Nat → Option (TypeId × List V)
 nid : Nat
 hd : Nat → V := fun _ => .top
def upd {α : Type} (f : Nat → α) (d : Nat) (v : α) : Nat → α := fun t => if t = d then v else f t
theorem aoZ {α : Type} (f : Nat → α) (d t : Nat) (v : α) (h : t ≠ d) : upd f d v t = f t := by simp [upd, h]
def fV : Value → V
 | .agg cs => .agg (cs.toList.map .c)
 | .tuple vs => .tup (vs.toList.map .c)
 | v => .c v
def St.ev (s : St) : Operand → V
 | .tmp t => s.env t
 | .const v => fV v
 | .global g => .c (.pointer (some ⟨g, 0, none⟩))
 | .func f => .fn f [] []
def St.put (s : St) (d : Option Nat) (v : V) : St :=
 match d with
 | some d => { s with env := upd s.env d v }
 | none => s
structure Cx where
 n : Nat
 A0 : Nat → Prop
 Wr : Nat → Prop
 w0 : World
 hid : Nat → Value := fun _ => undef
abbrev Cx.B (C : Cx) : Nat := C.w0.heap.size
def Cx.TOk (C : Cx) (P : Program) [Tb P] : Prop := ∀ w', Kp C.Wr C.B C.w0 w' → Tb.T P w'
structure Wf (C : Cx) (nid : Nat) (L : Lay) (w : World) : Prop where
 nidO : ∀ id g, L.own id = some g → id < nid
 nidB : ∀ b g, L.box b = some g → b < nid
 own : ∀ id g, L.own id = some g → g < w.heap.size ∧ (C.B ≤ g ∨ C.Wr g) ∧ ¬ L.A g
 boxW : ∀ b g, L.box b = some g → g < w.heap.size ∧ (C.B ≤ g ∨ C.Wr g) ∧ ¬ L.A g
 injO : ∀ i j g, L.own i = some g → L.own j = some g → i = j
 injB : ∀ i j g, L.box i = some g → L.box j = some g → i = j
 dis : ∀ i j g, L.own i = some g → L.box j = some g → False
 old : ∀ g, L.A g → g < w.heap.size
 frz : ∀ g, L.A g → C.A0 g ∨ C.B ≤ g ∨ C.Wr g
def BoxOk (L : Lay) (w : World) (b : Nat) (x : TypeId × List V) : Prop :=
 ∃ g arr, L.box b = some g ∧ w.heap[g]? = some (.cells arr x.1 (0, 0)) ∧ Reps L w x.2 arr.toList
structure Sim (C : Cx) (s : St) (L : Lay) (a : Act) (w : World) : Prop where
 defers : a.defers = []
 size : a.tmps.size = C.n
 env : ∀ t, Rep L w (s.env t) (a.tmps.getD t undef)
 hid : ∀ t, Rep L w (s.hd t) (C.hid t)
 box : ∀ b cs, s.bx b = some cs → BoxOk L w b cs
 wf : Wf C s.nid L w
 kp : Kp C.Wr C.B C.w0 w
theorem zu (L : Lay) (w : World) (l : List Value) : Reps L w (l.map .c) l := by
 induction l with
 | nil => rfl
 | cons x xs ih => exact ⟨x, xs, rfl, rfl, ih⟩
theorem uq (L : Lay) (w : World) (v : Value) : Rep L w (fV v) v := by
 cases v <;> first | rfl | exact ⟨_, rfl, zu L w _⟩
section
variable {C : Cx} {s : St} {L : Lay} {a : Act} {w : World}
theorem Sim.ev (S : Sim C s L a w) (x : Operand) : Rep L w (s.ev x) (a.eval x) := by
 cases x with
 | tmp t => exact S.env t
 | const v => exact uq L w v
 | global g => rfl
 | func f => exact ⟨#[], #[], rfl, rfl, rfl⟩
theorem Sim.put (S : Sim C s L a w) {v : V} {u : Value} (h : Rep L w v u) {d : Option Nat} (hd : ∀ t, d = some t → t < C.n) : Sim C (s.put d v) L (a.put d u) w := by
 cases d with
 | none => exact S
 | some d =>
  have hd := hd d rfl
  refine ⟨S.defers, by simp [Act.put, S.size], fun t => ?_, S.hid, S.box, S.wf, S.kp⟩
  simp only [St.put, Act.put, upd]
  by_cases ht : t = d
  ·subst ht
   have : t < a.tmps.size := by rw [S.size]; exact hd
   simp [Array.getD, this, h]
  ·have := S.env t
   rw [if_neg ht]
   simpa [Array.getD_eq_getD_getElem?, Array.getElem?_setIfInBounds, Ne.symm ht] using this
end
def tsz (P : Program) (t : TypeId) : Option Nat := (P.info? t).map (·.size)
def tY (P : Program) (t : TypeId) : Option Value := (P.info? t).bind (·.zero)
def mV (P : Program) (t : TypeId) : Option Bool := (P.underlying t).map fun | .struct _ => true | .array _ _ => true | _ => false
def elemT (P : Program) (t : TypeId) : Option TypeId := match P.underlying t with | some (.slice e) => some e | _ => none
def mW (P : Program) (t : TypeId) (f : Nat) : Option (TypeId × Nat) := match P.underlying t with | some (.struct fs) => (fs[f]?).map fun x => (x.type, x.offset) | _ => none
def jD (P : Program) (t : TypeId) : Option (Nat × TypeId) := match P.underlying t with | some (.array n e) => some (n, e) | _ => none
def ji (P : Program) (t : TypeId) : Bool := match P.underlying t with | some .string => true | _ => false
def nI (P : Program) (t : TypeId) : Bool := match P.underlying t with | some .bool => true | _ => false
def rY (P : Program) (t : TypeId) : Option IntKind := match P.underlying t with | some (.int k) => some k | _ => none
section
variable {P : Program} {t : TypeId}
theorem WP {n : Nat} (h : tsz P t = some n) : ∃ i, P.info? t = some i ∧ i.size = n := by simpa [tsz] using h
theorem MV {v : Value} (h : tY P t = some v) : ∃ i, P.info? t = some i ∧ i.zero = some v := by simpa [tY, Option.bind_eq_some_iff] using h
theorem dY {e : TypeId} (h : elemT P t = some e) : P.underlying t = some (.slice e) := by
 unfold elemT at h; split at h <;> simp_all
theorem wK {n : Nat} {e : TypeId} (h : jD P t = some (n, e)) : P.underlying t = some (.array n e) := by
 unfold jD at h; split at h <;> simp_all
theorem kS (h : ji P t = true) : P.underlying t = some .string := by
 unfold ji at h; split at h <;> simp_all
theorem Au (h : nI P t = true) : P.underlying t = some .bool := by
 unfold nI at h; split at h <;> simp_all
theorem qY {k : IntKind} (h : rY P t = some k) : P.underlying t = some (.int k) := by
 unfold rY at h; split at h <;> simp_all
theorem Ce {f n : Nat} {ft : TypeId} (h : mW P t f = some (ft, n)) : ∃ fs fd, P.underlying t = some (.struct fs) ∧ fs[f]? = some fd ∧ fd.type = ft ∧ fd.offset = n := by
 unfold mW at h
 split at h
 ·rename_i fs hu
  simp only [Option.map_eq_some_iff, Prod.mk.injEq] at h
  obtain ⟨fd, h1, h2, h3⟩ := h
  exact ⟨fs, fd, hu, h1, h2, h3⟩
 ·cases h
theorem jE {n : Nat} (h : tsz P t = some n) (w : World) : (sizeOf t).run P w = .ok n w := by
 obtain ⟨i, h1, h2⟩ := WP h
 simp [sizeOf, typeInfo, h1, h2]
theorem qZ {v : Value} (h : tY P t = some v) (w : World) : (zeroValue t).run P w = .ok v w := by
 obtain ⟨i, h1, h2⟩ := MV h
 simp [zeroValue, typeInfo, h1, h2]
theorem pq {b : Bool} (h : mV P t = some b) (w : World) : (isAgg t).run P w = .ok b w := by
 simp only [mV, Option.map_eq_some_iff] at h
 obtain ⟨d, h1, h2⟩ := h
 cases d <;> simp_all [isAgg, run_underlying h1]
end
def V.cs : V → Option (List V)
 | .agg l => some l
 | .top => none
 | .c v => some (v.cells.toList.map .c)
 | .sl t k xs => some [.sl t k xs]
 | .tup vs => some [.tup vs]
 | .ref b o => some [.ref b o]
 | .el t k xs i o => some [.el t k xs i o]
 | .fn f a b => some [.fn f a b]
 | .nif => some [.nif]
theorem wL {L : Lay} {w : World} {v : V} {u : Value} {l : List V} (h : Rep L w v u) (hc : v.cs = some l) : Reps L w l u.cells.toList := by
 cases v <;> simp only [V.cs, Option.some.injEq, reduceCtorEq] at hc
 case c x => subst hc; simp only [Rep] at h; subst h; exact zu L w _
 case agg cs => subst hc; obtain ⟨a, rfl, h⟩ := h; exact h
 all_goals
  subst hc
  have hu : u.cells.toList = [u] := by
   first
    | (obtain ⟨_, _, _, rfl, _⟩ := h; rfl)
    | (obtain ⟨_, rfl, _⟩ := h; rfl)
    | (obtain ⟨_, _, rfl, _⟩ := h; rfl)
    | (obtain ⟨_, _, _, h1, _⟩ := h; subst h1; rfl)
  rw [hu]
  exact ⟨u, [], rfl, h, rfl⟩
def ug (op : BinOp) (k : IntKind) (a b : Int) : Option Value :=
 match op with
 | .add => some (.int k (k.wrap (a + b)))
 | .sub => some (.int k (k.wrap (a - b)))
 | .mul => some (.int k (k.wrap (a * b)))
 | .quo => if b = 0 then none else some (.int k (k.wrap (a.tdiv b)))
 | .rem => if b = 0 then none else some (.int k (a.tmod b))
 | .and => some (.int k (bits .and k a b))
 | .or => some (.int k (bits .or k a b))
 | .xor => some (.int k (bits .xor k a b))
 | .andNot => some (.int k (bits .andNot k a b))
 | .eql => some (.bool (a == b))
 | .neq => some (.bool (a != b))
 | .lss => some (.bool (decide (a < b)))
 | .leq => some (.bool (decide (a ≤ b)))
 | .gtr => some (.bool (decide (a > b)))
 | .geq => some (.bool (decide (a ≥ b)))
 | .shl | .shr => none
def acV (op : BinOp) (a b : ByteArray) : Option Value :=
 match op with
 | .add => if a.size + b.size ≤ 9223372036854775807 then some (.string (a ++ b)) else none
 | .eql => some (.bool (decide (a = b)))
 | .neq => some (.bool (!decide (a = b)))
 | .lss => some (.bool (Op.bytesLess a.toList b.toList))
 | .leq => some (.bool (Op.bytesLess a.toList b.toList || decide (a = b)))
 | .gtr => some (.bool (!(Op.bytesLess a.toList b.toList || decide (a = b))))
 | .geq => some (.bool (!Op.bytesLess a.toList b.toList))
 | _ => none
def BG : V → Option Bool
 | .c (.slice none _ _) => some true
 | .sl _ _ (_ :: _) => some false
 | .sl .nn _ [] => some false
 | _ => none
def jM (P : Program) (t : TypeId) : Bool := match P.underlying t with | some (.pointer e) => (P.info? e).isSome | _ => false
def xy : V → Option Bool
 | .c (.pointer p) => some p.isNone
 | .ref _ _ => some false
 | .el _ _ _ _ _ => some false
 | _ => none
inductive EqK where
 | n
 | b
 | s
def QA (P : Program) (f : Field) : Option (Nat × EqK) :=
 if f.name = "_" then none else
  match P.underlying f.type with
  | some (.int _) => some (f.offset, .n)
  | some .bool => some (f.offset, .b)
  | some .string => some (f.offset, .s)
  | _ => none
def qo (P : Program) (t : TypeId) : Option (List (Nat × EqK)) :=
 if P.stoodInHeld t = true ∨ P.eqGuardType P.depth t = true then none else
  match P.underlying t with
  | some (.struct fs) => fs.toList.mapM (QA P)
  | _ => none
def eqK (k : EqK) (x y : Option V) (z : Option Bool) : Option Bool :=
 match k, x, y with
 | .n, some (.c (.int k a)), some (.c (.int k' b)) => if k = k' then z.map fun z => (a == b) && z else none
 | .b, some (.c (.bool a)), some (.c (.bool b)) => z.map fun z => (a == b) && z
 | .s, some (.c (.string a)), some (.c (.string b)) => z.map fun z => decide (a = b) && z
 | _, _, _ => none
def eqL : List (Nat × EqK) → List V → List V → Option Bool
 | [], _, _ => some true
 | (o, k) :: r, xs, ys => eqK k xs[o]? ys[o]? (eqL r xs ys)
def ahp (P : Program) (op : BinOp) (t : TypeId) (x y : V) : Option V :=
 match op, x, y with
 | .eql, x, .c (.pointer none) => if jM P t = true then (xy x).map fun b => .c (.bool b) else none
 | .neq, x, .c (.pointer none) => if jM P t = true then (xy x).map fun b => .c (.bool (!b)) else none
 | .eql, .ref b o, .ref b' o' => if jM P t = true ∧ b = b' ∧ o = o' then some (.c (.bool true)) else none
 | .neq, .ref b o, .ref b' o' => if jM P t = true ∧ b = b' ∧ o = o' then some (.c (.bool false)) else none
 | .eql, .agg xs, .agg ys => (qo P t).bind fun pl => (eqL pl xs ys).map fun b => .c (.bool b)
 | .neq, .agg xs, .agg ys => (qo P t).bind fun pl => (eqL pl xs ys).map fun b => .c (.bool (!b))
 | _, _, _ => none
def eu (P : Program) (op : BinOp) (t : TypeId) (x y : V) : Option V :=
 match op, x, y with
 | .shl, .c (.int k a), .c (.int _ b) => if b < 0 then none else some (.c (.int k (k.wrap (a * 2 ^ min b.toNat k.bits))))
 | .shr, .c (.int k a), .c (.int _ b) => if b < 0 then none else some (.c (.int k (a.fdiv (2 ^ min b.toNat k.bits))))
 | op, .c (.int k a), .c (.int k' b) => if k = k' then (ug op k a b).map .c else none
 | op, .c (.string a), .c (.string b) => (acV op a b).map .c
 | .eql, .c (.bool a), .c (.bool b) => if nI P t then some (.c (.bool (a == b))) else none
 | .neq, .c (.bool a), .c (.bool b) => if nI P t then some (.c (.bool (!(a == b)))) else none
 | .eql, x, .c (.slice none 0 0) => if (elemT P t).isSome then (BG x).map fun b => .c (.bool b) else none
 | .neq, x, .c (.slice none 0 0) => if (elemT P t).isSome then (BG x).map fun b => .c (.bool (!b)) else none
 | op, x, y => ahp P op t x y
theorem Jd (a b : ByteArray) : (a.toList == b.toList) = decide (a = b) := by
 rw [Bool.eq_iff_iff]
 simp only [ByteArray.toList_eq, beq_iff_eq, decide_eq_true_eq]
 constructor
 ·intro h
  have := Array.ext' h
  cases a; cases b; simp_all
 ·intro h; rw [h]
section
variable {P : Program} {L : Lay} {w : World}
theorem Aw {x : V} {u : Value} {b : Bool} (h : BG x = some b) (r : Rep L w x u) : ∃ a n c, u = .slice a n c ∧ a.isNone = b := by
 unfold BG at h
 split at h
 ·simp only [Rep] at r; subst r; simp at h; exact ⟨_, _, _, rfl, by simp [← h]⟩
 ·rename_i t k y ys
  obtain ⟨a, cap, cells, rfl, h2, h3⟩ := r
  simp at h
  refine ⟨_, _, _, rfl, ?_⟩
  cases t with
  | fz =>
   obtain ⟨_, h3⟩ := h3
   simp at h3
   obtain ⟨g, o, rfl, _⟩ := h3
   simp [← h]
  | nn => simp [SlMem] at h3
  | own id e =>
   rcases h3 with ⟨h3, _⟩ | ⟨g, arr, _, rfl, _⟩
   ·simp at h3
   ·simp [← h]
 ·obtain ⟨a, cap, cells, rfl, h2, h3⟩ := r
  simp at h
  refine ⟨_, _, _, rfl, ?_⟩
  obtain ⟨_, h3⟩ := h3
  cases a with
  | none => cases h3
  | some _ => simp [← h]
 ·cases h
theorem WQ {op : BinOp} {k : IntKind} {a b : Int} {r : Value} (h : ug op k a b = some r) (t : TypeId) : (binOp op t (.int k a) (.int k b)).run P w = .ok r w := by
 cases op <;> simp only [ug, Option.some.injEq, reduceCtorEq, Option.ite_none_left_eq_some] at h
 case quo => obtain ⟨h0, h⟩ := h; subst h; simp [binOp, Op.intDiv, h0]
 case rem => obtain ⟨h0, h⟩ := h; subst h; simp [binOp, Op.intDiv, h0]
 all_goals
  subst h
  simp [binOp, Op.intArith, Op.intCmp, intBits_and, intBits_or, intBits_xor, intBits_andNot]
theorem WR {op : BinOp} {a b : ByteArray} {r : Value} (h : acV op a b = some r) (t : TypeId) : (binOp op t (.string a) (.string b)).run P w = .ok r w := by
 cases op <;> simp only [acV, Option.some.injEq, reduceCtorEq, Option.ite_none_right_eq_some] at h
 case add =>
  obtain ⟨h0, h⟩ := h
  subst h
  have : ¬ ((a.size + b.size : Nat) : Int) > IntKind.i64.max := by rw [IntKind.max_i64]; omega
  simp only [binOp, Op.stringOp]
  rw [if_neg this]; rfl
 all_goals
  subst h
  simp [binOp, Op.stringOp, Jd]
theorem gp (op : BinOp) (t : TypeId) (x y : Operand) (u v : Value) (h1 : u ≠ .nilIface) (h2 : ∀ a, u ≠ .agg a) : (eqGuard op t x y u v).run P w = .ok () w := by
 cases u <;> first | exact absurd rfl h1 | exact absurd rfl (h2 _) | (cases op <;> rfl)
theorem Cf (d : Nat) {t e : TypeId} (hu : P.underlying t = some (.slice e)) (a : Option Addr) (n c : Nat) : (Op.equalIn (d + 1) t (.slice a n c) (.slice none 0 0)).run P w = .ok a.isNone w := by
 cases a <;> simp [Op.equalIn, run_underlying hu]
theorem xA {t e : TypeId} (hu : P.underlying t = some (.slice e)) (a : Option Addr) (n c : Nat) : (Op.equal t (.slice a n c) (.slice none 0 0)).run P w = .ok a.isNone w := Cf 9999 hu a n c
theorem vJ {t : TypeId} (h : jM P t = true) : ∃ e j, P.underlying t = some (.pointer e) ∧ P.info? e = some j ∧ P.pointee t = e := by
 unfold jM at h
 split at h
 ·rename_i e hu
  obtain ⟨j, hj⟩ := Option.isSome_iff_exists.1 h
  exact ⟨e, j, hu, hj, by simp [Program.pointee, hu]⟩
 ·cases h
theorem xB {x : V} {u : Value} {b : Bool} (h : xy x = some b) (r : Rep L w x u) : ∃ p, u = .pointer p ∧ p.isNone = b := by
 unfold xy at h
 split at h
 ·simp only [Rep] at r; subst r; exact ⟨_, rfl, by simpa using h⟩
 ·obtain ⟨g, _, rfl⟩ := r; exact ⟨_, rfl, by simpa using h⟩
 ·obtain ⟨g, o, cells, rfl, _⟩ := r; exact ⟨_, rfl, by simpa using h⟩
 ·cases h
theorem Ci {t : TypeId} {pl : List (Nat × EqK)} (h : qo P t = some pl) : P.stoodInHeld t = false ∧ P.eqGuardType P.depth t = false ∧ P.underlying t = some (.struct (P.fieldsOf t)) ∧ (P.fieldsOf t).toList.mapM (QA P) = some pl := by
 unfold qo at h
 split at h
 ·cases h
 ·rename_i h0
  simp only [not_or, Bool.not_eq_true] at h0
  split at h
  ·rename_i fs hu
   have : P.fieldsOf t = fs := by simp [Program.fieldsOf, hu]
   rw [this]
   exact ⟨h0.1, h0.2, hu, h⟩
  ·cases h
theorem acW (d : Nat) {uxs uys : Array Value} {xs ys : List V} (rx : Reps L w xs uxs.toList) (ry : Reps L w ys uys.toList) : ∀ (fs : List Field) (pl : List (Nat × EqK)) (b : Bool), fs.mapM (QA P) = some pl → eqL pl xs ys = some b →
  (Op.eqFields (d + 1) uxs uys fs).run P w = .ok b w := by
 intro fs
 induction fs with
 | nil =>
  intro pl b h1 h2
  simp only [List.mapM_nil, pure, Option.some.injEq] at h1
  subst h1
  simp only [eqL, Option.some.injEq] at h2
  subst h2
  rfl
 | cons f fs ih =>
  intro pl b h1 h2
  rw [List.mapM_cons] at h1
  simp only [bind, Option.bind_eq_some_iff, pure, Option.some.injEq] at h1
  obtain ⟨⟨o, k⟩, h1, pl', h3, rfl⟩ := h1
  rw [eqL] at h2
  unfold QA at h1
  split at h1
  ·cases h1
  ·rename_i hn
   have step : ∀ (u v : Value) (r z : Bool), uxs[f.offset]? = some u → uys[f.offset]? = some v → mV P f.type = some false → (Op.equalIn (d + 1) f.type u v).run P w = .ok r w → eqL pl' xs ys = some z → (Op.eqFields (d + 1) uxs uys (f :: fs)).run P w = .ok (r && z) w := by
    intro u v r z hu hv ha hr hz
    have p1 : (part f.type uxs f.offset).run P w = .ok u w := by simp [part, pq ha, hu]
    have p2 : (part f.type uys f.offset).run P w = .ok v w := by simp [part, pq ha, hv]
    have := ih pl' z h3 hz
    simp only [Op.eqFields, hn, ne_eq, not_false_eq_true, if_true, Sem.run_bind, p1, p2, hr, Result.andThen_ok]
    cases r
    ·rfl
    ·simpa using this
   unfold eqK at h2
   split at h2
   ·rename_i k1 a k2 b' hx hy
    simp only [Option.ite_none_right_eq_some, Option.map_eq_some_iff] at h2
    obtain ⟨rfl, z, hz, rfl⟩ := h2
    split at h1
    ·rename_i q hq
     simp only [Option.some.injEq, Prod.mk.injEq] at h1
     obtain ⟨rfl, _⟩ := h1
     obtain ⟨u, hu, hru⟩ := rx.get hx
     obtain ⟨v, hv, hrv⟩ := ry.get hy
     simp only [Rep] at hru hrv
     subst hru; subst hrv
     exact step _ _ _ z (by simpa using hu) (by simpa using hv) (by simp [mV, hq]) (run_equalIn_int w d f.type k1 q a b' hq) hz
    all_goals simp at h1
   ·rename_i a b' hx hy
    simp only [Option.map_eq_some_iff] at h2
    obtain ⟨z, hz, rfl⟩ := h2
    split at h1
    ·simp at h1
    ·rename_i hq
     simp only [Option.some.injEq, Prod.mk.injEq] at h1
     obtain ⟨rfl, _⟩ := h1
     obtain ⟨u, hu, hru⟩ := rx.get hx
     obtain ⟨v, hv, hrv⟩ := ry.get hy
     simp only [Rep] at hru hrv
     subst hru; subst hrv
     exact step _ _ _ z (by simpa using hu) (by simpa using hv) (by simp [mV, hq]) (run_equalIn_bool w d f.type a b' hq) hz
    all_goals simp at h1
   ·rename_i a b' hx hy
    simp only [Option.map_eq_some_iff] at h2
    obtain ⟨z, hz, rfl⟩ := h2
    split at h1
    ·simp at h1
    ·simp at h1
    ·rename_i hq
     simp only [Option.some.injEq, Prod.mk.injEq] at h1
     obtain ⟨rfl, _⟩ := h1
     obtain ⟨u, hu, hru⟩ := rx.get hx
     obtain ⟨v, hv, hrv⟩ := ry.get hy
     simp only [Rep] at hru hrv
     subst hru; subst hrv
     refine step _ _ _ z (by simpa using hu) (by simpa using hv) (by simp [mV, hq]) ?_ hz
     rw [← Jd]
     exact run_equalIn_string w d f.type a b' hq
    all_goals simp at h1
   ·cases h2
theorem Fj {t : TypeId} {pl : List (Nat × EqK)} {xs ys : List V} {b : Bool} {uxs uys : Array Value} (h1 : qo P t = some pl) (h2 : eqL pl xs ys = some b) (rx : Reps L w xs uxs.toList) (ry : Reps L w ys uys.toList) :
  (Op.equal t (.agg uxs) (.agg uys)).run P w = .ok b w := by
 obtain ⟨g1, g2, g3, g4⟩ := Ci h1
 show (Op.equalIn (9999 + 1) t (.agg uxs) (.agg uys)).run P w = _
 rw [run_equalIn_struct w 9999 t uxs uys g3 g1]
 exact acW 9998 rx ry _ _ _ g4 h2
theorem Az {op : BinOp} {t : TypeId} (h : P.eqGuardType P.depth t = false) (x y : Operand) (u v : Array Value) : (eqGuard op t x y (.agg u) (.agg v)).run P w = .ok () w := by
 cases op <;> simp [eqGuard, h]
theorem WS {op : BinOp} {t : TypeId} {x y r : V} {ux uy : Value} (h : ahp P op t x y = some r) (rx : Rep L w x ux) (ry : Rep L w y uy) (ox oy : Operand) :
  ∃ u, (do eqGuard op t ox oy ux uy; binOp op t ux uy : Sem Value).run P w = .ok u w ∧ Rep L w r u := by
 unfold ahp at h
 split at h
 ·simp only [Rep] at ry; subst ry
  simp only [Option.ite_none_right_eq_some, Option.map_eq_some_iff] at h
  obtain ⟨h0, b, h1, rfl⟩ := h
  obtain ⟨p, rfl, hp⟩ := xB h1 rx
  obtain ⟨e, j, hu, hj, he⟩ := vJ h0
  refine ⟨.bool p.isNone, ?_, by rw [hp]; rfl⟩
  rw [Sem.run_bind, gp _ _ _ _ _ _ (by simp) (by simp)]
  exact run_eql_pointer_nil w t p (by rw [he]; exact hu)
 ·simp only [Rep] at ry; subst ry
  simp only [Option.ite_none_right_eq_some, Option.map_eq_some_iff] at h
  obtain ⟨h0, b, h1, rfl⟩ := h
  obtain ⟨p, rfl, hp⟩ := xB h1 rx
  obtain ⟨e, j, hu, hj, he⟩ := vJ h0
  refine ⟨.bool (!p.isNone), ?_, by rw [hp]; rfl⟩
  rw [Sem.run_bind, gp _ _ _ _ _ _ (by simp) (by simp)]
  exact run_neq_pointer_nil w t p (by rw [he]; exact hu)
 ·simp only [Option.ite_none_right_eq_some, Option.some.injEq] at h
  obtain ⟨⟨h0, rfl, rfl⟩, rfl⟩ := h
  obtain ⟨g, hg, rfl⟩ := rx
  obtain ⟨g', hg', rfl⟩ := ry
  rw [hg] at hg'
  simp only [Option.some.injEq] at hg'
  subst hg'
  obtain ⟨e, j, hu, hj, he⟩ := vJ h0
  refine ⟨.bool true, ?_, rfl⟩
  rw [Sem.run_bind, gp _ _ _ _ _ _ (by simp) (by simp)]
  exact run_eql_ptr_same w _ hu hj
 ·simp only [Option.ite_none_right_eq_some, Option.some.injEq] at h
  obtain ⟨⟨h0, rfl, rfl⟩, rfl⟩ := h
  obtain ⟨g, hg, rfl⟩ := rx
  obtain ⟨g', hg', rfl⟩ := ry
  rw [hg] at hg'
  simp only [Option.some.injEq] at hg'
  subst hg'
  obtain ⟨e, j, hu, hj, he⟩ := vJ h0
  refine ⟨.bool false, ?_, rfl⟩
  rw [Sem.run_bind, gp _ _ _ _ _ _ (by simp) (by simp)]
  exact Lib.run_neq_ptr_same w _ hu hj
 ·simp only [Option.bind_eq_some_iff, Option.map_eq_some_iff] at h
  obtain ⟨pl, h1, b, h2, rfl⟩ := h
  obtain ⟨u, rfl, ru⟩ := rx
  obtain ⟨v, rfl, rv⟩ := ry
  refine ⟨.bool b, ?_, rfl⟩
  rw [Sem.run_bind, Az (Ci h1).2.1]
  have := Fj h1 h2 ru rv
  simp only [binOp, Result.andThen_ok, Sem.run_bind, this, Sem.run_pure]
 ·simp only [Option.bind_eq_some_iff, Option.map_eq_some_iff] at h
  obtain ⟨pl, h1, b, h2, rfl⟩ := h
  obtain ⟨u, rfl, ru⟩ := rx
  obtain ⟨v, rfl, rv⟩ := ry
  refine ⟨.bool (!b), ?_, rfl⟩
  rw [Sem.run_bind, Az (Ci h1).2.1]
  have := Fj h1 h2 ru rv
  simp only [binOp, Result.andThen_ok, Sem.run_bind, this, Sem.run_pure]
 ·cases h
theorem WT {op : BinOp} {t : TypeId} {x y r : V} {ux uy : Value} (h : eu P op t x y = some r) (rx : Rep L w x ux) (ry : Rep L w y uy) (ox oy : Operand) :
  ∃ u, (do eqGuard op t ox oy ux uy; binOp op t ux uy : Sem Value).run P w = .ok u w ∧ Rep L w r u := by
 unfold eu at h
 split at h
 ·simp only [Rep] at rx ry; subst rx; subst ry
  simp only [Option.ite_none_left_eq_some, Option.some.injEq] at h
  obtain ⟨h0, rfl⟩ := h
  refine ⟨_, ?_, rfl⟩
  rw [Sem.run_bind, gp _ _ _ _ _ _ (by simp) (by simp)]
  simp [binOp, Op.shift, h0]
 ·simp only [Rep] at rx ry; subst rx; subst ry
  simp only [Option.ite_none_left_eq_some, Option.some.injEq] at h
  obtain ⟨h0, rfl⟩ := h
  refine ⟨_, ?_, rfl⟩
  rw [Sem.run_bind, gp _ _ _ _ _ _ (by simp) (by simp)]
  simp [binOp, Op.shift, h0]
 ·simp only [Rep] at rx ry; subst rx; subst ry
  simp only [Option.ite_none_right_eq_some, Option.map_eq_some_iff] at h
  obtain ⟨rfl, v, h1, rfl⟩ := h
  exact ⟨v, by rw [Sem.run_bind, gp _ _ _ _ _ _ (by simp) (by simp)]; exact WQ h1 t, rfl⟩
 ·simp only [Rep] at rx ry; subst rx; subst ry
  simp only [Option.map_eq_some_iff] at h
  obtain ⟨v, h1, rfl⟩ := h
  exact ⟨v, by rw [Sem.run_bind, gp _ _ _ _ _ _ (by simp) (by simp)]; exact WR h1 t, rfl⟩
 ·simp only [Rep] at rx ry; subst rx; subst ry
  simp only [Option.ite_none_right_eq_some, Option.some.injEq] at h
  obtain ⟨h0, rfl⟩ := h
  exact ⟨_, by rw [Sem.run_bind, gp _ _ _ _ _ _ (by simp) (by simp)]; exact run_eql_bool w t _ _ (Au h0), rfl⟩
 ·simp only [Rep] at rx ry; subst rx; subst ry
  simp only [Option.ite_none_right_eq_some, Option.some.injEq] at h
  obtain ⟨h0, rfl⟩ := h
  exact ⟨_, by rw [Sem.run_bind, gp _ _ _ _ _ _ (by simp) (by simp)]; exact run_neq_bool w t _ _ (Au h0), rfl⟩
 ·simp only [Rep] at ry; subst ry
  simp only [Option.ite_none_right_eq_some, Option.map_eq_some_iff] at h
  obtain ⟨h0, b, h1, rfl⟩ := h
  obtain ⟨a, n, c, rfl, h2⟩ := Aw h1 rx
  obtain ⟨e, he⟩ := Option.isSome_iff_exists.1 h0
  have hu := dY he
  refine ⟨.bool a.isNone, ?_, by rw [h2]; rfl⟩
  rw [Sem.run_bind, gp _ _ _ _ _ _ (by simp) (by simp)]
  simp only [binOp]
  simp [xA hu]
 ·simp only [Rep] at ry; subst ry
  simp only [Option.ite_none_right_eq_some, Option.map_eq_some_iff] at h
  obtain ⟨h0, b, h1, rfl⟩ := h
  obtain ⟨a, n, c, rfl, h2⟩ := Aw h1 rx
  obtain ⟨e, he⟩ := Option.isSome_iff_exists.1 h0
  have hu := dY he
  refine ⟨.bool (!a.isNone), ?_, by rw [h2]; rfl⟩
  rw [Sem.run_bind, gp _ _ _ _ _ _ (by simp) (by simp)]
  simp only [binOp]
  simp [xA hu]
 ·exact WS h rx ry ox oy
end
end Go.Pg
end
section
namespace Go.Pg
open Go
def u8s : List V → Option (List Int)
 | [] => some []
 | .c (.int .u8 n) :: r => (u8s r).map (n :: ·)
 | _ => none
def unV (op : UnOp) (x : V) : Option V :=
 match op, x with
 | .neg, .c (.int k n) => some (.c (.int k (k.wrap (0 - n))))
 | .xor, .c (.int k n) => some (.c (.int k (bits .xor k (if k.signed then -1 else k.max) n)))
 | .not, .c (.bool b) => some (.c (.bool (!b)))
 | _, _ => none
def mM (P : Program) (src dst : TypeId) (x : V) : Option V :=
 match rY P dst, x with
 | some k, .c (.int _ n) => if (P.underlying src).isSome then some (.c (.int k (k.wrap n))) else none
 | _, .c (.string z) => if (P.underlying src).isSome && ji P dst then some (.c (.string z)) else none
 | _, .c (.slice none _ _) => if ((elemT P src).bind (rY P)) = some .u8 && ji P dst then some (.c (.string .empty)) else none
 | _, .sl _ k xs => if ((elemT P src).bind (rY P)) = some .u8 && ji P dst && k == 1 then (u8s xs).map fun ns => .c (.string (strOfNums ns)) else none
 | _, _ => none
def tZ (b : Bool) (x y : V) : V :=
 match x, y with
 | .c (.bool p), .c (.bool q) => .c (.bool (bif b then p else q))
 | x, y => bif b then x else y
def eH (P : Program) (t : TypeId) (cs : List V) (off : Nat) : Option V :=
 match mV P t with
 | some true => (tsz P t).bind fun n => if off + n ≤ cs.length then some (.agg ((cs.drop off).take n)) else none
 | some false => cs[off]?
 | none => none
def iaV (P : Program) (t : TypeId) (x i : V) : Option V :=
 match x, i with
 | .sl tg k xs, .c (.int _ n) => if (elemT P t).bind (tsz P) = some k ∧ 0 ≤ n ∧ n < xs.length then some (.el tg k xs n.toNat 0) else none
 | .ref b off, .c (.int _ n) => (jD P t).bind fun (len, e) => (tsz P e).bind fun k => if 0 ≤ n ∧ n < len then some (.ref b (off + n.toNat * k)) else none
 | _, _ => none
def faV (P : Program) (t : TypeId) (x : V) (f : Nat) : Option V :=
 (mW P t f).bind fun (ft, n) => (tsz P ft).bind fun k => if k = 0 then none else
  match x with
  | .ref b off => some (.ref b (off + n))
  | .el tg j xs i off => some (.el tg j xs i (off + n))
  | _ => none
def zx (P : Program) (t : TypeId) (x : V) (f : Nat) : Option V :=
 match x with
 | .agg cs => (mW P t f).bind fun (ft, n) => eH P ft cs n
 | _ => none
def ixV (P : Program) (t : TypeId) (x i : V) : Option V :=
 match x, i with
 | .c (.string z), .c (.int _ n) => if ji P t = true ∧ 0 ≤ n ∧ n < z.size then some (.c (.int .u8 ((z.data.toList.getD n.toNat 0).toNat))) else none
 | .agg cs, .c (.int _ n) => (jD P t).bind fun (len, e) => (tsz P e).bind fun k => if 0 ≤ n ∧ n < len then eH P e cs (n.toNat * k) else none
 | _, _ => none
def bdV (x : Option V) (d : Nat) : Option Int :=
 match x with
 | none => some d
 | some (.c (.int _ n)) => some n
 | _ => none
def slV (P : Program) (t : TypeId) (x : V) (lo hi : Option V) : Option V :=
 match x with
 | .c (.string z) => (bdV lo 0).bind fun l => (bdV hi z.size).bind fun h => if ji P t = true ∧ 0 ≤ l ∧ l ≤ h ∧ h ≤ z.size then some (.c (.string (z.extract l.toNat h.toNat))) else none
 | .sl .fz k xs => (bdV lo 0).bind fun l => (bdV hi xs.length).bind fun h => if (elemT P t).bind (tsz P) = some k ∧ 0 ≤ l ∧ l ≤ h ∧ h ≤ xs.length then some (.sl .fz k ((xs.take h.toNat).drop l.toNat)) else none
 | .c (.slice none 0 0) => (bdV lo 0).bind fun l => (bdV hi 0).bind fun h => if ((elemT P t).bind (tsz P)).isSome ∧ l = 0 ∧ h = 0 then some (.c (.slice none 0 0)) else none
 | _ => none
def Je (P : Program) (t : TypeId) (x : V) : Option V :=
 match x with
 | .c (.string z) => if ji P t then some (.c (.int .i64 z.size)) else none
 | .c (.slice none n _) => if (elemT P t).isSome then some (.c (.int .i64 n)) else none
 | .sl _ _ xs => if (elemT P t).isSome then some (.c (.int .i64 xs.length)) else none
 | _ => none
def qx (mx : Bool) (x y : V) : Option V :=
 match x, y with
 | .c (.int k a), .c (.int _ b) => some (.c (.int k (if mx then (if b > a then b else a) else (if b < a then b else a))))
 | _, _ => none
def xC (P : Program) (t : TypeId) : Option (List (Nat × Nat)) :=
 match P.underlying t with
 | some (.struct fs) => fs.toList.mapM fun f => (tsz P f.type).map fun n => (f.offset, n)
 | some (.array n e) => (tsz P e).map fun k => (List.range n).map fun i => (i * k, k)
 | _ => none
def ut (places : List (Nat × Nat)) (cells : List V) : List (Nat × V) → Option (List V)
 | [] => some cells
 | (i, v) :: rest =>
  match places[i]?, v.cs with
  | some (off, size), some l => if l.length = size ∧ off + l.length ≤ cells.length then ut places (cells.take off ++ l ++ cells.drop (off + l.length)) rest else none
  | _, _ => none
def wM (P : Program) (t : TypeId) (parts : List (Nat × V)) : Option V :=
 (tY P t).bind fun z => (xC P t).bind fun ps => (ut ps (z.cells.toList.map .c) parts).map .agg
section
variable {P : Program} {L : Lay} {w : World}
theorem Row.cell {g o j : Nat} {cells : List Value} {v : Value} (h : Row w g o cells) (hj : cells[j]? = some v) : w.cell? ⟨g, o + j, none⟩ = some v := by
 obtain ⟨arr, e, fr, h1, h2⟩ := h
 rw [cell_of_row w g (o + j) arr e fr h1]
 rw [← h2, List.getElem?_take] at hj
 split at hj
 ·simpa [List.getElem?_drop] using hj
 ·cases hj
theorem ElMem.row {t : Tag} {g o : Nat} {cells : List Value} (h : ElMem L w t g o cells) : Row w g o cells := by
 cases t with
 | fz => exact h.2
 | nn => exact h.elim
 | own id e => obtain ⟨_, rfl, arr, h3, h4⟩ := h; exact ⟨arr, e, _, h3, by simpa using h4⟩
theorem SlMem.el {t : Tag} {k : Nat} {a : Option Addr} {len cap : Nat} {cells : List Value} (h : SlMem L w t k a len cap cells) (h0 : 0 < len) (hc : cells.length = len * k) :
  ∃ g o, a = some ⟨g, o, none⟩ ∧ ElMem L w t g o cells := by
 cases t with
 | fz =>
  obtain ⟨_, h | ⟨g, o, h1, h2, h3⟩⟩ := h
  ·omega
  ·exact ⟨g, o, h1, h2, h3⟩
 | nn => have := h.1; omega
 | own id e =>
  rcases h with ⟨h, _⟩ | ⟨g, arr, h1, h2, h3, h4, h5, h6, h7⟩
  ·omega
  ·exact ⟨g, 0, h2, h1, rfl, arr, h3, by rw [hc]; exact h7⟩
theorem SlMem.le {t : Tag} {k : Nat} {a : Option Addr} {len cap : Nat} {cells : List Value} (h : SlMem L w t k a len cap cells) : len ≤ cap := by
 cases t with
 | fz => exact h.1
 | nn => have := h.1; omega
 | own id e => rcases h with ⟨h, _, _⟩ | ⟨g, arr, h1, h2, h3, h4, _⟩ <;> omega
theorem kU (g o n : Nat) : (⟨g, o, none⟩ : Addr).add n = ⟨g, o + n, none⟩ := Addr.add_lit g o n
theorem AA {t : TypeId} {cs : List V} {off g o : Nat} {r : V} {us : List Value} (h : eH P t cs off = some r) (hr : Reps L w cs us) (hw : Row w g o us) :
  ∃ u, (loadVar t ⟨g, o + off, none⟩).run P w = .ok u w ∧ Rep L w r u := by
 unfold eH at h
 split at h
 ·rename_i ha
  simp only [Option.bind_eq_some_iff, Option.ite_none_right_eq_some, Option.some.injEq] at h
  obtain ⟨n, hn, hle, rfl⟩ := h
  have hl := hr.length
  have hr' := (hr.drop off).take n
  have hlen : ((us.drop off).take n).length = n := by simp; omega
  have hc : ∀ j v, ((us.drop off).take n)[j]? = some v → w.cell? ((⟨g, o + off, none⟩ : Addr).add j) = some v := by
   intro j v hj
   rw [kU, Nat.add_assoc]
   refine hw.cell ?_
   rw [List.getElem?_take] at hj
   split at hj
   ·simpa [List.getElem?_drop] using hj
   ·cases hj
  refine ⟨.agg ((us.drop off).take n).toArray, ?_, _, rfl, by simpa using hr'⟩
  have := run_loadCells_list (P := P) w ⟨g, o + off, none⟩ _ hc
  rw [hlen] at this
  simp [loadVar, pq ha, jE hn, this]
 ·rename_i ha
  obtain ⟨u, hu, hru⟩ := hr.get h
  refine ⟨u, ?_, hru⟩
  simp [loadVar, pq ha, hw.cell hu]
 ·cases h
theorem Jf {t : TypeId} {cs : List V} {off : Nat} {r : V} {us : Array Value} (h : eH P t cs off = some r) (hr : Reps L w cs us.toList) :
  ∃ u, (part t us off).run P w = .ok u w ∧ Rep L w r u := by
 unfold eH at h
 split at h
 ·rename_i ha
  simp only [Option.bind_eq_some_iff, Option.ite_none_right_eq_some, Option.some.injEq] at h
  obtain ⟨n, hn, hle, rfl⟩ := h
  have hr' := (hr.drop off).take n
  refine ⟨.agg (us.extract off (off + n)), by simp [part, pq ha, jE hn], _, rfl, ?_⟩
  rw [Array.toList_extract]
  simpa [List.extract_eq_take_drop] using hr'
 ·rename_i ha
  obtain ⟨u, hu, hru⟩ := hr.get h
  refine ⟨u, ?_, hru⟩
  simp at hu
  simp [part, pq ha, hu]
 ·cases h
theorem Ti {xs : List V} {ns : List Int} {cells : List Value} (h : u8s xs = some ns) (r : RepE L w 1 xs cells) : cells = ns.map (Value.int .u8) := by
 induction xs generalizing ns cells with
 | nil => simp [u8s] at h; subst h; simpa [RepE] using r
 | cons x xs ih =>
  unfold u8s at h
  split at h
  ·rename_i heq; cases heq
  ·rename_i n r' heq
   simp only [List.cons.injEq] at heq
   obtain ⟨rfl, rfl⟩ := heq
   simp only [Option.map_eq_some_iff] at h
   obtain ⟨ns', h1, rfl⟩ := h
   obtain ⟨u, rest, rfl, _, _, h4, h5⟩ := r
   simp only [Rep] at h4
   subst h4
   rw [ih h1 h5]
   rfl
  ·cases h
theorem acX {op : UnOp} {x r : V} {u : Value} (h : unV op x = some r) (rx : Rep L w x u) : ∃ v, (Op.unary op u).run P w = .ok v w ∧ Rep L w r v := by
 unfold unV at h
 split at h
 ·simp only [Rep] at rx; subst rx; simp at h; subst h; exact ⟨_, by simp [Op.unary, Op.intArith]; rfl, by simp [Rep]⟩
 ·simp only [Rep] at rx; subst rx; simp only [Option.some.injEq] at h; subst h; exact ⟨_, rfl, rfl⟩
 ·simp only [Rep] at rx; subst rx; simp at h; subst h; exact ⟨_, rfl, rfl⟩
 ·cases h
theorem Tj {src dst : TypeId} {x r : V} {u : Value} (h : mM P src dst x = some r) (rx : Rep L w x u) : ∃ v, (convert src dst u).run P w = .ok v w ∧ Rep L w r v := by
 unfold mM at h
 split at h
 ·rename_i k k' n hk
  simp only [Option.ite_none_right_eq_some, Option.some.injEq] at h
  obtain ⟨h0, rfl⟩ := h
  obtain ⟨d, hd⟩ := Option.isSome_iff_exists.1 h0
  simp only [Rep] at rx; subst rx
  exact ⟨_, by simp [convert, run_underlying hd, run_underlying (qY hk), Conv.intToInt], rfl⟩
 ·rename_i z hk
  simp only [Option.ite_none_right_eq_some, Bool.and_eq_true, Option.some.injEq] at h
  obtain ⟨⟨h0, h1⟩, rfl⟩ := h
  obtain ⟨d, hd⟩ := Option.isSome_iff_exists.1 h0
  simp only [Rep] at rx; subst rx
  exact ⟨_, by simp [convert, run_underlying hd, run_underlying (kS h1)], rfl⟩
 ·simp only [Option.ite_none_right_eq_some, Bool.and_eq_true, decide_eq_true_eq, Option.bind_eq_some_iff, Option.some.injEq] at h
  obtain ⟨⟨⟨e, he, hk⟩, h1⟩, rfl⟩ := h
  simp only [Rep] at rx; subst rx
  exact ⟨_, run_convert_bytes_nil w src e (dY he) (qY hk) _ _ dst (kS h1), rfl⟩
 ·rename_i t k xs
  simp only [Option.ite_none_right_eq_some, Bool.and_eq_true, decide_eq_true_eq, Option.bind_eq_some_iff, Option.map_eq_some_iff, beq_iff_eq] at h
  obtain ⟨⟨⟨⟨e, he, hk⟩, h1⟩, rfl⟩, ns, hns, rfl⟩ := h
  obtain ⟨a, cap, cells, rfl, h2, h3⟩ := rx
  have hcl := h2.length
  have hce := Ti hns h2
  subst hce
  simp only [List.length_map, Nat.mul_one] at hcl
  rcases Nat.eq_zero_or_pos xs.length with h0 | h0
  ·have hnn : ns = [] := List.eq_nil_of_length_eq_zero (by omega)
   subst hnn
   refine ⟨.string .empty, ?_, ?_⟩
   ·rw [h0, run_convert_bytes_string w src dst e a 0 cap (dY he) (qY hk) (kS h1)]
    cases a <;> simp [Conv.bytesToString, loadCells, loadCellsFrom]
   ·simp only [Rep]; rfl
  ·obtain ⟨g, o, rfl, h4⟩ := h3.el h0 (by simpa using hcl)
   refine ⟨_, run_convert_bytes_arg w src e (dY he) (qY hk) g o _ cap ns hcl ?_ dst (kS h1), rfl⟩
   intro i hi
   refine h4.row.cell ?_
   simp [List.getElem?_eq_getElem (show i < ns.length by omega), List.getD]
 ·cases h
theorem Tm {b : Bool} {x y : V} {ux uy : Value} (rx : Rep L w x ux) (ry : Rep L w y uy) : Rep L w (tZ b x y) (if b then ux else uy) := by
 unfold tZ
 split
 ·simp only [Rep] at rx ry; subst rx; subst ry; cases b <;> simp [Rep]
 ·cases b <;> simpa
theorem acY {t : TypeId} {x i r : V} {ux ui : Value} (h : iaV P t x i = some r) (rx : Rep L w x ux) (ri : Rep L w i ui) : ∃ v, (Instr.indexAt t ux ui).run P w = .ok v w ∧ Rep L w r v := by
 unfold iaV at h
 split at h
 ·rename_i tg k xs ik n
  simp only [Option.ite_none_right_eq_some, Option.bind_eq_some_iff, Option.some.injEq] at h
  obtain ⟨⟨⟨e, he, hk⟩, h0, h1⟩, rfl⟩ := h
  simp only [Rep] at ri; subst ri
  obtain ⟨a, cap, cells, rfl, h2, h3⟩ := rx
  obtain ⟨g, o, rfl, h4⟩ := h3.el (by omega) h2.length
  have hu := dY he
  refine ⟨.pointer (some ⟨g, o + n.toNat * k, none⟩), ?_, g, o, cells, by simp, h2, h4⟩
  simp [Instr.indexAt, asIntOf, run_underlying hu, h0, h1, jE hk, kU]
 ·rename_i b off ik n
  simp only [Option.bind_eq_some_iff, Option.ite_none_right_eq_some, Option.some.injEq, Prod.exists] at h
  obtain ⟨len, e, he, k, hk, ⟨h0, h1⟩, rfl⟩ := h
  simp only [Rep] at ri; subst ri
  obtain ⟨g, hb, rfl⟩ := rx
  have hu := wK he
  refine ⟨.pointer (some ⟨g, off + n.toNat * k, none⟩), ?_, g, hb, rfl⟩
  simp [Instr.indexAt, asIntOf, run_underlying hu, Instr.sureAddr, h0, h1, jE hk, kU]
 ·cases h
theorem acZ {t : TypeId} {f : Nat} {x r : V} {ux : Value} (h : faV P t x f = some r) (rx : Rep L w x ux) : ∃ v, (Instr.fieldAt t ux f).run P w = .ok v w ∧ Rep L w r v := by
 simp only [faV, Option.bind_eq_some_iff, Prod.exists, Option.ite_none_left_eq_some] at h
 obtain ⟨ft, n, hf, k, hk, hk0, h⟩ := h
 obtain ⟨fs, fd, hu, hfd, h1, h2⟩ := Ce hf
 subst h1 h2
 split at h
 ·rename_i b off
  simp only [Option.some.injEq] at h; subst h
  obtain ⟨g, hb, rfl⟩ := rx
  refine ⟨.pointer (some ⟨g, off + fd.offset, none⟩), ?_, g, hb, rfl⟩
  simp [Instr.fieldAt, run_underlying hu, hfd, Instr.sureAddr, fieldPlace, jE hk, hk0, kU]
 ·rename_i tg j xs i off
  simp only [Option.some.injEq] at h; subst h
  obtain ⟨g, o, cells, rfl, h3, h4⟩ := rx
  refine ⟨.pointer (some ⟨g, o + i * j + (off + fd.offset), none⟩), ?_, g, o, cells, rfl, h3, h4⟩
  simp [Instr.fieldAt, run_underlying hu, hfd, Instr.sureAddr, fieldPlace, jE hk, hk0, kU, Nat.add_assoc]
 ·cases h
theorem MW {t : TypeId} {f : Nat} {x r : V} {ux : Value} (h : zx P t x f = some r) (rx : Rep L w x ux) : ∃ v, (Instr.field t ux f).run P w = .ok v w ∧ Rep L w r v := by
 unfold zx at h
 split at h
 ·simp only [Option.bind_eq_some_iff, Prod.exists] at h
  obtain ⟨ft, n, hf, h⟩ := h
  obtain ⟨fs, fd, hu, hfd, h1, h2⟩ := Ce hf
  subst h1 h2
  obtain ⟨a, rfl, ra⟩ := rx
  obtain ⟨u, h3, h4⟩ := Jf h ra
  exact ⟨u, by simp [Instr.field, run_underlying hu, hfd, asAgg, h3], h4⟩
 ·cases h
theorem ac0 {t : TypeId} {x i r : V} {ux ui : Value} (h : ixV P t x i = some r) (rx : Rep L w x ux) (ri : Rep L w i ui) : ∃ v, (Instr.index t ux ui).run P w = .ok v w ∧ Rep L w r v := by
 unfold ixV at h
 split at h
 ·rename_i z ik n
  simp only [Option.ite_none_right_eq_some, Option.some.injEq] at h
  obtain ⟨⟨h0, h1, h2⟩, rfl⟩ := h
  simp only [Rep] at ri rx; subst ri; subst rx
  have hlt : n.toNat < z.size := by omega
  have hg : z[n.toNat]? = some z[n.toNat] := getElem?_pos z n.toNat hlt
  have hd : z.data.toList.getD n.toNat 0 = z[n.toNat] := by
   have : n.toNat < z.data.toList.length := by simpa using hlt
   simp [List.getD, List.getElem?_eq_getElem this]; rfl
  refine ⟨.int .u8 (z[n.toNat]).toNat, ?_, by rw [hd]; rfl⟩
  simp [Instr.index, asIntOf, run_underlying (kS h0), h1, hg]
 ·rename_i cs ik n
  simp only [Option.bind_eq_some_iff, Prod.exists, Option.ite_none_right_eq_some] at h
  obtain ⟨len, e, he, k, hk, ⟨h0, h1⟩, h⟩ := h
  simp only [Rep] at ri; subst ri
  obtain ⟨a, rfl, ra⟩ := rx
  obtain ⟨u, h3, h4⟩ := Jf h ra
  exact ⟨u, by simp [Instr.index, asIntOf, run_underlying (wK he), h0, h1, jE hk, h3], h4⟩
 ·cases h
theorem WU {t ty : TypeId} {x r : V} {ux : Value} (h : Je P t x = some r) (rx : Rep L w x ux) : ∃ v, (Builtin.len_ #[t] ty #[ux]).run P w = .ok v w ∧ Rep L w r v := by
 unfold Je at h
 split at h
 ·simp only [Option.ite_none_right_eq_some, Option.some.injEq] at h
  obtain ⟨h0, rfl⟩ := h
  simp only [Rep] at rx; subst rx
  exact ⟨_, by simp [Builtin.len_, run_underlying (kS h0), goInt], rfl⟩
 ·simp only [Option.ite_none_right_eq_some, Option.some.injEq] at h
  obtain ⟨h0, rfl⟩ := h
  obtain ⟨e, he⟩ := Option.isSome_iff_exists.1 h0
  simp only [Rep] at rx; subst rx
  exact ⟨_, by simp [Builtin.len_, run_underlying (dY he), goInt], rfl⟩
 ·simp only [Option.ite_none_right_eq_some, Option.some.injEq] at h
  obtain ⟨h0, rfl⟩ := h
  obtain ⟨e, he⟩ := Option.isSome_iff_exists.1 h0
  obtain ⟨a, cap, cells, rfl, h2, h3⟩ := rx
  exact ⟨_, by simp [Builtin.len_, run_underlying (dY he), goInt], rfl⟩
 ·cases h
theorem qy {x : Option V} {ux : Option Value} {d : Nat} {n : Int} (h : bdV x d = some n) (hx : x = none ∧ ux = none ∨ ∃ v u, x = some v ∧ ux = some u ∧ Rep L w v u) :
  (ux = none ∧ n = d) ∨ ∃ k, ux = some (.int k n) := by
 rcases hx with ⟨rfl, rfl⟩ | ⟨v, u, rfl, rfl, hr⟩
 ·simp [bdV] at h; exact .inl ⟨rfl, h.symm⟩
 ·unfold bdV at h
  split at h
  ·rename_i heq; cases heq
  ·rename_i k n' heq
   simp only [Option.some.injEq] at heq h
   subst heq; subst h
   simp only [Rep] at hr
   exact .inr ⟨k, by rw [hr]⟩
  ·cases h
theorem rZ {isS : Bool} {len cap : Nat} {lo hi : Option Value} {l h : Int} (hlc : len ≤ cap) (hl : (lo = none ∧ l = (0 : Nat)) ∨ ∃ k, lo = some (.int k l)) (hh : (hi = none ∧ h = len) ∨ ∃ k, hi = some (.int k h))
  (h0 : 0 ≤ l) (h1 : l ≤ h) (h2 : h ≤ len) : (Instr.sliceBounds isS len cap lo hi none).run P w = .ok (l.toNat, h.toNat, cap) w := by
 have e : (h.toNat : Int) = h := by omega
 have h3 : 0 ≤ h := by omega
 have h4 : h ≤ cap := by omega
 rcases hl with ⟨rfl, rfl⟩ | ⟨k, rfl⟩ <;> rcases hh with ⟨rfl, rfl⟩ | ⟨k', rfl⟩ <;>
  simp [Instr.sliceBounds, Instr.sliceBound, asIntOf, *]
theorem QB {t : TypeId} {x r : V} {ux : Value} {lo hi : Option V} {ul uh : Option Value} (h : slV P t x lo hi = some r) (rx : Rep L w x ux)
  (rl : lo = none ∧ ul = none ∨ ∃ v u, lo = some v ∧ ul = some u ∧ Rep L w v u) (rh : hi = none ∧ uh = none ∨ ∃ v u, hi = some v ∧ uh = some u ∧ Rep L w v u) :
  ∃ v, (Instr.sliceAt t ux ul uh none).run P w = .ok v w ∧ Rep L w r v := by
 unfold slV at h
 split at h
 ·rename_i z
  simp only [Option.bind_eq_some_iff, Option.ite_none_right_eq_some, Option.some.injEq] at h
  obtain ⟨l, hl, h', hh, ⟨hs, h0, h1, h2⟩, rfl⟩ := h
  simp only [Rep] at rx; subst rx
  have hb := rZ (P := P) (w := w) (isS := false) (Nat.le_refl _) (qy hl rl) (qy hh rh) h0 h1 h2
  exact ⟨_, by simp [Instr.sliceAt, Instr.slice, run_underlying (kS hs), hb], rfl⟩
 ·rename_i k xs
  simp only [Option.bind_eq_some_iff, Option.ite_none_right_eq_some, Option.some.injEq] at h
  obtain ⟨l, hl, h', hh, ⟨⟨e, he, hk⟩, h0, h1, h2⟩, rfl⟩ := h
  obtain ⟨a, cap, cells, rfl, h3, h4⟩ := rx
  have hle := h4.le
  have hb := rZ (P := P) (w := w) (isS := true) hle (qy hl rl) (qy hh rh) h0 h1 h2
  refine ⟨.slice (if cap = l.toNat then a else a.map (·.add (l.toNat * k))) (h'.toNat - l.toNat) (cap - l.toNat), ?_, ?_⟩
  ·simp [Instr.sliceAt, Instr.slice, run_underlying (dY he), hb, jE hk]
  ·have hlen : ((xs.take h'.toNat).drop l.toNat).length = h'.toNat - l.toNat := by simp; omega
   refine ⟨_, _, (cells.take (h'.toNat * k)).drop (l.toNat * k), by rw [hlen], (h3.take _).drop _, ?_⟩
   rw [hlen]
   refine ⟨by omega, ?_⟩
   rcases Nat.eq_zero_or_pos (h'.toNat - l.toNat) with hz | hz
   ·exact .inl hz
   ·right
    obtain ⟨g, o, rfl, hA, arr, ea, fr, h5, h6⟩ := h4.el (by omega) h3.length
    refine ⟨g, o + l.toNat * k, ?_, hA, arr, ea, fr, h5, ?_⟩
    ·rw [if_neg (by omega)]; simp [kU]
    ·rw [← h6]
     have hcl : cells.length = xs.length * k := h3.length
     simp only [← List.drop_drop]
     have : (((arr.toList.drop o).take cells.length).take (h'.toNat * k)) = (arr.toList.drop o).take (h'.toNat * k) := by
      rw [List.take_take, Nat.min_eq_left]
      rw [hcl]; exact Nat.mul_le_mul_right _ (by omega)
     rw [this, List.drop_take]
     simp only [List.length_take, List.length_drop]
     congr 1
     have h8 : cells.length ≤ arr.toList.length - o := by
      have := congrArg List.length h6
      simp only [List.length_take, List.length_drop] at this
      omega
     have h9 : h'.toNat * k ≤ xs.length * k := Nat.mul_le_mul_right _ (by omega)
     omega
 ·simp only [Option.bind_eq_some_iff, Option.ite_none_right_eq_some, Option.some.injEq] at h
  obtain ⟨l, hl, h', hh, ⟨hs, rfl, rfl⟩, rfl⟩ := h
  simp only [Rep] at rx; subst rx
  obtain ⟨k, hk⟩ := Option.isSome_iff_exists.1 hs
  simp only [Option.bind_eq_some_iff] at hk
  obtain ⟨e, he, hk⟩ := hk
  have hb := rZ (P := P) (w := w) (isS := true) (len := 0) (cap := 0) (Nat.le_refl _) (qy hl rl) (qy hh rh) (by decide) (by decide) (by decide)
  exact ⟨_, by simp [Instr.sliceAt, Instr.slice, run_underlying (dY he), hb, jE hk], rfl⟩
 ·cases h
theorem WV {t : TypeId} {tg : Tag} {k i off : Nat} {xs : List V} {ux : Value} {x r : V} {cs : List V} (rx : Rep L w (.el tg k xs i off) ux) (hx : xs[i]? = some x) (hc : x.cs = some cs) (h : eH P t cs off = some r) :
  ∃ v, (Instr.loadAt t ux).run P w = .ok v w ∧ Rep L w r v := by
 obtain ⟨g, o, cells, rfl, h3, h4⟩ := rx
 obtain ⟨u, h5, h6, h7, h8⟩ := h3.get hx
 have hrow : Row w g (o + i * k) u.cells.toList := by
  obtain ⟨arr, e, fr, h9, h10⟩ := h4.row
  refine ⟨arr, e, fr, h9, ?_⟩
  have hi : i < xs.length := (List.getElem?_eq_some_iff.1 hx).1
  have hcl : cells.length = xs.length * k := h3.length
  have hik : i * k + k ≤ xs.length * k := by
   have := Nat.mul_le_mul_right k (show i + 1 ≤ xs.length from hi)
   rwa [Nat.add_mul, Nat.one_mul] at this
  rw [← h5, ← h10, ← List.drop_drop, List.drop_take]
  simp only [List.length_take, List.length_drop, List.take_take, Array.length_toList]
  have hal : cells.length ≤ arr.size - o := by
   have := congrArg List.length h10
   simp only [List.length_take, List.length_drop, Array.length_toList] at this
   omega
  congr 1
  omega
 obtain ⟨v, h9, h10⟩ := AA h (wL h8 hc) hrow
 exact ⟨v, by simpa [Instr.loadAt, Instr.sureAddr] using h9, h10⟩
theorem AB {mx : Bool} {at_ : Array TypeId} {ty : TypeId} {x y r : V} {ux uy : Value} (h : qx mx x y = some r) (rx : Rep L w x ux) (ry : Rep L w y uy) :
  ∃ v, (if mx then Builtin.max_ at_ ty #[ux, uy] else Builtin.min_ at_ ty #[ux, uy] : Sem Value).run P w = .ok v w ∧ Rep L w r v := by
 unfold qx at h
 split at h
 ·simp only [Option.some.injEq] at h; subst h
  simp only [Rep] at rx ry; subst rx; subst ry
  cases mx
  ·exact ⟨_, by simp [Builtin.min_, Builtin.min2]; rfl, by simp [Rep]⟩
  ·exact ⟨_, by simp [Builtin.max_, Builtin.max2]; rfl, by simp [Rep]⟩
 ·cases h
theorem Cj (vs : List Value) : ∀ (j off : Nat) (cs : Array Value), off + j + vs.length ≤ cs.size →
  ((vs.zipIdx j).foldl (fun (cs : Array Value) (x : Value × Nat) => cs.setIfInBounds (off + x.2) x.1) cs).toList = cs.toList.take (off + j) ++ vs ++ cs.toList.drop (off + j + vs.length) := by
 induction vs with
 | nil => intro j off cs _; simp
 | cons v vs ih =>
  intro j off cs h
  simp only [List.length_cons] at h
  simp only [List.zipIdx_cons, List.foldl_cons]
  rw [ih (j + 1) off _ (by simp; omega)]
  have e := list_seg_step cs.toList (off + j) v vs (by simpa using by omega)
  simpa [Array.toList_setIfInBounds, Nat.add_assoc] using e
theorem Fp (ps : List (Nat × Nat)) (place : Nat → Option (Nat × Nat)) (hp : ∀ i x, ps[i]? = some x → place i = some x) (sv : Operand → V) (se : Operand → Value) (hs : ∀ x, Rep L w (sv x) (se x)) :
  ∀ (parts : List (Nat × Operand)) (cells r : List V) (ucells : Array Value),
  ut ps cells (parts.map fun p => (p.1, sv p.2)) = some r → Reps L w cells ucells.toList →
  ∃ ur, Instr.fill place ucells (parts.map fun p => (p.1, se p.2)) = some ur ∧ Reps L w r ur.toList := by
 intro parts
 induction parts with
 | nil =>
  intro cells r ucells h hr
  simp only [List.map_nil, ut, Option.some.injEq] at h
  subst h
  exact ⟨ucells, rfl, hr⟩
 | cons p rest ih =>
   intro cells r ucells h hr
   obtain ⟨i, x⟩ := p
   have hv := hs x
   simp only [List.map_cons, ut] at h ⊢
   generalize sv x = v at hv h
   generalize se x = u at hv ⊢
   split at h
   ·rename_i off size l hpl hcs
    simp only [Option.ite_none_right_eq_some] at h
    obtain ⟨⟨h1, h2⟩, h⟩ := h
    have hrl := wL hv hcs
    have hll := hrl.length
    have hcl := hr.length
    simp only [Array.length_toList] at hll hcl
    have hfold := Cj u.cells.toList 0 off ucells (by simp; omega)
    simp only [Nat.add_zero, Array.length_toList, hll] at hfold
    have hr' : Reps L w (cells.take off ++ l ++ cells.drop (off + l.length)) (u.cells.zipIdx.foldl (fun cs (x : Value × Nat) => cs.setIfInBounds (off + x.2) x.1) ucells).toList := by
     rw [← Array.foldl_toList, Array.toList_zipIdx, hfold]
     exact ((hr.take off).append hrl).append (hr.drop _)
    obtain ⟨ur, h3, h4⟩ := ih _ r _ h hr'
    refine ⟨ur, ?_, h4⟩
    simp only [Instr.fill, hp _ _ hpl]
    rw [if_neg (by simp [hll]; omega)]
    exact h3
   ·cases h
theorem Be (fs : List Field) : ∀ (ps : List (Nat × Nat)), (fs.mapM fun f => (tsz P f.type).map fun n => (f.offset, n)) = some ps →
  (fs.mapM fun f => (do pure (f.offset, ← sizeOf f.type) : Sem (Nat × Nat))).run P w = .ok ps w := by
 induction fs with
 | nil => intro ps h; simp at h; subst h; rfl
 | cons f fs ih =>
  intro ps h
  simp only [List.mapM_cons, Option.bind_eq_bind, Option.bind_eq_some_iff, Option.map_eq_some_iff, Option.pure_def, Option.some.injEq] at h
  obtain ⟨p, ⟨n, hn, rfl⟩, ps', h1, rfl⟩ := h
  simp only [List.mapM_cons, Sem.run_bind, jE hn, Result.andThen_ok, ih ps' h1, Sem.run_pure]
theorem MX {t : TypeId} {parts : Array (Nat × Operand)} (sv : Operand → V) (se : Operand → Value) (hs : ∀ x, Rep L w (sv x) (se x)) {r : V} (h : wM P t (parts.toList.map fun p => (p.1, sv p.2)) = some r) :
  ∃ v, (Instr.build t (parts.map fun (i, x) => (i, se x))).run P w = .ok v w ∧ Rep L w r v := by
 simp only [wM, Option.bind_eq_some_iff, Option.map_eq_some_iff] at h
 obtain ⟨z, hz, ps, hps, cs, hcs, rfl⟩ := h
 unfold xC at hps
 split at hps
 ·rename_i fs hu
  obtain ⟨ur, h1, h2⟩ := Fp (L := L) (w := w) ps (ps.toArray[·]?) (fun i x h => by simpa using h) sv se hs parts.toList _ cs z.cells hcs (zu L w _)
  have hm := Be (P := P) (w := w) fs.toList ps hps
  have hm' : (fs.mapM fun f => (do pure (f.offset, ← sizeOf f.type) : Sem (Nat × Nat))).run P w = .ok ps.toArray w := by
   rw [Array.mapM_eq_mapM_toList, Sem.run_map, hm]; rfl
  refine ⟨.agg ur, ?_, _, rfl, h2⟩
  simp only [Instr.build, Sem.run_bind, qZ hz, Result.andThen_ok, run_underlying hu, hm', Array.toList_map, h1, Sem.run_pure]
 ·rename_i n e hu
  simp only [Option.map_eq_some_iff] at hps
  obtain ⟨k, hk, rfl⟩ := hps
  obtain ⟨ur, h1, h2⟩ := Fp (L := L) (w := w) _ (fun i => some (i * k, k)) (fun i x h => by
   simp only [List.getElem?_map, Option.map_eq_some_iff] at h
   obtain ⟨j, hj, rfl⟩ := h
   have := (List.getElem?_eq_some_iff.1 hj).2
   rw [List.getElem_range] at this
   rw [this]) sv se hs parts.toList _ cs z.cells hcs (zu L w _)
  refine ⟨.agg ur, ?_, _, rfl, h2⟩
  simp only [Instr.build, Sem.run_bind, qZ hz, Result.andThen_ok, run_underlying hu, jE hk, Array.toList_map, h1, Sem.run_pure]
 ·cases hps
end
end Go.Pg
end
section
namespace Go.Pg
open Go
def V.one : V → Bool
 | .c v => v.oneCell'
 | .agg _ => false
 | .tup _ => false
 | .top => false
 | .sl _ _ _ => true
 | .ref _ _ => true
 | .el _ _ _ _ _ => true
 | .fn _ _ _ => true
 | .nif => true
def aJ (id : Nat) (v : V) : V := if v.has id then .top else v
def frz (id : Nat) (v : V) : V := v.map (fun t => if t.is id then .fz else t) _root_.id
def ay (id k i : Nat) (x : V) (v : V) : V :=
 match v with
 | .sl (.own j e) k' xs => if j = id then (if k' = k then .sl (.own j e) k' (xs.set i x) else .top) else .sl (.own j e) k' xs
 | .el (.own j e) k' xs i' off => if j = id then (if k' = k then .el (.own j e) k' (xs.set i x) i' off else .top) else .el (.own j e) k' xs i' off
 | v => aJ id v
def St.mapV (s : St) (ψ : V → V) : St := { env := fun t => ψ (s.env t), bx := fun b => (s.bx b).map fun x => (x.1, x.2.map ψ), nid := s.nid, hd := fun t => ψ (s.hd t) }
structure Grow (w w' : World) : Prop where
 os : w'.os = w.os
 tape : w'.tape = w.tape
 output : w'.output = w.output
 size : w.heap.size ≤ w'.heap.size
 block : ∀ k, k < w.heap.size → w'.heap[k]? = w.heap[k]?
theorem Grow.kp {w w' : World} (G : Grow w w') (Wr : Nat → Prop) {B : Nat} (hB : B ≤ w.heap.size) : Kp Wr B w w' :=
 ⟨G.os, G.tape, G.output, G.size, fun k hk _ => G.block k (by omega)⟩
theorem Grow.alloc (w : World) (o : Obj) : Grow w (w.alloc o) := ⟨rfl, rfl, rfl, by simp, fun k hk => RowKit.Below.heap_alloc w o k hk⟩
theorem Grow.drewAlloc (w : World) (o : Obj) : Grow w (w.drew.alloc o) := ⟨rfl, rfl, rfl, by simp, fun k hk => RowKit.Below.heap_alloc w.drew o k hk⟩
structure Lay.Le (L L' : Lay) : Prop where
 A : ∀ g, L.A g → L'.A g
 own : ∀ i g, L.own i = some g → L'.own i = some g
 box : ∀ b g, L.box b = some g → L'.box b = some g
section
variable {P : Program} {C : Cx} {s : St} {L L' : Lay} {a : Act} {w w' : World}
theorem Sim.hB (S : Sim C s L a w) : C.B ≤ w.heap.size := S.kp.size
theorem Wf.whole (W : Wf C s.nid L w) (G : Grow w w') (E : L.Le L') : Whole L L' w w' where
 fz' := rfl
 A := fun g h => ⟨E.A g h, .of (G.block g (W.old g h))⟩
 own := fun id _ _ g h => ⟨⟨rfl, E.own id g h⟩, G.block g (W.own id g h).1⟩
 box := fun b _ g h => E.box b g h
theorem BoxOk.grow {b : Nat} {cs : TypeId × List V} (W : Wf C s.nid L w) (G : Grow w w') (E : L.Le L') (h : BoxOk L w b cs) : BoxOk L' w' b cs := by
 obtain ⟨g, arr, h1, h2, h3⟩ := h
 exact ⟨g, arr, E.box b g h1, (G.block g (W.boxW b g h1).1).trans h2, h3.whole (W.whole G E)⟩
theorem Sim.grow {s' : St} (S : Sim C s L a w) (G : Grow w w') (E : L.Le L') (he : s'.env = s.env) (hb : ∀ b cs, s'.bx b = some cs → s.bx b = some cs ∨ BoxOk L' w' b cs) (wf : Wf C s'.nid L' w') (hh : s'.hd = s.hd := by rfl) : Sim C s' L' a w' where
 defers := S.defers
 size := S.size
 env := fun t => by rw [he]; exact (S.env t).whole (S.wf.whole G E)
 hid := fun t => by rw [hh]; exact (S.hid t).whole (S.wf.whole G E)
 box := fun b cs h => (hb b cs h).elim (fun h => (S.box b cs h).grow S.wf G E) id
 wf := wf
 kp := S.kp.trans (G.kp C.Wr S.hB)
def Lay.addOwn (L : Lay) (i g : Nat) : Lay := { L with own := upd L.own i (some g) }
def Lay.addBox (L : Lay) (i g : Nat) : Lay := { L with box := upd L.box i (some g) }
def Lay.addA (L : Lay) (g : Nat) : Lay := { L with A := fun x => L.A x ∨ x = g }
theorem Wf.leOwn (W : Wf C s.nid L w) (g : Nat) : L.Le (L.addOwn s.nid g) :=
 ⟨fun _ h => h, fun i g' h => by have := W.nidO i g' h; simp [Lay.addOwn, upd, show i ≠ s.nid by omega, h], fun _ _ h => h⟩
theorem Wf.leBox (W : Wf C s.nid L w) (g : Nat) : L.Le (L.addBox s.nid g) :=
 ⟨fun _ h => h, fun _ _ h => h, fun i g' h => by have := W.nidB i g' h; simp [Lay.addBox, upd, show i ≠ s.nid by omega, h]⟩
theorem Lay.leA (L : Lay) (g : Nat) : L.Le (L.addA g) := ⟨fun _ h => .inl h, fun _ _ h => h, fun _ _ h => h⟩
theorem Wf.addOwn {nid : Nat} (W : Wf C nid L w) (hB : C.B ≤ w.heap.size) (hs : w.heap.size < w'.heap.size) : Wf C (nid + 1) (L.addOwn nid w.heap.size) w' where
 nidO := fun id g h => by
  simp only [Lay.addOwn, upd] at h
  split at h
  ·omega
  ·have := W.nidO id g h; omega
 nidB := fun b g h => by have := W.nidB b g h; omega
 own := fun id g h => by
  simp only [Lay.addOwn, upd] at h
  split at h
  ·simp only [Option.some.injEq] at h; subst h; exact ⟨hs, .inl hB, fun h => by have := W.old _ h; omega⟩
  ·obtain ⟨h1, h2, h3⟩ := W.own id g h; exact ⟨by omega, h2, h3⟩
 boxW := fun b g h => by obtain ⟨h1, h2, h3⟩ := W.boxW b g h; exact ⟨by omega, h2, h3⟩
 injO := fun i j g h h' => by
  simp only [Lay.addOwn, upd] at h h'
  split at h <;> split at h'
  ·omega
  ·simp only [Option.some.injEq] at h; subst h; have := (W.own j _ h').1; omega
  ·simp only [Option.some.injEq] at h'; subst h'; have := (W.own i _ h).1; omega
  ·exact W.injO i j g h h'
 injB := W.injB
 dis := fun i j g h h' => by
  simp only [Lay.addOwn, upd] at h
  split at h
  ·simp only [Option.some.injEq] at h; subst h; have := (W.boxW j _ h').1; omega
  ·exact W.dis i j g h h'
 old := fun g h => by have := W.old g h; omega
 frz := W.frz
theorem Wf.addBox {nid : Nat} (W : Wf C nid L w) (hB : C.B ≤ w.heap.size) (hs : w.heap.size < w'.heap.size) : Wf C (nid + 1) (L.addBox nid w.heap.size) w' where
 nidO := fun b g h => by have := W.nidO b g h; omega
 nidB := fun id g h => by
  simp only [Lay.addBox, upd] at h
  split at h
  ·omega
  ·have := W.nidB id g h; omega
 own := fun b g h => by obtain ⟨h1, h2, h3⟩ := W.own b g h; exact ⟨by omega, h2, h3⟩
 boxW := fun id g h => by
  simp only [Lay.addBox, upd] at h
  split at h
  ·simp only [Option.some.injEq] at h; subst h; exact ⟨hs, .inl hB, fun h => by have := W.old _ h; omega⟩
  ·obtain ⟨h1, h2, h3⟩ := W.boxW id g h; exact ⟨by omega, h2, h3⟩
 injO := W.injO
 injB := fun i j g h h' => by
  simp only [Lay.addBox, upd] at h h'
  split at h <;> split at h'
  ·omega
  ·simp only [Option.some.injEq] at h; subst h; have := (W.boxW j _ h').1; omega
  ·simp only [Option.some.injEq] at h'; subst h'; have := (W.boxW i _ h).1; omega
  ·exact W.injB i j g h h'
 dis := fun i j g h h' => by
  simp only [Lay.addBox, upd] at h'
  split at h'
  ·simp only [Option.some.injEq] at h'; subst h'; have := (W.own i _ h).1; omega
  ·exact W.dis i j g h h'
 old := fun g h => by have := W.old g h; omega
 frz := W.frz
theorem Wf.addA {nid : Nat} (W : Wf C nid L w) (hB : C.B ≤ w.heap.size) (hs : w.heap.size < w'.heap.size) : Wf C nid (L.addA w.heap.size) w' where
 nidO := W.nidO
 nidB := W.nidB
 own := fun b g h => by
  obtain ⟨h1, h2, h3⟩ := W.own b g h
  exact ⟨by omega, h2, fun h => h.elim h3 (fun h => by omega)⟩
 boxW := fun b g h => by
  obtain ⟨h1, h2, h3⟩ := W.boxW b g h
  exact ⟨by omega, h2, fun h => h.elim h3 (fun h => by omega)⟩
 injO := W.injO
 injB := W.injB
 dis := W.dis
 old := fun g h => h.elim (fun h => by have := W.old g h; omega) (fun h => by omega)
 frz := fun g h => h.elim (W.frz g) (fun h => .inr (.inl (by omega)))
theorem Wf.mono {nid nid' : Nat} (W : Wf C nid L w) (hn : nid ≤ nid') (hs : w.heap.size ≤ w'.heap.size) : Wf C nid' L w' where
 nidO := fun id g h => by have := W.nidO id g h; omega
 nidB := fun id g h => by have := W.nidB id g h; omega
 own := fun b g h => by obtain ⟨h1, h2, h3⟩ := W.own b g h; exact ⟨by omega, h2, h3⟩
 boxW := fun b g h => by obtain ⟨h1, h2, h3⟩ := W.boxW b g h; exact ⟨by omega, h2, h3⟩
 injO := W.injO
 injB := W.injB
 dis := W.dis
 old := fun g h => by have := W.old g h; omega
 frz := W.frz
def wO (s : St) (e : TypeId) (l : List V) : V × St := (.ref s.nid 0, { s with bx := upd s.bx s.nid (some (e, l)), nid := s.nid + 1 })
theorem Fv {e : TypeId} {l : List V} {us : Array Value} (S : Sim C s L a w) (hr : Reps L w l us.toList) :
  ∃ L', Sim C (wO s e l).2 L' a (w.alloc (.cells us e)) ∧ Rep L' (w.alloc (.cells us e)) (wO s e l).1 (.pointer (some ⟨w.heap.size, 0, none⟩)) := by
 have G := Grow.alloc w (.cells us e)
 have E := S.wf.leBox (s := s) w.heap.size
 refine ⟨L.addBox s.nid w.heap.size, S.grow G E rfl ?_ (S.wf.addBox S.hB (by simp)), w.heap.size, by simp [Lay.addBox, upd], rfl⟩
 intro b cs h
 simp only [wO, upd] at h
 split at h
 ·rename_i hb
  subst hb
  simp only [Option.some.injEq] at h
  subst h
  exact .inr ⟨w.heap.size, us, by simp [Lay.addBox, upd], heap_alloc_new w _, hr.whole (S.wf.whole G E)⟩
 ·exact .inl h
def uu (P : Program) (s : St) (elem : TypeId) : Option (V × St) := (tY P elem).map fun z => wO s elem (z.cells.toList.map .c)
def MZ (s : St) (e : TypeId) (x : V) : Option (V × St) := x.cs.map fun l => wO s e l
theorem Tn {elem : TypeId} {r : V} {s' : St} (h : uu P s elem = some (r, s')) (S : Sim C s L a w) :
  ∃ u w' L', (Instr.alloc elem true (.tuple #[])).run P w = .ok u w' ∧ Sim C s' L' a w' ∧ Rep L' w' r u := by
 simp only [uu, Option.map_eq_some_iff] at h
 obtain ⟨z, hz, h⟩ := h
 obtain ⟨L', h1, h2⟩ := Fv (e := elem) (us := z.cells) S (zu L w z.cells.toList)
 rw [h] at h1 h2
 exact ⟨_, _, L', by simp [Instr.alloc, qZ hz, newVar, newRow], h1, h2⟩
theorem ac1 {elem : TypeId} {x r : V} {u : Value} {s' : St} (h : MZ s elem x = some (r, s')) (S : Sim C s L a w) (hr : Rep L w x u) :
  ∃ v w' L', (Instr.box elem u).run P w = .ok v w' ∧ Sim C s' L' a w' ∧ Rep L' w' r v := by
 simp only [MZ, Option.map_eq_some_iff] at h
 obtain ⟨l, hl, h⟩ := h
 obtain ⟨L', h1, h2⟩ := Fv (e := elem) (us := u.cells) S (wL hr hl)
 rw [h] at h1 h2
 exact ⟨_, _, L', by simp [Instr.box, newVar, newRow], h1, h2⟩
def nN (P : Program) (s : St) (t : TypeId) (b off : Nat) : Option V := (s.bx b).bind fun x => eH P t x.2 off
theorem CB {t : TypeId} {b off : Nat} {r : V} {u : Value} (h : nN P s t b off = some r) (S : Sim C s L a w) (hu : Rep L w (.ref b off) u) :
  ∃ v, (Instr.loadAt t u).run P w = .ok v w ∧ Rep L w r v := by
 simp only [nN, Option.bind_eq_some_iff] at h
 obtain ⟨⟨e, cs⟩, hcs, h⟩ := h
 obtain ⟨g, arr, h1, h2, h3⟩ := S.box b _ hcs
 obtain ⟨g', h1', rfl⟩ := hu
 rw [h1] at h1'
 simp only [Option.some.injEq] at h1'
 subst h1'
 obtain ⟨v, h4, h5⟩ := AA (P := P) (g := g) (o := 0) h h3 ⟨arr, e, (0, 0), h2, by rw [List.drop_zero, List.take_length]⟩
 exact ⟨v, by simpa [Instr.loadAt, Instr.sureAddr] using h4, h5⟩
theorem QC {x : V} {u : Value} (h : Rep L w x u) (h1 : x.one = true) : u.oneCell' = true := by
 cases x <;> simp only [V.one, Bool.false_eq_true] at h1
 case c v => simp only [Rep] at h; subst h; exact h1
 case sl => obtain ⟨_, _, _, rfl, _⟩ := h; rfl
 case ref => obtain ⟨_, _, rfl⟩ := h; rfl
 case el => obtain ⟨_, _, _, rfl, _⟩ := h; rfl
 case fn => obtain ⟨_, _, rfl, _⟩ := h; rfl
 case nif => obtain ⟨_, _, rfl⟩ := h; rfl
theorem CE {l : List V} {us : List Value} (h : Reps L w l us) (h1 : l.all V.one = true) : ∀ u ∈ us, u.oneCell' = true := by
 induction l generalizing us with
 | nil => simp only [Reps] at h; simp [h]
 | cons x xs ih =>
  obtain ⟨u, r, rfl, h2, h3⟩ := h
  simp only [List.all_cons, Bool.and_eq_true] at h1
  intro v hv
  rcases List.mem_cons.1 hv with rfl | hv
  ·exact QC h2 h1.1
  ·exact ih h3 h1.2 v hv
theorem AC {t : TypeId} {g o : Nat} {v : Value} {arr : Array Value} {e : TypeId} (ht : tsz P t = some v.cells.size) (hg : w.heap[g]? = some (.cells arr e (0, 0))) (hfit : o + v.cells.size ≤ arr.size) (h1 : ∀ u ∈ v.cells.toList, u.oneCell' = true) :
  (Instr.storeAt t (.pointer (some ⟨g, o, none⟩)) v).run P w = .ok () (w.setRow g (arr.toList.take o ++ v.cells.toList ++ arr.toList.drop (o + v.cells.size)).toArray) := by
 have := run_storeCells_at P g o e v.cells.toList 0 arr w hg (by simpa using hfit) h1
 simp only [Nat.add_zero, Array.length_toList] at this
 simp [Instr.storeAt, Instr.sureAddr, storeVar, jE ht, this]
theorem Kp.setRow {Wr : Nat → Prop} {B g : Nat} (arr : Array Value) (hg : B ≤ g ∨ Wr g) : Kp Wr B w (w.setRow g arr) :=
 ⟨rfl, rfl, rfl, by simp, fun k hk hW => setRow_other w g k arr (fun e => by subst e; exact hg.elim (fun h => by omega) hW)⟩
theorem WW {g : Nat} {arr : Array Value} (hA : ¬ L.A g) (hO : ∀ i, L.own i ≠ some g) : Whole L L w (w.setRow g arr) where
 fz' := rfl
 A := fun g' h => ⟨h, .of (setRow_other w g g' arr (fun e => by subst e; exact hA h))⟩
 own := fun id e _ g' h => ⟨⟨rfl, h⟩, setRow_other w g g' arr (fun e => by subst e; exact hO id h)⟩
 box := fun _ _ _ h => h
def lZ (P : Program) (s : St) (t : TypeId) (b off : Nat) (x : V) : Option St :=
 (s.bx b).bind fun y => x.cs.bind fun l => if tsz P t = some l.length ∧ off + l.length ≤ y.2.length ∧ l.all V.one = true then
  some { s with bx := upd s.bx b (some (y.1, y.2.take off ++ l ++ y.2.drop (off + l.length))) } else none
theorem Fz {t : TypeId} {b off : Nat} {x : V} {u ux : Value} {s' : St} (h : lZ P s t b off x = some s') (S : Sim C s L a w) (hu : Rep L w (.ref b off) u) (hx : Rep L w x ux) :
  ∃ w', (Instr.storeAt t u ux).run P w = .ok () w' ∧ Sim C s' L a w' := by
 simp only [lZ, Option.bind_eq_some_iff, Option.ite_none_right_eq_some, Option.some.injEq] at h
 obtain ⟨⟨e, cs⟩, hcs, l, hl, ⟨h1, h2, h3⟩, rfl⟩ := h
 simp only at h2
 obtain ⟨g, arr, hg, ha, hr⟩ := S.box b _ hcs
 simp only at ha hr
 obtain ⟨g', hg', rfl⟩ := hu
 rw [hg] at hg'
 simp only [Option.some.injEq] at hg'
 subst hg'
 have hrl := wL hx hl
 have hll : ux.cells.size = l.length := by simpa using hrl.length
 have hal : arr.size = cs.length := by simpa using hr.length
 obtain ⟨hw1, hw2, hw3⟩ := S.wf.boxW b g hg
 have hO : ∀ i, L.own i ≠ some g := fun i h => S.wf.dis i b g h hg
 have K := WW (w := w) (arr := (arr.toList.take off ++ ux.cells.toList ++ arr.toList.drop (off + ux.cells.size)).toArray) hw3 hO
 refine ⟨_, AC (by rw [hll]; exact h1) ha (by omega) (CE hrl h3), S.defers, S.size, fun t => (S.env t).whole K, fun t => (S.hid t).whole K, ?_, S.wf.mono (Nat.le_refl _) (by simp), S.kp.trans (Kp.setRow _ hw2)⟩
 intro b' cs' h
 simp only [upd] at h
 split at h
 ·rename_i hb
  subst hb
  simp only [Option.some.injEq] at h
  subst h
  refine ⟨g, _, hg, setRow_heap w g arr _ e _ ha, ?_⟩
  have := (((hr.take off).append hrl).append (hr.drop (off + l.length))).whole K
  rw [← hll] at this ⊢
  simpa using this
 ·rename_i hb
  obtain ⟨g', arr', h4, h5, h6⟩ := S.box b' cs' h
  exact ⟨g', arr', h4, (setRow_other w g g' _ (fun e => by subst e; exact hb (S.wf.injB b' b g' h4 hg))).trans h5, h6.whole K⟩
theorem ahq {id : Nat} {v : V} (h : v.has id = false) : v.any (Tag.is id) (fun _ => false) false = false := h
theorem su {id : Nat} (K : Trans (Tag.is id) (fun _ => false) _root_.id _root_.id L L' w w') {v : V} {u : Value} (h : Rep L w v u) : Rep L' w' (aJ id v) u := by
 unfold aJ
 split
 ·trivial
 ·rename_i hn
  have := h.trans rfl K (ahq (by simpa using hn))
  rwa [map_id.1] at this
theorem Jg {ψ : V → V} (hψ : ∀ v u, Rep L w v u → Rep L' w' (ψ v) u) {l : List V} {us : List Value} (h : Reps L w l us) : Reps L' w' (l.map ψ) us := by
 induction l generalizing us with
 | nil => exact h
 | cons x xs ih => obtain ⟨u, r, rfl, h2, h3⟩ := h; exact ⟨u, r, rfl, hψ x u h2, ih h3⟩
theorem Sim.mapV {nid : Nat} (S : Sim C s L a w) {ψ : V → V} (hψ : ∀ v u, Rep L w v u → Rep L' w' (ψ v) u) (hbox : ∀ b g, L.box b = some g → L'.box b = some g ∧ w'.heap[g]? = w.heap[g]?)
  (wf : Wf C nid L' w') (kp : Kp C.Wr C.B w w') : Sim C { s.mapV ψ with nid := nid } L' a w' where
 defers := S.defers
 size := S.size
 env := fun t => hψ _ _ (S.env t)
 hid := fun t => hψ _ _ (S.hid t)
 box := fun b cs h => by
  simp only [St.mapV, Option.map_eq_some_iff] at h
  obtain ⟨l, hl, rfl⟩ := h
  obtain ⟨g, arr, h1, h2, h3⟩ := S.box b l hl
  exact ⟨g, arr, (hbox b g h1).1, (hbox b g h1).2.trans h2, Jg hψ h3⟩
 wf := wf
 kp := S.kp.trans kp
def Lay.freeze (L : Lay) (id : Nat) : Lay := { L with A := fun g => L.A g ∨ L.own id = some g, own := fun j => if j = id then none else L.own j }
theorem Sim.freeze (S : Sim C s L a w) (id : Nat) : Sim C (s.mapV (frz id)) (L.freeze id) a w ∧ ∀ v u, Rep L w v u → Rep (L.freeze id) w (frz id v) u := by
 have K : Trans (fun _ => false) (fun _ => false) (fun t => if t.is id then .fz else t) _root_.id L (L.freeze id) w w := by
  refine ⟨Prod.ext rfl (Prod.ext rfl (funext fun j => funext fun e => ?_)), fun g h => ⟨.inl h, .of rfl⟩, fun j e _ g h => ⟨?_, rfl⟩, fun _ _ _ h => h⟩
  ·show (if (j == id) = true then Tag.fz else Tag.own j e).notNN = true
   split <;> rfl
  by_cases hj : j = id
  ·subst hj; simp [Tag.is, Lay.freeze, h]
  ·simp [Tag.is, hj, Lay.freeze, h]
 have hψ : ∀ v u, Rep L w v u → Rep (L.freeze id) w (frz id v) u := fun v u h => h.trans rfl K (MS.1 v)
 refine ⟨S.mapV (nid := s.nid) hψ (fun b g h => ⟨h, rfl⟩) ?_ (Kp.refl _ _ _), hψ⟩
 have W := S.wf
 exact {
  nidO := fun j g h => by
   simp only [Lay.freeze] at h
   split at h
   ·cases h
   ·exact W.nidO j g h
  nidB := W.nidB
  own := fun j g h => by
   simp only [Lay.freeze] at h
   split at h
   ·cases h
   ·rename_i hj
    obtain ⟨h1, h2, h3⟩ := W.own j g h
    exact ⟨h1, h2, fun h' => h'.elim h3 (fun h' => hj (W.injO j id g h h'))⟩
  boxW := fun b g h => by
   obtain ⟨h1, h2, h3⟩ := W.boxW b g h
   exact ⟨h1, h2, fun h' => h'.elim h3 (fun h' => W.dis id b g h' h)⟩
  injO := fun i j g h h' => by
   simp only [Lay.freeze] at h h'
   split at h
   ·cases h
   ·split at h'
    ·cases h'
    ·exact W.injO i j g h h'
  injB := W.injB
  dis := fun i j g h h' => by
   simp only [Lay.freeze] at h
   split at h
   ·cases h
   ·exact W.dis i j g h h'
  old := fun g h => h.elim (W.old g) (fun h => (W.own id g h).1)
  frz := fun g h => h.elim (W.frz g) (fun h => .inr (W.own id g h).2.1) }
def tapp (P : Program) (e : TypeId) : Option (Nat × Nat) := (P.info? e).bind fun i => i.zero.bind fun z => if z.cells.size = i.size ∧ 0 < i.size then some (i.size, i.bytes) else none
theorem vK {e : TypeId} {k b : Nat} (h : tapp P e = some (k, b)) : ∃ i z, P.info? e = some i ∧ i.zero = some z ∧ z.cells.size = k ∧ i.size = k ∧ i.bytes = b ∧ 0 < k := by
 simp only [tapp, Option.bind_eq_some_iff, Option.ite_none_right_eq_some, Option.some.injEq, Prod.mk.injEq] at h
 obtain ⟨i, hi, z, hz, ⟨h1, h2⟩, rfl, rfl⟩ := h
 exact ⟨i, z, hi, hz, h1, rfl, rfl, h2⟩
def l7 (z : ByteArray) : List V := z.data.toList.map fun b => .c (.int .u8 b.toNat)
def CG (P : Program) (t : TypeId) (k : Nat) (y : V) : Option (List V) :=
 match y with
 | .sl _ k' ys => if k' = k ∧ (elemT P t).isSome then some ys else none
 | .c (.slice none 0 _) => if (elemT P t).isSome then some [] else none
 | .c (.string z) => if k = 1 ∧ ji P t = true then some (l7 z) else none
 | _ => none
theorem CJ (z : ByteArray) : RepE L w 1 (l7 z) (byteCells z) := by
 unfold l7 byteCells
 induction z.data.toList with
 | nil => rfl
 | cons b l ih => exact ⟨_, _, rfl, rfl, ⟨rfl, rfl⟩, rfl, ih⟩
theorem Jh {t : TypeId} {k : Nat} {y : V} {ys : List V} {u : Value} (h : CG P t k y = some ys) (hr : Rep L w y u) :
  ∃ news, Src P k t u ys.length news w ∧ RepE L w k ys news := by
 unfold CG at h
 split at h
 ·rename_i tg k' ys'
  simp only [Option.ite_none_right_eq_some, Option.some.injEq] at h
  obtain ⟨⟨rfl, h1⟩, rfl⟩ := h
  obtain ⟨e, he⟩ := Option.isSome_iff_exists.1 h1
  obtain ⟨a, cap, cells, rfl, h2, h3⟩ := hr
  refine ⟨cells, ?_, h2⟩
  cases a with
  | none =>
   have h0 : ys'.length = 0 := by
    cases tg with
    | fz =>
     rcases h3 with ⟨_, h | ⟨g, o, h, _⟩⟩
     ·exact h
     ·cases h
    | nn => exact h3.1
    | own id e =>
     rcases h3 with ⟨h, _⟩ | ⟨g, arr, _, h, _⟩
     ·exact h
     ·cases h
   have hc : cells = [] := List.eq_nil_of_length_eq_zero (by rw [h2.length, h0, Nat.zero_mul])
   subst hc
   rw [h0]
   exact Src.ofNil w (dY he) cap
  | some ad =>
   refine Src.ofSlice w (dY he) ad _ cap cells h2.length ?_ h2.one
   intro j v hj
   have hpos : 0 < ys'.length := by
    rcases Nat.eq_zero_or_pos ys'.length with h0 | h0
    ·have hc : cells = [] := List.eq_nil_of_length_eq_zero (by rw [h2.length, h0, Nat.zero_mul])
     rw [hc] at hj; cases hj
    ·exact h0
   obtain ⟨g, o, h5, h6⟩ := h3.el hpos h2.length
   simp only [Option.some.injEq] at h5
   subst h5
   rw [kU]
   exact h6.row.cell hj
 ·simp only [Option.ite_none_right_eq_some, Option.some.injEq] at h
  obtain ⟨h1, rfl⟩ := h
  obtain ⟨e, he⟩ := Option.isSome_iff_exists.1 h1
  simp only [Rep] at hr; subst hr
  exact ⟨[], Src.ofNil w (dY he) _, rfl⟩
 ·rename_i z
  simp only [Option.ite_none_right_eq_some, Option.some.injEq] at h
  obtain ⟨⟨rfl, h1⟩, rfl⟩ := h
  simp only [Rep] at hr; subst hr
  refine ⟨byteCells z, ?_, CJ z⟩
  have := Src.ofString (P := P) w (kS h1) z
  rwa [show (l7 z).length = z.size by simp [l7]]
 ·cases h
def Fits (n bytes : Nat) : Prop := n ≤ maxLen ∧ n * bytes ≤ 140737488355328
instance (n bytes : Nat) : Decidable (Fits n bytes) := by unfold Fits; infer_instance
def lC (P : Program) (s : St) (t t2 : TypeId) (x y : V) : Option (V × St) :=
 (elemT P t).bind fun e => (tapp P e).bind fun (k, bytes) => (CG P t2 k y).bind fun ys =>
  match x with
  | .c (.slice none 0 0) => if Fits ys.length bytes then some (.sl (.own s.nid e) k ys, { s with nid := s.nid + 1 }) else none
  | .sl (.own id e') k' xs => if e' = e ∧ k' = k ∧ Fits (xs.length + ys.length) bytes then some (.sl (.own id e) k (xs ++ ys), { s.mapV (aJ id) with nid := max s.nid (id + 1) }) else none
  | _ => none
theorem ww {t t2 ty e : TypeId} {i : TypeInfo} (ht : P.underlying t = some (.slice e)) (hi : P.info? e = some i) {g n m cap : Nat} {arr : Array Value} (hg : w.heap[g]? = some (.cells arr e (0, 0))) {x : Value} {news : List Value}
  (hs : Src P i.size t2 x m news w) (hroom : n + m ≤ cap) (hfit : n * i.size + news.length ≤ arr.size) :
  (Builtin.append_ #[t, t2] ty #[.slice (some ⟨g, 0, none⟩) n cap, x]).run P w =
   .ok (.slice (some ⟨g, 0, none⟩) (n + m) cap) (w.setRow g (arr.toList.take (n * i.size) ++ news ++ arr.toList.drop (n * i.size + news.length)).toArray) := by
 have hst := run_storeCells_at P g (n * i.size) e news 0 arr w hg (by simpa using hfit) hs.one
 simp only [Nat.add_zero] at hst
 rcases hs.kind with ⟨e', hk⟩ | hk <;> simp [Builtin.append_, run_underlying ht, run_underlying hk, sizeOf, typeInfo, hi, hs.len, hroom, hs.cells, Addr.add_lit, hst]
theorem lI {t t2 ty e : TypeId} {i : TypeInfo} (ht : P.underlying t = some (.slice e)) (hi : P.info? e = some i) {x : Value} {news : List Value} (hs : Src P i.size t2 x 0 news w) :
  (Builtin.append_ #[t, t2] ty #[.slice none 0 0, x]).run P w = .ok (.slice none 0 0) w := by
 rcases hs.kind with ⟨e', hk⟩ | hk <;> simp [Builtin.append_, run_underlying ht, run_underlying hk, sizeOf, typeInfo, hi, hs.len, hs.cells]
def jO (w : World) (olds news : List Value) (n cap : Nat) (e : TypeId) (z : Value) : Obj :=
 .cells ((olds ++ news).toArray ++ Builtin.zeroCells z.cells (grownCap w n cap e - n)) e
theorem zy {olds news : List Value} {n cap k : Nat} {e : TypeId} {z : Value} {id : Nat} {L' : Lay} {w'' : World} (ho : L'.own id = some w.heap.size) (hh : w''.heap[w.heap.size]? = some (jO w olds news n cap e z))
  (hz : z.cells.size = k) (hl : (olds ++ news).length = n * k) (hm : n ≤ maxLen) :
  SlMem L' w'' (.own id e) k (some ⟨w.heap.size, 0, none⟩) n (grownCap w n cap e) (olds ++ news) := by
 refine .inr ⟨w.heap.size, _, ho, rfl, hh, grownCap_ge w n cap e, grownCap_le_maxLen w n cap e hm, ?_, ?_⟩
 ·have hge := grownCap_ge w n cap e
  simp only [Array.size_append, List.size_toArray, size_zeroCells, hz, hl, ← Nat.add_mul]
  congr 1
  omega
 ·rw [Array.toList_append, ← hl]
  exact List.take_left
theorem Na {t t2 ty : TypeId} {x y r : V} {ux uy : Value} {s' : St} (h : lC P s t t2 x y = some (r, s')) (S : Sim C s L a w) (hx : Rep L w x ux) (hy : Rep L w y uy) :
  ∃ u w' L', (Builtin.append_ #[t, t2] ty #[ux, uy]).run P w = .ok u w' ∧ Sim C s' L' a w' ∧ Rep L' w' r u := by
 simp only [lC, Option.bind_eq_some_iff, Prod.exists] at h
 obtain ⟨e, he, k, bytes, hk, ys, hys, h⟩ := h
 obtain ⟨i, z, hi, hz, hzs, rfl, rfl, hpos⟩ := vK hk
 have hu := dY he
 obtain ⟨news, hsrc, hre⟩ := Jh hys hy
 have hnl := hre.length
 split at h
 ·
  simp only [Option.ite_none_right_eq_some, Option.some.injEq, Prod.mk.injEq] at h
  obtain ⟨⟨hf1, hf2⟩, rfl, rfl⟩ := h
  simp only [Rep] at hx; subst hx
  rcases Nat.eq_zero_or_pos ys.length with h0 | h0
  ·rw [h0] at hsrc
   have hys0 : ys = [] := List.eq_nil_of_length_eq_zero h0
   subst hys0
   exact ⟨_, w, L, lI hu hi hsrc, ⟨S.defers, S.size, S.env, S.hid, S.box, S.wf.mono (by simp) (Nat.le_refl _), S.kp⟩, none, 0, [], rfl, rfl, .inl ⟨rfl, rfl, rfl⟩⟩
  ·have hrun := run_append_grow_src (P := P) w t t2 ty e i z hu hi hz none 0 0 [] (by simp [Builtin.firstCells]) uy ys.length news hsrc (by omega)
    (by simp only [maxLen] at hf1; omega) (growslice_fits (by omega) (by rw [Nat.zero_add]; exact hf2))
   simp only [Nat.zero_add] at hrun
   have G := Grow.drewAlloc w (jO w [] news ys.length 0 e z)
   have E := S.wf.leOwn (s := s) w.heap.size
   have hh : (w.drew.alloc (jO w [] news ys.length 0 e z)).heap[w.heap.size]? = some (jO w [] news ys.length 0 e z) := heap_alloc_new w.drew _
   refine ⟨_, _, L.addOwn s.nid w.heap.size, hrun, S.grow G E rfl (fun b cs h => .inl h) (S.wf.addOwn S.hB (by simp)), _, _, news, rfl, ?_, ?_⟩
   ·exact hre.trans (p := fun _ => false) (q := fun _ => false) rfl (S.wf.whole G E)
   ·have := zy (olds := []) (id := s.nid) (L' := L.addOwn s.nid w.heap.size) (by simp [Lay.addOwn, upd]) hh hzs (by simpa using hnl) hf1
    exact this
 ·
  rename_i id e' k' xs
  simp only [Option.ite_none_right_eq_some, Option.some.injEq, Prod.mk.injEq] at h
  obtain ⟨⟨rfl, rfl, hf1, hf2⟩, rfl, rfl⟩ := h
  obtain ⟨ad, cap, cells, rfl, hxe, hmem⟩ := hx
  have hxl := hxe.length
  have keepRow : ∀ g arr, L.own id = some g → Trans (Tag.is id) (fun _ => false) _root_.id _root_.id L L w (w.setRow g arr) := fun g arr hg =>
   ⟨rfl, fun g' h => ⟨h, .of (setRow_other w g g' arr (fun e => by subst e; exact (S.wf.own id _ hg).2.2 h))⟩,
    fun j e hj g' h => ⟨⟨rfl, h⟩, setRow_other w g g' arr (fun e => by subst e; have := S.wf.injO j id _ h hg; simp [Tag.is, this] at hj)⟩, fun _ _ _ h => h⟩
  have hgrow : ∀ (olds : List Value), (Builtin.firstCells i.size xs.length (.slice ad xs.length cap)).run P w.drew = .ok olds.toArray w.drew → RepE L w i.size xs olds → cap < xs.length + ys.length →
    ∃ u w' L', (Builtin.append_ #[t, t2] ty #[.slice ad xs.length cap, uy]).run P w = .ok u w' ∧ Sim C { s.mapV (aJ id) with nid := max s.nid (id + 1) } L' a w' ∧ Rep L' w' (.sl (.own id e') i.size (xs ++ ys)) u := by
   intro olds hold hxo hcap
   have hol := hxo.length
   have hrun := run_append_grow_src (P := P) w t t2 ty e' i z hu hi hz ad xs.length cap olds hold uy ys.length news hsrc hcap
    (by simp only [maxLen] at hf1; omega) (growslice_fits hcap hf2)
   have hh : (w.drew.alloc (jO w olds news (xs.length + ys.length) cap e' z)).heap[w.heap.size]? = some (jO w olds news (xs.length + ys.length) cap e' z) := heap_alloc_new w.drew _
   have G := Grow.drewAlloc w (jO w olds news (xs.length + ys.length) cap e' z)
   have K : Trans (Tag.is id) (fun _ => false) _root_.id _root_.id L (L.addOwn id w.heap.size) w (w.drew.alloc (jO w olds news (xs.length + ys.length) cap e' z)) :=
    ⟨rfl, fun g h => ⟨h, .of (G.block g (S.wf.old g h))⟩, fun j e hj g h => ⟨⟨rfl, by
     have : j ≠ id := fun e => by subst e; simp [Tag.is] at hj
     simp [Lay.addOwn, upd, this, h]⟩, G.block g (S.wf.own j g h).1⟩, fun _ _ _ h => h⟩
   have W := S.wf
   have wf : Wf C (max s.nid (id + 1)) (L.addOwn id w.heap.size) (w.drew.alloc (jO w olds news (xs.length + ys.length) cap e' z)) := {
    nidO := fun j g h => by
     simp only [Lay.addOwn, upd] at h
     split at h
     ·omega
     ·have := W.nidO j g h; omega
    nidB := fun j g h => by have := W.nidB j g h; omega
    own := fun j g h => by
     simp only [Lay.addOwn, upd] at h
     split at h
     ·simp only [Option.some.injEq] at h; subst h; exact ⟨by simp, .inl S.hB, fun h => by have := W.old _ h; omega⟩
     ·obtain ⟨h1, h2, h3⟩ := W.own j g h; exact ⟨by simp; omega, h2, h3⟩
    boxW := fun b g h => by obtain ⟨h1, h2, h3⟩ := W.boxW b g h; exact ⟨by simp; omega, h2, h3⟩
    injO := fun i j g h h' => by
     simp only [Lay.addOwn, upd] at h h'
     split at h <;> split at h'
     ·omega
     ·simp only [Option.some.injEq] at h; subst h; have := (W.own j _ h').1; omega
     ·simp only [Option.some.injEq] at h'; subst h'; have := (W.own i _ h).1; omega
     ·exact W.injO i j g h h'
    injB := W.injB
    dis := fun i j g h h' => by
     simp only [Lay.addOwn, upd] at h
     split at h
     ·simp only [Option.some.injEq] at h; subst h; have := (W.boxW j _ h').1; omega
     ·exact W.dis i j g h h'
    old := fun g h => by have := W.old g h; simp; omega
    frz := W.frz }
   refine ⟨_, _, L.addOwn id w.heap.size, hrun, S.mapV (fun v u h => su K h) (fun b g h => ⟨h, G.block g (W.boxW b g h).1⟩) wf (G.kp _ S.hB), some ⟨w.heap.size, 0, none⟩, grownCap w (xs.length + ys.length) cap e', olds ++ news, by simp, ?_, ?_⟩
   ·exact (hxo.append hre).trans (p := Tag.is id) (q := fun _ => false) rfl K
   ·have := zy (olds := olds) (news := news) (id := id) (n := xs.length + ys.length) (L' := L.addOwn id w.heap.size) (by simp [Lay.addOwn, upd]) hh hzs (by rw [List.length_append, hol, hnl, Nat.add_mul]) hf1
    rw [List.length_append]
    exact this
  rcases hmem with ⟨h1, rfl, rfl⟩ | ⟨g, arr, h1, rfl, h3, h4, h5, h6, h7⟩
  ·
   have hx0 : xs = [] := List.eq_nil_of_length_eq_zero h1
   subst hx0
   simp only [RepE] at hxe
   subst hxe
   rcases Nat.eq_zero_or_pos ys.length with h0 | h0
   ·rw [h0] at hsrc
    have hys0 : ys = [] := List.eq_nil_of_length_eq_zero h0
    subst hys0
    refine ⟨_, w, L, lI hu hi hsrc, S.mapV (fun v u h => su ?_ h) (fun b g h => ⟨h, rfl⟩) (S.wf.mono (by omega) (Nat.le_refl _)) (Kp.refl _ _ _), none, 0, [], rfl, rfl, .inl ⟨rfl, rfl, rfl⟩⟩
    exact ⟨rfl, fun g h => ⟨h, .of rfl⟩, fun j e _ g h => ⟨⟨rfl, h⟩, rfl⟩, fun _ _ _ h => h⟩
   ·exact hgrow [] (by simp [Builtin.firstCells]) rfl (by simpa using h0)
  ·by_cases hroom : xs.length + ys.length ≤ cap
   ·have hfit : xs.length * i.size + news.length ≤ arr.size := by rw [hnl, h6, ← Nat.add_mul]; exact Nat.mul_le_mul_right _ hroom
    have hrun := ww (P := P) (ty := ty) hu hi h3 hsrc hroom hfit
    have K := keepRow g (arr.toList.take (xs.length * i.size) ++ news ++ arr.toList.drop (xs.length * i.size + news.length)).toArray h1
    refine ⟨_, _, L, hrun, S.mapV (fun v u h => su K h) (fun b g' h => ⟨h, setRow_other w g g' _ (fun e => by subst e; exact S.wf.dis id b _ h1 h)⟩) (S.wf.mono (by omega) (by simp)) (Kp.setRow _ (S.wf.own id g h1).2.1),
     some ⟨g, 0, none⟩, cap, cells ++ news, by simp, (hxe.append hre).trans (p := Tag.is id) (q := fun _ => false) rfl K, .inr ⟨g, _, h1, rfl, setRow_heap w g arr _ e' _ h3, by simpa using hroom, h5, ?_, ?_⟩⟩
    ·simp only [List.size_toArray, List.length_append, List.length_take, List.length_drop, Array.length_toList]
     omega
    ·rw [h7]
     have : (xs ++ ys).length * i.size = (cells ++ news).length := by rw [List.length_append, List.length_append, hxl, hnl, Nat.add_mul]
     rw [this]
     exact List.take_left
   ·refine hgrow cells ?_ hxe (by omega)
    refine run_firstCells_some w.drew i.size xs.length ⟨g, 0, none⟩ _ cap cells hxl ?_
    intro j v hj
    rw [kU, World.cell?_drew]
    have hrow : Row w g 0 cells := ⟨arr, e', (0, 0), h3, by rw [hxl]; simpa using h7⟩
    exact hrow.cell hj
 ·cases h
end
end Go.Pg
end
