/-
  Texts of this claim, merged. Each bears its own remark.
-/
import Derived.WalkKit
import Derived.Laws.StructEq
import Derived.WalkSpells
import Derived.WalkLawsBesides
import Derived.Laws.Pointers
import Derived.LaidEqlPtr
import Derived.Lib.Builder
import Derived.Lib.UnsafeStr
import Derived.Deep.AppendSrc
import Derived.Laws.OwnMore
import Derived.Laws.MakeOwn
import Derived.WideLaws
set_option linter.unusedVariables false
set_option linter.unusedSimpArgs false
set_option linter.unusedSectionVars false
section
/-
  The pure layer: values without memory (V), what it means that a value of the model stands for one (Rep), states of a call (St) and how a call's state in the model follows one (Sim).
-/
namespace Go.Pg
open Go

inductive Tag where
  | fz
  | nn
  | own (id : Nat) (e : TypeId)

def Tag.is (id : Nat) : Tag → Bool
  | .fz => false
  | .nn => false
  | .own i _ => i == id
def Tag.isOwn : Tag → Bool
  | .fz => false
  | .nn => true
  | .own _ _ => true
/-- Empty and not nil, or any that may not turn: a tag that 'nn' may pass to. -/
def Tag.nnOk : Tag → Bool
  | .fz => true
  | .nn => true
  | .own _ _ => false
def Tag.notNN : Tag → Bool
  | .fz => true
  | .nn => false
  | .own _ _ => true
def Tag.isFz : Tag → Bool
  | .fz => true
  | .nn => false
  | .own _ _ => false

inductive V where
  | c (v : Value)
  | sl (t : Tag) (k : Nat) (xs : List V)
  | agg (cs : List V)
  | tup (vs : List V)
  | ref (b off : Nat)
  | el (t : Tag) (k : Nat) (xs : List V) (i off : Nat)
  | fn (f : FuncId) (first captured : List V)
  | top
  /-- An interface that is not nil; nothing is said of what it holds. -/
  | nif

structure Lay where
  A : Nat → Prop
  own : Nat → Option Nat
  box : Nat → Option Nat

mutual
/-- Does a tag, a reference or the unknown occur, slices' elements aside? -/
def V.any (p : Tag → Bool) (q : Nat → Bool) (tp : Bool) : V → Bool
  | .c _ => false
  | .sl t _ _ => p t
  | .agg cs => V.anyL p q tp cs
  | .tup cs => V.anyL p q tp cs
  | .ref b _ => q b
  | .el t _ _ _ _ => p t
  | .fn _ fs cs => V.anyL p q tp fs || V.anyL p q tp cs
  | .top => tp
  | .nif => false
def V.anyL (p : Tag → Bool) (q : Nat → Bool) (tp : Bool) : List V → Bool
  | [] => false
  | x :: xs => V.any p q tp x || V.anyL p q tp xs
end

/-- Nothing that may change behind its back. -/
def V.free (v : V) : Bool := !(v.any Tag.isOwn (fun _ => true) true)
def V.has (id : Nat) (v : V) : Bool := v.any (Tag.is id) (fun _ => false) false

/-- Cells that lie at a place. -/
def Row (w : World) (g o : Nat) (cells : List Value) : Prop :=
  ∃ arr e fr, w.heap[g]? = some (.cells arr e fr) ∧ (arr.toList.drop o).take cells.length = cells

def SlMem (L : Lay) (w : World) (t : Tag) (k : Nat) (a : Option Addr) (len cap : Nat) (cells : List Value) : Prop :=
  match t with
  | .fz => len ≤ cap ∧ (len = 0 ∨ ∃ g o, a = some ⟨g, o, none⟩ ∧ L.A g ∧ Row w g o cells)
  | .nn => len = 0 ∧ a.isSome = true
  | .own id e => (len = 0 ∧ a = none ∧ cap = 0) ∨
      ∃ g arr, L.own id = some g ∧ a = some ⟨g, 0, none⟩ ∧ w.heap[g]? = some (.cells arr e (0, 0)) ∧ len ≤ cap ∧ cap ≤ maxLen ∧ arr.size = cap * k ∧ arr.toList.take (len * k) = cells

def ElMem (L : Lay) (w : World) (t : Tag) (g o : Nat) (cells : List Value) : Prop :=
  match t with
  | .fz => L.A g ∧ Row w g o cells
  | .nn => False
  | .own id e => L.own id = some g ∧ o = 0 ∧ ∃ arr, w.heap[g]? = some (.cells arr e (0, 0)) ∧ arr.toList.take cells.length = cells

mutual
/-- Tags and references renamed, slices' elements aside. -/
def V.map (τ : Tag → Tag) (ρ : Nat → Nat) : V → V
  | .c v => .c v
  | .sl t k xs => .sl (τ t) k xs
  | .agg cs => .agg (V.mapL τ ρ cs)
  | .tup cs => .tup (V.mapL τ ρ cs)
  | .ref b off => .ref (ρ b) off
  | .el t k xs i off => .el (τ t) k xs i off
  | .fn f fs cs => .fn f (V.mapL τ ρ fs) (V.mapL τ ρ cs)
  | .top => .top
  | .nif => .nif
def V.mapL (τ : Tag → Tag) (ρ : Nat → Nat) : List V → List V
  | [] => []
  | x :: xs => V.map τ ρ x :: V.mapL τ ρ xs
end

mutual
def Rep (L : Lay) (w : World) : V → Value → Prop
  | .c v, u => u = v
  | .sl t k xs, u => ∃ a cap cells, u = .slice a xs.length cap ∧ RepE L w k xs cells ∧ SlMem L w t k a xs.length cap cells
  | .agg cs, u => ∃ a, u = .agg a ∧ Reps L w cs a.toList
  | .tup cs, u => ∃ a, u = .tuple a ∧ Reps L w cs a.toList
  | .ref b off, u => ∃ g, L.box b = some g ∧ u = .pointer (some ⟨g, off, none⟩)
  | .el t k xs i off, u => ∃ g o cells, u = .pointer (some ⟨g, o + i * k + off, none⟩) ∧ RepE L w k xs cells ∧ ElMem L w t g o cells
  | .fn f fs cs, u => ∃ a b, u = .func (.func f) a b ∧ Reps L w fs a.toList ∧ Reps L w cs b.toList
  | .top, _ => True
  | .nif, u => ∃ t v, u = .iface t v
def Reps (L : Lay) (w : World) : List V → List Value → Prop
  | [], us => us = []
  | x :: xs, us => ∃ u r, us = u :: r ∧ Rep L w x u ∧ Reps L w xs r
/-- Elements of k cells each, none of which may change behind its back. -/
def RepE (L : Lay) (w : World) (k : Nat) : List V → List Value → Prop
  | [], us => us = []
  | x :: xs, us => ∃ u r, us = u.cells.toList ++ r ∧ u.cells.size = k ∧ (x.free = true ∧ u.cells.toList.all Value.oneCell' = true) ∧ Rep L w x u ∧ RepE L w k xs r
end

/-- What is kept from one world to a later one: all old blocks but those of 'Wr'. -/
structure Kp (Wr : Nat → Prop) (B : Nat) (w w' : World) : Prop where
  os : w'.os = w.os
  tape : w'.tape = w.tape
  output : w'.output = w.output
  size : w.heap.size ≤ w'.heap.size
  block : ∀ k, k < B → ¬ Wr k → w'.heap[k]? = w.heap[k]?

theorem Kp.refl (Wr : Nat → Prop) (B : Nat) (w : World) : Kp Wr B w w := ⟨rfl, rfl, rfl, Nat.le_refl _, fun _ _ _ => rfl⟩
theorem Kp.trans {Wr : Nat → Prop} {B : Nat} {a b c : World} (h : Kp Wr B a b) (k : Kp Wr B b c) : Kp Wr B a c :=
  ⟨k.os.trans h.os, k.tape.trans h.tape, k.output.trans h.output, Nat.le_trans h.size k.size, fun i hi hw => (k.block i hi hw).trans (h.block i hi hw)⟩
theorem Kp.mono {Wr Wr' : Nat → Prop} {B B' : Nat} {a b : World} (h : Kp Wr B a b) (hB : B' ≤ B) (hW : ∀ g, g < B' → Wr g → Wr' g) : Kp Wr' B' a b :=
  ⟨h.os, h.tape, h.output, h.size, fun i hi hw => h.block i (Nat.lt_of_lt_of_le hi hB) fun x => hw (hW i hi x)⟩
theorem Kp.alloc {Wr : Nat → Prop} {B : Nat} {a w : World} (h : Kp Wr B a w) (hB : B ≤ w.heap.size) (o : Obj) : Kp Wr B a (w.alloc o) :=
  h.trans ⟨rfl, rfl, rfl, by simp, fun k hk _ => RowKit.Below.heap_alloc _ _ _ (by omega)⟩
/-- What a program's own tables hold, in every world of a call: given by the seat. -/
class Tb (P : Program) where
  T : World → Prop
  keep : ∀ w w', T w → Kp (fun _ => False) w.heap.size w w' → T w'
theorem Kp.drew {Wr : Nat → Prop} {B : Nat} {a w : World} (h : Kp Wr B a w) : Kp Wr B a w.drew := ⟨h.os, h.tape, h.output, h.size, h.block⟩


/-- Induction over values and lists of them. -/
theorem V.ind {p : V → Prop} {q : List V → Prop} (hc : ∀ v, p (.c v)) (hnif : p .nif) (hsl : ∀ t k xs, q xs → p (.sl t k xs)) (hagg : ∀ cs, q cs → p (.agg cs)) (htup : ∀ cs, q cs → p (.tup cs))
    (href : ∀ b o, p (.ref b o)) (hel : ∀ t k xs i o, q xs → p (.el t k xs i o)) (hfn : ∀ f fs cs, q fs → q cs → p (.fn f fs cs)) (htop : p .top) (hnil : q []) (hcons : ∀ x xs, p x → q xs → q (x :: xs)) :
    (∀ v, p v) ∧ (∀ l, q l) := by
  have h1 : ∀ v, p v := fun v => V.rec (motive_1 := p) (motive_2 := q) hc (fun t k xs h => hsl t k xs h) (fun cs h => hagg cs h) (fun cs h => htup cs h) href (fun t k xs i o h => hel t k xs i o h) (fun f fs cs h h' => hfn f fs cs h h') htop hnif hnil (fun x xs h h' => hcons x xs h h') v
  exact ⟨h1, fun l => by induction l with | nil => exact hnil | cons x xs ih => exact hcons x xs (h1 x) ih⟩

theorem mapL_eq (τ : Tag → Tag) (ρ : Nat → Nat) (l : List V) : V.mapL τ ρ l = l.map (V.map τ ρ) := by
  induction l with
  | nil => rfl
  | cons x xs ih => simp [V.mapL, ih]

theorem map_id : (∀ v : V, v.map id id = v) ∧ (∀ l, V.mapL id id l = l) := by
  refine V.ind ?_ ?_ ?_ ?_ ?_ ?_ ?_ ?_ ?_ ?_ ?_ <;> intros <;> simp_all [V.map, V.mapL]

theorem free_any (p : Tag → Bool) (q : Nat → Bool) (hp : p .fz = false) (tp : Bool) :
    (∀ v : V, v.any Tag.isOwn (fun _ => true) true = false → v.any p q tp = false) ∧ (∀ l, V.anyL Tag.isOwn (fun _ => true) true l = false → V.anyL p q tp l = false) := by
  refine V.ind ?_ ?_ ?_ ?_ ?_ ?_ ?_ ?_ ?_ ?_ ?_
  · intro v _; rfl
  · intro _; rfl
  · intro t k xs _ h; cases t with
    | fz => simpa [V.any] using hp
    | nn => simp [V.any, Tag.isOwn] at h
    | own id e => simp [V.any, Tag.isOwn] at h
  · intro cs ih h; exact ih h
  · intro cs ih h; exact ih h
  · intro b off h; simp [V.any] at h
  · intro t k xs i off _ h; cases t with
    | fz => simpa [V.any] using hp
    | nn => simp [V.any, Tag.isOwn] at h
    | own id e => simp [V.any, Tag.isOwn] at h
  · intro f fs cs ih1 ih2 h
    simp only [V.any, Bool.or_eq_false_iff] at h ⊢
    exact ⟨ih1 h.1, ih2 h.2⟩
  · intro h; simp [V.any] at h
  · intro _; rfl
  · intro x xs ih1 ih2 h
    simp only [V.anyL, Bool.or_eq_false_iff] at h ⊢
    exact ⟨ih1 h.1, ih2 h.2⟩

theorem V.free.any {v : V} (h : v.free = true) (p : Tag → Bool) (q : Nat → Bool) (hp : p .fz = false) (tp : Bool) : v.any p q tp = false :=
  (free_any p q hp tp).1 v (by simpa [V.free] using h)

theorem map_free (τ : Tag → Tag) (ρ : Nat → Nat) (hτ : τ .fz = .fz) :
    (∀ v : V, v.any Tag.isOwn (fun _ => true) true = false → v.map τ ρ = v) ∧ (∀ l, V.anyL Tag.isOwn (fun _ => true) true l = false → V.mapL τ ρ l = l) := by
  refine V.ind ?_ ?_ ?_ ?_ ?_ ?_ ?_ ?_ ?_ ?_ ?_
  · intro v _; rfl
  · intro _; rfl
  · intro t k xs _ h; cases t with
    | fz => simp [V.map, hτ]
    | nn => simp [V.any, Tag.isOwn] at h
    | own id e => simp [V.any, Tag.isOwn] at h
  · intro cs ih h; simp [V.map, ih h]
  · intro cs ih h; simp [V.map, ih h]
  · intro b off h; simp [V.any] at h
  · intro t k xs i off _ h; cases t with
    | fz => simp [V.map, hτ]
    | nn => simp [V.any, Tag.isOwn] at h
    | own id e => simp [V.any, Tag.isOwn] at h
  · intro f fs cs ih1 ih2 h
    simp only [V.any, Bool.or_eq_false_iff] at h
    simp [V.map, ih1 h.1, ih2 h.2]
  · intro _; rfl
  · intro _; rfl
  · intro x xs ih1 ih2 h
    simp only [V.anyL, Bool.or_eq_false_iff] at h
    simp [V.mapL, ih1 h.1, ih2 h.2]

theorem V.free.map {v : V} (h : v.free = true) (τ : Tag → Tag) (ρ : Nat → Nat) (hτ : τ .fz = .fz) : v.map τ ρ = v :=
  (map_free τ ρ hτ).1 v (by simpa [V.free] using h)

/-- A block's cells are what they were. -/
def RowKept (w w' : World) (g : Nat) : Prop := ∀ arr e fr, w.heap[g]? = some (.cells arr e fr) → ∃ fr', w'.heap[g]? = some (.cells arr e fr')
theorem RowKept.of {w w' : World} {g : Nat} (h : w'.heap[g]? = w.heap[g]?) : RowKept w w' g := fun _ _ fr hg => ⟨fr, h.trans hg⟩

theorem Row.keep {w w' : World} {g o : Nat} {cells : List Value} (h : Row w g o cells) (hg : RowKept w w' g) : Row w' g o cells := by
  obtain ⟨arr, e, fr, h1, h2⟩ := h
  obtain ⟨fr', h3⟩ := hg arr e fr h1
  exact ⟨arr, e, fr', h3, h2⟩

/-- How values pass from one layout and world to another: 'p', 'q' name what is left out. -/
structure Trans (p : Tag → Bool) (q : Nat → Bool) (τ : Tag → Tag) (ρ : Nat → Nat) (L L' : Lay) (w w' : World) : Prop where
  fz' : (τ .fz, (τ .nn).nnOk, fun id e => (τ (.own id e)).notNN) = (Tag.fz, true, fun _ _ => true)
  A : ∀ g, L.A g → L'.A g ∧ RowKept w w' g
  own : ∀ id e, p (.own id e) = false → ∀ g, L.own id = some g → (match τ (.own id e) with | .fz => L'.A g | .nn => False | .own id' e' => e' = e ∧ L'.own id' = some g) ∧ w'.heap[g]? = w.heap[g]?
  box : ∀ b, q b = false → ∀ g, L.box b = some g → L'.box (ρ b) = some g

theorem Trans.fz {p : Tag → Bool} {q : Nat → Bool} {τ : Tag → Tag} {ρ : Nat → Nat} {L L' : Lay} {w w' : World} (K : Trans p q τ ρ L L' w w') : τ .fz = .fz := (Prod.mk.inj K.fz').1
theorem Trans.nn {p : Tag → Bool} {q : Nat → Bool} {τ : Tag → Tag} {ρ : Nat → Nat} {L L' : Lay} {w w' : World} (K : Trans p q τ ρ L L' w w') : (τ .nn).nnOk = true := (Prod.mk.inj (Prod.mk.inj K.fz').2).1
theorem Trans.ownNN {p : Tag → Bool} {q : Nat → Bool} {τ : Tag → Tag} {ρ : Nat → Nat} {L L' : Lay} {w w' : World} (K : Trans p q τ ρ L L' w w') (id : Nat) (e : TypeId) : (τ (.own id e)).notNN = true := congrFun (congrFun (Prod.mk.inj (Prod.mk.inj K.fz').2).2 id) e
section
variable {L L' : Lay} {w w' : World}

theorem SlMem.trans {p : Tag → Bool} {q : Nat → Bool} {τ : Tag → Tag} {ρ : Nat → Nat} (K : Trans p q τ ρ L L' w w') {t : Tag} {k : Nat} {a : Option Addr} {len cap : Nat} {cells : List Value} (ht : p t = false)
    (h : SlMem L w t k a len cap cells) : SlMem L' w' (τ t) k a len cap cells := by
  cases t with
  | fz =>
    rw [K.fz]
    obtain ⟨h0, h⟩ := h
    refine ⟨h0, h.imp id ?_⟩
    rintro ⟨g, o, h1, h2, h3⟩
    exact ⟨g, o, h1, (K.A g h2).1, h3.keep (K.A g h2).2⟩
  | nn =>
    obtain ⟨h0, h1⟩ := h
    have hn := K.nn
    cases ht' : τ .nn with
    | fz => exact ⟨by omega, .inl h0⟩
    | nn => exact ⟨h0, h1⟩
    | own id e => rw [ht'] at hn; cases hn
  | own id e =>
    rcases h with ⟨h1, h2, h3⟩ | ⟨g, arr, h1, h2, h3, h4, h5, h6, h7⟩
    · cases ht' : τ (.own id e) with
      | fz => exact ⟨by omega, .inl h1⟩
      | nn => have := K.ownNN id e; rw [ht'] at this; cases this
      | own id' e' => exact .inl ⟨h1, h2, h3⟩
    · obtain ⟨ho, hb⟩ := K.own id e ht g h1
      cases ht' : τ (.own id e) with
      | fz =>
        rw [ht'] at ho
        refine ⟨h4, .inr ⟨g, 0, h2, ho, arr, e, (0, 0), hb.trans h3, ?_⟩⟩
        have : cells.length = len * k := by rw [← h7]; have := Nat.mul_le_mul_right k h4; simp only [List.length_take, Array.length_toList, h6]; omega
        simp [this, h7]
      | nn => rw [ht'] at ho; exact ho.elim
      | own id' e' =>
        rw [ht'] at ho
        obtain ⟨rfl, ho⟩ := ho
        exact .inr ⟨g, arr, ho, h2, hb.trans h3, h4, h5, h6, h7⟩

theorem ElMem.trans {p : Tag → Bool} {q : Nat → Bool} {τ : Tag → Tag} {ρ : Nat → Nat} (K : Trans p q τ ρ L L' w w') {t : Tag} {g o : Nat} {cells : List Value} (ht : p t = false)
    (h : ElMem L w t g o cells) : ElMem L' w' (τ t) g o cells := by
  cases t with
  | fz => rw [K.fz]; exact ⟨(K.A g h.1).1, h.2.keep (K.A g h.1).2⟩
  | nn => exact h.elim
  | own id e =>
    obtain ⟨h1, rfl, arr, h3, h4⟩ := h
    obtain ⟨ho, hb⟩ := K.own id e ht g h1
    cases ht' : τ (.own id e) with
    | fz => rw [ht'] at ho; exact ⟨ho, arr, e, (0, 0), hb.trans h3, by simpa using h4⟩
    | nn => rw [ht'] at ho; exact ho.elim
    | own id' e' =>
      rw [ht'] at ho
      obtain ⟨rfl, ho⟩ := ho
      exact ⟨ho, rfl, arr, hb.trans h3, h4⟩

theorem rep_trans_all {p : Tag → Bool} {q : Nat → Bool} {τ : Tag → Tag} {ρ : Nat → Nat} (hp : p .fz = false) (K : Trans p q τ ρ L L' w w') :
    (∀ v u, v.any p q false = false → Rep L w v u → Rep L' w' (v.map τ ρ) u) ∧
    (∀ l, (∀ us, V.anyL p q false l = false → Reps L w l us → Reps L' w' (V.mapL τ ρ l) us) ∧ ∀ k us, RepE L w k l us → RepE L' w' k l us) := by
  refine V.ind ?_ ?_ ?_ ?_ ?_ ?_ ?_ ?_ ?_ ?_ ?_
  · intro v u _ h; exact h
  · intro u _ h; exact h
  · rintro t k xs ⟨_, ih⟩ u ha ⟨a, cap, cells, h1, h2, h3⟩
    exact ⟨a, cap, cells, h1, ih k cells h2, h3.trans K ha⟩
  · rintro cs ⟨ih, _⟩ u ha ⟨a, h1, h2⟩
    exact ⟨a, h1, ih _ ha h2⟩
  · rintro cs ⟨ih, _⟩ u ha ⟨a, h1, h2⟩
    exact ⟨a, h1, ih _ ha h2⟩
  · rintro b off u ha ⟨g, h1, h2⟩
    exact ⟨g, K.box b ha g h1, h2⟩
  · rintro t k xs i off ⟨_, ih⟩ u ha ⟨g, o, cells, h1, h2, h3⟩
    exact ⟨g, o, cells, h1, ih k cells h2, h3.trans K ha⟩
  · rintro f fs cs ⟨ih1, _⟩ ⟨ih2, _⟩ u ha ⟨a, b, h1, h2, h3⟩
    simp only [V.any, Bool.or_eq_false_iff] at ha
    exact ⟨a, b, h1, ih1 _ ha.1 h2, ih2 _ ha.2 h3⟩
  · intro u _ _; trivial
  · exact ⟨fun us _ h => h, fun k us h => h⟩
  · rintro x xs ihx ⟨ih1, ih2⟩
    refine ⟨?_, ?_⟩
    · rintro us ha ⟨u, r, h1, h2, h3⟩
      simp only [V.anyL, Bool.or_eq_false_iff] at ha
      exact ⟨u, r, h1, ihx u ha.1 h2, ih1 r ha.2 h3⟩
    · rintro k us ⟨u, r, h1, h2, h3, h4, h5⟩
      have := ihx u (V.free.any h3.1 p q hp _) h4
      rw [V.free.map h3.1 τ ρ K.fz] at this
      exact ⟨u, r, h1, h2, h3, this, ih2 k r h5⟩

theorem Rep.trans {p : Tag → Bool} {q : Nat → Bool} {τ : Tag → Tag} {ρ : Nat → Nat} (hp : p .fz = false) (K : Trans p q τ ρ L L' w w') {v : V} {u : Value} (ha : v.any p q false = false) (h : Rep L w v u) :
    Rep L' w' (v.map τ ρ) u := (rep_trans_all hp K).1 v u ha h
theorem Reps.trans {p : Tag → Bool} {q : Nat → Bool} {τ : Tag → Tag} {ρ : Nat → Nat} (hp : p .fz = false) (K : Trans p q τ ρ L L' w w') {l : List V} {us : List Value} (ha : V.anyL p q false l = false) (h : Reps L w l us) :
    Reps L' w' (V.mapL τ ρ l) us := ((rep_trans_all hp K).2 l).1 us ha h
theorem RepE.trans {p : Tag → Bool} {q : Nat → Bool} {τ : Tag → Tag} {ρ : Nat → Nat} (hp : p .fz = false) (K : Trans p q τ ρ L L' w w') {k : Nat} {l : List V} {us : List Value} (h : RepE L w k l us) :
    RepE L' w' k l us := ((rep_trans_all hp K).2 l).2 k us h

theorem any_ff : (∀ v : V, v.any (fun _ => false) (fun _ => false) false = false) ∧ (∀ l, V.anyL (fun _ => false) (fun _ => false) false l = false) := by
  refine V.ind ?_ ?_ ?_ ?_ ?_ ?_ ?_ ?_ ?_ ?_ ?_ <;> intros <;> simp_all [V.any, V.anyL]

/-- All values pass as they are. -/
abbrev Whole (L L' : Lay) (w w' : World) : Prop := Trans (fun _ => false) (fun _ => false) id id L L' w w'
theorem Rep.whole (K : Whole L L' w w') {v : V} {u : Value} (h : Rep L w v u) : Rep L' w' v u := by
  have := h.trans rfl K (any_ff.1 v); rwa [map_id.1] at this
theorem Reps.whole (K : Whole L L' w w') {l : List V} {us : List Value} (h : Reps L w l us) : Reps L' w' l us := by
  have := h.trans rfl K (any_ff.2 l); rwa [map_id.2] at this

theorem Reps.length {l : List V} {us : List Value} (h : Reps L w l us) : us.length = l.length := by
  induction l generalizing us with
  | nil => simp only [Reps] at h; simp [h]
  | cons x xs ih => obtain ⟨u, r, rfl, _, h3⟩ := h; simp [ih h3]
theorem Reps.get {l : List V} {us : List Value} (h : Reps L w l us) {i : Nat} {v : V} (hv : l[i]? = some v) : ∃ u, us[i]? = some u ∧ Rep L w v u := by
  induction l generalizing us i with
  | nil => simp at hv
  | cons x xs ih =>
    obtain ⟨u, r, rfl, h2, h3⟩ := h
    cases i with
    | zero => simp at hv; subst hv; exact ⟨u, by simp, h2⟩
    | succ i => simp at hv; simpa using ih h3 hv
theorem Reps.append {l l' : List V} {us us' : List Value} (h : Reps L w l us) (h' : Reps L w l' us') : Reps L w (l ++ l') (us ++ us') := by
  induction l generalizing us with
  | nil => simp only [Reps] at h; simpa [h] using h'
  | cons x xs ih => obtain ⟨u, r, rfl, h2, h3⟩ := h; exact ⟨u, r ++ us', rfl, h2, ih h3⟩
theorem Reps.split {l l' : List V} {us : List Value} (h : Reps L w (l ++ l') us) : ∃ a b, us = a ++ b ∧ Reps L w l a ∧ Reps L w l' b := by
  induction l generalizing us with
  | nil => exact ⟨[], us, rfl, rfl, h⟩
  | cons x xs ih => obtain ⟨u, r, rfl, h2, h3⟩ := h; obtain ⟨a, b, rfl, h4, h5⟩ := ih h3; exact ⟨u :: a, b, rfl, ⟨u, a, rfl, h2, h4⟩, h5⟩
theorem Reps.take {l : List V} {us : List Value} (h : Reps L w l us) (n : Nat) : Reps L w (l.take n) (us.take n) := by
  induction l generalizing us n with
  | nil => simp only [Reps] at h; simp [h, Reps]
  | cons x xs ih =>
    obtain ⟨u, r, rfl, h2, h3⟩ := h
    cases n with
    | zero => simp [Reps]
    | succ n => exact ⟨u, r.take n, by simp, h2, ih h3 n⟩
theorem Reps.drop {l : List V} {us : List Value} (h : Reps L w l us) (n : Nat) : Reps L w (l.drop n) (us.drop n) := by
  induction l generalizing us n with
  | nil => simp only [Reps] at h; simp [h, Reps]
  | cons x xs ih =>
    cases n with
    | zero => simpa using h
    | succ n => obtain ⟨u, r, rfl, h2, h3⟩ := h; simpa using ih h3 n
theorem RepE.length {k : Nat} {l : List V} {us : List Value} (h : RepE L w k l us) : us.length = l.length * k := by
  induction l generalizing us with
  | nil => simp only [RepE] at h; simp [h]
  | cons x xs ih => obtain ⟨u, r, rfl, h2, _, _, h5⟩ := h; simp [ih h5, h2, Nat.add_mul, Nat.add_comm]
theorem RepE.append {k : Nat} {l l' : List V} {us us' : List Value} (h : RepE L w k l us) (h' : RepE L w k l' us') : RepE L w k (l ++ l') (us ++ us') := by
  induction l generalizing us with
  | nil => simp only [RepE] at h; simpa [h] using h'
  | cons x xs ih => obtain ⟨u, r, rfl, h2, h3, h4, h5⟩ := h; exact ⟨u, r ++ us', by simp, h2, h3, h4, ih h5⟩
theorem RepE.drop {k : Nat} {l : List V} {us : List Value} (h : RepE L w k l us) (n : Nat) : RepE L w k (l.drop n) (us.drop (n * k)) := by
  induction l generalizing us n with
  | nil => simp only [RepE] at h; simp [h, RepE]
  | cons x xs ih =>
    cases n with
    | zero => simpa using h
    | succ n =>
      obtain ⟨u, r, rfl, h2, h3, h4, h5⟩ := h
      have := ih h5 n
      have e : (u.cells.toList ++ r).drop ((n + 1) * k) = r.drop (n * k) := by
        rw [List.drop_append, List.drop_eq_nil_of_le (by simp [h2, Nat.add_mul])]
        simp [h2, Nat.add_mul]
      rw [e]; exact this
theorem RepE.take {k : Nat} {l : List V} {us : List Value} (h : RepE L w k l us) (n : Nat) : RepE L w k (l.take n) (us.take (n * k)) := by
  induction l generalizing us n with
  | nil => simp only [RepE] at h; simp [h, RepE]
  | cons x xs ih =>
    cases n with
    | zero => simp [RepE]
    | succ n =>
      obtain ⟨u, r, rfl, h2, h3, h4, h5⟩ := h
      refine ⟨u, r.take (n * k), ?_, h2, h3, h4, ih h5 n⟩
      rw [List.take_append, List.take_of_length_le (by simp [h2, Nat.add_mul])]
      simp [h2, Nat.add_mul, Nat.add_sub_cancel]
theorem RepE.one {k : Nat} {l : List V} {us : List Value} (h : RepE L w k l us) : ∀ u ∈ us, u.oneCell' = true := by
  induction l generalizing us with
  | nil => simp only [RepE] at h; simp [h]
  | cons x xs ih =>
    obtain ⟨u, r, rfl, h2, h3, h4, h5⟩ := h
    intro v hv
    rcases List.mem_append.1 hv with h6 | h6
    · exact List.all_eq_true.1 h3.2 v h6
    · exact ih h5 v h6
/-- One element, and where its cells lie. -/
theorem RepE.get {k : Nat} {l : List V} {us : List Value} (h : RepE L w k l us) {i : Nat} {v : V} (hv : l[i]? = some v) :
    ∃ u, (us.drop (i * k)).take k = u.cells.toList ∧ u.cells.size = k ∧ (v.free = true ∧ u.cells.toList.all Value.oneCell' = true) ∧ Rep L w v u := by
  have hi : i < l.length := (List.getElem?_eq_some_iff.1 hv).1
  have h1 := h.drop i
  rw [List.drop_eq_getElem_cons hi] at h1
  obtain ⟨u, r, h2, h3, h4, h5, _⟩ := h1
  have : l[i] = v := (List.getElem?_eq_some_iff.1 hv).2
  rw [this] at h4 h5
  exact ⟨u, by rw [h2]; simp [h3], h3, h4, h5⟩
/-- An element set. -/
theorem RepE.set {k : Nat} {l : List V} {us : List Value} (h : RepE L w k l us) {i : Nat} {v : V} {u : Value} (hi : i < l.length) (hk : u.cells.size = k) (hf : v.free = true ∧ u.cells.toList.all Value.oneCell' = true) (hu : Rep L w v u) :
    RepE L w k (l.set i v) (us.take (i * k) ++ u.cells.toList ++ us.drop (i * k + k)) := by
  have e : l.set i v = l.take i ++ ([v] ++ l.drop (i + 1)) := by
    rw [List.set_eq_take_append_cons_drop, if_pos hi]; rfl
  rw [e, List.append_assoc]
  refine (h.take i).append (RepE.append ⟨u, [], by simp, hk, hf, hu, rfl⟩ ?_)
  have := h.drop (i + 1)
  rwa [Nat.add_mul, Nat.one_mul] at this
end
end Go.Pg
end

section
/-
  The pure layer: states of a call, how the model's state follows one, and the operations that only compute.
-/
namespace Go.Pg
open Go

structure St where
  env : Nat → V
  bx : Nat → Option (TypeId × List V)
  nid : Nat
  /-- What lies with those who wait: the caller's temporaries, while a callee's body is reckoned in its place. -/
  hd : Nat → V := fun _ => .top

def upd {α : Type} (f : Nat → α) (d : Nat) (v : α) : Nat → α := fun t => if t = d then v else f t
theorem upd_same {α : Type} (f : Nat → α) (d : Nat) (v : α) : upd f d v d = v := by simp [upd]
theorem upd_ne {α : Type} (f : Nat → α) (d t : Nat) (v : α) (h : t ≠ d) : upd f d v t = f t := by simp [upd, h]
theorem upd_at {α : Type} (f : Nat → α) (d t : Nat) (v : α) : upd f d v t = if t = d then v else f t := rfl

def ofConst : Value → V
  | .agg cs => .agg (cs.toList.map .c)
  | .tuple vs => .tup (vs.toList.map .c)
  | v => .c v

def St.ev (s : St) : Operand → V
  | .tmp t => s.env t
  | .const v => ofConst v
  | .global g => .c (.pointer (some ⟨g, 0, none⟩))
  | .func f => .fn f [] []

def St.put (s : St) (d : Option Nat) (v : V) : St :=
  match d with
  | some d => { s with env := upd s.env d v }
  | none => s

/-- What a call is set in: its temporaries' number; what it may lean on; what it may write of old memory; the world in which it began. -/
structure Cx where
  n : Nat
  A0 : Nat → Prop
  Wr : Nat → Prop
  w0 : World
  hid : Nat → Value := fun _ => undef
abbrev Cx.B (C : Cx) : Nat := C.w0.heap.size
/-- The program's own tables hold in every world of the call. -/
def Cx.TOk (C : Cx) (P : Program) [Tb P] : Prop := ∀ w', Kp C.Wr C.B C.w0 w' → Tb.T P w'

structure Wf (C : Cx) (nid : Nat) (L : Lay) (w : World) : Prop where
  nidO : ∀ id g, L.own id = some g → id < nid
  nidB : ∀ b g, L.box b = some g → b < nid
  own : ∀ id g, L.own id = some g → g < w.heap.size ∧ (C.B ≤ g ∨ C.Wr g) ∧ ¬ L.A g
  boxW : ∀ b g, L.box b = some g → g < w.heap.size ∧ (C.B ≤ g ∨ C.Wr g) ∧ ¬ L.A g
  injO : ∀ i j g, L.own i = some g → L.own j = some g → i = j
  injB : ∀ i j g, L.box i = some g → L.box j = some g → i = j
  dis : ∀ i j g, L.own i = some g → L.box j = some g → False
  old : ∀ g, L.A g → g < w.heap.size
  frz : ∀ g, L.A g → C.A0 g ∨ C.B ≤ g ∨ C.Wr g

def BoxOk (L : Lay) (w : World) (b : Nat) (x : TypeId × List V) : Prop :=
  ∃ g arr, L.box b = some g ∧ w.heap[g]? = some (.cells arr x.1 (0, 0)) ∧ Reps L w x.2 arr.toList

structure Sim (C : Cx) (s : St) (L : Lay) (a : Act) (w : World) : Prop where
  defers : a.defers = []
  size : a.tmps.size = C.n
  env : ∀ t, Rep L w (s.env t) (a.tmps.getD t undef)
  hid : ∀ t, Rep L w (s.hd t) (C.hid t)
  box : ∀ b cs, s.bx b = some cs → BoxOk L w b cs
  wf : Wf C s.nid L w
  kp : Kp C.Wr C.B C.w0 w

theorem reps_c (L : Lay) (w : World) (l : List Value) : Reps L w (l.map .c) l := by
  induction l with
  | nil => rfl
  | cons x xs ih => exact ⟨x, xs, rfl, rfl, ih⟩

theorem rep_ofConst (L : Lay) (w : World) (v : Value) : Rep L w (ofConst v) v := by
  cases v <;> first | rfl | exact ⟨_, rfl, reps_c L w _⟩

section
variable {C : Cx} {s : St} {L : Lay} {a : Act} {w : World}

theorem Sim.ev (S : Sim C s L a w) (x : Operand) : Rep L w (s.ev x) (a.eval x) := by
  cases x with
  | tmp t => exact S.env t
  | const v => exact rep_ofConst L w v
  | global g => rfl
  | func f => exact ⟨#[], #[], rfl, rfl, rfl⟩

theorem Sim.put (S : Sim C s L a w) {v : V} {u : Value} (h : Rep L w v u) {d : Option Nat} (hd : ∀ t, d = some t → t < C.n) : Sim C (s.put d v) L (a.put d u) w := by
  cases d with
  | none => exact S
  | some d =>
    have hd := hd d rfl
    refine ⟨S.defers, by simp [Act.put, S.size], fun t => ?_, S.hid, S.box, S.wf, S.kp⟩
    simp only [St.put, Act.put, upd]
    by_cases ht : t = d
    · subst ht
      have : t < a.tmps.size := by rw [S.size]; exact hd
      simp [Array.getD, this, h]
    · have := S.env t
      rw [if_neg ht]
      simpa [Array.getD_eq_getD_getElem?, Array.getElem?_setIfInBounds, Ne.symm ht] using this

theorem Sim.putTop (S : Sim C s L a w) (u : Value) {d : Option Nat} (hd : ∀ t, d = some t → t < C.n) : Sim C (s.put d .top) L (a.put d u) w := S.put (v := .top) trivial hd
end

/-! ### The types' facts that the operations ask -/
def tsz (P : Program) (t : TypeId) : Option Nat := (P.info? t).map (·.size)
def tzero (P : Program) (t : TypeId) : Option Value := (P.info? t).bind (·.zero)
def isAggT (P : Program) (t : TypeId) : Option Bool := (P.underlying t).map fun | .struct _ => true | .array _ _ => true | _ => false
def elemT (P : Program) (t : TypeId) : Option TypeId := match P.underlying t with | some (.slice e) => some e | _ => none
def fieldT (P : Program) (t : TypeId) (f : Nat) : Option (TypeId × Nat) := match P.underlying t with | some (.struct fs) => (fs[f]?).map fun x => (x.type, x.offset) | _ => none
def arrayT (P : Program) (t : TypeId) : Option (Nat × TypeId) := match P.underlying t with | some (.array n e) => some (n, e) | _ => none
def isStr (P : Program) (t : TypeId) : Bool := match P.underlying t with | some .string => true | _ => false
def isBoolT (P : Program) (t : TypeId) : Bool := match P.underlying t with | some .bool => true | _ => false
def intT (P : Program) (t : TypeId) : Option IntKind := match P.underlying t with | some (.int k) => some k | _ => none

section
variable {P : Program} {t : TypeId}
theorem tsz_info {n : Nat} (h : tsz P t = some n) : ∃ i, P.info? t = some i ∧ i.size = n := by simpa [tsz] using h
theorem tzero_info {v : Value} (h : tzero P t = some v) : ∃ i, P.info? t = some i ∧ i.zero = some v := by simpa [tzero, Option.bind_eq_some_iff] using h
theorem elemT_und {e : TypeId} (h : elemT P t = some e) : P.underlying t = some (.slice e) := by
  unfold elemT at h; split at h <;> simp_all
theorem arrayT_und {n : Nat} {e : TypeId} (h : arrayT P t = some (n, e)) : P.underlying t = some (.array n e) := by
  unfold arrayT at h; split at h <;> simp_all
theorem isStr_und (h : isStr P t = true) : P.underlying t = some .string := by
  unfold isStr at h; split at h <;> simp_all
theorem isBoolT_und (h : isBoolT P t = true) : P.underlying t = some .bool := by
  unfold isBoolT at h; split at h <;> simp_all
theorem intT_und {k : IntKind} (h : intT P t = some k) : P.underlying t = some (.int k) := by
  unfold intT at h; split at h <;> simp_all
theorem fieldT_und {f n : Nat} {ft : TypeId} (h : fieldT P t f = some (ft, n)) : ∃ fs fd, P.underlying t = some (.struct fs) ∧ fs[f]? = some fd ∧ fd.type = ft ∧ fd.offset = n := by
  unfold fieldT at h
  split at h
  · rename_i fs hu
    simp only [Option.map_eq_some_iff, Prod.mk.injEq] at h
    obtain ⟨fd, h1, h2, h3⟩ := h
    exact ⟨fs, fd, hu, h1, h2, h3⟩
  · cases h
theorem run_tsz {n : Nat} (h : tsz P t = some n) (w : World) : (sizeOf t).run P w = .ok n w := by
  obtain ⟨i, h1, h2⟩ := tsz_info h
  simp [sizeOf, typeInfo, h1, h2]
theorem run_tzero {v : Value} (h : tzero P t = some v) (w : World) : (zeroValue t).run P w = .ok v w := by
  obtain ⟨i, h1, h2⟩ := tzero_info h
  simp [zeroValue, typeInfo, h1, h2]
theorem run_isAgg {b : Bool} (h : isAggT P t = some b) (w : World) : (isAgg t).run P w = .ok b w := by
  simp only [isAggT, Option.map_eq_some_iff] at h
  obtain ⟨d, h1, h2⟩ := h
  cases d <;> simp_all [isAgg, run_underlying h1]
end

/-- A value's cells. -/
def V.cs : V → Option (List V)
  | .agg l => some l
  | .top => none
  | .c v => some (v.cells.toList.map .c)
  | .sl t k xs => some [.sl t k xs]
  | .tup vs => some [.tup vs]
  | .ref b o => some [.ref b o]
  | .el t k xs i o => some [.el t k xs i o]
  | .fn f a b => some [.fn f a b]
  | .nif => some [.nif]

theorem rep_cs {L : Lay} {w : World} {v : V} {u : Value} {l : List V} (h : Rep L w v u) (hc : v.cs = some l) : Reps L w l u.cells.toList := by
  cases v <;> simp only [V.cs, Option.some.injEq, reduceCtorEq] at hc
  case c x => subst hc; simp only [Rep] at h; subst h; exact reps_c L w _
  case agg cs => subst hc; obtain ⟨a, rfl, h⟩ := h; exact h
  all_goals
    subst hc
    have hu : u.cells.toList = [u] := by
      first
        | (obtain ⟨_, _, _, rfl, _⟩ := h; rfl)
        | (obtain ⟨_, rfl, _⟩ := h; rfl)
        | (obtain ⟨_, _, rfl, _⟩ := h; rfl)
        | (obtain ⟨_, _, _, h1, _⟩ := h; subst h1; rfl)
    rw [hu]
    exact ⟨u, [], rfl, h, rfl⟩

/-! ### Numbers, strings, truth values -/
def binI (op : BinOp) (k : IntKind) (a b : Int) : Option Value :=
  match op with
  | .add => some (.int k (k.wrap (a + b)))
  | .sub => some (.int k (k.wrap (a - b)))
  | .mul => some (.int k (k.wrap (a * b)))
  | .quo => if b = 0 then none else some (.int k (k.wrap (a.tdiv b)))
  | .rem => if b = 0 then none else some (.int k (a.tmod b))
  | .and => some (.int k (bits .and k a b))
  | .or => some (.int k (bits .or k a b))
  | .xor => some (.int k (bits .xor k a b))
  | .andNot => some (.int k (bits .andNot k a b))
  | .eql => some (.bool (a == b))
  | .neq => some (.bool (a != b))
  | .lss => some (.bool (decide (a < b)))
  | .leq => some (.bool (decide (a ≤ b)))
  | .gtr => some (.bool (decide (a > b)))
  | .geq => some (.bool (decide (a ≥ b)))
  | .shl | .shr => none

def strV (op : BinOp) (a b : ByteArray) : Option Value :=
  match op with
  | .add => if a.size + b.size ≤ 9223372036854775807 then some (.string (a ++ b)) else none
  | .eql => some (.bool (decide (a = b)))
  | .neq => some (.bool (!decide (a = b)))
  | .lss => some (.bool (Op.bytesLess a.toList b.toList))
  | .leq => some (.bool (Op.bytesLess a.toList b.toList || decide (a = b)))
  | .gtr => some (.bool (!(Op.bytesLess a.toList b.toList || decide (a = b))))
  | .geq => some (.bool (!Op.bytesLess a.toList b.toList))
  | _ => none

def isNilSl : V → Option Bool
  | .c (.slice none _ _) => some true
  | .sl _ _ (_ :: _) => some false
  | .sl .nn _ [] => some false
  | _ => none

/-! ### Pointers held against nil and against themselves -/
def isPtr (P : Program) (t : TypeId) : Bool := match P.underlying t with | some (.pointer e) => (P.info? e).isSome | _ => false
def isNilPtr : V → Option Bool
  | .c (.pointer p) => some p.isNone
  | .ref _ _ => some false
  | .el _ _ _ _ _ => some false
  | _ => none
/-! ### Structs of numbers, truth values and strings, field by field -/
inductive EqK where
  | n
  | b
  | s
def eqPl1 (P : Program) (f : Field) : Option (Nat × EqK) :=
  if f.name = "_" then none else
    match P.underlying f.type with
    | some (.int _) => some (f.offset, .n)
    | some .bool => some (f.offset, .b)
    | some .string => some (f.offset, .s)
    | _ => none
def eqPl (P : Program) (t : TypeId) : Option (List (Nat × EqK)) :=
  if P.stoodInHeld t = true ∨ P.eqGuardType P.depth t = true then none else
    match P.underlying t with
    | some (.struct fs) => fs.toList.mapM (eqPl1 P)
    | _ => none
def eqK (k : EqK) (x y : Option V) (z : Option Bool) : Option Bool :=
  match k, x, y with
  | .n, some (.c (.int k a)), some (.c (.int k' b)) => if k = k' then z.map fun z => (a == b) && z else none
  | .b, some (.c (.bool a)), some (.c (.bool b)) => z.map fun z => (a == b) && z
  | .s, some (.c (.string a)), some (.c (.string b)) => z.map fun z => decide (a = b) && z
  | _, _, _ => none
def eqL : List (Nat × EqK) → List V → List V → Option Bool
  | [], _, _ => some true
  | (o, k) :: r, xs, ys => eqK k xs[o]? ys[o]? (eqL r xs ys)

def ptrV (P : Program) (op : BinOp) (t : TypeId) (x y : V) : Option V :=
  match op, x, y with
  | .eql, x, .c (.pointer none) => if isPtr P t = true then (isNilPtr x).map fun b => .c (.bool b) else none
  | .neq, x, .c (.pointer none) => if isPtr P t = true then (isNilPtr x).map fun b => .c (.bool (!b)) else none
  | .eql, .ref b o, .ref b' o' => if isPtr P t = true ∧ b = b' ∧ o = o' then some (.c (.bool true)) else none
  | .neq, .ref b o, .ref b' o' => if isPtr P t = true ∧ b = b' ∧ o = o' then some (.c (.bool false)) else none
  | .eql, .agg xs, .agg ys => (eqPl P t).bind fun pl => (eqL pl xs ys).map fun b => .c (.bool b)
  | .neq, .agg xs, .agg ys => (eqPl P t).bind fun pl => (eqL pl xs ys).map fun b => .c (.bool (!b))
  | _, _, _ => none

def binV (P : Program) (op : BinOp) (t : TypeId) (x y : V) : Option V :=
  match op, x, y with
  | .shl, .c (.int k a), .c (.int _ b) => if b < 0 then none else some (.c (.int k (k.wrap (a * 2 ^ min b.toNat k.bits))))
  | .shr, .c (.int k a), .c (.int _ b) => if b < 0 then none else some (.c (.int k (a.fdiv (2 ^ min b.toNat k.bits))))
  | op, .c (.int k a), .c (.int k' b) => if k = k' then (binI op k a b).map .c else none
  | op, .c (.string a), .c (.string b) => (strV op a b).map .c
  | .eql, .c (.bool a), .c (.bool b) => if isBoolT P t then some (.c (.bool (a == b))) else none
  | .neq, .c (.bool a), .c (.bool b) => if isBoolT P t then some (.c (.bool (!(a == b)))) else none
  | .eql, x, .c (.slice none 0 0) => if (elemT P t).isSome then (isNilSl x).map fun b => .c (.bool b) else none
  | .neq, x, .c (.slice none 0 0) => if (elemT P t).isSome then (isNilSl x).map fun b => .c (.bool (!b)) else none
  | op, x, y => ptrV P op t x y

theorem bytes_eq (a b : ByteArray) : (a.toList == b.toList) = decide (a = b) := by
  rw [Bool.eq_iff_iff]
  simp only [ByteArray.toList_eq, beq_iff_eq, decide_eq_true_eq]
  constructor
  · intro h
    have := Array.ext' h
    cases a; cases b; simp_all
  · intro h; rw [h]

section
variable {P : Program} {L : Lay} {w : World}

theorem isNilSl_rep {x : V} {u : Value} {b : Bool} (h : isNilSl x = some b) (r : Rep L w x u) : ∃ a n c, u = .slice a n c ∧ a.isNone = b := by
  unfold isNilSl at h
  split at h
  · simp only [Rep] at r; subst r; simp at h; exact ⟨_, _, _, rfl, by simp [← h]⟩
  · rename_i t k y ys
    obtain ⟨a, cap, cells, rfl, h2, h3⟩ := r
    simp at h
    refine ⟨_, _, _, rfl, ?_⟩
    cases t with
    | fz =>
      obtain ⟨_, h3⟩ := h3
      simp at h3
      obtain ⟨g, o, rfl, _⟩ := h3
      simp [← h]
    | nn => simp [SlMem] at h3
    | own id e =>
      rcases h3 with ⟨h3, _⟩ | ⟨g, arr, _, rfl, _⟩
      · simp at h3
      · simp [← h]
  · obtain ⟨a, cap, cells, rfl, h2, h3⟩ := r
    simp at h
    refine ⟨_, _, _, rfl, ?_⟩
    obtain ⟨_, h3⟩ := h3
    cases a with
    | none => cases h3
    | some _ => simp [← h]
  · cases h

theorem binI_run {op : BinOp} {k : IntKind} {a b : Int} {r : Value} (h : binI op k a b = some r) (t : TypeId) : (binOp op t (.int k a) (.int k b)).run P w = .ok r w := by
  cases op <;> simp only [binI, Option.some.injEq, reduceCtorEq, Option.ite_none_left_eq_some] at h
  case quo => obtain ⟨h0, h⟩ := h; subst h; simp [binOp, Op.intDiv, h0]
  case rem => obtain ⟨h0, h⟩ := h; subst h; simp [binOp, Op.intDiv, h0]
  all_goals
    subst h
    simp [binOp, Op.intArith, Op.intCmp, intBits_and, intBits_or, intBits_xor, intBits_andNot]

theorem strV_run {op : BinOp} {a b : ByteArray} {r : Value} (h : strV op a b = some r) (t : TypeId) : (binOp op t (.string a) (.string b)).run P w = .ok r w := by
  cases op <;> simp only [strV, Option.some.injEq, reduceCtorEq, Option.ite_none_right_eq_some] at h
  case add =>
    obtain ⟨h0, h⟩ := h
    subst h
    have : ¬ ((a.size + b.size : Nat) : Int) > IntKind.i64.max := by rw [IntKind.max_i64]; omega
    simp only [binOp, Op.stringOp]
    rw [if_neg this]; rfl
  all_goals
    subst h
    simp [binOp, Op.stringOp, bytes_eq]

theorem eqGuard_ok (op : BinOp) (t : TypeId) (x y : Operand) (u v : Value) (h1 : u ≠ .nilIface) (h2 : ∀ a, u ≠ .agg a) : (eqGuard op t x y u v).run P w = .ok () w := by
  cases u <;> first | exact absurd rfl h1 | exact absurd rfl (h2 _) | (cases op <;> rfl)

theorem run_equalIn_sl (d : Nat) {t e : TypeId} (hu : P.underlying t = some (.slice e)) (a : Option Addr) (n c : Nat) : (Op.equalIn (d + 1) t (.slice a n c) (.slice none 0 0)).run P w = .ok a.isNone w := by
  cases a <;> simp [Op.equalIn, run_underlying hu]
theorem run_equal_sl {t e : TypeId} (hu : P.underlying t = some (.slice e)) (a : Option Addr) (n c : Nat) : (Op.equal t (.slice a n c) (.slice none 0 0)).run P w = .ok a.isNone w := run_equalIn_sl 9999 hu a n c

theorem isPtr_und {t : TypeId} (h : isPtr P t = true) : ∃ e j, P.underlying t = some (.pointer e) ∧ P.info? e = some j ∧ P.pointee t = e := by
  unfold isPtr at h
  split at h
  · rename_i e hu
    obtain ⟨j, hj⟩ := Option.isSome_iff_exists.1 h
    exact ⟨e, j, hu, hj, by simp [Program.pointee, hu]⟩
  · cases h
theorem isNilPtr_rep {x : V} {u : Value} {b : Bool} (h : isNilPtr x = some b) (r : Rep L w x u) : ∃ p, u = .pointer p ∧ p.isNone = b := by
  unfold isNilPtr at h
  split at h
  · simp only [Rep] at r; subst r; exact ⟨_, rfl, by simpa using h⟩
  · obtain ⟨g, _, rfl⟩ := r; exact ⟨_, rfl, by simpa using h⟩
  · obtain ⟨g, o, cells, rfl, _⟩ := r; exact ⟨_, rfl, by simpa using h⟩
  · cases h
theorem eqPl_und {t : TypeId} {pl : List (Nat × EqK)} (h : eqPl P t = some pl) : P.stoodInHeld t = false ∧ P.eqGuardType P.depth t = false ∧ P.underlying t = some (.struct (P.fieldsOf t)) ∧ (P.fieldsOf t).toList.mapM (eqPl1 P) = some pl := by
  unfold eqPl at h
  split at h
  · cases h
  · rename_i h0
    simp only [not_or, Bool.not_eq_true] at h0
    split at h
    · rename_i fs hu
      have : P.fieldsOf t = fs := by simp [Program.fieldsOf, hu]
      rw [this]
      exact ⟨h0.1, h0.2, hu, h⟩
    · cases h
theorem eqL_run (d : Nat) {uxs uys : Array Value} {xs ys : List V} (rx : Reps L w xs uxs.toList) (ry : Reps L w ys uys.toList) : ∀ (fs : List Field) (pl : List (Nat × EqK)) (b : Bool), fs.mapM (eqPl1 P) = some pl → eqL pl xs ys = some b →
    (Op.eqFields (d + 1) uxs uys fs).run P w = .ok b w := by
  intro fs
  induction fs with
  | nil =>
    intro pl b h1 h2
    simp only [List.mapM_nil, pure, Option.some.injEq] at h1
    subst h1
    simp only [eqL, Option.some.injEq] at h2
    subst h2
    rfl
  | cons f fs ih =>
    intro pl b h1 h2
    rw [List.mapM_cons] at h1
    simp only [bind, Option.bind_eq_some_iff, pure, Option.some.injEq] at h1
    obtain ⟨⟨o, k⟩, h1, pl', h3, rfl⟩ := h1
    rw [eqL] at h2
    unfold eqPl1 at h1
    split at h1
    · cases h1
    · rename_i hn
      have step : ∀ (u v : Value) (r z : Bool), uxs[f.offset]? = some u → uys[f.offset]? = some v → isAggT P f.type = some false → (Op.equalIn (d + 1) f.type u v).run P w = .ok r w → eqL pl' xs ys = some z → (Op.eqFields (d + 1) uxs uys (f :: fs)).run P w = .ok (r && z) w := by
        intro u v r z hu hv ha hr hz
        have p1 : (part f.type uxs f.offset).run P w = .ok u w := by simp [part, run_isAgg ha, hu]
        have p2 : (part f.type uys f.offset).run P w = .ok v w := by simp [part, run_isAgg ha, hv]
        have := ih pl' z h3 hz
        simp only [Op.eqFields, hn, ne_eq, not_false_eq_true, if_true, Sem.run_bind, p1, p2, hr, Result.andThen_ok]
        cases r
        · rfl
        · simpa using this
      unfold eqK at h2
      split at h2
      · rename_i k1 a k2 b' hx hy
        simp only [Option.ite_none_right_eq_some, Option.map_eq_some_iff] at h2
        obtain ⟨rfl, z, hz, rfl⟩ := h2
        split at h1
        · rename_i q hq
          simp only [Option.some.injEq, Prod.mk.injEq] at h1
          obtain ⟨rfl, _⟩ := h1
          obtain ⟨u, hu, hru⟩ := rx.get hx
          obtain ⟨v, hv, hrv⟩ := ry.get hy
          simp only [Rep] at hru hrv
          subst hru; subst hrv
          exact step _ _ _ z (by simpa using hu) (by simpa using hv) (by simp [isAggT, hq]) (run_equalIn_int w d f.type k1 q a b' hq) hz
        all_goals simp at h1
      · rename_i a b' hx hy
        simp only [Option.map_eq_some_iff] at h2
        obtain ⟨z, hz, rfl⟩ := h2
        split at h1
        · simp at h1
        · rename_i hq
          simp only [Option.some.injEq, Prod.mk.injEq] at h1
          obtain ⟨rfl, _⟩ := h1
          obtain ⟨u, hu, hru⟩ := rx.get hx
          obtain ⟨v, hv, hrv⟩ := ry.get hy
          simp only [Rep] at hru hrv
          subst hru; subst hrv
          exact step _ _ _ z (by simpa using hu) (by simpa using hv) (by simp [isAggT, hq]) (run_equalIn_bool w d f.type a b' hq) hz
        all_goals simp at h1
      · rename_i a b' hx hy
        simp only [Option.map_eq_some_iff] at h2
        obtain ⟨z, hz, rfl⟩ := h2
        split at h1
        · simp at h1
        · simp at h1
        · rename_i hq
          simp only [Option.some.injEq, Prod.mk.injEq] at h1
          obtain ⟨rfl, _⟩ := h1
          obtain ⟨u, hu, hru⟩ := rx.get hx
          obtain ⟨v, hv, hrv⟩ := ry.get hy
          simp only [Rep] at hru hrv
          subst hru; subst hrv
          refine step _ _ _ z (by simpa using hu) (by simpa using hv) (by simp [isAggT, hq]) ?_ hz
          rw [← bytes_eq]
          exact run_equalIn_string w d f.type a b' hq
        all_goals simp at h1
      · cases h2
theorem eqAgg_run {t : TypeId} {pl : List (Nat × EqK)} {xs ys : List V} {b : Bool} {uxs uys : Array Value} (h1 : eqPl P t = some pl) (h2 : eqL pl xs ys = some b) (rx : Reps L w xs uxs.toList) (ry : Reps L w ys uys.toList) :
    (Op.equal t (.agg uxs) (.agg uys)).run P w = .ok b w := by
  obtain ⟨g1, g2, g3, g4⟩ := eqPl_und h1
  show (Op.equalIn (9999 + 1) t (.agg uxs) (.agg uys)).run P w = _
  rw [run_equalIn_struct w 9999 t uxs uys g3 g1]
  exact eqL_run 9998 rx ry _ _ _ g4 h2
theorem eqGuard_agg {op : BinOp} {t : TypeId} (h : P.eqGuardType P.depth t = false) (x y : Operand) (u v : Array Value) : (eqGuard op t x y (.agg u) (.agg v)).run P w = .ok () w := by
  cases op <;> simp [eqGuard, h]
theorem ptrV_run {op : BinOp} {t : TypeId} {x y r : V} {ux uy : Value} (h : ptrV P op t x y = some r) (rx : Rep L w x ux) (ry : Rep L w y uy) (ox oy : Operand) :
    ∃ u, (do eqGuard op t ox oy ux uy; binOp op t ux uy : Sem Value).run P w = .ok u w ∧ Rep L w r u := by
  unfold ptrV at h
  split at h
  · simp only [Rep] at ry; subst ry
    simp only [Option.ite_none_right_eq_some, Option.map_eq_some_iff] at h
    obtain ⟨h0, b, h1, rfl⟩ := h
    obtain ⟨p, rfl, hp⟩ := isNilPtr_rep h1 rx
    obtain ⟨e, j, hu, hj, he⟩ := isPtr_und h0
    refine ⟨.bool p.isNone, ?_, by rw [hp]; rfl⟩
    rw [Sem.run_bind, eqGuard_ok _ _ _ _ _ _ (by simp) (by simp)]
    exact run_eql_pointer_nil w t p (by rw [he]; exact hu)
  · simp only [Rep] at ry; subst ry
    simp only [Option.ite_none_right_eq_some, Option.map_eq_some_iff] at h
    obtain ⟨h0, b, h1, rfl⟩ := h
    obtain ⟨p, rfl, hp⟩ := isNilPtr_rep h1 rx
    obtain ⟨e, j, hu, hj, he⟩ := isPtr_und h0
    refine ⟨.bool (!p.isNone), ?_, by rw [hp]; rfl⟩
    rw [Sem.run_bind, eqGuard_ok _ _ _ _ _ _ (by simp) (by simp)]
    exact run_neq_pointer_nil w t p (by rw [he]; exact hu)
  · simp only [Option.ite_none_right_eq_some, Option.some.injEq] at h
    obtain ⟨⟨h0, rfl, rfl⟩, rfl⟩ := h
    obtain ⟨g, hg, rfl⟩ := rx
    obtain ⟨g', hg', rfl⟩ := ry
    rw [hg] at hg'
    simp only [Option.some.injEq] at hg'
    subst hg'
    obtain ⟨e, j, hu, hj, he⟩ := isPtr_und h0
    refine ⟨.bool true, ?_, rfl⟩
    rw [Sem.run_bind, eqGuard_ok _ _ _ _ _ _ (by simp) (by simp)]
    exact run_eql_ptr_same w _ hu hj
  · simp only [Option.ite_none_right_eq_some, Option.some.injEq] at h
    obtain ⟨⟨h0, rfl, rfl⟩, rfl⟩ := h
    obtain ⟨g, hg, rfl⟩ := rx
    obtain ⟨g', hg', rfl⟩ := ry
    rw [hg] at hg'
    simp only [Option.some.injEq] at hg'
    subst hg'
    obtain ⟨e, j, hu, hj, he⟩ := isPtr_und h0
    refine ⟨.bool false, ?_, rfl⟩
    rw [Sem.run_bind, eqGuard_ok _ _ _ _ _ _ (by simp) (by simp)]
    exact Lib.run_neq_ptr_same w _ hu hj
  · simp only [Option.bind_eq_some_iff, Option.map_eq_some_iff] at h
    obtain ⟨pl, h1, b, h2, rfl⟩ := h
    obtain ⟨u, rfl, ru⟩ := rx
    obtain ⟨v, rfl, rv⟩ := ry
    refine ⟨.bool b, ?_, rfl⟩
    rw [Sem.run_bind, eqGuard_agg (eqPl_und h1).2.1]
    have := eqAgg_run h1 h2 ru rv
    simp only [binOp, Result.andThen_ok, Sem.run_bind, this, Sem.run_pure]
  · simp only [Option.bind_eq_some_iff, Option.map_eq_some_iff] at h
    obtain ⟨pl, h1, b, h2, rfl⟩ := h
    obtain ⟨u, rfl, ru⟩ := rx
    obtain ⟨v, rfl, rv⟩ := ry
    refine ⟨.bool (!b), ?_, rfl⟩
    rw [Sem.run_bind, eqGuard_agg (eqPl_und h1).2.1]
    have := eqAgg_run h1 h2 ru rv
    simp only [binOp, Result.andThen_ok, Sem.run_bind, this, Sem.run_pure]
  · cases h

theorem binV_run {op : BinOp} {t : TypeId} {x y r : V} {ux uy : Value} (h : binV P op t x y = some r) (rx : Rep L w x ux) (ry : Rep L w y uy) (ox oy : Operand) :
    ∃ u, (do eqGuard op t ox oy ux uy; binOp op t ux uy : Sem Value).run P w = .ok u w ∧ Rep L w r u := by
  unfold binV at h
  split at h
  · simp only [Rep] at rx ry; subst rx; subst ry
    simp only [Option.ite_none_left_eq_some, Option.some.injEq] at h
    obtain ⟨h0, rfl⟩ := h
    refine ⟨_, ?_, rfl⟩
    rw [Sem.run_bind, eqGuard_ok _ _ _ _ _ _ (by simp) (by simp)]
    simp [binOp, Op.shift, h0]
  · simp only [Rep] at rx ry; subst rx; subst ry
    simp only [Option.ite_none_left_eq_some, Option.some.injEq] at h
    obtain ⟨h0, rfl⟩ := h
    refine ⟨_, ?_, rfl⟩
    rw [Sem.run_bind, eqGuard_ok _ _ _ _ _ _ (by simp) (by simp)]
    simp [binOp, Op.shift, h0]
  · simp only [Rep] at rx ry; subst rx; subst ry
    simp only [Option.ite_none_right_eq_some, Option.map_eq_some_iff] at h
    obtain ⟨rfl, v, h1, rfl⟩ := h
    exact ⟨v, by rw [Sem.run_bind, eqGuard_ok _ _ _ _ _ _ (by simp) (by simp)]; exact binI_run h1 t, rfl⟩
  · simp only [Rep] at rx ry; subst rx; subst ry
    simp only [Option.map_eq_some_iff] at h
    obtain ⟨v, h1, rfl⟩ := h
    exact ⟨v, by rw [Sem.run_bind, eqGuard_ok _ _ _ _ _ _ (by simp) (by simp)]; exact strV_run h1 t, rfl⟩
  · simp only [Rep] at rx ry; subst rx; subst ry
    simp only [Option.ite_none_right_eq_some, Option.some.injEq] at h
    obtain ⟨h0, rfl⟩ := h
    exact ⟨_, by rw [Sem.run_bind, eqGuard_ok _ _ _ _ _ _ (by simp) (by simp)]; exact run_eql_bool w t _ _ (isBoolT_und h0), rfl⟩
  · simp only [Rep] at rx ry; subst rx; subst ry
    simp only [Option.ite_none_right_eq_some, Option.some.injEq] at h
    obtain ⟨h0, rfl⟩ := h
    exact ⟨_, by rw [Sem.run_bind, eqGuard_ok _ _ _ _ _ _ (by simp) (by simp)]; exact run_neq_bool w t _ _ (isBoolT_und h0), rfl⟩
  · simp only [Rep] at ry; subst ry
    simp only [Option.ite_none_right_eq_some, Option.map_eq_some_iff] at h
    obtain ⟨h0, b, h1, rfl⟩ := h
    obtain ⟨a, n, c, rfl, h2⟩ := isNilSl_rep h1 rx
    obtain ⟨e, he⟩ := Option.isSome_iff_exists.1 h0
    have hu := elemT_und he
    refine ⟨.bool a.isNone, ?_, by rw [h2]; rfl⟩
    rw [Sem.run_bind, eqGuard_ok _ _ _ _ _ _ (by simp) (by simp)]
    simp only [binOp]
    simp [run_equal_sl hu]
  · simp only [Rep] at ry; subst ry
    simp only [Option.ite_none_right_eq_some, Option.map_eq_some_iff] at h
    obtain ⟨h0, b, h1, rfl⟩ := h
    obtain ⟨a, n, c, rfl, h2⟩ := isNilSl_rep h1 rx
    obtain ⟨e, he⟩ := Option.isSome_iff_exists.1 h0
    have hu := elemT_und he
    refine ⟨.bool (!a.isNone), ?_, by rw [h2]; rfl⟩
    rw [Sem.run_bind, eqGuard_ok _ _ _ _ _ _ (by simp) (by simp)]
    simp only [binOp]
    simp [run_equal_sl hu]
  · exact ptrV_run h rx ry ox oy
end
end Go.Pg
end

section
/-
  The pure layer: the operations that read or rearrange values and leave the world as it is.
-/
namespace Go.Pg
open Go

def u8s : List V → Option (List Int)
  | [] => some []
  | .c (.int .u8 n) :: r => (u8s r).map (n :: ·)
  | _ => none

def unV (op : UnOp) (x : V) : Option V :=
  match op, x with
  | .neg, .c (.int k n) => some (.c (.int k (k.wrap (0 - n))))
  | .xor, .c (.int k n) => some (.c (.int k (bits .xor k (if k.signed then -1 else k.max) n)))
  | .not, .c (.bool b) => some (.c (.bool (!b)))
  | _, _ => none

def convV (P : Program) (src dst : TypeId) (x : V) : Option V :=
  match intT P dst, x with
  | some k, .c (.int _ n) => if (P.underlying src).isSome then some (.c (.int k (k.wrap n))) else none
  | _, .c (.string z) => if (P.underlying src).isSome && isStr P dst then some (.c (.string z)) else none
  | _, .c (.slice none _ _) => if ((elemT P src).bind (intT P)) = some .u8 && isStr P dst then some (.c (.string .empty)) else none
  | _, .sl _ k xs => if ((elemT P src).bind (intT P)) = some .u8 && isStr P dst && k == 1 then (u8s xs).map fun ns => .c (.string (strOfNums ns)) else none
  | _, _ => none

def pickV (b : Bool) (x y : V) : V :=
  match x, y with
  | .c (.bool p), .c (.bool q) => .c (.bool (bif b then p else q))
  | x, y => bif b then x else y

def ldCells (P : Program) (t : TypeId) (cs : List V) (off : Nat) : Option V :=
  match isAggT P t with
  | some true => (tsz P t).bind fun n => if off + n ≤ cs.length then some (.agg ((cs.drop off).take n)) else none
  | some false => cs[off]?
  | none => none

def iaV (P : Program) (t : TypeId) (x i : V) : Option V :=
  match x, i with
  | .sl tg k xs, .c (.int _ n) => if (elemT P t).bind (tsz P) = some k ∧ 0 ≤ n ∧ n < xs.length then some (.el tg k xs n.toNat 0) else none
  | .ref b off, .c (.int _ n) => (arrayT P t).bind fun (len, e) => (tsz P e).bind fun k => if 0 ≤ n ∧ n < len then some (.ref b (off + n.toNat * k)) else none
  | _, _ => none

def faV (P : Program) (t : TypeId) (x : V) (f : Nat) : Option V :=
  (fieldT P t f).bind fun (ft, n) => (tsz P ft).bind fun k => if k = 0 then none else
    match x with
    | .ref b off => some (.ref b (off + n))
    | .el tg j xs i off => some (.el tg j xs i (off + n))
    | _ => none

def fieldV (P : Program) (t : TypeId) (x : V) (f : Nat) : Option V :=
  match x with
  | .agg cs => (fieldT P t f).bind fun (ft, n) => ldCells P ft cs n
  | _ => none

def ixV (P : Program) (t : TypeId) (x i : V) : Option V :=
  match x, i with
  | .c (.string z), .c (.int _ n) => if isStr P t = true ∧ 0 ≤ n ∧ n < z.size then some (.c (.int .u8 ((z.data.toList.getD n.toNat 0).toNat))) else none
  | .agg cs, .c (.int _ n) => (arrayT P t).bind fun (len, e) => (tsz P e).bind fun k => if 0 ≤ n ∧ n < len then ldCells P e cs (n.toNat * k) else none
  | _, _ => none

/-- A bound of a slice expression. -/
def bdV (x : Option V) (d : Nat) : Option Int :=
  match x with
  | none => some d
  | some (.c (.int _ n)) => some n
  | _ => none

def slV (P : Program) (t : TypeId) (x : V) (lo hi : Option V) : Option V :=
  match x with
  | .c (.string z) => (bdV lo 0).bind fun l => (bdV hi z.size).bind fun h => if isStr P t = true ∧ 0 ≤ l ∧ l ≤ h ∧ h ≤ z.size then some (.c (.string (z.extract l.toNat h.toNat))) else none
  | .sl .fz k xs => (bdV lo 0).bind fun l => (bdV hi xs.length).bind fun h => if (elemT P t).bind (tsz P) = some k ∧ 0 ≤ l ∧ l ≤ h ∧ h ≤ xs.length then some (.sl .fz k ((xs.take h.toNat).drop l.toNat)) else none
  | .c (.slice none 0 0) => (bdV lo 0).bind fun l => (bdV hi 0).bind fun h => if ((elemT P t).bind (tsz P)).isSome ∧ l = 0 ∧ h = 0 then some (.c (.slice none 0 0)) else none
  | _ => none

def lenV (P : Program) (t : TypeId) (x : V) : Option V :=
  match x with
  | .c (.string z) => if isStr P t then some (.c (.int .i64 z.size)) else none
  | .c (.slice none n _) => if (elemT P t).isSome then some (.c (.int .i64 n)) else none
  | .sl _ _ xs => if (elemT P t).isSome then some (.c (.int .i64 xs.length)) else none
  | _ => none

def minmaxV (mx : Bool) (x y : V) : Option V :=
  match x, y with
  | .c (.int k a), .c (.int _ b) => some (.c (.int k (if mx then (if b > a then b else a) else (if b < a then b else a))))
  | _, _ => none

def placesT (P : Program) (t : TypeId) : Option (List (Nat × Nat)) :=
  match P.underlying t with
  | some (.struct fs) => fs.toList.mapM fun f => (tsz P f.type).map fun n => (f.offset, n)
  | _ => none

def fillV (places : List (Nat × Nat)) (cells : List V) : List (Nat × V) → Option (List V)
  | [] => some cells
  | (i, v) :: rest =>
    match places[i]?, v.cs with
    | some (off, size), some l => if l.length = size ∧ off + l.length ≤ cells.length then fillV places (cells.take off ++ l ++ cells.drop (off + l.length)) rest else none
    | _, _ => none

def buildV (P : Program) (t : TypeId) (parts : List (Nat × V)) : Option V :=
  (tzero P t).bind fun z => (placesT P t).bind fun ps => (fillV ps (z.cells.toList.map .c) parts).map .agg

section
variable {P : Program} {L : Lay} {w : World}

theorem Row.cell {g o j : Nat} {cells : List Value} {v : Value} (h : Row w g o cells) (hj : cells[j]? = some v) : w.cell? ⟨g, o + j, none⟩ = some v := by
  obtain ⟨arr, e, fr, h1, h2⟩ := h
  rw [cell_of_row w g (o + j) arr e fr h1]
  rw [← h2, List.getElem?_take] at hj
  split at hj
  · simpa [List.getElem?_drop] using hj
  · cases hj

theorem ElMem.row {t : Tag} {g o : Nat} {cells : List Value} (h : ElMem L w t g o cells) : Row w g o cells := by
  cases t with
  | fz => exact h.2
  | nn => exact h.elim
  | own id e => obtain ⟨_, rfl, arr, h3, h4⟩ := h; exact ⟨arr, e, _, h3, by simpa using h4⟩

theorem SlMem.el {t : Tag} {k : Nat} {a : Option Addr} {len cap : Nat} {cells : List Value} (h : SlMem L w t k a len cap cells) (h0 : 0 < len) (hc : cells.length = len * k) :
    ∃ g o, a = some ⟨g, o, none⟩ ∧ ElMem L w t g o cells := by
  cases t with
  | fz =>
    obtain ⟨_, h | ⟨g, o, h1, h2, h3⟩⟩ := h
    · omega
    · exact ⟨g, o, h1, h2, h3⟩
  | nn => have := h.1; omega
  | own id e =>
    rcases h with ⟨h, _⟩ | ⟨g, arr, h1, h2, h3, h4, h5, h6, h7⟩
    · omega
    · exact ⟨g, 0, h2, h1, rfl, arr, h3, by rw [hc]; exact h7⟩

theorem SlMem.le {t : Tag} {k : Nat} {a : Option Addr} {len cap : Nat} {cells : List Value} (h : SlMem L w t k a len cap cells) : len ≤ cap := by
  cases t with
  | fz => exact h.1
  | nn => have := h.1; omega
  | own id e => rcases h with ⟨h, _, _⟩ | ⟨g, arr, h1, h2, h3, h4, _⟩ <;> omega

theorem add_plain (g o n : Nat) : (⟨g, o, none⟩ : Addr).add n = ⟨g, o + n, none⟩ := Addr.add_lit g o n

theorem run_load_cell {a : Addr} {v : Value} (h : w.cell? a = some v) : (load a).run P w = .ok v w := by simp [h]

theorem ldCells_run {t : TypeId} {cs : List V} {off g o : Nat} {r : V} {us : List Value} (h : ldCells P t cs off = some r) (hr : Reps L w cs us) (hw : Row w g o us) :
    ∃ u, (loadVar t ⟨g, o + off, none⟩).run P w = .ok u w ∧ Rep L w r u := by
  unfold ldCells at h
  split at h
  · rename_i ha
    simp only [Option.bind_eq_some_iff, Option.ite_none_right_eq_some, Option.some.injEq] at h
    obtain ⟨n, hn, hle, rfl⟩ := h
    have hl := hr.length
    have hr' := (hr.drop off).take n
    have hlen : ((us.drop off).take n).length = n := by simp; omega
    have hc : ∀ j v, ((us.drop off).take n)[j]? = some v → w.cell? ((⟨g, o + off, none⟩ : Addr).add j) = some v := by
      intro j v hj
      rw [add_plain, Nat.add_assoc]
      refine hw.cell ?_
      rw [List.getElem?_take] at hj
      split at hj
      · simpa [List.getElem?_drop] using hj
      · cases hj
    refine ⟨.agg ((us.drop off).take n).toArray, ?_, _, rfl, by simpa using hr'⟩
    have := run_loadCells_list (P := P) w ⟨g, o + off, none⟩ _ hc
    rw [hlen] at this
    simp [loadVar, run_isAgg ha, run_tsz hn, this]
  · rename_i ha
    obtain ⟨u, hu, hru⟩ := hr.get h
    refine ⟨u, ?_, hru⟩
    simp [loadVar, run_isAgg ha, hw.cell hu]
  · cases h

theorem part_run {t : TypeId} {cs : List V} {off : Nat} {r : V} {us : Array Value} (h : ldCells P t cs off = some r) (hr : Reps L w cs us.toList) :
    ∃ u, (part t us off).run P w = .ok u w ∧ Rep L w r u := by
  unfold ldCells at h
  split at h
  · rename_i ha
    simp only [Option.bind_eq_some_iff, Option.ite_none_right_eq_some, Option.some.injEq] at h
    obtain ⟨n, hn, hle, rfl⟩ := h
    have hr' := (hr.drop off).take n
    refine ⟨.agg (us.extract off (off + n)), by simp [part, run_isAgg ha, run_tsz hn], _, rfl, ?_⟩
    rw [Array.toList_extract]
    simpa [List.extract_eq_take_drop] using hr'
  · rename_i ha
    obtain ⟨u, hu, hru⟩ := hr.get h
    refine ⟨u, ?_, hru⟩
    simp at hu
    simp [part, run_isAgg ha, hu]
  · cases h

theorem u8s_cells {xs : List V} {ns : List Int} {cells : List Value} (h : u8s xs = some ns) (r : RepE L w 1 xs cells) : cells = ns.map (Value.int .u8) := by
  induction xs generalizing ns cells with
  | nil => simp [u8s] at h; subst h; simpa [RepE] using r
  | cons x xs ih =>
    unfold u8s at h
    split at h
    · rename_i heq; cases heq
    · rename_i n r' heq
      simp only [List.cons.injEq] at heq
      obtain ⟨rfl, rfl⟩ := heq
      simp only [Option.map_eq_some_iff] at h
      obtain ⟨ns', h1, rfl⟩ := h
      obtain ⟨u, rest, rfl, _, _, h4, h5⟩ := r
      simp only [Rep] at h4
      subst h4
      rw [ih h1 h5]
      rfl
    · cases h

theorem unV_run {op : UnOp} {x r : V} {u : Value} (h : unV op x = some r) (rx : Rep L w x u) : ∃ v, (Op.unary op u).run P w = .ok v w ∧ Rep L w r v := by
  unfold unV at h
  split at h
  · simp only [Rep] at rx; subst rx; simp at h; subst h; exact ⟨_, by simp [Op.unary, Op.intArith]; rfl, by simp [Rep]⟩
  · simp only [Rep] at rx; subst rx; simp only [Option.some.injEq] at h; subst h; exact ⟨_, rfl, rfl⟩
  · simp only [Rep] at rx; subst rx; simp at h; subst h; exact ⟨_, rfl, rfl⟩
  · cases h

theorem convV_run {src dst : TypeId} {x r : V} {u : Value} (h : convV P src dst x = some r) (rx : Rep L w x u) : ∃ v, (convert src dst u).run P w = .ok v w ∧ Rep L w r v := by
  unfold convV at h
  split at h
  · rename_i k k' n hk
    simp only [Option.ite_none_right_eq_some, Option.some.injEq] at h
    obtain ⟨h0, rfl⟩ := h
    obtain ⟨d, hd⟩ := Option.isSome_iff_exists.1 h0
    simp only [Rep] at rx; subst rx
    exact ⟨_, by simp [convert, run_underlying hd, run_underlying (intT_und hk), Conv.intToInt], rfl⟩
  · rename_i z hk
    simp only [Option.ite_none_right_eq_some, Bool.and_eq_true, Option.some.injEq] at h
    obtain ⟨⟨h0, h1⟩, rfl⟩ := h
    obtain ⟨d, hd⟩ := Option.isSome_iff_exists.1 h0
    simp only [Rep] at rx; subst rx
    exact ⟨_, by simp [convert, run_underlying hd, run_underlying (isStr_und h1)], rfl⟩
  · simp only [Option.ite_none_right_eq_some, Bool.and_eq_true, decide_eq_true_eq, Option.bind_eq_some_iff, Option.some.injEq] at h
    obtain ⟨⟨⟨e, he, hk⟩, h1⟩, rfl⟩ := h
    simp only [Rep] at rx; subst rx
    exact ⟨_, run_convert_bytes_nil w src e (elemT_und he) (intT_und hk) _ _ dst (isStr_und h1), rfl⟩
  · rename_i t k xs
    simp only [Option.ite_none_right_eq_some, Bool.and_eq_true, decide_eq_true_eq, Option.bind_eq_some_iff, Option.map_eq_some_iff, beq_iff_eq] at h
    obtain ⟨⟨⟨⟨e, he, hk⟩, h1⟩, rfl⟩, ns, hns, rfl⟩ := h
    obtain ⟨a, cap, cells, rfl, h2, h3⟩ := rx
    have hcl := h2.length
    have hce := u8s_cells hns h2
    subst hce
    simp only [List.length_map, Nat.mul_one] at hcl
    rcases Nat.eq_zero_or_pos xs.length with h0 | h0
    · have hnn : ns = [] := List.eq_nil_of_length_eq_zero (by omega)
      subst hnn
      refine ⟨.string .empty, ?_, ?_⟩
      · rw [h0, run_convert_bytes_string w src dst e a 0 cap (elemT_und he) (intT_und hk) (isStr_und h1)]
        cases a <;> simp [Conv.bytesToString, loadCells, loadCellsFrom]
      · simp only [Rep]; rfl
    · obtain ⟨g, o, rfl, h4⟩ := h3.el h0 (by simpa using hcl)
      refine ⟨_, run_convert_bytes_arg w src e (elemT_und he) (intT_und hk) g o _ cap ns hcl ?_ dst (isStr_und h1), rfl⟩
      intro i hi
      refine h4.row.cell ?_
      simp [List.getElem?_eq_getElem (show i < ns.length by omega), List.getD]
  · cases h

theorem pickV_rep {b : Bool} {x y : V} {ux uy : Value} (rx : Rep L w x ux) (ry : Rep L w y uy) : Rep L w (pickV b x y) (if b then ux else uy) := by
  unfold pickV
  split
  · simp only [Rep] at rx ry; subst rx; subst ry; cases b <;> simp [Rep]
  · cases b <;> simpa

theorem iaV_run {t : TypeId} {x i r : V} {ux ui : Value} (h : iaV P t x i = some r) (rx : Rep L w x ux) (ri : Rep L w i ui) : ∃ v, (Instr.indexAt t ux ui).run P w = .ok v w ∧ Rep L w r v := by
  unfold iaV at h
  split at h
  · rename_i tg k xs ik n
    simp only [Option.ite_none_right_eq_some, Option.bind_eq_some_iff, Option.some.injEq] at h
    obtain ⟨⟨⟨e, he, hk⟩, h0, h1⟩, rfl⟩ := h
    simp only [Rep] at ri; subst ri
    obtain ⟨a, cap, cells, rfl, h2, h3⟩ := rx
    obtain ⟨g, o, rfl, h4⟩ := h3.el (by omega) h2.length
    have hu := elemT_und he
    refine ⟨.pointer (some ⟨g, o + n.toNat * k, none⟩), ?_, g, o, cells, by simp, h2, h4⟩
    simp [Instr.indexAt, asIntOf, run_underlying hu, h0, h1, run_tsz hk, add_plain]
  · rename_i b off ik n
    simp only [Option.bind_eq_some_iff, Option.ite_none_right_eq_some, Option.some.injEq, Prod.exists] at h
    obtain ⟨len, e, he, k, hk, ⟨h0, h1⟩, rfl⟩ := h
    simp only [Rep] at ri; subst ri
    obtain ⟨g, hb, rfl⟩ := rx
    have hu := arrayT_und he
    refine ⟨.pointer (some ⟨g, off + n.toNat * k, none⟩), ?_, g, hb, rfl⟩
    simp [Instr.indexAt, asIntOf, run_underlying hu, Instr.sureAddr, h0, h1, run_tsz hk, add_plain]
  · cases h

theorem faV_run {t : TypeId} {f : Nat} {x r : V} {ux : Value} (h : faV P t x f = some r) (rx : Rep L w x ux) : ∃ v, (Instr.fieldAt t ux f).run P w = .ok v w ∧ Rep L w r v := by
  simp only [faV, Option.bind_eq_some_iff, Prod.exists, Option.ite_none_left_eq_some] at h
  obtain ⟨ft, n, hf, k, hk, hk0, h⟩ := h
  obtain ⟨fs, fd, hu, hfd, h1, h2⟩ := fieldT_und hf
  subst h1 h2
  split at h
  · rename_i b off
    simp only [Option.some.injEq] at h; subst h
    obtain ⟨g, hb, rfl⟩ := rx
    refine ⟨.pointer (some ⟨g, off + fd.offset, none⟩), ?_, g, hb, rfl⟩
    simp [Instr.fieldAt, run_underlying hu, hfd, Instr.sureAddr, fieldPlace, run_tsz hk, hk0, add_plain]
  · rename_i tg j xs i off
    simp only [Option.some.injEq] at h; subst h
    obtain ⟨g, o, cells, rfl, h3, h4⟩ := rx
    refine ⟨.pointer (some ⟨g, o + i * j + (off + fd.offset), none⟩), ?_, g, o, cells, rfl, h3, h4⟩
    simp [Instr.fieldAt, run_underlying hu, hfd, Instr.sureAddr, fieldPlace, run_tsz hk, hk0, add_plain, Nat.add_assoc]
  · cases h

theorem fieldV_run {t : TypeId} {f : Nat} {x r : V} {ux : Value} (h : fieldV P t x f = some r) (rx : Rep L w x ux) : ∃ v, (Instr.field t ux f).run P w = .ok v w ∧ Rep L w r v := by
  unfold fieldV at h
  split at h
  · simp only [Option.bind_eq_some_iff, Prod.exists] at h
    obtain ⟨ft, n, hf, h⟩ := h
    obtain ⟨fs, fd, hu, hfd, h1, h2⟩ := fieldT_und hf
    subst h1 h2
    obtain ⟨a, rfl, ra⟩ := rx
    obtain ⟨u, h3, h4⟩ := part_run h ra
    exact ⟨u, by simp [Instr.field, run_underlying hu, hfd, asAgg, h3], h4⟩
  · cases h

theorem ixV_run {t : TypeId} {x i r : V} {ux ui : Value} (h : ixV P t x i = some r) (rx : Rep L w x ux) (ri : Rep L w i ui) : ∃ v, (Instr.index t ux ui).run P w = .ok v w ∧ Rep L w r v := by
  unfold ixV at h
  split at h
  · rename_i z ik n
    simp only [Option.ite_none_right_eq_some, Option.some.injEq] at h
    obtain ⟨⟨h0, h1, h2⟩, rfl⟩ := h
    simp only [Rep] at ri rx; subst ri; subst rx
    have hlt : n.toNat < z.size := by omega
    have hg : z[n.toNat]? = some z[n.toNat] := getElem?_pos z n.toNat hlt
    have hd : z.data.toList.getD n.toNat 0 = z[n.toNat] := by
      have : n.toNat < z.data.toList.length := by simpa using hlt
      simp [List.getD, List.getElem?_eq_getElem this]; rfl
    refine ⟨.int .u8 (z[n.toNat]).toNat, ?_, by rw [hd]; rfl⟩
    simp [Instr.index, asIntOf, run_underlying (isStr_und h0), h1, hg]
  · rename_i cs ik n
    simp only [Option.bind_eq_some_iff, Prod.exists, Option.ite_none_right_eq_some] at h
    obtain ⟨len, e, he, k, hk, ⟨h0, h1⟩, h⟩ := h
    simp only [Rep] at ri; subst ri
    obtain ⟨a, rfl, ra⟩ := rx
    obtain ⟨u, h3, h4⟩ := part_run h ra
    exact ⟨u, by simp [Instr.index, asIntOf, run_underlying (arrayT_und he), h0, h1, run_tsz hk, h3], h4⟩
  · cases h

theorem lenV_run {t ty : TypeId} {x r : V} {ux : Value} (h : lenV P t x = some r) (rx : Rep L w x ux) : ∃ v, (Builtin.len_ #[t] ty #[ux]).run P w = .ok v w ∧ Rep L w r v := by
  unfold lenV at h
  split at h
  · simp only [Option.ite_none_right_eq_some, Option.some.injEq] at h
    obtain ⟨h0, rfl⟩ := h
    simp only [Rep] at rx; subst rx
    exact ⟨_, by simp [Builtin.len_, run_underlying (isStr_und h0), goInt], rfl⟩
  · simp only [Option.ite_none_right_eq_some, Option.some.injEq] at h
    obtain ⟨h0, rfl⟩ := h
    obtain ⟨e, he⟩ := Option.isSome_iff_exists.1 h0
    simp only [Rep] at rx; subst rx
    exact ⟨_, by simp [Builtin.len_, run_underlying (elemT_und he), goInt], rfl⟩
  · simp only [Option.ite_none_right_eq_some, Option.some.injEq] at h
    obtain ⟨h0, rfl⟩ := h
    obtain ⟨e, he⟩ := Option.isSome_iff_exists.1 h0
    obtain ⟨a, cap, cells, rfl, h2, h3⟩ := rx
    exact ⟨_, by simp [Builtin.len_, run_underlying (elemT_und he), goInt], rfl⟩
  · cases h

/-- A bound of a slice expression, in the model. -/
theorem bdV_rep {x : Option V} {ux : Option Value} {d : Nat} {n : Int} (h : bdV x d = some n) (hx : x = none ∧ ux = none ∨ ∃ v u, x = some v ∧ ux = some u ∧ Rep L w v u) :
    (ux = none ∧ n = d) ∨ ∃ k, ux = some (.int k n) := by
  rcases hx with ⟨rfl, rfl⟩ | ⟨v, u, rfl, rfl, hr⟩
  · simp [bdV] at h; exact .inl ⟨rfl, h.symm⟩
  · unfold bdV at h
    split at h
    · rename_i heq; cases heq
    · rename_i k n' heq
      simp only [Option.some.injEq] at heq h
      subst heq; subst h
      simp only [Rep] at hr
      exact .inr ⟨k, by rw [hr]⟩
    · cases h

theorem bounds_run {isS : Bool} {len cap : Nat} {lo hi : Option Value} {l h : Int} (hlc : len ≤ cap) (hl : (lo = none ∧ l = (0 : Nat)) ∨ ∃ k, lo = some (.int k l)) (hh : (hi = none ∧ h = len) ∨ ∃ k, hi = some (.int k h))
    (h0 : 0 ≤ l) (h1 : l ≤ h) (h2 : h ≤ len) : (Instr.sliceBounds isS len cap lo hi none).run P w = .ok (l.toNat, h.toNat, cap) w := by
  have e : (h.toNat : Int) = h := by omega
  have h3 : 0 ≤ h := by omega
  have h4 : h ≤ cap := by omega
  rcases hl with ⟨rfl, rfl⟩ | ⟨k, rfl⟩ <;> rcases hh with ⟨rfl, rfl⟩ | ⟨k', rfl⟩ <;>
    simp [Instr.sliceBounds, Instr.sliceBound, asIntOf, *]

theorem slV_run {t : TypeId} {x r : V} {ux : Value} {lo hi : Option V} {ul uh : Option Value} (h : slV P t x lo hi = some r) (rx : Rep L w x ux)
    (rl : lo = none ∧ ul = none ∨ ∃ v u, lo = some v ∧ ul = some u ∧ Rep L w v u) (rh : hi = none ∧ uh = none ∨ ∃ v u, hi = some v ∧ uh = some u ∧ Rep L w v u) :
    ∃ v, (Instr.sliceAt t ux ul uh none).run P w = .ok v w ∧ Rep L w r v := by
  unfold slV at h
  split at h
  · rename_i z
    simp only [Option.bind_eq_some_iff, Option.ite_none_right_eq_some, Option.some.injEq] at h
    obtain ⟨l, hl, h', hh, ⟨hs, h0, h1, h2⟩, rfl⟩ := h
    simp only [Rep] at rx; subst rx
    have hb := bounds_run (P := P) (w := w) (isS := false) (Nat.le_refl _) (bdV_rep hl rl) (bdV_rep hh rh) h0 h1 h2
    exact ⟨_, by simp [Instr.sliceAt, Instr.slice, run_underlying (isStr_und hs), hb], rfl⟩
  · rename_i k xs
    simp only [Option.bind_eq_some_iff, Option.ite_none_right_eq_some, Option.some.injEq] at h
    obtain ⟨l, hl, h', hh, ⟨⟨e, he, hk⟩, h0, h1, h2⟩, rfl⟩ := h
    obtain ⟨a, cap, cells, rfl, h3, h4⟩ := rx
    have hle := h4.le
    have hb := bounds_run (P := P) (w := w) (isS := true) hle (bdV_rep hl rl) (bdV_rep hh rh) h0 h1 h2
    refine ⟨.slice (if cap = l.toNat then a else a.map (·.add (l.toNat * k))) (h'.toNat - l.toNat) (cap - l.toNat), ?_, ?_⟩
    · simp [Instr.sliceAt, Instr.slice, run_underlying (elemT_und he), hb, run_tsz hk]
    · have hlen : ((xs.take h'.toNat).drop l.toNat).length = h'.toNat - l.toNat := by simp; omega
      refine ⟨_, _, (cells.take (h'.toNat * k)).drop (l.toNat * k), by rw [hlen], (h3.take _).drop _, ?_⟩
      rw [hlen]
      refine ⟨by omega, ?_⟩
      rcases Nat.eq_zero_or_pos (h'.toNat - l.toNat) with hz | hz
      · exact .inl hz
      · right
        obtain ⟨g, o, rfl, hA, arr, ea, fr, h5, h6⟩ := h4.el (by omega) h3.length
        refine ⟨g, o + l.toNat * k, ?_, hA, arr, ea, fr, h5, ?_⟩
        · rw [if_neg (by omega)]; simp [add_plain]
        · rw [← h6]
          have hcl : cells.length = xs.length * k := h3.length
          simp only [← List.drop_drop]
          have : (((arr.toList.drop o).take cells.length).take (h'.toNat * k)) = (arr.toList.drop o).take (h'.toNat * k) := by
            rw [List.take_take, Nat.min_eq_left]
            rw [hcl]; exact Nat.mul_le_mul_right _ (by omega)
          rw [this, List.drop_take]
          simp only [List.length_take, List.length_drop]
          congr 1
          have h8 : cells.length ≤ arr.toList.length - o := by
            have := congrArg List.length h6
            simp only [List.length_take, List.length_drop] at this
            omega
          have h9 : h'.toNat * k ≤ xs.length * k := Nat.mul_le_mul_right _ (by omega)
          omega
  · simp only [Option.bind_eq_some_iff, Option.ite_none_right_eq_some, Option.some.injEq] at h
    obtain ⟨l, hl, h', hh, ⟨hs, rfl, rfl⟩, rfl⟩ := h
    simp only [Rep] at rx; subst rx
    obtain ⟨k, hk⟩ := Option.isSome_iff_exists.1 hs
    simp only [Option.bind_eq_some_iff] at hk
    obtain ⟨e, he, hk⟩ := hk
    have hb := bounds_run (P := P) (w := w) (isS := true) (len := 0) (cap := 0) (Nat.le_refl _) (bdV_rep hl rl) (bdV_rep hh rh) (by decide) (by decide) (by decide)
    exact ⟨_, by simp [Instr.sliceAt, Instr.slice, run_underlying (elemT_und he), hb, run_tsz hk], rfl⟩
  · cases h

theorem ldEl_run {t : TypeId} {tg : Tag} {k i off : Nat} {xs : List V} {ux : Value} {x r : V} {cs : List V} (rx : Rep L w (.el tg k xs i off) ux) (hx : xs[i]? = some x) (hc : x.cs = some cs) (h : ldCells P t cs off = some r) :
    ∃ v, (Instr.loadAt t ux).run P w = .ok v w ∧ Rep L w r v := by
  obtain ⟨g, o, cells, rfl, h3, h4⟩ := rx
  obtain ⟨u, h5, h6, h7, h8⟩ := h3.get hx
  have hrow : Row w g (o + i * k) u.cells.toList := by
    obtain ⟨arr, e, fr, h9, h10⟩ := h4.row
    refine ⟨arr, e, fr, h9, ?_⟩
    have hi : i < xs.length := (List.getElem?_eq_some_iff.1 hx).1
    have hcl : cells.length = xs.length * k := h3.length
    have hik : i * k + k ≤ xs.length * k := by
      have := Nat.mul_le_mul_right k (show i + 1 ≤ xs.length from hi)
      rwa [Nat.add_mul, Nat.one_mul] at this
    rw [← h5, ← h10, ← List.drop_drop, List.drop_take]
    simp only [List.length_take, List.length_drop, List.take_take, Array.length_toList]
    have hal : cells.length ≤ arr.size - o := by
      have := congrArg List.length h10
      simp only [List.length_take, List.length_drop, Array.length_toList] at this
      omega
    congr 1
    omega
  obtain ⟨v, h9, h10⟩ := ldCells_run h (rep_cs h8 hc) hrow
  exact ⟨v, by simpa [Instr.loadAt, Instr.sureAddr] using h9, h10⟩

theorem minmaxV_run {mx : Bool} {at_ : Array TypeId} {ty : TypeId} {x y r : V} {ux uy : Value} (h : minmaxV mx x y = some r) (rx : Rep L w x ux) (ry : Rep L w y uy) :
    ∃ v, (if mx then Builtin.max_ at_ ty #[ux, uy] else Builtin.min_ at_ ty #[ux, uy] : Sem Value).run P w = .ok v w ∧ Rep L w r v := by
  unfold minmaxV at h
  split at h
  · simp only [Option.some.injEq] at h; subst h
    simp only [Rep] at rx ry; subst rx; subst ry
    cases mx
    · exact ⟨_, by simp [Builtin.min_, Builtin.min2]; rfl, by simp [Rep]⟩
    · exact ⟨_, by simp [Builtin.max_, Builtin.max2]; rfl, by simp [Rep]⟩
  · cases h

/-! ### A struct put together -/
theorem fold_cells (vs : List Value) : ∀ (j off : Nat) (cs : Array Value), off + j + vs.length ≤ cs.size →
    ((vs.zipIdx j).foldl (fun (cs : Array Value) (x : Value × Nat) => cs.setIfInBounds (off + x.2) x.1) cs).toList = cs.toList.take (off + j) ++ vs ++ cs.toList.drop (off + j + vs.length) := by
  induction vs with
  | nil => intro j off cs _; simp
  | cons v vs ih =>
    intro j off cs h
    simp only [List.length_cons] at h
    simp only [List.zipIdx_cons, List.foldl_cons]
    rw [ih (j + 1) off _ (by simp; omega)]
    have e := list_seg_step cs.toList (off + j) v vs (by simpa using by omega)
    simpa [Array.toList_setIfInBounds, Nat.add_assoc] using e

theorem fillV_run (ps : List (Nat × Nat)) (place : Nat → Option (Nat × Nat)) (hp : ∀ i, place i = ps[i]?) (sv : Operand → V) (se : Operand → Value) (hs : ∀ x, Rep L w (sv x) (se x)) :
    ∀ (parts : List (Nat × Operand)) (cells r : List V) (ucells : Array Value),
    fillV ps cells (parts.map fun p => (p.1, sv p.2)) = some r → Reps L w cells ucells.toList →
    ∃ ur, Instr.fill place ucells (parts.map fun p => (p.1, se p.2)) = some ur ∧ Reps L w r ur.toList := by
  intro parts
  induction parts with
  | nil =>
    intro cells r ucells h hr
    simp only [List.map_nil, fillV, Option.some.injEq] at h
    subst h
    exact ⟨ucells, rfl, hr⟩
  | cons p rest ih =>
      intro cells r ucells h hr
      obtain ⟨i, x⟩ := p
      have hv := hs x
      simp only [List.map_cons, fillV] at h ⊢
      generalize sv x = v at hv h
      generalize se x = u at hv ⊢
      split at h
      · rename_i off size l hpl hcs
        simp only [Option.ite_none_right_eq_some] at h
        obtain ⟨⟨h1, h2⟩, h⟩ := h
        have hrl := rep_cs hv hcs
        have hll := hrl.length
        have hcl := hr.length
        simp only [Array.length_toList] at hll hcl
        have hfold := fold_cells u.cells.toList 0 off ucells (by simp; omega)
        simp only [Nat.add_zero, Array.length_toList, hll] at hfold
        have hr' : Reps L w (cells.take off ++ l ++ cells.drop (off + l.length)) (u.cells.zipIdx.foldl (fun cs (x : Value × Nat) => cs.setIfInBounds (off + x.2) x.1) ucells).toList := by
          rw [← Array.foldl_toList, Array.toList_zipIdx, hfold]
          exact ((hr.take off).append hrl).append (hr.drop _)
        obtain ⟨ur, h3, h4⟩ := ih _ r _ h hr'
        refine ⟨ur, ?_, h4⟩
        simp only [Instr.fill, hp, hpl]
        rw [if_neg (by simp [hll]; omega)]
        exact h3
      · cases h

theorem run_mapM_places (fs : List Field) : ∀ (ps : List (Nat × Nat)), (fs.mapM fun f => (tsz P f.type).map fun n => (f.offset, n)) = some ps →
    (fs.mapM fun f => (do pure (f.offset, ← sizeOf f.type) : Sem (Nat × Nat))).run P w = .ok ps w := by
  induction fs with
  | nil => intro ps h; simp at h; subst h; rfl
  | cons f fs ih =>
    intro ps h
    simp only [List.mapM_cons, Option.bind_eq_bind, Option.bind_eq_some_iff, Option.map_eq_some_iff, Option.pure_def, Option.some.injEq] at h
    obtain ⟨p, ⟨n, hn, rfl⟩, ps', h1, rfl⟩ := h
    simp only [List.mapM_cons, Sem.run_bind, run_tsz hn, Result.andThen_ok, ih ps' h1, Sem.run_pure]

theorem buildV_run {t : TypeId} {parts : Array (Nat × Operand)} (sv : Operand → V) (se : Operand → Value) (hs : ∀ x, Rep L w (sv x) (se x)) {r : V} (h : buildV P t (parts.toList.map fun p => (p.1, sv p.2)) = some r) :
    ∃ v, (Instr.build t (parts.map fun (i, x) => (i, se x))).run P w = .ok v w ∧ Rep L w r v := by
  simp only [buildV, Option.bind_eq_some_iff, Option.map_eq_some_iff] at h
  obtain ⟨z, hz, ps, hps, cs, hcs, rfl⟩ := h
  unfold placesT at hps
  split at hps
  · rename_i fs hu
    obtain ⟨ur, h1, h2⟩ := fillV_run (L := L) (w := w) ps (ps.toArray[·]?) (fun i => by simp) sv se hs parts.toList _ cs z.cells hcs (reps_c L w _)
    have hm := run_mapM_places (P := P) (w := w) fs.toList ps hps
    have hm' : (fs.mapM fun f => (do pure (f.offset, ← sizeOf f.type) : Sem (Nat × Nat))).run P w = .ok ps.toArray w := by
      rw [Array.mapM_eq_mapM_toList, Sem.run_map, hm]; rfl
    refine ⟨.agg ur, ?_, _, rfl, h2⟩
    simp only [Instr.build, Sem.run_bind, run_tzero hz, Result.andThen_ok, run_underlying hu, hm', Array.toList_map, h1, Sem.run_pure]
  · cases hps
end
end Go.Pg
end

section
/-
  The pure layer: the operations that make or write memory.
-/
namespace Go.Pg
open Go

def V.one : V → Bool
  | .c v => v.oneCell'
  | .agg _ => false
  | .tup _ => false
  | .top => false
  | .sl _ _ _ => true
  | .ref _ _ => true
  | .el _ _ _ _ _ => true
  | .fn _ _ _ => true
  | .nif => true

def poison (id : Nat) (v : V) : V := if v.has id then .top else v
def frz (id : Nat) (v : V) : V := v.map (fun t => if t.is id then .fz else t) _root_.id
def setOwn (id k i : Nat) (x : V) (v : V) : V :=
  match v with
  | .sl (.own j e) k' xs => if j = id then (if k' = k then .sl (.own j e) k' (xs.set i x) else .top) else .sl (.own j e) k' xs
  | v => poison id v

def St.mapV (s : St) (ψ : V → V) : St := { env := fun t => ψ (s.env t), bx := fun b => (s.bx b).map fun x => (x.1, x.2.map ψ), nid := s.nid, hd := fun t => ψ (s.hd t) }

/-- A later world: nothing that was there has turned. -/
structure Grow (w w' : World) : Prop where
  os : w'.os = w.os
  tape : w'.tape = w.tape
  output : w'.output = w.output
  size : w.heap.size ≤ w'.heap.size
  block : ∀ k, k < w.heap.size → w'.heap[k]? = w.heap[k]?

theorem Grow.kp {w w' : World} (G : Grow w w') (Wr : Nat → Prop) {B : Nat} (hB : B ≤ w.heap.size) : Kp Wr B w w' :=
  ⟨G.os, G.tape, G.output, G.size, fun k hk _ => G.block k (by omega)⟩
theorem Grow.alloc (w : World) (o : Obj) : Grow w (w.alloc o) := ⟨rfl, rfl, rfl, by simp, fun k hk => RowKit.Below.heap_alloc w o k hk⟩
theorem Grow.drewAlloc (w : World) (o : Obj) : Grow w (w.drew.alloc o) := ⟨rfl, rfl, rfl, by simp, fun k hk => RowKit.Below.heap_alloc w.drew o k hk⟩

structure Lay.Le (L L' : Lay) : Prop where
  A : ∀ g, L.A g → L'.A g
  own : ∀ i g, L.own i = some g → L'.own i = some g
  box : ∀ b g, L.box b = some g → L'.box b = some g

section
variable {P : Program} {C : Cx} {s : St} {L L' : Lay} {a : Act} {w w' : World}

theorem Sim.hB (S : Sim C s L a w) : C.B ≤ w.heap.size := S.kp.size

theorem Wf.whole (W : Wf C s.nid L w) (G : Grow w w') (E : L.Le L') : Whole L L' w w' where
  fz' := rfl
  A := fun g h => ⟨E.A g h, .of (G.block g (W.old g h))⟩
  own := fun id _ _ g h => ⟨⟨rfl, E.own id g h⟩, G.block g (W.own id g h).1⟩
  box := fun b _ g h => E.box b g h

theorem BoxOk.grow {b : Nat} {cs : TypeId × List V} (W : Wf C s.nid L w) (G : Grow w w') (E : L.Le L') (h : BoxOk L w b cs) : BoxOk L' w' b cs := by
  obtain ⟨g, arr, h1, h2, h3⟩ := h
  exact ⟨g, arr, E.box b g h1, (G.block g (W.boxW b g h1).1).trans h2, h3.whole (W.whole G E)⟩

theorem Sim.grow {s' : St} (S : Sim C s L a w) (G : Grow w w') (E : L.Le L') (he : s'.env = s.env) (hb : ∀ b cs, s'.bx b = some cs → s.bx b = some cs ∨ BoxOk L' w' b cs) (wf : Wf C s'.nid L' w') (hh : s'.hd = s.hd := by rfl) : Sim C s' L' a w' where
  defers := S.defers
  size := S.size
  env := fun t => by rw [he]; exact (S.env t).whole (S.wf.whole G E)
  hid := fun t => by rw [hh]; exact (S.hid t).whole (S.wf.whole G E)
  box := fun b cs h => (hb b cs h).elim (fun h => (S.box b cs h).grow S.wf G E) id
  wf := wf
  kp := S.kp.trans (G.kp C.Wr S.hB)

def Lay.addOwn (L : Lay) (i g : Nat) : Lay := { L with own := upd L.own i (some g) }
def Lay.addBox (L : Lay) (i g : Nat) : Lay := { L with box := upd L.box i (some g) }
def Lay.addA (L : Lay) (g : Nat) : Lay := { L with A := fun x => L.A x ∨ x = g }

theorem Wf.leOwn (W : Wf C s.nid L w) (g : Nat) : L.Le (L.addOwn s.nid g) :=
  ⟨fun _ h => h, fun i g' h => by have := W.nidO i g' h; simp [Lay.addOwn, upd, show i ≠ s.nid by omega, h], fun _ _ h => h⟩
theorem Wf.leBox (W : Wf C s.nid L w) (g : Nat) : L.Le (L.addBox s.nid g) :=
  ⟨fun _ h => h, fun _ _ h => h, fun i g' h => by have := W.nidB i g' h; simp [Lay.addBox, upd, show i ≠ s.nid by omega, h]⟩
theorem Lay.leA (L : Lay) (g : Nat) : L.Le (L.addA g) := ⟨fun _ h => .inl h, fun _ _ h => h, fun _ _ h => h⟩

theorem Wf.addOwn {nid : Nat} (W : Wf C nid L w) (hB : C.B ≤ w.heap.size) (hs : w.heap.size < w'.heap.size) : Wf C (nid + 1) (L.addOwn nid w.heap.size) w' where
  nidO := fun id g h => by
    simp only [Lay.addOwn, upd] at h
    split at h
    · omega
    · have := W.nidO id g h; omega
  nidB := fun b g h => by have := W.nidB b g h; omega
  own := fun id g h => by
    simp only [Lay.addOwn, upd] at h
    split at h
    · simp only [Option.some.injEq] at h; subst h; exact ⟨hs, .inl hB, fun h => by have := W.old _ h; omega⟩
    · obtain ⟨h1, h2, h3⟩ := W.own id g h; exact ⟨by omega, h2, h3⟩
  boxW := fun b g h => by obtain ⟨h1, h2, h3⟩ := W.boxW b g h; exact ⟨by omega, h2, h3⟩
  injO := fun i j g h h' => by
    simp only [Lay.addOwn, upd] at h h'
    split at h <;> split at h'
    · omega
    · simp only [Option.some.injEq] at h; subst h; have := (W.own j _ h').1; omega
    · simp only [Option.some.injEq] at h'; subst h'; have := (W.own i _ h).1; omega
    · exact W.injO i j g h h'
  injB := W.injB
  dis := fun i j g h h' => by
    simp only [Lay.addOwn, upd] at h
    split at h
    · simp only [Option.some.injEq] at h; subst h; have := (W.boxW j _ h').1; omega
    · exact W.dis i j g h h'
  old := fun g h => by have := W.old g h; omega
  frz := W.frz

theorem Wf.addBox {nid : Nat} (W : Wf C nid L w) (hB : C.B ≤ w.heap.size) (hs : w.heap.size < w'.heap.size) : Wf C (nid + 1) (L.addBox nid w.heap.size) w' where
  nidO := fun b g h => by have := W.nidO b g h; omega
  nidB := fun id g h => by
    simp only [Lay.addBox, upd] at h
    split at h
    · omega
    · have := W.nidB id g h; omega
  own := fun b g h => by obtain ⟨h1, h2, h3⟩ := W.own b g h; exact ⟨by omega, h2, h3⟩
  boxW := fun id g h => by
    simp only [Lay.addBox, upd] at h
    split at h
    · simp only [Option.some.injEq] at h; subst h; exact ⟨hs, .inl hB, fun h => by have := W.old _ h; omega⟩
    · obtain ⟨h1, h2, h3⟩ := W.boxW id g h; exact ⟨by omega, h2, h3⟩
  injO := W.injO
  injB := fun i j g h h' => by
    simp only [Lay.addBox, upd] at h h'
    split at h <;> split at h'
    · omega
    · simp only [Option.some.injEq] at h; subst h; have := (W.boxW j _ h').1; omega
    · simp only [Option.some.injEq] at h'; subst h'; have := (W.boxW i _ h).1; omega
    · exact W.injB i j g h h'
  dis := fun i j g h h' => by
    simp only [Lay.addBox, upd] at h'
    split at h'
    · simp only [Option.some.injEq] at h'; subst h'; have := (W.own i _ h).1; omega
    · exact W.dis i j g h h'
  old := fun g h => by have := W.old g h; omega
  frz := W.frz

theorem Wf.addA {nid : Nat} (W : Wf C nid L w) (hB : C.B ≤ w.heap.size) (hs : w.heap.size < w'.heap.size) : Wf C nid (L.addA w.heap.size) w' where
  nidO := W.nidO
  nidB := W.nidB
  own := fun b g h => by
    obtain ⟨h1, h2, h3⟩ := W.own b g h
    exact ⟨by omega, h2, fun h => h.elim h3 (fun h => by omega)⟩
  boxW := fun b g h => by
    obtain ⟨h1, h2, h3⟩ := W.boxW b g h
    exact ⟨by omega, h2, fun h => h.elim h3 (fun h => by omega)⟩
  injO := W.injO
  injB := W.injB
  dis := W.dis
  old := fun g h => h.elim (fun h => by have := W.old g h; omega) (fun h => by omega)
  frz := fun g h => h.elim (W.frz g) (fun h => .inr (.inl (by omega)))

theorem Wf.mono {nid nid' : Nat} (W : Wf C nid L w) (hn : nid ≤ nid') (hs : w.heap.size ≤ w'.heap.size) : Wf C nid' L w' where
  nidO := fun id g h => by have := W.nidO id g h; omega
  nidB := fun id g h => by have := W.nidB id g h; omega
  own := fun b g h => by obtain ⟨h1, h2, h3⟩ := W.own b g h; exact ⟨by omega, h2, h3⟩
  boxW := fun b g h => by obtain ⟨h1, h2, h3⟩ := W.boxW b g h; exact ⟨by omega, h2, h3⟩
  injO := W.injO
  injB := W.injB
  dis := W.dis
  old := fun g h => by have := W.old g h; omega
  frz := W.frz

/-! ### New variables -/
def newBox (s : St) (e : TypeId) (l : List V) : V × St := (.ref s.nid 0, { s with bx := upd s.bx s.nid (some (e, l)), nid := s.nid + 1 })

theorem newBox_ok {e : TypeId} {l : List V} {us : Array Value} (S : Sim C s L a w) (hr : Reps L w l us.toList) :
    ∃ L', Sim C (newBox s e l).2 L' a (w.alloc (.cells us e)) ∧ Rep L' (w.alloc (.cells us e)) (newBox s e l).1 (.pointer (some ⟨w.heap.size, 0, none⟩)) := by
  have G := Grow.alloc w (.cells us e)
  have E := S.wf.leBox (s := s) w.heap.size
  refine ⟨L.addBox s.nid w.heap.size, S.grow G E rfl ?_ (S.wf.addBox S.hB (by simp)), w.heap.size, by simp [Lay.addBox, upd], rfl⟩
  intro b cs h
  simp only [newBox, upd] at h
  split at h
  · rename_i hb
    subst hb
    simp only [Option.some.injEq] at h
    subst h
    exact .inr ⟨w.heap.size, us, by simp [Lay.addBox, upd], heap_alloc_new w _, hr.whole (S.wf.whole G E)⟩
  · exact .inl h

def allocV (P : Program) (s : St) (elem : TypeId) : Option (V × St) := (tzero P elem).map fun z => newBox s elem (z.cells.toList.map .c)
def boxV (s : St) (e : TypeId) (x : V) : Option (V × St) := x.cs.map fun l => newBox s e l

theorem allocV_ok {elem : TypeId} {r : V} {s' : St} (h : allocV P s elem = some (r, s')) (S : Sim C s L a w) :
    ∃ u w' L', (Instr.alloc elem true (.tuple #[])).run P w = .ok u w' ∧ Sim C s' L' a w' ∧ Rep L' w' r u := by
  simp only [allocV, Option.map_eq_some_iff] at h
  obtain ⟨z, hz, h⟩ := h
  obtain ⟨L', h1, h2⟩ := newBox_ok (e := elem) (us := z.cells) S (reps_c L w z.cells.toList)
  rw [h] at h1 h2
  exact ⟨_, _, L', by simp [Instr.alloc, run_tzero hz, newVar, newRow], h1, h2⟩

theorem boxV_ok {elem : TypeId} {x r : V} {u : Value} {s' : St} (h : boxV s elem x = some (r, s')) (S : Sim C s L a w) (hr : Rep L w x u) :
    ∃ v w' L', (Instr.box elem u).run P w = .ok v w' ∧ Sim C s' L' a w' ∧ Rep L' w' r v := by
  simp only [boxV, Option.map_eq_some_iff] at h
  obtain ⟨l, hl, h⟩ := h
  obtain ⟨L', h1, h2⟩ := newBox_ok (e := elem) (us := u.cells) S (rep_cs hr hl)
  rw [h] at h1 h2
  exact ⟨_, _, L', by simp [Instr.box, newVar, newRow], h1, h2⟩

/-! ### Variables read and written -/
def loadB (P : Program) (s : St) (t : TypeId) (b off : Nat) : Option V := (s.bx b).bind fun x => ldCells P t x.2 off

theorem loadB_ok {t : TypeId} {b off : Nat} {r : V} {u : Value} (h : loadB P s t b off = some r) (S : Sim C s L a w) (hu : Rep L w (.ref b off) u) :
    ∃ v, (Instr.loadAt t u).run P w = .ok v w ∧ Rep L w r v := by
  simp only [loadB, Option.bind_eq_some_iff] at h
  obtain ⟨⟨e, cs⟩, hcs, h⟩ := h
  obtain ⟨g, arr, h1, h2, h3⟩ := S.box b _ hcs
  obtain ⟨g', h1', rfl⟩ := hu
  rw [h1] at h1'
  simp only [Option.some.injEq] at h1'
  subst h1'
  obtain ⟨v, h4, h5⟩ := ldCells_run (P := P) (g := g) (o := 0) h h3 ⟨arr, e, (0, 0), h2, by rw [List.drop_zero, List.take_length]⟩
  exact ⟨v, by simpa [Instr.loadAt, Instr.sureAddr] using h4, h5⟩

theorem rep_one {x : V} {u : Value} (h : Rep L w x u) (h1 : x.one = true) : u.oneCell' = true := by
  cases x <;> simp only [V.one, Bool.false_eq_true] at h1
  case c v => simp only [Rep] at h; subst h; exact h1
  case sl => obtain ⟨_, _, _, rfl, _⟩ := h; rfl
  case ref => obtain ⟨_, _, rfl⟩ := h; rfl
  case el => obtain ⟨_, _, _, rfl, _⟩ := h; rfl
  case fn => obtain ⟨_, _, rfl, _⟩ := h; rfl
  case nif => obtain ⟨_, _, rfl⟩ := h; rfl

theorem reps_one {l : List V} {us : List Value} (h : Reps L w l us) (h1 : l.all V.one = true) : ∀ u ∈ us, u.oneCell' = true := by
  induction l generalizing us with
  | nil => simp only [Reps] at h; simp [h]
  | cons x xs ih =>
    obtain ⟨u, r, rfl, h2, h3⟩ := h
    simp only [List.all_cons, Bool.and_eq_true] at h1
    intro v hv
    rcases List.mem_cons.1 hv with rfl | hv
    · exact rep_one h2 h1.1
    · exact ih h3 h1.2 v hv

theorem run_storeAt {t : TypeId} {g o : Nat} {v : Value} {arr : Array Value} {e : TypeId} (ht : tsz P t = some v.cells.size) (hg : w.heap[g]? = some (.cells arr e (0, 0))) (hfit : o + v.cells.size ≤ arr.size) (h1 : ∀ u ∈ v.cells.toList, u.oneCell' = true) :
    (Instr.storeAt t (.pointer (some ⟨g, o, none⟩)) v).run P w = .ok () (w.setRow g (arr.toList.take o ++ v.cells.toList ++ arr.toList.drop (o + v.cells.size)).toArray) := by
  have := run_storeCells_at P g o e v.cells.toList 0 arr w hg (by simpa using hfit) h1
  simp only [Nat.add_zero, Array.length_toList] at this
  simp [Instr.storeAt, Instr.sureAddr, storeVar, run_tsz ht, this]

theorem Kp.setRow {Wr : Nat → Prop} {B g : Nat} (arr : Array Value) (hg : B ≤ g ∨ Wr g) : Kp Wr B w (w.setRow g arr) :=
  ⟨rfl, rfl, rfl, by simp, fun k hk hW => setRow_other w g k arr (fun e => by subst e; exact hg.elim (fun h => by omega) hW)⟩

/-- A block of the call's own is written: all that does not lie there is kept. -/
theorem wholeRow {g : Nat} {arr : Array Value} (hA : ¬ L.A g) (hO : ∀ i, L.own i ≠ some g) : Whole L L w (w.setRow g arr) where
  fz' := rfl
  A := fun g' h => ⟨h, .of (setRow_other w g g' arr (fun e => by subst e; exact hA h))⟩
  own := fun id e _ g' h => ⟨⟨rfl, h⟩, setRow_other w g g' arr (fun e => by subst e; exact hO id h)⟩
  box := fun _ _ _ h => h

def storeB (P : Program) (s : St) (t : TypeId) (b off : Nat) (x : V) : Option St :=
  (s.bx b).bind fun y => x.cs.bind fun l => if tsz P t = some l.length ∧ off + l.length ≤ y.2.length ∧ l.all V.one = true then
    some { s with bx := upd s.bx b (some (y.1, y.2.take off ++ l ++ y.2.drop (off + l.length))) } else none

theorem storeB_ok {t : TypeId} {b off : Nat} {x : V} {u ux : Value} {s' : St} (h : storeB P s t b off x = some s') (S : Sim C s L a w) (hu : Rep L w (.ref b off) u) (hx : Rep L w x ux) :
    ∃ w', (Instr.storeAt t u ux).run P w = .ok () w' ∧ Sim C s' L a w' := by
  simp only [storeB, Option.bind_eq_some_iff, Option.ite_none_right_eq_some, Option.some.injEq] at h
  obtain ⟨⟨e, cs⟩, hcs, l, hl, ⟨h1, h2, h3⟩, rfl⟩ := h
  simp only at h2
  obtain ⟨g, arr, hg, ha, hr⟩ := S.box b _ hcs
  simp only at ha hr
  obtain ⟨g', hg', rfl⟩ := hu
  rw [hg] at hg'
  simp only [Option.some.injEq] at hg'
  subst hg'
  have hrl := rep_cs hx hl
  have hll : ux.cells.size = l.length := by simpa using hrl.length
  have hal : arr.size = cs.length := by simpa using hr.length
  obtain ⟨hw1, hw2, hw3⟩ := S.wf.boxW b g hg
  have hO : ∀ i, L.own i ≠ some g := fun i h => S.wf.dis i b g h hg
  have K := wholeRow (w := w) (arr := (arr.toList.take off ++ ux.cells.toList ++ arr.toList.drop (off + ux.cells.size)).toArray) hw3 hO
  refine ⟨_, run_storeAt (by rw [hll]; exact h1) ha (by omega) (reps_one hrl h3), S.defers, S.size, fun t => (S.env t).whole K, fun t => (S.hid t).whole K, ?_, S.wf.mono (Nat.le_refl _) (by simp), S.kp.trans (Kp.setRow _ hw2)⟩
  intro b' cs' h
  simp only [upd] at h
  split at h
  · rename_i hb
    subst hb
    simp only [Option.some.injEq] at h
    subst h
    refine ⟨g, _, hg, setRow_heap w g arr _ e _ ha, ?_⟩
    have := (((hr.take off).append hrl).append (hr.drop (off + l.length))).whole K
    rw [← hll] at this ⊢
    simpa using this
  · rename_i hb
    obtain ⟨g', arr', h4, h5, h6⟩ := S.box b' cs' h
    exact ⟨g', arr', h4, (setRow_other w g g' _ (fun e => by subst e; exact hb (S.wf.injB b' b g' h4 hg))).trans h5, h6.whole K⟩

/-! ### An array of the call's own turns -/
theorem has_is {id : Nat} {v : V} (h : v.has id = false) : v.any (Tag.is id) (fun _ => false) false = false := h

theorem poison_rep {id : Nat} (K : Trans (Tag.is id) (fun _ => false) _root_.id _root_.id L L' w w') {v : V} {u : Value} (h : Rep L w v u) : Rep L' w' (poison id v) u := by
  unfold poison
  split
  · trivial
  · rename_i hn
    have := h.trans rfl K (has_is (by simpa using hn))
    rwa [map_id.1] at this

theorem reps_map {ψ : V → V} (hψ : ∀ v u, Rep L w v u → Rep L' w' (ψ v) u) {l : List V} {us : List Value} (h : Reps L w l us) : Reps L' w' (l.map ψ) us := by
  induction l generalizing us with
  | nil => exact h
  | cons x xs ih => obtain ⟨u, r, rfl, h2, h3⟩ := h; exact ⟨u, r, rfl, hψ x u h2, ih h3⟩

/-- All values pass by 'ψ', boxes stay where they are. -/
theorem Sim.mapV {nid : Nat} (S : Sim C s L a w) {ψ : V → V} (hψ : ∀ v u, Rep L w v u → Rep L' w' (ψ v) u) (hbox : ∀ b g, L.box b = some g → L'.box b = some g ∧ w'.heap[g]? = w.heap[g]?)
    (wf : Wf C nid L' w') (kp : Kp C.Wr C.B w w') : Sim C { s.mapV ψ with nid := nid } L' a w' where
  defers := S.defers
  size := S.size
  env := fun t => hψ _ _ (S.env t)
  hid := fun t => hψ _ _ (S.hid t)
  box := fun b cs h => by
    simp only [St.mapV, Option.map_eq_some_iff] at h
    obtain ⟨l, hl, rfl⟩ := h
    obtain ⟨g, arr, h1, h2, h3⟩ := S.box b l hl
    exact ⟨g, arr, (hbox b g h1).1, (hbox b g h1).2.trans h2, reps_map hψ h3⟩
  wf := wf
  kp := S.kp.trans kp

/-- An own array is no more written from here on. -/
def Lay.freeze (L : Lay) (id : Nat) : Lay := { L with A := fun g => L.A g ∨ L.own id = some g, own := fun j => if j = id then none else L.own j }

theorem Sim.freeze (S : Sim C s L a w) (id : Nat) : Sim C (s.mapV (frz id)) (L.freeze id) a w ∧ ∀ v u, Rep L w v u → Rep (L.freeze id) w (frz id v) u := by
  have K : Trans (fun _ => false) (fun _ => false) (fun t => if t.is id then .fz else t) _root_.id L (L.freeze id) w w := by
    refine ⟨Prod.ext rfl (Prod.ext rfl (funext fun j => funext fun e => ?_)), fun g h => ⟨.inl h, .of rfl⟩, fun j e _ g h => ⟨?_, rfl⟩, fun _ _ _ h => h⟩
    · show (if (j == id) = true then Tag.fz else Tag.own j e).notNN = true
      split <;> rfl
    by_cases hj : j = id
    · subst hj; simp [Tag.is, Lay.freeze, h]
    · simp [Tag.is, hj, Lay.freeze, h]
  have hψ : ∀ v u, Rep L w v u → Rep (L.freeze id) w (frz id v) u := fun v u h => h.trans rfl K (any_ff.1 v)
  refine ⟨S.mapV (nid := s.nid) hψ (fun b g h => ⟨h, rfl⟩) ?_ (Kp.refl _ _ _), hψ⟩
  have W := S.wf
  exact {
    nidO := fun j g h => by
      simp only [Lay.freeze] at h
      split at h
      · cases h
      · exact W.nidO j g h
    nidB := W.nidB
    own := fun j g h => by
      simp only [Lay.freeze] at h
      split at h
      · cases h
      · rename_i hj
        obtain ⟨h1, h2, h3⟩ := W.own j g h
        exact ⟨h1, h2, fun h' => h'.elim h3 (fun h' => hj (W.injO j id g h h'))⟩
    boxW := fun b g h => by
      obtain ⟨h1, h2, h3⟩ := W.boxW b g h
      exact ⟨h1, h2, fun h' => h'.elim h3 (fun h' => W.dis id b g h' h)⟩
    injO := fun i j g h h' => by
      simp only [Lay.freeze] at h h'
      split at h
      · cases h
      · split at h'
        · cases h'
        · exact W.injO i j g h h'
    injB := W.injB
    dis := fun i j g h h' => by
      simp only [Lay.freeze] at h
      split at h
      · cases h
      · exact W.dis i j g h h'
    old := fun g h => h.elim (W.old g) (fun h => (W.own id g h).1)
    frz := fun g h => h.elim (W.frz g) (fun h => .inr (W.own id g h).2.1) }

/-! ### append -/
def tapp (P : Program) (e : TypeId) : Option (Nat × Nat) := (P.info? e).bind fun i => i.zero.bind fun z => if z.cells.size = i.size ∧ 0 < i.size then some (i.size, i.bytes) else none
theorem tapp_info {e : TypeId} {k b : Nat} (h : tapp P e = some (k, b)) : ∃ i z, P.info? e = some i ∧ i.zero = some z ∧ z.cells.size = k ∧ i.size = k ∧ i.bytes = b ∧ 0 < k := by
  simp only [tapp, Option.bind_eq_some_iff, Option.ite_none_right_eq_some, Option.some.injEq, Prod.mk.injEq] at h
  obtain ⟨i, hi, z, hz, ⟨h1, h2⟩, rfl, rfl⟩ := h
  exact ⟨i, z, hi, hz, h1, rfl, rfl, h2⟩

def byteVs (z : ByteArray) : List V := z.data.toList.map fun b => .c (.int .u8 b.toNat)

def srcV (P : Program) (t : TypeId) (k : Nat) (y : V) : Option (List V) :=
  match y with
  | .sl _ k' ys => if k' = k ∧ (elemT P t).isSome then some ys else none
  | .c (.slice none 0 _) => if (elemT P t).isSome then some [] else none
  | .c (.string z) => if k = 1 ∧ isStr P t = true then some (byteVs z) else none
  | _ => none

theorem byteVs_rep (z : ByteArray) : RepE L w 1 (byteVs z) (byteCells z) := by
  unfold byteVs byteCells
  induction z.data.toList with
  | nil => rfl
  | cons b l ih => exact ⟨_, _, rfl, rfl, ⟨rfl, rfl⟩, rfl, ih⟩

theorem srcV_src {t : TypeId} {k : Nat} {y : V} {ys : List V} {u : Value} (h : srcV P t k y = some ys) (hr : Rep L w y u) :
    ∃ news, Src P k t u ys.length news w ∧ RepE L w k ys news := by
  unfold srcV at h
  split at h
  · rename_i tg k' ys'
    simp only [Option.ite_none_right_eq_some, Option.some.injEq] at h
    obtain ⟨⟨rfl, h1⟩, rfl⟩ := h
    obtain ⟨e, he⟩ := Option.isSome_iff_exists.1 h1
    obtain ⟨a, cap, cells, rfl, h2, h3⟩ := hr
    refine ⟨cells, ?_, h2⟩
    cases a with
    | none =>
      have h0 : ys'.length = 0 := by
        cases tg with
        | fz =>
          rcases h3 with ⟨_, h | ⟨g, o, h, _⟩⟩
          · exact h
          · cases h
        | nn => exact h3.1
        | own id e =>
          rcases h3 with ⟨h, _⟩ | ⟨g, arr, _, h, _⟩
          · exact h
          · cases h
      have hc : cells = [] := List.eq_nil_of_length_eq_zero (by rw [h2.length, h0, Nat.zero_mul])
      subst hc
      rw [h0]
      exact Src.ofNil w (elemT_und he) cap
    | some ad =>
      refine Src.ofSlice w (elemT_und he) ad _ cap cells h2.length ?_ h2.one
      intro j v hj
      have hpos : 0 < ys'.length := by
        rcases Nat.eq_zero_or_pos ys'.length with h0 | h0
        · have hc : cells = [] := List.eq_nil_of_length_eq_zero (by rw [h2.length, h0, Nat.zero_mul])
          rw [hc] at hj; cases hj
        · exact h0
      obtain ⟨g, o, h5, h6⟩ := h3.el hpos h2.length
      simp only [Option.some.injEq] at h5
      subst h5
      rw [add_plain]
      exact h6.row.cell hj
  · simp only [Option.ite_none_right_eq_some, Option.some.injEq] at h
    obtain ⟨h1, rfl⟩ := h
    obtain ⟨e, he⟩ := Option.isSome_iff_exists.1 h1
    simp only [Rep] at hr; subst hr
    exact ⟨[], Src.ofNil w (elemT_und he) _, rfl⟩
  · rename_i z
    simp only [Option.ite_none_right_eq_some, Option.some.injEq] at h
    obtain ⟨⟨rfl, h1⟩, rfl⟩ := h
    simp only [Rep] at hr; subst hr
    refine ⟨byteCells z, ?_, byteVs_rep z⟩
    have := Src.ofString (P := P) w (isStr_und h1) z
    rwa [show (byteVs z).length = z.size by simp [byteVs]]
  · cases h

/-- The two bounds that an append asks. -/
def Fits (n bytes : Nat) : Prop := n ≤ maxLen ∧ n * bytes ≤ 140737488355328
instance (n bytes : Nat) : Decidable (Fits n bytes) := by unfold Fits; infer_instance

def appendV (P : Program) (s : St) (t t2 : TypeId) (x y : V) : Option (V × St) :=
  (elemT P t).bind fun e => (tapp P e).bind fun (k, bytes) => (srcV P t2 k y).bind fun ys =>
    match x with
    | .c (.slice none 0 0) => if Fits ys.length bytes then some (.sl (.own s.nid e) k ys, { s with nid := s.nid + 1 }) else none
    | .sl (.own id e') k' xs => if e' = e ∧ k' = k ∧ Fits (xs.length + ys.length) bytes then some (.sl (.own id e) k (xs ++ ys), { s.mapV (poison id) with nid := max s.nid (id + 1) }) else none
    | _ => none

theorem run_append_room_own {t t2 ty e : TypeId} {i : TypeInfo} (ht : P.underlying t = some (.slice e)) (hi : P.info? e = some i) {g n m cap : Nat} {arr : Array Value} (hg : w.heap[g]? = some (.cells arr e (0, 0))) {x : Value} {news : List Value}
    (hs : Src P i.size t2 x m news w) (hroom : n + m ≤ cap) (hfit : n * i.size + news.length ≤ arr.size) :
    (Builtin.append_ #[t, t2] ty #[.slice (some ⟨g, 0, none⟩) n cap, x]).run P w =
      .ok (.slice (some ⟨g, 0, none⟩) (n + m) cap) (w.setRow g (arr.toList.take (n * i.size) ++ news ++ arr.toList.drop (n * i.size + news.length)).toArray) := by
  have hst := run_storeCells_at P g (n * i.size) e news 0 arr w hg (by simpa using hfit) hs.one
  simp only [Nat.add_zero] at hst
  rcases hs.kind with ⟨e', hk⟩ | hk <;> simp [Builtin.append_, run_underlying ht, run_underlying hk, sizeOf, typeInfo, hi, hs.len, hroom, hs.cells, Addr.add_lit, hst]

theorem run_append_nothing {t t2 ty e : TypeId} {i : TypeInfo} (ht : P.underlying t = some (.slice e)) (hi : P.info? e = some i) {x : Value} {news : List Value} (hs : Src P i.size t2 x 0 news w) :
    (Builtin.append_ #[t, t2] ty #[.slice none 0 0, x]).run P w = .ok (.slice none 0 0) w := by
  rcases hs.kind with ⟨e', hk⟩ | hk <;> simp [Builtin.append_, run_underlying ht, run_underlying hk, sizeOf, typeInfo, hi, hs.len, hs.cells]

/-- The new row that an append makes. -/
def grownObj (w : World) (olds news : List Value) (n cap : Nat) (e : TypeId) (z : Value) : Obj :=
  .cells ((olds ++ news).toArray ++ Builtin.zeroCells z.cells (grownCap w n cap e - n)) e

theorem grown_mem {olds news : List Value} {n cap k : Nat} {e : TypeId} {z : Value} {id : Nat} {L' : Lay} {w'' : World} (ho : L'.own id = some w.heap.size) (hh : w''.heap[w.heap.size]? = some (grownObj w olds news n cap e z))
    (hz : z.cells.size = k) (hl : (olds ++ news).length = n * k) (hm : n ≤ maxLen) :
    SlMem L' w'' (.own id e) k (some ⟨w.heap.size, 0, none⟩) n (grownCap w n cap e) (olds ++ news) := by
  refine .inr ⟨w.heap.size, _, ho, rfl, hh, grownCap_ge w n cap e, grownCap_le_maxLen w n cap e hm, ?_, ?_⟩
  · have hge := grownCap_ge w n cap e
    simp only [Array.size_append, List.size_toArray, size_zeroCells, hz, hl, ← Nat.add_mul]
    congr 1
    omega
  · rw [Array.toList_append, ← hl]
    exact List.take_left

theorem appendV_ok {t t2 ty : TypeId} {x y r : V} {ux uy : Value} {s' : St} (h : appendV P s t t2 x y = some (r, s')) (S : Sim C s L a w) (hx : Rep L w x ux) (hy : Rep L w y uy) :
    ∃ u w' L', (Builtin.append_ #[t, t2] ty #[ux, uy]).run P w = .ok u w' ∧ Sim C s' L' a w' ∧ Rep L' w' r u := by
  simp only [appendV, Option.bind_eq_some_iff, Prod.exists] at h
  obtain ⟨e, he, k, bytes, hk, ys, hys, h⟩ := h
  obtain ⟨i, z, hi, hz, hzs, rfl, rfl, hpos⟩ := tapp_info hk
  have hu := elemT_und he
  obtain ⟨news, hsrc, hre⟩ := srcV_src hys hy
  have hnl := hre.length
  split at h
  · -- from nil
    simp only [Option.ite_none_right_eq_some, Option.some.injEq, Prod.mk.injEq] at h
    obtain ⟨⟨hf1, hf2⟩, rfl, rfl⟩ := h
    simp only [Rep] at hx; subst hx
    rcases Nat.eq_zero_or_pos ys.length with h0 | h0
    · rw [h0] at hsrc
      have hys0 : ys = [] := List.eq_nil_of_length_eq_zero h0
      subst hys0
      exact ⟨_, w, L, run_append_nothing hu hi hsrc, ⟨S.defers, S.size, S.env, S.hid, S.box, S.wf.mono (by simp) (Nat.le_refl _), S.kp⟩, none, 0, [], rfl, rfl, .inl ⟨rfl, rfl, rfl⟩⟩
    · have hrun := run_append_grow_src (P := P) w t t2 ty e i z hu hi hz none 0 0 [] (by simp [Builtin.firstCells]) uy ys.length news hsrc (by omega)
        (by simp only [maxLen] at hf1; omega) (growslice_fits (by omega) (by rw [Nat.zero_add]; exact hf2))
      simp only [Nat.zero_add] at hrun
      have G := Grow.drewAlloc w (grownObj w [] news ys.length 0 e z)
      have E := S.wf.leOwn (s := s) w.heap.size
      have hh : (w.drew.alloc (grownObj w [] news ys.length 0 e z)).heap[w.heap.size]? = some (grownObj w [] news ys.length 0 e z) := heap_alloc_new w.drew _
      refine ⟨_, _, L.addOwn s.nid w.heap.size, hrun, S.grow G E rfl (fun b cs h => .inl h) (S.wf.addOwn S.hB (by simp)), _, _, news, rfl, ?_, ?_⟩
      · exact hre.trans (p := fun _ => false) (q := fun _ => false) rfl (S.wf.whole G E)
      · have := grown_mem (olds := []) (id := s.nid) (L' := L.addOwn s.nid w.heap.size) (by simp [Lay.addOwn, upd]) hh hzs (by simpa using hnl) hf1
        exact this
  · -- to one's own
    rename_i id e' k' xs
    simp only [Option.ite_none_right_eq_some, Option.some.injEq, Prod.mk.injEq] at h
    obtain ⟨⟨rfl, rfl, hf1, hf2⟩, rfl, rfl⟩ := h
    obtain ⟨ad, cap, cells, rfl, hxe, hmem⟩ := hx
    have hxl := hxe.length
    -- what is kept
    have keepRow : ∀ g arr, L.own id = some g → Trans (Tag.is id) (fun _ => false) _root_.id _root_.id L L w (w.setRow g arr) := fun g arr hg =>
      ⟨rfl, fun g' h => ⟨h, .of (setRow_other w g g' arr (fun e => by subst e; exact (S.wf.own id _ hg).2.2 h))⟩,
        fun j e hj g' h => ⟨⟨rfl, h⟩, setRow_other w g g' arr (fun e => by subst e; have := S.wf.injO j id _ h hg; simp [Tag.is, this] at hj)⟩, fun _ _ _ h => h⟩
    have hgrow : ∀ (olds : List Value), (Builtin.firstCells i.size xs.length (.slice ad xs.length cap)).run P w.drew = .ok olds.toArray w.drew → RepE L w i.size xs olds → cap < xs.length + ys.length →
        ∃ u w' L', (Builtin.append_ #[t, t2] ty #[.slice ad xs.length cap, uy]).run P w = .ok u w' ∧ Sim C { s.mapV (poison id) with nid := max s.nid (id + 1) } L' a w' ∧ Rep L' w' (.sl (.own id e') i.size (xs ++ ys)) u := by
      intro olds hold hxo hcap
      have hol := hxo.length
      have hrun := run_append_grow_src (P := P) w t t2 ty e' i z hu hi hz ad xs.length cap olds hold uy ys.length news hsrc hcap
        (by simp only [maxLen] at hf1; omega) (growslice_fits hcap hf2)
      have hh : (w.drew.alloc (grownObj w olds news (xs.length + ys.length) cap e' z)).heap[w.heap.size]? = some (grownObj w olds news (xs.length + ys.length) cap e' z) := heap_alloc_new w.drew _
      have G := Grow.drewAlloc w (grownObj w olds news (xs.length + ys.length) cap e' z)
      have K : Trans (Tag.is id) (fun _ => false) _root_.id _root_.id L (L.addOwn id w.heap.size) w (w.drew.alloc (grownObj w olds news (xs.length + ys.length) cap e' z)) :=
        ⟨rfl, fun g h => ⟨h, .of (G.block g (S.wf.old g h))⟩, fun j e hj g h => ⟨⟨rfl, by
          have : j ≠ id := fun e => by subst e; simp [Tag.is] at hj
          simp [Lay.addOwn, upd, this, h]⟩, G.block g (S.wf.own j g h).1⟩, fun _ _ _ h => h⟩
      have W := S.wf
      have wf : Wf C (max s.nid (id + 1)) (L.addOwn id w.heap.size) (w.drew.alloc (grownObj w olds news (xs.length + ys.length) cap e' z)) := {
        nidO := fun j g h => by
          simp only [Lay.addOwn, upd] at h
          split at h
          · omega
          · have := W.nidO j g h; omega
        nidB := fun j g h => by have := W.nidB j g h; omega
        own := fun j g h => by
          simp only [Lay.addOwn, upd] at h
          split at h
          · simp only [Option.some.injEq] at h; subst h; exact ⟨by simp, .inl S.hB, fun h => by have := W.old _ h; omega⟩
          · obtain ⟨h1, h2, h3⟩ := W.own j g h; exact ⟨by simp; omega, h2, h3⟩
        boxW := fun b g h => by obtain ⟨h1, h2, h3⟩ := W.boxW b g h; exact ⟨by simp; omega, h2, h3⟩
        injO := fun i j g h h' => by
          simp only [Lay.addOwn, upd] at h h'
          split at h <;> split at h'
          · omega
          · simp only [Option.some.injEq] at h; subst h; have := (W.own j _ h').1; omega
          · simp only [Option.some.injEq] at h'; subst h'; have := (W.own i _ h).1; omega
          · exact W.injO i j g h h'
        injB := W.injB
        dis := fun i j g h h' => by
          simp only [Lay.addOwn, upd] at h
          split at h
          · simp only [Option.some.injEq] at h; subst h; have := (W.boxW j _ h').1; omega
          · exact W.dis i j g h h'
        old := fun g h => by have := W.old g h; simp; omega
        frz := W.frz }
      refine ⟨_, _, L.addOwn id w.heap.size, hrun, S.mapV (fun v u h => poison_rep K h) (fun b g h => ⟨h, G.block g (W.boxW b g h).1⟩) wf (G.kp _ S.hB), some ⟨w.heap.size, 0, none⟩, grownCap w (xs.length + ys.length) cap e', olds ++ news, by simp, ?_, ?_⟩
      · exact (hxo.append hre).trans (p := Tag.is id) (q := fun _ => false) rfl K
      · have := grown_mem (olds := olds) (news := news) (id := id) (n := xs.length + ys.length) (L' := L.addOwn id w.heap.size) (by simp [Lay.addOwn, upd]) hh hzs (by rw [List.length_append, hol, hnl, Nat.add_mul]) hf1
        rw [List.length_append]
        exact this
    rcases hmem with ⟨h1, rfl, rfl⟩ | ⟨g, arr, h1, rfl, h3, h4, h5, h6, h7⟩
    · -- it is nil
      have hx0 : xs = [] := List.eq_nil_of_length_eq_zero h1
      subst hx0
      simp only [RepE] at hxe
      subst hxe
      rcases Nat.eq_zero_or_pos ys.length with h0 | h0
      · rw [h0] at hsrc
        have hys0 : ys = [] := List.eq_nil_of_length_eq_zero h0
        subst hys0
        refine ⟨_, w, L, run_append_nothing hu hi hsrc, S.mapV (fun v u h => poison_rep ?_ h) (fun b g h => ⟨h, rfl⟩) (S.wf.mono (by omega) (Nat.le_refl _)) (Kp.refl _ _ _), none, 0, [], rfl, rfl, .inl ⟨rfl, rfl, rfl⟩⟩
        exact ⟨rfl, fun g h => ⟨h, .of rfl⟩, fun j e _ g h => ⟨⟨rfl, h⟩, rfl⟩, fun _ _ _ h => h⟩
      · exact hgrow [] (by simp [Builtin.firstCells]) rfl (by simpa using h0)
    · by_cases hroom : xs.length + ys.length ≤ cap
      · have hfit : xs.length * i.size + news.length ≤ arr.size := by rw [hnl, h6, ← Nat.add_mul]; exact Nat.mul_le_mul_right _ hroom
        have hrun := run_append_room_own (P := P) (ty := ty) hu hi h3 hsrc hroom hfit
        have K := keepRow g (arr.toList.take (xs.length * i.size) ++ news ++ arr.toList.drop (xs.length * i.size + news.length)).toArray h1
        refine ⟨_, _, L, hrun, S.mapV (fun v u h => poison_rep K h) (fun b g' h => ⟨h, setRow_other w g g' _ (fun e => by subst e; exact S.wf.dis id b _ h1 h)⟩) (S.wf.mono (by omega) (by simp)) (Kp.setRow _ (S.wf.own id g h1).2.1),
          some ⟨g, 0, none⟩, cap, cells ++ news, by simp, (hxe.append hre).trans (p := Tag.is id) (q := fun _ => false) rfl K, .inr ⟨g, _, h1, rfl, setRow_heap w g arr _ e' _ h3, by simpa using hroom, h5, ?_, ?_⟩⟩
        · simp only [List.size_toArray, List.length_append, List.length_take, List.length_drop, Array.length_toList]
          omega
        · rw [h7]
          have : (xs ++ ys).length * i.size = (cells ++ news).length := by rw [List.length_append, List.length_append, hxl, hnl, Nat.add_mul]
          rw [this]
          exact List.take_left
      · refine hgrow cells ?_ hxe (by omega)
        refine run_firstCells_some w.drew i.size xs.length ⟨g, 0, none⟩ _ cap cells hxl ?_
        intro j v hj
        rw [add_plain, World.cell?_drew]
        have hrow : Row w g 0 cells := ⟨arr, e', (0, 0), h3, by rw [hxl]; simpa using h7⟩
        exact hrow.cell hj
  · cases h
end
end Go.Pg
end

section
/-
  The pure layer: slices made, cut and written.
-/
namespace Go.Pg
open Go

/-- An element type's zero. -/
def zelem (P : Program) (e : TypeId) : Option V := (tzero P e).bind fun z => if z.cells.toList.all Value.oneCell' = true then some (ofConst z) else none

theorem anyL_map_c (p : Tag → Bool) (q : Nat → Bool) (tp : Bool) (l : List Value) : V.anyL p q tp (l.map .c) = false := by
  induction l with
  | nil => rfl
  | cons x xs ih => simp [V.anyL, V.any, ih]

theorem free_ofConst (v : Value) : (ofConst v).free = true := by
  cases v <;> simp [ofConst, V.free, V.any, anyL_map_c]

/-- Cells of n elements z. -/
theorem cells_rep (z : Array Value) (n : Nat) : ((Array.range (n * z.size)).map (z[· % z.size]!)).toList = (List.replicate n z.toList).flatten := by
  induction n with
  | zero => simp [Array.range_zero']
  | succ n ih =>
    have e : (Array.range ((n + 1) * z.size)).toList = List.range (n * z.size) ++ (List.range z.size).map (n * z.size + ·) := by
      simp only [Array.toList_range]
      rw [Nat.add_mul, Nat.one_mul, List.range_add]
    simp only [Array.toList_map, Array.toList_range] at ih ⊢
    simp only [Array.toList_range] at e
    rw [e, List.map_append, ih, List.replicate_succ', List.flatten_append]
    congr 1
    simp only [List.map_map, List.flatten_cons, List.flatten_nil, List.append_nil]
    apply List.ext_getElem?
    intro j
    by_cases hj : j < z.size
    · simp [hj, Nat.mod_eq_of_lt hj]
    · simp [hj]

section
variable {P : Program} {C : Cx} {s : St} {L L' : Lay} {a : Act} {w w' : World}

theorem repE_replicate {v : V} {z : Value} (n : Nat) (hr : Rep L w v z) (hf : v.free = true) (h1 : z.cells.toList.all Value.oneCell' = true) :
    RepE L w z.cells.size (List.replicate n v) (List.replicate n z.cells.toList).flatten := by
  induction n with
  | zero => rfl
  | succ n ih =>
    rw [List.replicate_succ, List.replicate_succ, List.flatten_cons]
    exact ⟨z, _, rfl, rfl, ⟨hf, h1⟩, hr, ih⟩

/-- A new array of the call's own. -/
theorem newOwn_ok {e : TypeId} {k cap : Nat} {xs : List V} {arr : Array Value} (S : Sim C s L a w) (hcap : arr.size = cap * k) (hlen : xs.length ≤ cap) (hm : cap ≤ maxLen) (hr : RepE L w k xs (arr.toList.take (xs.length * k))) :
    ∃ L', Sim C { s with nid := s.nid + 1 } L' a (w.alloc (.cells arr e)) ∧ Rep L' (w.alloc (.cells arr e)) (.sl (.own s.nid e) k xs) (.slice (some ⟨w.heap.size, 0, none⟩) xs.length cap) := by
  have G := Grow.alloc w (.cells arr e)
  have E := S.wf.leOwn (s := s) w.heap.size
  refine ⟨L.addOwn s.nid w.heap.size, S.grow G E rfl (fun b cs h => .inl h) (S.wf.addOwn S.hB (by simp)), _, _, _, rfl, hr.trans (p := fun _ => false) (q := fun _ => false) rfl (S.wf.whole G E), ?_⟩
  exact .inr ⟨w.heap.size, arr, by simp [Lay.addOwn, upd], rfl, heap_alloc_new w _, hlen, hm, hcap, rfl⟩

/-! ### make -/
def makeV (P : Program) (s : St) (t : TypeId) (l c : V) : Option (V × St) :=
  match l, c with
  | .c (.int _ n), .c (.int _ m) => (elemT P t).bind fun e => (tapp P e).bind fun (k, bytes) => (zelem P e).bind fun z =>
      if 0 ≤ n ∧ n ≤ m ∧ (bytes : Int) * m ≤ 281474976710656 ∧ m ≤ 9223372036854775807 then some (.sl (.own s.nid e) k (List.replicate n.toNat z), { s with nid := s.nid + 1 }) else none
  | _, _ => none

theorem zelem_zero {e : TypeId} {v : V} (h : zelem P e = some v) : ∃ z, tzero P e = some z ∧ v = ofConst z ∧ z.cells.toList.all Value.oneCell' = true := by
  simp only [zelem, Option.bind_eq_some_iff, Option.ite_none_right_eq_some, Option.some.injEq] at h
  obtain ⟨z, hz, h1, rfl⟩ := h
  exact ⟨z, hz, rfl, h1⟩

theorem makeV_ok {t : TypeId} {l c r : V} {ul uc : Value} {s' : St} (h : makeV P s t l c = some (r, s')) (S : Sim C s L a w) (hl : Rep L w l ul) (hc : Rep L w c uc) :
    ∃ u w' L', (Instr.makeSlice t ul uc).run P w = .ok u w' ∧ Sim C s' L' a w' ∧ Rep L' w' r u := by
  unfold makeV at h
  split at h
  · rename_i kl n kc m
    simp only [Option.bind_eq_some_iff, Prod.exists, Option.ite_none_right_eq_some, Option.some.injEq, Prod.mk.injEq] at h
    obtain ⟨e, he, k, bytes, hk, v, hv, ⟨h0, h1, h2, h3⟩, rfl, rfl⟩ := h
    obtain ⟨i, z, hi, hz, hzs, hik, rfl, hpos⟩ := tapp_info hk
    obtain ⟨z', hz', rfl, hone⟩ := zelem_zero hv
    have : z' = z := by simp [tzero, hi, hz] at hz'; exact hz'.symm
    subst this
    simp only [Rep] at hl hc; subst hl; subst hc
    have hrun := run_make (P := P) w t e i z' (elemT_und he) hi hz kl kc n m h0 h1 h2 h3
    have hcells : (madeCells z'.cells (m.toNat * i.size)).toList = (List.replicate m.toNat z'.cells.toList).flatten := by
      rw [hik, ← hzs]; exact cells_rep z'.cells m.toNat
    have htake : ((List.replicate m.toNat z'.cells.toList).flatten).take (n.toNat * k) = (List.replicate n.toNat z'.cells.toList).flatten := by
      have e1 : m.toNat = n.toNat + (m.toNat - n.toNat) := by omega
      rw [e1, ← List.replicate_append_replicate, List.flatten_append]
      have hl : ((List.replicate n.toNat z'.cells.toList).flatten).length = n.toNat * k := by simp [hzs]
      rw [← hl]; exact List.take_left
    obtain ⟨L', h4, h5⟩ := newOwn_ok (e := e) (k := k) (cap := m.toNat) (xs := List.replicate n.toNat (ofConst z')) (arr := madeCells z'.cells (m.toNat * i.size)) S
      (by rw [size_madeCells, hik]) (by simp; omega) (by simp only [maxLen]; omega)
      (by rw [hcells, List.length_replicate, htake, ← hzs]; exact repE_replicate _ (rep_ofConst L w z') (free_ofConst z') hone)
    rw [List.length_replicate] at h5
    exact ⟨_, _, L', hrun, h4, h5⟩
  · cases h

/-! ### a slice's literal -/
/-- An empty one is not nil. -/
def bsTag (len id : Nat) (e : TypeId) : Tag := match len with | 0 => .nn | _ + 1 => .own id e
def setAll (k : Nat) (xs : List V) : List (Nat × V) → Option (List V)
  | [] => some xs
  | (i, v) :: rest =>
    match v.cs with
    | some l => if l.length = k ∧ v.free = true ∧ l.all V.one = true ∧ i < xs.length then setAll k (xs.set i v) rest else none
    | none => none

def buildSliceV (P : Program) (s : St) (t : TypeId) (len : Nat) (parts : List (Nat × V)) : Option (V × St) :=
  (elemT P t).bind fun e => (tapp P e).bind fun (k, _) => (zelem P e).bind fun z => (setAll k (List.replicate len z) parts).bind fun xs =>
    if len * k ≤ 16777216 then some (.sl (bsTag len s.nid e) k xs, { s with nid := s.nid + 1 }) else none

theorem setAll_run {k : Nat} (sv : Operand → V) (se : Operand → Value) (hs : ∀ x, Rep L w (sv x) (se x)) : ∀ (parts : List (Nat × Operand)) (xs r : List V) (ucells : Array Value),
    setAll k xs (parts.map fun p => (p.1, sv p.2)) = some r → RepE L w k xs ucells.toList →
    ∃ ur, Instr.fill (fun i => some (i * k, k)) ucells (parts.map fun p => (p.1, se p.2)) = some ur ∧ RepE L w k r ur.toList ∧ r.length = xs.length := by
  intro parts
  induction parts with
  | nil =>
    intro xs r ucells h hr
    simp only [List.map_nil, setAll, Option.some.injEq] at h
    subst h
    exact ⟨ucells, rfl, hr, rfl⟩
  | cons p rest ih =>
    intro xs r ucells h hr
    obtain ⟨i, x⟩ := p
    have hv := hs x
    simp only [List.map_cons, setAll] at h ⊢
    generalize sv x = v at hv h
    generalize se x = u at hv ⊢
    split at h
    · rename_i l hcs
      simp only [Option.ite_none_right_eq_some] at h
      obtain ⟨⟨h1, h2, h3, h4⟩, h⟩ := h
      have hrl := rep_cs hv hcs
      have hll := hrl.length
      have hcl := hr.length
      simp only [Array.length_toList] at hll hcl
      have hfit : i * k + k ≤ xs.length * k := by
        have := Nat.mul_le_mul_right k (show i + 1 ≤ xs.length from h4)
        rwa [Nat.add_mul, Nat.one_mul] at this
      have hfold := fold_cells u.cells.toList 0 (i * k) ucells (by simp; omega)
      simp only [Nat.add_zero, Array.length_toList, hll, h1] at hfold
      have hr' : RepE L w k (xs.set i v) (u.cells.zipIdx.foldl (fun cs (x : Value × Nat) => cs.setIfInBounds (i * k + x.2) x.1) ucells).toList := by
        rw [← Array.foldl_toList, Array.toList_zipIdx, hfold]
        exact hr.set h4 (by omega) ⟨h2, List.all_eq_true.2 (reps_one hrl h3)⟩ hv
      obtain ⟨ur, h5, h6, h7⟩ := ih _ r _ h hr'
      refine ⟨ur, ?_, h6, by simpa using h7⟩
      simp only [Instr.fill]
      rw [if_neg (by simp [hll, h1]; omega)]
      exact h5
    · cases h

theorem buildSlice_run {t : TypeId} {len : Nat} {parts : Array (Nat × Operand)} {e : TypeId} {k bytes : Nat} {v : V} {xs : List V} (hev : ∀ x, Rep L w (s.ev x) (a.eval x)) (he : elemT P t = some e) (hk : tapp P e = some (k, bytes)) (hv : zelem P e = some v)
    (hxs : setAll k (List.replicate len v) (parts.toList.map fun p => (p.1, s.ev p.2)) = some xs) (h24 : len * k ≤ 16777216) :
    ∃ ur, (Instr.buildSlice t len (parts.map fun (i, x) => (i, a.eval x))).run P w = .ok (.slice (some ⟨w.heap.size, 0, none⟩) len len) (w.alloc (.cells ur e)) ∧ ur.size = len * k ∧ xs.length = len ∧ RepE L w k xs ur.toList ∧ len ≤ maxLen := by
  obtain ⟨i, z, hi, hz, hzs, hik, _, hpos⟩ := tapp_info hk
  obtain ⟨z', hz', rfl, hone⟩ := zelem_zero hv
  have : z' = z := by simp [tzero, hi, hz] at hz'; exact hz'.symm
  subst this
  have hsz : tsz P e = some k := by simp [tsz, hi, hik]
  have hinit : RepE L w k (List.replicate len (ofConst z')) ((Array.range (len * k)).map (z'.cells[· % z'.cells.size]!)).toList := by
    rw [← hzs, cells_rep]
    exact repE_replicate _ (rep_ofConst L w z') (free_ofConst z') hone
  obtain ⟨ur, h1, h2, h3⟩ := setAll_run s.ev a.eval hev parts.toList _ xs _ hxs hinit
  rw [List.length_replicate] at h3
  have hul : ur.size = len * k := by have := h2.length; simpa [h3] using this
  refine ⟨ur, ?_, hul, h3, h2, ?_⟩
  · have h24' : ¬ len * k > 2 ^ 24 := by omega
    by_cases h0 : len * k = 0
    · have hl0 : len = 0 := by
        rcases Nat.mul_eq_zero.1 h0 with h | h
        · exact h
        · omega
      subst hl0
      have h1' : Instr.fill (fun i => some (i * k, k)) ((Array.range 0).map fun x => (#[] : Array Value)[x % (#[] : Array Value).size]!) (parts.toList.map fun p => (p.1, a.eval p.2)) = some ur := by
        rw [← h1]; congr 1; simp [Array.range_zero']
      simp only [Instr.buildSlice, Sem.run_bind, run_underlying (elemT_und he), Result.andThen_ok, run_tsz hsz]
      rw [if_neg h24', if_pos h0]
      simp only [Sem.run_bind, Sem.run_pure, Result.andThen_ok, Array.toList_map, h0]
      simp only [h1']
      simp [newRow]
    · simp only [Instr.buildSlice, Sem.run_bind, run_underlying (elemT_und he), Result.andThen_ok, run_tsz hsz]
      rw [if_neg h24', if_neg h0]
      simp only [Sem.run_bind, run_tzero hz', Sem.run_pure, Result.andThen_ok, Array.toList_map]
      simp only [h1]
      simp [newRow]
  · have : len ≤ len * k := Nat.le_mul_of_pos_right len hpos
    simp only [maxLen]; omega
theorem buildSliceV_ok {t : TypeId} {len : Nat} {parts : Array (Nat × Operand)} {r : V} {s' : St} (S : Sim C s L a w) (h : buildSliceV P s t len (parts.toList.map fun p => (p.1, s.ev p.2)) = some (r, s')) :
    ∃ u w' L', (Instr.buildSlice t len (parts.map fun (i, x) => (i, a.eval x))).run P w = .ok u w' ∧ Sim C s' L' a w' ∧ Rep L' w' r u := by
  simp only [buildSliceV, Option.bind_eq_some_iff, Prod.exists, Option.ite_none_right_eq_some, Option.some.injEq, Prod.mk.injEq] at h
  obtain ⟨e, he, k, bytes, hk, v, hv, xs, hxs, h24, rfl, rfl⟩ := h
  obtain ⟨ur, h1, hul, h3, h2, hm⟩ := buildSlice_run S.ev he hk hv hxs h24
  obtain ⟨L', h4, h5⟩ := newOwn_ok (e := e) (k := k) (cap := len) (xs := xs) (arr := ur) S hul (by omega) hm (by rw [h3, ← hul, ← Array.length_toList, List.take_length]; exact h2)
  rw [h3] at h5
  refine ⟨_, _, L', h1, h4, ?_⟩
  cases len with
  | zero =>
    have hx : xs = [] := List.eq_nil_of_length_eq_zero h3
    subst hx
    exact ⟨_, 0, [], rfl, rfl, rfl, rfl⟩
  | succ n => exact h5

/-! ### cutting an own array: it is written no more -/
def sliceOwn (P : Program) (s : St) (t : TypeId) (id k : Nat) (xs : List V) (lo hi : Option V) : Option (V × St) :=
  (slV P t (.sl .fz k xs) lo hi).map fun r => (r, s.mapV (frz id))

theorem sliceOwn_ok {t e : TypeId} {id k : Nat} {xs : List V} {r : V} {ux : Value} {s' : St} {lo hi : Option Operand} (h : sliceOwn P s t id k xs (lo.map s.ev) (hi.map s.ev) = some (r, s')) (S : Sim C s L a w) (hx : Rep L w (.sl (.own id e) k xs) ux)
    (hlo : ∀ x, lo = some x → ∃ u, s.ev x = .c u) (hhi : ∀ x, hi = some x → ∃ u, s.ev x = .c u) :
    ∃ u L', (Instr.sliceAt t ux (lo.map a.eval) (hi.map a.eval) none).run P w = .ok u w ∧ Sim C s' L' a w ∧ Rep L' w r u := by
  simp only [sliceOwn, Option.map_eq_some_iff, Prod.mk.injEq] at h
  obtain ⟨r', hr, rfl, rfl⟩ := h
  obtain ⟨S', hψ⟩ := S.freeze id
  have hx' := hψ _ _ hx
  have e1 : frz id (.sl (.own id e) k xs) = .sl .fz k xs := by simp [frz, V.map, Tag.is]
  rw [e1] at hx'
  have bd : ∀ (o : Option Operand), (∀ x, o = some x → ∃ u, s.ev x = .c u) → o.map s.ev = none ∧ o.map a.eval = none ∨ ∃ v u, o.map s.ev = some v ∧ o.map a.eval = some u ∧ Rep (L.freeze id) w v u := by
    intro o ho
    cases o with
    | none => exact .inl ⟨rfl, rfl⟩
    | some x =>
      obtain ⟨u, hu⟩ := ho x rfl
      have := S.ev x
      rw [hu] at this
      exact .inr ⟨_, _, rfl, rfl, by rw [hu]; exact this⟩
  obtain ⟨u, h1, h2⟩ := slV_run hr hx' (bd lo hlo) (bd hi hhi)
  exact ⟨u, L.freeze id, h1, S', h2⟩

/-! ### strings into bytes -/
def strBytes (P : Program) (src dst : TypeId) (x : V) : Option V :=
  match x with
  | .c (.string z) => if isStr P src = true ∧ (elemT P dst).bind (intT P) = some .u8 then some (.sl .fz 1 (byteVs z)) else none
  | _ => none

theorem freeze_row (w : World) (g n : Nat) (arr : Array Value) (e : TypeId) (fr : Nat × Nat) (hg : w.heap[g]? = some (.cells arr e fr)) : ∃ fr', (w.freeze ⟨g, n, none⟩ 1).heap[g]? = some (.cells arr e fr') := by
  simp only [World.freeze]
  rw [if_neg (by decide)]
  simp only [Array.getElem?_modify, if_true, hg, Option.map_some]
  exact ⟨_, rfl⟩
theorem freeze_other (w : World) (g n k : Nat) (h : k ≠ g) : (w.freeze ⟨g, n, none⟩ 1).heap[k]? = w.heap[k]? := by
  simp only [World.freeze]
  rw [if_neg (by decide)]
  simp only [Array.getElem?_modify]
  rw [if_neg (by omega)]
theorem freeze_size (w : World) (g n : Nat) : (w.freeze ⟨g, n, none⟩ 1).heap.size = w.heap.size := by
  simp only [World.freeze]
  rw [if_neg (by decide)]
  simp

theorem strBytes_ok {src dst : TypeId} {x r : V} {ux : Value} (h : strBytes P src dst x = some r) (S : Sim C s L a w) (hx : Rep L w x ux) :
    ∃ u w' L', (convert src dst ux).run P w = .ok u w' ∧ Sim C s L' a w' ∧ Rep L' w' r u := by
  unfold strBytes at h
  split at h
  · rename_i z
    simp only [Option.ite_none_right_eq_some, Option.bind_eq_some_iff, Option.some.injEq] at h
    obtain ⟨⟨h0, e, he, h1⟩, rfl⟩ := h
    simp only [Rep] at hx; subst hx
    have hcap := grownCap_ge w z.size 0 e
    let arr : Array Value := z.data.map (fun b => Value.int .u8 b.toNat) ++ Array.replicate (grownCap w z.size 0 e - z.size) (.int .u8 0)
    have harr : arr.toList.take z.size = byteCells z := by
      have : (z.data.map (fun b => Value.int .u8 b.toNat)).toList = byteCells z := by simp [byteCells]
      simp only [arr, Array.toList_append, this]
      rw [← byteCells_length z]
      exact List.take_left
    have hasz : arr.size = grownCap w z.size 0 e := by simp [arr]; omega
    let w1 : World := w.drew.alloc (.cells arr e)
    have hh : w1.heap[w.heap.size]? = some (.cells arr e (0, 0)) := heap_alloc_new w.drew _
    have G1 : Grow w w1 := Grow.drewAlloc w _
    let w2 : World := w1.freeze ⟨w.heap.size, arr.size, none⟩ 1
    have G : Grow w w2 := ⟨rfl, rfl, rfl, by rw [freeze_size]; exact G1.size, fun k hk => (freeze_other w1 _ _ k (by omega)).trans (G1.block k hk)⟩
    have E := Lay.leA L w.heap.size
    have hsz : w.heap.size < w2.heap.size := by rw [freeze_size]; simp [w1]
    obtain ⟨fr, hfr⟩ := freeze_row w1 w.heap.size arr.size arr e (0, 0) hh
    refine ⟨.slice (some ⟨w.heap.size, 0, none⟩) z.size (grownCap w z.size 0 e), w2, L.addA w.heap.size, ?_, S.grow G E rfl (fun b cs h => .inl h) (S.wf.addA S.hB hsz), some ⟨w.heap.size, 0, none⟩, grownCap w z.size 0 e, byteCells z, by simp [byteVs], byteVs_rep z, ?_⟩
    · have hsh : w1.shape? w.heap.size = some (e, arr.size) := by simp [World.shape?, hh]
      simp only [convert, Sem.run_bind, run_underlying (isStr_und h0), run_underlying (elemT_und he), run_underlying (intT_und h1), Result.andThen_ok, Conv.stringToBytes, run_choose_drew]
      have hnf : (Question.appendCap z.size 0 e).forced = false := rfl
      rw [hnf]
      simp only [Bool.false_eq_true, if_false, Result.andThen_ok, newRow, Sem.run_bind, run_newObj_alloc, Sem.run_pure, markStringish, run_shape]
      have e2 : ((w.drew.alloc (.cells (z.data.map (fun b => Value.int .u8 b.toNat) ++ Array.replicate ((Question.appendCap z.size 0 e).cut (w.tape w.drawn (.appendCap z.size 0 e)) - z.size) (.int .u8 0)) e)).shape? w.drew.heap.size) = some (e, arr.size) := hsh
      rw [e2]
      rfl
    · refine ⟨by simpa [byteVs] using hcap, .inr ⟨w.heap.size, 0, rfl, .inr rfl, arr, e, fr, hfr, ?_⟩⟩
      simp only [List.drop_zero, byteCells_length]
      exact harr
  · cases h

/-- '[]byte(b)' of an own array. -/
def sameSl (P : Program) (s : St) (src dst : TypeId) (x : V) : Option (V × St) :=
  match x with
  | .sl (.own id _) k xs => if src = dst ∧ (elemT P dst).bind (intT P) = some .u8 ∧ 0 < xs.length then some (.sl .fz k xs, s.mapV (frz id)) else none
  | _ => none

theorem sameSl_ok {src dst : TypeId} {x r : V} {ux : Value} {s' : St} (h : sameSl P s src dst x = some (r, s')) (S : Sim C s L a w) (hx : Rep L w x ux) :
    ∃ u w' L', (convert src dst ux).run P w = .ok u w' ∧ Sim C s' L' a w' ∧ Rep L' w' r u := by
  unfold sameSl at h
  split at h
  · rename_i id e' k xs
    simp only [Option.ite_none_right_eq_some, Option.bind_eq_some_iff, Option.some.injEq, Prod.mk.injEq] at h
    obtain ⟨⟨rfl, ⟨e, he, h1⟩, hpos⟩, rfl, rfl⟩ := h
    obtain ⟨S', hψ⟩ := S.freeze id
    have hx' := hψ _ _ hx
    have e1 : frz id (.sl (.own id e') k xs) = .sl .fz k xs := by simp [frz, V.map, Tag.is]
    rw [e1] at hx'
    obtain ⟨ad, cap, cells, rfl, h2, h3⟩ := hx
    rcases h3 with ⟨h4, _⟩ | ⟨g, arr, h4, rfl, h5, _⟩
    · omega
    · have hW := S.wf.own id g h4
      have hA : (L.freeze id).A g := .inr h4
      have hO : ∀ i, (L.freeze id).own i ≠ some g := fun i h => (S'.wf.own i g h).2.2 hA
      obtain ⟨fr, hfr⟩ := freeze_row w g arr.size arr e' (0, 0) h5
      have K : Whole (L.freeze id) (L.freeze id) w (w.freeze ⟨g, arr.size, none⟩ 1) := by
        refine ⟨rfl, fun g' h => ⟨h, ?_⟩, fun j e _ g' h => ⟨⟨rfl, h⟩, freeze_other w _ _ g' (fun e => by subst e; exact hO j h)⟩, fun _ _ _ h => h⟩
        by_cases hg : g' = g
        · subst hg
          intro arr' e'' fr' h'
          rw [h5] at h'
          simp only [Option.some.injEq, Obj.cells.injEq] at h'
          obtain ⟨rfl, rfl, _⟩ := h'
          exact ⟨fr, hfr⟩
        · exact .of (freeze_other w _ _ g' hg)
      have hsz : (w.freeze ⟨g, arr.size, none⟩ 1).heap.size = w.heap.size := freeze_size w _ _
      refine ⟨.slice (some ⟨g, 0, none⟩) xs.length cap, w.freeze ⟨g, arr.size, none⟩ 1, L.freeze id, ?_, ⟨S'.defers, S'.size, fun t => (S'.env t).whole K, fun t => (S'.hid t).whole K, ?_, S'.wf.mono (Nat.le_refl _) (by rw [hsz]; exact Nat.le_refl _), S'.kp.trans ⟨rfl, rfl, rfl, by rw [hsz]; exact Nat.le_refl _, ?_⟩⟩, hx'.whole K⟩
      · have hsh : w.shape? g = some (e', arr.size) := by simp [World.shape?, h5]
        simp [convert, run_underlying (elemT_und he), run_underlying (intT_und h1), markStringish, hsh]
      · intro b cs hb
        obtain ⟨g', arr', h7, h8, h9⟩ := S'.box b cs hb
        exact ⟨g', arr', h7, (freeze_other w _ _ g' (fun e => by subst e; exact (S'.wf.boxW b _ h7).2.2 hA)).trans h8, h9.whole K⟩
      · intro k' hk' hW'
        exact freeze_other w _ _ k' (fun e => by subst e; exact hW.2.1.elim (fun h => by omega) hW')
  · cases h
/-! ### cutting an array's variable: it is written no more, and its name is forgotten -/
def killB (b : Nat) (v : V) : V := if v.any (fun _ => false) (fun j => j == b) false then .top else v
def Lay.kill (L : Lay) (b : Nat) : Lay := { L with A := fun g => L.A g ∨ L.box b = some g, box := fun j => if j = b then none else L.box j }

theorem Sim.kill (S : Sim C s L a w) (b : Nat) : Sim C { (s.mapV (killB b)) with bx := upd (fun j => (s.bx j).map fun x => (x.1, x.2.map (killB b))) b none } (L.kill b) a w := by
  have W := S.wf
  have K : Trans (fun _ => false) (fun j => j == b) _root_.id _root_.id L (L.kill b) w w := by
    refine ⟨rfl, fun g h => ⟨.inl h, .of rfl⟩, fun j e _ g h => ⟨⟨rfl, h⟩, rfl⟩, fun j hj g h => ?_⟩
    have : j ≠ b := by simpa using hj
    simp only [Lay.kill, id_eq, if_neg this]; exact h
  have hψ : ∀ v u, Rep L w v u → Rep (L.kill b) w (killB b v) u := by
    intro v u h
    unfold killB
    split
    · trivial
    · rename_i hv
      have := h.trans rfl K (by simpa using hv)
      rwa [map_id.1] at this
  refine ⟨S.defers, S.size, fun t => hψ _ _ (S.env t), fun t => hψ _ _ (S.hid t), ?_, ?_, S.kp⟩
  · intro j cs h
    simp only [upd] at h
    split at h
    · cases h
    · rename_i hj
      simp only [Option.map_eq_some_iff] at h
      obtain ⟨l, hl, rfl⟩ := h
      obtain ⟨g, arr, h1, h2, h3⟩ := S.box j l hl
      exact ⟨g, arr, by simp only [Lay.kill, if_neg hj]; exact h1, h2, reps_map hψ h3⟩
  · exact {
      nidO := W.nidO
      nidB := fun j g h => by
        simp only [Lay.kill] at h
        split at h
        · cases h
        · exact W.nidB j g h
      own := fun j g h => by
        obtain ⟨h1, h2, h3⟩ := W.own j g h
        exact ⟨h1, h2, fun h' => h'.elim h3 (fun h' => W.dis j b g h h')⟩
      boxW := fun j g h => by
        simp only [Lay.kill] at h
        split at h
        · cases h
        · rename_i hj
          obtain ⟨h1, h2, h3⟩ := W.boxW j g h
          exact ⟨h1, h2, fun h' => h'.elim h3 (fun h' => hj (W.injB j b g h h'))⟩
      injO := W.injO
      injB := fun i j g h h' => by
        simp only [Lay.kill] at h h'
        split at h
        · cases h
        · split at h'
          · cases h'
          · exact W.injB i j g h h'
      dis := fun i j g h h' => by
        simp only [Lay.kill] at h'
        split at h'
        · cases h'
        · exact W.dis i j g h h'
      old := fun g h => h.elim (W.old g) (fun h => (W.boxW b g h).1)
      frz := fun g h => h.elim (W.frz g) (fun h => .inr (W.boxW b g h).2.1) }

theorem repE_ones {L : Lay} {w : World} {l : List V} {us : List Value} (h : Reps L w l us) (h1 : l.all (fun v => v.free && v.one) = true) : RepE L w 1 l us := by
  induction l generalizing us with
  | nil => exact h
  | cons x xs ih =>
    obtain ⟨u, r, rfl, h2, h3⟩ := h
    simp only [List.all_cons, Bool.and_eq_true] at h1
    have ho := rep_one h2 h1.1.2
    have hc : u.cells = #[u] := by cases u <;> first | rfl | (simp [Value.oneCell'] at ho)
    exact ⟨u, r, by simp [hc], by simp [hc], ⟨h1.1.1, by simp [hc, ho]⟩, h2, ih h3 h1.2⟩

def sliceBox (P : Program) (s : St) (t : TypeId) (b off : Nat) (lo hi : Option V) : Option (V × St) :=
  (s.bx b).bind fun y => (arrayT P t).bind fun (n, e) => (bdV lo 0).bind fun l => (bdV hi n).bind fun h =>
    if off = 0 ∧ tsz P e = some 1 ∧ y.2.length = n ∧ y.2.all (fun v => v.free && v.one) = true ∧ 0 ≤ l ∧ l ≤ h ∧ h ≤ n then
      some (.sl .fz 1 ((y.2.take h.toNat).drop l.toNat), { (s.mapV (killB b)) with bx := upd (fun j => (s.bx j).map fun x => (x.1, x.2.map (killB b))) b none }) else none

theorem sliceBox_ok {t : TypeId} {b off : Nat} {r : V} {ux : Value} {s' : St} {lo hi : Option Operand} (h : sliceBox P s t b off (lo.map s.ev) (hi.map s.ev) = some (r, s')) (S : Sim C s L a w) (hx : Rep L w (.ref b off) ux)
    (rl : lo.map s.ev = none ∧ lo.map a.eval = none ∨ ∃ v u, lo.map s.ev = some v ∧ lo.map a.eval = some u ∧ Rep L w v u) (rh : hi.map s.ev = none ∧ hi.map a.eval = none ∨ ∃ v u, hi.map s.ev = some v ∧ hi.map a.eval = some u ∧ Rep L w v u) :
    ∃ u L', (Instr.sliceAt t ux (lo.map a.eval) (hi.map a.eval) none).run P w = .ok u w ∧ Sim C s' L' a w ∧ Rep L' w r u := by
  simp only [sliceBox, Option.bind_eq_some_iff, Prod.exists, Option.ite_none_right_eq_some, Option.some.injEq, Prod.mk.injEq] at h
  obtain ⟨e0, cs, hcs, n, e, hn, l, hl, h', hh, ⟨rfl, h1, h2, h3, h4, h5, h6⟩, rfl, rfl⟩ := h
  obtain ⟨g, arr, hg, ha, hr⟩ := S.box b _ hcs
  obtain ⟨g', hg', rfl⟩ := hx
  rw [hg] at hg'
  simp only [Option.some.injEq] at hg'
  subst hg'
  have S' := S.kill b
  have hal : arr.toList.length = cs.length := hr.length
  have hb := bounds_run (P := P) (w := w) (isS := false) (len := n) (Nat.le_refl _) (bdV_rep hl rl) (bdV_rep hh rh) h4 h5 h6
  have hE := repE_ones hr h3
  have K : Trans (fun _ => false) (fun j => j == b) _root_.id _root_.id L (L.kill b) w w := by
    refine ⟨rfl, fun g h => ⟨.inl h, .of rfl⟩, fun j e _ g h => ⟨⟨rfl, h⟩, rfl⟩, fun j hj g h => ?_⟩
    have : j ≠ b := by simpa using hj
    simp only [Lay.kill, id_eq, if_neg this]; exact h
  have hE' := RepE.trans rfl K hE
  have hlen : ((cs.take h'.toNat).drop l.toNat).length = h'.toNat - l.toNat := by simp; omega
  refine ⟨.slice (some (if n = l.toNat then (⟨g, 0, none⟩ : Addr) else (⟨g, 0, none⟩ : Addr).add (l.toNat * 1))) (h'.toNat - l.toNat) (n - l.toNat), L.kill b, ?_, S', ?_⟩
  · simp [Instr.sliceAt, run_underlying (arrayT_und hn), hb, run_tsz h1, Instr.sureAddr]
  · refine ⟨_, _, (arr.toList.take (h'.toNat * 1)).drop (l.toNat * 1), by rw [hlen], (hE'.take _).drop _, ?_⟩
    rw [hlen]
    refine ⟨by omega, ?_⟩
    rcases Nat.eq_zero_or_pos (h'.toNat - l.toNat) with hz | hz
    · exact .inl hz
    · right
      refine ⟨g, l.toNat, ?_, .inr hg, arr, e0, (0, 0), ha, ?_⟩
      · rw [if_neg (by omega)]; simp [Addr.add]; omega
      · simp only [Nat.mul_one]
        rw [List.drop_take]
        simp only [List.length_take, List.length_drop]
        congr 1
        omega
end
end Go.Pg
end

section
/-
  The pure layer: a store into an element of an own array.
-/
namespace Go.Pg
open Go

/-- The element made anew of its cells. -/
def rebuild (x0 : V) (cs : List V) : Option V :=
  match x0, cs with
  | .agg _, cs => some (.agg cs)
  | x, [y] => if x.one = true then some y else none
  | _, _ => none

def storeE (P : Program) (s : St) (t : TypeId) (id k : Nat) (xs : List V) (i off : Nat) (x : V) : Option St :=
  (xs[i]?).bind fun x0 => x0.cs.bind fun c0 => x.cs.bind fun l => (rebuild x0 (c0.take off ++ l ++ c0.drop (off + l.length))).bind fun x1 =>
    if tsz P t = some l.length ∧ off + l.length ≤ c0.length ∧ l.all V.one = true ∧ x1.free = true then some (s.mapV (setOwn id k i x1)) else none

section
variable {P : Program} {C : Cx} {s : St} {L L' : Lay} {a : Act} {w w' : World}

theorem rebuild_rep {x0 x1 : V} {cs : List V} {u0 : Value} {us : List Value} (h : rebuild x0 cs = some x1) (h0 : Rep L w x0 u0) (hr : Reps L w cs us) (hone : ∀ u ∈ us, u.oneCell' = true) :
    ∃ u1 : Value, u1.cells.toList = us ∧ Rep L w x1 u1 := by
  unfold rebuild at h
  split at h
  · simp only [Option.some.injEq] at h
    subst h
    exact ⟨.agg us.toArray, by simp [Value.cells], us.toArray, rfl, by simpa using hr⟩
  · rename_i y hx
    simp only [Option.ite_none_right_eq_some, Option.some.injEq] at h
    obtain ⟨_, rfl⟩ := h
    obtain ⟨u, r, rfl, h2, h3⟩ := hr
    simp only [Reps] at h3
    subst h3
    have hu := hone u (by simp)
    refine ⟨u, ?_, h2⟩
    cases u <;> first | rfl | (simp [Value.oneCell'] at hu)
  · cases h

theorem setOwn_rep {id k i g : Nat} {x1 : V} {u1 : Value} {arr arr' : Array Value} {e : TypeId} (hg : L.own id = some g) (ha : w.heap[g]? = some (.cells arr e (0, 0)))
    (hinj : ∀ j, L.own j = some g → j = id) (hnA : ¬ L.A g) (harr : arr'.size = arr.size) (hk : u1.cells.size = k)
    (harr' : ∀ len, i < len → len * k ≤ arr.size → arr'.toList.take (len * k) = (arr.toList.take (len * k)).take (i * k) ++ u1.cells.toList ++ (arr.toList.take (len * k)).drop (i * k + k))
    (harr0 : ∀ len, len ≤ i → arr'.toList.take (len * k) = arr.toList.take (len * k))
    (hx1 : Rep L (w.setRow g arr') x1 u1) (hf : x1.free = true ∧ u1.cells.toList.all Value.oneCell' = true) {v : V} {u : Value} (h : Rep L w v u) : Rep L (w.setRow g arr') (setOwn id k i x1 v) u := by
  have K : Trans (Tag.is id) (fun _ => false) _root_.id _root_.id L L w (w.setRow g arr') :=
    ⟨rfl, fun g' h => ⟨h, .of (setRow_other w g g' arr' (fun e => by subst e; exact hnA h))⟩,
      fun j e hj g' h => ⟨⟨rfl, h⟩, setRow_other w g g' arr' (fun e => by subst e; have := hinj j h; simp [Tag.is, this] at hj)⟩, fun _ _ _ h => h⟩
  unfold setOwn
  split
  · rename_i j e' k' xs
    split
    · rename_i hj
      subst hj
      split
      · rename_i hkk
        subst hkk
        obtain ⟨ad, cap, cells, rfl, h2, h3⟩ := h
        have h2' := h2.trans (p := Tag.is j) (q := fun _ => false) rfl K
        rcases h3 with ⟨h4, rfl, rfl⟩ | ⟨g', arr0, h4, rfl, h5, h6, h7, h8, h9⟩
        · have hx0 : xs = [] := List.eq_nil_of_length_eq_zero h4
          subst hx0
          exact ⟨none, 0, cells, rfl, h2', .inl ⟨rfl, rfl, rfl⟩⟩
        · rw [hg] at h4
          simp only [Option.some.injEq] at h4
          subst h4
          rw [ha] at h5
          simp only [Option.some.injEq, Obj.cells.injEq] at h5
          obtain ⟨rfl, rfl, _⟩ := h5
          have hle : xs.length * k' ≤ arr.size := by rw [h8]; exact Nat.mul_le_mul_right _ h6
          by_cases hi : i < xs.length
          · refine ⟨some ⟨g, 0, none⟩, cap, _, by simp, h2'.set hi hk hf hx1, .inr ⟨g, arr', hg, rfl, setRow_heap w g arr _ _ _ ha, by simpa using h6, h7, by rw [harr, h8], ?_⟩⟩
            rw [List.length_set, harr' xs.length hi hle, h9]
          · rw [List.set_eq_of_length_le (by omega)]
            exact ⟨some ⟨g, 0, none⟩, cap, cells, rfl, h2', .inr ⟨g, arr', hg, rfl, setRow_heap w g arr _ _ _ ha, h6, h7, by rw [harr, h8], by rw [harr0 xs.length (by omega)]; exact h9⟩⟩
      · trivial
    · rename_i hj
      have := h.trans rfl K (by simp [V.any, Tag.is, hj])
      rwa [map_id.1] at this
  · exact poison_rep K h

theorem seg_take (l u : List Value) (i k n : Nat) (hu : u.length = k) (hi : i + k ≤ n) (hn : n ≤ l.length) :
    (l.take i ++ u ++ l.drop (i + k)).take n = (l.take n).take i ++ u ++ (l.take n).drop (i + k) := by
  have e1 : (l.take i ++ u).length = i + k := by simp [hu]; omega
  rw [List.take_append, List.take_of_length_le (by omega), e1, List.take_take, Nat.min_eq_left (by omega), List.drop_take]

theorem storeE_ok {t : TypeId} {id k i off : Nat} {e : TypeId} {xs : List V} {x : V} {u ux : Value} {s' : St} (h : storeE P s t id k xs i off x = some s') (S : Sim C s L a w) (hu : Rep L w (.el (.own id e) k xs i off) u) (hx : Rep L w x ux) :
    ∃ w', (Instr.storeAt t u ux).run P w = .ok () w' ∧ Sim C s' L a w' := by
  simp only [storeE, Option.bind_eq_some_iff, Option.ite_none_right_eq_some, Option.some.injEq] at h
  obtain ⟨x0, hx0, c0, hc0, l, hl, x1, hx1, ⟨h1, h2, h3, h4⟩, rfl⟩ := h
  obtain ⟨g, o, cells, rfl, hr, hg, rfl, arr, ha, htake⟩ := hu
  obtain ⟨u0, h5, h6, h7, h8⟩ := hr.get hx0
  have hcl := hr.length
  have hi : i < xs.length := (List.getElem?_eq_some_iff.1 hx0).1
  have hik : i * k + k ≤ xs.length * k := by
    have := Nat.mul_le_mul_right k (show i + 1 ≤ xs.length from hi)
    rwa [Nat.add_mul, Nat.one_mul] at this
  have hrl := rep_cs hx hl
  have hll : ux.cells.size = l.length := by simpa using hrl.length
  have hr0 := rep_cs h8 hc0
  have hc0l : u0.cells.size = c0.length := by simpa using hr0.length
  have hal : xs.length * k ≤ arr.size := by
    have := congrArg List.length htake
    simp only [List.length_take, Array.length_toList] at this
    omega
  have hone := reps_one hrl h3
  have hrun := run_storeAt (P := P) (w := w) (t := t) (g := g) (o := 0 + i * k + off) (v := ux) (arr := arr) (e := e) (by rw [hll]; exact h1) ha (by omega) hone
  obtain ⟨hw1, hw2, hw3⟩ := S.wf.own id g hg
  let us1 : List Value := u0.cells.toList.take off ++ ux.cells.toList ++ u0.cells.toList.drop (off + l.length)
  have hus1 : Reps L w (c0.take off ++ l ++ c0.drop (off + l.length)) us1 := ((hr0.take off).append hrl).append (hr0.drop _)
  have hone1 : ∀ u ∈ us1, u.oneCell' = true := by
    intro v hv
    simp only [us1, List.mem_append] at hv
    rcases hv with (hv | hv) | hv
    · exact List.all_eq_true.1 h7.2 v (List.mem_of_mem_take hv)
    · exact hone v hv
    · exact List.all_eq_true.1 h7.2 v (List.mem_of_mem_drop hv)
  obtain ⟨u1, hu1, hru1⟩ := rebuild_rep hx1 h8 hus1 hone1
  have hu1k : u1.cells.size = k := by
    have : u1.cells.toList.length = us1.length := by rw [hu1]
    simp only [Array.length_toList, us1, List.length_append, List.length_take, List.length_drop, hll] at this
    omega
  have hu0 : (arr.toList.drop (i * k)).take k = u0.cells.toList := by
    rw [← h5, ← htake, List.drop_take, List.take_take]
    congr 1
    rw [hcl]
    omega
  -- the array behind the store, by elements
  have hnew : arr.toList.take (0 + i * k + off) ++ ux.cells.toList ++ arr.toList.drop (0 + i * k + off + ux.cells.size) = arr.toList.take (i * k) ++ u1.cells.toList ++ arr.toList.drop (i * k + k) := by
    rw [hu1, hll]
    simp only [us1, Nat.zero_add]
    have e1 : arr.toList.take (i * k + off) = arr.toList.take (i * k) ++ u0.cells.toList.take off := by
      rw [List.take_add, ← hu0, List.take_take, Nat.min_eq_left (by omega)]
    have e2 : arr.toList.drop (i * k + off + l.length) = u0.cells.toList.drop (off + l.length) ++ arr.toList.drop (i * k + k) := by
      rw [← hu0]
      have := List.take_append_drop (k - (off + l.length)) (arr.toList.drop (i * k + off + l.length))
      rw [← this, List.drop_drop, List.drop_take, List.drop_drop]
      congr 2
      · congr 1; omega
      · omega
    rw [e1, e2]
    simp [List.append_assoc]
  rw [hnew] at hrun
  let arr' : Array Value := (arr.toList.take (i * k) ++ u1.cells.toList ++ arr.toList.drop (i * k + k)).toArray
  have harr : arr'.size = arr.size := by simp [arr', hu1k]; omega
  have hfree : x1.free = true ∧ u1.cells.toList.all Value.oneCell' = true := ⟨h4, by rw [hu1]; exact List.all_eq_true.2 hone1⟩
  have K0 : Trans (Tag.is id) (fun _ => false) _root_.id _root_.id L L w (w.setRow g arr') :=
    ⟨rfl, fun g' h => ⟨h, .of (setRow_other w g g' arr' (fun e => by subst e; exact hw3 h))⟩,
      fun j e hj g' h => ⟨⟨rfl, h⟩, setRow_other w g g' arr' (fun e => by subst e; have := S.wf.injO j id _ h hg; simp [Tag.is, this] at hj)⟩, fun _ _ _ h => h⟩
  have hru1' : Rep L (w.setRow g arr') x1 u1 := by
    have := hru1.trans rfl K0 (V.free.any h4 (Tag.is id) (fun _ => false) rfl false)
    rwa [map_id.1] at this
  refine ⟨_, hrun, S.mapV (nid := s.nid) (fun v u h => setOwn_rep (arr := arr) (arr' := arr') hg ha (fun j hj => S.wf.injO j id g hj hg) hw3 harr hu1k ?_ ?_ hru1' hfree h)
    (fun b g' h => ⟨h, setRow_other w g g' _ (fun e => by subst e; exact S.wf.dis id b _ hg h)⟩) (S.wf.mono (Nat.le_refl _) (by simp)) (Kp.setRow _ hw2)⟩
  · intro len hlen hle
    have := Nat.mul_le_mul_right k (show i + 1 ≤ len from hlen)
    rw [Nat.add_mul, Nat.one_mul] at this
    simp only [arr']
    exact seg_take _ _ _ _ _ (by simpa using hu1k) this (by simpa using hle)
  · intro len hlen
    have := Nat.mul_le_mul_right k hlen
    simp only [arr']
    rw [List.append_assoc, List.take_append, List.take_take, Nat.min_eq_left this]
    have : len * k - (arr.toList.take (i * k)).length = 0 := by simp; omega
    rw [this]
    simp

/-! ### Strings made of an array's own bytes (strings.Builder) -/
theorem freezeN_row (w : World) (g o n : Nat) (arr : Array Value) (e : TypeId) (fr : Nat × Nat) (hg : w.heap[g]? = some (.cells arr e fr)) : ∃ fr', (w.freeze ⟨g, o, none⟩ n).heap[g]? = some (.cells arr e fr') := by
  simp only [World.freeze]
  split
  · exact ⟨fr, hg⟩
  · simp only [Array.getElem?_modify, if_true, hg, Option.map_some]
    exact ⟨_, rfl⟩
theorem freezeN_other (w : World) (g o n k : Nat) (h : k ≠ g) : (w.freeze ⟨g, o, none⟩ n).heap[k]? = w.heap[k]? := by
  simp only [World.freeze]
  split
  · rfl
  · simp only [Array.getElem?_modify]
    rw [if_neg (by omega)]
theorem freezeN_size (w : World) (g o n : Nat) : (w.freeze ⟨g, o, none⟩ n).heap.size = w.heap.size := by
  simp only [World.freeze]
  split <;> simp
theorem freezeN_rest (w : World) (g o n : Nat) : (w.freeze ⟨g, o, none⟩ n).os = w.os ∧ (w.freeze ⟨g, o, none⟩ n).tape = w.tape ∧ (w.freeze ⟨g, o, none⟩ n).output = w.output := by
  simp only [World.freeze]
  split <;> exact ⟨rfl, rfl, rfl⟩

theorem Sim.freezeW (S : Sim C s L a w) {id g : Nat} (n o : Nat) {arr : Array Value} {e : TypeId} (h4 : L.own id = some g) (h5 : w.heap[g]? = some (.cells arr e (0, 0))) :
    Sim C (s.mapV (frz id)) (L.freeze id) a (w.freeze ⟨g, o, none⟩ n) := by
  obtain ⟨S', hψ⟩ := S.freeze id
  have hW := S.wf.own id g h4
  have hA : (L.freeze id).A g := .inr h4
  have hO : ∀ i, (L.freeze id).own i ≠ some g := fun i h => (S'.wf.own i g h).2.2 hA
  obtain ⟨fr, hfr⟩ := freezeN_row w g o n arr e (0, 0) h5
  have K : Whole (L.freeze id) (L.freeze id) w (w.freeze ⟨g, o, none⟩ n) := by
    refine ⟨rfl, fun g' h => ⟨h, ?_⟩, fun j e _ g' h => ⟨⟨rfl, h⟩, freezeN_other w _ _ _ g' (fun e => by subst e; exact hO j h)⟩, fun _ _ _ h => h⟩
    by_cases hg : g' = g
    · subst hg
      intro arr' e'' fr' h'
      rw [h5] at h'
      simp only [Option.some.injEq, Obj.cells.injEq] at h'
      obtain ⟨rfl, rfl, _⟩ := h'
      exact ⟨fr, hfr⟩
    · exact .of (freezeN_other w _ _ _ g' hg)
  have hsz : (w.freeze ⟨g, o, none⟩ n).heap.size = w.heap.size := freezeN_size w _ _ _
  obtain ⟨ho, ht, hp⟩ := freezeN_rest w g o n
  refine ⟨S'.defers, S'.size, fun t => (S'.env t).whole K, fun t => (S'.hid t).whole K, ?_, S'.wf.mono (Nat.le_refl _) (by rw [hsz]; exact Nat.le_refl _), S'.kp.trans ⟨ho, ht, hp, by rw [hsz]; exact Nat.le_refl _, ?_⟩⟩
  · intro b cs hb
    obtain ⟨g', arr', h7, h8, h9⟩ := S'.box b cs hb
    exact ⟨g', arr', h7, (freezeN_other w _ _ _ g' (fun e => by subst e; exact (S'.wf.boxW b _ h7).2.2 hA)).trans h8, h9.whole K⟩
  · intro k' hk' hW'
    exact freezeN_other w _ _ _ k' (fun e => by subst e; exact hW.2.1.elim (fun h => by omega) hW')

def u8L : List V → Option (List UInt8)
  | [] => some []
  | .c (.int .u8 n) :: r => if 0 ≤ n ∧ n < 256 then (u8L r).map (UInt8.ofNat n.toNat :: ·) else none
  | _ => none
theorem u8L_cells {xs : List V} {l : List UInt8} {cells : List Value} (h : u8L xs = some l) (r : RepE L w 1 xs cells) : cells = Lib.byteCells l := by
  induction xs generalizing l cells with
  | nil => simp [u8L] at h; subst h; simpa [RepE, Lib.byteCells] using r
  | cons x xs ih =>
    unfold u8L at h
    split at h
    · rename_i heq; cases heq
    · rename_i n r' heq
      simp only [List.cons.injEq] at heq
      obtain ⟨rfl, rfl⟩ := heq
      simp only [Option.ite_none_right_eq_some, Option.map_eq_some_iff] at h
      obtain ⟨⟨h0, h1⟩, l', h2, rfl⟩ := h
      obtain ⟨u, rest, rfl, _, _, h4, h5⟩ := r
      simp only [Rep] at h4
      subst h4
      rw [ih h2 h5]
      have : ((UInt8.ofNat n.toNat).toNat : Int) = n := by
        rw [UInt8.toNat_ofNat']
        omega
      simp only [Lib.byteCells, Value.cells, List.map_cons, this]
      rfl
    · cases h
theorem u8L_len {xs : List V} {l : List UInt8} (h : u8L xs = some l) : l.length = xs.length := by
  induction xs generalizing l with
  | nil => simp [u8L] at h; subst h; rfl
  | cons x xs ih =>
    unfold u8L at h
    split at h
    · rename_i heq; cases heq
    · rename_i n r' heq
      simp only [List.cons.injEq] at heq
      obtain ⟨rfl, rfl⟩ := heq
      simp only [Option.ite_none_right_eq_some, Option.map_eq_some_iff] at h
      obtain ⟨_, l', h2, rfl⟩ := h
      simp [ih h2]
    · cases h

/-- unsafe.SliceData of a slice that is not empty. -/
def sdV (x : V) : Option V :=
  match x with
  | .sl t k (y :: ys) => some (.el t k (y :: ys) 0 0)
  | _ => none
theorem sdV_run {x r : V} {u : Value} (h : sdV x = some r) (rx : Rep L w x u) (ts : Array TypeId) (ty : TypeId) : ∃ v, (Builtin.unsafeSliceData_ ts ty #[u]).run P w = .ok v w ∧ Rep L w r v := by
  unfold sdV at h
  split at h
  · rename_i t k y ys
    simp only [Option.some.injEq] at h
    subst h
    obtain ⟨ad, cap, cells, rfl, h2, h3⟩ := rx
    obtain ⟨g, o, rfl, h4⟩ := h3.el (by simp) h2.length
    have hc : cap ≠ 0 := by have := h3.le; simp at this; omega
    exact ⟨_, Lib.run_unsafeSliceData_row w ts ty _ _ _ hc, g, o, cells, by simp, h2, h4⟩
  · cases h

def ptrTo (P : Program) (t : TypeId) : Option TypeId := match P.underlying t with | some (.pointer e) => some e | _ => none
theorem ptrTo_und {t e : TypeId} (h : ptrTo P t = some e) : P.underlying t = some (.pointer e) := by
  unfold ptrTo at h; split at h <;> simp_all
/-- unsafe.String over an own array's bytes. -/
def usV (P : Program) (s : St) (pt : TypeId) (x n : V) : Option (V × St) :=
  match x, n with
  | .el (.own id e) 1 xs 0 0, .c (.int .i64 m) => (u8L xs).bind fun l => if ptrTo P pt = some e ∧ P.cellsOf e = 1 ∧ m = xs.length ∧ xs.length ≠ 0 ∧ xs.length ≤ 9223372036854775807 then some (.c (.string ⟨l.toArray⟩), s.mapV (frz id)) else none
  | _, _ => none
theorem usV_ok {pt it ty : TypeId} {x n r : V} {ux un : Value} {s' : St} (h : usV P s pt x n = some (r, s')) (S : Sim C s L a w) (hx : Rep L w x ux) (hn : Rep L w n un) :
    ∃ u w' L', (Builtin.unsafeString_ #[pt, it] ty #[ux, un]).run P w = .ok u w' ∧ Sim C s' L' a w' ∧ Rep L' w' r u := by
  unfold usV at h
  split at h
  · rename_i id e xs m
    simp only [Option.bind_eq_some_iff, Option.ite_none_right_eq_some, Option.some.injEq, Prod.mk.injEq] at h
    obtain ⟨l, hl, ⟨hp, hc, rfl, h0, h63⟩, rfl, rfl⟩ := h
    simp only [Rep] at hn; subst hn
    obtain ⟨g, o, cells, rfl, h2, hg, rfl, arr, h5, h6⟩ := hx
    have hll := u8L_len hl
    have hcells := u8L_cells hl h2
    subst hcells
    have hle : l.length ≤ arr.size := by
      have := congrArg List.length h6
      simp only [List.length_take, Array.length_toList, Lib.byteCells_length] at this
      omega
    have hrun := Lib.run_unsafeString_row (P := P) w pt it ty e (ptrTo_und hp) hc g arr.size (by simp [World.shape?, h5]) l (by intro hh; subst hh; simp at hll; exact h0 hll.symm) hle (by omega) (by
      intro j x hj
      rw [add_plain]
      have hrow : Row w g 0 (Lib.byteCells l) := ⟨arr, e, (0, 0), h5, by rw [List.drop_zero]; exact h6⟩
      exact hrow.cell (by simp [Lib.byteCells, hj]))
    rw [hll] at hrun
    exact ⟨_, _, _, by simpa using hrun, S.freezeW _ _ hg h5, rfl⟩
  · cases h
end
end Go.Pg
end

section
/-
  The pure layer: contracts (Good), calls, regions, code.
-/
namespace Go.Pg
open Go
set_option linter.unusedSectionVars false

/-! ### What a call hands back -/
structure ResLay (A : Nat → Prop) (w w' : World) (L : Lay) : Prop where
  A : ∀ g, L.A g → A g ∨ (w.heap.size ≤ g ∧ g < w'.heap.size)
  own : ∀ id g, L.own id = some g → w.heap.size ≤ g ∧ g < w'.heap.size ∧ ¬ L.A g
  inj : ∀ i j g, L.own i = some g → L.own j = some g → i = j

/-- The function may be entered. -/
def enters (P : Program) (f : FuncId) : Bool :=
  match P.funcs[f]? with
  | some fn => !(fn.name == "runtime.NumGoroutine") && fn.body.isSome
  | none => false

/-- A CONTRACT: called with values that stand for 'args' it returns one that stands for 'r'; nothing that was there has turned. -/
def Good (P : Program) [Tb P] (f : FuncId) (args : List V) (r : V) : Prop :=
  enters P f = true ∧ ∀ (A : Nat → Prop) (w : World) (cargs : List Value), Tb.T P w → (∀ g, A g → g < w.heap.size) → Reps ⟨A, fun _ => none, fun _ => none⟩ w args cargs →
    Calls P f cargs.toArray w fun e w' => ∃ u L, e = .returned u ∧ Rep L w' r u ∧ Kp (fun _ => False) w.heap.size w w' ∧ ResLay A w w' L

mutual
/-- One more than the greatest name. -/
def V.idb : V → Nat
  | .c _ => 0
  | .sl (.own id _) _ _ => id + 1
  | .sl .fz _ _ => 0
  | .sl .nn _ _ => 0
  | .agg cs => V.idbL cs
  | .tup cs => V.idbL cs
  | .ref _ _ => 0
  | .el (.own id _) _ _ _ _ => id + 1
  | .el .fz _ _ _ _ => 0
  | .el .nn _ _ _ _ => 0
  | .fn _ fs cs => max (V.idbL fs) (V.idbL cs)
  | .top => 0
  | .nif => 0
def V.idbL : List V → Nat
  | [] => 0
  | x :: xs => max (V.idb x) (V.idbL xs)
end

mutual
/-- No frozen memory in it, however deep. -/
def V.flat : V → Bool
  | .c _ => true
  | .sl (.own _ _) _ xs => V.flatL xs
  | .sl .fz _ _ => false
  | .sl .nn _ xs => V.flatL xs
  | .agg cs => V.flatL cs
  | .tup cs => V.flatL cs
  | .ref _ _ => false
  | .el _ _ _ _ _ => false
  | .fn _ fs cs => V.flatL fs && V.flatL cs
  | .top => true
  | .nif => true
def V.flatL : List V → Bool
  | [] => true
  | x :: xs => V.flat x && V.flatL xs
end

def Tag.ge (n : Nat) : Tag → Bool
  | .fz => false
  | .nn => false
  | .own id _ => !decide (id < n)

theorem idb_any (n : Nat) : (∀ v : V, v.idb ≤ n → v.any (Tag.ge n) (fun _ => false) false = false) ∧ (∀ l, V.idbL l ≤ n → V.anyL (Tag.ge n) (fun _ => false) false l = false) := by
  refine V.ind ?_ ?_ ?_ ?_ ?_ ?_ ?_ ?_ ?_ ?_ ?_
  · intro v _; rfl
  · intro _; rfl
  · intro t k xs _ h; cases t with
    | fz => rfl
    | nn => rfl
    | own id e => simp only [V.idb] at h; simp [V.any, Tag.ge]; omega
  · intro cs ih h; exact ih h
  · intro cs ih h; exact ih h
  · intro b o _; rfl
  · intro t k xs i o _ h; cases t with
    | fz => rfl
    | nn => rfl
    | own id e => simp only [V.idb] at h; simp [V.any, Tag.ge]; omega
  · intro f fs cs h1 h2 h; simp only [V.idb] at h; simp [V.any, h1 (by omega), h2 (by omega)]
  · intro _; rfl
  · intro _; rfl
  · intro x xs h1 h2 h; simp only [V.idbL] at h; simp [V.anyL, h1 (by omega), h2 (by omega)]

theorem rep_flat {L : Lay} {w : World} (A : Nat → Prop) : (∀ v u, V.flat v = true → Rep L w v u → Rep { L with A := A } w v u) ∧
    (∀ l, (∀ us, V.flatL l = true → Reps L w l us → Reps { L with A := A } w l us) ∧ (∀ k us, V.flatL l = true → RepE L w k l us → RepE { L with A := A } w k l us)) := by
  refine V.ind ?_ ?_ ?_ ?_ ?_ ?_ ?_ ?_ ?_ ?_ ?_
  · intro v u _ h; exact h
  · intro u _ h; exact h
  · rintro t k xs ⟨_, ih⟩ u hf ⟨a, cap, cells, h1, h2, h3⟩
    cases t with
    | fz => simp [V.flat] at hf
    | nn => exact ⟨a, cap, cells, h1, ih k cells hf h2, h3⟩
    | own id e => exact ⟨a, cap, cells, h1, ih k cells hf h2, h3⟩
  · rintro cs ⟨ih, _⟩ u hf ⟨a, h1, h2⟩; exact ⟨a, h1, ih _ hf h2⟩
  · rintro cs ⟨ih, _⟩ u hf ⟨a, h1, h2⟩; exact ⟨a, h1, ih _ hf h2⟩
  · intro b o u hf; simp [V.flat] at hf
  · intro t k xs i o _ u hf; simp [V.flat] at hf
  · rintro f fs cs ⟨ih1, _⟩ ⟨ih2, _⟩ u hf ⟨a, b, h1, h2, h3⟩
    simp only [V.flat, Bool.and_eq_true] at hf
    exact ⟨a, b, h1, ih1 _ hf.1 h2, ih2 _ hf.2 h3⟩
  · intro u _ _; trivial
  · exact ⟨fun us _ h => h, fun k us _ h => h⟩
  · rintro x xs ihx ⟨ih1, ih2⟩
    refine ⟨?_, ?_⟩
    · rintro us hf ⟨u, r, h1, h2, h3⟩
      simp only [V.flatL, Bool.and_eq_true] at hf
      exact ⟨u, r, h1, ihx u hf.1 h2, ih1 r hf.2 h3⟩
    · rintro k us hf ⟨u, r, h1, h2, h3, h4, h5⟩
      simp only [V.flatL, Bool.and_eq_true] at hf
      exact ⟨u, r, h1, h2, h3, ihx u hf.1 h4, ih2 k r hf.2 h5⟩

/-- As a callee sees an argument: nothing that it may write. -/
def V.erase (v : V) : V := v.map (fun _ => .fz) id
def V.shift (n : Nat) (v : V) : V := v.map (fun t => match t with | .fz => .fz | .nn => .nn | .own id e => .own (id + n) e) id
def V.noRef (v : V) : Bool := !v.any (fun _ => false) (fun _ => true) false
def ownFree (l : List V) : Bool := !V.anyL Tag.isOwn (fun _ => false) false l
def noRefs (l : List V) : Bool := !V.anyL (fun _ => false) (fun _ => true) false l

def St.freezeAll (s : St) : List Nat → St
  | [] => s
  | id :: ids => (s.mapV (frz id)).freezeAll ids

/-- How an operation stands to those beside it: it computes from what may not turn; it computes; it reads a variable; it makes or writes memory; it freezes. -/
inductive Kd where
  | p | q | r | x | z

/-- It says nothing of memory that may turn. -/
def V.calm (v : V) : Bool := !v.any Tag.isOwn (fun _ => true) false
/-- The kind of an operation that computes 'v' from 'l'. -/
def kq (l : List V) (v : V) : Kd := if l.all V.free && v.calm then .p else .q
def kc (l : List V) (ids : List Nat) (r : V) : Kd :=
  match ids with
  | [] => if r.idb = 0 then kq l r else .x
  | _ => .z

/-- A CONTRACT OF STATES: the caller's own, from one to another: of callees that write what the caller made, and of Go's own functions without a body. -/
def GoodZ (P : Program) [Tb P] (g : FuncId) (args : List V) (s s' : St) (r : V) : Prop :=
  ∀ (C : Cx) (L : Lay) (a : Act) (w : World) (cargs : List Value), C.TOk P → Sim C s L a w → Reps L w args cargs →
    (enters P g = true ∧ Calls P g cargs.toArray w fun e w' => ∃ u L', e = .returned u ∧ Sim C s' L' a w' ∧ Rep L' w' r u) ∨
    ∃ u w' L', (callFunc g cargs.toArray).run P w = .ok (.value u) w' ∧ Sim C s' L' a w' ∧ Rep L' w' r u

def callW (P : Program) [Tb P] (f : V) (args : List Operand) (d : Option Nat) (s : St) (K : Kd → St → Prop) : Prop :=
  match f with
  | .fn g fs cs => (∃ (ids : List Nat) (r : V), Good P g ((fs ++ args.map (s.freezeAll ids).ev ++ cs).map V.erase) r ∧ ownFree (fs ++ cs) = true ∧ noRefs (fs ++ args.map (s.freezeAll ids).ev ++ cs) = true ∧ r.noRef = true ∧
      (ownFree (args.map (s.freezeAll ids).ev) || r.flat) = true ∧ K (kc (f :: args.map s.ev) ids r) (St.put { s.freezeAll ids with nid := s.nid + r.idb } d (r.shift s.nid))) ∨
      ∃ (s' : St) (r : V), GoodZ P g (fs ++ args.map s.ev ++ cs) s s' r ∧ K .z (s'.put d r)
  | _ => False

section
variable {P : Program} [Tb P] {C : Cx} {s : St} {L L' : Lay} {a : Act} {w w' : World}

theorem freezeAll_nid (ids : List Nat) : ∀ s : St, (s.freezeAll ids).nid = s.nid := by
  induction ids with
  | nil => intro s; rfl
  | cons i ids ih => intro s; exact ih _

theorem Sim.freezeAll (ids : List Nat) : ∀ {s : St} {L : Lay}, Sim C s L a w → ∃ L', Sim C (s.freezeAll ids) L' a w ∧ ∀ v u, ownFree [v] = true → Rep L w v u → Rep L' w v u := by
  induction ids with
  | nil => intro s L S; exact ⟨L, S, fun v u _ h => h⟩
  | cons i ids ih =>
    intro s L S
    obtain ⟨S1, hψ⟩ := S.freeze i
    obtain ⟨L2, S2, h2⟩ := ih S1
    refine ⟨L2, S2, fun v u hv h => h2 v u hv ?_⟩
    have K : Trans Tag.isOwn (fun _ => false) _root_.id _root_.id L (L.freeze i) w w :=
      ⟨rfl, fun g h => ⟨.inl h, .of rfl⟩, fun j e hj g h => by simp [Tag.isOwn] at hj, fun _ _ _ h => h⟩
    have := h.trans rfl K (by simpa [ownFree, V.anyL] using hv)
    rwa [map_id.1] at this

theorem anyL_append (p : Tag → Bool) (q : Nat → Bool) (tp : Bool) (l l' : List V) : V.anyL p q tp (l ++ l') = (V.anyL p q tp l || V.anyL p q tp l') := by
  induction l with
  | nil => simp [V.anyL]
  | cons x xs ih => simp [V.anyL, ih, Bool.or_assoc]

theorem any_or {p p' : Tag → Bool} {q q' : Nat → Bool} : (∀ v : V, v.any p q false = false → v.any p' q' false = false → v.any (fun t => p t || p' t) (fun b => q b || q' b) false = false) ∧
    (∀ l, V.anyL p q false l = false → V.anyL p' q' false l = false → V.anyL (fun t => p t || p' t) (fun b => q b || q' b) false l = false) := by
  refine V.ind ?_ ?_ ?_ ?_ ?_ ?_ ?_ ?_ ?_ ?_ ?_ <;> simp_all [V.any, V.anyL]

theorem tb_now (hT : C.TOk P) (S : Sim C s L a w) : Tb.T P w := hT w S.kp

theorem call_step {f : FuncId} {vs : List V} {us : List Value} {r : V} (hT : C.TOk P) (S : Sim C s L a w) (hr : Reps L w vs us) (hg : Good P f (vs.map V.erase) r) (href : noRefs vs = true) (hrr : r.noRef = true) (hof : (ownFree vs || r.flat) = true) :
    Calls P f us.toArray w fun e w' => ∃ u L', e = .returned u ∧ Sim C { s with nid := s.nid + r.idb } L' a w' ∧ Rep L' w' (r.shift s.nid) u := by
  have hB := S.hB
  -- what the callee may read
  let A1 : Nat → Prop := fun g => L.A g ∨ (r.flat = true ∧ ∃ id, L.own id = some g)
  have hA1 : ∀ g, A1 g → g < w.heap.size := fun g h => h.elim (S.wf.old g) (fun ⟨_, id, h⟩ => (S.wf.own id g h).1)
  have hargs : Reps ⟨A1, fun _ => none, fun _ => none⟩ w (vs.map V.erase) us := by
    cases hfl : r.flat with
    | true =>
      have K : Trans (fun _ => false) (fun _ => true) (fun _ => .fz) id L ⟨A1, fun _ => none, fun _ => none⟩ w w :=
        ⟨rfl, fun g h => ⟨.inl h, .of rfl⟩, fun i e _ g h => ⟨.inr ⟨hfl, i, h⟩, rfl⟩, fun b hb => by simp at hb⟩
      have := hr.trans rfl K (by simpa [noRefs] using href)
      rwa [mapL_eq] at this
    | false =>
      have K : Trans Tag.isOwn (fun _ => true) (fun _ => .fz) id L ⟨A1, fun _ => none, fun _ => none⟩ w w :=
        ⟨rfl, fun g h => ⟨.inl h, .of rfl⟩, fun i e h => by simp [Tag.isOwn] at h, fun b hb => by simp at hb⟩
      have h1 : ownFree vs = true := by simpa [hfl] using hof
      have h3 := (any_or (p := Tag.isOwn) (p' := fun _ => false) (q := fun _ => false) (q' := fun _ => true)).2 vs (by simpa [ownFree] using h1) (by simpa [noRefs] using href)
      have := hr.trans (p := Tag.isOwn) (q := fun _ => true) rfl K (by simpa using h3)
      rwa [mapL_eq] at this
  refine (hg.2 A1 w us (tb_now hT S) hA1 hargs).mono ?_
  rintro e w' ⟨u, L1, rfl, hru, hkp, hlay⟩
  have G : Grow w w' := ⟨hkp.os, hkp.tape, hkp.output, hkp.size, fun k hk => hkp.block k hk (fun h => h)⟩
  -- the layout behind the call
  let L2 : Lay := { A := fun g => L.A g ∨ (L1.A g ∧ w.heap.size ≤ g), own := fun j => if j < s.nid then L.own j else if j - s.nid < r.idb then L1.own (j - s.nid) else none, box := L.box }
  have E : L.Le L2 := ⟨fun g h => .inl h, fun i g h => by simp [L2, S.wf.nidO i g h, h], fun _ _ h => h⟩
  have W := S.wf
  have wf : Wf C (s.nid + r.idb) L2 w' := {
    nidO := fun j g h => by
      simp only [L2] at h
      split at h
      · omega
      · split at h
        · omega
        · cases h
    nidB := fun b g h => by have := W.nidB b g h; omega
    own := fun j g h => by
      simp only [L2] at h
      split at h
      · obtain ⟨h1, h2, h3⟩ := W.own j g h
        exact ⟨by have := G.size; omega, h2, fun h' => h'.elim h3 (fun ⟨_, h'⟩ => by omega)⟩
      · split at h
        · obtain ⟨h1, h2, h3⟩ := hlay.own _ g h
          exact ⟨h2, .inl (by omega), fun h' => h'.elim (fun h' => by have := W.old g h'; omega) (fun ⟨h', _⟩ => h3 h')⟩
        · cases h
    boxW := fun b g h => by
      obtain ⟨h1, h2, h3⟩ := W.boxW b g h
      exact ⟨by have := G.size; omega, h2, fun h' => h'.elim h3 (fun ⟨_, h'⟩ => by omega)⟩
    injO := fun i j g h h' => by
      simp only [L2] at h h'
      split at h
      · split at h'
        · exact W.injO i j g h h'
        · split at h'
          · have := (W.own i g h).1; have := (hlay.own _ g h').1; omega
          · cases h'
      · split at h
        · split at h'
          · have := (W.own j g h').1; have := (hlay.own _ g h).1; omega
          · split at h'
            · have := hlay.inj _ _ g h h'; omega
            · cases h'
        · cases h
    injB := W.injB
    dis := fun i j g h h' => by
      simp only [L2] at h
      split at h
      · exact W.dis i j g h h'
      · split at h
        · have := (hlay.own _ g h).1; have := (W.boxW j g h').1; omega
        · cases h
    old := fun g h => h.elim (fun h => by have := W.old g h; have := G.size; omega) (fun ⟨h, h'⟩ => by
      rcases hlay.A g h with h1 | h1
      · have := hA1 g h1; omega
      · exact h1.2)
    frz := fun g h => h.elim (W.frz g) (fun ⟨_, h'⟩ => .inr (.inl (by omega))) }
  refine ⟨u, L2, rfl, S.grow G E rfl (fun b cs h => .inl h) wf, ?_⟩
  have hsh : ∀ id e, Tag.ge r.idb (.own id e) = false → ∀ g, L1.own id = some g → L2.own (id + s.nid) = some g := by
    intro id e hid g h
    simp only [Tag.ge, Bool.not_eq_eq_eq_not, Bool.not_false, decide_eq_true_eq] at hid
    have h1 : ¬ id + s.nid < s.nid := by omega
    have h2 : id + s.nid - s.nid = id := by omega
    simp only [L2, if_neg h1, h2, if_pos hid, h]
  have hany : r.any (fun t => Tag.ge r.idb t || false) (fun b => false || true) false = false := by
    have := (any_or (p := Tag.ge r.idb) (p' := fun _ => false) (q := fun _ => false) (q' := fun _ => true)).1 r ((idb_any r.idb).1 r (Nat.le_refl _)) (by simpa [V.noRef] using hrr)
    exact this
  cases hfl : r.flat with
  | true =>
    have hru' := (rep_flat (fun _ => False)).1 r u hfl hru
    have K : Trans (fun t => Tag.ge r.idb t || false) (fun b => false || true) (fun t => match t with | .fz => .fz | .nn => .nn | .own id e => .own (id + s.nid) e) id { L1 with A := fun _ => False } L2 w' w' :=
      ⟨rfl, fun g h => h.elim, fun id e hid g h => ⟨⟨rfl, hsh id e (by simpa using hid) g h⟩, rfl⟩, fun b hb => by simp at hb⟩
    exact hru'.trans rfl K hany
  | false =>
    have K : Trans (fun t => Tag.ge r.idb t || false) (fun b => false || true) (fun t => match t with | .fz => .fz | .nn => .nn | .own id e => .own (id + s.nid) e) id L1 L2 w' w' := by
      refine ⟨rfl, fun g h => ⟨?_, .of rfl⟩, fun id e hid g h => ⟨⟨rfl, hsh id e (by simpa using hid) g h⟩, rfl⟩, fun b hb => by simp at hb⟩
      rcases hlay.A g h with h1 | h1
      · rcases h1 with h1 | ⟨h1, _⟩
        · exact .inl h1
        · rw [hfl] at h1; cases h1
      · exact .inr ⟨h, h1.1⟩
    exact hru.trans rfl K hany
end
end Go.Pg
end

section
/-
  The pure layer: one operation, a region in the text's order, code; how a contract is got.
-/
namespace Go.Pg
open Go
set_option linter.unusedSectionVars false

def exV (x : V) (i : Nat) : Option V := match x with | .tup vs => vs[i]? | _ => none

/-- An interface's value held against the literal nil. -/
def isIfT (P : Program) (t : TypeId) : Bool := match P.underlying t with | some (.interface _) => true | _ => false
def nilIfV (P : Program) (op : BinOp) (t : TypeId) (x : V) : Option V :=
  match op, x with
  | .eql, .c .nilIface => if isIfT P t then some (.c (.bool true)) else none
  | .neq, .c .nilIface => if isIfT P t then some (.c (.bool false)) else none
  | .eql, .c (.iface _ _) => if isIfT P t then some (.c (.bool false)) else none
  | .neq, .c (.iface _ _) => if isIfT P t then some (.c (.bool true)) else none
  | _, _ => none
def binO (P : Program) (op : BinOp) (t : TypeId) (x y : V) (oy : Operand) : Option V :=
  match oy with
  | .const .nilIface => nilIfV P op t x
  | _ => binV P op t x y
theorem isIfT_und {P : Program} {t : TypeId} (h : isIfT P t = true) : P.underlying t = some (.interface (P.methodsAt t)) := by
  unfold isIfT at h
  split at h
  · rename_i ms hm; simp [Program.methodsAt, hm]
  · cases h
theorem binO_run {P : Program} {L : Lay} {w : World} {op : BinOp} {t : TypeId} {x y r : V} {ux uy : Value} {ox oy : Operand} (h : binO P op t x y oy = some r) (rx : Rep L w x ux) (ry : Rep L w y uy) (hc : ∀ v, oy = .const v → uy = v) :
    ∃ u, (do eqGuard op t ox oy ux uy; Go.binOp op t ux uy : Sem Value).run P w = .ok u w ∧ Rep L w r u := by
  unfold binO at h
  split at h
  · have := hc _ rfl
    subst this
    unfold nilIfV at h
    split at h
    · simp only [Rep] at rx; subst rx
      simp only [Option.ite_none_right_eq_some, Option.some.injEq] at h
      obtain ⟨h0, rfl⟩ := h
      exact ⟨.bool true, by rw [eqGuard_nil_constR]; exact run_eql_nil_nil w t (isIfT_und h0), rfl⟩
    · simp only [Rep] at rx; subst rx
      simp only [Option.ite_none_right_eq_some, Option.some.injEq] at h
      obtain ⟨h0, rfl⟩ := h
      exact ⟨.bool false, by rw [eqGuard_nil_constR]; exact run_neq_nil_nil w t (isIfT_und h0), rfl⟩
    · simp only [Rep] at rx; subst rx
      simp only [Option.ite_none_right_eq_some, Option.some.injEq] at h
      obtain ⟨h0, rfl⟩ := h
      exact ⟨.bool false, by rw [Sem.run_bind, eqGuard_ok _ _ _ _ _ _ (by simp) (by simp)]; exact run_eql_held_nil w t _ _ (isIfT_und h0), rfl⟩
    · simp only [Rep] at rx; subst rx
      simp only [Option.ite_none_right_eq_some, Option.some.injEq] at h
      obtain ⟨h0, rfl⟩ := h
      exact ⟨.bool true, by rw [Sem.run_bind, eqGuard_ok _ _ _ _ _ _ (by simp) (by simp)]; exact run_neq_held_nil w t _ _ (isIfT_und h0), rfl⟩
    · cases h
  · exact binV_run h rx ry _ _
/-- The operations that only compute. -/
def qv (P : Program) (s : St) (op : Op) : Option V :=
  match op with
  | .move x => some (s.ev x)
  | .assign x => some (s.ev x)
  | .pick c x y => match s.ev c with | .c (.bool b) => some (pickV b (s.ev x) (s.ev y)) | _ => none
  | .binOp op t x y _ => binO P op t (s.ev x) (s.ev y) y
  | .unOp op _ x => unV op (s.ev x)
  | .convert src dst x => convV P src dst (s.ev x)
  | .extract x i => exV (s.ev x) i
  | .field t x f => fieldV P t (s.ev x) f
  | .index t x i => ixV P t (s.ev x) (s.ev i)
  | .indexAddr t x i => iaV P t (s.ev x) (s.ev i)
  | .fieldAddr t x f => faV P t (s.ev x) f
  | .nilCheck x => match s.ev x with | .ref b o => some (.ref b o) | .el t k xs i o => some (.el t k xs i o) | .fn f fs cs => some (.fn f fs cs) | _ => none
  | .makeFunc (.func f) fs cs => some (.fn f (fs.toList.map s.ev) (cs.toList.map s.ev))
  | .build t parts => buildV P t (parts.toList.map fun p => (p.1, s.ev p.2))
  | .slice t x lo hi none => slV P t (s.ev x) (lo.map s.ev) (hi.map s.ev)
  | .load t x => match s.ev x with | .el _ _ xs i off => (xs[i]?).bind fun y => y.cs.bind fun cs => ldCells P t cs off | _ => none
  | .call { callee := .builtin .len, args, argTypes } => match args.toList, argTypes.toList with | [x], [t] => lenV P t (s.ev x) | _, _ => none
  | .call { callee := .builtin .unsafeSliceData, args, .. } => match args.toList with | [x] => sdV (s.ev x) | _ => none
  | .call { callee := .builtin .max, args, .. } => match args.toList with | [x, y] => minmaxV true (s.ev x) (s.ev y) | _ => none
  | .call { callee := .builtin .min, args, .. } => match args.toList with | [x, y] => minmaxV false (s.ev x) (s.ev y) | _ => none
  | _ => none

def isC : V → Bool
  | .c _ => true
  | _ => false

/-- A pointer turned to unsafe.Pointer or back, at the head of a variable of type e of n cells. -/
def ptrOk (P : Program) (src dst e : TypeId) (n off : Nat) : Bool :=
  match P.underlying src, P.underlying dst with
  | some (.pointer t), some .unsafePointer => (match P.info? t with | some j => decide (j.size ≠ 0) && decide (off < n) | none => false)
  | some .unsafePointer, some (.pointer u) => (P.info? u).isSome && liesAt P P.depth e (n / P.cellsOf e) off u 1
  | _, _ => false
def unsafeV (P : Program) (s : St) (src dst : TypeId) (x : V) : Option V :=
  match x with
  | .ref b off => (s.bx b).bind fun y => if ptrOk P src dst y.1 y.2.length off = true then some (.ref b off) else none
  | _ => none

/-- The operations that make or write memory. -/
def xv (P : Program) (s : St) (op : Op) : Option (V × St) :=
  match op with
  | .alloc e => allocV P s e
  | .box e x => boxV s e (s.ev x)
  | .buildSlice t len parts => buildSliceV P s t len (parts.toList.map fun p => (p.1, s.ev p.2))
  | .store t x y => match s.ev x with
    | .ref b off => (storeB P s t b off (s.ev y)).map fun s' => (.top, s')
    | .el (.own id _) k xs i off => (storeE P s t id k xs i off (s.ev y)).map fun s' => (.top, s')
    | _ => none
  | .makeSlice t l c => makeV P s t (s.ev l) (s.ev c)
  | .convert src dst x => (strBytes P src dst (s.ev x)).map fun r => (r, s)
  | .call { callee := .builtin .append, args, argTypes } => match args.toList, argTypes.toList with | [x, y], [t, t2] => appendV P s t t2 (s.ev x) (s.ev y) | _, _ => none
  | _ => none

mutual
/-- The names of own arrays in a value, slices' elements aside. -/
def V.ids : V → List Nat
  | .c _ => []
  | .sl (.own id _) _ _ => [id]
  | .sl .fz _ _ => []
  | .sl .nn _ _ => []
  | .agg cs => V.idsL cs
  | .tup cs => V.idsL cs
  | .ref _ _ => []
  | .el (.own id _) _ _ _ _ => [id]
  | .el .fz _ _ _ _ => []
  | .el .nn _ _ _ _ => []
  | .fn _ fs cs => V.idsL fs ++ V.idsL cs
  | .top => []
  | .nif => []
def V.idsL : List V → List Nat
  | [] => []
  | x :: xs => V.ids x ++ V.idsL xs
end
/-- An operation behind the freezing of what is put into an array. -/
def frX (P : Program) (s : St) (ids : List Nat) (op : Op) : Option (V × St) :=
  match ids with
  | [] => none
  | i :: l => xv P (s.freezeAll (i :: l)) op

/-- The operations behind which an own array is written no more. -/
def zv (P : Program) (s : St) (op : Op) : Option (V × St) :=
  match op with
  | .slice t x lo hi none => match s.ev x with
    | .sl (.own id _) k xs => if (lo.map s.ev).all isC && (hi.map s.ev).all isC then sliceOwn P s t id k xs (lo.map s.ev) (hi.map s.ev) else none
    | .ref b off => sliceBox P s t b off (lo.map s.ev) (hi.map s.ev)
    | _ => none
  | .convert src dst x => sameSl P s src dst (s.ev x)
  | .buildSlice t len parts => frX P s (V.idsL (parts.toList.map fun p => s.ev p.2)) (.buildSlice t len parts)
  | .store t x y => match s.ev x with | .el (.own _ _) _ _ _ _ => frX P s (s.ev y).ids (.store t x y) | _ => none
  | .call { callee := .builtin .unsafeString, args, argTypes } => match args.toList, argTypes.toList with | [x, n], [pt, _] => usV P s pt (s.ev x) (s.ev n) | _, _ => none
  | _ => none

def rv (P : Program) (s : St) (op : Op) : Option V :=
  match op with
  | .load t x => match s.ev x with | .ref b off => loadB P s t b off | _ => none
  | .convert src dst x => unsafeV P s src dst (s.ev x)
  | _ => none

def optK (x : Option (V × St)) (d : Option Nat) (k : Kd) (K : Kd → St → Prop) : Prop :=
  match x with
  | some (r, s') => K k (s'.put d r)
  | none => False

def optQ (x : Option V) (s : St) (d : Option Nat) (l : List V) (K : Kd → St → Prop) : Prop :=
  match x with
  | some r => K (kq l r) (s.put d r)
  | none => False

def optR (x : Option V) (s : St) (d : Option Nat) (K : Kd → St → Prop) : Prop :=
  match x with
  | some r => K .r (s.put d r)
  | none => False

/-- One operation, its guard aside. -/
def stepW (P : Program) [Tb P] (s : St) (o : Oper) (K : Kd → St → Prop) : Prop :=
  match o.op with
  | .call { callee := .value f, args, .. } => callW P (s.ev f) args.toList o.dst s K
  | op => optQ (qv P s op) s o.dst (op.operands.toList.map s.ev) K ∨ optR (rv P s op) s o.dst K ∨ optK (xv P s op) o.dst .x K ∨ optK (zv P s op) o.dst .z K

section
variable {P : Program} [Tb P] {C : Cx} {s : St} {L L' : Lay} {a : Act} {w w' : World}

/-- What an operation comes to in the model. -/
def Does (P : Program) (o : Oper) (a : Act) (w : World) (u : Value) (w' : World) : Prop :=
  (execOp a.eval o).run P w = .ok (.value u) w' ∨ ((execOp a.eval o).run P w = .ok .skip w' ∧ u = undef)

theorem Does.wp {o : Oper} {u : Value} {next : Act → World → Prop} {Q : Exit → Act → World → Prop} (h : Does P o a w u w') (hn : next (a.put o.dst u) w') : o.wp P a w next Q := by
  unfold Oper.wp
  rcases h with h | ⟨h, rfl⟩ <;> rw [h] <;> exact hn

theorem evs (S : Sim C s L a w) (l : List Operand) : Reps L w (l.map s.ev) (l.map a.eval) := by
  induction l with
  | nil => rfl
  | cons x xs ih => exact ⟨_, _, rfl, S.ev x, ih⟩

theorem opt_ev (S : Sim C s L a w) (o : Option Operand) : o.map s.ev = none ∧ o.map a.eval = none ∨ ∃ v u, o.map s.ev = some v ∧ o.map a.eval = some u ∧ Rep L w v u := by
  cases o with
  | none => exact .inl ⟨rfl, rfl⟩
  | some x => exact .inr ⟨_, _, rfl, rfl, S.ev x⟩

theorem qv_does {o : Oper} {r : V} (h : qv P s o.op = some r) (S : Sim C s L a w) : ∃ u, Does P o a w u w ∧ Rep L w r u := by
  obtain ⟨dst, op, type, pos, after, guard⟩ := o
  simp only at h
  unfold qv at h
  split at h
  · simp only [Option.some.injEq] at h; subst h
    exact ⟨_, .inl rfl, S.ev _⟩
  · simp only [Option.some.injEq] at h; subst h
    exact ⟨_, .inl rfl, S.ev _⟩
  · rename_i c x y
    split at h
    · rename_i b hb
      simp only [Option.some.injEq] at h; subst h
      have hc := S.ev c
      rw [hb] at hc
      simp only [Rep] at hc
      refine ⟨if b then a.eval x else a.eval y, .inl ?_, pickV_rep (S.ev x) (S.ev y)⟩
      simp only [execOp, hc, asBool, Sem.run_bind, Sem.run_pure, Result.andThen_ok]
    · cases h
  · rename_i op t x y yt
    obtain ⟨u, h1, h2⟩ := binO_run (ox := x) h (S.ev x) (S.ev y) (fun v hv => by subst hv; rfl)
    exact ⟨u, .inl (by simp only [execOp]; rw [Sem.run_bind]; rw [h1]; rfl), h2⟩
  · rename_i op t x
    obtain ⟨u, h1, h2⟩ := unV_run (P := P) h (S.ev x)
    exact ⟨u, .inl (by simp only [execOp, Sem.run_bind, h1, Result.andThen_ok, Sem.run_pure]), h2⟩
  · rename_i src dst' x
    obtain ⟨u, h1, h2⟩ := convV_run h (S.ev x)
    exact ⟨u, .inl (by simp only [execOp, Sem.run_bind, h1, Result.andThen_ok, Sem.run_pure]), h2⟩
  · rename_i x i
    unfold exV at h
    split at h
    · rename_i vs hvs
      have hx := S.ev x
      rw [hvs] at hx
      obtain ⟨ar, har, hr⟩ := hx
      obtain ⟨u, h1, h2⟩ := hr.get h
      refine ⟨u, .inl ?_, h2⟩
      simp only [Array.getElem?_toList] at h1
      simp only [execOp, har, Instr.extract, h1, Sem.run_bind, Sem.run_pure, Result.andThen_ok]
    · cases h
  · rename_i t x f
    obtain ⟨u, h1, h2⟩ := fieldV_run h (S.ev x)
    exact ⟨u, .inl (by simp only [execOp, Sem.run_bind, h1, Result.andThen_ok, Sem.run_pure]), h2⟩
  · rename_i t x i
    obtain ⟨u, h1, h2⟩ := ixV_run h (S.ev x) (S.ev i)
    exact ⟨u, .inl (by simp only [execOp, Sem.run_bind, h1, Result.andThen_ok, Sem.run_pure]), h2⟩
  · rename_i t x i
    obtain ⟨u, h1, h2⟩ := iaV_run h (S.ev x) (S.ev i)
    exact ⟨u, .inl (by simp only [execOp, Sem.run_bind, h1, Result.andThen_ok, Sem.run_pure]), h2⟩
  · rename_i t x f
    obtain ⟨u, h1, h2⟩ := faV_run h (S.ev x)
    exact ⟨u, .inl (by simp only [execOp, Sem.run_bind, h1, Result.andThen_ok, Sem.run_pure]), h2⟩
  · rename_i x
    have hx := S.ev x
    split at h
    · rename_i b o hb
      simp only [Option.some.injEq] at h; subst h
      rw [hb] at hx
      obtain ⟨g, h1, h2⟩ := hx
      exact ⟨_, .inl (by simp only [execOp, h2]; rfl), g, h1, rfl⟩
    · rename_i t k xs i o hb
      simp only [Option.some.injEq] at h; subst h
      rw [hb] at hx
      have hx' := hx
      obtain ⟨g, o', cells, h2, _⟩ := hx
      exact ⟨_, .inl (by simp only [execOp, h2]; rfl), h2 ▸ hx'⟩
    · rename_i f fs cs hb
      simp only [Option.some.injEq] at h; subst h
      rw [hb] at hx
      have hx' := hx
      obtain ⟨a1, b1, h2, _⟩ := hx
      exact ⟨_, .inl (by simp only [execOp, h2]; rfl), h2 ▸ hx'⟩
    · cases h
  · rename_i f fs cs
    simp only [Option.some.injEq] at h; subst h
    exact ⟨_, .inl rfl, _, _, rfl, by simpa using evs S fs.toList, by simpa using evs S cs.toList⟩
  · rename_i t parts
    obtain ⟨u, h1, h2⟩ := buildV_run (parts := parts) s.ev a.eval S.ev h
    exact ⟨u, .inl (by simp only [execOp, Sem.run_bind, h1, Result.andThen_ok, Sem.run_pure]), h2⟩
  · rename_i t x lo hi
    obtain ⟨u, h1, h2⟩ := slV_run h (S.ev x) (opt_ev S lo) (opt_ev S hi)
    exact ⟨u, .inl (by simp only [execOp, Sem.run_bind, Option.map_none, h1, Result.andThen_ok, Sem.run_pure]), h2⟩
  · rename_i t x
    split at h
    · rename_i tg k xs i off hx
      simp only [Option.bind_eq_some_iff] at h
      obtain ⟨y, hy, cs, hcs, h⟩ := h
      have hr := S.ev x
      rw [hx] at hr
      obtain ⟨u, h1, h2⟩ := ldEl_run hr hy hcs h
      exact ⟨u, .inl (by simp only [execOp, Sem.run_bind, h1, Result.andThen_ok, Sem.run_pure]), h2⟩
    · cases h
  · rename_i args argTypes
    split at h
    · rename_i x t hx ht
      obtain ⟨u, h1, h2⟩ := lenV_run (ty := type) h (S.ev x)
      have e1 : args = #[x] := by apply Array.ext'; simpa using hx
      have e2 : argTypes = #[t] := by apply Array.ext'; simpa using ht
      subst e1; subst e2
      refine ⟨u, .inl ?_, h2⟩
      simp only [execOp, resolve, Sem.run_bind, Sem.run_pure, Result.andThen_ok, invoke, builtin, List.map_toArray, List.map_cons, List.map_nil]
      rw [h1]; rfl
    · cases h
  · rename_i args argTypes
    split at h
    · rename_i x hx
      obtain ⟨u, h1, h2⟩ := sdV_run (P := P) h (S.ev x) argTypes type
      have e1 : args = #[x] := by apply Array.ext'; simpa using hx
      subst e1
      refine ⟨u, .inl ?_, h2⟩
      simp only [execOp, resolve, Sem.run_bind, Sem.run_pure, Result.andThen_ok, invoke, builtin, List.map_toArray, List.map_cons, List.map_nil]
      rw [h1]; rfl
    · cases h
  · rename_i args argTypes
    split at h
    · rename_i x y hx
      obtain ⟨u, h1, h2⟩ := minmaxV_run (P := P) (at_ := argTypes) (ty := type) h (S.ev x) (S.ev y)
      have e1 : args = #[x, y] := by apply Array.ext'; simpa using hx
      subst e1
      refine ⟨u, .inl ?_, h2⟩
      simp only [execOp, resolve, Sem.run_bind, Sem.run_pure, Result.andThen_ok, invoke, builtin, List.map_toArray, List.map_cons, List.map_nil]
      simp only [if_true] at h1
      rw [h1]; rfl
    · cases h
  · rename_i args argTypes
    split at h
    · rename_i x y hx
      obtain ⟨u, h1, h2⟩ := minmaxV_run (P := P) (at_ := argTypes) (ty := type) h (S.ev x) (S.ev y)
      have e1 : args = #[x, y] := by apply Array.ext'; simpa using hx
      subst e1
      refine ⟨u, .inl ?_, h2⟩
      simp only [execOp, resolve, Sem.run_bind, Sem.run_pure, Result.andThen_ok, invoke, builtin, List.map_toArray, List.map_cons, List.map_nil]
      simp only [Bool.false_eq_true, if_false] at h1
      rw [h1]; rfl
    · cases h
  · cases h

theorem unsafeV_ok {src dst : TypeId} {x r : V} {ux : Value} (h : unsafeV P s src dst x = some r) (S : Sim C s L a w) (hx : Rep L w x ux) : ∃ u, (convert src dst ux).run P w = .ok u w ∧ Rep L w r u := by
  unfold unsafeV at h
  split at h
  · rename_i b off
    simp only [Option.bind_eq_some_iff, Option.ite_none_right_eq_some, Option.some.injEq] at h
    obtain ⟨⟨e, cs⟩, hb, h0, rfl⟩ := h
    obtain ⟨g, arr, hg, ha, hr⟩ := S.box b _ hb
    have hx' := hx
    obtain ⟨g', hg', rfl⟩ := hx
    rw [hg] at hg'
    simp only [Option.some.injEq] at hg'
    subst hg'
    have hl : arr.size = cs.length := by simpa using hr.length
    have hsh : w.shape? g = some (e, arr.size) := by simp [World.shape?, ha]
    unfold ptrOk at h0
    split at h0
    · rename_i t hs hd
      split at h0
      · rename_i j hj
        simp only [Bool.and_eq_true, decide_eq_true_eq] at h0
        exact ⟨_, Lib.run_to_unsafe w _ hs hd hj h0.1 hsh (by rw [hl]; exact h0.2), hx'⟩
      · cases h0
    · rename_i u hs hd
      simp only [Bool.and_eq_true] at h0
      obtain ⟨j, hj⟩ := Option.isSome_iff_exists.1 h0.1
      refine ⟨_, Lib.run_from_unsafe w _ hs hd hj hsh ?_, hx'⟩
      rw [hl]; exact h0.2
    · cases h0
  · cases h

theorem rv_does {o : Oper} {r : V} (h : rv P s o.op = some r) (S : Sim C s L a w) : ∃ u, Does P o a w u w ∧ Rep L w r u := by
  obtain ⟨dst, op, type, pos, after, guard⟩ := o
  simp only at h
  unfold rv at h
  split at h
  · rename_i t x
    split at h
    · rename_i b off hx
      have hr := S.ev x
      rw [hx] at hr
      obtain ⟨u, h1, h2⟩ := loadB_ok h S hr
      exact ⟨u, .inl (by simp only [execOp, Sem.run_bind, h1, Result.andThen_ok, Sem.run_pure]), h2⟩
    · cases h
  · rename_i src dst' x
    obtain ⟨u, h1, h2⟩ := unsafeV_ok h S (S.ev x)
    exact ⟨u, .inl (by simp only [execOp, Sem.run_bind, h1, Result.andThen_ok, Sem.run_pure]), h2⟩
  · cases h

theorem xv_does {o : Oper} {r : V} {s' : St} (h : xv P s o.op = some (r, s')) (S : Sim C s L a w) : ∃ u w' L', Does P o a w u w' ∧ Sim C s' L' a w' ∧ Rep L' w' r u := by
  obtain ⟨dst, op, type, pos, after, guard⟩ := o
  simp only at h
  unfold xv at h
  split at h
  · obtain ⟨u, w', L', h1, h2, h3⟩ := allocV_ok h S
    exact ⟨u, w', L', .inl (by simp only [execOp, Sem.run_bind, h1, Result.andThen_ok, Sem.run_pure]), h2, h3⟩
  · rename_i e x
    obtain ⟨u, w', L', h1, h2, h3⟩ := boxV_ok (P := P) (elem := e) h S (S.ev x)
    exact ⟨u, w', L', .inl (by simp only [execOp, Sem.run_bind, h1, Result.andThen_ok, Sem.run_pure]), h2, h3⟩
  · rename_i t len parts
    obtain ⟨u, w', L', h1, h2, h3⟩ := buildSliceV_ok (parts := parts) S h
    exact ⟨u, w', L', .inl (by simp only [execOp, Sem.run_bind, h1, Result.andThen_ok, Sem.run_pure]), h2, h3⟩
  · rename_i t x y
    have hx := S.ev x
    split at h
    · rename_i b off hb
      simp only [Option.map_eq_some_iff, Prod.mk.injEq] at h
      obtain ⟨s1, h, rfl, rfl⟩ := h
      rw [hb] at hx
      obtain ⟨w', h1, h2⟩ := storeB_ok h S hx (S.ev y)
      exact ⟨undef, w', L, .inr ⟨by simp only [execOp, Sem.run_bind, h1, Result.andThen_ok, Sem.run_pure], rfl⟩, h2, trivial⟩
    · rename_i id e k xs i off hb
      simp only [Option.map_eq_some_iff, Prod.mk.injEq] at h
      obtain ⟨s1, h, rfl, rfl⟩ := h
      rw [hb] at hx
      obtain ⟨w', h1, h2⟩ := storeE_ok h S hx (S.ev y)
      exact ⟨undef, w', L, .inr ⟨by simp only [execOp, Sem.run_bind, h1, Result.andThen_ok, Sem.run_pure], rfl⟩, h2, trivial⟩
    · cases h
  · rename_i t l c
    obtain ⟨u, w', L', h1, h2, h3⟩ := makeV_ok h S (S.ev l) (S.ev c)
    exact ⟨u, w', L', .inl (by simp only [execOp, Sem.run_bind, h1, Result.andThen_ok, Sem.run_pure]), h2, h3⟩
  · rename_i src dst' x
    simp only [Option.map_eq_some_iff, Prod.mk.injEq] at h
    obtain ⟨r', h, rfl, rfl⟩ := h
    obtain ⟨u, w', L', h1, h2, h3⟩ := strBytes_ok h S (S.ev x)
    exact ⟨u, w', L', .inl (by simp only [execOp, Sem.run_bind, h1, Result.andThen_ok, Sem.run_pure]), h2, h3⟩
  · rename_i args argTypes
    split at h
    · rename_i x y t t2 hx ht
      obtain ⟨u, w', L', h1, h2, h3⟩ := appendV_ok (ty := type) h S (S.ev x) (S.ev y)
      have e1 : args = #[x, y] := by apply Array.ext'; simpa using hx
      have e2 : argTypes = #[t, t2] := by apply Array.ext'; simpa using ht
      subst e1; subst e2
      refine ⟨u, w', L', .inl ?_, h2, h3⟩
      simp only [execOp, resolve, Sem.run_bind, Sem.run_pure, Result.andThen_ok, invoke, builtin, List.map_toArray, List.map_cons, List.map_nil]
      rw [h1]; rfl
    · cases h
  · cases h

theorem frX_does {o : Oper} {ids : List Nat} {r : V} {s' : St} (h : frX P s ids o.op = some (r, s')) (S : Sim C s L a w) : ∃ u w' L', Does P o a w u w' ∧ Sim C s' L' a w' ∧ Rep L' w' r u := by
  unfold frX at h
  split at h
  · cases h
  · rename_i i l
    obtain ⟨L1, S1, _⟩ := Sim.freezeAll (i :: l) S
    exact xv_does h S1
theorem zv_does {o : Oper} {r : V} {s' : St} (h : zv P s o.op = some (r, s')) (S : Sim C s L a w) : ∃ u w' L', Does P o a w u w' ∧ Sim C s' L' a w' ∧ Rep L' w' r u := by
  obtain ⟨dst, op, type, pos, after, guard⟩ := o
  simp only at h
  unfold zv at h
  split at h
  · rename_i t x lo hi
    split at h
    · rename_i id e k xs hb
      simp only [Option.ite_none_right_eq_some, Bool.and_eq_true] at h
      obtain ⟨⟨h1, h2⟩, h⟩ := h
      have hx := S.ev x
      rw [hb] at hx
      have isC_of : ∀ (o : Option Operand), (o.map s.ev).all isC = true → ∀ x, o = some x → ∃ u, s.ev x = .c u := by
        rintro o ho x rfl
        simp only [Option.map_some, Option.all_some] at ho
        generalize s.ev x = v at ho
        cases v <;> simp only [isC, Bool.false_eq_true] at ho
        exact ⟨_, rfl⟩
      obtain ⟨u, L', h3, h4, h5⟩ := sliceOwn_ok h S hx (isC_of lo h1) (isC_of hi h2)
      exact ⟨u, w, L', .inl (by simp only [execOp, Sem.run_bind, Option.map_none, h3, Result.andThen_ok, Sem.run_pure]), h4, h5⟩
    · rename_i b off hb
      have hx := S.ev x
      rw [hb] at hx
      obtain ⟨u, L', h3, h4, h5⟩ := sliceBox_ok h S hx (opt_ev S lo) (opt_ev S hi)
      exact ⟨u, w, L', .inl (by simp only [execOp, Sem.run_bind, Option.map_none, h3, Result.andThen_ok, Sem.run_pure]), h4, h5⟩
    · cases h
  · rename_i src dst' x
    obtain ⟨u, w', L', h1, h2, h3⟩ := sameSl_ok h S (S.ev x)
    exact ⟨u, w', L', .inl (by simp only [execOp, Sem.run_bind, h1, Result.andThen_ok, Sem.run_pure]), h2, h3⟩
  · exact frX_does (o := ⟨dst, _, type, pos, after, guard⟩) h S
  · split at h
    · exact frX_does (o := ⟨dst, _, type, pos, after, guard⟩) h S
    · cases h
  · rename_i args argTypes
    split at h
    · rename_i x n pt it hx ht
      obtain ⟨u, w', L', h1, h2, h3⟩ := usV_ok (it := it) (ty := type) h S (S.ev x) (S.ev n)
      have e1 : args = #[x, n] := by apply Array.ext'; simpa using hx
      have e2 : argTypes = #[pt, it] := by apply Array.ext'; simpa using ht
      subst e1; subst e2
      refine ⟨u, w', L', .inl ?_, h2, h3⟩
      simp only [execOp, resolve, Sem.run_bind, Sem.run_pure, Result.andThen_ok, invoke, builtin, List.map_toArray, List.map_cons, List.map_nil]
      rw [h1]; rfl
    · cases h
  · cases h

theorem ownFree_append {l l' : List V} : ownFree (l ++ l') = (ownFree l && ownFree l') := by
  simp [ownFree, anyL_append]
theorem ownFree_mem {l : List V} (h : ownFree l = true) : ∀ v ∈ l, ownFree [v] = true := by
  induction l with
  | nil => intro v hv; cases hv
  | cons x xs ih =>
    simp only [ownFree, V.anyL, Bool.not_eq_eq_eq_not, Bool.not_true, Bool.or_eq_false_iff] at h
    intro v hv
    rcases List.mem_cons.1 hv with rfl | hv
    · simp [ownFree, V.anyL, h.1]
    · exact ih (by simp [ownFree, h.2]) v hv
theorem Reps.of {l : List V} {us : List Value} (h : Reps L w l us) (hf : ∀ v ∈ l, ∀ u, Rep L w v u → Rep L' w' v u) : Reps L' w' l us := by
  induction l generalizing us with
  | nil => exact h
  | cons x xs ih => obtain ⟨u, r, rfl, h2, h3⟩ := h; exact ⟨u, r, rfl, hf x (by simp) u h2, ih h3 (fun v hv => hf v (by simp [hv]))⟩

theorem enters_run {f : FuncId} (h : enters P f = true) (args : Array Value) : (callFunc f args).run P w = .ok (.enter f args) w := by
  unfold enters at h
  split at h
  · rename_i fn hf
    simp only [Bool.and_eq_true, Bool.not_eq_eq_eq_not, Bool.not_true] at h
    have hn : ¬ fn.name = "runtime.NumGoroutine" := by simpa using h.1
    have hb : ¬ fn.body = none := fun e => by rw [e] at h; simp at h
    simp [callFunc, hf, hn, hb]
  · cases h

/-- One operation is carried out. -/
theorem stepW_sound {o : Oper} {K : Kd → St → Prop} {next : Act → World → Prop} {Q : Exit → Act → World → Prop} (h : stepW P s o K) (hT : C.TOk P) (S : Sim C s L a w) (hd : ∀ t, o.dst = some t → t < C.n)
    (hn : ∀ κ s' L' a' w', K κ s' → Sim C s' L' a' w' → next a' w') : o.wp P a w next Q := by
  unfold stepW at h
  split at h
  · rename_i f args argTypes heq
    unfold callW at h
    split at h
    · rename_i g fs cs hf
      rcases h with h | ⟨s1, r, hz, hK⟩
      case inr =>
        have hfv := S.ev f
        rw [hf] at hfv
        obtain ⟨af, ac, hfe, hrf, hrc⟩ := hfv
        have hargs : Reps L w (fs ++ args.toList.map s.ev ++ cs) (af.toList ++ args.toList.map a.eval ++ ac.toList) := (hrf.append (evs S args.toList)).append hrc
        have e1 : (af.toList ++ args.toList.map a.eval ++ ac.toList).toArray = af ++ args.map a.eval ++ ac := by
          apply Array.ext'; simp
        rcases hz C L a w _ hT S hargs with ⟨hen, hcall⟩ | ⟨u, w', L', hrun, S2, hr2⟩
        · rw [e1] at hcall
          have hexec : (execOp a.eval o).run P w = .ok (.enter g (af ++ args.map a.eval ++ ac)) w := by
            simp only [execOp, heq, resolve, hfe, Deferred.ofValue, Sem.run_bind, Sem.run_pure, Result.andThen_ok, invoke]
            exact enters_run hen _
          unfold Oper.wp
          rw [hexec]
          simp only [Oper.upon]
          refine hcall.mono ?_
          rintro e w' ⟨u, L2, rfl, S2, hr2⟩
          exact hn _ _ _ _ _ hK (S2.put hr2 hd)
        · rw [e1] at hrun
          have hexec : (execOp a.eval o).run P w = .ok (.value u) w' := by
            simp only [execOp, heq, resolve, hfe, Deferred.ofValue, Sem.run_bind, Sem.run_pure, Result.andThen_ok, invoke]
            exact hrun
          unfold Oper.wp
          rw [hexec]
          simp only [Oper.upon]
          exact hn _ _ _ _ _ hK (S2.put hr2 hd)
      obtain ⟨ids, r, hg, hown, href, hrr, hof, hK⟩ := h
      have hfv := S.ev f
      rw [hf] at hfv
      obtain ⟨af, ac, hfe, hrf, hrc⟩ := hfv
      obtain ⟨L1, S1, hfree⟩ := S.freezeAll ids
      rw [ownFree_append, Bool.and_eq_true] at hown
      have hrf' := hrf.of (fun v hv u h => hfree v u (ownFree_mem hown.1 v hv) h)
      have hrc' := hrc.of (fun v hv u h => hfree v u (ownFree_mem hown.2 v hv) h)
      have hargs : Reps L1 w (fs ++ args.toList.map (s.freezeAll ids).ev ++ cs) (af.toList ++ args.toList.map a.eval ++ ac.toList) := (hrf'.append (evs S1 args.toList)).append hrc'
      have hof' : (ownFree (fs ++ args.toList.map (s.freezeAll ids).ev ++ cs) || r.flat) = true := by
        rw [ownFree_append, ownFree_append, hown.1, hown.2]
        simpa using hof
      have hcall := call_step hT S1 hargs hg href hrr hof'
      have hexec : (execOp a.eval o).run P w = .ok (.enter g (af ++ args.map a.eval ++ ac)) w := by
        simp only [execOp, heq, resolve, hfe, Deferred.ofValue, Sem.run_bind, Sem.run_pure, Result.andThen_ok, invoke]
        exact enters_run hg.1 _
      unfold Oper.wp
      rw [hexec]
      simp only [Oper.upon]
      have e1 : (af.toList ++ args.toList.map a.eval ++ ac.toList).toArray = af ++ args.map a.eval ++ ac := by
        apply Array.ext'; simp
      rw [e1] at hcall
      refine hcall.mono ?_
      rintro e w' ⟨u, L2, rfl, S2, hr2⟩
      rw [freezeAll_nid] at S2 hr2
      exact hn _ _ _ _ _ hK (S2.put hr2 hd)
    · cases h
  · rcases h with h | h | h | h
    · unfold optQ at h
      split at h
      · rename_i r hr
        obtain ⟨u, h1, h2⟩ := qv_does hr S
        exact h1.wp (hn _ _ _ _ _ h (S.put h2 hd))
      · cases h
    · unfold optR at h
      split at h
      · rename_i r hr
        obtain ⟨u, h1, h2⟩ := rv_does hr S
        exact h1.wp (hn _ _ _ _ _ h (S.put h2 hd))
      · cases h
    · unfold optK at h
      split at h
      · rename_i r s' hr
        obtain ⟨u, w', L', h1, h2, h3⟩ := xv_does hr S
        exact h1.wp (hn _ _ _ _ _ h (h2.put h3 hd))
      · cases h
    · unfold optK at h
      split at h
      · rename_i r s' hr
        obtain ⟨u, w', L', h1, h2, h3⟩ := zv_does hr S
        exact h1.wp (hn _ _ _ _ _ h (h2.put h3 hd))
      · cases h

/-! ### A region in the text's order -/
def guardV (s : St) (dsts : List (Option Nat)) (j : Nat) : Option V :=
  match dsts[j]? with
  | some (some d) => some (s.env d)
  | _ => none

def wpL (P : Program) [Tb P] (dsts : List (Option Nat)) (K : St → Prop) : List Oper → St → Prop
  | [], s => K s
  | o :: rest, s =>
    match o.guard with
    | none => stepW P s o (fun _ => wpL P dsts K rest)
    | some (j, want) => match guardV s dsts j with
      | some (.c (.bool b)) => if b = want then stepW P s o (fun _ => wpL P dsts K rest) else wpL P dsts K rest (s.put o.dst (.c undef))
      | some (.c _) => wpL P dsts K rest (s.put o.dst (.c undef))
      | _ => False

theorem guard_yielded {ops : Array Oper} {j : Nat} {b : Bool} (S : Sim C s L a w) (h : guardV s (ops.toList.map (·.dst)) j = some (.c (.bool b))) : yielded ops a.tmps j = some b := by
  unfold guardV at h
  split at h
  · rename_i d hd
    simp only [Option.some.injEq] at h
    simp only [List.getElem?_map, Option.map_eq_some_iff] at hd
    obtain ⟨o, ho, hod⟩ := hd
    simp only [Array.getElem?_toList] at ho
    have he := S.env d
    rw [h] at he
    simp only [Rep] at he
    have : a.tmps[d]? = some (.bool b) := by
      rcases Nat.lt_or_ge d a.tmps.size with hl | hl
      · simp only [Array.getD_eq_getD_getElem?, Array.getElem?_eq_getElem hl, Option.getD_some] at he ⊢
        rw [he]
      · simp [Array.getD_eq_getD_getElem?, Array.getElem?_eq_none hl, undef] at he
    simp [yielded, ho, hod, this]
  · cases h

theorem guard_none {ops : Array Oper} {j : Nat} {v : Value} (S : Sim C s L a w) (h : guardV s (ops.toList.map (·.dst)) j = some (.c v)) (hv : ∀ b, v ≠ .bool b) : yielded ops a.tmps j = none := by
  unfold guardV at h
  split at h
  · rename_i d hd
    simp only [Option.some.injEq] at h
    simp only [List.getElem?_map, Option.map_eq_some_iff] at hd
    obtain ⟨o, ho, hod⟩ := hd
    simp only [Array.getElem?_toList] at ho
    have he := S.env d
    rw [h] at he
    simp only [Rep] at he
    simp only [yielded, ho, hod, Option.bind_some]
    rcases Nat.lt_or_ge d a.tmps.size with hl | hl
    · simp only [Array.getD_eq_getD_getElem?, Array.getElem?_eq_getElem hl, Option.getD_some] at he
      simp only [Array.getElem?_eq_getElem hl, he]
      cases v <;> first | rfl | exact absurd rfl (hv _)
    · simp [Array.getElem?_eq_none hl]
  · cases h

theorem wpL_sound (hT : C.TOk P) {ops : Array Oper} {K : St → Prop} {Q : Exit → Act → World → Prop} (hK : ∀ s' L' a' w', K s' → Sim C s' L' a' w' → Q .normal a' w') (l : List Oper) (hl : ∀ o ∈ l, ∀ t, o.dst = some t → t < C.n) :
    ∀ {s : St} {L : Lay} {a : Act} {w : World}, wpL P (ops.toList.map (·.dst)) K l s → Sim C s L a w → wpList P ops Q l a w := by
  induction l with
  | nil => intro s L a w h S; exact hK s L a w h S
  | cons o rest ih =>
    intro s L a w h S
    have hd := hl o (by simp)
    have ih' := @ih (fun o ho => hl o (by simp [ho]))
    unfold wpList
    unfold wpL at h
    split at h
    · rename_i hg
      rw [if_pos (by simp [Region.wanted, hg])]
      exact .inl (stepW_sound h hT S hd (fun _ s' L' a' w' h' S' => ih' h' S'))
    · rename_i j want hg
      split at h
      · rename_i b hb
        have hy := guard_yielded S hb
        split at h
        · rename_i hbw
          rw [if_pos (by simp [Region.wanted, hg, hy, hbw])]
          exact .inl (stepW_sound h hT S hd (fun _ s' L' a' w' h' S' => ih' h' S'))
        · rename_i hbw
          rw [if_neg (by simp [Region.wanted, hg, hy, hbw])]
          exact ih' h (S.put (v := .c undef) rfl hd)
      · rename_i v hnb hb
        rw [if_neg (by simp [Region.wanted, hg, guard_none S hb (fun b e => hnb b (by rw [e]))])]
        exact ih' h (S.put (v := .c undef) rfl hd)
      · cases h
end
end Go.Pg
end

section
/-
  The pure layer: code, loops, and how a contract is got from a function's body.
-/
namespace Go.Pg
open Go
set_option linter.unusedSectionVars false

/-- All temporaries that are written exist. -/
def opsFit (n : Nat) (ops : List Oper) : Bool := ops.all fun o => match o.dst with | some d => decide (d < n) | none => true
def fits (n : Nat) : Code → Bool
  | .region _ ops _ => opsFit n ops.toList
  | .seq x y => fits n x && fits n y
  | .cond _ x y => fits n x && fits n y
  | .block _ x => fits n x
  | .loop x => fits n x
  | .rangeFunc .. => false
  | .scope _ => false
  | .refuse _ => true
  | _ => true

/-- One state says less than another. -/
def Weak (s s' : St) : Prop := ∀ (C : Cx) (L : Lay) (a : Act) (w : World), Sim C s L a w → ∃ L', Sim C s' L' a w

def thenQ (k : St → Prop) (Q : Exit → St → Prop) : Exit → St → Prop
  | .normal, s => k s
  | e, s => Q e s

def inB (id : Nat) (Q : Exit → St → Prop) : Exit → St → Prop
  | .exit id', s => if id' = id then Q .normal s else Q (.exit id') s
  | e, s => Q e s

def condK (v : V) (x y : Prop) : Prop :=
  match v with
  | .c (.bool b) => if b = true then x else y
  | _ => False

/-- A loop: what holds at every round's head, and a number that goes down. -/
def LoopW (body : (Exit → St → Prop) → St → Prop) (Q : Exit → St → Prop) (s : St) : Prop :=
  ∃ (I : Nat → St → Prop) (n : Nat), (∃ s0, Weak s s0 ∧ I n s0) ∧ ∀ n s1, I n s1 → body (thenQ (fun s2 => ∃ m s3, m < n ∧ Weak s2 s3 ∧ I m s3) Q) s1

/-- A region that draws its order: laid later; before which regions a state may forget. -/
structure Dw where
  d : (P : Program) → [Tb P] → Array Oper → (St → Prop) → St → Prop
  cuts : List Nat
/-- The first region of a piece of code. -/
def fstR : Code → Option Nat
  | .region id _ _ => some id
  | .seq x _ => fstR x
  | .block _ x => fstR x
  | .loop x => fstR x
  | _ => none
def cutAt (cuts : List Nat) (r : Option Nat) : Bool := match r with | some n => cuts.contains n | none => false
def weakly (k : St → Prop) (s : St) : Prop := ∃ s', Weak s s' ∧ k s'

def wpS (D : Dw) (P : Program) [Tb P] : Code → (Exit → St → Prop) → St → Prop
  | .skip, Q, s => Q .normal s
  | .region _ ops draw, Q, s => if draw = true then D.d P ops (Q .normal) s else wpL P (ops.toList.map (·.dst)) (Q .normal) ops.toList s
  | .seq x y, Q, s => wpS D P x (thenQ (bif cutAt D.cuts (fstR y) then weakly (fun s' => wpS D P y Q s') else fun s' => wpS D P y Q s') Q) s
  | .cond c x y, Q, s => condK (s.ev c) (wpS D P x Q s) (wpS D P y Q s)
  | .block id x, Q, s => wpS D P x (inB id Q) s
  | .loop x, Q, s => LoopW (fun Q s => wpS D P x Q s) Q s
  | .exit id, Q, s => Q (.exit id) s
  | .label _, Q, s => Q .normal s
  | .goto l, Q, s => Q (.goto l) s
  | .ret, Q, s => Q .ret s
  | _, _, _ => False

def Lift (C : Cx) (Q : Exit → St → Prop) : Exit → Act → World → Prop := fun e a w => ∃ s L, Q e s ∧ Sim C s L a w

/-- What a rule for regions that draw their order must bear. -/
def DrawOk (P : Program) [Tb P] (D : Dw) : Prop :=
  ∀ (id : Nat) (C : Cx) (ops : Array Oper) (K : St → Prop) (Q : Exit → St → Prop) (s : St) (L : Lay) (a : Act) (w : World), C.TOk P → opsFit C.n ops.toList = true → Q .normal = K → D.d P ops K s → Sim C s L a w → (Code.region id ops true).wp P (Lift C Q) a w

theorem opsFit_all {n : Nat} {ops : List Oper} (h : opsFit n ops = true) : ∀ o ∈ ops, ∀ t, o.dst = some t → t < n := by
  intro o ho t ht
  have := List.all_eq_true.1 h o ho
  rw [ht] at this
  simpa using this

section
variable {P : Program} [Tb P] {D : Dw} {C : Cx}

theorem wpS_sound (hD : DrawOk P D) (hT : C.TOk P) (c : Code) : ∀ {Q : Exit → St → Prop} {s : St} {L : Lay} {a : Act} {w : World}, wpS D P c Q s → fits C.n c = true → Sim C s L a w → c.wp P (Lift C Q) a w := by
  induction c with
  | skip => intro Q s L a w h _ S; exact wp_skip ⟨s, L, h, S⟩
  | region id ops draw =>
    intro Q s L a w h hf S
    simp only [wpS] at h
    cases draw with
    | true => exact hD id C ops (Q .normal) Q s L a w hT hf rfl h S
    | false =>
      simp only [Bool.false_eq_true, if_false] at h
      exact wp_region_list (wpL_sound hT (K := Q .normal) (fun s' L' a' w' h' S' => ⟨s', L', h', S'⟩) ops.toList (opsFit_all hf) h S)
  | seq x y ihx ihy =>
    intro Q s L a w h hf S
    simp only [fits, Bool.and_eq_true] at hf
    refine wp_seq (Code.wp_mono ?_ (ihx h hf.1 S))
    rintro e a' w' ⟨s', L', h', S'⟩
    cases e with
    | normal =>
      simp only [thenQ] at h'
      cases hc : cutAt D.cuts (fstR y) with
      | true =>
        rw [hc] at h'
        obtain ⟨s2, hw, h2⟩ := h'
        obtain ⟨L2, S2⟩ := hw C L' a' w' S'
        exact ihy h2 hf.2 S2
      | false => rw [hc] at h'; exact ihy h' hf.2 S'
    | _ => exact ⟨s', L', h', S'⟩
  | cond c x y ihx ihy =>
    intro Q s L a w h hf S
    simp only [fits, Bool.and_eq_true] at hf
    simp only [wpS, condK] at h
    split at h
    · rename_i b hb
      have hc := S.ev c
      rw [hb] at hc
      simp only [Rep] at hc
      refine wp_cond hc ?_
      cases b with
      | true => exact ihx (by simpa using h) hf.1 S
      | false => exact ihy (by simpa using h) hf.2 S
    · cases h
  | block id x ih =>
    intro Q s L a w h hf S
    refine wp_block (Code.wp_mono ?_ (ih h hf S))
    rintro e a' w' ⟨s', L', h', S'⟩
    cases e with
    | exit id' =>
      simp only [inB] at h'
      simp only [Exit.inBlock]
      split at h'
      · rename_i hi; rw [if_pos hi]; exact ⟨s', L', h', S'⟩
      · rename_i hi; rw [if_neg hi]; exact ⟨s', L', h', S'⟩
    | _ => exact ⟨s', L', h', S'⟩
  | loop x ih =>
    intro Q s L a w h hf S
    obtain ⟨I, n, ⟨s0, hw0, h0⟩, hround⟩ := h
    obtain ⟨L0, S0⟩ := hw0 C L a w S
    have key : ∀ n s L a w, I n s → Sim C s L a w → ∀ (b : Frame) (k : List Item) (cs : List Frame),
        ∃ e a' w', Lift C Q e a' w' ∧ Arrives P (lone (b.at a (.code x :: .inLoop x :: k)) cs w) b k cs e a' w' := by
      intro n
      induction n using Nat.strongRecOn with
      | _ n ihn =>
        intro s L a w hI S b k cs
        obtain ⟨e, a₁, w₁, ⟨s1, L1, hq, S1⟩, harr⟩ := ih (hround n s hI) hf S b (.inLoop x :: k) cs
        cases e with
        | normal =>
          obtain ⟨m, s3, hlt, hw, hI3⟩ := hq
          obtain ⟨L3, S3⟩ := hw C L1 a₁ w₁ S1
          obtain ⟨e₂, a₂, w₂, hq₂, harr₂⟩ := ihn m hlt s3 L3 a₁ w₁ hI3 S3 b k cs
          exact ⟨e₂, a₂, w₂, hq₂, .of_steps (Steps.trans harr (.one step_inLoop)) harr₂⟩
        | exit id => exact ⟨_, a₁, w₁, ⟨s1, L1, hq, S1⟩, .pass (x := .inLoop x) rfl (fun _ _ => .inl (by simp)) harr⟩
        | goto l => exact ⟨_, a₁, w₁, ⟨s1, L1, hq, S1⟩, .pass (x := .inLoop x) rfl (fun _ _ => .inl (by simp)) harr⟩
        | ret => exact ⟨_, a₁, w₁, ⟨s1, L1, hq, S1⟩, .pass (x := .inLoop x) rfl (fun _ _ => .inl (by simp)) harr⟩
        | panic ch => exact ⟨_, a₁, w₁, ⟨s1, L1, hq, S1⟩, .pass (x := .inLoop x) rfl (fun _ _ => .inl (by simp)) harr⟩
        | outgrown => exact ⟨_, a₁, w₁, ⟨s1, L1, hq, S1⟩, .pass (x := .inLoop x) rfl (fun _ _ => .inl (by simp)) harr⟩
    intro b k cs
    obtain ⟨e, a', w', hq, harr⟩ := key n s0 L0 a w h0 S0 b k cs
    exact ⟨e, a', w', hq, .of_steps (.one step_loop) harr⟩
  | exit id => intro Q s L a w h _ S; exact wp_exit ⟨s, L, h, S⟩
  | label l => intro Q s L a w h _ S; exact wp_label ⟨s, L, h, S⟩
  | goto l => intro Q s L a w h _ S; exact wp_goto ⟨s, L, h, S⟩
  | ret => intro Q s L a w h _ S; exact wp_ret ⟨s, L, h, S⟩
  | rangeFunc => intro Q s L a w h; exact h.elim
  | scope => intro Q s L a w h; exact h.elim
  | refuse => intro Q s L a w h; exact h.elim

/-! ### From the body to the contract -/
def initE : List V → Nat → Nat → V
  | [], _ => fun _ => .top
  | x :: xs, k => upd (initE xs (k + 1)) k x
def initS (args : List V) : St := { env := initE args 0, bx := fun _ => none, nid := 0 }

/-- One result. -/
def resV (P : Program) (s : St) : ResultVar → Option V
  | .tmp t => some (s.env t)
  | .cell a t => match s.env a with | .ref b off => loadB P s t b off | _ => none

def retV (P : Program) (s : St) (rs : List ResultVar) : Option V :=
  match rs with
  | [r] => resV P s r
  | rs => (rs.mapM (resV P s)).map .tup

def Tag.notIn (l : List Nat) : Tag → Bool
  | .fz => false
  | .nn => false
  | .own id _ => !l.contains id
/-- The names in 'l', counted through. -/
def renT (l : List Nat) : Tag → Tag
  | .fz => .fz
  | .nn => .nn
  | .own id e => .own (l.idxOf id) e

def retQ (P : Program) (rs : List ResultVar) (r : V) : Exit → St → Prop := fun e s =>
  match e with
  | .normal | .ret => ∃ r0 l, retV P s rs = some r0 ∧ List.Nodup l ∧ r0.any (Tag.notIn l) (fun _ => true) false = false ∧ r0.map (renT l) id = r
  | _ => False

theorem initE_rep {L : Lay} {w : World} : ∀ (args : List V) (us : List Value) (k : Nat) (rest : List Value), Reps L w args us → ∀ (pre : List Value), pre.length = k → ∀ t, Rep L w (initE args k t) ((pre ++ us ++ rest).toArray.getD t undef) := by
  intro args
  induction args with
  | nil => intro us k rest _ pre _ t; trivial
  | cons x xs ih =>
    rintro us k rest ⟨u, r, rfl, h2, h3⟩ pre hk t
    simp only [initE, upd]
    split
    · rename_i ht
      subst ht
      have : (pre ++ (u :: r) ++ rest).toArray.getD t undef = u := by
        simp [Array.getD_eq_getD_getElem?, ← hk]
      rw [this]; exact h2
    · have := ih r (k + 1) rest h3 (pre ++ [u]) (by simp [hk]) t
      simpa using this

/-- One result, in the model. -/
def resE (a : Act) : ResultVar → Sem Value
  | .tmp t => pure (a.tmps.getD t undef)
  | .cell b t => do loadVar t (← asAddr (a.tmps.getD b undef))

theorem results_run {fn : Func} {s : St} {L : Lay} {a : Act} {w : World} {rs : List ResultVar} {r : V} (hrs : fn.results = rs.toArray) (h : retV P s rs = some r) (S : Sim C s L a w) :
    ∃ u, (results fn a.tmps).run P w = .ok u w ∧ Rep L w r u := by
  have one : ∀ x v, resV P s x = some v → ∃ u, (resE a x).run P w = .ok u w ∧ Rep L w v u := by
    intro x v hx
    cases x with
    | tmp t =>
      simp only [resV, Option.some.injEq] at hx
      subst hx
      exact ⟨_, rfl, S.env t⟩
    | cell b t =>
      simp only [resV] at hx
      split at hx
      · rename_i b' off hb
        have hr := S.env b
        rw [hb] at hr
        obtain ⟨u, h1, h2⟩ := loadB_ok hx S hr
        obtain ⟨g, h3, h4⟩ := hr
        refine ⟨u, ?_, h2⟩
        rw [h4] at h1
        simp only [resE, h4]
        simpa [Instr.loadAt, Instr.sureAddr, asAddr] using h1
      · cases hx
  have many : ∀ (l : List ResultVar) (vs : List V), l.mapM (resV P s) = some vs → ∃ us, (l.mapM (resE a)).run P w = .ok us w ∧ Reps L w vs us := by
    intro l
    induction l with
    | nil => intro vs h; simp at h; subst h; exact ⟨[], rfl, rfl⟩
    | cons x xs ih =>
      intro vs h
      simp only [List.mapM_cons, Option.bind_eq_bind, Option.bind_eq_some_iff, Option.pure_def, Option.some.injEq] at h
      obtain ⟨v, hv, vs', hvs, rfl⟩ := h
      obtain ⟨u, h1, h2⟩ := one x v hv
      obtain ⟨us, h3, h4⟩ := ih vs' hvs
      refine ⟨u :: us, ?_, u, us, rfl, h2, h4⟩
      rw [List.mapM_cons, Sem.run_bind, h1]
      simp only [Result.andThen_ok, Sem.run_bind, h3, Sem.run_pure]
  have hres : ∀ (us : List Value), (rs.mapM (resE a)).run P w = .ok us w →
      (results fn a.tmps).run P w = .ok (if h : us.toArray.size = 1 then us.toArray[0] else .tuple us.toArray) w := by
    intro us hus
    have e : results fn a.tmps = (do let vs ← rs.toArray.mapM (resE a); pure (if h : vs.size = 1 then vs[0] else .tuple vs)) := by
      unfold results
      rw [hrs]
      rfl
    rw [e, Array.mapM_eq_mapM_toList, Sem.run_bind, Sem.run_map, hus]
    rfl
  unfold retV at h
  split at h
  · rename_i x
    obtain ⟨u, h1, h2⟩ := one x r h
    refine ⟨u, ?_, h2⟩
    rw [hres [u] (by rw [List.mapM_cons, Sem.run_bind, h1]; rfl)]
    rfl
  · rename_i hne
    simp only [Option.map_eq_some_iff] at h
    obtain ⟨vs, hvs, rfl⟩ := h
    obtain ⟨us, h1, h2⟩ := many rs vs hvs
    have hl : us.toArray.size ≠ 1 := by
      have e1 := h2.length
      have e2 : vs.length = rs.length := by
        have : ∀ (l : List ResultVar) (vs : List V), l.mapM (resV P s) = some vs → vs.length = l.length := by
          intro l
          induction l with
          | nil => intro vs h; simp at h; simp [h]
          | cons x xs ih =>
            intro vs h
            simp only [List.mapM_cons, Option.bind_eq_bind, Option.bind_eq_some_iff, Option.pure_def, Option.some.injEq] at h
            obtain ⟨v, hv, vs', hvs, rfl⟩ := h
            simp [ih vs' hvs]
        exact this rs vs hvs
      simp only [List.size_toArray]
      intro h1
      rw [e1, e2] at h1
      match rs, h1, hne with
      | [x], _, hne => exact hne x rfl
    refine ⟨.tuple us.toArray, ?_, us.toArray, rfl, by simpa using h2⟩
    rw [hres us h1, dif_neg hl]

theorem idxOf_get (l : List Nat) (i : Nat) (h : i ∈ l) : l[l.idxOf i]? = some i := by
  induction l with
  | nil => cases h
  | cons x xs ih =>
    by_cases hx : x = i
    · subst hx; simp
    · have : i ∈ xs := by simpa [Ne.symm hx] using h
      rw [List.idxOf_cons]
      have hb : (x == i) = false := by simpa using hx
      rw [hb]
      simpa using ih this

theorem good_intro (hD : DrawOk P D) {f : FuncId} {fn : Func} {c : Code} {rs : List ResultVar} {args : List V} {r : V} (hf : P.funcs[f]? = some fn) (hb : fn.body = some c) (hrs : fn.results = rs.toArray) (hn : (fn.name == "runtime.NumGoroutine") = false)
    (hfit : fits fn.ntmps c = true) (hlen : args.length ≤ fn.ntmps) (h : wpS D P c (retQ P rs r) (initS args)) : Good P f args r := by
  refine ⟨by simp [enters, hf, hb, hn], fun A w cargs hT hA hargs => ?_⟩
  let C : Cx := { n := fn.ntmps, A0 := A, Wr := fun _ => False, w0 := w }
  have hl := hargs.length
  have S : Sim C (initS args) ⟨A, fun _ => none, fun _ => none⟩ { tmps := cargs.toArray ++ Array.replicate (fn.ntmps - cargs.toArray.size) undef, defers := [] } w := by
    refine ⟨rfl, by simp [C]; omega, fun t => ?_, fun _ => trivial, fun b cs h => by simp [initS] at h, ?_, Kp.refl _ _ _⟩
    · have := initE_rep args cargs 0 (List.replicate (fn.ntmps - cargs.length) undef) hargs [] rfl t
      have e : (cargs ++ List.replicate (fn.ntmps - cargs.length) undef).toArray = cargs.toArray ++ Array.replicate (fn.ntmps - cargs.toArray.size) undef := by
        apply Array.ext'; simp
      rw [List.nil_append, e] at this
      exact this
    · exact {
        nidO := fun _ _ h => by cases h
        nidB := fun _ _ h => by cases h
        own := fun _ _ h => by cases h
        boxW := fun _ _ h => by cases h
        injO := fun _ _ _ h => by cases h
        injB := fun _ _ _ h => by cases h
        dis := fun _ _ _ h => by cases h
        old := hA
        frz := fun g h => .inl h }
  refine calls_of_wp hf hb (Code.wp_mono ?_ (wpS_sound (C := C) hD (fun w' hk => Tb.keep w w' hT hk) c h hfit S))
  rintro e a' w' ⟨s', L', hq, S'⟩
  have fin : (∃ r0 l, retV P s' rs = some r0 ∧ List.Nodup l ∧ r0.any (Tag.notIn l) (fun _ => true) false = false ∧ r0.map (renT l) id = r) → a'.defers = [] ∧ ∃ v, (results fn a'.tmps).run P w' = .ok v w' ∧ ∃ u L, Ending.returned v = .returned u ∧ Rep L w' r u ∧ Kp (fun _ => False) w.heap.size w w' ∧ ResLay A w w' L := by
    rintro ⟨r0, l, h1, hnd, h2, rfl⟩
    obtain ⟨u, h3, h4⟩ := results_run hrs h1 S'
    let L2 : Lay := { A := L'.A, own := fun j => (l[j]?).bind L'.own, box := fun _ => none }
    have K : Trans (Tag.notIn l) (fun _ => true) (renT l) id L' L2 w' w' := by
      refine ⟨rfl, fun g h => ⟨h, .of rfl⟩, fun i e hi g h => ⟨⟨rfl, ?_⟩, rfl⟩, fun b hb => by simp at hb⟩
      have hm : i ∈ l := by simpa [Tag.notIn] using hi
      simp only [L2, idxOf_get l i hm, Option.bind_some, h]
    refine ⟨S'.defers, u, h3, u, L2, rfl, h4.trans rfl K h2, S'.kp, ?_, ?_, ?_⟩
    · intro g hg
      rcases S'.wf.frz g hg with h | h | h
      · exact .inl h
      · exact .inr ⟨h, S'.wf.old g hg⟩
      · exact h.elim
    · intro j g hg
      simp only [L2, Option.bind_eq_some_iff] at hg
      obtain ⟨i, hi, hg⟩ := hg
      obtain ⟨h5, h6, h7⟩ := S'.wf.own i g hg
      exact ⟨h6.elim id (fun h => h.elim), h5, h7⟩
    · intro i j g hi hj
      simp only [L2, Option.bind_eq_some_iff] at hi hj
      obtain ⟨i', hi', hi⟩ := hi
      obtain ⟨j', hj', hj⟩ := hj
      have := S'.wf.injO i' j' g hi hj
      subst this
      have hil := (List.getElem?_eq_some_iff.1 hi').1
      exact (List.getElem?_inj hil hnd).1 (hi'.trans hj'.symm)
  cases e with
  | normal => exact fin hq
  | ret => exact fin hq
  | _ => exact hq.elim
end
end Go.Pg
end

section
/-
  The pure layer: what a state may forget at a loop's head; how the steps are reckoned.
-/
namespace Go.Pg
open Go

def notInB (m : List Nat) (b : Nat) : Bool := !m.contains b

/-- 'v' says less than 'v0', its names counted anew: 'l' the arrays', 'm' the variables'. -/
def Gen (l m : List Nat) (v0 v : V) : Prop :=
  v = .top ∨ (v0.any (Tag.notIn l) (notInB m) false = false ∧ v = v0.map (renT l) (fun b => m.idxOf b)) ∨ (v0 = .c (.slice none 0 0) ∧ ∃ t k, t.notNN = true ∧ v = .sl t k [])

def GenL (l m : List Nat) : List V → List V → Prop
  | [], [] => True
  | x :: xs, y :: ys => Gen l m x y ∧ GenL l m xs ys
  | _, _ => False

structure Keep (l m : List Nat) (s s' : St) : Prop where
  env : ∀ t, Gen l m (s.env t) (s'.env t)
  hd : ∀ t, Gen l m (s.hd t) (s'.hd t)
  bx : ∀ b cs, s'.bx b = some cs → ∃ b0 cs0, m[b]? = some b0 ∧ s.bx b0 = some (cs.1, cs0) ∧ GenL l m cs0 cs.2
  ndl : l.Nodup
  ndm : m.Nodup
  nidl : l.length ≤ s'.nid
  nidm : m.length ≤ s'.nid

theorem Keep.weakR {l m : List Nat} {s s' : St} (H : Keep l m s s') (C : Cx) (L : Lay) (a : Act) (w : World) (S : Sim C s L a w) : ∃ L', Sim C s' L' a w ∧ ∀ v u, v.any (Tag.notIn l) (notInB m) false = false → Rep L w v u → Rep L' w (v.map (renT l) (fun b => m.idxOf b)) u := by
  let L' : Lay := { A := L.A, own := fun j => (l[j]?).bind L.own, box := fun j => (m[j]?).bind L.box }
  have K : Trans (Tag.notIn l) (notInB m) (renT l) (fun b => m.idxOf b) L L' w w := by
    refine ⟨rfl, fun g h => ⟨h, .of rfl⟩, fun i e hi g h => ⟨⟨rfl, ?_⟩, rfl⟩, fun b hb g h => ?_⟩
    · have hm : i ∈ l := by simpa [Tag.notIn] using hi
      simp only [L', idxOf_get l i hm, Option.bind_some, h]
    · have hm : b ∈ m := by simpa [notInB] using hb
      simp only [L', idxOf_get m b hm, Option.bind_some, h]
  have gen : ∀ v0 v u, Gen l m v0 v → Rep L w v0 u → Rep L' w v u := by
    rintro v0 v u (rfl | ⟨h1, rfl⟩ | ⟨rfl, t, k, hnn, rfl⟩) h
    · trivial
    · exact h.trans rfl K h1
    · simp only [Rep] at h
      subst h
      cases t with
      | fz => exact ⟨none, 0, [], rfl, rfl, by simp, .inl rfl⟩
      | nn => cases hnn
      | own id e => exact ⟨none, 0, [], rfl, rfl, .inl ⟨rfl, rfl, rfl⟩⟩
  have genL : ∀ l0 l1 us, GenL l m l0 l1 → Reps L w l0 us → Reps L' w l1 us := by
    intro l0
    induction l0 with
    | nil => intro l1 us h hr; cases l1 with | nil => exact hr | cons => exact h.elim
    | cons x xs ih =>
      intro l1 us h hr
      cases l1 with
      | nil => exact h.elim
      | cons y ys => obtain ⟨u, r, rfl, h2, h3⟩ := hr; exact ⟨u, r, rfl, gen _ _ _ h.1 h2, ih ys r h.2 h3⟩
  have W := S.wf
  refine ⟨L', ⟨S.defers, S.size, fun t => gen _ _ _ (H.env t) (S.env t), fun t => gen _ _ _ (H.hd t) (S.hid t), ?_, ?_, S.kp⟩, fun v u hv h => h.trans rfl K hv⟩
  · intro b cs h
    obtain ⟨b0, cs0, h1, h2, h3⟩ := H.bx b cs h
    obtain ⟨g, arr, h4, h5, h6⟩ := S.box b0 _ h2
    exact ⟨g, arr, by simp only [L', h1, Option.bind_some, h4], h5, genL _ _ _ h3 h6⟩
  · have lt : ∀ (x : List Nat) (f : Nat → Option Nat) j g, (x[j]?).bind f = some g → j < x.length ∧ ∃ i, x[j]? = some i ∧ f i = some g := by
      intro x f j g h
      simp only [Option.bind_eq_some_iff] at h
      obtain ⟨i, h1, h2⟩ := h
      exact ⟨(List.getElem?_eq_some_iff.1 h1).1, i, h1, h2⟩
    exact {
      nidO := fun j g h => by have := (lt l L.own j g h).1; have := H.nidl; omega
      nidB := fun j g h => by have := (lt m L.box j g h).1; have := H.nidm; omega
      own := fun j g h => by obtain ⟨_, i, _, h2⟩ := lt l L.own j g h; exact W.own i g h2
      boxW := fun j g h => by obtain ⟨_, i, _, h2⟩ := lt m L.box j g h; exact W.boxW i g h2
      injO := fun i j g hi hj => by
        obtain ⟨h0, i', h1, h2⟩ := lt l L.own i g hi
        obtain ⟨_, j', h3, h4⟩ := lt l L.own j g hj
        have := W.injO i' j' g h2 h4
        subst this
        exact (List.getElem?_inj h0 H.ndl).1 (h1.trans h3.symm)
      injB := fun i j g hi hj => by
        obtain ⟨h0, i', h1, h2⟩ := lt m L.box i g hi
        obtain ⟨_, j', h3, h4⟩ := lt m L.box j g hj
        have := W.injB i' j' g h2 h4
        subst this
        exact (List.getElem?_inj h0 H.ndm).1 (h1.trans h3.symm)
      dis := fun i j g hi hj => by
        obtain ⟨_, i', _, h2⟩ := lt l L.own i g hi
        obtain ⟨_, j', _, h4⟩ := lt m L.box j g hj
        exact W.dis i' j' g h2 h4
      old := W.old
      frz := W.frz }
theorem Keep.weak {l m : List Nat} {s s' : St} (H : Keep l m s s') : Weak s s' := fun C L a w S => by
  obtain ⟨L', h, _⟩ := H.weakR C L a w S
  exact ⟨L', h⟩
end Go.Pg
end
