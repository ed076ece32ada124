/-
  The pure layer: what a state may forget at a loop's head; how the steps are reckoned.
-/
import Derived.Test.YtkgebocldjhflaaPgWp
namespace Go.Pg
open Go

def notInB (m : List Nat) (b : Nat) : Bool := !m.contains b

/-- 'v' says less than 'v0', its names counted anew: 'l' the arrays', 'm' the variables'. -/
def Gen (l m : List Nat) (v0 v : V) : Prop :=
  v = .top ∨ (v0.any (Tag.notIn l) (notInB m) false = false ∧ v = v0.map (renT l) (fun b => m.idxOf b)) ∨ (v0 = .c (.slice none 0 0) ∧ ∃ t k, v = .sl t k [])

def GenL (l m : List Nat) : List V → List V → Prop
  | [], [] => True
  | x :: xs, y :: ys => Gen l m x y ∧ GenL l m xs ys
  | _, _ => False

structure Keep (l m : List Nat) (s s' : St) : Prop where
  env : ∀ t, Gen l m (s.env t) (s'.env t)
  bx : ∀ b cs, s'.bx b = some cs → ∃ b0 cs0, m[b]? = some b0 ∧ s.bx b0 = some cs0 ∧ GenL l m cs0 cs
  ndl : l.Nodup
  ndm : m.Nodup
  nidl : l.length ≤ s'.nid
  nidm : m.length ≤ s'.nid

theorem Keep.weak {l m : List Nat} {s s' : St} (H : Keep l m s s') : Weak s s' := by
  intro C L a w S
  let L' : Lay := { A := L.A, own := fun j => (l[j]?).bind L.own, box := fun j => (m[j]?).bind L.box }
  have K : Trans (Tag.notIn l) (notInB m) (renT l) (fun b => m.idxOf b) L L' w w := by
    refine ⟨rfl, fun g h => ⟨h, .of rfl⟩, fun i e hi g h => ⟨⟨rfl, ?_⟩, rfl⟩, fun b hb g h => ?_⟩
    · have hm : i ∈ l := by simpa [Tag.notIn] using hi
      simp only [L', idxOf_get l i hm, Option.bind_some, h]
    · have hm : b ∈ m := by simpa [notInB] using hb
      simp only [L', idxOf_get m b hm, Option.bind_some, h]
  have gen : ∀ v0 v u, Gen l m v0 v → Rep L w v0 u → Rep L' w v u := by
    rintro v0 v u (rfl | ⟨h1, rfl⟩ | ⟨rfl, t, k, rfl⟩) h
    · trivial
    · exact h.trans rfl K h1
    · simp only [Rep] at h
      subst h
      cases t with
      | fz => exact ⟨none, 0, [], rfl, rfl, by simp, .inl rfl⟩
      | own id e => exact ⟨none, 0, [], rfl, rfl, .inl ⟨rfl, rfl, rfl⟩⟩
  have genL : ∀ l0 l1 us, GenL l m l0 l1 → Reps L w l0 us → Reps L' w l1 us := by
    intro l0
    induction l0 with
    | nil => intro l1 us h hr; cases l1 with | nil => exact hr | cons => exact h.elim
    | cons x xs ih =>
      intro l1 us h hr
      cases l1 with
      | nil => exact h.elim
      | cons y ys => obtain ⟨u, r, rfl, h2, h3⟩ := hr; exact ⟨u, r, rfl, gen _ _ _ h.1 h2, ih ys r h.2 h3⟩
  have W := S.wf
  refine ⟨L', S.defers, S.size, fun t => gen _ _ _ (H.env t) (S.env t), ?_, ?_, S.kp⟩
  · intro b cs h
    obtain ⟨b0, cs0, h1, h2, h3⟩ := H.bx b cs h
    obtain ⟨g, arr, e, h4, h5, h6⟩ := S.box b0 cs0 h2
    exact ⟨g, arr, e, by simp only [L', h1, Option.bind_some, h4], h5, genL _ _ _ h3 h6⟩
  · have lt : ∀ (x : List Nat) (f : Nat → Option Nat) j g, (x[j]?).bind f = some g → j < x.length ∧ ∃ i, x[j]? = some i ∧ f i = some g := by
      intro x f j g h
      simp only [Option.bind_eq_some_iff] at h
      obtain ⟨i, h1, h2⟩ := h
      exact ⟨(List.getElem?_eq_some_iff.1 h1).1, i, h1, h2⟩
    exact {
      nidO := fun j g h => by have := (lt l L.own j g h).1; have := H.nidl; omega
      nidB := fun j g h => by have := (lt m L.box j g h).1; have := H.nidm; omega
      own := fun j g h => by obtain ⟨_, i, _, h2⟩ := lt l L.own j g h; exact W.own i g h2
      boxW := fun j g h => by obtain ⟨_, i, _, h2⟩ := lt m L.box j g h; exact W.boxW i g h2
      injO := fun i j g hi hj => by
        obtain ⟨h0, i', h1, h2⟩ := lt l L.own i g hi
        obtain ⟨_, j', h3, h4⟩ := lt l L.own j g hj
        have := W.injO i' j' g h2 h4
        subst this
        exact (List.getElem?_inj h0 H.ndl).1 (h1.trans h3.symm)
      injB := fun i j g hi hj => by
        obtain ⟨h0, i', h1, h2⟩ := lt m L.box i g hi
        obtain ⟨_, j', h3, h4⟩ := lt m L.box j g hj
        have := W.injB i' j' g h2 h4
        subst this
        exact (List.getElem?_inj h0 H.ndm).1 (h1.trans h3.symm)
      dis := fun i j g hi hj => by
        obtain ⟨_, i', _, h2⟩ := lt l L.own i g hi
        obtain ⟨_, j', _, h4⟩ := lt m L.box j g hj
        exact W.dis i' j' g h2 h4
      old := W.old
      frz := W.frz }
end Go.Pg
