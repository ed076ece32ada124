/-
  The pure layer: loops, bytes, numbers: what every walk uses.
-/
import Derived.Test.YtkgebocldjhflaaPgSet
import Derived.IntWalk
namespace Go.Pg
set_option linter.defProp false
open Go

/-! ### States at a loop's head -/
def mkS (l : List V) (n : Nat) : St := ⟨initE l 0, fun _ => none, n⟩

def GenE (l m : List Nat) (e : Nat → V) : List V → Nat → Prop
  | [], _ => True
  | x :: xs, k => Gen l m (e k) x ∧ GenE l m e xs (k + 1)

theorem GenE_nil (l m : List Nat) (e : Nat → V) (k : Nat) : GenE l m e [] k = True := rfl
theorem GenE_cons (l m : List Nat) (e : Nat → V) (x : V) (xs : List V) (k : Nat) : GenE l m e (x :: xs) k = (Gen l m (e k) x ∧ GenE l m e xs (k + 1)) := rfl

theorem GenE.at {l m : List Nat} {e : Nat → V} : ∀ (xs : List V) (k : Nat), GenE l m e xs k → ∀ t, Gen l m (e t) (initE xs k t) := by
  intro xs
  induction xs with
  | nil => intro k _ t; exact .inl rfl
  | cons x xs ih =>
    intro k h t
    simp only [initE, upd]
    split
    · rename_i ht; subst ht; exact h.1
    · exact ih (k + 1) h.2 t

theorem mkS_at (l : List V) (n : Nat) : mkS l n = ⟨initE l 0, fun _ => none, n⟩ := rfl
theorem keep_mk {l : List Nat} {s : St} {xs : List V} {n : Nat} (h : GenE l [] s.env xs 0) (hl : l.Nodup) (hn : l.length ≤ n) : Keep l [] s (mkS xs n) where
  env := h.at xs 0
  bx := fun _ _ h => by cases h
  ndl := hl
  ndm := .nil
  nidl := hn
  nidm := Nat.zero_le _

theorem gen_top (l m : List Nat) (v : V) : Gen l m v .top = True := by simp [Gen]
theorem gen_c (l m : List Nat) (v : Value) : Gen l m (.c v) (.c v) = True := by simp [Gen, V.any, V.map]
theorem gen_int (l m : List Nat) (k : IntKind) (a b : Int) (h : a = b) : Gen l m (.c (.int k a)) (.c (.int k b)) = True := by subst h; exact gen_c _ _ _
theorem gen_fz (l m : List Nat) (k : Nat) (xs : List V) : Gen l m (.sl .fz k xs) (.sl .fz k xs) = True := by simp [Gen, V.any, V.map, Tag.notIn, renT]
theorem gen_nil (l m : List Nat) (t : Tag) (k : Nat) : Gen l m (.c (.slice none 0 0)) (.sl t k []) = True := by
  exact eq_true (.inr (.inr ⟨rfl, t, k, rfl⟩))
theorem gen_own {l m : List Nat} {i j : Nat} {e : TypeId} {k : Nat} {xs ys : List V} (h : (l.contains i && l.idxOf i == j) = true) (hx : xs = ys) : Gen l m (.sl (.own i e) k xs) (.sl (.own j e) k ys) := by
  simp only [Bool.and_eq_true, beq_iff_eq, List.contains_iff_mem] at h
  subst hx
  refine .inr (.inl ⟨by simp [V.any, Tag.notIn, h.1], by simp [V.map, renT, h.2]⟩)

/-! ### More equations -/
theorem upd_lk {α : Type} (f : Nat → α) (d : Nat) (v : α) (x : Nat) : upd f d v x = if x = d then v else f x := rfl
theorem retV_one (P : Program) (s : St) (t : Nat) : retV P s [.tmp t] = some (s.env t) := rfl
theorem retV_two (P : Program) (s : St) (a b : Nat) : retV P s [.tmp a, .tmp b] = some (.tup [s.env a, s.env b]) := rfl
theorem retV_three (P : Program) (s : St) (a b c : Nat) : retV P s [.tmp a, .tmp b, .tmp c] = some (.tup [s.env a, s.env b, s.env c]) := rfl
theorem retV_four (P : Program) (s : St) (a b c d : Nat) : retV P s [.tmp a, .tmp b, .tmp c, .tmp d] = some (.tup [s.env a, s.env b, s.env c, s.env d]) := rfl
/-- What is left at the end of a body. -/
def retC (P : Program) (rs : List ResultVar) (r : V) (s : St) : Prop := ∃ r0 l, retV P s rs = some r0 ∧ List.Nodup l ∧ r0.any (Tag.notIn l) (fun _ => true) false = false ∧ r0.map (renT l) id = r
theorem retQ_ret' (P : Program) (rs : List ResultVar) (r : V) (s : St) : retQ P rs r .ret s = retC P rs r s := rfl
theorem retQ_normal' (P : Program) (rs : List ResultVar) (r : V) (s : St) : retQ P rs r .normal s = retC P rs r s := rfl
theorem ret_at {P : Program} {rs : List ResultVar} {r : V} {s : St} (l : List Nat) (r0 : V) (h : retV P s rs = some r0) (hl : l.Nodup) (hi : r0.any (Tag.notIn l) (fun _ => true) false = false) (hr : r0.map (renT l) id = r) : retC P rs r s := ⟨r0, l, h, hl, hi, hr⟩
theorem ifT (P : Prop) [Decidable P] (α : Type) (x y : α) (h : P) : (if P then x else y) = x := if_pos h

theorem bif_t (x y : Bool) : (bif true then x else y) = x := rfl
theorem bif_f (x y : Bool) : (bif false then x else y) = y := rfl
def pgx := And.intro @bif_t (And.intro @bif_f (And.intro @upd_lk (And.intro @guardC_hit (And.intro @guardC_tf (And.intro @guardC_ft (And.intro @drwG_hit (And.intro @drwG_tf (And.intro @drwG_ft (And.intro @retQ_ret' @retQ_normal')))))))))

theorem cond_at {D : Program → Array Oper → (St → Prop) → St → Prop} {P : Program} {b : Bool} {x y : Code} {Q : Exit → St → Prop} {s : St} (ht : b = true → wpS D P x Q s) (hf : b = false → wpS D P y Q s) : condC D P (.c (.bool b)) x y Q s := condC_split D P ht hf
theorem guard_at {P : Program} {b want : Bool} {dsts : List (Option Nat)} {Q : Exit → St → Prop} {o : Oper} {rest : List Oper} {s : St} (ht : b = want → stepW P s o (nextC P dsts Q rest)) (hf : b = !want → regC P dsts Q rest (s.put o.dst .top)) :
    guardC P (some (.c (.bool b))) want dsts Q o rest s := guardC_split P ht hf

/-! ### Loops -/
section
variable {ι : Type} {D : Program → Array Oper → (St → Prop) → St → Prop} {P : Program}
/-- Behind a round: another head, nearer the end. -/
def backC (S : ι → St) (Inv : ι → Prop) (μ : ι → Nat) (i : ι) (s : St) : Prop := ∃ m s3, m < μ i ∧ Weak s s3 ∧ ∃ j, Inv j ∧ μ j = m ∧ s3 = S j
theorem back_at {S : ι → St} {Inv : ι → Prop} {μ : ι → Nat} {i : ι} {s : St} (j : ι) (l m : List Nat) (h1 : Inv j) (h2 : μ j < μ i) (h3 : Keep l m s (S j)) : backC S Inv μ i s := ⟨μ j, S j, h2, h3.weak, j, h1, rfl, rfl⟩
def headC (S : ι → St) (Inv : ι → Prop) (μ : ι → Nat) (i : ι) (Q : Exit → St → Prop) : Exit → St → Prop := thenQ (backC S Inv μ i) Q
theorem headC_normal (S : ι → St) (Inv : ι → Prop) (μ : ι → Nat) (i : ι) (Q : Exit → St → Prop) (s : St) : headC S Inv μ i Q .normal s = backC S Inv μ i s := rfl
theorem headC_exit (S : ι → St) (Inv : ι → Prop) (μ : ι → Nat) (i : ι) (Q : Exit → St → Prop) (id : Nat) (s : St) : headC S Inv μ i Q (.exit id) s = Q (.exit id) s := rfl
theorem headC_ret (S : ι → St) (Inv : ι → Prop) (μ : ι → Nat) (i : ι) (Q : Exit → St → Prop) (s : St) : headC S Inv μ i Q .ret s = Q .ret s := rfl

theorem loop_at {x : Code} {Q : Exit → St → Prop} {s : St} (S : ι → St) (Inv : ι → Prop) (μ : ι → Nat) (i0 : ι) (l m : List Nat) (hk : Keep l m s (S i0)) (h0 : Inv i0)
    (hr : ∀ i, Inv i → ∀ s, s = S i → wpS D P x (headC S Inv μ i Q) s) : loopC D P x Q s := by
  refine ⟨fun n s1 => ∃ i, Inv i ∧ μ i = n ∧ s1 = S i, μ i0, ⟨S i0, hk.weak, i0, h0, rfl, rfl⟩, ?_⟩
  rintro n s1 ⟨i, hi, rfl, rfl⟩
  exact hr i hi _ rfl
end
end Go.Pg
