/-
  Texts of this claim, merged: PgNL. Each bears its own remark.
-/
import Derived.Test.YtkgebocldjhflaaDoorB6
section
/-
  Names: the law NamesInts, of any arguments (a string of at most 2^47 octets).
-/
namespace Go.Proofs.YtkgebocldjhflaaDoor
open Go Go.Pg
set_option maxRecDepth 100000
set_option linter.unusedSimpArgs false

/-- The digits of a number, as octets. -/
def dd (u : Nat) : List Nat := (Lib.decDigits u).map UInt8.toNat
theorem dd_lt (u : Nat) (h : u < 10) : dd u = [48 + u] := by
  unfold dd Lib.decDigits
  rw [dif_pos h]
  simp
  omega
theorem dd_ge (u : Nat) (h : 10 ≤ u) : dd u = dd (u / 10) ++ [48 + u % 10] := by
  unfold dd
  rw [Lib.decDigits, dif_neg (by omega)]
  simp
  omega
theorem dig_snoc (l : List Nat) (b : Nat) : dig (l ++ [b]) = 10 * dig l + (b - 48) := by simp [dig]
theorem dd_ok : ∀ (n u : Nat), u < n → (dd u).all (fun c => bt c 48 57) = true ∧ dig (dd u) = u ∧ 1 ≤ (dd u).length ∧ (1 ≤ u → (dd u).getD 0 0 ≠ 48) ∧ (∀ k, 1 ≤ k → ((dd u).length ≤ k ↔ u < 10 ^ k)) := by
  intro n
  induction n with
  | zero => intro u h; omega
  | succ n ih =>
    intro u hu
    rcases Nat.lt_or_ge u 10 with h | h
    · rw [dd_lt u h]
      refine ⟨by simp [bt]; omega, by simp [dig], by simp, by intro h1; simp; omega, fun k hk => ?_⟩
      have : 10 ^ 1 ≤ 10 ^ k := Nat.pow_le_pow_right (by omega) hk
      simp
      omega
    · rw [dd_ge u h]
      obtain ⟨h1, h2, h3, h4, h5⟩ := ih (u / 10) (by omega)
      refine ⟨?_, ?_, by simp, ?_, fun k hk => ?_⟩
      · rw [List.all_append, h1]
        simp [bt]
        omega
      · rw [dig_snoc, h2]; omega
      · intro _
        have h6 := h4 (by omega)
        have h7 : 0 < (dd (u / 10)).length := by omega
        simp only [List.getD, List.getElem?_append_left h7] at h6 ⊢
        exact h6
      · rw [List.length_append, List.length_singleton]
        cases k with
        | zero => omega
        | succ k =>
          cases k with
          | zero =>
            constructor
            · intro h'; omega
            · intro h'
              have : (10 : Nat) ^ (0 + 1) = 10 := by decide
              omega
          | succ k =>
            have := h5 (k + 1) (by omega)
            rw [Nat.pow_succ]
            omega
theorem itoaN_at (n : Int) : itoaN n = if n < 0 then 45 :: dd n.natAbs else dd n.toNat := by
  unfold itoaN Lib.itoa dd
  split <;> simp
theorem hasP_cons (c : Nat) (l : List Nat) : hasP (c :: l) [45] = (c == 45) := by
  rw [Bool.eq_iff_iff, hasP_dash]
  simp
theorem pint_itoa (n : Int) : pint (itoaN n) = if -999999999999 ≤ n ∧ n ≤ 999999999999 then (n, 0) else (0, 1) := by
  rw [itoaN_at]
  have key : ∀ u : Nat, ∀ neg : Bool, (neg = true → 1 ≤ u) → badI (dd u) neg = !decide (u ≤ 999999999999) := by
    intro u neg hneg
    obtain ⟨h1, h2, h3, h4, h5⟩ := dd_ok (u + 1) u (by omega)
    have h6 := h5 12 (by omega)
    rw [Bool.eq_iff_iff, badI_iff, Bool.not_eq_true', decide_eq_false_iff_not]
    have h7 : (10 : Nat) ^ 12 = 1000000000000 := by decide
    constructor
    · rintro (h | h | ⟨h, h'⟩)
      · omega
      · omega
      · rcases Nat.eq_zero_or_pos u with h0 | h0
        · subst h0
          rw [dd_lt 0 (by omega)] at h'
          rcases h' with h' | h'
          · simp at h'
          · have := hneg h'; omega
        · exact absurd h (h4 h0)
    · intro h
      exact .inr (.inl (by omega))
  unfold pint
  by_cases hn : n < 0
  · rw [if_pos hn]
    obtain ⟨h1, h2, h3, h4, h5⟩ := dd_ok (n.natAbs + 1) n.natAbs (by omega)
    have hb : bodyI (45 :: dd n.natAbs) = dd n.natAbs := by unfold bodyI; rw [hasP_cons]; rfl
    rw [hb, hasP_cons, key _ _ (by intro _; omega), h1, h2]
    by_cases hc : n.natAbs ≤ 999999999999
    · rw [if_pos (show -999999999999 ≤ n ∧ n ≤ 999999999999 by omega)]
      simp [hc]
      omega
    · rw [if_neg (show ¬ (-999999999999 ≤ n ∧ n ≤ 999999999999) by omega)]
      simp [hc]
  · rw [if_neg hn]
    obtain ⟨h1, h2, h3, h4, h5⟩ := dd_ok (n.toNat + 1) n.toNat (by omega)
    have hp : hasP (dd n.toNat) [45] = false := by
      rw [← Bool.not_eq_true, hasP_dash]
      rintro ⟨h6, h7⟩
      have := List.all_eq_true.1 h1 ((dd n.toNat).getD 0 0) (by
        simp only [List.getD, List.getElem?_eq_getElem h6, Option.getD_some]
        exact List.getElem_mem h6)
      have := bt_and this
      omega
    have hb : bodyI (dd n.toNat) = dd n.toNat := by unfold bodyI; rw [hp]; rfl
    rw [hb, hp, key _ _ (by intro h; cases h), h1, h2]
    by_cases hc : n.toNat ≤ 999999999999
    · rw [if_pos (show -999999999999 ≤ n ∧ n ≤ 999999999999 by omega)]
      simp [hc]
      omega
    · rw [if_neg (show ¬ (-999999999999 ≤ n ∧ n ≤ 999999999999) by omega)]
      simp [hc]
theorem itoaN_len (n : Int) (h0 : -9223372036854775808 ≤ n) (h1 : n ≤ 9223372036854775807) : (itoaN n).length ≤ 20 := by
  rw [itoaN_at]
  split
  · have := ((dd_ok (n.natAbs + 1) n.natAbs (by omega)).2.2.2.2 19 (by omega)).2 (by
      have : (10 : Nat) ^ 19 = 10000000000000000000 := by decide
      omega)
    simp only [List.length_cons]
    omega
  · have := ((dd_ok (n.toNat + 1) n.toNat (by omega)).2.2.2.2 19 (by omega)).2 (by
      have : (10 : Nat) ^ 19 = 10000000000000000000 := by decide
      omega)
    omega
theorem pint_rng (l : List Nat) : (pint l).2 = 0 ∨ (pint l).2 = 1 := by
  unfold pint; split
  · exact .inr rfl
  · split
    · exact .inr rfl
    · exact .inl rfl
theorem good6 (l : List Nat) (ho : oct l) (hl : l.length ≤ 140737488355328) (n : Int) (h0 : -9223372036854775808 ≤ n) (h1 : n ≤ 9223372036854775807) : Pg.Good Tryd.prog 6 [.c (.string (sB l)), .c (.int .i64 n)] (.c (.bool true)) := by
  refine good_intro (drawW_ok mix) Tryd.func6 rfl Tryd.results6 rfl (by kernel_rfl) (Nat.le_of_ble_eq_true (by kernel_rfl)) ?_
  have a1 := good21 l ho hl
  have a2 := good22 l ho hl
  have a3 := good23 n h0 h1
  have a4 := good24 n h0 h1
  have a5 := good21 (itoaN n) (itoaN_oct n) (by have := itoaN_len n h0 h1; omega)
  unfold pintV at a1 a2 a5
  rw [pint_itoa] at a5
  by_cases hc : -999999999999 ≤ n ∧ n ≤ 999999999999
  · rw [if_pos hc] at a5
    (repeat' (first | (simp (disch := first | assumption | omega | (simp only [Fits, maxLen, bv_len, sv_len, List.length_append, List.length_cons, List.length_nil, List.length_map, sB_size] at *; omega)) only [pgs, pgl, pgx, pgw, pgb, tyf, buildSliceV_w, decide_true, decide_false, Nat.reduceEqDiff, reduceIte, Nat.reduceAdd, Nat.reduceSub, Nat.reduceMul, Nat.reduceBEq, Nat.max_def, Nat.reduceLeDiff, Int.reduceToNat, Int.reduceLT, Int.reduceLE, Int.reduceEq, Int.reduceNe, Nat.reduceLT, Bool.not_eq_true, Int.toNat_natCast, Int.reduceNeg, Int.reduceSub, Int.reduceAdd, Int.reduceMul, Int.natCast_add, Int.cast_ofNat_Int, eq_self, and_self, Option.some.injEq, not_true_eq_false, not_false_eq_true, List.getElem?_nil, Nat.reduceLeDiff, Nat.le_refl, Int.reduceBEq, Int.reduceBNe, if_true, if_false, ite_true, ite_false, Nat.add_zero, Nat.zero_add, ↓reduceIte, Tryd.f6, beq_selfI]) | ((with_reducible show callW _ _ _ _ _ _); first | refine callW_use _ (good9) rfl rfl rfl rfl ?_ | refine callW_use _ (a1) rfl rfl rfl rfl ?_ | refine callW_use _ (a2) rfl rfl rfl rfl ?_ | refine callW_use _ (a3) rfl rfl rfl rfl ?_ | refine callW_use _ (a4) rfl rfl rfl rfl ?_ | refine callW_use _ (a5) rfl rfl rfl rfl ?_) | ((with_reducible show condC _ _ _ _ _ _ _); refine cond_at (fun hc => ?_) (fun hc => ?_) <;> (try simp only [hc]) <;> (try simp only [decide_eq_true_eq, decide_eq_false_iff_not, beq_iff_eq, beq_eq_false_iff_ne, bne_iff_ne, bne_eq_false_iff_eq, Bool.not_eq_true', Bool.not_eq_false', Int.not_lt, Int.not_le, Nat.not_lt, Nat.not_le, ne_eq, Bool.not_true, Bool.not_false, Bool.not_not, Bool.true_eq_false, Bool.false_eq_true, not_false_eq_true, not_true_eq_false, Decidable.not_not] at hc)) | ((with_reducible show guardC _ _ _ _ _ _ _ _); refine guard_at (fun hc => ?_) (fun hc => ?_) <;> (try simp only [hc]) <;> (try simp only [decide_eq_true_eq, decide_eq_false_iff_not, beq_iff_eq, beq_eq_false_iff_ne, bne_iff_ne, bne_eq_false_iff_eq, Bool.not_eq_true', Bool.not_eq_false', Int.not_lt, Int.not_le, Nat.not_lt, Nat.not_le, ne_eq, Bool.not_true, Bool.not_false, Bool.not_not, Bool.true_eq_false, Bool.false_eq_true, not_false_eq_true, not_true_eq_false, Decidable.not_not] at hc)) | ((with_reducible show drwG _ _ _ _ _ _ _ _ _ _); refine drw_at (fun hc => ?_) (fun hc => ?_) <;> (try simp only [hc]) <;> (try simp only [decide_eq_true_eq, decide_eq_false_iff_not, beq_iff_eq, beq_eq_false_iff_ne, bne_iff_ne, bne_eq_false_iff_eq, Bool.not_eq_true', Bool.not_eq_false', Int.not_lt, Int.not_le, Nat.not_lt, Nat.not_le, ne_eq, Bool.not_true, Bool.not_false, Bool.not_not, Bool.true_eq_false, Bool.false_eq_true, not_false_eq_true, not_true_eq_false, Decidable.not_not] at hc)) | (with_reducible refine chk_at (by kernel_rfl) ?_)))
    all_goals (refine ret_at [] _ (by first | exact retV_one _ _ _ | exact retV_two _ _ _ _ | exact retV_three _ _ _ _ _ | exact retV_four _ _ _ _ _ _) (by decide) (by simp only [pgs, pgl, pgx, pgw, decide_true, decide_false, Nat.reduceEqDiff, reduceIte, Nat.reduceAdd, Nat.reduceSub, Nat.reduceMul, Nat.reduceBEq, Nat.max_def, Nat.reduceLeDiff, Int.reduceToNat, Int.reduceLT, Int.reduceLE, Int.reduceEq, Int.reduceNe, Nat.reduceLT, Bool.not_eq_true, Int.toNat_natCast, Int.reduceNeg, Int.reduceSub, Int.reduceAdd, Int.reduceMul, Int.natCast_add, Int.cast_ofNat_Int, eq_self, and_self, Option.some.injEq, not_true_eq_false, not_false_eq_true, List.getElem?_nil, Nat.reduceLeDiff, Nat.le_refl, Int.reduceBEq, Int.reduceBNe, if_true, if_false, ite_true, ite_false, Nat.add_zero, Nat.zero_add, ↓reduceIte]) ?_; (first | rfl | (simp only [pgs, pgl, pgx, pgw, decide_true, decide_false, Nat.reduceEqDiff, reduceIte, Nat.reduceAdd, Nat.reduceSub, Nat.reduceMul, Nat.reduceBEq, Nat.max_def, Nat.reduceLeDiff, Int.reduceToNat, Int.reduceLT, Int.reduceLE, Int.reduceEq, Int.reduceNe, Nat.reduceLT, Bool.not_eq_true, Int.toNat_natCast, Int.reduceNeg, Int.reduceSub, Int.reduceAdd, Int.reduceMul, Int.natCast_add, Int.cast_ofNat_Int, eq_self, and_self, Option.some.injEq, not_true_eq_false, not_false_eq_true, List.getElem?_nil, Nat.reduceLeDiff, Nat.le_refl, Int.reduceBEq, Int.reduceBNe, if_true, if_false, ite_true, ite_false, Nat.add_zero, Nat.zero_add, ↓reduceIte]; done) | (simp only [pgs, pgl, pgx, pgw, decide_true, decide_false, Nat.reduceEqDiff, reduceIte, Nat.reduceAdd, Nat.reduceSub, Nat.reduceMul, Nat.reduceBEq, Nat.max_def, Nat.reduceLeDiff, Int.reduceToNat, Int.reduceLT, Int.reduceLE, Int.reduceEq, Int.reduceNe, Nat.reduceLT, Bool.not_eq_true, Int.toNat_natCast, Int.reduceNeg, Int.reduceSub, Int.reduceAdd, Int.reduceMul, Int.natCast_add, Int.cast_ofNat_Int, eq_self, and_self, Option.some.injEq, not_true_eq_false, not_false_eq_true, List.getElem?_nil, Nat.reduceLeDiff, Nat.le_refl, Int.reduceBEq, Int.reduceBNe, if_true, if_false, ite_true, ite_false, Nat.add_zero, Nat.zero_add, ↓reduceIte])))
  · rw [if_neg hc] at a5
    (repeat' (first | (simp (disch := first | assumption | omega | (simp only [Fits, maxLen, bv_len, sv_len, List.length_append, List.length_cons, List.length_nil, List.length_map, sB_size] at *; omega)) only [pgs, pgl, pgx, pgw, pgb, tyf, buildSliceV_w, decide_true, decide_false, Nat.reduceEqDiff, reduceIte, Nat.reduceAdd, Nat.reduceSub, Nat.reduceMul, Nat.reduceBEq, Nat.max_def, Nat.reduceLeDiff, Int.reduceToNat, Int.reduceLT, Int.reduceLE, Int.reduceEq, Int.reduceNe, Nat.reduceLT, Bool.not_eq_true, Int.toNat_natCast, Int.reduceNeg, Int.reduceSub, Int.reduceAdd, Int.reduceMul, Int.natCast_add, Int.cast_ofNat_Int, eq_self, and_self, Option.some.injEq, not_true_eq_false, not_false_eq_true, List.getElem?_nil, Nat.reduceLeDiff, Nat.le_refl, Int.reduceBEq, Int.reduceBNe, if_true, if_false, ite_true, ite_false, Nat.add_zero, Nat.zero_add, ↓reduceIte, Tryd.f6, beq_selfI]) | ((with_reducible show callW _ _ _ _ _ _); first | refine callW_use _ (good9) rfl rfl rfl rfl ?_ | refine callW_use _ (a1) rfl rfl rfl rfl ?_ | refine callW_use _ (a2) rfl rfl rfl rfl ?_ | refine callW_use _ (a3) rfl rfl rfl rfl ?_ | refine callW_use _ (a4) rfl rfl rfl rfl ?_ | refine callW_use _ (a5) rfl rfl rfl rfl ?_) | ((with_reducible show condC _ _ _ _ _ _ _); refine cond_at (fun hc => ?_) (fun hc => ?_) <;> (try simp only [hc]) <;> (try simp only [decide_eq_true_eq, decide_eq_false_iff_not, beq_iff_eq, beq_eq_false_iff_ne, bne_iff_ne, bne_eq_false_iff_eq, Bool.not_eq_true', Bool.not_eq_false', Int.not_lt, Int.not_le, Nat.not_lt, Nat.not_le, ne_eq, Bool.not_true, Bool.not_false, Bool.not_not, Bool.true_eq_false, Bool.false_eq_true, not_false_eq_true, not_true_eq_false, Decidable.not_not] at hc)) | ((with_reducible show guardC _ _ _ _ _ _ _ _); refine guard_at (fun hc => ?_) (fun hc => ?_) <;> (try simp only [hc]) <;> (try simp only [decide_eq_true_eq, decide_eq_false_iff_not, beq_iff_eq, beq_eq_false_iff_ne, bne_iff_ne, bne_eq_false_iff_eq, Bool.not_eq_true', Bool.not_eq_false', Int.not_lt, Int.not_le, Nat.not_lt, Nat.not_le, ne_eq, Bool.not_true, Bool.not_false, Bool.not_not, Bool.true_eq_false, Bool.false_eq_true, not_false_eq_true, not_true_eq_false, Decidable.not_not] at hc)) | ((with_reducible show drwG _ _ _ _ _ _ _ _ _ _); refine drw_at (fun hc => ?_) (fun hc => ?_) <;> (try simp only [hc]) <;> (try simp only [decide_eq_true_eq, decide_eq_false_iff_not, beq_iff_eq, beq_eq_false_iff_ne, bne_iff_ne, bne_eq_false_iff_eq, Bool.not_eq_true', Bool.not_eq_false', Int.not_lt, Int.not_le, Nat.not_lt, Nat.not_le, ne_eq, Bool.not_true, Bool.not_false, Bool.not_not, Bool.true_eq_false, Bool.false_eq_true, not_false_eq_true, not_true_eq_false, Decidable.not_not] at hc)) | (with_reducible refine chk_at (by kernel_rfl) ?_)))
    all_goals (refine ret_at [] _ (by first | exact retV_one _ _ _ | exact retV_two _ _ _ _ | exact retV_three _ _ _ _ _ | exact retV_four _ _ _ _ _ _) (by decide) (by simp only [pgs, pgl, pgx, pgw, decide_true, decide_false, Nat.reduceEqDiff, reduceIte, Nat.reduceAdd, Nat.reduceSub, Nat.reduceMul, Nat.reduceBEq, Nat.max_def, Nat.reduceLeDiff, Int.reduceToNat, Int.reduceLT, Int.reduceLE, Int.reduceEq, Int.reduceNe, Nat.reduceLT, Bool.not_eq_true, Int.toNat_natCast, Int.reduceNeg, Int.reduceSub, Int.reduceAdd, Int.reduceMul, Int.natCast_add, Int.cast_ofNat_Int, eq_self, and_self, Option.some.injEq, not_true_eq_false, not_false_eq_true, List.getElem?_nil, Nat.reduceLeDiff, Nat.le_refl, Int.reduceBEq, Int.reduceBNe, if_true, if_false, ite_true, ite_false, Nat.add_zero, Nat.zero_add, ↓reduceIte]) ?_; (first | rfl | (simp only [pgs, pgl, pgx, pgw, decide_true, decide_false, Nat.reduceEqDiff, reduceIte, Nat.reduceAdd, Nat.reduceSub, Nat.reduceMul, Nat.reduceBEq, Nat.max_def, Nat.reduceLeDiff, Int.reduceToNat, Int.reduceLT, Int.reduceLE, Int.reduceEq, Int.reduceNe, Nat.reduceLT, Bool.not_eq_true, Int.toNat_natCast, Int.reduceNeg, Int.reduceSub, Int.reduceAdd, Int.reduceMul, Int.natCast_add, Int.cast_ofNat_Int, eq_self, and_self, Option.some.injEq, not_true_eq_false, not_false_eq_true, List.getElem?_nil, Nat.reduceLeDiff, Nat.le_refl, Int.reduceBEq, Int.reduceBNe, if_true, if_false, ite_true, ite_false, Nat.add_zero, Nat.zero_add, ↓reduceIte]; done) | (simp only [pgs, pgl, pgx, pgw, decide_true, decide_false, Nat.reduceEqDiff, reduceIte, Nat.reduceAdd, Nat.reduceSub, Nat.reduceMul, Nat.reduceBEq, Nat.max_def, Nat.reduceLeDiff, Int.reduceToNat, Int.reduceLT, Int.reduceLE, Int.reduceEq, Int.reduceNe, Nat.reduceLT, Bool.not_eq_true, Int.toNat_natCast, Int.reduceNeg, Int.reduceSub, Int.reduceAdd, Int.reduceMul, Int.natCast_add, Int.cast_ofNat_Int, eq_self, and_self, Option.some.injEq, not_true_eq_false, not_false_eq_true, List.getElem?_nil, Nat.reduceLeDiff, Nat.le_refl, Int.reduceBEq, Int.reduceBNe, if_true, if_false, ite_true, ite_false, Nat.add_zero, Nat.zero_add, ↓reduceIte])))
end Go.Proofs.YtkgebocldjhflaaDoor
end
