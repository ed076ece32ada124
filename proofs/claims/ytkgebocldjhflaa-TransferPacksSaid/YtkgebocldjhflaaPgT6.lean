/-
  The reference's DecodeUint of any octets (at most 2^31) gives the same.
-/
import Derived.Test.YtkgebocldjhflaaPgT5
namespace Go.Proofs.Ytkgebocldjhflaa
open Go Go.Pg
set_option maxRecDepth 10000
set_option linter.unusedSimpArgs false

theorem good19 (l : List Nat) (ho : oct l) (hl : l.length ≤ 2147483648) : Pg.Good Try.prog 19 [.sl .fz 1 (bv l)] (tri (decN l)) := by
  refine good_intro (drawW_ok mix) Try.func19 rfl Try.results19 rfl (by kernel_rfl) (Nat.le_of_ble_eq_true (by kernel_rfl)) ?_
  unfold decN
  rcases Nat.eq_zero_or_pos l.length with h0 | h0
  · have e1 : ((l.length : Int) == 0) = true := by rw [h0]; rfl
    rw [if_pos h0]
    simp only [Try.f19, pgs, pgl, pgx, Nat.reduceEqDiff, reduceIte, e1, el22, bv_len]
    refine ret_at [] _ (retV_three _ _ _ _ _) .nil ?_ ?_
    · simp only [pgs, pgl, pgx, Nat.reduceEqDiff, reduceIte]
    · simp only [pgs, pgl, pgx, Nat.reduceEqDiff, reduceIte, tri] <;> rfl
  have e1 : ((l.length : Int) == 0) = false := by rw [beq_eq_false_iff_ne]; omega
  rw [if_neg (by omega)]
  have hc := getD_lt ho 0
  generalize hcd : l.getD 0 0 = c at hc
  rcases Nat.lt_or_ge c 248 with h1 | h1
  · have e2 : decide ((c : Int) < 248) = true := decide_eq_true (by omega)
    rw [if_pos h1]
    simp (disch := omega) only [Try.f19, pgs, pgl, pgx, Nat.reduceEqDiff, reduceIte, e1, el22, bv_len, ia22, Int.reduceToNat, bv_get, ld5, hcd, e2, convV_int _ _ _ _ _ _ it3 un5, i64w]
    refine ret_at [] _ (retV_three _ _ _ _ _) .nil ?_ ?_
    · simp only [pgs, pgl, pgx, Nat.reduceEqDiff, reduceIte]
    · simp only [pgs, pgl, pgx, Nat.reduceEqDiff, reduceIte, tri] <;> rfl
  have e2 : decide ((c : Int) < 248) = false := decide_eq_false (by omega)
  rw [if_neg (by omega)]
  obtain ⟨k, rfl⟩ : ∃ k, c = k + 247 := ⟨c - 247, by omega⟩
  have ek : ((k + 247 : Nat) : Int) - 247 = (k : Int) := by omega
  have ek1 : (k : Int) + 1 = ((k + 1 : Nat) : Int) := by omega
  have ek2 : k + 247 - 246 = k + 1 := by omega
  rw [ek2]
  rcases Nat.lt_or_ge l.length (k + 1) with h2 | h2
  · have e3 : decide ((l.length : Int) ≤ (k : Int)) = true := decide_eq_true (by omega)
    rw [if_pos h2]
    simp (disch := omega) only [Try.f19, pgs, pgl, pgx, Nat.reduceEqDiff, reduceIte, e1, el22, bv_len, ia22, Int.reduceToNat, bv_get, ld5, hcd, e2, convV_int _ _ _ _ _ _ it3 un5, i64w, ek, e3]
    refine ret_at [] _ (retV_three _ _ _ _ _) .nil ?_ ?_
    · simp only [pgs, pgl, pgx, Nat.reduceEqDiff, reduceIte]
    · simp only [pgs, pgl, pgx, Nat.reduceEqDiff, reduceIte, tri] <;> rfl
  have e3 : decide ((l.length : Int) ≤ (k : Int)) = false := decide_eq_false (by omega)
  rw [if_neg (by omega)]
  simp (disch := omega) only [Try.f19, pgs, pgl, pgx, Nat.reduceEqDiff, reduceIte, e1, el22, bv_len, ia22, Int.reduceToNat, bv_get, ld5, hcd, e2, convV_int _ _ _ _ _ _ it3 un5, i64w, ek, e3]
  refine loop_at (fun i => mkS [.sl .fz 1 (bv l), .top, .top, .top, .top, .c (.int .i64 k), .c (.int .u64 (acc (mid l i) : Nat)), .c (.int .i64 (i : Nat))] 0) (fun i => 1 ≤ i ∧ i ≤ k + 1) (fun i => k + 1 - i) 1 [] [] ?_ ⟨Nat.le_refl _, by omega⟩ ?_
  · refine keep_mk ?_ .nil (Nat.le_refl _)
    simp only [pgs, pgl, pgx, GenE_cons, GenE_nil, gen_top, gen_c, gen_fz, Nat.reduceEqDiff, reduceIte, Nat.reduceAdd]
    have : acc (mid l 1) = 0 := by
      have := accm_lt (l := l) (i := 1) ho (by omega)
      simpa using this
    simp only [this]
    exact ⟨of_eq_true (gen_c _ _ _), of_eq_true (gen_c _ _ _)⟩
  · rintro i ⟨hi1, hi⟩ s hs
    simp only [mkS_at, pgs, pgl, Nat.reduceAdd] at hs
    subst hs
    have hb := getD_lt ho i
    have ha := accm_lt (l := l) (i := i) ho (by omega)
    rcases Nat.lt_or_ge k i with hge | hlt
    · have hik : i = k + 1 := by omega
      subst hik
      have e4 : decide (((k + 1 : Nat) : Int) ≤ (k : Int)) = false := decide_eq_false (by omega)
      have hfin := dec_cases (l.getD 1 0) (acc (mid l (k + 1)))
      rcases hfin with ⟨f1, f2, f3, f4⟩ | ⟨f1, f2, f3, f4⟩ | ⟨f1, f2, f3, f4⟩ | ⟨f1, f2, f3, f4⟩
      all_goals
        simp (disch := omega) only [pgs, pgl, pgx, Nat.reduceEqDiff, reduceIte, Nat.reduceAdd, e4, ia22, Int.reduceToNat, bv_get, ld5, f1, f2, f3, f4, convV_int _ _ _ _ _ _ it3 un39, i64w, ek1, headC_exit]
        refine ret_at [] _ (retV_three _ _ _ _ _) .nil ?_ ?_
        · simp only [pgs, pgl, pgx, Nat.reduceEqDiff, reduceIte]
        · simp only [pgs, pgl, pgx, Nat.reduceEqDiff, reduceIte, tri] <;> rfl
    · have e4 : decide ((i : Int) ≤ (k : Int)) = true := decide_eq_true (by omega)
      have hp : 256 ^ (i - 1) ≤ 256 ^ 7 := Nat.pow_le_pow_right (by omega) (by omega)
      have e6 : acc (mid l i) * 256 + l.getD i 0 = acc (mid l (i + 1)) := by rw [mid_next (l := l) (i := i) (by omega) (by omega), acc_snoc]
      simp (disch := omega) only [pgs, pgl, pgx, Nat.reduceEqDiff, reduceIte, Nat.reduceAdd, e4, ia22, Int.toNat_natCast, bv_get, ld5, convV_int _ _ _ _ _ _ it39 un5, u64w, or_acc, e6, i64w, Int.reduceLT, headC_normal]
      refine back_at (i + 1) [] [] (by omega) (by omega) (keep_mk ?_ .nil (Nat.le_refl _))
      simp only [pgs, pgl, pgx, GenE_cons, GenE_nil, gen_top, gen_c, gen_fz, Nat.reduceEqDiff, reduceIte, Nat.reduceAdd, Int.natCast_add, Int.cast_ofNat_Int]
end Go.Proofs.Ytkgebocldjhflaa
