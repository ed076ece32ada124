/-
  Unframe of any octets (at most 2^31).
-/
import Derived.Test.YtkgebocldjhflaaPgT7
namespace Go.Proofs.Ytkgebocldjhflaa
open Go Go.Pg
set_option maxRecDepth 10000
set_option linter.unusedSimpArgs false

theorem good12 (l : List Nat) (ho : oct l) (hl : l.length ≤ 2147483648) : Pg.Good Try.prog 12 [.sl .fz 1 (bv l)] (unV l) := by
  refine good_intro (drawW_ok mix) Try.func12 rfl Try.results12 rfl (by kernel_rfl) (Nat.le_of_ble_eq_true (by kernel_rfl)) ?_
  unfold unV
  rcases Nat.eq_zero_or_pos l.length with h0 | h0
  · have e1 : ((l.length : Int) == 0) = true := by rw [h0]; rfl
    rw [if_pos h0]
    simp only [Try.f12, pgs, pgl, pgx, Nat.reduceEqDiff, reduceIte, e1, el22, bv_len]
    refine ret_at [] _ (retV_four _ _ _ _ _ _) .nil ?_ ?_
    · simp only [pgs, pgl, pgx, Nat.reduceEqDiff, reduceIte]
    · simp only [pgs, pgl, pgx, Nat.reduceEqDiff, reduceIte, bad] <;> rfl
  have e1 : ((l.length : Int) == 0) = false := by rw [beq_eq_false_iff_ne]; omega
  rw [if_neg (by omega)]
  have hG := good18 (l.drop 1) (drop_oct ho 1) (by simp; omega)
  have hD : ∀ x u, decN (l.drop 1) = (x, u, 0) → u ≤ 9 ∧ 1 ≤ u ∧ u + 1 ≤ l.length := fun x u h => by
    obtain ⟨_, h1, h2, h3, _⟩ := dec_enc (drop_oct ho 1) h
    simp at h2
    omega
  have hX := decN_le (l.drop 1) (drop_oct ho 1)
  generalize decN (l.drop 1) = p at hG hD hX
  obtain ⟨x, u, e⟩ := p
  simp only at hX
  simp (disch := omega) only [Try.f12, pgs, pgl, pgx, Nat.reduceEqDiff, reduceIte, e1, el22, bv_len, sl22a, Int.reduceToNat]
  refine callW_use _ hG rfl rfl rfl rfl ?_
  rcases Nat.eq_zero_or_pos e with he | he
  case inr =>
    have e2 := ne0T (n := e) (by omega)
    rw [if_pos (by simp only [ne_eq]; omega)]
    simp (disch := omega) only [pgs, pgl, pgx, Nat.reduceEqDiff, reduceIte, tri, e2]
    refine ret_at [] _ (retV_four _ _ _ _ _ _) .nil ?_ ?_
    · simp only [pgs, pgl, pgx, Nat.reduceEqDiff, reduceIte]
    · simp only [pgs, pgl, pgx, Nat.reduceEqDiff, reduceIte, bad] <;> rfl
  have e2 := ne0F he
  rw [if_neg (by simp only [ne_eq]; omega)]
  rcases Nat.lt_or_ge 1048576 x with h1 | h1
  · have e3 : decide ((1048576 : Int) < (x : Int)) = true := decide_eq_true (by omega)
    rw [if_pos h1]
    simp (disch := omega) only [pgs, pgl, pgx, Nat.reduceEqDiff, reduceIte, tri, e2, e3]
    refine ret_at [] _ (retV_four _ _ _ _ _ _) .nil ?_ ?_
    · simp only [pgs, pgl, pgx, Nat.reduceEqDiff, reduceIte]
    · simp only [pgs, pgl, pgx, Nat.reduceEqDiff, reduceIte, bad] <;> rfl
  have e3 : decide ((1048576 : Int) < (x : Int)) = false := decide_eq_false (by omega)
  rw [if_neg (show ¬ 1048576 < x by omega)]
  have ec1 : 1 + (u : Int) + (x : Int) = ((1 + u + x : Nat) : Int) := by omega
  have ec2 : ((1 + u + x : Nat) : Int) + 4 = ((1 + u + x + 4 : Nat) : Int) := by omega
  have ec3 : 1 + (u : Int) = ((1 + u : Nat) : Int) := by omega
  have ec4 : ((1 + u : Nat) : Int) + (x : Int) = ((1 + u + x : Nat) : Int) := by omega
  rcases Nat.lt_or_ge l.length (1 + u + x + 4) with h2 | h2
  · have e4 : decide ((l.length : Int) < ((1 + u + x + 4 : Nat) : Int)) = true := decide_eq_true (by omega)
    rw [if_pos h2]
    simp (disch := omega) only [pgs, pgl, pgx, Nat.reduceEqDiff, reduceIte, tri, e2, e3, el22, bv_len, i64w, ec3, ec4, ec2, e4]
    refine ret_at [] _ (retV_four _ _ _ _ _ _) .nil ?_ ?_
    · simp only [pgs, pgl, pgx, Nat.reduceEqDiff, reduceIte]
    · simp only [pgs, pgl, pgx, Nat.reduceEqDiff, reduceIte, bad] <;> rfl
  have e4 : decide ((l.length : Int) < ((1 + u + x + 4 : Nat) : Int)) = false := decide_eq_false (by omega)
  rw [if_neg (show ¬ l.length < 1 + u + x + 4 by omega)]
  obtain ⟨hu9, hu1, _⟩ := hD x u (by rw [he])
  simp only at *
  generalize hen : 1 + u + x = en at *
  have eft : (l.take (en + 4)).drop en = ft l en := rfl
  have hfl := ft_len (l := l) (e := en) (by omega)
  have hfo := ft_oct ho en
  simp (disch := omega) only [pgs, pgl, pgx, Nat.reduceEqDiff, reduceIte, tri, e2, e3, el22, bv_len, i64w, ec3, ec4, ec2, e4, sl22, Int.toNat_natCast, eft, hfl, Int.cast_ofNat_Int]
  refine loop_at (fun i => mkS [.sl .fz 1 (bv l), .top, .top, .top, .top, .top, .top, .c (.int .i64 u), .c (.int .i64 en), .c (.int .u32 (acc ((ft l en).take i) : Nat)), .top, .top, .top, .top, .top, .top, .top, .top, .top, .top, .top, .top, .top, .top, .top, .top, .top, .top, .top, .top, .top, .top, .top, .top, .top, .top, .top, .top, .top, .top, .top, .top, .top, .top, .top, .top, .sl .fz 1 (bv (ft l en)), .c (.int .i64 4), .c (.int .i64 (i : Nat))] 0) (fun i => i ≤ 4) (fun i => 4 - i) 0 [] [] ?_ (Nat.zero_le _) ?_
  · refine keep_mk ?_ .nil (Nat.le_refl _)
    simp only [pgs, pgl, pgx, GenE_cons, GenE_nil, gen_top, gen_c, gen_fz, Nat.reduceEqDiff, reduceIte, Nat.reduceAdd]
    exact ⟨of_eq_true (gen_c _ _ _), of_eq_true (gen_c _ _ _)⟩
  · intro i hi s hs
    simp only [mkS_at, pgs, pgl, Nat.reduceAdd] at hs
    subst hs
    rcases Nat.lt_or_ge i 4 with hlt | hge
    · have e5 : decide ((i : Int) < 4) = true := decide_eq_true (by omega)
      have hb := getD_lt hfo i
      have ha := acc_lt i ((ft l en).take i) (by simp [hfl]; omega) (take_oct hfo i)
      have hp : 256 ^ i ≤ 256 ^ 3 := Nat.pow_le_pow_right (by omega) (by omega)
      have e6 := acc_take (s := ft l en) (i := i) (by omega)
      simp (disch := omega) only [pgs, pgl, pgx, Nat.reduceEqDiff, reduceIte, Nat.reduceAdd, e5, ia22, Int.toNat_natCast, bv_get, ld5, convV_int _ _ _ _ _ _ it33 un5, u32w, or_acc32, e6, i64w, Int.reduceLT, headC_normal]
      refine back_at (i + 1) [] [] (by omega) (by omega) (keep_mk ?_ .nil (Nat.le_refl _))
      simp only [pgs, pgl, pgx, GenE_cons, GenE_nil, gen_top, gen_c, gen_fz, Nat.reduceEqDiff, reduceIte, Nat.reduceAdd, Int.natCast_add, Int.cast_ofNat_Int]
    · have hi4 : i = 4 := by omega
      subst hi4
      have e5 : decide (((4 : Nat) : Int) < 4) = false := by decide
      have e7 : (ft l en).take 4 = ft l en := List.take_of_length_le (by omega)
      simp (disch := omega) only [pgs, pgl, pgx, Nat.reduceEqDiff, reduceIte, Nat.reduceAdd, e5, sl22b, Int.toNat_natCast, e7, headC_exit]
      refine callW_use _ (good14 (l.take en) (take_oct ho en) (by simp; omega)) rfl rfl rfl rfl ?_
      by_cases hc : acc (ft l en) = chk (l.take en)
      · have e8 : (((acc (ft l en) : Nat) : Int) != ((chk (l.take en) : Nat) : Int)) = false := by rw [hc]; simp
        rw [if_neg (fun h => h hc)]
        have hbl : ((l.take en).drop (1 + u)).length ≤ 2147483648 := by simp; omega
        simp (disch := first | omega | (simp; omega)) only [pgs, pgl, pgx, Nat.reduceEqDiff, reduceIte, Nat.reduceAdd, e8, ia22, Int.reduceToNat, bv_get, ld5, bs0, i64w, ec3, ec2, sl22, Int.toNat_natCast, app22, Nat.max_def, Nat.reduceLeDiff, Nat.reduceBEq]
        refine ⟨by kernel_rfl, ?_⟩
        refine ret_at [0] _ (retV_four _ _ _ _ _ _) (by decide) ?_ ?_
        · simp only [pgs, pgl, pgx, Nat.reduceEqDiff, reduceIte, Nat.reduceBEq] <;> rfl
        · simp only [pgs, pgl, pgx, Nat.reduceEqDiff, reduceIte, Nat.reduceBEq] <;> rfl
      · have e8 : (((acc (ft l en) : Nat) : Int) != ((chk (l.take en) : Nat) : Int)) = true := by simp; omega
        rw [if_pos hc]
        simp (disch := omega) only [pgs, pgl, pgx, Nat.reduceEqDiff, reduceIte, Nat.reduceAdd, e8]
        refine ret_at [] _ (retV_four _ _ _ _ _ _) .nil ?_ ?_
        · simp only [pgs, pgl, pgx, Nat.reduceEqDiff, reduceIte]
        · simp only [pgs, pgl, pgx, Nat.reduceEqDiff, reduceIte, bad] <;> rfl
end Go.Proofs.Ytkgebocldjhflaa
