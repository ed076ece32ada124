/-
  The reference's Unframe of any octets (at most 2^31) gives the same.
-/
import Derived.Test.YtkgebocldjhflaaPgT8
namespace Go.Proofs.Ytkgebocldjhflaa
open Go Go.Pg
set_option maxRecDepth 10000
set_option linter.unusedSimpArgs false

theorem flat_bv (l : List Nat) : V.flatL (bv l) = true := by
  induction l with
  | nil => rfl
  | cons a l ih => simp only [bv, List.map_cons, V.flatL, V.flat] at ih ⊢; exact ih
theorem frV_flat (t : Nat) (b : List Nat) : (frV t b).flat = true := by
  unfold frV
  split
  · simp only [V.flat, V.flatL, flat_bv, Bool.and_self]
  · rfl
theorem frV_noRef (t : Nat) (b : List Nat) : (frV t b).noRef = true := by unfold frV; split <;> rfl
theorem can_pre (l : List Nat) (u x : Nat) (h : 0 < l.length) : [l.getD 0 0] ++ (l.drop 1).take u ++ (l.take (1 + u + x)).drop (1 + u) = l.take (1 + u + x) := by
  match l, h with
  | a :: m, _ =>
    rw [show 1 + u + x = (u + x) + 1 by omega, show 1 + u = u + 1 by omega]
    simp only [List.getD, List.getElem?_cons_zero, Option.getD_some, List.drop_succ_cons, List.drop_zero, List.cons_append, List.nil_append, List.take_succ_cons]
    congr 1
    have e := List.take_append_drop u (m.take (u + x))
    rw [List.take_take, Nat.min_eq_left (by omega)] at e
    exact e
theorem good17 (l : List Nat) (ho : oct l) (hl : l.length ≤ 2147483648) : Pg.Good Try.prog 17 [.sl .fz 1 (bv l)] (unV l) := by
  refine good_intro (drawW_ok mix) Try.func17 rfl Try.results17 rfl (by kernel_rfl) (Nat.le_of_ble_eq_true (by kernel_rfl)) ?_
  unfold unV
  rcases Nat.eq_zero_or_pos l.length with h0 | h0
  · have e1 : ((l.length : Int) == 0) = true := by rw [h0]; rfl
    rw [if_pos h0]
    simp only [Try.f17, pgs, pgl, pgx, Nat.reduceEqDiff, reduceIte, e1, el22, bv_len]
    refine ret_at [] _ (retV_four _ _ _ _ _ _) .nil ?_ ?_
    · simp only [pgs, pgl, pgx, Nat.reduceEqDiff, reduceIte]
    · simp only [pgs, pgl, pgx, Nat.reduceEqDiff, reduceIte, bad] <;> rfl
  have e1 : ((l.length : Int) == 0) = false := by rw [beq_eq_false_iff_ne]; omega
  rw [if_neg (by omega)]
  have hG := good19 (l.drop 1) (drop_oct ho 1) (by simp; omega)
  have hD : ∀ x u, decN (l.drop 1) = (x, u, 0) → u ≤ 9 ∧ 1 ≤ u ∧ u + 1 ≤ l.length ∧ (l.drop 1).take u = enc x := fun x u h => by
    obtain ⟨h4, h1, h2, h3, _⟩ := dec_enc (drop_oct ho 1) h
    simp at h2
    exact ⟨by omega, by omega, by omega, h4⟩
  have hX := decN_le (l.drop 1) (drop_oct ho 1)
  generalize decN (l.drop 1) = p at hG hD hX
  obtain ⟨x, u, e⟩ := p
  simp only at hX
  simp (disch := omega) only [Try.f17, pgs, pgl, pgx, Nat.reduceEqDiff, reduceIte, e1, el22, bv_len, sl22a, Int.reduceToNat]
  refine callW_use _ hG rfl rfl rfl rfl ?_
  rcases Nat.eq_zero_or_pos e with he | he
  case inr =>
    have e2 := ne0T (n := e) (by omega)
    rw [if_pos (by simp only [ne_eq]; omega)]
    simp (disch := omega) only [pgs, pgl, pgx, Nat.reduceEqDiff, reduceIte, tri, e2]
    refine ret_at [] _ (retV_four _ _ _ _ _ _) .nil ?_ ?_
    · simp only [pgs, pgl, pgx, Nat.reduceEqDiff, reduceIte]
    · simp only [pgs, pgl, pgx, Nat.reduceEqDiff, reduceIte, bad] <;> rfl
  have e2 := ne0F he
  rw [if_neg (by simp only [ne_eq]; omega)]
  rcases Nat.lt_or_ge 1048576 x with h1 | h1
  · have e3 : decide ((1048576 : Int) < (x : Int)) = true := decide_eq_true (by omega)
    rw [if_pos h1]
    simp (disch := omega) only [pgs, pgl, pgx, Nat.reduceEqDiff, reduceIte, tri, e2, e3]
    refine ret_at [] _ (retV_four _ _ _ _ _ _) .nil ?_ ?_
    · simp only [pgs, pgl, pgx, Nat.reduceEqDiff, reduceIte]
    · simp only [pgs, pgl, pgx, Nat.reduceEqDiff, reduceIte, bad] <;> rfl
  have e3 : decide ((1048576 : Int) < (x : Int)) = false := decide_eq_false (by omega)
  rw [if_neg (show ¬ 1048576 < x by omega)]
  have ec1 : 1 + (u : Int) + (x : Int) = ((1 + u + x : Nat) : Int) := by omega
  have ec2 : ((1 + u + x : Nat) : Int) + 4 = ((1 + u + x + 4 : Nat) : Int) := by omega
  have ec3 : 1 + (u : Int) = ((1 + u : Nat) : Int) := by omega
  have ec4 : ((1 + u : Nat) : Int) + (x : Int) = ((1 + u + x : Nat) : Int) := by omega
  rcases Nat.lt_or_ge l.length (1 + u + x + 4) with h2 | h2
  · have e4 : decide ((l.length : Int) < ((1 + u + x + 4 : Nat) : Int)) = true := decide_eq_true (by omega)
    rw [if_pos h2]
    simp (disch := omega) only [pgs, pgl, pgx, Nat.reduceEqDiff, reduceIte, tri, e2, e3, el22, bv_len, i64w, ec3, ec4, ec2, e4]
    refine ret_at [] _ (retV_four _ _ _ _ _ _) .nil ?_ ?_
    · simp only [pgs, pgl, pgx, Nat.reduceEqDiff, reduceIte]
    · simp only [pgs, pgl, pgx, Nat.reduceEqDiff, reduceIte, bad] <;> rfl
  have e4 : decide ((l.length : Int) < ((1 + u + x + 4 : Nat) : Int)) = false := decide_eq_false (by omega)
  rw [if_neg (show ¬ l.length < 1 + u + x + 4 by omega)]
  obtain ⟨hu9, hu1, hu2, hcan⟩ := hD x u (by rw [he])
  simp only at *
  generalize hen : 1 + u + x = en at *
  have eft : (l.take (en + 4)).drop en = ft l en := rfl
  have hfl := ft_len (l := l) (e := en) (by omega)
  have hfo := ft_oct ho en
  generalize hbody : (l.take en).drop (1 + u) = body
  have hbl : body.length = x := by rw [← hbody]; simp; omega
  have hbo : oct body := by rw [← hbody]; exact drop_oct (take_oct ho en) _
  have hpre : pre (l.getD 0 0) body = l.take en := by
    unfold pre
    rw [hbl, ← hcan, ← hbody, ← hen]
    exact can_pre l u x h0
  have hfr : fr (l.getD 0 0) body = l.take en ++ be 4 (chk (l.take en)) := by unfold fr; rw [hpre]
  have hfrl : (fr (l.getD 0 0) body).length = en + 4 := by rw [hfr]; simp [be_len]; omega
  have hfg : ∀ j, j < 4 → (fr (l.getD 0 0) body).getD (en + j) 0 = (be 4 (chk (l.take en))).getD j 0 := by
    intro j hj
    have e : (l.take en).length = en := by simp; omega
    rw [hfr]
    simp only [List.getD]
    rw [List.getElem?_append_right (by omega), e, Nat.add_sub_cancel_left]
  have hlg : ∀ j, j < 4 → l.getD (en + j) 0 = (ft l en).getD j 0 := by
    intro j hj
    simp only [ft, List.getD, List.getElem?_drop, List.getElem?_take]
    rw [if_pos (by omega)]
  have ht := getD_lt ho 0
  have hfro : oct (fr (l.getD 0 0) body) := by rw [hfr]; exact oct_app (take_oct ho en) (be_oct _ _)
  have es1 : ((en + 4 : Nat) : Int) - 4 = (en : Int) := by omega
  simp (disch := omega) only [pgs, pgl, pgx, Nat.reduceEqDiff, reduceIte, tri, e2, e3, el22, bv_len, i64w, ec3, ec4, ec2, e4, sl22, Int.toNat_natCast, hbody, app22n, ia22, Int.reduceToNat, bv_get, ld5, Nat.reduceAdd]
  refine callW_use _ (good10 (l.getD 0 0) body ht hbo (by omega)) rfl rfl (frV_noRef _ _) (by rw [frV_flat, Bool.or_true]) ?_
  unfold frV
  rw [if_pos (show body.length ≤ 1048576 by omega)]
  simp (disch := omega) only [pgs, pgl, pgx, Nat.reduceEqDiff, reduceIte, el22, bv_len, i64w, Nat.reduceAdd, hfrl, es1]
  refine loop_at (fun j => mkS [.sl .fz 1 (bv l), .top, .top, .top, .top, .top, .top, .top, .top, .sl (.own 0 5) 1 (bv body), .sl (.own 1 5) 1 (bv (fr (l.getD 0 0) body)), .top, .c (.int .i64 (en + j : Nat))] 2) (fun j => j ≤ 4 ∧ (ft l en).take j = (be 4 (chk (l.take en))).take j) (fun j => 4 - j) 0 [0, 1] [] ?_ ⟨Nat.zero_le _, rfl⟩ ?_
  · refine keep_mk ?_ (by decide) (Nat.le_refl _)
    simp only [pgs, pgl, pgx, GenE_cons, GenE_nil, gen_top, gen_c, gen_fz, Nat.reduceEqDiff, reduceIte, Nat.reduceAdd, Nat.add_zero]
    exact ⟨gen_own rfl rfl, gen_own rfl rfl⟩
  · rintro j ⟨hj, hj2⟩ s hs
    simp only [mkS_at, pgs, pgl, Nat.reduceAdd] at hs
    subst hs
    rcases Nat.lt_or_ge j 4 with hlt | hge
    · have e5 : decide (((en + j : Nat) : Int) < ((en + 4 : Nat) : Int)) = true := decide_eq_true (by omega)
      by_cases hq : (be 4 (chk (l.take en))).getD j 0 = (ft l en).getD j 0
      · have e6 : ((((be 4 (chk (l.take en))).getD j 0 : Nat) : Int) != (((ft l en).getD j 0 : Nat) : Int)) = false := by rw [hq]; simp
        simp (disch := omega) only [pgs, pgl, pgx, Nat.reduceEqDiff, reduceIte, Nat.reduceAdd, el22, bv_len, hfrl, e5, ia22, Int.toNat_natCast, bv_get, ld5, hfg j hlt, hlg j hlt, e6, i64w, headC_normal]
        refine ⟨by kernel_rfl, ?_⟩
        refine back_at (j + 1) [0, 1] [] ⟨by omega, ?_⟩ (by omega) (keep_mk ?_ (by decide) (Nat.le_refl _))
        · have hbl4 := be_len 4 (chk (l.take en))
          rw [List.take_succ_eq_append_getElem (by omega), List.take_succ_eq_append_getElem (by omega), hj2]
          congr 2
          simpa [List.getD, show j < (be 4 (chk (l.take en))).length by omega, show j < (ft l en).length by omega] using hq.symm
        · simp only [pgs, pgl, pgx, GenE_cons, GenE_nil, gen_top, gen_c, gen_fz, Nat.reduceEqDiff, reduceIte, Nat.reduceAdd]
          exact ⟨gen_own rfl rfl, gen_own rfl rfl, of_eq_true (gen_int _ _ _ _ _ (by omega))⟩
      · have e6 : ((((be 4 (chk (l.take en))).getD j 0 : Nat) : Int) != (((ft l en).getD j 0 : Nat) : Int)) = true := by simp only [bne_iff_ne, ne_eq]; omega
        have hne : acc (ft l en) ≠ chk (l.take en) := by
          intro h
          apply hq
          rw [← h, be_acc 4 _ hfl hfo]
        rw [if_pos hne]
        simp (disch := omega) only [pgs, pgl, pgx, Nat.reduceEqDiff, reduceIte, Nat.reduceAdd, el22, bv_len, hfrl, e5, ia22, Int.toNat_natCast, bv_get, ld5, hfg j hlt, hlg j hlt, e6, i64w]
        refine ⟨by kernel_rfl, ?_⟩
        refine ret_at [] _ (retV_four _ _ _ _ _ _) .nil ?_ ?_
        · simp only [pgs, pgl, pgx, Nat.reduceEqDiff, reduceIte]
        · simp only [pgs, pgl, pgx, Nat.reduceEqDiff, reduceIte, bad] <;> rfl
    · have hj4 : j = 4 := by omega
      subst hj4
      have e5 : decide (((en + 4 : Nat) : Int) < ((en + 4 : Nat) : Int)) = false := decide_eq_false (by omega)
      have heq : acc (ft l en) = chk (l.take en) := by
        rw [List.take_of_length_le (by omega), List.take_of_length_le (by rw [be_len]; omega)] at hj2
        rw [hj2, acc_be, Nat.mod_eq_of_lt]
        exact chk_lt _
      rw [if_neg (fun h => h heq)]
      simp (disch := omega) only [pgs, pgl, pgx, Nat.reduceEqDiff, reduceIte, Nat.reduceAdd, el22, bv_len, hfrl, e5, ia22, Int.reduceToNat, bv_get, ld5, headC_exit]
      refine ret_at [0] _ (retV_four _ _ _ _ _ _) (by decide) ?_ ?_
      · simp only [pgs, pgl, pgx, Nat.reduceEqDiff, reduceIte, Nat.reduceBEq] <;> rfl
      · simp only [pgs, pgl, pgx, Nat.reduceEqDiff, reduceIte, Nat.reduceBEq] <;> rfl
end Go.Proofs.Ytkgebocldjhflaa
