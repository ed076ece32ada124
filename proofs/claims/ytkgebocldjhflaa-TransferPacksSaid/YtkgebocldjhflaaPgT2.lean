/-
  EncodeUint of any number up to 2^62 makes the octets 'enc'.
-/
import Derived.Test.YtkgebocldjhflaaPgT1
namespace Go.Proofs.Ytkgebocldjhflaa
open Go Go.Pg
set_option maxRecDepth 10000
set_option linter.unusedSimpArgs false

theorem u8n (a : Nat) : IntKind.u8.wrap (a : Int) = ((a % 256 : Nat) : Int) := by rw [IntKind.wrap_u8]; omega
theorem shr_n (a k : Nat) (h : k ≤ 8) : Int.fdiv (a : Int) (2 ^ min (Int.toNat (8 * (k : Int))) IntKind.i64.bits) = ((a / 256 ^ k : Nat) : Int) := by
  have e : min (Int.toNat (8 * (k : Int))) IntKind.i64.bits = 8 * k := by simp [IntKind.bits]; omega
  have e2 : (256 ^ k : Nat) = 2 ^ (8 * k) := by rw [Nat.pow_mul]
  rw [e, e2, show (2 : Int) ^ (8 * k) = ((2 ^ (8 * k) : Nat) : Int) by simp]
  rw [Int.fdiv_eq_ediv_of_nonneg _ (Int.natCast_nonneg _), Int.natCast_ediv]
theorem dg_cmp {n k : Nat} (h : n < 256 ^ 8) (h0 : 0 < n) : 0 < n / 256 ^ k ↔ k < dg 8 n := by
  obtain ⟨h1, h2, h3⟩ := dg_spec 8 n h
  obtain ⟨h2, h4⟩ := h2 h0
  constructor
  · intro hp
    rcases Nat.lt_or_ge k (dg 8 n) with hk | hk
    · exact hk
    · have : 256 ^ dg 8 n ≤ 256 ^ k := Nat.pow_le_pow_right (by omega) hk
      rw [Nat.div_eq_of_lt (by omega)] at hp
      omega
  · intro hk
    have : 256 ^ k ≤ 256 ^ (dg 8 n - 1) := Nat.pow_le_pow_right (by omega) (by omega)
    exact Nat.div_pos (by omega) (Nat.pow_pos (by omega))

theorem natc (k : Nat) : (247 : Int) + (k : Int) = ((247 + k : Nat) : Int) := by omega
theorem src22 (tg : Tag) (l : List Nat) : srcV Try.prog 22 1 (.sl tg 1 (bv l)) = some (bv l) := by rw [srcV_sl, el22]; rfl
theorem fits_1 {n : Nat} (h : n ≤ 140737488355328) : Fits n 1 := by unfold Fits maxLen; omega
theorem app22 (s : St) (l l' : List Nat) (id : Nat) (tg : Tag) (h : l.length + l'.length ≤ 140737488355328) : appendV Try.prog s 22 22 (.sl (.own id 5) 1 (bv l)) (.sl tg 1 (bv l')) = some (.sl (.own id 5) 1 (bv (l ++ l')), { s.mapV (poison id) with nid := max s.nid (id + 1) }) := by
  rw [appendV_at _ _ _ _ _ _ _ _ _ _ el22 ta5 (src22 tg l')]
  simp only [bv_len, bv_app]
  rw [if_pos ⟨trivial, trivial, fits_1 h⟩]
theorem app22n (s : St) (l' : List Nat) (tg : Tag) (h : l'.length ≤ 140737488355328) : appendV Try.prog s 22 22 (.c (.slice none 0 0)) (.sl tg 1 (bv l')) = some (.sl (.own s.nid 5) 1 (bv l'), { s with nid := s.nid + 1 }) := by
  rw [appendV_at _ _ _ _ _ _ _ _ _ _ el22 ta5 (src22 tg l')]
  simp only [bv_len]
  rw [if_pos (fits_1 h)]
theorem bs1 (s : St) (a : Nat) : buildSliceV Try.prog s 22 1 [(0, .c (.int .u8 (a : Int)))] = some (.sl (.own s.nid 5) 1 (bv [a]), { s with nid := s.nid + 1 }) := by
  simp [buildSliceV, el22, ta5, ze5, setAll, cs_c_int, free_c, one_c_int, bv]

theorem good13 (n : Nat) (h : n ≤ 4611686018427387904) : Pg.Good Try.prog 13 [.c (.int .i64 (n : Int))] (.tup [.sl (.own 0 5) 1 (bv (enc n)), .c (.int .i64 0)]) := by
  refine good_intro (drawW_ok mix) Try.func13 rfl Try.results13 rfl (by kernel_rfl) (Nat.le_of_ble_eq_true (by kernel_rfl)) ?_
  have e1 : decide ((n : Int) < 0) = false := decide_eq_false (by omega)
  have e2 : decide (4611686018427387904 < (n : Int)) = false := decide_eq_false (by omega)
  rcases Nat.lt_or_ge n 248 with h3 | h3
  · have e3 : decide ((n : Int) < 248) = true := decide_eq_true (by omega)
    simp only [Try.f13, pgs, pgl, pgx, Nat.reduceEqDiff, reduceIte, e1, e2, e3, convV_int _ _ _ _ _ _ it5 un3, u8n, bs1, Nat.reduceAdd]
    refine ret_at [0] _ (retV_two _ _ _ _) (by decide) ?_ ?_
    · simp only [pgs, pgl, pgx, Nat.reduceEqDiff, reduceIte]
      rfl
    · simp only [pgs, pgl, pgx, Nat.reduceEqDiff, reduceIte, enc, if_pos h3, Nat.mod_eq_of_lt (show n < 256 by omega)]
      rfl
  · have e3 : decide ((n : Int) < 248) = false := decide_eq_false (by omega)
    have h8 : n < 256 ^ 8 := by omega
    obtain ⟨hd1, hd2, hd3⟩ := dg_spec 8 n h8
    have hd4 := (hd2 (by omega)).2
    simp only [Try.f13, pgs, pgl, pgx, Nat.reduceEqDiff, reduceIte, e1, e2, e3]
    refine loop_at (fun k => mkS [.c (.int .i64 n), .top, .top, .top, .c (.int .i64 (k : Nat))] 0) (fun k => 1 ≤ k ∧ k ≤ dg 8 n) (fun k => 8 - k) 1 [] [] ?_ ⟨by omega, hd4⟩ ?_
    · refine keep_mk ?_ .nil (Nat.le_refl _)
      simp only [pgs, pgl, pgx, GenE_cons, GenE_nil, gen_top, gen_c, gen_fz, Nat.reduceEqDiff, reduceIte, bv_len, Nat.reduceAdd]
      exact of_eq_true (gen_c _ _ _)
    · rintro k ⟨hk1, hk2⟩ s hs
      simp only [mkS_at, pgs, pgl, Nat.reduceAdd] at hs
      subst hs
      have hcmp := dg_cmp (k := k) h8 (by omega)
      rcases Nat.lt_or_ge k (dg 8 n) with hk | hk
      · have e4 : decide ((k : Int) < 8) = true := decide_eq_true (by omega)
        have hp := hcmp.2 hk
        have e5 : decide ((0 : Int) < ((n / 256 ^ k : Nat) : Int)) = true := by simp only [decide_eq_true_eq]; omega
        have e6 : ((8 * (k : Int)) < 0) = False := eq_false (by omega)
        simp (disch := omega) only [pgs, pgl, pgx, Nat.reduceEqDiff, reduceIte, Nat.reduceAdd, e4, i64w, shr_n, e5, e6, headC_normal]
        refine back_at (k + 1) [] [] (by omega) (by omega) (keep_mk ?_ .nil (Nat.le_refl _))
        simp only [pgs, pgl, pgx, GenE_cons, GenE_nil, gen_top, gen_c, gen_fz, Nat.reduceEqDiff, reduceIte, Nat.reduceAdd, Int.natCast_add, Int.cast_ofNat_Int]
      · have hkd : dg 8 n = k := by omega
        have hstop : (decide ((k : Int) < 8) = false ∧ True) ∨ (decide ((k : Int) < 8) = true ∧ decide ((0 : Int) < ((n / 256 ^ k : Nat) : Int)) = false) := by
          rcases Nat.lt_or_ge k 8 with h | h
          · exact .inr ⟨decide_eq_true (by omega), decide_eq_false (by omega)⟩
          · exact .inl ⟨decide_eq_false (by omega), trivial⟩
        have e6 : ((8 * (k : Int)) < 0) = False := eq_false (by omega)
        have hmod : (247 + k) % 256 = 247 + k := Nat.mod_eq_of_lt (by omega)
        have hbe : ∀ m, m < k → (247 + k) :: be (k - (m + 1)) (n / 256 ^ (m + 1)) ++ [n / 256 ^ m % 256] = (247 + k) :: be (k - m) (n / 256 ^ m) := by
          intro m hm
          rw [show k - m = (k - (m + 1)) + 1 by omega, be, Nat.div_div_eq_div_mul, ← Nat.pow_succ]
          rfl
        rcases hstop with ⟨e4, e5⟩ | ⟨e4, e5⟩
        all_goals
          simp (disch := omega) only [pgs, pgl, pgx, Nat.reduceEqDiff, reduceIte, Nat.reduceAdd, e4, i64w, shr_n, e5, e6, headC_exit, natc, u8n, bs1, convV_int _ _ _ _ _ _ it5 un3, hmod]
          refine loop_at (fun j => mkS [.c (.int .i64 n), .top, .top, .top, .top, .sl (.own 0 5) 1 (bv ((247 + k) :: be (k - j) (n / 256 ^ j))), .c (.int .i64 ((j : Nat) - 1))] 1) (fun j => j ≤ k) (fun j => j) k [0] [] ?_ (Nat.le_refl _) ?_
          · refine keep_mk ?_ (by decide) (Nat.le_refl _)
            simp only [pgs, pgl, pgx, GenE_cons, GenE_nil, gen_top, gen_c, gen_fz, Nat.reduceEqDiff, reduceIte, Nat.reduceAdd]
            exact gen_own rfl (by rw [Nat.sub_self]; rfl)
          · intro j hj s hs
            simp only [mkS_at, pgs, pgl, Nat.reduceAdd] at hs
            subst hs
            cases j with
            | zero =>
              have e7 : decide ((0 : Int) ≤ ((0 : Nat) : Int) - 1) = false := by decide
              simp (disch := omega) only [pgs, pgl, pgx, Nat.reduceEqDiff, reduceIte, Nat.reduceAdd, e7, headC_exit]
              refine ret_at [0] _ (retV_two _ _ _ _) (by decide) ?_ ?_
              · simp only [pgs, pgl, pgx, Nat.reduceEqDiff, reduceIte]
                rfl
              · simp only [pgs, pgl, pgx, Nat.reduceEqDiff, reduceIte, enc, if_neg (show ¬ n < 248 by omega), hkd, Nat.sub_zero, Nat.pow_zero, Nat.div_one]
                rfl
            | succ m =>
              have e7 : decide ((0 : Int) ≤ ((m + 1 : Nat) : Int) - 1) = true := by simp only [decide_eq_true_eq]; omega
              have e8 : ((m + 1 : Nat) : Int) - 1 = (m : Int) := by omega
              have e9 : ((8 * (m : Int)) < 0) = False := eq_false (by omega)
              rw [e8] at e7
              have hl : ((247 + k) :: be (k - (m + 1)) (n / 256 ^ (m + 1))).length ≤ 9 := by simp [be_len]; omega
              simp (disch := first | omega | (simp [be_len]; omega)) only [pgs, pgl, pgx, Nat.reduceEqDiff, reduceIte, Nat.reduceAdd, e7, e8, e9, i64w, shr_n, u8n, bs1, convV_int _ _ _ _ _ _ it5 un3, headC_normal, app22, Nat.max_def, Nat.reduceLeDiff, Nat.reduceBEq, hbe m (by omega)]
              refine back_at m [0] [] (by omega) (by omega) (keep_mk ?_ (by decide) (Nat.le_refl _))
              simp only [pgs, pgl, pgx, GenE_cons, GenE_nil, gen_top, gen_c, gen_fz, Nat.reduceEqDiff, reduceIte, Nat.reduceAdd, Nat.reduceBEq]
              exact gen_own rfl rfl
end Go.Proofs.Ytkgebocldjhflaa
