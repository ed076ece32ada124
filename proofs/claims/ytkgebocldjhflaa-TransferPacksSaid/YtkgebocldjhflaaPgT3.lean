/-
  The reference's Uint of any number up to 2^62 makes the same octets; what frames are.
-/
import Derived.Test.YtkgebocldjhflaaPgT2
namespace Go.Proofs.Ytkgebocldjhflaa
open Go Go.Pg
set_option maxRecDepth 10000
set_option linter.unusedSimpArgs false

theorem shr8 (a : Nat) : Int.fdiv (a : Int) (2 ^ min (Int.toNat 8) IntKind.i64.bits) = ((a / 256 : Nat) : Int) := shr_n a 1 (by omega)
theorem good15 (n : Nat) (h : n ≤ 4611686018427387904) : Pg.Good Try.prog 15 [.c (.int .i64 (n : Int))] (.sl (.own 0 5) 1 (bv (enc n))) := by
  refine good_intro (drawW_ok mix) Try.func15 rfl Try.results15 rfl (by kernel_rfl) (Nat.le_of_ble_eq_true (by kernel_rfl)) ?_
  rcases Nat.lt_or_ge n 248 with h3 | h3
  · have e3 : decide ((n : Int) < 248) = true := decide_eq_true (by omega)
    simp only [Try.f15, pgs, pgl, pgx, Nat.reduceEqDiff, reduceIte, e3, convV_int _ _ _ _ _ _ it5 un3, u8n, bs1, Nat.reduceAdd]
    refine ret_at [0] _ (retV_one _ _ _) (by decide) ?_ ?_
    · simp only [pgs, pgl, pgx, Nat.reduceEqDiff, reduceIte]
      rfl
    · simp only [pgs, pgl, pgx, Nat.reduceEqDiff, reduceIte, enc, if_pos h3, Nat.mod_eq_of_lt (show n < 256 by omega)]
      rfl
  · have e3 : decide ((n : Int) < 248) = false := decide_eq_false (by omega)
    have h8 : n < 256 ^ 8 := by omega
    obtain ⟨hd1, hd2, hd3⟩ := dg_spec 8 n h8
    simp only [Try.f15, pgs, pgl, pgx, Nat.reduceEqDiff, reduceIte, e3]
    refine loop_at (fun j => mkS [.c (.int .i64 (n / 256 ^ j : Nat)), .top, .top, .sl (.own 0 5) 1 (bv (be j n))] 1) (fun j => j ≤ dg 8 n) (fun j => dg 8 n - j) 0 [] [] ?_ (Nat.zero_le _) ?_
    · refine keep_mk ?_ .nil (Nat.zero_le _)
      simp only [pgs, pgl, pgx, GenE_cons, GenE_nil, gen_top, gen_c, gen_fz, Nat.reduceEqDiff, reduceIte, Nat.reduceAdd, Nat.pow_zero, Nat.div_one]
      exact of_eq_true (gen_nil _ _ _ _)
    · intro j hj s hs
      simp only [mkS_at, pgs, pgl, Nat.reduceAdd] at hs
      subst hs
      have hcmp := dg_cmp (k := j) h8 (by omega)
      rcases Nat.lt_or_ge j (dg 8 n) with hk | hk
      · have hp := hcmp.2 hk
        have e4 : decide ((0 : Int) < ((n / 256 ^ j : Nat) : Int)) = true := decide_eq_true (by omega)
        have e5 : n / 256 ^ j / 256 = n / 256 ^ (j + 1) := by rw [Nat.div_div_eq_div_mul, ← Nat.pow_succ]
        have e6 : [n / 256 ^ j % 256] ++ be j n = be (j + 1) n := by rw [be_head]; rfl
        simp (disch := first | omega | (simp [be_len]; omega)) only [pgs, pgl, pgx, Nat.reduceEqDiff, reduceIte, Nat.reduceAdd, e4, u8n, bs1, convV_int _ _ _ _ _ _ it5 un3, app22, Nat.max_def, Nat.reduceLeDiff, Nat.reduceBEq, Int.reduceLT, shr8, e5, e6, headC_normal]
        refine back_at (j + 1) [1] [] (by omega) (by omega) (keep_mk ?_ (by decide) (Nat.le_refl _))
        simp only [pgs, pgl, pgx, GenE_cons, GenE_nil, gen_top, gen_c, gen_fz, Nat.reduceEqDiff, reduceIte, Nat.reduceAdd, Nat.reduceBEq]
        exact gen_own rfl rfl
      · have hkd : dg 8 n = j := by omega
        have e4 : decide ((0 : Int) < ((n / 256 ^ j : Nat) : Int)) = false := decide_eq_false (by omega)
        have hmod : (247 + j) % 256 = 247 + j := Nat.mod_eq_of_lt (by omega)
        simp (disch := first | omega | (simp [be_len]; omega)) only [pgs, pgl, pgx, Nat.reduceEqDiff, reduceIte, Nat.reduceAdd, e4, el22, bv_len, be_len, natc, i64w, hmod, u8n, bs1, convV_int _ _ _ _ _ _ it5 un3, app22, Nat.max_def, Nat.reduceLeDiff, Nat.reduceBEq, headC_exit]
        refine ret_at [1] _ (retV_one _ _ _) (by decide) ?_ ?_
        · simp only [pgs, pgl, pgx, Nat.reduceEqDiff, reduceIte, Nat.reduceBEq] <;> rfl
        · simp only [pgs, pgl, pgx, Nat.reduceEqDiff, reduceIte, Nat.reduceBEq, enc, if_neg (show ¬ n < 248 by omega), hkd] <;> rfl

/-! ### Frames -/
def be4 (c : Nat) : List Nat := be 4 c
def pre (tag : Nat) (b : List Nat) : List Nat := [tag] ++ enc b.length ++ b
def fr (tag : Nat) (b : List Nat) : List Nat := pre tag b ++ be 4 (chk (pre tag b))
def frV (tag : Nat) (b : List Nat) : V := if b.length ≤ 1048576 then .tup [.sl (.own 0 5) 1 (bv (fr tag b)), .c (.int .i64 0)] else .tup [.c (.slice none 0 0), .c (.int .i64 11)]
theorem oct_app {a b : List Nat} (h : oct a) (h' : oct b) : oct (a ++ b) := by intro x hx; rcases List.mem_append.1 hx with hx | hx; exact h x hx; exact h' x hx
theorem oct_one {a : Nat} (h : a < 256) : oct [a] := by intro x hx; simp only [List.mem_singleton] at hx; omega
theorem enc_oct {n : Nat} (h : n < 256 ^ 8) : oct (enc n) := by
  unfold enc
  obtain ⟨_, _, hd3⟩ := dg_spec 8 n h
  split
  · exact oct_one (by omega)
  · exact oct_app (a := [247 + dg 8 n]) (oct_one (by omega)) (be_oct _ _)
theorem enc_len {n : Nat} (h : n < 256 ^ 8) : (enc n).length ≤ 9 := by
  unfold enc
  obtain ⟨_, _, hd3⟩ := dg_spec 8 n h
  split
  · simp
  · simp [be_len]; omega
theorem pre_oct {tag : Nat} {b : List Nat} (ht : tag < 256) (hb : oct b) (hl : b.length ≤ 1048576) : oct (pre tag b) := oct_app (oct_app (oct_one ht) (enc_oct (by omega))) hb
theorem pre_len {tag : Nat} {b : List Nat} (hl : b.length ≤ 1048576) : (pre tag b).length ≤ 1048586 := by
  have := enc_len (n := b.length) (by omega)
  simp [pre]; omega
theorem chk_lt (l : List Nat) : chk l < 4294967296 := by have := ad_lt l; unfold chk; omega
end Go.Proofs.Ytkgebocldjhflaa
