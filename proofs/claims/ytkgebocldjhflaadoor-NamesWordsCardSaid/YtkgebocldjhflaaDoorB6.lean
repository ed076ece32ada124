/-
  Texts of this claim, merged: PgNJ. Each bears its own remark.
-/
import Derived.Test.YtkgebocldjhflaaDoorB5
set_option linter.unusedVariables false
set_option linter.unusedSimpArgs false
set_option linter.unusedSectionVars false
section
/-
  Names: the laws NamesKeys, NamesBack, of any arguments (strings of at most 2^47 octets).
-/
namespace Go.Proofs.YtkgebocldjhflaaDoor
open Go Go.Pg
set_option maxRecDepth 100000
set_option linter.unusedSimpArgs false

theorem and_i64 (n : Int) (j : Nat) (hj : j ≤ 62) : bits .and .i64 n (2 ^ j - 1) = n % 2 ^ j := by
  have hb : IntKind.i64.bits = 64 := rfl
  have e1 : (BitVec.ofInt 64 (2 ^ j - 1)).toNat = 2 ^ j - 1 := by
    have hle : (2 : Nat) ^ j ≤ 2 ^ 62 := Nat.pow_le_pow_right (by omega) hj
    have h1 : ((2 : Int) ^ j - 1) = ((2 ^ j - 1 : Nat) : Int) := by
      have : 0 < (2 : Nat) ^ j := Nat.two_pow_pos j
      rw [Int.natCast_sub (by omega)]
      simp
    rw [h1, BitVec.toNat_ofInt]
    rw [show ((2 ^ 64 : Nat) : Int) = 18446744073709551616 from rfl]
    omega
  have e2 : (((BitVec.ofInt 64 n).toNat % 2 ^ j : Nat) : Int) = n % 2 ^ j := by
    rw [BitVec.toNat_ofInt, Int.natCast_emod, Int.toNat_of_nonneg (Int.emod_nonneg _ (by decide))]
    have : ((2 ^ 64 : Nat) : Int) = 2 ^ j * 2 ^ (64 - j) := by
      rw [← Int.pow_add, show j + (64 - j) = 64 by omega]
      rfl
    rw [show (((2 ^ j : Nat)) : Int) = 2 ^ j by simp, this]
    exact Int.emod_emod_of_dvd n ⟨_, rfl⟩
  show IntKind.i64.wrap (((BitVec.ofInt 64 n &&& BitVec.ofInt 64 (2 ^ j - 1)).toNat : Nat) : Int) = _
  rw [BitVec.toNat_and, e1, Nat.and_two_pow_sub_one_eq_mod, e2]
  have h0 : 0 ≤ n % 2 ^ j := Int.emod_nonneg _ (by have : (0 : Int) < 2 ^ j := Int.pow_pos (by decide); omega)
  have h1 : n % 2 ^ j < 2 ^ j := Int.emod_lt_of_pos _ (Int.pow_pos (by decide))
  have h2 : (2 : Int) ^ j ≤ 2 ^ 62 := by
    have := Nat.pow_le_pow_right (n := 2) (by omega) hj
    exact_mod_cast this
  have h3 : (2 : Int) ^ 62 = 4611686018427387904 := rfl
  exact w_i64 _ (by omega) (by omega)
theorem and255 (n : Int) : bits .and .i64 n 255 = n % 256 := and_i64 n 8 (by decide)
theorem andF (n : Int) : bits .and .i64 n 15 = n % 16 := and_i64 n 4 (by decide)
def keys12 : List (List Nat) := [[97], [98], [99], [100], [101], [102], [97, 97], [98, 32, 99], [37, 54, 49], [65, 58, 49], [0], [122, 47, 255]]
def u8i (n : Int) : Nat := (n % 256).toNat
theorem u8iw (n : Int) : IntKind.u8.wrap n = ((u8i n : Nat) : Int) := by rw [IntKind.wrap_u8]; unfold u8i; omega
def keyB (n : Int) : List Nat := if n.fdiv 256 % 16 = 15 then [u8i n, u8i (n.fdiv 2), u8i (n.fdiv 8)] else keys12.getD ((n % 256).toNat % 12) []
theorem keyB_ok (n : Int) : oct (keyB n) ∧ (keyB n).length ≤ 12 := by
  unfold keyB
  split
  · refine ⟨?_, by simp⟩
    intro b hb
    simp at hb
    rcases hb with rfl | rfl | rfl <;> (unfold u8i; omega)
  · generalize hk : (n % 256).toNat % 12 = k
    have hlt : k < 12 := by omega
    have : ∀ k, k < 12 → ((keys12.getD k []).all fun b => decide (b < 256)) = true ∧ (keys12.getD k []).length ≤ 12 := by decide
    exact ⟨oct_dec _ (this k hlt).1, (this k hlt).2⟩
theorem sh8 (n : Int) : Int.fdiv n (2 ^ min 8 IntKind.i64.bits) = n.fdiv 256 := rfl
theorem sh1 (n : Int) : Int.fdiv n (2 ^ min 1 IntKind.i64.bits) = n.fdiv 2 := rfl
theorem sh3 (n : Int) : Int.fdiv n (2 ^ min 3 IntKind.i64.bits) = n.fdiv 8 := rfl
theorem bs3 (a b c : Nat) : [V.c (.int .u8 (a : Int)), V.c (.int .u8 (b : Int)), V.c (.int .u8 (c : Int))] = bv [a, b, c] := rfl
theorem bs12 (e : Nat → V) (b : Nat → Option (TypeId × List V)) (n : Nat) (h : Nat → V) : buildSliceV Tryd.prog ⟨e, b, n, h⟩ 35 12 [(0, .c (.string ⟨#[97]⟩)), (1, .c (.string ⟨#[98]⟩)), (2, .c (.string ⟨#[99]⟩)), (3, .c (.string ⟨#[100]⟩)), (4, .c (.string ⟨#[101]⟩)), (5, .c (.string ⟨#[102]⟩)), (6, .c (.string ⟨#[97, 97]⟩)), (7, .c (.string ⟨#[98, 32, 99]⟩)), (8, .c (.string ⟨#[37, 54, 49]⟩)), (9, .c (.string ⟨#[65, 58, 49]⟩)), (10, .c (.string ⟨#[0]⟩)), (11, .c (.string ⟨#[122, 47, 255]⟩))] = some (.sl (.own n 9) 1 (sv keys12), ⟨e, b, n + 1, h⟩) := by
  rw [buildSliceV_w, ty_e35, Option.bind_some, ty_t9, Option.bind_some, ty_y9, Option.bind_some]
  rfl
theorem bs3s (e : Nat → V) (bx : Nat → Option (TypeId × List V)) (n : Nat) (h : Nat → V) (a b c : Nat) : buildSliceV Tryd.prog ⟨e, bx, n, h⟩ 42 3 [(0, .c (.int .u8 (a : Int))), (1, .c (.int .u8 (b : Int))), (2, .c (.int .u8 (c : Int)))] = some (.sl (.own n 5) 1 (bv [a, b, c]), ⟨e, bx, n + 1, h⟩) := by
  rw [buildSliceV_w, ty_e42, Option.bind_some, ty_t5, Option.bind_some, ty_y5, Option.bind_some]
  rfl
theorem k12 : keys12.length = 12 := rfl
theorem tm12 (n : Int) : Int.tmod (n % 256) 12 = (((n % 256).toNat % 12 : Nat) : Int) := by
  rw [Int.tmod_eq_emod_of_nonneg (by omega)]
  omega
theorem sv12 (k : Nat) (h : k < 12) : (sv keys12)[k]? = some (.c (.string (sB (keys12.getD k [])))) := sv_get keys12 k h
theorem m12 (n : Nat) : n % 12 < 12 := Nat.mod_lt _ (by omega)
theorem good10 (n : Int) : Pg.Good Tryd.prog 10 [.c (.int .i64 n)] (.c (.string (sB (keyB n)))) := by
  refine good_intro (drawW_ok mix) Tryd.func10 rfl Tryd.results10 rfl (by kernel_rfl) (Nat.le_of_ble_eq_true (by kernel_rfl)) ?_
  unfold keyB
  have hm := m12 (n % 256).toNat
  have hk := k12
  (repeat' (first | (simp (disch := first | assumption | omega | (simp only [Fits, maxLen, bv_len, sv_len, List.length_append, List.length_cons, List.length_nil, List.length_map, sB_size] at *; omega)) only [pgs, pgl, pgx, pgw, pgb, tyf, decide_true, decide_false, Nat.reduceEqDiff, reduceIte, Nat.reduceAdd, Nat.reduceSub, Nat.reduceMul, Nat.reduceBEq, Nat.max_def, Nat.reduceLeDiff, Int.reduceToNat, Int.reduceLT, Int.reduceLE, Int.reduceEq, Int.reduceNe, Nat.reduceLT, Bool.not_eq_true, Int.toNat_natCast, Int.reduceNeg, Int.reduceSub, Int.reduceAdd, Int.reduceMul, Int.natCast_add, Int.cast_ofNat_Int, eq_self, and_self, Option.some.injEq, not_true_eq_false, not_false_eq_true, List.getElem?_nil, Nat.reduceLeDiff, Nat.le_refl, Int.reduceBEq, Int.reduceBNe, if_true, if_false, ite_true, ite_false, Nat.add_zero, Nat.zero_add, ↓reduceIte, Tryd.f10, bs3s, bs12, k12, tm12, sv12, sh8, sh1, sh3, andF, and255, u8iw, bs3, convK_42, Int.cast_ofNat_Int]) | ((with_reducible show condC _ _ _ _ _ _ _); refine cond_at (fun hc => ?_) (fun hc => ?_) <;> (try simp only [hc]) <;> (try simp only [decide_eq_true_eq, decide_eq_false_iff_not, beq_iff_eq, beq_eq_false_iff_ne, bne_iff_ne, bne_eq_false_iff_eq, Bool.not_eq_true', Bool.not_eq_false', Int.not_lt, Int.not_le, Nat.not_lt, Nat.not_le, ne_eq, Bool.not_true, Bool.not_false, Bool.not_not, Bool.true_eq_false, Bool.false_eq_true, not_false_eq_true, not_true_eq_false, Decidable.not_not] at hc)) | ((with_reducible show guardC _ _ _ _ _ _ _ _); refine guard_at (fun hc => ?_) (fun hc => ?_) <;> (try simp only [hc]) <;> (try simp only [decide_eq_true_eq, decide_eq_false_iff_not, beq_iff_eq, beq_eq_false_iff_ne, bne_iff_ne, bne_eq_false_iff_eq, Bool.not_eq_true', Bool.not_eq_false', Int.not_lt, Int.not_le, Nat.not_lt, Nat.not_le, ne_eq, Bool.not_true, Bool.not_false, Bool.not_not, Bool.true_eq_false, Bool.false_eq_true, not_false_eq_true, not_true_eq_false, Decidable.not_not] at hc)) | ((with_reducible show drwG _ _ _ _ _ _ _ _ _ _); refine drw_at (fun hc => ?_) (fun hc => ?_) <;> (try simp only [hc]) <;> (try simp only [decide_eq_true_eq, decide_eq_false_iff_not, beq_iff_eq, beq_eq_false_iff_ne, bne_iff_ne, bne_eq_false_iff_eq, Bool.not_eq_true', Bool.not_eq_false', Int.not_lt, Int.not_le, Nat.not_lt, Nat.not_le, ne_eq, Bool.not_true, Bool.not_false, Bool.not_not, Bool.true_eq_false, Bool.false_eq_true, not_false_eq_true, not_true_eq_false, Decidable.not_not] at hc)) | (with_reducible refine chk_at (by kernel_rfl) ?_)))
  all_goals (refine ret_at [] _ (by first | exact retV_one _ _ _ | exact retV_two _ _ _ _ | exact retV_three _ _ _ _ _ | exact retV_four _ _ _ _ _ _) (by decide) (by simp only [pgs, pgl, pgx, pgw, decide_true, decide_false, Nat.reduceEqDiff, reduceIte, Nat.reduceAdd, Nat.reduceSub, Nat.reduceMul, Nat.reduceBEq, Nat.max_def, Nat.reduceLeDiff, Int.reduceToNat, Int.reduceLT, Int.reduceLE, Int.reduceEq, Int.reduceNe, Nat.reduceLT, Bool.not_eq_true, Int.toNat_natCast, Int.reduceNeg, Int.reduceSub, Int.reduceAdd, Int.reduceMul, Int.natCast_add, Int.cast_ofNat_Int, eq_self, and_self, Option.some.injEq, not_true_eq_false, not_false_eq_true, List.getElem?_nil, Nat.reduceLeDiff, Nat.le_refl, Int.reduceBEq, Int.reduceBNe, if_true, if_false, ite_true, ite_false, Nat.add_zero, Nat.zero_add, ↓reduceIte]) ?_; (first | rfl | (simp only [pgs, pgl, pgx, pgw, decide_true, decide_false, Nat.reduceEqDiff, reduceIte, Nat.reduceAdd, Nat.reduceSub, Nat.reduceMul, Nat.reduceBEq, Nat.max_def, Nat.reduceLeDiff, Int.reduceToNat, Int.reduceLT, Int.reduceLE, Int.reduceEq, Int.reduceNe, Nat.reduceLT, Bool.not_eq_true, Int.toNat_natCast, Int.reduceNeg, Int.reduceSub, Int.reduceAdd, Int.reduceMul, Int.natCast_add, Int.cast_ofNat_Int, eq_self, and_self, Option.some.injEq, not_true_eq_false, not_false_eq_true, List.getElem?_nil, Nat.reduceLeDiff, Nat.le_refl, Int.reduceBEq, Int.reduceBNe, if_true, if_false, ite_true, ite_false, Nat.add_zero, Nat.zero_add, ↓reduceIte]; done) | (simp only [pgs, pgl, pgx, pgw, decide_true, decide_false, Nat.reduceEqDiff, reduceIte, Nat.reduceAdd, Nat.reduceSub, Nat.reduceMul, Nat.reduceBEq, Nat.max_def, Nat.reduceLeDiff, Int.reduceToNat, Int.reduceLT, Int.reduceLE, Int.reduceEq, Int.reduceNe, Nat.reduceLT, Bool.not_eq_true, Int.toNat_natCast, Int.reduceNeg, Int.reduceSub, Int.reduceAdd, Int.reduceMul, Int.natCast_add, Int.cast_ofNat_Int, eq_self, and_self, Option.some.injEq, not_true_eq_false, not_false_eq_true, List.getElem?_nil, Nat.reduceLeDiff, Nat.le_refl, Int.reduceBEq, Int.reduceBNe, if_true, if_false, ite_true, ite_false, Nat.add_zero, Nat.zero_add, ↓reduceIte])))
  all_goals simp [*]
end Go.Proofs.YtkgebocldjhflaaDoor
end
