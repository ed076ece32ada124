/-
  Texts of this claim, merged: PgNJ, PgNK. Each bears its own remark.
-/
import Derived.Test.YtkgebocldjhflaaDoorB5
section
/-
  Names: the laws NamesKeys, NamesBack, of any arguments (strings of at most 2^47 octets).
-/
namespace Go.Proofs.YtkgebocldjhflaaDoor
open Go Go.Pg
set_option maxRecDepth 100000
set_option linter.unusedSimpArgs false

theorem and_i64 (n : Int) (j : Nat) (hj : j ≤ 62) : bits .and .i64 n (2 ^ j - 1) = n % 2 ^ j := by
  have hb : IntKind.i64.bits = 64 := rfl
  have e1 : (BitVec.ofInt 64 (2 ^ j - 1)).toNat = 2 ^ j - 1 := by
    have hle : (2 : Nat) ^ j ≤ 2 ^ 62 := Nat.pow_le_pow_right (by omega) hj
    have h1 : ((2 : Int) ^ j - 1) = ((2 ^ j - 1 : Nat) : Int) := by
      have : 0 < (2 : Nat) ^ j := Nat.two_pow_pos j
      rw [Int.natCast_sub (by omega)]
      simp
    rw [h1, BitVec.toNat_ofInt]
    rw [show ((2 ^ 64 : Nat) : Int) = 18446744073709551616 from rfl]
    omega
  have e2 : (((BitVec.ofInt 64 n).toNat % 2 ^ j : Nat) : Int) = n % 2 ^ j := by
    rw [BitVec.toNat_ofInt, Int.natCast_emod, Int.toNat_of_nonneg (Int.emod_nonneg _ (by decide))]
    have : ((2 ^ 64 : Nat) : Int) = 2 ^ j * 2 ^ (64 - j) := by
      rw [← Int.pow_add, show j + (64 - j) = 64 by omega]
      rfl
    rw [show (((2 ^ j : Nat)) : Int) = 2 ^ j by simp, this]
    exact Int.emod_emod_of_dvd n ⟨_, rfl⟩
  show IntKind.i64.wrap (((BitVec.ofInt 64 n &&& BitVec.ofInt 64 (2 ^ j - 1)).toNat : Nat) : Int) = _
  rw [BitVec.toNat_and, e1, Nat.and_two_pow_sub_one_eq_mod, e2]
  have h0 : 0 ≤ n % 2 ^ j := Int.emod_nonneg _ (by have : (0 : Int) < 2 ^ j := Int.pow_pos (by decide); omega)
  have h1 : n % 2 ^ j < 2 ^ j := Int.emod_lt_of_pos _ (Int.pow_pos (by decide))
  have h2 : (2 : Int) ^ j ≤ 2 ^ 62 := by
    have := Nat.pow_le_pow_right (n := 2) (by omega) hj
    exact_mod_cast this
  have h3 : (2 : Int) ^ 62 = 4611686018427387904 := rfl
  exact w_i64 _ (by omega) (by omega)
theorem and255 (n : Int) : bits .and .i64 n 255 = n % 256 := and_i64 n 8 (by decide)
theorem andF (n : Int) : bits .and .i64 n 15 = n % 16 := and_i64 n 4 (by decide)
def keys12 : List (List Nat) := [[97], [98], [99], [100], [101], [102], [97, 97], [98, 32, 99], [37, 54, 49], [65, 58, 49], [0], [122, 47, 255]]
def u8i (n : Int) : Nat := (n % 256).toNat
theorem u8iw (n : Int) : IntKind.u8.wrap n = ((u8i n : Nat) : Int) := by rw [IntKind.wrap_u8]; unfold u8i; omega
def keyB (n : Int) : List Nat := if n.fdiv 256 % 16 = 15 then [u8i n, u8i (n.fdiv 2), u8i (n.fdiv 8)] else keys12.getD ((n % 256).toNat % 12) []
theorem keyB_ok (n : Int) : oct (keyB n) ∧ (keyB n).length ≤ 12 := by
  unfold keyB
  split
  · refine ⟨?_, by simp⟩
    intro b hb
    simp at hb
    rcases hb with rfl | rfl | rfl <;> (unfold u8i; omega)
  · generalize hk : (n % 256).toNat % 12 = k
    have hlt : k < 12 := by omega
    have : ∀ k, k < 12 → ((keys12.getD k []).all fun b => decide (b < 256)) = true ∧ (keys12.getD k []).length ≤ 12 := by decide
    exact ⟨oct_dec _ (this k hlt).1, (this k hlt).2⟩
theorem sh8 (n : Int) : Int.fdiv n (2 ^ min 8 IntKind.i64.bits) = n.fdiv 256 := rfl
theorem sh1 (n : Int) : Int.fdiv n (2 ^ min 1 IntKind.i64.bits) = n.fdiv 2 := rfl
theorem sh3 (n : Int) : Int.fdiv n (2 ^ min 3 IntKind.i64.bits) = n.fdiv 8 := rfl
theorem bs3 (a b c : Nat) : [V.c (.int .u8 (a : Int)), V.c (.int .u8 (b : Int)), V.c (.int .u8 (c : Int))] = bv [a, b, c] := rfl
theorem bs12 (e : Nat → V) (b : Nat → Option (TypeId × List V)) (n : Nat) (h : Nat → V) : buildSliceV Tryd.prog ⟨e, b, n, h⟩ 35 12 [(0, .c (.string ⟨#[97]⟩)), (1, .c (.string ⟨#[98]⟩)), (2, .c (.string ⟨#[99]⟩)), (3, .c (.string ⟨#[100]⟩)), (4, .c (.string ⟨#[101]⟩)), (5, .c (.string ⟨#[102]⟩)), (6, .c (.string ⟨#[97, 97]⟩)), (7, .c (.string ⟨#[98, 32, 99]⟩)), (8, .c (.string ⟨#[37, 54, 49]⟩)), (9, .c (.string ⟨#[65, 58, 49]⟩)), (10, .c (.string ⟨#[0]⟩)), (11, .c (.string ⟨#[122, 47, 255]⟩))] = some (.sl (.own n 9) 1 (sv keys12), ⟨e, b, n + 1, h⟩) := by
  rw [buildSliceV_w, ty_e35, Option.bind_some, ty_t9, Option.bind_some, ty_y9, Option.bind_some]
  rfl
theorem bs3s (e : Nat → V) (bx : Nat → Option (TypeId × List V)) (n : Nat) (h : Nat → V) (a b c : Nat) : buildSliceV Tryd.prog ⟨e, bx, n, h⟩ 42 3 [(0, .c (.int .u8 (a : Int))), (1, .c (.int .u8 (b : Int))), (2, .c (.int .u8 (c : Int)))] = some (.sl (.own n 5) 1 (bv [a, b, c]), ⟨e, bx, n + 1, h⟩) := by
  rw [buildSliceV_w, ty_e42, Option.bind_some, ty_t5, Option.bind_some, ty_y5, Option.bind_some]
  rfl
theorem k12 : keys12.length = 12 := rfl
theorem tm12 (n : Int) : Int.tmod (n % 256) 12 = (((n % 256).toNat % 12 : Nat) : Int) := by
  rw [Int.tmod_eq_emod_of_nonneg (by omega)]
  omega
theorem sv12 (k : Nat) (h : k < 12) : (sv keys12)[k]? = some (.c (.string (sB (keys12.getD k [])))) := sv_get keys12 k h
theorem m12 (n : Nat) : n % 12 < 12 := Nat.mod_lt _ (by omega)
theorem good10 (n : Int) : Pg.Good Tryd.prog 10 [.c (.int .i64 n)] (.c (.string (sB (keyB n)))) := by
  refine good_intro (drawW_ok mix) Tryd.func10 rfl Tryd.results10 rfl (by kernel_rfl) (Nat.le_of_ble_eq_true (by kernel_rfl)) ?_
  unfold keyB
  have hm := m12 (n % 256).toNat
  have hk := k12
  (repeat' (first | (simp (disch := first | assumption | omega | (simp only [Fits, maxLen, bv_len, sv_len, List.length_append, List.length_cons, List.length_nil, List.length_map, sB_size] at *; omega)) only [pgs, pgl, pgx, pgw, pgb, tyf, decide_true, decide_false, Nat.reduceEqDiff, reduceIte, Nat.reduceAdd, Nat.reduceSub, Nat.reduceMul, Nat.reduceBEq, Nat.max_def, Nat.reduceLeDiff, Int.reduceToNat, Int.reduceLT, Int.reduceLE, Int.reduceEq, Int.reduceNe, Nat.reduceLT, Bool.not_eq_true, Int.toNat_natCast, Int.reduceNeg, Int.reduceSub, Int.reduceAdd, Int.reduceMul, Int.natCast_add, Int.cast_ofNat_Int, eq_self, and_self, Option.some.injEq, not_true_eq_false, not_false_eq_true, List.getElem?_nil, Nat.reduceLeDiff, Nat.le_refl, Int.reduceBEq, Int.reduceBNe, if_true, if_false, ite_true, ite_false, Nat.add_zero, Nat.zero_add, ↓reduceIte, Tryd.f10, bs3s, bs12, k12, tm12, sv12, sh8, sh1, sh3, andF, and255, u8iw, bs3, convK_42, Int.cast_ofNat_Int]) | ((with_reducible show condC _ _ _ _ _ _ _); refine cond_at (fun hc => ?_) (fun hc => ?_) <;> (try simp only [hc]) <;> (try simp only [decide_eq_true_eq, decide_eq_false_iff_not, beq_iff_eq, beq_eq_false_iff_ne, bne_iff_ne, bne_eq_false_iff_eq, Bool.not_eq_true', Bool.not_eq_false', Int.not_lt, Int.not_le, Nat.not_lt, Nat.not_le, ne_eq, Bool.not_true, Bool.not_false, Bool.not_not, Bool.true_eq_false, Bool.false_eq_true, not_false_eq_true, not_true_eq_false, Decidable.not_not] at hc)) | ((with_reducible show guardC _ _ _ _ _ _ _ _); refine guard_at (fun hc => ?_) (fun hc => ?_) <;> (try simp only [hc]) <;> (try simp only [decide_eq_true_eq, decide_eq_false_iff_not, beq_iff_eq, beq_eq_false_iff_ne, bne_iff_ne, bne_eq_false_iff_eq, Bool.not_eq_true', Bool.not_eq_false', Int.not_lt, Int.not_le, Nat.not_lt, Nat.not_le, ne_eq, Bool.not_true, Bool.not_false, Bool.not_not, Bool.true_eq_false, Bool.false_eq_true, not_false_eq_true, not_true_eq_false, Decidable.not_not] at hc)) | ((with_reducible show drwG _ _ _ _ _ _ _ _ _ _); refine drw_at (fun hc => ?_) (fun hc => ?_) <;> (try simp only [hc]) <;> (try simp only [decide_eq_true_eq, decide_eq_false_iff_not, beq_iff_eq, beq_eq_false_iff_ne, bne_iff_ne, bne_eq_false_iff_eq, Bool.not_eq_true', Bool.not_eq_false', Int.not_lt, Int.not_le, Nat.not_lt, Nat.not_le, ne_eq, Bool.not_true, Bool.not_false, Bool.not_not, Bool.true_eq_false, Bool.false_eq_true, not_false_eq_true, not_true_eq_false, Decidable.not_not] at hc)) | (with_reducible refine chk_at (by kernel_rfl) ?_)))
  all_goals (refine ret_at [] _ (by first | exact retV_one _ _ _ | exact retV_two _ _ _ _ | exact retV_three _ _ _ _ _ | exact retV_four _ _ _ _ _ _) (by decide) (by simp only [pgs, pgl, pgx, pgw, decide_true, decide_false, Nat.reduceEqDiff, reduceIte, Nat.reduceAdd, Nat.reduceSub, Nat.reduceMul, Nat.reduceBEq, Nat.max_def, Nat.reduceLeDiff, Int.reduceToNat, Int.reduceLT, Int.reduceLE, Int.reduceEq, Int.reduceNe, Nat.reduceLT, Bool.not_eq_true, Int.toNat_natCast, Int.reduceNeg, Int.reduceSub, Int.reduceAdd, Int.reduceMul, Int.natCast_add, Int.cast_ofNat_Int, eq_self, and_self, Option.some.injEq, not_true_eq_false, not_false_eq_true, List.getElem?_nil, Nat.reduceLeDiff, Nat.le_refl, Int.reduceBEq, Int.reduceBNe, if_true, if_false, ite_true, ite_false, Nat.add_zero, Nat.zero_add, ↓reduceIte]) ?_; (first | rfl | (simp only [pgs, pgl, pgx, pgw, decide_true, decide_false, Nat.reduceEqDiff, reduceIte, Nat.reduceAdd, Nat.reduceSub, Nat.reduceMul, Nat.reduceBEq, Nat.max_def, Nat.reduceLeDiff, Int.reduceToNat, Int.reduceLT, Int.reduceLE, Int.reduceEq, Int.reduceNe, Nat.reduceLT, Bool.not_eq_true, Int.toNat_natCast, Int.reduceNeg, Int.reduceSub, Int.reduceAdd, Int.reduceMul, Int.natCast_add, Int.cast_ofNat_Int, eq_self, and_self, Option.some.injEq, not_true_eq_false, not_false_eq_true, List.getElem?_nil, Nat.reduceLeDiff, Nat.le_refl, Int.reduceBEq, Int.reduceBNe, if_true, if_false, ite_true, ite_false, Nat.add_zero, Nat.zero_add, ↓reduceIte]; done) | (simp only [pgs, pgl, pgx, pgw, decide_true, decide_false, Nat.reduceEqDiff, reduceIte, Nat.reduceAdd, Nat.reduceSub, Nat.reduceMul, Nat.reduceBEq, Nat.max_def, Nat.reduceLeDiff, Int.reduceToNat, Int.reduceLT, Int.reduceLE, Int.reduceEq, Int.reduceNe, Nat.reduceLT, Bool.not_eq_true, Int.toNat_natCast, Int.reduceNeg, Int.reduceSub, Int.reduceAdd, Int.reduceMul, Int.natCast_add, Int.cast_ofNat_Int, eq_self, and_self, Option.some.injEq, not_true_eq_false, not_false_eq_true, List.getElem?_nil, Nat.reduceLeDiff, Nat.le_refl, Int.reduceBEq, Int.reduceBNe, if_true, if_false, ite_true, ite_false, Nat.add_zero, Nat.zero_add, ↓reduceIte])))
  all_goals simp [*]
end Go.Proofs.YtkgebocldjhflaaDoor
end

section
/-
  Names: the laws NamesKeys, NamesBack, NamesInts, of any arguments (strings of at most 2^47 octets).
-/
namespace Go.Proofs.YtkgebocldjhflaaDoor
open Go Go.Pg
set_option maxRecDepth 100000
set_option linter.unusedSimpArgs false

theorem good3 (l : List Nat) (ho : oct l) (hl : l.length ≤ 140737488355328) (n : Int) : Pg.Good Tryd.prog 3 [.c (.string (sB l)), .c (.int .i64 n)] (.c (.bool true)) := by
  refine good_intro (drawW_ok mix) Tryd.func3 rfl Tryd.results3 rfl (by kernel_rfl) (Nat.le_of_ble_eq_true (by kernel_rfl)) ?_
  have a1 := good11 l ho
  have a2 := good12 l ho
  have a3 := good13 l ho hl
  have a4 := good14 l ho hl
  have hk := keyB_ok n
  have a5 := good11 (keyB n) hk.1
  have a6 := good12 (keyB n) hk.1
  unfold fkV at a1 a2 a5 a6
  unfold pkV at a3 a4
  (repeat' (first | (simp (disch := first | assumption | omega | (simp only [Fits, maxLen, bv_len, sv_len, List.length_append, List.length_cons, List.length_nil, List.length_map, sB_size] at *; omega)) only [pgs, pgl, pgx, pgw, pgb, tyf, buildSliceV_w, decide_true, decide_false, Nat.reduceEqDiff, reduceIte, Nat.reduceAdd, Nat.reduceSub, Nat.reduceMul, Nat.reduceBEq, Nat.max_def, Nat.reduceLeDiff, Int.reduceToNat, Int.reduceLT, Int.reduceLE, Int.reduceEq, Int.reduceNe, Nat.reduceLT, Bool.not_eq_true, Int.toNat_natCast, Int.reduceNeg, Int.reduceSub, Int.reduceAdd, Int.reduceMul, Int.natCast_add, Int.cast_ofNat_Int, eq_self, and_self, Option.some.injEq, not_true_eq_false, not_false_eq_true, List.getElem?_nil, Nat.reduceLeDiff, Nat.le_refl, Int.reduceBEq, Int.reduceBNe, if_true, if_false, ite_true, ite_false, Nat.add_zero, Nat.zero_add, ↓reduceIte, Tryd.f3, beq_selfI]) | ((with_reducible show callW _ _ _ _ _ _); first | refine callW_use _ (good9) rfl rfl rfl rfl ?_ | refine callW_use _ (good10 n) rfl rfl rfl rfl ?_ | refine callW_use _ (a1) rfl rfl rfl rfl ?_ | refine callW_use _ (a2) rfl rfl rfl rfl ?_ | refine callW_use _ (a3) rfl rfl rfl rfl ?_ | refine callW_use _ (a4) rfl rfl rfl rfl ?_ | refine callW_use _ (a5) rfl rfl rfl rfl ?_ | refine callW_use _ (a6) rfl rfl rfl rfl ?_) | ((with_reducible show condC _ _ _ _ _ _ _); refine cond_at (fun hc => ?_) (fun hc => ?_) <;> (try simp only [hc]) <;> (try simp only [decide_eq_true_eq, decide_eq_false_iff_not, beq_iff_eq, beq_eq_false_iff_ne, bne_iff_ne, bne_eq_false_iff_eq, Bool.not_eq_true', Bool.not_eq_false', Int.not_lt, Int.not_le, Nat.not_lt, Nat.not_le, ne_eq, Bool.not_true, Bool.not_false, Bool.not_not, Bool.true_eq_false, Bool.false_eq_true, not_false_eq_true, not_true_eq_false, Decidable.not_not] at hc)) | ((with_reducible show guardC _ _ _ _ _ _ _ _); refine guard_at (fun hc => ?_) (fun hc => ?_) <;> (try simp only [hc]) <;> (try simp only [decide_eq_true_eq, decide_eq_false_iff_not, beq_iff_eq, beq_eq_false_iff_ne, bne_iff_ne, bne_eq_false_iff_eq, Bool.not_eq_true', Bool.not_eq_false', Int.not_lt, Int.not_le, Nat.not_lt, Nat.not_le, ne_eq, Bool.not_true, Bool.not_false, Bool.not_not, Bool.true_eq_false, Bool.false_eq_true, not_false_eq_true, not_true_eq_false, Decidable.not_not] at hc)) | ((with_reducible show drwG _ _ _ _ _ _ _ _ _ _); refine drw_at (fun hc => ?_) (fun hc => ?_) <;> (try simp only [hc]) <;> (try simp only [decide_eq_true_eq, decide_eq_false_iff_not, beq_iff_eq, beq_eq_false_iff_ne, bne_iff_ne, bne_eq_false_iff_eq, Bool.not_eq_true', Bool.not_eq_false', Int.not_lt, Int.not_le, Nat.not_lt, Nat.not_le, ne_eq, Bool.not_true, Bool.not_false, Bool.not_not, Bool.true_eq_false, Bool.false_eq_true, not_false_eq_true, not_true_eq_false, Decidable.not_not] at hc)) | (with_reducible refine chk_at (by kernel_rfl) ?_)))
  all_goals (refine ret_at [] _ (by first | exact retV_one _ _ _ | exact retV_two _ _ _ _ | exact retV_three _ _ _ _ _ | exact retV_four _ _ _ _ _ _) (by decide) (by simp only [pgs, pgl, pgx, pgw, decide_true, decide_false, Nat.reduceEqDiff, reduceIte, Nat.reduceAdd, Nat.reduceSub, Nat.reduceMul, Nat.reduceBEq, Nat.max_def, Nat.reduceLeDiff, Int.reduceToNat, Int.reduceLT, Int.reduceLE, Int.reduceEq, Int.reduceNe, Nat.reduceLT, Bool.not_eq_true, Int.toNat_natCast, Int.reduceNeg, Int.reduceSub, Int.reduceAdd, Int.reduceMul, Int.natCast_add, Int.cast_ofNat_Int, eq_self, and_self, Option.some.injEq, not_true_eq_false, not_false_eq_true, List.getElem?_nil, Nat.reduceLeDiff, Nat.le_refl, Int.reduceBEq, Int.reduceBNe, if_true, if_false, ite_true, ite_false, Nat.add_zero, Nat.zero_add, ↓reduceIte]) ?_; (first | rfl | (simp only [pgs, pgl, pgx, pgw, decide_true, decide_false, Nat.reduceEqDiff, reduceIte, Nat.reduceAdd, Nat.reduceSub, Nat.reduceMul, Nat.reduceBEq, Nat.max_def, Nat.reduceLeDiff, Int.reduceToNat, Int.reduceLT, Int.reduceLE, Int.reduceEq, Int.reduceNe, Nat.reduceLT, Bool.not_eq_true, Int.toNat_natCast, Int.reduceNeg, Int.reduceSub, Int.reduceAdd, Int.reduceMul, Int.natCast_add, Int.cast_ofNat_Int, eq_self, and_self, Option.some.injEq, not_true_eq_false, not_false_eq_true, List.getElem?_nil, Nat.reduceLeDiff, Nat.le_refl, Int.reduceBEq, Int.reduceBNe, if_true, if_false, ite_true, ite_false, Nat.add_zero, Nat.zero_add, ↓reduceIte]; done) | (simp only [pgs, pgl, pgx, pgw, decide_true, decide_false, Nat.reduceEqDiff, reduceIte, Nat.reduceAdd, Nat.reduceSub, Nat.reduceMul, Nat.reduceBEq, Nat.max_def, Nat.reduceLeDiff, Int.reduceToNat, Int.reduceLT, Int.reduceLE, Int.reduceEq, Int.reduceNe, Nat.reduceLT, Bool.not_eq_true, Int.toNat_natCast, Int.reduceNeg, Int.reduceSub, Int.reduceAdd, Int.reduceMul, Int.natCast_add, Int.cast_ofNat_Int, eq_self, and_self, Option.some.injEq, not_true_eq_false, not_false_eq_true, List.getElem?_nil, Nat.reduceLeDiff, Nat.le_refl, Int.reduceBEq, Int.reduceBNe, if_true, if_false, ite_true, ite_false, Nat.add_zero, Nat.zero_add, ↓reduceIte])))

theorem nib_hx : ∀ d, d < 16 → nib (hx d) = d := by decide
theorem rt_at (l : List Nat) (ho : oct l) (t : Nat) (ht : t < l.length) : (hexL l).getD (2 * t) 0 = hx (l.getD t 0 / 16) ∧ (hexL l).getD (2 * t + 1) 0 = hx (l.getD t 0 % 16) := by
  induction l generalizing t with
  | nil => simp at ht
  | cons a l ih =>
    have e : hexL (a :: l) = hx (a / 16) :: hx (a % 16) :: hexL l := by simp [hexL]
    rw [e]
    cases t with
    | zero => exact ⟨rfl, rfl⟩
    | succ t =>
      have := ih (fun x hx => ho x (by simp [hx])) t (by simpa using ht)
      simpa [List.getD, Nat.mul_add] using this
theorem rt (l : List Nat) (ho : oct l) : okB (hexL l) l.length = true ∧ prs (hexL l) l.length = l := by
  have h1 : ∀ t, t < l.length → okP (hexL l) t = true ∧ prB (hexL l) t = l.getD t 0 := by
    intro t ht
    have h2 := rt_at l ho t ht
    have h3 := getD_lt ho t
    unfold okP prB
    rw [h2.1, h2.2, nib_hx _ (by omega), nib_hx _ (by omega)]
    refine ⟨by simp; omega, by omega⟩
  constructor
  · rw [okB, List.all_eq_true]
    intro t ht
    exact (h1 t (List.mem_range.1 ht)).1
  · apply List.ext_getElem?
    intro i
    rcases Nat.lt_or_ge i l.length with hi | hi
    · have := (h1 i hi).2
      simp only [prs, List.getElem?_map, List.getElem?_range hi, Option.map_some, this, List.getD, List.getElem?_eq_getElem hi, Option.getD_some]
    · rw [List.getElem?_eq_none (by rw [prs_len]; omega), List.getElem?_eq_none hi]
theorem fk_pk {l : List Nat} (ho : oct l) (h : (fk l).2 = 0) : pk (fk l).1 = (l, 0) := by
  rw [← pkP_eq _ (fk_oct ho)]
  have hfk : fk l = ((fk l).1, 0) := by rw [← h]
  unfold fk at h
  cases h1 : isKey l
  · rw [h1] at h; simp at h
  · cases h2 : plain l
    · have e : (fk l).1 = 37 :: hexL l := by unfold fk; rw [h1, h2]; rfl
      rw [e] at hfk ⊢
      unfold pkP keyOf
      have hp : hasP (37 :: hexL l) [37] = true := (pct _).2 ⟨by simp, rfl⟩
      have hd : (37 :: hexL l).drop 1 = hexL l := rfl
      have hlen := hexL_len l
      have hr := rt l ho
      rw [hp, if_pos rfl, hd, if_neg (by omega), show (hexL l).length / 2 = l.length by omega, hr.1, if_pos rfl, hr.2]
      simp only
      rw [hfk, if_neg (by simp)]
    · have e : (fk l).1 = l := by unfold fk; rw [h1, h2]; rfl
      rw [e] at hfk ⊢
      unfold pkP keyOf
      rw [plain_pct l h2, if_neg (by simp)]
      simp only
      rw [hfk, if_neg (by simp)]
theorem fk_len (l : List Nat) : (fk l).1.length ≤ 65 := by
  unfold fk
  cases h1 : isKey l
  · simp
  · have := key_len h1
    have := hexL_len l
    cases h2 : plain l <;> simp <;> omega
theorem fk_key (l : List Nat) : ((fk l).2 = 0 ∧ isKey l = true) ∨ ((fk l).2 = 7 ∧ isKey l = false) := by
  unfold fk
  cases h1 : isKey l
  · exact .inr ⟨rfl, rfl⟩
  · cases h2 : plain l <;> exact .inl ⟨rfl, rfl⟩
theorem pk_fk {m : List Nat} (ho : oct m) : ((pk m).2 = 0 ∧ fk (pk m).1 = (m, 0)) ∨ (pk m).2 = 1 := by
  rw [← pkP_eq m ho]
  unfold pkP
  cases h : keyOf m with
  | none => exact .inr rfl
  | some k =>
    simp only
    by_cases h1 : (fk k).2 ≠ 0 ∨ (fk k).1 ≠ m
    · rw [if_pos h1]; exact .inr rfl
    · rw [if_neg h1]
      have h2 : (fk k).2 = 0 := by
        rcases Nat.eq_zero_or_pos (fk k).2 with h2 | h2
        · exact h2
        · exact absurd (.inl (by omega)) h1
      have h3 : (fk k).1 = m := Classical.byContradiction fun h3 => h1 (.inr h3)
      exact .inl ⟨rfl, by rw [← h2, ← h3]⟩
theorem pk_oct {m : List Nat} (ho : oct m) (hl : m.length ≤ 140737488355328) : oct (pk m).1 := by
  rw [← pkP_eq m ho]
  unfold pkP
  cases h : keyOf m with
  | none => exact oct_nil
  | some k =>
    simp only
    split
    · exact oct_nil
    · exact (keyOf_oct ho hl h).1
theorem beqB_tt : (true == true) = true := rfl
theorem beqB_ff : (false == false) = true := rfl
theorem good4 (l m : List Nat) (ho : oct l) (hm : oct m) : Pg.Good Tryd.prog 4 [.c (.string (sB l)), .c (.string (sB m))] (.c (.bool true)) := by
  refine good_intro (drawW_ok mix) Tryd.func4 rfl Tryd.results4 rfl (by kernel_rfl) (Nat.le_of_ble_eq_true (by kernel_rfl)) ?_
  have a1 := good11 l ho
  have a2 := good13 (fk l).1 (fk_oct ho) (by have := fk_len l; omega)
  have a5 := good15 l
  unfold fkV at a1
  unfold pkV at a2
  (repeat' (first | (simp (disch := first | assumption | omega | (simp only [Fits, maxLen, bv_len, sv_len, List.length_append, List.length_cons, List.length_nil, List.length_map, sB_size] at *; omega)) only [pgs, pgl, pgx, pgw, pgb, tyf, buildSliceV_w, decide_true, decide_false, Nat.reduceEqDiff, reduceIte, Nat.reduceAdd, Nat.reduceSub, Nat.reduceMul, Nat.reduceBEq, Nat.max_def, Nat.reduceLeDiff, Int.reduceToNat, Int.reduceLT, Int.reduceLE, Int.reduceEq, Int.reduceNe, Nat.reduceLT, Bool.not_eq_true, Int.toNat_natCast, Int.reduceNeg, Int.reduceSub, Int.reduceAdd, Int.reduceMul, Int.natCast_add, Int.cast_ofNat_Int, eq_self, and_self, Option.some.injEq, not_true_eq_false, not_false_eq_true, List.getElem?_nil, Nat.reduceLeDiff, Nat.le_refl, Int.reduceBEq, Int.reduceBNe, if_true, if_false, ite_true, ite_false, Nat.add_zero, Nat.zero_add, ↓reduceIte, Tryd.f4]) | ((with_reducible show callW _ _ _ _ _ _); first | refine callW_use _ (good9) rfl rfl rfl rfl ?_) | ((with_reducible show condC _ _ _ _ _ _ _); refine cond_at (fun hc => ?_) (fun hc => ?_) <;> (try simp only [hc]) <;> (try simp only [decide_eq_true_eq, decide_eq_false_iff_not, beq_iff_eq, beq_eq_false_iff_ne, bne_iff_ne, bne_eq_false_iff_eq, Bool.not_eq_true', Bool.not_eq_false', Int.not_lt, Int.not_le, Nat.not_lt, Nat.not_le, ne_eq, Bool.not_true, Bool.not_false, Bool.not_not, Bool.true_eq_false, Bool.false_eq_true, not_false_eq_true, not_true_eq_false, Decidable.not_not] at hc)) | ((with_reducible show guardC _ _ _ _ _ _ _ _); refine guard_at (fun hc => ?_) (fun hc => ?_) <;> (try simp only [hc]) <;> (try simp only [decide_eq_true_eq, decide_eq_false_iff_not, beq_iff_eq, beq_eq_false_iff_ne, bne_iff_ne, bne_eq_false_iff_eq, Bool.not_eq_true', Bool.not_eq_false', Int.not_lt, Int.not_le, Nat.not_lt, Nat.not_le, ne_eq, Bool.not_true, Bool.not_false, Bool.not_not, Bool.true_eq_false, Bool.false_eq_true, not_false_eq_true, not_true_eq_false, Decidable.not_not] at hc)) | ((with_reducible show drwG _ _ _ _ _ _ _ _ _ _); refine drw_at (fun hc => ?_) (fun hc => ?_) <;> (try simp only [hc]) <;> (try simp only [decide_eq_true_eq, decide_eq_false_iff_not, beq_iff_eq, beq_eq_false_iff_ne, bne_iff_ne, bne_eq_false_iff_eq, Bool.not_eq_true', Bool.not_eq_false', Int.not_lt, Int.not_le, Nat.not_lt, Nat.not_le, ne_eq, Bool.not_true, Bool.not_false, Bool.not_not, Bool.true_eq_false, Bool.false_eq_true, not_false_eq_true, not_true_eq_false, Decidable.not_not] at hc)) | (with_reducible refine chk_at (by kernel_rfl) ?_)))
  all_goals (try (refine ret_at [] _ (by first | exact retV_one _ _ _ | exact retV_two _ _ _ _ | exact retV_three _ _ _ _ _ | exact retV_four _ _ _ _ _ _) (by decide) (by simp only [pgs, pgl, pgx, pgw, decide_true, decide_false, Nat.reduceEqDiff, reduceIte, Nat.reduceAdd, Nat.reduceSub, Nat.reduceMul, Nat.reduceBEq, Nat.max_def, Nat.reduceLeDiff, Int.reduceToNat, Int.reduceLT, Int.reduceLE, Int.reduceEq, Int.reduceNe, Nat.reduceLT, Bool.not_eq_true, Int.toNat_natCast, Int.reduceNeg, Int.reduceSub, Int.reduceAdd, Int.reduceMul, Int.natCast_add, Int.cast_ofNat_Int, eq_self, and_self, Option.some.injEq, not_true_eq_false, not_false_eq_true, List.getElem?_nil, Nat.reduceLeDiff, Nat.le_refl, Int.reduceBEq, Int.reduceBNe, if_true, if_false, ite_true, ite_false, Nat.add_zero, Nat.zero_add, ↓reduceIte]) ?_; (first | rfl | (simp only [pgs, pgl, pgx, pgw, decide_true, decide_false, Nat.reduceEqDiff, reduceIte, Nat.reduceAdd, Nat.reduceSub, Nat.reduceMul, Nat.reduceBEq, Nat.max_def, Nat.reduceLeDiff, Int.reduceToNat, Int.reduceLT, Int.reduceLE, Int.reduceEq, Int.reduceNe, Nat.reduceLT, Bool.not_eq_true, Int.toNat_natCast, Int.reduceNeg, Int.reduceSub, Int.reduceAdd, Int.reduceMul, Int.natCast_add, Int.cast_ofNat_Int, eq_self, and_self, Option.some.injEq, not_true_eq_false, not_false_eq_true, List.getElem?_nil, Nat.reduceLeDiff, Nat.le_refl, Int.reduceBEq, Int.reduceBNe, if_true, if_false, ite_true, ite_false, Nat.add_zero, Nat.zero_add, ↓reduceIte]; done) | (simp only [pgs, pgl, pgx, pgw, decide_true, decide_false, Nat.reduceEqDiff, reduceIte, Nat.reduceAdd, Nat.reduceSub, Nat.reduceMul, Nat.reduceBEq, Nat.max_def, Nat.reduceLeDiff, Int.reduceToNat, Int.reduceLT, Int.reduceLE, Int.reduceEq, Int.reduceNe, Nat.reduceLT, Bool.not_eq_true, Int.toNat_natCast, Int.reduceNeg, Int.reduceSub, Int.reduceAdd, Int.reduceMul, Int.natCast_add, Int.cast_ofNat_Int, eq_self, and_self, Option.some.injEq, not_true_eq_false, not_false_eq_true, List.getElem?_nil, Nat.reduceLeDiff, Nat.le_refl, Int.reduceBEq, Int.reduceBNe, if_true, if_false, ite_true, ite_false, Nat.add_zero, Nat.zero_add, ↓reduceIte]))))
  have hl2 : l.length ≤ 200 ∧ m.length ≤ 200 := by omega
  have a3 := good13 m hm (by omega)
  have a4 := good11 (pk m).1 (pk_oct hm (by omega))
  unfold pkV at a3
  unfold fkV at a4
  rcases fk_key l with ⟨h1, h2⟩ | ⟨h1, h2⟩
  · rw [fk_pk ho h1] at a2
    rw [h1] at a1
    rw [h2] at a5
    rcases pk_fk hm with ⟨h3, h4⟩ | h3
    · rw [h3] at a3
      rw [h4] at a4
      (repeat' (first | (simp (disch := first | assumption | omega | (simp only [Fits, maxLen, bv_len, sv_len, List.length_append, List.length_cons, List.length_nil, List.length_map, sB_size] at *; omega)) only [pgs, pgl, pgx, pgw, pgb, tyf, buildSliceV_w, decide_true, decide_false, Nat.reduceEqDiff, reduceIte, Nat.reduceAdd, Nat.reduceSub, Nat.reduceMul, Nat.reduceBEq, Nat.max_def, Nat.reduceLeDiff, Int.reduceToNat, Int.reduceLT, Int.reduceLE, Int.reduceEq, Int.reduceNe, Nat.reduceLT, Bool.not_eq_true, Int.toNat_natCast, Int.reduceNeg, Int.reduceSub, Int.reduceAdd, Int.reduceMul, Int.natCast_add, Int.cast_ofNat_Int, eq_self, and_self, Option.some.injEq, not_true_eq_false, not_false_eq_true, List.getElem?_nil, Nat.reduceLeDiff, Nat.le_refl, Int.reduceBEq, Int.reduceBNe, if_true, if_false, ite_true, ite_false, Nat.add_zero, Nat.zero_add, ↓reduceIte, beqB_tt, ib4]) | ((with_reducible show callW _ _ _ _ _ _); first | refine callW_use _ (good9) rfl rfl rfl rfl ?_ | refine callW_use _ (a1) rfl rfl rfl rfl ?_ | refine callW_use _ (a2) rfl rfl rfl rfl ?_ | refine callW_use _ (a3) rfl rfl rfl rfl ?_ | refine callW_use _ (a4) rfl rfl rfl rfl ?_ | refine callW_use _ (a5) rfl rfl rfl rfl ?_) | ((with_reducible show condC _ _ _ _ _ _ _); refine cond_at (fun hc => ?_) (fun hc => ?_) <;> (try simp only [hc]) <;> (try simp only [decide_eq_true_eq, decide_eq_false_iff_not, beq_iff_eq, beq_eq_false_iff_ne, bne_iff_ne, bne_eq_false_iff_eq, Bool.not_eq_true', Bool.not_eq_false', Int.not_lt, Int.not_le, Nat.not_lt, Nat.not_le, ne_eq, Bool.not_true, Bool.not_false, Bool.not_not, Bool.true_eq_false, Bool.false_eq_true, not_false_eq_true, not_true_eq_false, Decidable.not_not] at hc)) | ((with_reducible show guardC _ _ _ _ _ _ _ _); refine guard_at (fun hc => ?_) (fun hc => ?_) <;> (try simp only [hc]) <;> (try simp only [decide_eq_true_eq, decide_eq_false_iff_not, beq_iff_eq, beq_eq_false_iff_ne, bne_iff_ne, bne_eq_false_iff_eq, Bool.not_eq_true', Bool.not_eq_false', Int.not_lt, Int.not_le, Nat.not_lt, Nat.not_le, ne_eq, Bool.not_true, Bool.not_false, Bool.not_not, Bool.true_eq_false, Bool.false_eq_true, not_false_eq_true, not_true_eq_false, Decidable.not_not] at hc)) | ((with_reducible show drwG _ _ _ _ _ _ _ _ _ _); refine drw_at (fun hc => ?_) (fun hc => ?_) <;> (try simp only [hc]) <;> (try simp only [decide_eq_true_eq, decide_eq_false_iff_not, beq_iff_eq, beq_eq_false_iff_ne, bne_iff_ne, bne_eq_false_iff_eq, Bool.not_eq_true', Bool.not_eq_false', Int.not_lt, Int.not_le, Nat.not_lt, Nat.not_le, ne_eq, Bool.not_true, Bool.not_false, Bool.not_not, Bool.true_eq_false, Bool.false_eq_true, not_false_eq_true, not_true_eq_false, Decidable.not_not] at hc)) | (with_reducible refine chk_at (by kernel_rfl) ?_)))
      (refine ret_at [] _ (by first | exact retV_one _ _ _ | exact retV_two _ _ _ _ | exact retV_three _ _ _ _ _ | exact retV_four _ _ _ _ _ _) (by decide) (by simp only [pgs, pgl, pgx, pgw, decide_true, decide_false, Nat.reduceEqDiff, reduceIte, Nat.reduceAdd, Nat.reduceSub, Nat.reduceMul, Nat.reduceBEq, Nat.max_def, Nat.reduceLeDiff, Int.reduceToNat, Int.reduceLT, Int.reduceLE, Int.reduceEq, Int.reduceNe, Nat.reduceLT, Bool.not_eq_true, Int.toNat_natCast, Int.reduceNeg, Int.reduceSub, Int.reduceAdd, Int.reduceMul, Int.natCast_add, Int.cast_ofNat_Int, eq_self, and_self, Option.some.injEq, not_true_eq_false, not_false_eq_true, List.getElem?_nil, Nat.reduceLeDiff, Nat.le_refl, Int.reduceBEq, Int.reduceBNe, if_true, if_false, ite_true, ite_false, Nat.add_zero, Nat.zero_add, ↓reduceIte]) ?_; (first | rfl | (simp only [pgs, pgl, pgx, pgw, decide_true, decide_false, Nat.reduceEqDiff, reduceIte, Nat.reduceAdd, Nat.reduceSub, Nat.reduceMul, Nat.reduceBEq, Nat.max_def, Nat.reduceLeDiff, Int.reduceToNat, Int.reduceLT, Int.reduceLE, Int.reduceEq, Int.reduceNe, Nat.reduceLT, Bool.not_eq_true, Int.toNat_natCast, Int.reduceNeg, Int.reduceSub, Int.reduceAdd, Int.reduceMul, Int.natCast_add, Int.cast_ofNat_Int, eq_self, and_self, Option.some.injEq, not_true_eq_false, not_false_eq_true, List.getElem?_nil, Nat.reduceLeDiff, Nat.le_refl, Int.reduceBEq, Int.reduceBNe, if_true, if_false, ite_true, ite_false, Nat.add_zero, Nat.zero_add, ↓reduceIte]; done) | (simp only [pgs, pgl, pgx, pgw, decide_true, decide_false, Nat.reduceEqDiff, reduceIte, Nat.reduceAdd, Nat.reduceSub, Nat.reduceMul, Nat.reduceBEq, Nat.max_def, Nat.reduceLeDiff, Int.reduceToNat, Int.reduceLT, Int.reduceLE, Int.reduceEq, Int.reduceNe, Nat.reduceLT, Bool.not_eq_true, Int.toNat_natCast, Int.reduceNeg, Int.reduceSub, Int.reduceAdd, Int.reduceMul, Int.natCast_add, Int.cast_ofNat_Int, eq_self, and_self, Option.some.injEq, not_true_eq_false, not_false_eq_true, List.getElem?_nil, Nat.reduceLeDiff, Nat.le_refl, Int.reduceBEq, Int.reduceBNe, if_true, if_false, ite_true, ite_false, Nat.add_zero, Nat.zero_add, ↓reduceIte])))
    · rw [h3] at a3
      (repeat' (first | (simp (disch := first | assumption | omega | (simp only [Fits, maxLen, bv_len, sv_len, List.length_append, List.length_cons, List.length_nil, List.length_map, sB_size] at *; omega)) only [pgs, pgl, pgx, pgw, pgb, tyf, buildSliceV_w, decide_true, decide_false, Nat.reduceEqDiff, reduceIte, Nat.reduceAdd, Nat.reduceSub, Nat.reduceMul, Nat.reduceBEq, Nat.max_def, Nat.reduceLeDiff, Int.reduceToNat, Int.reduceLT, Int.reduceLE, Int.reduceEq, Int.reduceNe, Nat.reduceLT, Bool.not_eq_true, Int.toNat_natCast, Int.reduceNeg, Int.reduceSub, Int.reduceAdd, Int.reduceMul, Int.natCast_add, Int.cast_ofNat_Int, eq_self, and_self, Option.some.injEq, not_true_eq_false, not_false_eq_true, List.getElem?_nil, Nat.reduceLeDiff, Nat.le_refl, Int.reduceBEq, Int.reduceBNe, if_true, if_false, ite_true, ite_false, Nat.add_zero, Nat.zero_add, ↓reduceIte, beqB_tt, ib4]) | ((with_reducible show callW _ _ _ _ _ _); first | refine callW_use _ (good9) rfl rfl rfl rfl ?_ | refine callW_use _ (a1) rfl rfl rfl rfl ?_ | refine callW_use _ (a2) rfl rfl rfl rfl ?_ | refine callW_use _ (a3) rfl rfl rfl rfl ?_ | refine callW_use _ (a5) rfl rfl rfl rfl ?_) | ((with_reducible show condC _ _ _ _ _ _ _); refine cond_at (fun hc => ?_) (fun hc => ?_) <;> (try simp only [hc]) <;> (try simp only [decide_eq_true_eq, decide_eq_false_iff_not, beq_iff_eq, beq_eq_false_iff_ne, bne_iff_ne, bne_eq_false_iff_eq, Bool.not_eq_true', Bool.not_eq_false', Int.not_lt, Int.not_le, Nat.not_lt, Nat.not_le, ne_eq, Bool.not_true, Bool.not_false, Bool.not_not, Bool.true_eq_false, Bool.false_eq_true, not_false_eq_true, not_true_eq_false, Decidable.not_not] at hc)) | ((with_reducible show guardC _ _ _ _ _ _ _ _); refine guard_at (fun hc => ?_) (fun hc => ?_) <;> (try simp only [hc]) <;> (try simp only [decide_eq_true_eq, decide_eq_false_iff_not, beq_iff_eq, beq_eq_false_iff_ne, bne_iff_ne, bne_eq_false_iff_eq, Bool.not_eq_true', Bool.not_eq_false', Int.not_lt, Int.not_le, Nat.not_lt, Nat.not_le, ne_eq, Bool.not_true, Bool.not_false, Bool.not_not, Bool.true_eq_false, Bool.false_eq_true, not_false_eq_true, not_true_eq_false, Decidable.not_not] at hc)) | ((with_reducible show drwG _ _ _ _ _ _ _ _ _ _); refine drw_at (fun hc => ?_) (fun hc => ?_) <;> (try simp only [hc]) <;> (try simp only [decide_eq_true_eq, decide_eq_false_iff_not, beq_iff_eq, beq_eq_false_iff_ne, bne_iff_ne, bne_eq_false_iff_eq, Bool.not_eq_true', Bool.not_eq_false', Int.not_lt, Int.not_le, Nat.not_lt, Nat.not_le, ne_eq, Bool.not_true, Bool.not_false, Bool.not_not, Bool.true_eq_false, Bool.false_eq_true, not_false_eq_true, not_true_eq_false, Decidable.not_not] at hc)) | (with_reducible refine chk_at (by kernel_rfl) ?_)))
      (refine ret_at [] _ (by first | exact retV_one _ _ _ | exact retV_two _ _ _ _ | exact retV_three _ _ _ _ _ | exact retV_four _ _ _ _ _ _) (by decide) (by simp only [pgs, pgl, pgx, pgw, decide_true, decide_false, Nat.reduceEqDiff, reduceIte, Nat.reduceAdd, Nat.reduceSub, Nat.reduceMul, Nat.reduceBEq, Nat.max_def, Nat.reduceLeDiff, Int.reduceToNat, Int.reduceLT, Int.reduceLE, Int.reduceEq, Int.reduceNe, Nat.reduceLT, Bool.not_eq_true, Int.toNat_natCast, Int.reduceNeg, Int.reduceSub, Int.reduceAdd, Int.reduceMul, Int.natCast_add, Int.cast_ofNat_Int, eq_self, and_self, Option.some.injEq, not_true_eq_false, not_false_eq_true, List.getElem?_nil, Nat.reduceLeDiff, Nat.le_refl, Int.reduceBEq, Int.reduceBNe, if_true, if_false, ite_true, ite_false, Nat.add_zero, Nat.zero_add, ↓reduceIte]) ?_; (first | rfl | (simp only [pgs, pgl, pgx, pgw, decide_true, decide_false, Nat.reduceEqDiff, reduceIte, Nat.reduceAdd, Nat.reduceSub, Nat.reduceMul, Nat.reduceBEq, Nat.max_def, Nat.reduceLeDiff, Int.reduceToNat, Int.reduceLT, Int.reduceLE, Int.reduceEq, Int.reduceNe, Nat.reduceLT, Bool.not_eq_true, Int.toNat_natCast, Int.reduceNeg, Int.reduceSub, Int.reduceAdd, Int.reduceMul, Int.natCast_add, Int.cast_ofNat_Int, eq_self, and_self, Option.some.injEq, not_true_eq_false, not_false_eq_true, List.getElem?_nil, Nat.reduceLeDiff, Nat.le_refl, Int.reduceBEq, Int.reduceBNe, if_true, if_false, ite_true, ite_false, Nat.add_zero, Nat.zero_add, ↓reduceIte]; done) | (simp only [pgs, pgl, pgx, pgw, decide_true, decide_false, Nat.reduceEqDiff, reduceIte, Nat.reduceAdd, Nat.reduceSub, Nat.reduceMul, Nat.reduceBEq, Nat.max_def, Nat.reduceLeDiff, Int.reduceToNat, Int.reduceLT, Int.reduceLE, Int.reduceEq, Int.reduceNe, Nat.reduceLT, Bool.not_eq_true, Int.toNat_natCast, Int.reduceNeg, Int.reduceSub, Int.reduceAdd, Int.reduceMul, Int.natCast_add, Int.cast_ofNat_Int, eq_self, and_self, Option.some.injEq, not_true_eq_false, not_false_eq_true, List.getElem?_nil, Nat.reduceLeDiff, Nat.le_refl, Int.reduceBEq, Int.reduceBNe, if_true, if_false, ite_true, ite_false, Nat.add_zero, Nat.zero_add, ↓reduceIte])))
  · rw [h1] at a1
    rw [h2] at a5
    rcases pk_fk hm with ⟨h3, h4⟩ | h3
    · rw [h3] at a3
      rw [h4] at a4
      (repeat' (first | (simp (disch := first | assumption | omega | (simp only [Fits, maxLen, bv_len, sv_len, List.length_append, List.length_cons, List.length_nil, List.length_map, sB_size] at *; omega)) only [pgs, pgl, pgx, pgw, pgb, tyf, buildSliceV_w, decide_true, decide_false, Nat.reduceEqDiff, reduceIte, Nat.reduceAdd, Nat.reduceSub, Nat.reduceMul, Nat.reduceBEq, Nat.max_def, Nat.reduceLeDiff, Int.reduceToNat, Int.reduceLT, Int.reduceLE, Int.reduceEq, Int.reduceNe, Nat.reduceLT, Bool.not_eq_true, Int.toNat_natCast, Int.reduceNeg, Int.reduceSub, Int.reduceAdd, Int.reduceMul, Int.natCast_add, Int.cast_ofNat_Int, eq_self, and_self, Option.some.injEq, not_true_eq_false, not_false_eq_true, List.getElem?_nil, Nat.reduceLeDiff, Nat.le_refl, Int.reduceBEq, Int.reduceBNe, if_true, if_false, ite_true, ite_false, Nat.add_zero, Nat.zero_add, ↓reduceIte, beqB_ff, ib4]) | ((with_reducible show callW _ _ _ _ _ _); first | refine callW_use _ (good9) rfl rfl rfl rfl ?_ | refine callW_use _ (a1) rfl rfl rfl rfl ?_ | refine callW_use _ (a3) rfl rfl rfl rfl ?_ | refine callW_use _ (a4) rfl rfl rfl rfl ?_ | refine callW_use _ (a5) rfl rfl rfl rfl ?_) | ((with_reducible show condC _ _ _ _ _ _ _); refine cond_at (fun hc => ?_) (fun hc => ?_) <;> (try simp only [hc]) <;> (try simp only [decide_eq_true_eq, decide_eq_false_iff_not, beq_iff_eq, beq_eq_false_iff_ne, bne_iff_ne, bne_eq_false_iff_eq, Bool.not_eq_true', Bool.not_eq_false', Int.not_lt, Int.not_le, Nat.not_lt, Nat.not_le, ne_eq, Bool.not_true, Bool.not_false, Bool.not_not, Bool.true_eq_false, Bool.false_eq_true, not_false_eq_true, not_true_eq_false, Decidable.not_not] at hc)) | ((with_reducible show guardC _ _ _ _ _ _ _ _); refine guard_at (fun hc => ?_) (fun hc => ?_) <;> (try simp only [hc]) <;> (try simp only [decide_eq_true_eq, decide_eq_false_iff_not, beq_iff_eq, beq_eq_false_iff_ne, bne_iff_ne, bne_eq_false_iff_eq, Bool.not_eq_true', Bool.not_eq_false', Int.not_lt, Int.not_le, Nat.not_lt, Nat.not_le, ne_eq, Bool.not_true, Bool.not_false, Bool.not_not, Bool.true_eq_false, Bool.false_eq_true, not_false_eq_true, not_true_eq_false, Decidable.not_not] at hc)) | ((with_reducible show drwG _ _ _ _ _ _ _ _ _ _); refine drw_at (fun hc => ?_) (fun hc => ?_) <;> (try simp only [hc]) <;> (try simp only [decide_eq_true_eq, decide_eq_false_iff_not, beq_iff_eq, beq_eq_false_iff_ne, bne_iff_ne, bne_eq_false_iff_eq, Bool.not_eq_true', Bool.not_eq_false', Int.not_lt, Int.not_le, Nat.not_lt, Nat.not_le, ne_eq, Bool.not_true, Bool.not_false, Bool.not_not, Bool.true_eq_false, Bool.false_eq_true, not_false_eq_true, not_true_eq_false, Decidable.not_not] at hc)) | (with_reducible refine chk_at (by kernel_rfl) ?_)))
      (refine ret_at [] _ (by first | exact retV_one _ _ _ | exact retV_two _ _ _ _ | exact retV_three _ _ _ _ _ | exact retV_four _ _ _ _ _ _) (by decide) (by simp only [pgs, pgl, pgx, pgw, decide_true, decide_false, Nat.reduceEqDiff, reduceIte, Nat.reduceAdd, Nat.reduceSub, Nat.reduceMul, Nat.reduceBEq, Nat.max_def, Nat.reduceLeDiff, Int.reduceToNat, Int.reduceLT, Int.reduceLE, Int.reduceEq, Int.reduceNe, Nat.reduceLT, Bool.not_eq_true, Int.toNat_natCast, Int.reduceNeg, Int.reduceSub, Int.reduceAdd, Int.reduceMul, Int.natCast_add, Int.cast_ofNat_Int, eq_self, and_self, Option.some.injEq, not_true_eq_false, not_false_eq_true, List.getElem?_nil, Nat.reduceLeDiff, Nat.le_refl, Int.reduceBEq, Int.reduceBNe, if_true, if_false, ite_true, ite_false, Nat.add_zero, Nat.zero_add, ↓reduceIte]) ?_; (first | rfl | (simp only [pgs, pgl, pgx, pgw, decide_true, decide_false, Nat.reduceEqDiff, reduceIte, Nat.reduceAdd, Nat.reduceSub, Nat.reduceMul, Nat.reduceBEq, Nat.max_def, Nat.reduceLeDiff, Int.reduceToNat, Int.reduceLT, Int.reduceLE, Int.reduceEq, Int.reduceNe, Nat.reduceLT, Bool.not_eq_true, Int.toNat_natCast, Int.reduceNeg, Int.reduceSub, Int.reduceAdd, Int.reduceMul, Int.natCast_add, Int.cast_ofNat_Int, eq_self, and_self, Option.some.injEq, not_true_eq_false, not_false_eq_true, List.getElem?_nil, Nat.reduceLeDiff, Nat.le_refl, Int.reduceBEq, Int.reduceBNe, if_true, if_false, ite_true, ite_false, Nat.add_zero, Nat.zero_add, ↓reduceIte]; done) | (simp only [pgs, pgl, pgx, pgw, decide_true, decide_false, Nat.reduceEqDiff, reduceIte, Nat.reduceAdd, Nat.reduceSub, Nat.reduceMul, Nat.reduceBEq, Nat.max_def, Nat.reduceLeDiff, Int.reduceToNat, Int.reduceLT, Int.reduceLE, Int.reduceEq, Int.reduceNe, Nat.reduceLT, Bool.not_eq_true, Int.toNat_natCast, Int.reduceNeg, Int.reduceSub, Int.reduceAdd, Int.reduceMul, Int.natCast_add, Int.cast_ofNat_Int, eq_self, and_self, Option.some.injEq, not_true_eq_false, not_false_eq_true, List.getElem?_nil, Nat.reduceLeDiff, Nat.le_refl, Int.reduceBEq, Int.reduceBNe, if_true, if_false, ite_true, ite_false, Nat.add_zero, Nat.zero_add, ↓reduceIte])))
    · rw [h3] at a3
      (repeat' (first | (simp (disch := first | assumption | omega | (simp only [Fits, maxLen, bv_len, sv_len, List.length_append, List.length_cons, List.length_nil, List.length_map, sB_size] at *; omega)) only [pgs, pgl, pgx, pgw, pgb, tyf, buildSliceV_w, decide_true, decide_false, Nat.reduceEqDiff, reduceIte, Nat.reduceAdd, Nat.reduceSub, Nat.reduceMul, Nat.reduceBEq, Nat.max_def, Nat.reduceLeDiff, Int.reduceToNat, Int.reduceLT, Int.reduceLE, Int.reduceEq, Int.reduceNe, Nat.reduceLT, Bool.not_eq_true, Int.toNat_natCast, Int.reduceNeg, Int.reduceSub, Int.reduceAdd, Int.reduceMul, Int.natCast_add, Int.cast_ofNat_Int, eq_self, and_self, Option.some.injEq, not_true_eq_false, not_false_eq_true, List.getElem?_nil, Nat.reduceLeDiff, Nat.le_refl, Int.reduceBEq, Int.reduceBNe, if_true, if_false, ite_true, ite_false, Nat.add_zero, Nat.zero_add, ↓reduceIte, beqB_ff, ib4]) | ((with_reducible show callW _ _ _ _ _ _); first | refine callW_use _ (good9) rfl rfl rfl rfl ?_ | refine callW_use _ (a1) rfl rfl rfl rfl ?_ | refine callW_use _ (a3) rfl rfl rfl rfl ?_ | refine callW_use _ (a5) rfl rfl rfl rfl ?_) | ((with_reducible show condC _ _ _ _ _ _ _); refine cond_at (fun hc => ?_) (fun hc => ?_) <;> (try simp only [hc]) <;> (try simp only [decide_eq_true_eq, decide_eq_false_iff_not, beq_iff_eq, beq_eq_false_iff_ne, bne_iff_ne, bne_eq_false_iff_eq, Bool.not_eq_true', Bool.not_eq_false', Int.not_lt, Int.not_le, Nat.not_lt, Nat.not_le, ne_eq, Bool.not_true, Bool.not_false, Bool.not_not, Bool.true_eq_false, Bool.false_eq_true, not_false_eq_true, not_true_eq_false, Decidable.not_not] at hc)) | ((with_reducible show guardC _ _ _ _ _ _ _ _); refine guard_at (fun hc => ?_) (fun hc => ?_) <;> (try simp only [hc]) <;> (try simp only [decide_eq_true_eq, decide_eq_false_iff_not, beq_iff_eq, beq_eq_false_iff_ne, bne_iff_ne, bne_eq_false_iff_eq, Bool.not_eq_true', Bool.not_eq_false', Int.not_lt, Int.not_le, Nat.not_lt, Nat.not_le, ne_eq, Bool.not_true, Bool.not_false, Bool.not_not, Bool.true_eq_false, Bool.false_eq_true, not_false_eq_true, not_true_eq_false, Decidable.not_not] at hc)) | ((with_reducible show drwG _ _ _ _ _ _ _ _ _ _); refine drw_at (fun hc => ?_) (fun hc => ?_) <;> (try simp only [hc]) <;> (try simp only [decide_eq_true_eq, decide_eq_false_iff_not, beq_iff_eq, beq_eq_false_iff_ne, bne_iff_ne, bne_eq_false_iff_eq, Bool.not_eq_true', Bool.not_eq_false', Int.not_lt, Int.not_le, Nat.not_lt, Nat.not_le, ne_eq, Bool.not_true, Bool.not_false, Bool.not_not, Bool.true_eq_false, Bool.false_eq_true, not_false_eq_true, not_true_eq_false, Decidable.not_not] at hc)) | (with_reducible refine chk_at (by kernel_rfl) ?_)))
      (refine ret_at [] _ (by first | exact retV_one _ _ _ | exact retV_two _ _ _ _ | exact retV_three _ _ _ _ _ | exact retV_four _ _ _ _ _ _) (by decide) (by simp only [pgs, pgl, pgx, pgw, decide_true, decide_false, Nat.reduceEqDiff, reduceIte, Nat.reduceAdd, Nat.reduceSub, Nat.reduceMul, Nat.reduceBEq, Nat.max_def, Nat.reduceLeDiff, Int.reduceToNat, Int.reduceLT, Int.reduceLE, Int.reduceEq, Int.reduceNe, Nat.reduceLT, Bool.not_eq_true, Int.toNat_natCast, Int.reduceNeg, Int.reduceSub, Int.reduceAdd, Int.reduceMul, Int.natCast_add, Int.cast_ofNat_Int, eq_self, and_self, Option.some.injEq, not_true_eq_false, not_false_eq_true, List.getElem?_nil, Nat.reduceLeDiff, Nat.le_refl, Int.reduceBEq, Int.reduceBNe, if_true, if_false, ite_true, ite_false, Nat.add_zero, Nat.zero_add, ↓reduceIte]) ?_; (first | rfl | (simp only [pgs, pgl, pgx, pgw, decide_true, decide_false, Nat.reduceEqDiff, reduceIte, Nat.reduceAdd, Nat.reduceSub, Nat.reduceMul, Nat.reduceBEq, Nat.max_def, Nat.reduceLeDiff, Int.reduceToNat, Int.reduceLT, Int.reduceLE, Int.reduceEq, Int.reduceNe, Nat.reduceLT, Bool.not_eq_true, Int.toNat_natCast, Int.reduceNeg, Int.reduceSub, Int.reduceAdd, Int.reduceMul, Int.natCast_add, Int.cast_ofNat_Int, eq_self, and_self, Option.some.injEq, not_true_eq_false, not_false_eq_true, List.getElem?_nil, Nat.reduceLeDiff, Nat.le_refl, Int.reduceBEq, Int.reduceBNe, if_true, if_false, ite_true, ite_false, Nat.add_zero, Nat.zero_add, ↓reduceIte]; done) | (simp only [pgs, pgl, pgx, pgw, decide_true, decide_false, Nat.reduceEqDiff, reduceIte, Nat.reduceAdd, Nat.reduceSub, Nat.reduceMul, Nat.reduceBEq, Nat.max_def, Nat.reduceLeDiff, Int.reduceToNat, Int.reduceLT, Int.reduceLE, Int.reduceEq, Int.reduceNe, Nat.reduceLT, Bool.not_eq_true, Int.toNat_natCast, Int.reduceNeg, Int.reduceSub, Int.reduceAdd, Int.reduceMul, Int.natCast_add, Int.cast_ofNat_Int, eq_self, and_self, Option.some.injEq, not_true_eq_false, not_false_eq_true, List.getElem?_nil, Nat.reduceLeDiff, Nat.le_refl, Int.reduceBEq, Int.reduceBNe, if_true, if_false, ite_true, ite_false, Nat.add_zero, Nat.zero_add, ↓reduceIte])))
end Go.Proofs.YtkgebocldjhflaaDoor
end
