/-
  Texts of this claim, merged: PgY12, PgY13, PgY14, PgY15, PgY15b. Each bears its own remark.
-/
import Derived.Test.YtjiolbcdfgclaaaGreatDoorB6
set_option linter.unusedVariables false
set_option linter.unusedSimpArgs false
set_option linter.unusedSectionVars false
section
/-
  Scripts: ParseOp and event at the sanity check's lines.
-/
namespace Go.Proofs.YtjiolbcdfgclaaaGreatDoor
open Go Go.Pg
set_option maxRecDepth 100000
set_option linter.unusedSimpArgs false
set_option linter.unusedVariables false

/-- An operation of a kind, all fields zero. -/
def O0 (k : Int) : O := ⟨k, [], [], [], 0, 0, 0, 0, [], [], 0, 0, 0, 0, 0, 0, 0, [], 0, 0, 0, []⟩
theorem O0_oct (k : Int) : (O0 k).Oct := ⟨oct_nil, oct_nil, (fun _ h => by cases h), (fun _ h => by cases h), oct_nil, oct_nil, oct_nil⟩
theorem vop_list : vop (O0 4) = 0 := by decide
theorem g_ValList : Pg.Good Tryz.prog 38 [.agg (op0 4)] (vi 0) := by
  have h := g_Validate (O0 4) (O0_oct 4)
  rw [vop_list] at h
  refine h.wk ⟨.inr ⟨_, _, rfl, rfl, ?_⟩, trivial⟩
  (repeat' (first | exact trivial | refine wkL_cons (.inl rfl) ?_ | refine wkL_cons (wk_nil _ _) ?_))
theorem g_ParseList : Pg.Good Tryz.prog 15 [fzs [[108, 105, 115, 116]]] (.tup [.agg (op0 4), vi 0]) := by
  have hv := g_ValList
  refine good_intro (drawW_ok mix) Tryz.func15 rfl Tryz.results15 rfl (by kernel_rfl) (Nat.le_of_ble_eq_true (by kernel_rfl)) ?_
  (repeat' (first | (simp (disch := first | assumption | omega | (simp only [Fits, maxLen, bv_len, sv_len, List.length_append, List.length_cons, List.length_nil, List.length_map, sB_size] at *; omega)) only [pgs, pgl, pgx, pgw, pgb, tyf, buildSliceV_w, pgn, Nat.reduceEqDiff, reduceIte, Nat.reduceAdd, Nat.reduceSub, Nat.reduceMul, Nat.reduceBEq, Nat.reduceLeDiff, Int.reduceToNat, Int.reduceLT, Int.reduceLE, Int.reduceEq, Int.reduceNe, Nat.reduceLT, Int.reduceNeg, Int.reduceSub, Int.reduceAdd, Int.reduceMul, eq_self, Option.some.injEq, List.getElem?_nil, Int.reduceBEq, Int.reduceBNe, if_true, if_false, ite_true, ite_false, ↓reduceIte, Tryz.f15, str_nil]) | ((with_reducible show callW _ _ _ _ _ _); first | refine callW_use _ (hv) rfl rfl rfl rfl ?_ | refine callZ _ (g_opList _ _ _ _ 1 rfl (by omega)) rfl ?_) | ((first | ((with_reducible show condC _ _ _ _ _ _ _); refine cond_at (fun hc => ?_) (fun hc => ?_)) | ((with_reducible show guardC _ _ _ _ _ _ _ _); refine guard_at (fun hc => ?_) (fun hc => ?_)) | ((with_reducible show drwG _ _ _ _ _ _ _ _ _ _); refine drw_at (fun hc => ?_) (fun hc => ?_))) <;> (try simp only [hc]) <;> (try simp only [decide_eq_true_eq, decide_eq_false_iff_not, beq_iff_eq, beq_eq_false_iff_ne, bne_iff_ne, bne_eq_false_iff_eq, Bool.not_eq_true', Bool.not_eq_false', Int.not_lt, Int.not_le, Nat.not_lt, Nat.not_le, ne_eq, Bool.not_true, Bool.not_false, Bool.not_not, Bool.true_eq_false, Bool.false_eq_true, not_false_eq_true, not_true_eq_false, Decidable.not_not] at hc)) | (with_reducible refine chk_at (by kernel_rfl) ?_)))
  (refine ret_at [] _ (by first | exact retV_one _ _ _ | exact retV_two _ _ _ _ | exact retV_three _ _ _ _ _ | exact retV_four _ _ _ _ _ _ | (simp (disch := first | assumption | omega | (simp only [Fits, maxLen, bv_len, sv_len, List.length_append, List.length_cons, List.length_nil, List.length_map, sB_size] at *; omega)) only [pgr, pgs, pgl, pgx, pgw, tyf, pgn, Nat.reduceEqDiff, reduceIte, Nat.reduceAdd, Nat.reduceSub, Nat.reduceMul, Nat.reduceBEq, Nat.reduceLeDiff, Int.reduceToNat, Int.reduceLT, Int.reduceLE, Int.reduceEq, Int.reduceNe, Nat.reduceLT, Int.reduceNeg, Int.reduceSub, Int.reduceAdd, Int.reduceMul, eq_self, Option.some.injEq, List.getElem?_nil, Int.reduceBEq, Int.reduceBNe, if_true, if_false, ite_true, ite_false, ↓reduceIte]; rfl)) (by decide) (by simp only [pgs, pgl, pgx, pgw, pgn, Nat.reduceEqDiff, reduceIte, Nat.reduceAdd, Nat.reduceSub, Nat.reduceMul, Nat.reduceBEq, Nat.reduceLeDiff, Int.reduceToNat, Int.reduceLT, Int.reduceLE, Int.reduceEq, Int.reduceNe, Nat.reduceLT, Int.reduceNeg, Int.reduceSub, Int.reduceAdd, Int.reduceMul, eq_self, Option.some.injEq, List.getElem?_nil, Int.reduceBEq, Int.reduceBNe, if_true, if_false, ite_true, ite_false, ↓reduceIte]) ?_; (first | rfl | simp only [pgs, pgl, pgx, pgw, pgn, Nat.reduceEqDiff, reduceIte, Nat.reduceAdd, Nat.reduceSub, Nat.reduceMul, Nat.reduceBEq, Nat.reduceLeDiff, Int.reduceToNat, Int.reduceLT, Int.reduceLE, Int.reduceEq, Int.reduceNe, Nat.reduceLT, Int.reduceNeg, Int.reduceSub, Int.reduceAdd, Int.reduceMul, eq_self, Option.some.injEq, List.getElem?_nil, Int.reduceBEq, Int.reduceBNe, if_true, if_false, ite_true, ite_false, ↓reduceIte]))
end Go.Proofs.YtjiolbcdfgclaaaGreatDoor
end

section
/-
  Scripts: Parse of the sanity check's text.
-/
namespace Go.Proofs.YtjiolbcdfgclaaaGreatDoor
open Go Go.Pg
set_option maxRecDepth 100000
set_option linter.unusedSimpArgs false
set_option linter.unusedVariables false

/-- Events' cells: the two of the text. -/
abbrev ev1 : List V := [vi 2, vi 1] ++ op0 0
abbrev ev2 : List V := [vi 1, vi 0] ++ op0 4
theorem evl_oct : ∀ x ∈ eventsL, oct x := by
  intro x hx
  have : ∀ x ∈ eventsL, (x.all fun b => decide (b < 256)) = true := by decide
  intro b hb
  simpa using List.all_eq_true.1 (this x hx) b hb
theorem pint49 : pint [49] = (1, 0) := by decide
theorem pint48 : pint [48] = (0, 0) := by decide
theorem g_event1 : Pg.Good Tryz.prog 67 [fzs [[112, 105, 99, 107], [49]]] (.tup [.agg ev1, vi 0]) := by
  refine good_intro (drawW_ok mix) Tryz.func67 rfl Tryz.results67 rfl (by kernel_rfl) (Nat.le_of_ble_eq_true (by kernel_rfl)) ?_
  (repeat' (first | (simp (disch := first | assumption | omega | (simp only [Fits, maxLen, bv_len, sv_len, List.length_append, List.length_cons, List.length_nil, List.length_map, sB_size] at *; omega)) only [pgs, pgl, pgx, pgw, pgb, tyf, buildSliceV_w, pgn, Nat.reduceEqDiff, reduceIte, Nat.reduceAdd, Nat.reduceSub, Nat.reduceMul, Nat.reduceBEq, Nat.reduceLeDiff, Int.reduceToNat, Int.reduceLT, Int.reduceLE, Int.reduceEq, Int.reduceNe, Nat.reduceLT, Int.reduceNeg, Int.reduceSub, Int.reduceAdd, Int.reduceMul, eq_self, Option.some.injEq, List.getElem?_nil, Int.reduceBEq, Int.reduceBNe, if_true, if_false, ite_true, ite_false, ↓reduceIte, Tryz.f67, str_nil, pint49]) | ((with_reducible show callW _ _ _ _ _ _); first | refine callW_use _ (g_eventWords) rfl rfl rfl rfl ?_ | refine callZ _ (g_findS _ _ _ _ 1 [112, 105, 99, 107] [[49]] _ eventsL 2 rfl (by simp) (oct_dec _ rfl) evl_oct (by decide) (by decide) rfl (by decide)) rfl ?_ | refine callZ _ (g_numberS _ _ _ _ 1 [49] [] rfl (by simp) (oct_dec _ rfl) (by decide) rfl) rfl ?_) | ((first | ((with_reducible show condC _ _ _ _ _ _ _); refine cond_at (fun hc => ?_) (fun hc => ?_)) | ((with_reducible show guardC _ _ _ _ _ _ _ _); refine guard_at (fun hc => ?_) (fun hc => ?_)) | ((with_reducible show drwG _ _ _ _ _ _ _ _ _ _); refine drw_at (fun hc => ?_) (fun hc => ?_))) <;> (try simp only [hc]) <;> (try simp only [decide_eq_true_eq, decide_eq_false_iff_not, beq_iff_eq, beq_eq_false_iff_ne, bne_iff_ne, bne_eq_false_iff_eq, Bool.not_eq_true', Bool.not_eq_false', Int.not_lt, Int.not_le, Nat.not_lt, Nat.not_le, ne_eq, Bool.not_true, Bool.not_false, Bool.not_not, Bool.true_eq_false, Bool.false_eq_true, not_false_eq_true, not_true_eq_false, Decidable.not_not] at hc)) | (with_reducible refine chk_at (by kernel_rfl) ?_)))
  (refine ret_at [] _ (by first | exact retV_one _ _ _ | exact retV_two _ _ _ _ | exact retV_three _ _ _ _ _ | exact retV_four _ _ _ _ _ _ | (simp (disch := first | assumption | omega | (simp only [Fits, maxLen, bv_len, sv_len, List.length_append, List.length_cons, List.length_nil, List.length_map, sB_size] at *; omega)) only [pgr, pgs, pgl, pgx, pgw, tyf, pgn, Nat.reduceEqDiff, reduceIte, Nat.reduceAdd, Nat.reduceSub, Nat.reduceMul, Nat.reduceBEq, Nat.reduceLeDiff, Int.reduceToNat, Int.reduceLT, Int.reduceLE, Int.reduceEq, Int.reduceNe, Nat.reduceLT, Int.reduceNeg, Int.reduceSub, Int.reduceAdd, Int.reduceMul, eq_self, Option.some.injEq, List.getElem?_nil, Int.reduceBEq, Int.reduceBNe, if_true, if_false, ite_true, ite_false, ↓reduceIte]; rfl)) (by decide) (by simp only [pgs, pgl, pgx, pgw, pgn, Nat.reduceEqDiff, reduceIte, Nat.reduceAdd, Nat.reduceSub, Nat.reduceMul, Nat.reduceBEq, Nat.reduceLeDiff, Int.reduceToNat, Int.reduceLT, Int.reduceLE, Int.reduceEq, Int.reduceNe, Nat.reduceLT, Int.reduceNeg, Int.reduceSub, Int.reduceAdd, Int.reduceMul, eq_self, Option.some.injEq, List.getElem?_nil, Int.reduceBEq, Int.reduceBNe, if_true, if_false, ite_true, ite_false, ↓reduceIte]) ?_; (first | rfl | simp only [pgs, pgl, pgx, pgw, pgn, Nat.reduceEqDiff, reduceIte, Nat.reduceAdd, Nat.reduceSub, Nat.reduceMul, Nat.reduceBEq, Nat.reduceLeDiff, Int.reduceToNat, Int.reduceLT, Int.reduceLE, Int.reduceEq, Int.reduceNe, Nat.reduceLT, Int.reduceNeg, Int.reduceSub, Int.reduceAdd, Int.reduceMul, eq_self, Option.some.injEq, List.getElem?_nil, Int.reduceBEq, Int.reduceBNe, if_true, if_false, ite_true, ite_false, ↓reduceIte]))
theorem g_event2 : Pg.Good Tryz.prog 67 [fzs [[99, 97, 108, 108], [48], [108, 105, 115, 116]]] (.tup [.agg ev2, vi 0]) := by
  have h0 := g_ParseList
  refine good_intro (drawW_ok mix) Tryz.func67 rfl Tryz.results67 rfl (by kernel_rfl) (Nat.le_of_ble_eq_true (by kernel_rfl)) ?_
  (repeat' (first | (simp (disch := first | assumption | omega | (simp only [Fits, maxLen, bv_len, sv_len, List.length_append, List.length_cons, List.length_nil, List.length_map, sB_size] at *; omega)) only [pgs, pgl, pgx, pgw, pgb, tyf, buildSliceV_w, pgn, Nat.reduceEqDiff, reduceIte, Nat.reduceAdd, Nat.reduceSub, Nat.reduceMul, Nat.reduceBEq, Nat.reduceLeDiff, Int.reduceToNat, Int.reduceLT, Int.reduceLE, Int.reduceEq, Int.reduceNe, Nat.reduceLT, Int.reduceNeg, Int.reduceSub, Int.reduceAdd, Int.reduceMul, eq_self, Option.some.injEq, List.getElem?_nil, Int.reduceBEq, Int.reduceBNe, if_true, if_false, ite_true, ite_false, ↓reduceIte, Tryz.f67, str_nil, pint48]) | ((with_reducible show callW _ _ _ _ _ _); first | refine callW_use _ (g_eventWords) rfl rfl rfl rfl ?_ | refine callW_use _ (h0) rfl rfl rfl rfl ?_ | refine callZ _ (g_findS _ _ _ _ 1 [99, 97, 108, 108] [[48], [108, 105, 115, 116]] _ eventsL 1 rfl (by simp) (oct_dec _ rfl) evl_oct (by decide) (by decide) rfl (by decide)) rfl ?_ | refine callZ _ (g_numberS _ _ _ _ 1 [48] [[108, 105, 115, 116]] rfl (by simp) (oct_dec _ rfl) (by decide) rfl) rfl ?_) | ((first | ((with_reducible show condC _ _ _ _ _ _ _); refine cond_at (fun hc => ?_) (fun hc => ?_)) | ((with_reducible show guardC _ _ _ _ _ _ _ _); refine guard_at (fun hc => ?_) (fun hc => ?_)) | ((with_reducible show drwG _ _ _ _ _ _ _ _ _ _); refine drw_at (fun hc => ?_) (fun hc => ?_))) <;> (try simp only [hc]) <;> (try simp only [decide_eq_true_eq, decide_eq_false_iff_not, beq_iff_eq, beq_eq_false_iff_ne, bne_iff_ne, bne_eq_false_iff_eq, Bool.not_eq_true', Bool.not_eq_false', Int.not_lt, Int.not_le, Nat.not_lt, Nat.not_le, ne_eq, Bool.not_true, Bool.not_false, Bool.not_not, Bool.true_eq_false, Bool.false_eq_true, not_false_eq_true, not_true_eq_false, Decidable.not_not] at hc)) | (with_reducible refine chk_at (by kernel_rfl) ?_)))
  (refine ret_at [] _ (by first | exact retV_one _ _ _ | exact retV_two _ _ _ _ | exact retV_three _ _ _ _ _ | exact retV_four _ _ _ _ _ _ | (simp (disch := first | assumption | omega | (simp only [Fits, maxLen, bv_len, sv_len, List.length_append, List.length_cons, List.length_nil, List.length_map, sB_size] at *; omega)) only [pgr, pgs, pgl, pgx, pgw, tyf, pgn, Nat.reduceEqDiff, reduceIte, Nat.reduceAdd, Nat.reduceSub, Nat.reduceMul, Nat.reduceBEq, Nat.reduceLeDiff, Int.reduceToNat, Int.reduceLT, Int.reduceLE, Int.reduceEq, Int.reduceNe, Nat.reduceLT, Int.reduceNeg, Int.reduceSub, Int.reduceAdd, Int.reduceMul, eq_self, Option.some.injEq, List.getElem?_nil, Int.reduceBEq, Int.reduceBNe, if_true, if_false, ite_true, ite_false, ↓reduceIte]; rfl)) (by decide) (by simp only [pgs, pgl, pgx, pgw, pgn, Nat.reduceEqDiff, reduceIte, Nat.reduceAdd, Nat.reduceSub, Nat.reduceMul, Nat.reduceBEq, Nat.reduceLeDiff, Int.reduceToNat, Int.reduceLT, Int.reduceLE, Int.reduceEq, Int.reduceNe, Nat.reduceLT, Int.reduceNeg, Int.reduceSub, Int.reduceAdd, Int.reduceMul, eq_self, Option.some.injEq, List.getElem?_nil, Int.reduceBEq, Int.reduceBNe, if_true, if_false, ite_true, ite_false, ↓reduceIte]) ?_; (first | rfl | simp only [pgs, pgl, pgx, pgw, pgn, Nat.reduceEqDiff, reduceIte, Nat.reduceAdd, Nat.reduceSub, Nat.reduceMul, Nat.reduceBEq, Nat.reduceLeDiff, Int.reduceToNat, Int.reduceLT, Int.reduceLE, Int.reduceEq, Int.reduceNe, Nat.reduceLT, Int.reduceNeg, Int.reduceSub, Int.reduceAdd, Int.reduceMul, eq_self, Option.some.injEq, List.getElem?_nil, Int.reduceBEq, Int.reduceBNe, if_true, if_false, ite_true, ite_false, ↓reduceIte]))
/-- The text, and its lines. -/
def kT : List Nat := [112, 105, 99, 107, 32, 49, 10, 35, 32, 110, 111, 116, 104, 105, 110, 103, 10, 99, 97, 108, 108, 32, 48, 32, 108, 105, 115, 116]
theorem kT_oct : oct kT := oct_dec _ rfl
abbrev kL1 : List Nat := [112, 105, 99, 107, 32, 49]
abbrev kL2 : List Nat := [35, 32, 110, 111, 116, 104, 105, 110, 103]
abbrev kL3 : List Nat := [99, 97, 108, 108, 32, 48, 32, 108, 105, 115, 116]
theorem kT_lines : linesP kT = .tup [.sl (.own 0 9) 1 (sv [kL1, kL2, kL3]), vi 0] := by
  unfold linesP
  rw [if_neg (by decide), if_neg (by decide), if_neg (by decide)]
  rfl
theorem kF1 : fld kL1 = [[112, 105, 99, 107], [49]] := by decide
theorem kF2 : fld kL2 = [] := by decide
theorem kF3 : fld kL3 = [[99, 97, 108, 108], [48], [108, 105, 115, 116]] := by decide
theorem g_Lines0 : Pg.Good Tryz.prog 65 [vs kT] (.tup [.sl (.own 0 9) 1 (sv [kL1, kL2, kL3]), vi 0]) := by
  have h := good27 kT kT_oct
  rw [kT_lines] at h
  exact h
theorem g_Fields (l : List Nat) (hl : l.length ≤ 1000) (f : List (List Nat)) (hf : fld l = f) (ho : (l.all fun b => decide (b < 256)) = true) : Pg.Good Tryz.prog 66 [vs l] (.sl (.own 0 9) 1 (sv f)) := by
  have h := good26 l (oct_dec _ ho) (by omega)
  rw [hf] at h
  exact h
/-- The events read before line i. -/
def evV : Nat → V
  | 0 => nls
  | 1 => .sl (.own 1 69) 24 [.agg ev1]
  | 2 => .sl (.own 1 69) 24 [.agg ev1]
  | _ => .sl (.own 1 69) 24 [.agg ev1, .agg ev2]
theorem evV0 : evV 0 = nls := rfl
theorem evV1 : evV 1 = .sl (.own 1 69) 24 [.agg ev1] := rfl
theorem evV2 : evV 2 = .sl (.own 1 69) 24 [.agg ev1] := rfl
theorem evV3 : evV 3 = .sl (.own 1 69) 24 [.agg ev1, .agg ev2] := rfl
theorem g_Parse0 : Pg.Good Tryz.prog 28 [vs kT] (.tup [.sl (.own 0 69) 24 [.agg ev1, .agg ev2], vi 0, vi 0]) := by
  have f1 := g_Fields kL1 (by decide) _ kF1 rfl
  have f2 := g_Fields kL2 (by decide) _ kF2 rfl
  have f3 := g_Fields kL3 (by decide) _ kF3 rfl
  have hs : (sv [kL1, kL2, kL3]).length = 3 := rfl
  have hg0 : (sv [kL1, kL2, kL3])[0]? = some (vs kL1) := rfl
  have hg1 : (sv [kL1, kL2, kL3])[1]? = some (vs kL2) := rfl
  have hg2 : (sv [kL1, kL2, kL3])[2]? = some (vs kL3) := rfl
  refine good_intro (drawW_ok mix) Tryz.func28 rfl Tryz.results28 rfl (by kernel_rfl) (Nat.le_of_ble_eq_true (by kernel_rfl)) ?_
  (repeat' (first | (simp (disch := first | assumption | omega | (simp only [Fits, maxLen, bv_len, sv_len, List.length_append, List.length_cons, List.length_nil, List.length_map, sB_size] at *; omega)) only [pgs, pgl, pgx, pgw, pgb, tyf, buildSliceV_w, pgn, Nat.reduceEqDiff, reduceIte, Nat.reduceAdd, Nat.reduceSub, Nat.reduceMul, Nat.reduceBEq, Nat.reduceLeDiff, Int.reduceToNat, Int.reduceLT, Int.reduceLE, Int.reduceEq, Int.reduceNe, Nat.reduceLT, Int.reduceNeg, Int.reduceSub, Int.reduceAdd, Int.reduceMul, eq_self, Option.some.injEq, List.getElem?_nil, Int.reduceBEq, Int.reduceBNe, if_true, if_false, ite_true, ite_false, ↓reduceIte, Tryz.f28, hs]) | ((with_reducible show callW _ _ _ _ _ _); first | refine callW_use _ (g_Lines0) rfl rfl rfl rfl ?_) | ((first | ((with_reducible show condC _ _ _ _ _ _ _); refine cond_at (fun hc => ?_) (fun hc => ?_)) | ((with_reducible show guardC _ _ _ _ _ _ _ _); refine guard_at (fun hc => ?_) (fun hc => ?_)) | ((with_reducible show drwG _ _ _ _ _ _ _ _ _ _); refine drw_at (fun hc => ?_) (fun hc => ?_))) <;> (try simp only [hc]) <;> (try simp only [decide_eq_true_eq, decide_eq_false_iff_not, beq_iff_eq, beq_eq_false_iff_ne, bne_iff_ne, bne_eq_false_iff_eq, Bool.not_eq_true', Bool.not_eq_false', Int.not_lt, Int.not_le, Nat.not_lt, Nat.not_le, ne_eq, Bool.not_true, Bool.not_false, Bool.not_not, Bool.true_eq_false, Bool.false_eq_true, not_false_eq_true, not_true_eq_false, Decidable.not_not] at hc)) | (with_reducible refine chk_at (by kernel_rfl) ?_)))
  refine loop_A (fun i : Nat => mkA [(2, evV i), (19, .sl (.own 0 9) 1 (sv [kL1, kL2, kL3])), (20, vi 3), (21, vi i)] [] 2 (fun _ => .top)) (fun i => i ≤ 3) (fun i => 3 - i) 0 [0] [] ?_ (Nat.zero_le _) ?_
  · (refine keep_mkA ?_ ?_ (top_hd _ _ _) (by decide) (by decide) (by decide) (by decide); (repeat' (first | exact trivial | refine genB_one _ _ rfl rfl ?_ ?_)); all_goals (try simp only [pgs, pgl, pgx, pgw, GenA_cons, GenA_nil, GenL_cons, GenL_nil, gen_top, gen_c, gen_fz, pgn, Nat.reduceEqDiff, reduceIte, Nat.reduceAdd, Nat.reduceSub, Nat.reduceMul, Nat.reduceBEq, Nat.reduceLeDiff, Int.reduceToNat, Int.reduceLT, Int.reduceLE, Int.reduceEq, Int.reduceNe, Nat.reduceLT, Int.reduceNeg, Int.reduceSub, Int.reduceAdd, Int.reduceMul, eq_self, Option.some.injEq, List.getElem?_nil, Int.reduceBEq, Int.reduceBNe, if_true, if_false, ite_true, ite_false, ↓reduceIte]); all_goals (try (repeat' (first | apply And.intro))); all_goals (try (first | exact trivial | exact gen_ii (by omega) | exact gen_cc rfl | exact gen_own rfl rfl | exact gen_ref rfl)))
  · intro i hi
    have hi4 : i = 0 ∨ i = 1 ∨ i = 2 ∨ i = 3 := by omega
    rcases hi4 with rfl | rfl | rfl | rfl
    · (repeat' (first | (simp (disch := first | assumption | omega | (simp only [Fits, maxLen, bv_len, sv_len, List.length_append, List.length_cons, List.length_nil, List.length_map, sB_size] at *; omega)) only [pgs, pgl, pgx, pgw, pgb, tyf, buildSliceV_w, pgn, Nat.reduceEqDiff, reduceIte, Nat.reduceAdd, Nat.reduceSub, Nat.reduceMul, Nat.reduceBEq, Nat.reduceLeDiff, Int.reduceToNat, Int.reduceLT, Int.reduceLE, Int.reduceEq, Int.reduceNe, Nat.reduceLT, Int.reduceNeg, Int.reduceSub, Int.reduceAdd, Int.reduceMul, eq_self, Option.some.injEq, List.getElem?_nil, Int.reduceBEq, Int.reduceBNe, if_true, if_false, ite_true, ite_false, ↓reduceIte, hs, hg0, hg1, hg2, evV0, evV1, evV2, evV3, Int.natCast_one, sv_len, List.length_cons, List.length_nil, List.cons_append, List.nil_append, List.append_eq, str_nil]) | ((with_reducible show callW _ _ _ _ _ _); first | refine callW_use _ (f1) rfl rfl rfl rfl ?_ | refine callW_use _ (g_event1) rfl rfl rfl rfl ?_) | ((first | ((with_reducible show condC _ _ _ _ _ _ _); refine cond_at (fun hc => ?_) (fun hc => ?_)) | ((with_reducible show guardC _ _ _ _ _ _ _ _); refine guard_at (fun hc => ?_) (fun hc => ?_)) | ((with_reducible show drwG _ _ _ _ _ _ _ _ _ _); refine drw_at (fun hc => ?_) (fun hc => ?_))) <;> (try simp only [hc]) <;> (try simp only [decide_eq_true_eq, decide_eq_false_iff_not, beq_iff_eq, beq_eq_false_iff_ne, bne_iff_ne, bne_eq_false_iff_eq, Bool.not_eq_true', Bool.not_eq_false', Int.not_lt, Int.not_le, Nat.not_lt, Nat.not_le, ne_eq, Bool.not_true, Bool.not_false, Bool.not_not, Bool.true_eq_false, Bool.false_eq_true, not_false_eq_true, not_true_eq_false, Decidable.not_not] at hc)) | (with_reducible refine chk_at (by kernel_rfl) ?_)))
      (refine back_at (0 + 1) [0, 5] [] ((by omega)) (by first | omega | (simp only [List.length_cons]; omega)) ?_; (refine keep_mkA ?_ ?_ (top_hd _ _ _) (by decide) (by decide) (by decide) (by decide); (repeat' (first | exact trivial | refine genB_one _ _ rfl rfl ?_ ?_)); all_goals (try simp only [pgs, pgl, pgx, pgw, GenA_cons, GenA_nil, GenL_cons, GenL_nil, gen_top, gen_c, gen_fz, pgn, Nat.reduceEqDiff, reduceIte, Nat.reduceAdd, Nat.reduceSub, Nat.reduceMul, Nat.reduceBEq, Nat.reduceLeDiff, Int.reduceToNat, Int.reduceLT, Int.reduceLE, Int.reduceEq, Int.reduceNe, Nat.reduceLT, Int.reduceNeg, Int.reduceSub, Int.reduceAdd, Int.reduceMul, eq_self, Option.some.injEq, List.getElem?_nil, Int.reduceBEq, Int.reduceBNe, if_true, if_false, ite_true, ite_false, ↓reduceIte]); all_goals (try (repeat' (first | apply And.intro))); all_goals (try (first | exact trivial | exact gen_ii (by omega) | exact gen_cc rfl | exact gen_own rfl rfl | exact gen_ref rfl))))
      all_goals exact gen_own rfl rfl
    · (repeat' (first | (simp (disch := first | assumption | omega | (simp only [Fits, maxLen, bv_len, sv_len, List.length_append, List.length_cons, List.length_nil, List.length_map, sB_size] at *; omega)) only [pgs, pgl, pgx, pgw, pgb, tyf, buildSliceV_w, pgn, Nat.reduceEqDiff, reduceIte, Nat.reduceAdd, Nat.reduceSub, Nat.reduceMul, Nat.reduceBEq, Nat.reduceLeDiff, Int.reduceToNat, Int.reduceLT, Int.reduceLE, Int.reduceEq, Int.reduceNe, Nat.reduceLT, Int.reduceNeg, Int.reduceSub, Int.reduceAdd, Int.reduceMul, eq_self, Option.some.injEq, List.getElem?_nil, Int.reduceBEq, Int.reduceBNe, if_true, if_false, ite_true, ite_false, ↓reduceIte, hs, hg0, hg1, hg2, evV0, evV1, evV2, evV3, Int.natCast_one, sv_len, List.length_cons, List.length_nil, List.cons_append, List.nil_append, List.append_eq, str_nil]) | ((with_reducible show callW _ _ _ _ _ _); first | refine callW_use _ (f2) rfl rfl rfl rfl ?_) | ((first | ((with_reducible show condC _ _ _ _ _ _ _); refine cond_at (fun hc => ?_) (fun hc => ?_)) | ((with_reducible show guardC _ _ _ _ _ _ _ _); refine guard_at (fun hc => ?_) (fun hc => ?_)) | ((with_reducible show drwG _ _ _ _ _ _ _ _ _ _); refine drw_at (fun hc => ?_) (fun hc => ?_))) <;> (try simp only [hc]) <;> (try simp only [decide_eq_true_eq, decide_eq_false_iff_not, beq_iff_eq, beq_eq_false_iff_ne, bne_iff_ne, bne_eq_false_iff_eq, Bool.not_eq_true', Bool.not_eq_false', Int.not_lt, Int.not_le, Nat.not_lt, Nat.not_le, ne_eq, Bool.not_true, Bool.not_false, Bool.not_not, Bool.true_eq_false, Bool.false_eq_true, not_false_eq_true, not_true_eq_false, Decidable.not_not] at hc)) | (with_reducible refine chk_at (by kernel_rfl) ?_)))
      (refine back_at (1 + 1) [0, 1] [] ((by omega)) (by first | omega | (simp only [List.length_cons]; omega)) ?_; (refine keep_mkA ?_ ?_ (top_hd _ _ _) (by decide) (by decide) (by decide) (by decide); (repeat' (first | exact trivial | refine genB_one _ _ rfl rfl ?_ ?_)); all_goals (try simp only [pgs, pgl, pgx, pgw, GenA_cons, GenA_nil, GenL_cons, GenL_nil, gen_top, gen_c, gen_fz, pgn, Nat.reduceEqDiff, reduceIte, Nat.reduceAdd, Nat.reduceSub, Nat.reduceMul, Nat.reduceBEq, Nat.reduceLeDiff, Int.reduceToNat, Int.reduceLT, Int.reduceLE, Int.reduceEq, Int.reduceNe, Nat.reduceLT, Int.reduceNeg, Int.reduceSub, Int.reduceAdd, Int.reduceMul, eq_self, Option.some.injEq, List.getElem?_nil, Int.reduceBEq, Int.reduceBNe, if_true, if_false, ite_true, ite_false, ↓reduceIte]); all_goals (try (repeat' (first | apply And.intro))); all_goals (try (first | exact trivial | exact gen_ii (by omega) | exact gen_cc rfl | exact gen_own rfl rfl | exact gen_ref rfl))))
      all_goals exact gen_own rfl rfl
    · (repeat' (first | (simp (disch := first | assumption | omega | (simp only [Fits, maxLen, bv_len, sv_len, List.length_append, List.length_cons, List.length_nil, List.length_map, sB_size] at *; omega)) only [pgs, pgl, pgx, pgw, pgb, tyf, buildSliceV_w, pgn, Nat.reduceEqDiff, reduceIte, Nat.reduceAdd, Nat.reduceSub, Nat.reduceMul, Nat.reduceBEq, Nat.reduceLeDiff, Int.reduceToNat, Int.reduceLT, Int.reduceLE, Int.reduceEq, Int.reduceNe, Nat.reduceLT, Int.reduceNeg, Int.reduceSub, Int.reduceAdd, Int.reduceMul, eq_self, Option.some.injEq, List.getElem?_nil, Int.reduceBEq, Int.reduceBNe, if_true, if_false, ite_true, ite_false, ↓reduceIte, hs, hg0, hg1, hg2, evV0, evV1, evV2, evV3, Int.natCast_one, sv_len, List.length_cons, List.length_nil, List.cons_append, List.nil_append, List.append_eq, str_nil]) | ((with_reducible show callW _ _ _ _ _ _); first | refine callW_use _ (f3) rfl rfl rfl rfl ?_ | refine callW_use _ (g_event2) rfl rfl rfl rfl ?_) | ((first | ((with_reducible show condC _ _ _ _ _ _ _); refine cond_at (fun hc => ?_) (fun hc => ?_)) | ((with_reducible show guardC _ _ _ _ _ _ _ _); refine guard_at (fun hc => ?_) (fun hc => ?_)) | ((with_reducible show drwG _ _ _ _ _ _ _ _ _ _); refine drw_at (fun hc => ?_) (fun hc => ?_))) <;> (try simp only [hc]) <;> (try simp only [decide_eq_true_eq, decide_eq_false_iff_not, beq_iff_eq, beq_eq_false_iff_ne, bne_iff_ne, bne_eq_false_iff_eq, Bool.not_eq_true', Bool.not_eq_false', Int.not_lt, Int.not_le, Nat.not_lt, Nat.not_le, ne_eq, Bool.not_true, Bool.not_false, Bool.not_not, Bool.true_eq_false, Bool.false_eq_true, not_false_eq_true, not_true_eq_false, Decidable.not_not] at hc)) | (with_reducible refine chk_at (by kernel_rfl) ?_)))
      (refine back_at (2 + 1) [0, 1] [] ((by omega)) (by first | omega | (simp only [List.length_cons]; omega)) ?_; (refine keep_mkA ?_ ?_ (top_hd _ _ _) (by decide) (by decide) (by decide) (by decide); (repeat' (first | exact trivial | refine genB_one _ _ rfl rfl ?_ ?_)); all_goals (try simp only [pgs, pgl, pgx, pgw, GenA_cons, GenA_nil, GenL_cons, GenL_nil, gen_top, gen_c, gen_fz, pgn, Nat.reduceEqDiff, reduceIte, Nat.reduceAdd, Nat.reduceSub, Nat.reduceMul, Nat.reduceBEq, Nat.reduceLeDiff, Int.reduceToNat, Int.reduceLT, Int.reduceLE, Int.reduceEq, Int.reduceNe, Nat.reduceLT, Int.reduceNeg, Int.reduceSub, Int.reduceAdd, Int.reduceMul, eq_self, Option.some.injEq, List.getElem?_nil, Int.reduceBEq, Int.reduceBNe, if_true, if_false, ite_true, ite_false, ↓reduceIte]); all_goals (try (repeat' (first | apply And.intro))); all_goals (try (first | exact trivial | exact gen_ii (by omega) | exact gen_cc rfl | exact gen_own rfl rfl | exact gen_ref rfl))))
      all_goals exact gen_own rfl rfl
    · (repeat' (first | (simp (disch := first | assumption | omega | (simp only [Fits, maxLen, bv_len, sv_len, List.length_append, List.length_cons, List.length_nil, List.length_map, sB_size] at *; omega)) only [pgs, pgl, pgx, pgw, pgb, tyf, buildSliceV_w, pgn, Nat.reduceEqDiff, reduceIte, Nat.reduceAdd, Nat.reduceSub, Nat.reduceMul, Nat.reduceBEq, Nat.reduceLeDiff, Int.reduceToNat, Int.reduceLT, Int.reduceLE, Int.reduceEq, Int.reduceNe, Nat.reduceLT, Int.reduceNeg, Int.reduceSub, Int.reduceAdd, Int.reduceMul, eq_self, Option.some.injEq, List.getElem?_nil, Int.reduceBEq, Int.reduceBNe, if_true, if_false, ite_true, ite_false, ↓reduceIte, hs, hg0, hg1, hg2, evV0, evV1, evV2, evV3, Int.natCast_one, sv_len, List.length_cons, List.length_nil, List.cons_append, List.nil_append, List.append_eq, str_nil]) | ((first | ((with_reducible show condC _ _ _ _ _ _ _); refine cond_at (fun hc => ?_) (fun hc => ?_)) | ((with_reducible show guardC _ _ _ _ _ _ _ _); refine guard_at (fun hc => ?_) (fun hc => ?_)) | ((with_reducible show drwG _ _ _ _ _ _ _ _ _ _); refine drw_at (fun hc => ?_) (fun hc => ?_))) <;> (try simp only [hc]) <;> (try simp only [decide_eq_true_eq, decide_eq_false_iff_not, beq_iff_eq, beq_eq_false_iff_ne, bne_iff_ne, bne_eq_false_iff_eq, Bool.not_eq_true', Bool.not_eq_false', Int.not_lt, Int.not_le, Nat.not_lt, Nat.not_le, ne_eq, Bool.not_true, Bool.not_false, Bool.not_not, Bool.true_eq_false, Bool.false_eq_true, not_false_eq_true, not_true_eq_false, Decidable.not_not] at hc)) | (with_reducible refine chk_at (by kernel_rfl) ?_)))
      (refine ret_at [1] _ (by first | exact retV_one _ _ _ | exact retV_two _ _ _ _ | exact retV_three _ _ _ _ _ | exact retV_four _ _ _ _ _ _ | (simp (disch := first | assumption | omega | (simp only [Fits, maxLen, bv_len, sv_len, List.length_append, List.length_cons, List.length_nil, List.length_map, sB_size] at *; omega)) only [pgr, pgs, pgl, pgx, pgw, tyf, pgn, Nat.reduceEqDiff, reduceIte, Nat.reduceAdd, Nat.reduceSub, Nat.reduceMul, Nat.reduceBEq, Nat.reduceLeDiff, Int.reduceToNat, Int.reduceLT, Int.reduceLE, Int.reduceEq, Int.reduceNe, Nat.reduceLT, Int.reduceNeg, Int.reduceSub, Int.reduceAdd, Int.reduceMul, eq_self, Option.some.injEq, List.getElem?_nil, Int.reduceBEq, Int.reduceBNe, if_true, if_false, ite_true, ite_false, ↓reduceIte]; rfl)) (by decide) (by simp only [pgs, pgl, pgx, pgw, pgn, Nat.reduceEqDiff, reduceIte, Nat.reduceAdd, Nat.reduceSub, Nat.reduceMul, Nat.reduceBEq, Nat.reduceLeDiff, Int.reduceToNat, Int.reduceLT, Int.reduceLE, Int.reduceEq, Int.reduceNe, Nat.reduceLT, Int.reduceNeg, Int.reduceSub, Int.reduceAdd, Int.reduceMul, eq_self, Option.some.injEq, List.getElem?_nil, Int.reduceBEq, Int.reduceBNe, if_true, if_false, ite_true, ite_false, ↓reduceIte]) ?_; (first | rfl | simp only [pgs, pgl, pgx, pgw, pgn, Nat.reduceEqDiff, reduceIte, Nat.reduceAdd, Nat.reduceSub, Nat.reduceMul, Nat.reduceBEq, Nat.reduceLeDiff, Int.reduceToNat, Int.reduceLT, Int.reduceLE, Int.reduceEq, Int.reduceNe, Nat.reduceLT, Int.reduceNeg, Int.reduceSub, Int.reduceAdd, Int.reduceMul, eq_self, Option.some.injEq, List.getElem?_nil, Int.reduceBEq, Int.reduceBNe, if_true, if_false, ite_true, ite_false, ↓reduceIte]))
end Go.Proofs.YtjiolbcdfgclaaaGreatDoor
end

section
/-
  Scripts: the law's own sanity check.
-/
namespace Go.Proofs.YtjiolbcdfgclaaaGreatDoor
open Go Go.Pg
set_option maxRecDepth 100000
set_option linter.unusedSimpArgs false
set_option linter.unusedVariables false

theorem kc1 : (⟨#[105, 110, 115, 101, 114, 116, 32, 97, 32, 45, 32, 120, 32, 51]⟩ : ByteArray) = sB [105, 110, 115, 101, 114, 116, 32, 97, 32, 45, 32, 120, 32, 51] := rfl
theorem kc2 : (⟨#[112, 105, 99, 107, 32, 49, 10, 35, 32, 110, 111, 116, 104, 105, 110, 103, 10, 99, 97, 108, 108, 32, 48, 32, 108, 105, 115, 116]⟩ : ByteArray) = sB kT := rfl
theorem kc3 : (⟨#[101, 114, 114, 111, 114, 32, 49, 52]⟩ : ByteArray) = sB [101, 114, 114, 111, 114, 32, 49, 52] := rfl
theorem kc4 : (⟨#[101, 114, 114, 111, 114, 32]⟩ : ByteArray) = sB [101, 114, 114, 111, 114, 32] := rfl
theorem ka1 : (⟨#[97]⟩ : ByteArray) = sB [97] := rfl
theorem ka2 : (⟨#[120]⟩ : ByteArray) = sB [120] := rfl
theorem itoa_3 : itoaN 3 = [51] := by rw [itoaN_at, if_neg (by decide)]; exact dd_lt 3 (by decide)
theorem itoa_14 : itoaN 14 = [49, 52] := by
  rw [itoaN_at, if_neg (by decide)]
  show dd 14 = _
  rw [dd_ge 14 (by decide), dd_lt (14 / 10) (by decide)]
  rfl
theorem kw_x : kw [120] = [120] := by decide
/-- The insertion of the sanity check. -/
def O6 : O := ⟨6, [97], [], [], 0, 0, 0, 0, [([120], 3)], [], 0, 0, 0, 0, 0, 0, 0, [], 0, 0, 0, []⟩
theorem O6_oct : O6.Oct := ⟨oct_dec _ rfl, oct_nil, (fun _ h => by cases h), (fun x h => by simp [O6] at h; rw [h]; exact oct_dec _ rfl), oct_nil, oct_nil, oct_nil⟩
theorem vop_6 : vop O6 = 0 := by decide
theorem insW_6 : jn (insW O6) = [105, 110, 115, 101, 114, 116, 32, 97, 32, 45, 32, 120, 32, 51] := by
  have : insW O6 = [[105, 110, 115, 101, 114, 116], [97], [45], kw [120], itoaN 3] := rfl
  rw [this, kw_x, itoa_3]
  rfl
theorem g_Fmt6 : Pg.Good Tryz.prog 13 [.agg [vi 6, vs [97], vs [], nls, vi 0, vi 0, vi 0, vu 0, fzt [([120], 3)], nls, vi 0, vi 0, vi 0, vi 0, vi 0, vi 0, vi 0, vs [], vi 0, vi 0, vi 0, nls]] (.tup [vs [105, 110, 115, 101, 114, 116, 32, 97, 32, 45, 32, 120, 32, 51], vi 0]) := by
  have h := g_FmtIns O6 O6_oct rfl vop_6 (by decide) (by decide) (by decide) (fun x hx => by simp [O6] at hx; rw [hx]; exact ⟨by decide, by decide⟩)
  rw [insW_6] at h
  refine h.wk ⟨.inr ⟨_, _, rfl, rfl, ?_⟩, trivial⟩
  (repeat' (first | exact trivial | refine wkL_cons (.inl rfl) ?_ | refine wkL_cons (wk_nil _ _) ?_))
/-- A response's cells. -/
abbrev rsC (e c v h : Int) (nm : V) (a b : Int) (k : List Nat) (nu en : V) (st : Bool) (da : V) : List V := [vi e, vi c, vi v, vi h, nm, vi a, vi b, vs k, nu, en, vb st, da]
theorem g_RespErr (e c v h : Int) (nm : V) (a b : Int) (k : List Nat) (nu en : V) (st : Bool) (da : V) (he : Wt e) (h0 : e ≠ 0) (hnm : nm.erase = nm) (hnu : nu.erase = nu) (hen : en.erase = en) (hda : da.erase = da) :
    Pg.Good Tryz.prog 23 [.agg (rsC e c v h nm a b k nu en st da)] (vs ([101, 114, 114, 111, 114, 32] ++ itoaN e)) := by
  have hi := good23 e he.1 he.2
  have hl := itoaN_len e he.1 he.2
  have hs : ([101, 114, 114, 111, 114, 32] : List Nat).length + (itoaN e).length ≤ 9223372036854775807 := by show 6 + _ ≤ _; omega
  refine good_intro (drawW_ok mix) Tryz.func23 rfl Tryz.results23 rfl (by kernel_rfl) (Nat.le_of_ble_eq_true (by kernel_rfl)) ?_
  (repeat' (first | (simp (disch := first | assumption | omega | (simp only [Fits, maxLen, bv_len, sv_len, List.length_append, List.length_cons, List.length_nil, List.length_map, sB_size] at *; omega)) only [pgs, pgl, pgx, pgw, pgb, tyf, buildSliceV_w, pgn, Nat.reduceEqDiff, reduceIte, Nat.reduceAdd, Nat.reduceSub, Nat.reduceMul, Nat.reduceBEq, Nat.reduceLeDiff, Int.reduceToNat, Int.reduceLT, Int.reduceLE, Int.reduceEq, Int.reduceNe, Nat.reduceLT, Int.reduceNeg, Int.reduceSub, Int.reduceAdd, Int.reduceMul, eq_self, Option.some.injEq, List.getElem?_nil, Int.reduceBEq, Int.reduceBNe, if_true, if_false, ite_true, ite_false, ↓reduceIte, Tryz.f23, h0, kc4, sadd _ _ _ _ hs]) | ((with_reducible show callW _ _ _ _ _ _); first | refine callW_use _ (hi) rfl rfl rfl rfl ?_) | ((first | ((with_reducible show condC _ _ _ _ _ _ _); refine cond_at (fun hc => ?_) (fun hc => ?_)) | ((with_reducible show guardC _ _ _ _ _ _ _ _); refine guard_at (fun hc => ?_) (fun hc => ?_)) | ((with_reducible show drwG _ _ _ _ _ _ _ _ _ _); refine drw_at (fun hc => ?_) (fun hc => ?_))) <;> (try simp only [hc]) <;> (try simp only [decide_eq_true_eq, decide_eq_false_iff_not, beq_iff_eq, beq_eq_false_iff_ne, bne_iff_ne, bne_eq_false_iff_eq, Bool.not_eq_true', Bool.not_eq_false', Int.not_lt, Int.not_le, Nat.not_lt, Nat.not_le, ne_eq, Bool.not_true, Bool.not_false, Bool.not_not, Bool.true_eq_false, Bool.false_eq_true, not_false_eq_true, not_true_eq_false, Decidable.not_not] at hc)) | (with_reducible refine chk_at (by kernel_rfl) ?_)))
  (refine ret_at [] _ (by first | exact retV_one _ _ _ | exact retV_two _ _ _ _ | exact retV_three _ _ _ _ _ | exact retV_four _ _ _ _ _ _ | (simp (disch := first | assumption | omega | (simp only [Fits, maxLen, bv_len, sv_len, List.length_append, List.length_cons, List.length_nil, List.length_map, sB_size] at *; omega)) only [pgr, pgs, pgl, pgx, pgw, tyf, pgn, Nat.reduceEqDiff, reduceIte, Nat.reduceAdd, Nat.reduceSub, Nat.reduceMul, Nat.reduceBEq, Nat.reduceLeDiff, Int.reduceToNat, Int.reduceLT, Int.reduceLE, Int.reduceEq, Int.reduceNe, Nat.reduceLT, Int.reduceNeg, Int.reduceSub, Int.reduceAdd, Int.reduceMul, eq_self, Option.some.injEq, List.getElem?_nil, Int.reduceBEq, Int.reduceBNe, if_true, if_false, ite_true, ite_false, ↓reduceIte]; rfl)) (by decide) (by simp only [pgs, pgl, pgx, pgw, pgn, Nat.reduceEqDiff, reduceIte, Nat.reduceAdd, Nat.reduceSub, Nat.reduceMul, Nat.reduceBEq, Nat.reduceLeDiff, Int.reduceToNat, Int.reduceLT, Int.reduceLE, Int.reduceEq, Int.reduceNe, Nat.reduceLT, Int.reduceNeg, Int.reduceSub, Int.reduceAdd, Int.reduceMul, eq_self, Option.some.injEq, List.getElem?_nil, Int.reduceBEq, Int.reduceBNe, if_true, if_false, ite_true, ite_false, ↓reduceIte]) ?_; (first | rfl | simp only [pgs, pgl, pgx, pgw, pgn, Nat.reduceEqDiff, reduceIte, Nat.reduceAdd, Nat.reduceSub, Nat.reduceMul, Nat.reduceBEq, Nat.reduceLeDiff, Int.reduceToNat, Int.reduceLT, Int.reduceLE, Int.reduceEq, Int.reduceNe, Nat.reduceLT, Int.reduceNeg, Int.reduceSub, Int.reduceAdd, Int.reduceMul, eq_self, Option.some.injEq, List.getElem?_nil, Int.reduceBEq, Int.reduceBNe, if_true, if_false, ite_true, ite_false, ↓reduceIte]))
theorem g_Resp14 : Pg.Good Tryz.prog 23 [.agg (rsC 14 0 0 0 nls 0 0 [] nls nls false nls)] (vs [101, 114, 114, 111, 114, 32, 49, 52]) := by
  have h := g_RespErr 14 0 0 0 nls 0 0 [] nls nls false nls ⟨by decide, by decide⟩ (by decide) rfl rfl rfl rfl
  rw [itoa_14] at h
  exact h
theorem g_known : Pg.Good Tryz.prog 10 [] (vb true) := by
  have h1 := g_Fmt6
  have h2 := g_Parse0
  have h3 := g_Resp14
  refine good_intro (drawW_ok mix) Tryz.func10 rfl Tryz.results10 rfl (by kernel_rfl) (Nat.le_of_ble_eq_true (by kernel_rfl)) ?_
  (repeat' (first | (simp (disch := first | assumption | omega | (simp only [Fits, maxLen, bv_len, sv_len, List.length_append, List.length_cons, List.length_nil, List.length_map, sB_size] at *; omega)) only [pgs, pgl, pgx, pgw, pgb, tyf, buildSliceV_w, pgn, Nat.reduceEqDiff, reduceIte, Nat.reduceAdd, Nat.reduceSub, Nat.reduceMul, Nat.reduceBEq, Nat.reduceLeDiff, Int.reduceToNat, Int.reduceLT, Int.reduceLE, Int.reduceEq, Int.reduceNe, Nat.reduceLT, Int.reduceNeg, Int.reduceSub, Int.reduceAdd, Int.reduceMul, eq_self, Option.some.injEq, List.getElem?_nil, Int.reduceBEq, Int.reduceBNe, if_true, if_false, ite_true, ite_false, ↓reduceIte, Tryz.f10, kc1, kc2, kc3, ka1, ka2, str_nil, veq_eq, List.length_cons, List.length_nil, List.cons_append, List.nil_append, List.append_eq]) | ((with_reducible show callW _ _ _ _ _ _); first | refine callW_use _ (h1) rfl rfl rfl rfl ?_ | refine callW_use _ (h2) rfl rfl rfl rfl ?_ | refine callW_use _ (h3) rfl rfl rfl rfl ?_) | ((first | ((with_reducible show condC _ _ _ _ _ _ _); refine cond_at (fun hc => ?_) (fun hc => ?_)) | ((with_reducible show guardC _ _ _ _ _ _ _ _); refine guard_at (fun hc => ?_) (fun hc => ?_)) | ((with_reducible show drwG _ _ _ _ _ _ _ _ _ _); refine drw_at (fun hc => ?_) (fun hc => ?_))) <;> (try simp only [hc]) <;> (try simp only [decide_eq_true_eq, decide_eq_false_iff_not, beq_iff_eq, beq_eq_false_iff_ne, bne_iff_ne, bne_eq_false_iff_eq, Bool.not_eq_true', Bool.not_eq_false', Int.not_lt, Int.not_le, Nat.not_lt, Nat.not_le, ne_eq, Bool.not_true, Bool.not_false, Bool.not_not, Bool.true_eq_false, Bool.false_eq_true, not_false_eq_true, not_true_eq_false, Decidable.not_not] at hc)) | (with_reducible refine chk_at (by kernel_rfl) ?_)))
  (refine ret_at [] _ (by first | exact retV_one _ _ _ | exact retV_two _ _ _ _ | exact retV_three _ _ _ _ _ | exact retV_four _ _ _ _ _ _ | (simp (disch := first | assumption | omega | (simp only [Fits, maxLen, bv_len, sv_len, List.length_append, List.length_cons, List.length_nil, List.length_map, sB_size] at *; omega)) only [pgr, pgs, pgl, pgx, pgw, tyf, pgn, Nat.reduceEqDiff, reduceIte, Nat.reduceAdd, Nat.reduceSub, Nat.reduceMul, Nat.reduceBEq, Nat.reduceLeDiff, Int.reduceToNat, Int.reduceLT, Int.reduceLE, Int.reduceEq, Int.reduceNe, Nat.reduceLT, Int.reduceNeg, Int.reduceSub, Int.reduceAdd, Int.reduceMul, eq_self, Option.some.injEq, List.getElem?_nil, Int.reduceBEq, Int.reduceBNe, if_true, if_false, ite_true, ite_false, ↓reduceIte]; rfl)) (by decide) (by simp only [pgs, pgl, pgx, pgw, pgn, Nat.reduceEqDiff, reduceIte, Nat.reduceAdd, Nat.reduceSub, Nat.reduceMul, Nat.reduceBEq, Nat.reduceLeDiff, Int.reduceToNat, Int.reduceLT, Int.reduceLE, Int.reduceEq, Int.reduceNe, Nat.reduceLT, Int.reduceNeg, Int.reduceSub, Int.reduceAdd, Int.reduceMul, eq_self, Option.some.injEq, List.getElem?_nil, Int.reduceBEq, Int.reduceBNe, if_true, if_false, ite_true, ite_false, ↓reduceIte]) ?_; (first | rfl | simp only [pgs, pgl, pgx, pgw, pgn, Nat.reduceEqDiff, reduceIte, Nat.reduceAdd, Nat.reduceSub, Nat.reduceMul, Nat.reduceBEq, Nat.reduceLeDiff, Int.reduceToNat, Int.reduceLT, Int.reduceLE, Int.reduceEq, Int.reduceNe, Nat.reduceLT, Int.reduceNeg, Int.reduceSub, Int.reduceAdd, Int.reduceMul, eq_self, Option.some.injEq, List.getElem?_nil, Int.reduceBEq, Int.reduceBNe, if_true, if_false, ite_true, ite_false, ↓reduceIte]))
end Go.Proofs.YtjiolbcdfgclaaaGreatDoor
end

section
/-
  Responses: the reference's words; the data of a response.
-/
namespace Go.Proofs.YtjiolbcdfgclaaaGreatDoor
open Go Go.Pg
set_option maxRecDepth 100000
set_option linter.unusedSimpArgs false
set_option linter.unusedVariables false

theorem saddl (P : Program) (t : TypeId) (a b : List Nat) (ha : a.length ≤ 1000000000000) (hb : b.length ≤ 1000000000000) : binV P .add t (.c (.string (sB a))) (.c (.string (sB b))) = some (.c (.string (sB (a ++ b)))) := sadd P t a b (by omega)
theorem g_wordsR (l : List (List Nat)) (hl : tot l ≤ 100000000) : Pg.Good Tryz.prog 48 [fzs l] (vs (jn l)) := by
  have hx := sv_len l
  have hln := len_tot l
  refine good_intro (drawW_ok mix) Tryz.func48 rfl Tryz.results48 rfl (by kernel_rfl) (Nat.le_of_ble_eq_true (by kernel_rfl)) ?_
  (repeat' (first | (simp (disch := first | assumption | omega | (simp only [Fits, maxLen, bv_len, sv_len, List.length_append, List.length_cons, List.length_nil, List.length_map, sB_size] at *; omega)) only [pgs, pgl, pgx, pgw, pgb, tyf, buildSliceV_w, pgn, Nat.reduceEqDiff, reduceIte, Nat.reduceAdd, Nat.reduceSub, Nat.reduceMul, Nat.reduceBEq, Nat.reduceLeDiff, Int.reduceToNat, Int.reduceLT, Int.reduceLE, Int.reduceEq, Int.reduceNe, Nat.reduceLT, Int.reduceNeg, Int.reduceSub, Int.reduceAdd, Int.reduceMul, eq_self, Option.some.injEq, List.getElem?_nil, Int.reduceBEq, Int.reduceBNe, if_true, if_false, ite_true, ite_false, ↓reduceIte, Tryz.f48, str_nil]) | ((first | ((with_reducible show condC _ _ _ _ _ _ _); refine cond_at (fun hc => ?_) (fun hc => ?_)) | ((with_reducible show guardC _ _ _ _ _ _ _ _); refine guard_at (fun hc => ?_) (fun hc => ?_)) | ((with_reducible show drwG _ _ _ _ _ _ _ _ _ _); refine drw_at (fun hc => ?_) (fun hc => ?_))) <;> (try simp only [hc]) <;> (try simp only [decide_eq_true_eq, decide_eq_false_iff_not, beq_iff_eq, beq_eq_false_iff_ne, bne_iff_ne, bne_eq_false_iff_eq, Bool.not_eq_true', Bool.not_eq_false', Int.not_lt, Int.not_le, Nat.not_lt, Nat.not_le, ne_eq, Bool.not_true, Bool.not_false, Bool.not_not, Bool.true_eq_false, Bool.false_eq_true, not_false_eq_true, not_true_eq_false, Decidable.not_not] at hc)) | (with_reducible refine chk_at (by kernel_rfl) ?_)))
  refine loop_A (fun i : Nat => mkA [(0, fzs l), (3, vs (jn (l.take i))), (4, vi i)] [] 0 (fun _ => .top)) (fun i => i ≤ l.length) (fun i => l.length - i) 0 [] [] ?_ (Nat.zero_le _) ?_
  · (refine keep_mkA ?_ ?_ (top_hd _ _ _) (by decide) (by decide) (by decide) (by decide); (repeat' (first | exact trivial | refine genB_one _ _ rfl rfl ?_ ?_)); all_goals (try simp only [pgs, pgl, pgx, pgw, GenA_cons, GenA_nil, GenL_cons, GenL_nil, gen_top, gen_c, gen_fz, pgn, Nat.reduceEqDiff, reduceIte, Nat.reduceAdd, Nat.reduceSub, Nat.reduceMul, Nat.reduceBEq, Nat.reduceLeDiff, Int.reduceToNat, Int.reduceLT, Int.reduceLE, Int.reduceEq, Int.reduceNe, Nat.reduceLT, Int.reduceNeg, Int.reduceSub, Int.reduceAdd, Int.reduceMul, eq_self, Option.some.injEq, List.getElem?_nil, Int.reduceBEq, Int.reduceBNe, if_true, if_false, ite_true, ite_false, ↓reduceIte]); all_goals (try (repeat' (first | apply And.intro))); all_goals (try (first | exact trivial | exact gen_ii (by omega) | exact gen_cc rfl | exact gen_own rfl rfl | exact gen_ref rfl)))
  · intro i hi
    replace hi : i ≤ l.length := hi
    rcases Nat.lt_or_ge i l.length with hlt | hge
    · have hg := sv_get l i hlt
      have h1 : (jn (l.take i)).length ≤ 1000000000 := by have := jn_len (l.take i); have := tot_take l i; omega
      have h2 : (l.getD i []).length ≤ 1000000000 := by have := getD_tot l i; omega
      have h3 : (jn (l.take i) ++ [32]).length ≤ 1000000000000 := by simp; omega
      rcases Nat.eq_zero_or_pos i with h0 | h0
      · subst h0
        have h4 := jn_take1 hlt
        rw [List.take_zero] at h1 ⊢
        generalize l.getD 0 [] = w at hg h2 h4
        have e0 : jn ([] : List (List Nat)) = [] := rfl
        (repeat' (first | (simp (disch := first | assumption | omega | (simp only [Fits, maxLen, bv_len, sv_len, List.length_append, List.length_cons, List.length_nil, List.length_map, sB_size] at *; omega)) only [pgs, pgl, pgx, pgw, pgb, tyf, buildSliceV_w, pgn, Nat.reduceEqDiff, reduceIte, Nat.reduceAdd, Nat.reduceSub, Nat.reduceMul, Nat.reduceBEq, Nat.reduceLeDiff, Int.reduceToNat, Int.reduceLT, Int.reduceLE, Int.reduceEq, Int.reduceNe, Nat.reduceLT, Int.reduceNeg, Int.reduceSub, Int.reduceAdd, Int.reduceMul, eq_self, Option.some.injEq, List.getElem?_nil, Int.reduceBEq, Int.reduceBNe, if_true, if_false, ite_true, ite_false, ↓reduceIte, hg, e0, saddl, List.nil_append]) | ((first | ((with_reducible show condC _ _ _ _ _ _ _); refine cond_at (fun hc => ?_) (fun hc => ?_)) | ((with_reducible show guardC _ _ _ _ _ _ _ _); refine guard_at (fun hc => ?_) (fun hc => ?_)) | ((with_reducible show drwG _ _ _ _ _ _ _ _ _ _); refine drw_at (fun hc => ?_) (fun hc => ?_))) <;> (try simp only [hc]) <;> (try simp only [decide_eq_true_eq, decide_eq_false_iff_not, beq_iff_eq, beq_eq_false_iff_ne, bne_iff_ne, bne_eq_false_iff_eq, Bool.not_eq_true', Bool.not_eq_false', Int.not_lt, Int.not_le, Nat.not_lt, Nat.not_le, ne_eq, Bool.not_true, Bool.not_false, Bool.not_not, Bool.true_eq_false, Bool.false_eq_true, not_false_eq_true, not_true_eq_false, Decidable.not_not] at hc)) | (with_reducible refine chk_at (by kernel_rfl) ?_)))
        (refine back_at (0 + 1) [] [] (hlt) (by first | omega | (simp only [List.length_cons]; omega)) ?_; (refine keep_mkA ?_ ?_ (top_hd _ _ _) (by decide) (by decide) (by decide) (by decide); (repeat' (first | exact trivial | refine genB_one _ _ rfl rfl ?_ ?_)); all_goals (try simp only [pgs, pgl, pgx, pgw, GenA_cons, GenA_nil, GenL_cons, GenL_nil, gen_top, gen_c, gen_fz, pgn, Nat.reduceEqDiff, reduceIte, Nat.reduceAdd, Nat.reduceSub, Nat.reduceMul, Nat.reduceBEq, Nat.reduceLeDiff, Int.reduceToNat, Int.reduceLT, Int.reduceLE, Int.reduceEq, Int.reduceNe, Nat.reduceLT, Int.reduceNeg, Int.reduceSub, Int.reduceAdd, Int.reduceMul, eq_self, Option.some.injEq, List.getElem?_nil, Int.reduceBEq, Int.reduceBNe, if_true, if_false, ite_true, ite_false, ↓reduceIte]); all_goals (try (repeat' (first | apply And.intro))); all_goals (try (first | exact trivial | exact gen_ii (by omega) | exact gen_cc rfl | exact gen_own rfl rfl | exact gen_ref rfl))))
        all_goals exact gen_cc (by rw [h4])
      · have h4 := jn_take hlt h0
        generalize l.getD i [] = w at hg h2 h4
        (repeat' (first | (simp (disch := first | assumption | omega | (simp only [Fits, maxLen, bv_len, sv_len, List.length_append, List.length_cons, List.length_nil, List.length_map, sB_size] at *; omega)) only [pgs, pgl, pgx, pgw, pgb, tyf, buildSliceV_w, pgn, Nat.reduceEqDiff, reduceIte, Nat.reduceAdd, Nat.reduceSub, Nat.reduceMul, Nat.reduceBEq, Nat.reduceLeDiff, Int.reduceToNat, Int.reduceLT, Int.reduceLE, Int.reduceEq, Int.reduceNe, Nat.reduceLT, Int.reduceNeg, Int.reduceSub, Int.reduceAdd, Int.reduceMul, eq_self, Option.some.injEq, List.getElem?_nil, Int.reduceBEq, Int.reduceBNe, if_true, if_false, ite_true, ite_false, ↓reduceIte, hg, k32, saddl]) | ((first | ((with_reducible show condC _ _ _ _ _ _ _); refine cond_at (fun hc => ?_) (fun hc => ?_)) | ((with_reducible show guardC _ _ _ _ _ _ _ _); refine guard_at (fun hc => ?_) (fun hc => ?_)) | ((with_reducible show drwG _ _ _ _ _ _ _ _ _ _); refine drw_at (fun hc => ?_) (fun hc => ?_))) <;> (try simp only [hc]) <;> (try simp only [decide_eq_true_eq, decide_eq_false_iff_not, beq_iff_eq, beq_eq_false_iff_ne, bne_iff_ne, bne_eq_false_iff_eq, Bool.not_eq_true', Bool.not_eq_false', Int.not_lt, Int.not_le, Nat.not_lt, Nat.not_le, ne_eq, Bool.not_true, Bool.not_false, Bool.not_not, Bool.true_eq_false, Bool.false_eq_true, not_false_eq_true, not_true_eq_false, Decidable.not_not] at hc)) | (with_reducible refine chk_at (by kernel_rfl) ?_)))
        (refine back_at (i + 1) [] [] (hlt) (by first | omega | (simp only [List.length_cons]; omega)) ?_; (refine keep_mkA ?_ ?_ (top_hd _ _ _) (by decide) (by decide) (by decide) (by decide); (repeat' (first | exact trivial | refine genB_one _ _ rfl rfl ?_ ?_)); all_goals (try simp only [pgs, pgl, pgx, pgw, GenA_cons, GenA_nil, GenL_cons, GenL_nil, gen_top, gen_c, gen_fz, pgn, Nat.reduceEqDiff, reduceIte, Nat.reduceAdd, Nat.reduceSub, Nat.reduceMul, Nat.reduceBEq, Nat.reduceLeDiff, Int.reduceToNat, Int.reduceLT, Int.reduceLE, Int.reduceEq, Int.reduceNe, Nat.reduceLT, Int.reduceNeg, Int.reduceSub, Int.reduceAdd, Int.reduceMul, eq_self, Option.some.injEq, List.getElem?_nil, Int.reduceBEq, Int.reduceBNe, if_true, if_false, ite_true, ite_false, ↓reduceIte]); all_goals (try (repeat' (first | apply And.intro))); all_goals (try (first | exact trivial | exact gen_ii (by omega) | exact gen_cc rfl | exact gen_own rfl rfl | exact gen_ref rfl))))
        all_goals exact gen_cc (by rw [h4]; simp)
    · have : i = l.length := by omega
      subst this
      rw [List.take_length]
      (repeat' (first | (simp (disch := first | assumption | omega | (simp only [Fits, maxLen, bv_len, sv_len, List.length_append, List.length_cons, List.length_nil, List.length_map, sB_size] at *; omega)) only [pgs, pgl, pgx, pgw, pgb, tyf, buildSliceV_w, pgn, Nat.reduceEqDiff, reduceIte, Nat.reduceAdd, Nat.reduceSub, Nat.reduceMul, Nat.reduceBEq, Nat.reduceLeDiff, Int.reduceToNat, Int.reduceLT, Int.reduceLE, Int.reduceEq, Int.reduceNe, Nat.reduceLT, Int.reduceNeg, Int.reduceSub, Int.reduceAdd, Int.reduceMul, eq_self, Option.some.injEq, List.getElem?_nil, Int.reduceBEq, Int.reduceBNe, if_true, if_false, ite_true, ite_false, ↓reduceIte]) | ((first | ((with_reducible show condC _ _ _ _ _ _ _); refine cond_at (fun hc => ?_) (fun hc => ?_)) | ((with_reducible show guardC _ _ _ _ _ _ _ _); refine guard_at (fun hc => ?_) (fun hc => ?_)) | ((with_reducible show drwG _ _ _ _ _ _ _ _ _ _); refine drw_at (fun hc => ?_) (fun hc => ?_))) <;> (try simp only [hc]) <;> (try simp only [decide_eq_true_eq, decide_eq_false_iff_not, beq_iff_eq, beq_eq_false_iff_ne, bne_iff_ne, bne_eq_false_iff_eq, Bool.not_eq_true', Bool.not_eq_false', Int.not_lt, Int.not_le, Nat.not_lt, Nat.not_le, ne_eq, Bool.not_true, Bool.not_false, Bool.not_not, Bool.true_eq_false, Bool.false_eq_true, not_false_eq_true, not_true_eq_false, Decidable.not_not] at hc)) | (with_reducible refine chk_at (by kernel_rfl) ?_)))
      (refine ret_at [] _ (by first | exact retV_one _ _ _ | exact retV_two _ _ _ _ | exact retV_three _ _ _ _ _ | exact retV_four _ _ _ _ _ _ | (simp (disch := first | assumption | omega | (simp only [Fits, maxLen, bv_len, sv_len, List.length_append, List.length_cons, List.length_nil, List.length_map, sB_size] at *; omega)) only [pgr, pgs, pgl, pgx, pgw, tyf, pgn, Nat.reduceEqDiff, reduceIte, Nat.reduceAdd, Nat.reduceSub, Nat.reduceMul, Nat.reduceBEq, Nat.reduceLeDiff, Int.reduceToNat, Int.reduceLT, Int.reduceLE, Int.reduceEq, Int.reduceNe, Nat.reduceLT, Int.reduceNeg, Int.reduceSub, Int.reduceAdd, Int.reduceMul, eq_self, Option.some.injEq, List.getElem?_nil, Int.reduceBEq, Int.reduceBNe, if_true, if_false, ite_true, ite_false, ↓reduceIte]; rfl)) (by decide) (by simp only [pgs, pgl, pgx, pgw, pgn, Nat.reduceEqDiff, reduceIte, Nat.reduceAdd, Nat.reduceSub, Nat.reduceMul, Nat.reduceBEq, Nat.reduceLeDiff, Int.reduceToNat, Int.reduceLT, Int.reduceLE, Int.reduceEq, Int.reduceNe, Nat.reduceLT, Int.reduceNeg, Int.reduceSub, Int.reduceAdd, Int.reduceMul, eq_self, Option.some.injEq, List.getElem?_nil, Int.reduceBEq, Int.reduceBNe, if_true, if_false, ite_true, ite_false, ↓reduceIte]) ?_; (first | rfl | simp only [pgs, pgl, pgx, pgw, pgn, Nat.reduceEqDiff, reduceIte, Nat.reduceAdd, Nat.reduceSub, Nat.reduceMul, Nat.reduceBEq, Nat.reduceLeDiff, Int.reduceToNat, Int.reduceLT, Int.reduceLE, Int.reduceEq, Int.reduceNe, Nat.reduceLT, Int.reduceNeg, Int.reduceSub, Int.reduceAdd, Int.reduceMul, eq_self, Option.some.injEq, List.getElem?_nil, Int.reduceBEq, Int.reduceBNe, if_true, if_false, ite_true, ite_false, ↓reduceIte]))
theorem g_numR (n : Int) (h : Wt n) : Pg.Good Tryz.prog 51 [vi n] (vs (itoaN n)) := by
  have h1 := good24 n h.1 h.2
  refine good_intro (drawW_ok mix) Tryz.func51 rfl Tryz.results51 rfl (by kernel_rfl) (Nat.le_of_ble_eq_true (by kernel_rfl)) ?_
  (repeat' (first | (simp (disch := first | assumption | omega | (simp only [Fits, maxLen, bv_len, sv_len, List.length_append, List.length_cons, List.length_nil, List.length_map, sB_size] at *; omega)) only [pgs, pgl, pgx, pgw, pgb, tyf, buildSliceV_w, pgn, Nat.reduceEqDiff, reduceIte, Nat.reduceAdd, Nat.reduceSub, Nat.reduceMul, Nat.reduceBEq, Nat.reduceLeDiff, Int.reduceToNat, Int.reduceLT, Int.reduceLE, Int.reduceEq, Int.reduceNe, Nat.reduceLT, Int.reduceNeg, Int.reduceSub, Int.reduceAdd, Int.reduceMul, eq_self, Option.some.injEq, List.getElem?_nil, Int.reduceBEq, Int.reduceBNe, if_true, if_false, ite_true, ite_false, ↓reduceIte, Tryz.f51]) | ((with_reducible show callW _ _ _ _ _ _); first | refine callW_use _ (h1) rfl rfl rfl rfl ?_) | ((first | ((with_reducible show condC _ _ _ _ _ _ _); refine cond_at (fun hc => ?_) (fun hc => ?_)) | ((with_reducible show guardC _ _ _ _ _ _ _ _); refine guard_at (fun hc => ?_) (fun hc => ?_)) | ((with_reducible show drwG _ _ _ _ _ _ _ _ _ _); refine drw_at (fun hc => ?_) (fun hc => ?_))) <;> (try simp only [hc]) <;> (try simp only [decide_eq_true_eq, decide_eq_false_iff_not, beq_iff_eq, beq_eq_false_iff_ne, bne_iff_ne, bne_eq_false_iff_eq, Bool.not_eq_true', Bool.not_eq_false', Int.not_lt, Int.not_le, Nat.not_lt, Nat.not_le, ne_eq, Bool.not_true, Bool.not_false, Bool.not_not, Bool.true_eq_false, Bool.false_eq_true, not_false_eq_true, not_true_eq_false, Decidable.not_not] at hc)) | (with_reducible refine chk_at (by kernel_rfl) ?_)))
  (refine ret_at [] _ (by first | exact retV_one _ _ _ | exact retV_two _ _ _ _ | exact retV_three _ _ _ _ _ | exact retV_four _ _ _ _ _ _ | (simp (disch := first | assumption | omega | (simp only [Fits, maxLen, bv_len, sv_len, List.length_append, List.length_cons, List.length_nil, List.length_map, sB_size] at *; omega)) only [pgr, pgs, pgl, pgx, pgw, tyf, pgn, Nat.reduceEqDiff, reduceIte, Nat.reduceAdd, Nat.reduceSub, Nat.reduceMul, Nat.reduceBEq, Nat.reduceLeDiff, Int.reduceToNat, Int.reduceLT, Int.reduceLE, Int.reduceEq, Int.reduceNe, Nat.reduceLT, Int.reduceNeg, Int.reduceSub, Int.reduceAdd, Int.reduceMul, eq_self, Option.some.injEq, List.getElem?_nil, Int.reduceBEq, Int.reduceBNe, if_true, if_false, ite_true, ite_false, ↓reduceIte]; rfl)) (by decide) (by simp only [pgs, pgl, pgx, pgw, pgn, Nat.reduceEqDiff, reduceIte, Nat.reduceAdd, Nat.reduceSub, Nat.reduceMul, Nat.reduceBEq, Nat.reduceLeDiff, Int.reduceToNat, Int.reduceLT, Int.reduceLE, Int.reduceEq, Int.reduceNe, Nat.reduceLT, Int.reduceNeg, Int.reduceSub, Int.reduceAdd, Int.reduceMul, eq_self, Option.some.injEq, List.getElem?_nil, Int.reduceBEq, Int.reduceBNe, if_true, if_false, ite_true, ite_false, ↓reduceIte]) ?_; (first | rfl | simp only [pgs, pgl, pgx, pgw, pgn, Nat.reduceEqDiff, reduceIte, Nat.reduceAdd, Nat.reduceSub, Nat.reduceMul, Nat.reduceBEq, Nat.reduceLeDiff, Int.reduceToNat, Int.reduceLT, Int.reduceLE, Int.reduceEq, Int.reduceNe, Nat.reduceLT, Int.reduceNeg, Int.reduceSub, Int.reduceAdd, Int.reduceMul, eq_self, Option.some.injEq, List.getElem?_nil, Int.reduceBEq, Int.reduceBNe, if_true, if_false, ite_true, ite_false, ↓reduceIte]))
theorem g_bytesR (l : List Nat) (ho : oct l) (hl : l.length ≤ 1000000) : Pg.Good Tryz.prog 52 [fzb l] (vs (fb l)) := by
  have h1 := good34 l ho (by omega)
  have hb := bv_len l
  unfold fb
  refine good_intro (drawW_ok mix) Tryz.func52 rfl Tryz.results52 rfl (by kernel_rfl) (Nat.le_of_ble_eq_true (by kernel_rfl)) ?_
  by_cases h0 : l.length = 0
  · rw [if_pos h0]
    (repeat' (first | (simp (disch := first | assumption | omega | (simp only [Fits, maxLen, bv_len, sv_len, List.length_append, List.length_cons, List.length_nil, List.length_map, sB_size] at *; omega)) only [pgs, pgl, pgx, pgw, pgb, tyf, buildSliceV_w, pgn, Nat.reduceEqDiff, reduceIte, Nat.reduceAdd, Nat.reduceSub, Nat.reduceMul, Nat.reduceBEq, Nat.reduceLeDiff, Int.reduceToNat, Int.reduceLT, Int.reduceLE, Int.reduceEq, Int.reduceNe, Nat.reduceLT, Int.reduceNeg, Int.reduceSub, Int.reduceAdd, Int.reduceMul, eq_self, Option.some.injEq, List.getElem?_nil, Int.reduceBEq, Int.reduceBNe, if_true, if_false, ite_true, ite_false, ↓reduceIte, Tryz.f52, bv_len, h0, k45]) | ((first | ((with_reducible show condC _ _ _ _ _ _ _); refine cond_at (fun hc => ?_) (fun hc => ?_)) | ((with_reducible show guardC _ _ _ _ _ _ _ _); refine guard_at (fun hc => ?_) (fun hc => ?_)) | ((with_reducible show drwG _ _ _ _ _ _ _ _ _ _); refine drw_at (fun hc => ?_) (fun hc => ?_))) <;> (try simp only [hc]) <;> (try simp only [decide_eq_true_eq, decide_eq_false_iff_not, beq_iff_eq, beq_eq_false_iff_ne, bne_iff_ne, bne_eq_false_iff_eq, Bool.not_eq_true', Bool.not_eq_false', Int.not_lt, Int.not_le, Nat.not_lt, Nat.not_le, ne_eq, Bool.not_true, Bool.not_false, Bool.not_not, Bool.true_eq_false, Bool.false_eq_true, not_false_eq_true, not_true_eq_false, Decidable.not_not] at hc)) | (with_reducible refine chk_at (by kernel_rfl) ?_)))
    (refine ret_at [] _ (by first | exact retV_one _ _ _ | exact retV_two _ _ _ _ | exact retV_three _ _ _ _ _ | exact retV_four _ _ _ _ _ _ | (simp (disch := first | assumption | omega | (simp only [Fits, maxLen, bv_len, sv_len, List.length_append, List.length_cons, List.length_nil, List.length_map, sB_size] at *; omega)) only [pgr, pgs, pgl, pgx, pgw, tyf, pgn, Nat.reduceEqDiff, reduceIte, Nat.reduceAdd, Nat.reduceSub, Nat.reduceMul, Nat.reduceBEq, Nat.reduceLeDiff, Int.reduceToNat, Int.reduceLT, Int.reduceLE, Int.reduceEq, Int.reduceNe, Nat.reduceLT, Int.reduceNeg, Int.reduceSub, Int.reduceAdd, Int.reduceMul, eq_self, Option.some.injEq, List.getElem?_nil, Int.reduceBEq, Int.reduceBNe, if_true, if_false, ite_true, ite_false, ↓reduceIte]; rfl)) (by decide) (by simp only [pgs, pgl, pgx, pgw, pgn, Nat.reduceEqDiff, reduceIte, Nat.reduceAdd, Nat.reduceSub, Nat.reduceMul, Nat.reduceBEq, Nat.reduceLeDiff, Int.reduceToNat, Int.reduceLT, Int.reduceLE, Int.reduceEq, Int.reduceNe, Nat.reduceLT, Int.reduceNeg, Int.reduceSub, Int.reduceAdd, Int.reduceMul, eq_self, Option.some.injEq, List.getElem?_nil, Int.reduceBEq, Int.reduceBNe, if_true, if_false, ite_true, ite_false, ↓reduceIte]) ?_; (first | rfl | simp only [pgs, pgl, pgx, pgw, pgn, Nat.reduceEqDiff, reduceIte, Nat.reduceAdd, Nat.reduceSub, Nat.reduceMul, Nat.reduceBEq, Nat.reduceLeDiff, Int.reduceToNat, Int.reduceLT, Int.reduceLE, Int.reduceEq, Int.reduceNe, Nat.reduceLT, Int.reduceNeg, Int.reduceSub, Int.reduceAdd, Int.reduceMul, eq_self, Option.some.injEq, List.getElem?_nil, Int.reduceBEq, Int.reduceBNe, if_true, if_false, ite_true, ite_false, ↓reduceIte]))
  · rw [if_neg h0]
    (repeat' (first | (simp (disch := first | assumption | omega | (simp only [Fits, maxLen, bv_len, sv_len, List.length_append, List.length_cons, List.length_nil, List.length_map, sB_size] at *; omega)) only [pgs, pgl, pgx, pgw, pgb, tyf, buildSliceV_w, pgn, Nat.reduceEqDiff, reduceIte, Nat.reduceAdd, Nat.reduceSub, Nat.reduceMul, Nat.reduceBEq, Nat.reduceLeDiff, Int.reduceToNat, Int.reduceLT, Int.reduceLE, Int.reduceEq, Int.reduceNe, Nat.reduceLT, Int.reduceNeg, Int.reduceSub, Int.reduceAdd, Int.reduceMul, eq_self, Option.some.injEq, List.getElem?_nil, Int.reduceBEq, Int.reduceBNe, if_true, if_false, ite_true, ite_false, ↓reduceIte, Tryz.f52, bv_len, h0, convK_42]) | ((with_reducible show callW _ _ _ _ _ _); first | refine callW_use _ (h1) rfl rfl rfl rfl ?_) | ((first | ((with_reducible show condC _ _ _ _ _ _ _); refine cond_at (fun hc => ?_) (fun hc => ?_)) | ((with_reducible show guardC _ _ _ _ _ _ _ _); refine guard_at (fun hc => ?_) (fun hc => ?_)) | ((with_reducible show drwG _ _ _ _ _ _ _ _ _ _); refine drw_at (fun hc => ?_) (fun hc => ?_))) <;> (try simp only [hc]) <;> (try simp only [decide_eq_true_eq, decide_eq_false_iff_not, beq_iff_eq, beq_eq_false_iff_ne, bne_iff_ne, bne_eq_false_iff_eq, Bool.not_eq_true', Bool.not_eq_false', Int.not_lt, Int.not_le, Nat.not_lt, Nat.not_le, ne_eq, Bool.not_true, Bool.not_false, Bool.not_not, Bool.true_eq_false, Bool.false_eq_true, not_false_eq_true, not_true_eq_false, Decidable.not_not] at hc)) | (with_reducible refine chk_at (by kernel_rfl) ?_)))
    (refine ret_at [] _ (by first | exact retV_one _ _ _ | exact retV_two _ _ _ _ | exact retV_three _ _ _ _ _ | exact retV_four _ _ _ _ _ _ | (simp (disch := first | assumption | omega | (simp only [Fits, maxLen, bv_len, sv_len, List.length_append, List.length_cons, List.length_nil, List.length_map, sB_size] at *; omega)) only [pgr, pgs, pgl, pgx, pgw, tyf, pgn, Nat.reduceEqDiff, reduceIte, Nat.reduceAdd, Nat.reduceSub, Nat.reduceMul, Nat.reduceBEq, Nat.reduceLeDiff, Int.reduceToNat, Int.reduceLT, Int.reduceLE, Int.reduceEq, Int.reduceNe, Nat.reduceLT, Int.reduceNeg, Int.reduceSub, Int.reduceAdd, Int.reduceMul, eq_self, Option.some.injEq, List.getElem?_nil, Int.reduceBEq, Int.reduceBNe, if_true, if_false, ite_true, ite_false, ↓reduceIte]; rfl)) (by decide) (by simp only [pgs, pgl, pgx, pgw, pgn, Nat.reduceEqDiff, reduceIte, Nat.reduceAdd, Nat.reduceSub, Nat.reduceMul, Nat.reduceBEq, Nat.reduceLeDiff, Int.reduceToNat, Int.reduceLT, Int.reduceLE, Int.reduceEq, Int.reduceNe, Nat.reduceLT, Int.reduceNeg, Int.reduceSub, Int.reduceAdd, Int.reduceMul, eq_self, Option.some.injEq, List.getElem?_nil, Int.reduceBEq, Int.reduceBNe, if_true, if_false, ite_true, ite_false, ↓reduceIte]) ?_; (first | rfl | simp only [pgs, pgl, pgx, pgw, pgn, Nat.reduceEqDiff, reduceIte, Nat.reduceAdd, Nat.reduceSub, Nat.reduceMul, Nat.reduceBEq, Nat.reduceLeDiff, Int.reduceToNat, Int.reduceLT, Int.reduceLE, Int.reduceEq, Int.reduceNe, Nat.reduceLT, Int.reduceNeg, Int.reduceSub, Int.reduceAdd, Int.reduceMul, eq_self, Option.some.injEq, List.getElem?_nil, Int.reduceBEq, Int.reduceBNe, if_true, if_false, ite_true, ite_false, ↓reduceIte]))
theorem g_anyKey (l : List Nat) (ho : oct l) : Pg.Good Tryz.prog 59 [vs l] (vs (kw l)) := by
  have h := good12 l ho
  unfold fkV at h
  unfold kw
  refine good_intro (drawW_ok mix) Tryz.func59 rfl Tryz.results59 rfl (by kernel_rfl) (Nat.le_of_ble_eq_true (by kernel_rfl)) ?_
  by_cases h0 : (fk l).2 = 0
  · rw [h0] at h
    rw [if_pos h0]
    (repeat' (first | (simp (disch := first | assumption | omega | (simp only [Fits, maxLen, bv_len, sv_len, List.length_append, List.length_cons, List.length_nil, List.length_map, sB_size] at *; omega)) only [pgs, pgl, pgx, pgw, pgb, tyf, buildSliceV_w, pgn, Nat.reduceEqDiff, reduceIte, Nat.reduceAdd, Nat.reduceSub, Nat.reduceMul, Nat.reduceBEq, Nat.reduceLeDiff, Int.reduceToNat, Int.reduceLT, Int.reduceLE, Int.reduceEq, Int.reduceNe, Nat.reduceLT, Int.reduceNeg, Int.reduceSub, Int.reduceAdd, Int.reduceMul, eq_self, Option.some.injEq, List.getElem?_nil, Int.reduceBEq, Int.reduceBNe, if_true, if_false, ite_true, ite_false, ↓reduceIte, Tryz.f59]) | ((with_reducible show callW _ _ _ _ _ _); first | refine callW_use _ (h) rfl rfl rfl rfl ?_) | ((first | ((with_reducible show condC _ _ _ _ _ _ _); refine cond_at (fun hc => ?_) (fun hc => ?_)) | ((with_reducible show guardC _ _ _ _ _ _ _ _); refine guard_at (fun hc => ?_) (fun hc => ?_)) | ((with_reducible show drwG _ _ _ _ _ _ _ _ _ _); refine drw_at (fun hc => ?_) (fun hc => ?_))) <;> (try simp only [hc]) <;> (try simp only [decide_eq_true_eq, decide_eq_false_iff_not, beq_iff_eq, beq_eq_false_iff_ne, bne_iff_ne, bne_eq_false_iff_eq, Bool.not_eq_true', Bool.not_eq_false', Int.not_lt, Int.not_le, Nat.not_lt, Nat.not_le, ne_eq, Bool.not_true, Bool.not_false, Bool.not_not, Bool.true_eq_false, Bool.false_eq_true, not_false_eq_true, not_true_eq_false, Decidable.not_not] at hc)) | (with_reducible refine chk_at (by kernel_rfl) ?_)))
    (refine ret_at [] _ (by first | exact retV_one _ _ _ | exact retV_two _ _ _ _ | exact retV_three _ _ _ _ _ | exact retV_four _ _ _ _ _ _ | (simp (disch := first | assumption | omega | (simp only [Fits, maxLen, bv_len, sv_len, List.length_append, List.length_cons, List.length_nil, List.length_map, sB_size] at *; omega)) only [pgr, pgs, pgl, pgx, pgw, tyf, pgn, Nat.reduceEqDiff, reduceIte, Nat.reduceAdd, Nat.reduceSub, Nat.reduceMul, Nat.reduceBEq, Nat.reduceLeDiff, Int.reduceToNat, Int.reduceLT, Int.reduceLE, Int.reduceEq, Int.reduceNe, Nat.reduceLT, Int.reduceNeg, Int.reduceSub, Int.reduceAdd, Int.reduceMul, eq_self, Option.some.injEq, List.getElem?_nil, Int.reduceBEq, Int.reduceBNe, if_true, if_false, ite_true, ite_false, ↓reduceIte]; rfl)) (by decide) (by simp only [pgs, pgl, pgx, pgw, pgn, Nat.reduceEqDiff, reduceIte, Nat.reduceAdd, Nat.reduceSub, Nat.reduceMul, Nat.reduceBEq, Nat.reduceLeDiff, Int.reduceToNat, Int.reduceLT, Int.reduceLE, Int.reduceEq, Int.reduceNe, Nat.reduceLT, Int.reduceNeg, Int.reduceSub, Int.reduceAdd, Int.reduceMul, eq_self, Option.some.injEq, List.getElem?_nil, Int.reduceBEq, Int.reduceBNe, if_true, if_false, ite_true, ite_false, ↓reduceIte]) ?_; (first | rfl | simp only [pgs, pgl, pgx, pgw, pgn, Nat.reduceEqDiff, reduceIte, Nat.reduceAdd, Nat.reduceSub, Nat.reduceMul, Nat.reduceBEq, Nat.reduceLeDiff, Int.reduceToNat, Int.reduceLT, Int.reduceLE, Int.reduceEq, Int.reduceNe, Nat.reduceLT, Int.reduceNeg, Int.reduceSub, Int.reduceAdd, Int.reduceMul, eq_self, Option.some.injEq, List.getElem?_nil, Int.reduceBEq, Int.reduceBNe, if_true, if_false, ite_true, ite_false, ↓reduceIte]))
  · have h1 : ((fk l).2 : Int) ≠ 0 := by omega
    rw [if_neg h0]
    (repeat' (first | (simp (disch := first | assumption | omega | (simp only [Fits, maxLen, bv_len, sv_len, List.length_append, List.length_cons, List.length_nil, List.length_map, sB_size] at *; omega)) only [pgs, pgl, pgx, pgw, pgb, tyf, buildSliceV_w, pgn, Nat.reduceEqDiff, reduceIte, Nat.reduceAdd, Nat.reduceSub, Nat.reduceMul, Nat.reduceBEq, Nat.reduceLeDiff, Int.reduceToNat, Int.reduceLT, Int.reduceLE, Int.reduceEq, Int.reduceNe, Nat.reduceLT, Int.reduceNeg, Int.reduceSub, Int.reduceAdd, Int.reduceMul, eq_self, Option.some.injEq, List.getElem?_nil, Int.reduceBEq, Int.reduceBNe, if_true, if_false, ite_true, ite_false, ↓reduceIte, Tryz.f59, k45]) | ((with_reducible show callW _ _ _ _ _ _); first | refine callW_use _ (h) rfl rfl rfl rfl ?_) | ((first | ((with_reducible show condC _ _ _ _ _ _ _); refine cond_at (fun hc => ?_) (fun hc => ?_)) | ((with_reducible show guardC _ _ _ _ _ _ _ _); refine guard_at (fun hc => ?_) (fun hc => ?_)) | ((with_reducible show drwG _ _ _ _ _ _ _ _ _ _); refine drw_at (fun hc => ?_) (fun hc => ?_))) <;> (try simp only [hc]) <;> (try simp only [decide_eq_true_eq, decide_eq_false_iff_not, beq_iff_eq, beq_eq_false_iff_ne, bne_iff_ne, bne_eq_false_iff_eq, Bool.not_eq_true', Bool.not_eq_false', Int.not_lt, Int.not_le, Nat.not_lt, Nat.not_le, ne_eq, Bool.not_true, Bool.not_false, Bool.not_not, Bool.true_eq_false, Bool.false_eq_true, not_false_eq_true, not_true_eq_false, Decidable.not_not] at hc)) | (with_reducible refine chk_at (by kernel_rfl) ?_)))
    (refine ret_at [] _ (by first | exact retV_one _ _ _ | exact retV_two _ _ _ _ | exact retV_three _ _ _ _ _ | exact retV_four _ _ _ _ _ _ | (simp (disch := first | assumption | omega | (simp only [Fits, maxLen, bv_len, sv_len, List.length_append, List.length_cons, List.length_nil, List.length_map, sB_size] at *; omega)) only [pgr, pgs, pgl, pgx, pgw, tyf, pgn, Nat.reduceEqDiff, reduceIte, Nat.reduceAdd, Nat.reduceSub, Nat.reduceMul, Nat.reduceBEq, Nat.reduceLeDiff, Int.reduceToNat, Int.reduceLT, Int.reduceLE, Int.reduceEq, Int.reduceNe, Nat.reduceLT, Int.reduceNeg, Int.reduceSub, Int.reduceAdd, Int.reduceMul, eq_self, Option.some.injEq, List.getElem?_nil, Int.reduceBEq, Int.reduceBNe, if_true, if_false, ite_true, ite_false, ↓reduceIte]; rfl)) (by decide) (by simp only [pgs, pgl, pgx, pgw, pgn, Nat.reduceEqDiff, reduceIte, Nat.reduceAdd, Nat.reduceSub, Nat.reduceMul, Nat.reduceBEq, Nat.reduceLeDiff, Int.reduceToNat, Int.reduceLT, Int.reduceLE, Int.reduceEq, Int.reduceNe, Nat.reduceLT, Int.reduceNeg, Int.reduceSub, Int.reduceAdd, Int.reduceMul, eq_self, Option.some.injEq, List.getElem?_nil, Int.reduceBEq, Int.reduceBNe, if_true, if_false, ite_true, ite_false, ↓reduceIte]) ?_; (first | rfl | simp only [pgs, pgl, pgx, pgw, pgn, Nat.reduceEqDiff, reduceIte, Nat.reduceAdd, Nat.reduceSub, Nat.reduceMul, Nat.reduceBEq, Nat.reduceLeDiff, Int.reduceToNat, Int.reduceLT, Int.reduceLE, Int.reduceEq, Int.reduceNe, Nat.reduceLT, Int.reduceNeg, Int.reduceSub, Int.reduceAdd, Int.reduceMul, eq_self, Option.some.injEq, List.getElem?_nil, Int.reduceBEq, Int.reduceBNe, if_true, if_false, ite_true, ite_false, ↓reduceIte]))
/-- Entries as cells. -/
def env (l : List (List Nat × Int × Int)) : List V := l.map fun x => V.agg [vs x.1, vi x.2.1, vi x.2.2]
theorem env_len (l : List (List Nat × Int × Int)) : (env l).length = l.length := by simp [env]
theorem env_get (l : List (List Nat × Int × Int)) (i : Nat) (h : i < l.length) : (env l)[i]? = some (.agg [vs (l.getD i ([], 0, 0)).1, vi (l.getD i ([], 0, 0)).2.1, vi (l.getD i ([], 0, 0)).2.2]) := by simp [env, h, List.getD]
abbrev fze (l : List (List Nat × Int × Int)) : V := .sl .fz 3 (env l)
/-- A response. -/
structure Rs where
  err : Int
  commit : Int
  version : Int
  handle : Int
  names : List (List Nat)
  value : Int
  error : Int
  key : List Nat
  numbers : List Int
  entries : List (List Nat × Int × Int)
  sat : Bool
  data : List Nat
abbrev rsF (r : Rs) : List V := rsC r.err r.commit r.version r.handle (fzs r.names) r.value r.error r.key (fzi r.numbers) (fze r.entries) r.sat (fzb r.data)
/-- What is asked of its parts. -/
structure Rs.Ok (r : Rs) : Prop where
  err : Wt r.err
  commit : Wt r.commit
  version : Wt r.version
  handle : Wt r.handle
  names : ∀ x ∈ r.names, oct x
  value : Wt r.value
  error : Wt r.error
  key : oct r.key
  numbers : ∀ n ∈ r.numbers, Wt n
  entries : ∀ x ∈ r.entries, oct x.1 ∧ Wt x.2.1 ∧ Wt x.2.2
  data : oct r.data
/-- Its bounds. -/
structure Rs.Lt (r : Rs) : Prop where
  names : r.names.length ≤ 20
  name : ∀ x ∈ r.names, x.length ≤ 100
  numbers : r.numbers.length ≤ 50
  entries : r.entries.length ≤ 30
  key : r.key.length ≤ 100
  ekey : ∀ x ∈ r.entries, x.1.length ≤ 100
  data : r.data.length ≤ 300
def enW : List (List Nat × Int × Int) → List (List Nat)
  | [] => []
  | x :: l => kw x.1 :: itoaN x.2.1 :: itoaN x.2.2 :: enW l
theorem enW_app (a b : List (List Nat × Int × Int)) : enW (a ++ b) = enW a ++ enW b := by
  induction a with
  | nil => rfl
  | cons x a ih => simp only [List.cons_append, enW, ih]
theorem enW_next (l : List (List Nat × Int × Int)) (i : Nat) (x : List Nat × Int × Int) (hx : l[i]? = some x) : enW (l.take (i + 1)) = enW (l.take i) ++ [kw x.1, itoaN x.2.1, itoaN x.2.2] := by
  have hi := (List.getElem?_eq_some_iff.1 hx).1
  rw [List.take_succ_eq_append_getElem hi, enW_app, (List.getElem?_eq_some_iff.1 hx).2]
  rfl
theorem enW_len (l : List (List Nat × Int × Int)) : (enW l).length = 3 * l.length := by
  induction l with
  | nil => rfl
  | cons x l ih => simp only [enW, List.length_cons, ih]; omega
theorem map_next {α β : Type} (f : α → β) (l : List α) (i : Nat) (x : α) (hx : l[i]? = some x) : (l.take (i + 1)).map f = (l.take i).map f ++ [f x] := by
  have hi := (List.getElem?_eq_some_iff.1 hx).1
  rw [List.take_succ_eq_append_getElem hi, List.map_append, (List.getElem?_eq_some_iff.1 hx).2]
  rfl
def q0 (r : Rs) : List (List Nat) := [[111, 107], itoaN r.commit, itoaN r.version, itoaN r.handle]
def q1 (r : Rs) : List (List Nat) := if r.names.length = 0 then [] else [110, 97, 109, 101, 115] :: r.names
def q2 (r : Rs) : List (List Nat) := if r.value = 0 then [] else [[118, 97, 108, 117, 101], itoaN r.value]
def q3 (r : Rs) : List (List Nat) := if r.error = 0 then [] else [[101, 114, 114, 111, 114], itoaN r.error]
def q4 (r : Rs) : List (List Nat) := if r.key.length = 0 then [] else [[107, 101, 121], kw r.key]
def q5 (r : Rs) : List (List Nat) := if r.numbers.length = 0 then [] else [110, 117, 109, 98, 101, 114, 115] :: r.numbers.map itoaN
def q6 (r : Rs) : List (List Nat) := if r.entries.length = 0 then [] else [101, 110, 116, 114, 105, 101, 115] :: enW r.entries
def q7 (r : Rs) : List (List Nat) := if r.sat = true then [[115, 97, 116, 117, 114, 97, 116, 101, 100]] else []
def q8 (r : Rs) : List (List Nat) := if r.data.length = 0 then [] else [[100, 97, 116, 97], fb r.data]
/-- A response's words. -/
def rspW (r : Rs) : List (List Nat) := q0 r ++ q1 r ++ q2 r ++ q3 r ++ q4 r ++ q5 r ++ q6 r ++ q7 r ++ q8 r
end Go.Proofs.YtjiolbcdfgclaaaGreatDoor
end

section
/-
  Responses: their words' bounds.
-/
namespace Go.Proofs.YtjiolbcdfgclaaaGreatDoor
open Go Go.Pg
set_option linter.unusedSimpArgs false
set_option linter.unusedVariables false
theorem itoaN_w (n : Int) (h : Wt n) : (itoaN n).length ≤ 20 := itoaN_len n h.1 h.2
theorem enW_tot (l : List (List Nat × Int × Int)) (h : ∀ x ∈ l, oct x.1 ∧ Wt x.2.1 ∧ Wt x.2.2) : tot (enW l) ≤ l.length * 108 := by
  induction l with
  | nil => simp [enW, tot_nil]
  | cons x l ih =>
    have h1 := kw_len x.1
    have h2 := itoaN_w x.2.1 (h x (by simp)).2.1
    have h4 := itoaN_w x.2.2 (h x (by simp)).2.2
    have h3 := ih fun y hy => h y (by simp [hy])
    simp only [enW, tot_cons, List.length_cons]
    omega
theorem nuW_tot (l : List Int) (h : ∀ x ∈ l, Wt x) : tot (l.map itoaN) ≤ l.length * 21 := by
  induction l with
  | nil => simp [tot_nil]
  | cons x l ih =>
    have h1 := itoaN_w x (h x (by simp))
    have h3 := ih fun y hy => h y (by simp [hy])
    simp only [List.map_cons, tot_cons, List.length_cons]
    omega
theorem rspW_tot (r : Rs) (ok : r.Ok) (lt : r.Lt) : tot (rspW r) ≤ 10000 := by
  have a0 : tot (q0 r) ≤ 66 := by
    have := itoaN_w _ ok.commit
    have := itoaN_w _ ok.version
    have := itoaN_w _ ok.handle
    simp only [q0, tot_cons, tot_nil, List.length_cons, List.length_nil]; omega
  have a1 : tot (q1 r) ≤ 2100 := by
    have h1 := tot_bound lt.name
    have h2 := lt.names
    have h3 : r.names.length * (100 + 1) ≤ 20 * 101 := Nat.mul_le_mul_right 101 h2
    unfold q1; split
    · simp [tot_nil]
    · simp only [tot_cons, List.length_cons, List.length_nil]; omega
  have a2 : tot (q2 r) ≤ 30 := by
    have := itoaN_w _ ok.value
    unfold q2; split
    · simp [tot_nil]
    · simp only [tot_cons, tot_nil, List.length_cons, List.length_nil]; omega
  have a3 : tot (q3 r) ≤ 30 := by
    have := itoaN_w _ ok.error
    unfold q3; split
    · simp [tot_nil]
    · simp only [tot_cons, tot_nil, List.length_cons, List.length_nil]; omega
  have a4 : tot (q4 r) ≤ 80 := by
    have := kw_len r.key
    unfold q4; split
    · simp [tot_nil]
    · simp only [tot_cons, tot_nil, List.length_cons, List.length_nil]; omega
  have a5 : tot (q5 r) ≤ 1100 := by
    have := nuW_tot _ ok.numbers
    have := lt.numbers
    unfold q5; split
    · simp [tot_nil]
    · simp only [tot_cons, tot_nil, List.length_cons, List.length_nil]; omega
  have a6 : tot (q6 r) ≤ 3300 := by
    have := enW_tot _ ok.entries
    have := lt.entries
    unfold q6; split
    · simp [tot_nil]
    · simp only [tot_cons, tot_nil, List.length_cons, List.length_nil]; omega
  have a7 : tot (q7 r) ≤ 10 := by
    unfold q7; split
    · simp [tot_cons, tot_nil]
    · simp [tot_nil]
  have a8 : tot (q8 r) ≤ 700 := by
    have := fb_len r.data
    have := lt.data
    unfold q8; split
    · simp [tot_nil]
    · simp only [tot_cons, tot_nil, List.length_cons, List.length_nil]; omega
  unfold rspW
  simp only [tot_app]
  omega
end Go.Proofs.YtjiolbcdfgclaaaGreatDoor
end
