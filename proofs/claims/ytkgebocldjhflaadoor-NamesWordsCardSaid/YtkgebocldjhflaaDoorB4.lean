/-
  Texts of this claim, merged: PgNB, PgNC, PgND, PgNE. Each bears its own remark.
-/
import Derived.Test.YtkgebocldjhflaaDoorB3
set_option linter.unusedVariables false
set_option linter.unusedSimpArgs false
set_option linter.unusedSectionVars false
section
/-
  Names: strings.Builder: copyCheck, WriteByte, String, as contracts of states: the Builder lies in a box of the caller's.
-/
namespace Go.Proofs.YtkgebocldjhflaaDoor
open Go Go.Pg
set_option maxRecDepth 10000
set_option linter.unusedSimpArgs false

theorem good54 (b o : Nat) : GoodX Tryd.prog 54 [.ref b o] (.ref b o) := by
  rintro L w cargs ⟨_, _, rfl, h, rfl⟩
  refine ⟨_, ?_, h⟩
  rw [run_callFunc_extern Tryd.func54 (by kernel_rfl) (by kernel_rfl) (by kernel_rfl) (e := Extern.AbiNoEscape.same) (by kernel_rfl)]
  rfl
theorem po1 : ptrOk Tryd.prog 43 64 45 2 0 = true := by kernel_rfl
theorem po2 : ptrOk Tryd.prog 64 43 45 2 0 = true := by kernel_rfl
theorem unE_at (e : Nat → V) (b : Nat → Option (TypeId × List V)) (n : Nat) (h : Nat → V) : outS ⟨e, b, n, h⟩ = ⟨unE h, b, n, unH h⟩ := rfl
theorem unE_map (ψ : V → V) (f : Nat → V) : unE (mapE ψ f) = mapE ψ (unE f) := rfl
theorem unH_map (ψ : V → V) (f : Nat → V) : unH (mapE ψ f) = mapE ψ (unH f) := rfl
theorem inlS_at (args : List V) (e : Nat → V) (b : Nat → Option (TypeId × List V)) (n : Nat) (h : Nat → V) : inlS args ⟨e, b, n, h⟩ = ⟨initE args 0, b, n, pair e h⟩ := rfl
theorem inlQ_ret (P : Program) (rs : List ResultVar) (s' : St) (r : V) (s : St) : inlQ P rs s' r .ret s = inlC P rs s' r s := rfl
theorem inlQ_normal (P : Program) (rs : List ResultVar) (s' : St) (r : V) (s : St) : inlQ P rs s' r .normal s = inlC P rs s' r s := rfl
theorem inl_at {P : Program} {rs : List ResultVar} {s' : St} {r : V} {e : Nat → V} {b : Nat → Option (TypeId × List V)} {n : Nat} {h : Nat → V} (h1 : retV P ⟨e, b, n, h⟩ rs = some r) (h2 : (⟨unE h, b, n, unH h⟩ : St) = s') : inlC P rs s' r ⟨e, b, n, h⟩ := ⟨h1, h2⟩
theorem upd_upd {α : Type} (f : Nat → α) (d : Nat) (v v' : α) : upd (upd f d v) d v' = upd f d v' := by
  funext t; simp only [upd]; split <;> rfl
theorem upd_self {α : Type} (f : Nat → α) (d : Nat) (v : α) (h : f d = v) : upd f d v = f := by
  funext t; simp only [upd]; split
  · rename_i ht; rw [ht, h]
  · rfl

/-- A box that holds a Builder. -/
def isBld (b : Nat) (x : V) : Prop := x = .c (.pointer none) ∨ x = .ref b 0
theorem good46 (e : Nat → V) (bx : Nat → Option (TypeId × List V)) (n : Nat) (h : Nat → V) (b : Nat) (p x : V) (hb : bx b = some (45, [p, x])) (hp : isBld b p) :
    GoodZ Tryd.prog 46 [.ref b 0] ⟨e, bx, n, h⟩ ⟨e, upd bx b (some (45, [.ref b 0, x])), n, h⟩ (.tup []) := by
  refine goodZ_intro (drawW_ok mix) Tryd.func46 rfl Tryd.results46 rfl (by kernel_rfl) (Nat.le_of_ble_eq_true (by kernel_rfl)) ?_
  rcases hp with rfl | rfl
  · (repeat' (first | (simp (disch := first | assumption | omega | (simp only [Fits, maxLen, bv_len, sv_len, List.length_append, List.length_cons, List.length_nil, List.length_map, sB_size] at *; omega)) only [pgs, pgl, pgx, pgw, pgb, tyf, buildSliceV_w, decide_true, decide_false, Nat.reduceEqDiff, reduceIte, Nat.reduceAdd, Nat.reduceSub, Nat.reduceMul, Nat.reduceBEq, Nat.max_def, Nat.reduceLeDiff, Int.reduceToNat, Int.reduceLT, Int.reduceLE, Int.reduceEq, Int.reduceNe, Nat.reduceLT, Bool.not_eq_true, Int.toNat_natCast, Int.reduceNeg, Int.reduceSub, Int.reduceAdd, Int.reduceMul, Int.natCast_add, Int.cast_ofNat_Int, eq_self, and_self, Option.some.injEq, not_true_eq_false, not_false_eq_true, List.getElem?_nil, Nat.reduceLeDiff, Nat.le_refl, Int.reduceBEq, Int.reduceBNe, if_true, if_false, ite_true, ite_false, Nat.add_zero, Nat.zero_add, ↓reduceIte, Tryd.f46, inlS_at, inlQ_ret, inlQ_normal, hb, po1, po2]) | ((with_reducible show callW _ _ _ _ _ _); first | refine callZ _ ((good54 _ _).z _) rfl ?_) | ((with_reducible show condC _ _ _ _ _ _ _); refine cond_at (fun hc => ?_) (fun hc => ?_) <;> (try simp only [hc]) <;> (try simp only [decide_eq_true_eq, decide_eq_false_iff_not, beq_iff_eq, beq_eq_false_iff_ne, bne_iff_ne, bne_eq_false_iff_eq, Bool.not_eq_true', Bool.not_eq_false', Int.not_lt, Int.not_le, Nat.not_lt, Nat.not_le, ne_eq, Bool.not_true, Bool.not_false, Bool.not_not, Bool.true_eq_false, Bool.false_eq_true, not_false_eq_true, not_true_eq_false, Decidable.not_not] at hc)) | ((with_reducible show guardC _ _ _ _ _ _ _ _); refine guard_at (fun hc => ?_) (fun hc => ?_) <;> (try simp only [hc]) <;> (try simp only [decide_eq_true_eq, decide_eq_false_iff_not, beq_iff_eq, beq_eq_false_iff_ne, bne_iff_ne, bne_eq_false_iff_eq, Bool.not_eq_true', Bool.not_eq_false', Int.not_lt, Int.not_le, Nat.not_lt, Nat.not_le, ne_eq, Bool.not_true, Bool.not_false, Bool.not_not, Bool.true_eq_false, Bool.false_eq_true, not_false_eq_true, not_true_eq_false, Decidable.not_not] at hc)) | ((with_reducible show drwG _ _ _ _ _ _ _ _ _ _); refine drw_at (fun hc => ?_) (fun hc => ?_) <;> (try simp only [hc]) <;> (try simp only [decide_eq_true_eq, decide_eq_false_iff_not, beq_iff_eq, beq_eq_false_iff_ne, bne_iff_ne, bne_eq_false_iff_eq, Bool.not_eq_true', Bool.not_eq_false', Int.not_lt, Int.not_le, Nat.not_lt, Nat.not_le, ne_eq, Bool.not_true, Bool.not_false, Bool.not_not, Bool.true_eq_false, Bool.false_eq_true, not_false_eq_true, not_true_eq_false, Decidable.not_not] at hc)) | (with_reducible refine chk_at (by kernel_rfl) ?_)))
    refine inl_at (retV_none _ _) ?_
    rw [unE_pair, unH_pair]
  · (repeat' (first | (simp (disch := first | assumption | omega | (simp only [Fits, maxLen, bv_len, sv_len, List.length_append, List.length_cons, List.length_nil, List.length_map, sB_size] at *; omega)) only [pgs, pgl, pgx, pgw, pgb, tyf, buildSliceV_w, decide_true, decide_false, Nat.reduceEqDiff, reduceIte, Nat.reduceAdd, Nat.reduceSub, Nat.reduceMul, Nat.reduceBEq, Nat.max_def, Nat.reduceLeDiff, Int.reduceToNat, Int.reduceLT, Int.reduceLE, Int.reduceEq, Int.reduceNe, Nat.reduceLT, Bool.not_eq_true, Int.toNat_natCast, Int.reduceNeg, Int.reduceSub, Int.reduceAdd, Int.reduceMul, Int.natCast_add, Int.cast_ofNat_Int, eq_self, and_self, Option.some.injEq, not_true_eq_false, not_false_eq_true, List.getElem?_nil, Nat.reduceLeDiff, Nat.le_refl, Int.reduceBEq, Int.reduceBNe, if_true, if_false, ite_true, ite_false, Nat.add_zero, Nat.zero_add, ↓reduceIte, Tryd.f46, inlS_at, inlQ_ret, inlQ_normal, hb]) | ((with_reducible show condC _ _ _ _ _ _ _); refine cond_at (fun hc => ?_) (fun hc => ?_) <;> (try simp only [hc]) <;> (try simp only [decide_eq_true_eq, decide_eq_false_iff_not, beq_iff_eq, beq_eq_false_iff_ne, bne_iff_ne, bne_eq_false_iff_eq, Bool.not_eq_true', Bool.not_eq_false', Int.not_lt, Int.not_le, Nat.not_lt, Nat.not_le, ne_eq, Bool.not_true, Bool.not_false, Bool.not_not, Bool.true_eq_false, Bool.false_eq_true, not_false_eq_true, not_true_eq_false, Decidable.not_not] at hc)) | ((with_reducible show guardC _ _ _ _ _ _ _ _); refine guard_at (fun hc => ?_) (fun hc => ?_) <;> (try simp only [hc]) <;> (try simp only [decide_eq_true_eq, decide_eq_false_iff_not, beq_iff_eq, beq_eq_false_iff_ne, bne_iff_ne, bne_eq_false_iff_eq, Bool.not_eq_true', Bool.not_eq_false', Int.not_lt, Int.not_le, Nat.not_lt, Nat.not_le, ne_eq, Bool.not_true, Bool.not_false, Bool.not_not, Bool.true_eq_false, Bool.false_eq_true, not_false_eq_true, not_true_eq_false, Decidable.not_not] at hc)) | ((with_reducible show drwG _ _ _ _ _ _ _ _ _ _); refine drw_at (fun hc => ?_) (fun hc => ?_) <;> (try simp only [hc]) <;> (try simp only [decide_eq_true_eq, decide_eq_false_iff_not, beq_iff_eq, beq_eq_false_iff_ne, bne_iff_ne, bne_eq_false_iff_eq, Bool.not_eq_true', Bool.not_eq_false', Int.not_lt, Int.not_le, Nat.not_lt, Nat.not_le, ne_eq, Bool.not_true, Bool.not_false, Bool.not_not, Bool.true_eq_false, Bool.false_eq_true, not_false_eq_true, not_true_eq_false, Decidable.not_not] at hc)) | (with_reducible refine chk_at (by kernel_rfl) ?_)))
    refine inl_at (retV_none _ _) ?_
    rw [unE_pair, unH_pair, upd_self _ _ _ hb]
end Go.Proofs.YtkgebocldjhflaaDoor
end

section
/-
  Names: strings.Builder: WriteByte, String, as contracts of states.
-/
namespace Go.Proofs.YtkgebocldjhflaaDoor
open Go Go.Pg
set_option maxRecDepth 10000
set_option linter.unusedSimpArgs false

theorem ofConst_nilIface : ofConst .nilIface = .c .nilIface := rfl
theorem upd_mapB (ψ : V → V) (f : Nat → Option (TypeId × List V)) (b : Nat) (v y : Option (TypeId × List V)) : upd (mapB ψ (upd f b v)) b y = upd (mapB ψ f) b y := by
  funext t; simp only [upd, mapB]; split <;> rfl
theorem good31n (e : Nat → V) (bx : Nat → Option (TypeId × List V)) (n : Nat) (h : Nat → V) (b : Nat) (p : V) (c : Nat) (hb : bx b = some (45, [p, .c (.slice none 0 0)])) (hp : isBld b p) :
    GoodZ Tryd.prog 31 [.ref b 0, .c (.int .u8 (c : Int))] ⟨e, bx, n, h⟩ ⟨e, upd bx b (some (45, [.ref b 0, .sl (.own (n + 1) 5) 1 (bv [c])])), n + 2, h⟩ (.c .nilIface) := by
  refine goodZ_intro (drawW_ok mix) Tryd.func31 rfl Tryd.results31 rfl (by kernel_rfl) (Nat.le_of_ble_eq_true (by kernel_rfl)) ?_
  (repeat' (first | (simp (disch := first | assumption | omega | (simp only [Fits, maxLen, bv_len, sv_len, List.length_append, List.length_cons, List.length_nil, List.length_map, sB_size] at *; omega)) only [pgs, pgl, pgx, pgw, pgb, tyf, buildSliceV_w, decide_true, decide_false, Nat.reduceEqDiff, reduceIte, Nat.reduceAdd, Nat.reduceSub, Nat.reduceMul, Nat.reduceBEq, Nat.max_def, Nat.reduceLeDiff, Int.reduceToNat, Int.reduceLT, Int.reduceLE, Int.reduceEq, Int.reduceNe, Nat.reduceLT, Bool.not_eq_true, Int.toNat_natCast, Int.reduceNeg, Int.reduceSub, Int.reduceAdd, Int.reduceMul, Int.natCast_add, Int.cast_ofNat_Int, eq_self, and_self, Option.some.injEq, not_true_eq_false, not_false_eq_true, List.getElem?_nil, Nat.reduceLeDiff, Nat.le_refl, Int.reduceBEq, Int.reduceBNe, if_true, if_false, ite_true, ite_false, Nat.add_zero, Nat.zero_add, ↓reduceIte, Tryd.f31, inlS_at, inlQ_ret, inlQ_normal, hb, ofConst_nilIface]) | ((with_reducible show callW _ _ _ _ _ _); first | refine callZ _ (good46 _ _ _ _ _ _ _ hb hp) rfl ?_) | ((with_reducible show condC _ _ _ _ _ _ _); refine cond_at (fun hc => ?_) (fun hc => ?_) <;> (try simp only [hc]) <;> (try simp only [decide_eq_true_eq, decide_eq_false_iff_not, beq_iff_eq, beq_eq_false_iff_ne, bne_iff_ne, bne_eq_false_iff_eq, Bool.not_eq_true', Bool.not_eq_false', Int.not_lt, Int.not_le, Nat.not_lt, Nat.not_le, ne_eq, Bool.not_true, Bool.not_false, Bool.not_not, Bool.true_eq_false, Bool.false_eq_true, not_false_eq_true, not_true_eq_false, Decidable.not_not] at hc)) | ((with_reducible show guardC _ _ _ _ _ _ _ _); refine guard_at (fun hc => ?_) (fun hc => ?_) <;> (try simp only [hc]) <;> (try simp only [decide_eq_true_eq, decide_eq_false_iff_not, beq_iff_eq, beq_eq_false_iff_ne, bne_iff_ne, bne_eq_false_iff_eq, Bool.not_eq_true', Bool.not_eq_false', Int.not_lt, Int.not_le, Nat.not_lt, Nat.not_le, ne_eq, Bool.not_true, Bool.not_false, Bool.not_not, Bool.true_eq_false, Bool.false_eq_true, not_false_eq_true, not_true_eq_false, Decidable.not_not] at hc)) | ((with_reducible show drwG _ _ _ _ _ _ _ _ _ _); refine drw_at (fun hc => ?_) (fun hc => ?_) <;> (try simp only [hc]) <;> (try simp only [decide_eq_true_eq, decide_eq_false_iff_not, beq_iff_eq, beq_eq_false_iff_ne, bne_iff_ne, bne_eq_false_iff_eq, Bool.not_eq_true', Bool.not_eq_false', Int.not_lt, Int.not_le, Nat.not_lt, Nat.not_le, ne_eq, Bool.not_true, Bool.not_false, Bool.not_not, Bool.true_eq_false, Bool.false_eq_true, not_false_eq_true, not_true_eq_false, Decidable.not_not] at hc)) | (with_reducible refine chk_at (by kernel_rfl) ?_)))
  refine inl_at (retV_one _ _ _) ?_
  rw [unE_pair, unH_pair, upd_upd]
  rfl
theorem good31 (e : Nat → V) (bx : Nat → Option (TypeId × List V)) (n : Nat) (h : Nat → V) (b id : Nat) (p : V) (l : List Nat) (c : Nat) (hb : bx b = some (45, [p, .sl (.own id 5) 1 (bv l)])) (hp : isBld b p) (hl : l.length < 140737488355328) :
    GoodZ Tryd.prog 31 [.ref b 0, .c (.int .u8 (c : Int))] ⟨e, bx, n, h⟩ ⟨mapE (poison id) e, upd (mapB (poison id) bx) b (some (45, [.ref b 0, .sl (.own id 5) 1 (bv (l ++ [c]))])), max (n + 1) (id + 1), mapE (poison id) h⟩ (.c .nilIface) := by
  refine goodZ_intro (drawW_ok mix) Tryd.func31 rfl Tryd.results31 rfl (by kernel_rfl) (Nat.le_of_ble_eq_true (by kernel_rfl)) ?_
  (repeat' (first | (simp (disch := first | assumption | omega | (simp only [Fits, maxLen, bv_len, sv_len, List.length_append, List.length_cons, List.length_nil, List.length_map, sB_size] at *; omega)) only [pgs, pgl, pgx, pgw, pgb, tyf, buildSliceV_w, decide_true, decide_false, Nat.reduceEqDiff, reduceIte, Nat.reduceAdd, Nat.reduceSub, Nat.reduceMul, Nat.reduceBEq, Nat.max_def, Nat.reduceLeDiff, Int.reduceToNat, Int.reduceLT, Int.reduceLE, Int.reduceEq, Int.reduceNe, Nat.reduceLT, Bool.not_eq_true, Int.toNat_natCast, Int.reduceNeg, Int.reduceSub, Int.reduceAdd, Int.reduceMul, Int.natCast_add, Int.cast_ofNat_Int, eq_self, and_self, Option.some.injEq, not_true_eq_false, not_false_eq_true, List.getElem?_nil, Nat.reduceLeDiff, Nat.le_refl, Int.reduceBEq, Int.reduceBNe, if_true, if_false, ite_true, ite_false, Nat.add_zero, Nat.zero_add, ↓reduceIte, Tryd.f31, inlS_at, inlQ_ret, inlQ_normal, hb, ofConst_nilIface]) | ((with_reducible show callW _ _ _ _ _ _); first | refine callZ _ (good46 _ _ _ _ _ _ _ hb hp) rfl ?_) | ((with_reducible show condC _ _ _ _ _ _ _); refine cond_at (fun hc => ?_) (fun hc => ?_) <;> (try simp only [hc]) <;> (try simp only [decide_eq_true_eq, decide_eq_false_iff_not, beq_iff_eq, beq_eq_false_iff_ne, bne_iff_ne, bne_eq_false_iff_eq, Bool.not_eq_true', Bool.not_eq_false', Int.not_lt, Int.not_le, Nat.not_lt, Nat.not_le, ne_eq, Bool.not_true, Bool.not_false, Bool.not_not, Bool.true_eq_false, Bool.false_eq_true, not_false_eq_true, not_true_eq_false, Decidable.not_not] at hc)) | ((with_reducible show guardC _ _ _ _ _ _ _ _); refine guard_at (fun hc => ?_) (fun hc => ?_) <;> (try simp only [hc]) <;> (try simp only [decide_eq_true_eq, decide_eq_false_iff_not, beq_iff_eq, beq_eq_false_iff_ne, bne_iff_ne, bne_eq_false_iff_eq, Bool.not_eq_true', Bool.not_eq_false', Int.not_lt, Int.not_le, Nat.not_lt, Nat.not_le, ne_eq, Bool.not_true, Bool.not_false, Bool.not_not, Bool.true_eq_false, Bool.false_eq_true, not_false_eq_true, not_true_eq_false, Decidable.not_not] at hc)) | ((with_reducible show drwG _ _ _ _ _ _ _ _ _ _); refine drw_at (fun hc => ?_) (fun hc => ?_) <;> (try simp only [hc]) <;> (try simp only [decide_eq_true_eq, decide_eq_false_iff_not, beq_iff_eq, beq_eq_false_iff_ne, bne_iff_ne, bne_eq_false_iff_eq, Bool.not_eq_true', Bool.not_eq_false', Int.not_lt, Int.not_le, Nat.not_lt, Nat.not_le, ne_eq, Bool.not_true, Bool.not_false, Bool.not_not, Bool.true_eq_false, Bool.false_eq_true, not_false_eq_true, not_true_eq_false, Decidable.not_not] at hc)) | (with_reducible refine chk_at (by kernel_rfl) ?_)))
  refine inl_at (retV_one _ _ _) ?_
  rw [unE_map, unH_map, unE_pair, unH_pair, upd_mapB]
  simp [bv]
theorem oc (l : List Nat) (ho : oct l) : u8L (bv l) = some (l.map UInt8.ofNat) := by
  induction l with
  | nil => rfl
  | cons a l ih =>
    have h1 := ho a (by simp)
    have h2 := ih (fun x hx => ho x (by simp [hx]))
    simp only [bv, List.map_cons] at h2 ⊢
    unfold u8L
    rw [if_pos ⟨by omega, by omega⟩, h2]
    simp
theorem sdV_bv (t : Tag) (k : Nat) (l : List Nat) (h : 0 < l.length) : sdV (.sl t k (bv l)) = some (.el t k (bv l) 0 0) := by
  cases l with
  | nil => simp at h
  | cons a l => rfl
theorem pt61 : ptrTo Tryd.prog 61 = some 5 := by kernel_rfl
theorem co5 : Tryd.prog.cellsOf 5 = 1 := by kernel_rfl
theorem usV_bv (e : Nat → V) (bx : Nat → Option (TypeId × List V)) (n : Nat) (h : Nat → V) (id : Nat) (l : List Nat) (ho : oct l) (hl : 0 < l.length ∧ l.length ≤ 140737488355328) :
    usV Tryd.prog ⟨e, bx, n, h⟩ 61 (.el (.own id 5) 1 (bv l) 0 0) (.c (.int .i64 l.length)) = some (.c (.string (sB l)), ⟨mapE (frz id) e, mapB (frz id) bx, n, mapE (frz id) h⟩) := by
  unfold usV
  simp only [oc l ho, Option.bind_some, bv_len]
  rw [if_pos ⟨pt61, co5, trivial, by omega, by omega⟩]
  rfl
theorem good32 (e : Nat → V) (bx : Nat → Option (TypeId × List V)) (n : Nat) (h : Nat → V) (b id : Nat) (p : V) (l : List Nat) (hb : bx b = some (45, [p, .sl (.own id 5) 1 (bv l)])) (hl : 0 < l.length ∧ l.length ≤ 140737488355328) (ho : oct l) :
    GoodZ Tryd.prog 32 [.ref b 0] ⟨e, bx, n, h⟩ ⟨mapE (frz id) e, mapB (frz id) bx, n, mapE (frz id) h⟩ (.c (.string (sB l))) := by
  refine goodZ_intro (drawW_ok mix) Tryd.func32 rfl Tryd.results32 rfl (by kernel_rfl) (Nat.le_of_ble_eq_true (by kernel_rfl)) ?_
  (repeat' (first | (simp (disch := first | assumption | omega | (simp only [Fits, maxLen, bv_len, sv_len, List.length_append, List.length_cons, List.length_nil, List.length_map, sB_size] at *; omega)) only [pgs, pgl, pgx, pgw, pgb, tyf, buildSliceV_w, decide_true, decide_false, Nat.reduceEqDiff, reduceIte, Nat.reduceAdd, Nat.reduceSub, Nat.reduceMul, Nat.reduceBEq, Nat.max_def, Nat.reduceLeDiff, Int.reduceToNat, Int.reduceLT, Int.reduceLE, Int.reduceEq, Int.reduceNe, Nat.reduceLT, Bool.not_eq_true, Int.toNat_natCast, Int.reduceNeg, Int.reduceSub, Int.reduceAdd, Int.reduceMul, Int.natCast_add, Int.cast_ofNat_Int, eq_self, and_self, Option.some.injEq, not_true_eq_false, not_false_eq_true, List.getElem?_nil, Nat.reduceLeDiff, Nat.le_refl, Int.reduceBEq, Int.reduceBNe, if_true, if_false, ite_true, ite_false, Nat.add_zero, Nat.zero_add, ↓reduceIte, Tryd.f32, inlS_at, inlQ_ret, inlQ_normal, hb, sdV_bv, usV_bv _ _ _ _ _ _ ho hl]) | ((with_reducible show condC _ _ _ _ _ _ _); refine cond_at (fun hc => ?_) (fun hc => ?_) <;> (try simp only [hc]) <;> (try simp only [decide_eq_true_eq, decide_eq_false_iff_not, beq_iff_eq, beq_eq_false_iff_ne, bne_iff_ne, bne_eq_false_iff_eq, Bool.not_eq_true', Bool.not_eq_false', Int.not_lt, Int.not_le, Nat.not_lt, Nat.not_le, ne_eq, Bool.not_true, Bool.not_false, Bool.not_not, Bool.true_eq_false, Bool.false_eq_true, not_false_eq_true, not_true_eq_false, Decidable.not_not] at hc)) | ((with_reducible show guardC _ _ _ _ _ _ _ _); refine guard_at (fun hc => ?_) (fun hc => ?_) <;> (try simp only [hc]) <;> (try simp only [decide_eq_true_eq, decide_eq_false_iff_not, beq_iff_eq, beq_eq_false_iff_ne, bne_iff_ne, bne_eq_false_iff_eq, Bool.not_eq_true', Bool.not_eq_false', Int.not_lt, Int.not_le, Nat.not_lt, Nat.not_le, ne_eq, Bool.not_true, Bool.not_false, Bool.not_not, Bool.true_eq_false, Bool.false_eq_true, not_false_eq_true, not_true_eq_false, Decidable.not_not] at hc)) | ((with_reducible show drwG _ _ _ _ _ _ _ _ _ _); refine drw_at (fun hc => ?_) (fun hc => ?_) <;> (try simp only [hc]) <;> (try simp only [decide_eq_true_eq, decide_eq_false_iff_not, beq_iff_eq, beq_eq_false_iff_ne, bne_iff_ne, bne_eq_false_iff_eq, Bool.not_eq_true', Bool.not_eq_false', Int.not_lt, Int.not_le, Nat.not_lt, Nat.not_le, ne_eq, Bool.not_true, Bool.not_false, Bool.not_not, Bool.true_eq_false, Bool.false_eq_true, not_false_eq_true, not_true_eq_false, Decidable.not_not] at hc)) | (with_reducible refine chk_at (by kernel_rfl) ?_)))
  refine inl_at (retV_one _ _ _) ?_
  rw [unE_map, unH_map, unE_pair, unH_pair]
end Go.Proofs.YtkgebocldjhflaaDoor
end

section
/-
  Names: FormatKey, the program's, of any string.
-/
namespace Go.Proofs.YtkgebocldjhflaaDoor
open Go Go.Pg
set_option maxRecDepth 10000
set_option linter.unusedSimpArgs false

theorem shr4b (a : Nat) : Int.fdiv (a : Int) (2 ^ min 4 IntKind.u8.bits) = ((a / 16 : Nat) : Int) := shr4 a
theorem hexix (d : Nat) (k : IntKind) (h : d < 16) : ixV Tryd.prog 9 (.c (.string (sB hexd))) (.c (.int k (d : Nat))) = some (.c (.int .u8 (hx d : Nat))) := by
  rw [ixV_sB _ _ _ _ _ hexd_oct (by omega) (by simp [hexd]; omega), if_pos is9]
  rfl
theorem good11 (l : List Nat) (ho : oct l) : Pg.Good Tryd.prog 11 [.c (.string (sB l))] (fkV l) := by
  refine good_intro (drawW_ok mix) Tryd.func11 rfl Tryd.results11 rfl (by kernel_rfl) (Nat.le_of_ble_eq_true (by kernel_rfl)) ?_
  have g1 := good15 l
  unfold fkV fk
  cases h1 : isKey l <;> rw [h1] at g1
  · (repeat' (first | (simp (disch := first | assumption | omega | (simp only [Fits, maxLen, bv_len, sv_len, List.length_append, List.length_cons, List.length_nil, List.length_map, sB_size] at *; omega)) only [pgs, pgl, pgx, pgw, pgb, tyf, buildSliceV_w, decide_true, decide_false, Nat.reduceEqDiff, reduceIte, Nat.reduceAdd, Nat.reduceSub, Nat.reduceMul, Nat.reduceBEq, Nat.max_def, Nat.reduceLeDiff, Int.reduceToNat, Int.reduceLT, Int.reduceLE, Int.reduceEq, Int.reduceNe, Nat.reduceLT, Bool.not_eq_true, Int.toNat_natCast, Int.reduceNeg, Int.reduceSub, Int.reduceAdd, Int.reduceMul, Int.natCast_add, Int.cast_ofNat_Int, eq_self, and_self, Option.some.injEq, not_true_eq_false, not_false_eq_true, List.getElem?_nil, Nat.reduceLeDiff, Nat.le_refl, Int.reduceBEq, Int.reduceBNe, if_true, if_false, ite_true, ite_false, Nat.add_zero, Nat.zero_add, ↓reduceIte, Tryd.f11, nils]) | ((with_reducible show callW _ _ _ _ _ _); first | refine callW_use _ (g1) rfl rfl rfl rfl ?_) | ((with_reducible show condC _ _ _ _ _ _ _); refine cond_at (fun hc => ?_) (fun hc => ?_) <;> (try simp only [hc]) <;> (try simp only [decide_eq_true_eq, decide_eq_false_iff_not, beq_iff_eq, beq_eq_false_iff_ne, bne_iff_ne, bne_eq_false_iff_eq, Bool.not_eq_true', Bool.not_eq_false', Int.not_lt, Int.not_le, Nat.not_lt, Nat.not_le, ne_eq, Bool.not_true, Bool.not_false, Bool.not_not, Bool.true_eq_false, Bool.false_eq_true, not_false_eq_true, not_true_eq_false, Decidable.not_not] at hc)) | ((with_reducible show guardC _ _ _ _ _ _ _ _); refine guard_at (fun hc => ?_) (fun hc => ?_) <;> (try simp only [hc]) <;> (try simp only [decide_eq_true_eq, decide_eq_false_iff_not, beq_iff_eq, beq_eq_false_iff_ne, bne_iff_ne, bne_eq_false_iff_eq, Bool.not_eq_true', Bool.not_eq_false', Int.not_lt, Int.not_le, Nat.not_lt, Nat.not_le, ne_eq, Bool.not_true, Bool.not_false, Bool.not_not, Bool.true_eq_false, Bool.false_eq_true, not_false_eq_true, not_true_eq_false, Decidable.not_not] at hc)) | ((with_reducible show drwG _ _ _ _ _ _ _ _ _ _); refine drw_at (fun hc => ?_) (fun hc => ?_) <;> (try simp only [hc]) <;> (try simp only [decide_eq_true_eq, decide_eq_false_iff_not, beq_iff_eq, beq_eq_false_iff_ne, bne_iff_ne, bne_eq_false_iff_eq, Bool.not_eq_true', Bool.not_eq_false', Int.not_lt, Int.not_le, Nat.not_lt, Nat.not_le, ne_eq, Bool.not_true, Bool.not_false, Bool.not_not, Bool.true_eq_false, Bool.false_eq_true, not_false_eq_true, not_true_eq_false, Decidable.not_not] at hc)) | (with_reducible refine chk_at (by kernel_rfl) ?_)))
    (refine ret_at [] _ (by first | exact retV_one _ _ _ | exact retV_two _ _ _ _ | exact retV_three _ _ _ _ _ | exact retV_four _ _ _ _ _ _) (by decide) (by simp only [pgs, pgl, pgx, pgw, decide_true, decide_false, Nat.reduceEqDiff, reduceIte, Nat.reduceAdd, Nat.reduceSub, Nat.reduceMul, Nat.reduceBEq, Nat.max_def, Nat.reduceLeDiff, Int.reduceToNat, Int.reduceLT, Int.reduceLE, Int.reduceEq, Int.reduceNe, Nat.reduceLT, Bool.not_eq_true, Int.toNat_natCast, Int.reduceNeg, Int.reduceSub, Int.reduceAdd, Int.reduceMul, Int.natCast_add, Int.cast_ofNat_Int, eq_self, and_self, Option.some.injEq, not_true_eq_false, not_false_eq_true, List.getElem?_nil, Nat.reduceLeDiff, Nat.le_refl, Int.reduceBEq, Int.reduceBNe, if_true, if_false, ite_true, ite_false, Nat.add_zero, Nat.zero_add, ↓reduceIte]) ?_; (first | rfl | (simp only [pgs, pgl, pgx, pgw, decide_true, decide_false, Nat.reduceEqDiff, reduceIte, Nat.reduceAdd, Nat.reduceSub, Nat.reduceMul, Nat.reduceBEq, Nat.max_def, Nat.reduceLeDiff, Int.reduceToNat, Int.reduceLT, Int.reduceLE, Int.reduceEq, Int.reduceNe, Nat.reduceLT, Bool.not_eq_true, Int.toNat_natCast, Int.reduceNeg, Int.reduceSub, Int.reduceAdd, Int.reduceMul, Int.natCast_add, Int.cast_ofNat_Int, eq_self, and_self, Option.some.injEq, not_true_eq_false, not_false_eq_true, List.getElem?_nil, Nat.reduceLeDiff, Nat.le_refl, Int.reduceBEq, Int.reduceBNe, if_true, if_false, ite_true, ite_false, Nat.add_zero, Nat.zero_add, ↓reduceIte]; done) | (simp only [pgs, pgl, pgx, pgw, decide_true, decide_false, Nat.reduceEqDiff, reduceIte, Nat.reduceAdd, Nat.reduceSub, Nat.reduceMul, Nat.reduceBEq, Nat.max_def, Nat.reduceLeDiff, Int.reduceToNat, Int.reduceLT, Int.reduceLE, Int.reduceEq, Int.reduceNe, Nat.reduceLT, Bool.not_eq_true, Int.toNat_natCast, Int.reduceNeg, Int.reduceSub, Int.reduceAdd, Int.reduceMul, Int.natCast_add, Int.cast_ofNat_Int, eq_self, and_self, Option.some.injEq, not_true_eq_false, not_false_eq_true, List.getElem?_nil, Nat.reduceLeDiff, Nat.le_refl, Int.reduceBEq, Int.reduceBNe, if_true, if_false, ite_true, ite_false, Nat.add_zero, Nat.zero_add, ↓reduceIte])))
  have hl := key_len h1
  have g2 := good30 l ho (by omega)
  cases h2 : plain l <;> rw [h2] at g2
  · (repeat' (first | (simp (disch := first | assumption | omega | (simp only [Fits, maxLen, bv_len, sv_len, List.length_append, List.length_cons, List.length_nil, List.length_map, sB_size] at *; omega)) only [pgs, pgl, pgx, pgw, pgb, tyf, buildSliceV_w, decide_true, decide_false, Nat.reduceEqDiff, reduceIte, Nat.reduceAdd, Nat.reduceSub, Nat.reduceMul, Nat.reduceBEq, Nat.max_def, Nat.reduceLeDiff, Int.reduceToNat, Int.reduceLT, Int.reduceLE, Int.reduceEq, Int.reduceNe, Nat.reduceLT, Bool.not_eq_true, Int.toNat_natCast, Int.reduceNeg, Int.reduceSub, Int.reduceAdd, Int.reduceMul, Int.natCast_add, Int.cast_ofNat_Int, eq_self, and_self, Option.some.injEq, not_true_eq_false, not_false_eq_true, List.getElem?_nil, Nat.reduceLeDiff, Nat.le_refl, Int.reduceBEq, Int.reduceBNe, if_true, if_false, ite_true, ite_false, Nat.add_zero, Nat.zero_add, ↓reduceIte, Tryd.f11, nils]) | ((with_reducible show callW _ _ _ _ _ _); first | refine callW_use _ (g1) rfl rfl rfl rfl ?_ | refine callW_use _ (g2) rfl rfl rfl rfl ?_ | refine callZ _ (good31n _ _ _ _ _ _ 37 rfl (.inl rfl)) rfl ?_) | ((with_reducible show condC _ _ _ _ _ _ _); refine cond_at (fun hc => ?_) (fun hc => ?_) <;> (try simp only [hc]) <;> (try simp only [decide_eq_true_eq, decide_eq_false_iff_not, beq_iff_eq, beq_eq_false_iff_ne, bne_iff_ne, bne_eq_false_iff_eq, Bool.not_eq_true', Bool.not_eq_false', Int.not_lt, Int.not_le, Nat.not_lt, Nat.not_le, ne_eq, Bool.not_true, Bool.not_false, Bool.not_not, Bool.true_eq_false, Bool.false_eq_true, not_false_eq_true, not_true_eq_false, Decidable.not_not] at hc)) | ((with_reducible show guardC _ _ _ _ _ _ _ _); refine guard_at (fun hc => ?_) (fun hc => ?_) <;> (try simp only [hc]) <;> (try simp only [decide_eq_true_eq, decide_eq_false_iff_not, beq_iff_eq, beq_eq_false_iff_ne, bne_iff_ne, bne_eq_false_iff_eq, Bool.not_eq_true', Bool.not_eq_false', Int.not_lt, Int.not_le, Nat.not_lt, Nat.not_le, ne_eq, Bool.not_true, Bool.not_false, Bool.not_not, Bool.true_eq_false, Bool.false_eq_true, not_false_eq_true, not_true_eq_false, Decidable.not_not] at hc)) | ((with_reducible show drwG _ _ _ _ _ _ _ _ _ _); refine drw_at (fun hc => ?_) (fun hc => ?_) <;> (try simp only [hc]) <;> (try simp only [decide_eq_true_eq, decide_eq_false_iff_not, beq_iff_eq, beq_eq_false_iff_ne, bne_iff_ne, bne_eq_false_iff_eq, Bool.not_eq_true', Bool.not_eq_false', Int.not_lt, Int.not_le, Nat.not_lt, Nat.not_le, ne_eq, Bool.not_true, Bool.not_false, Bool.not_not, Bool.true_eq_false, Bool.false_eq_true, not_false_eq_true, not_true_eq_false, Decidable.not_not] at hc)) | (with_reducible refine chk_at (by kernel_rfl) ?_)))
    refine loop_A (fun i => mkA [(0, .c (.string (sB l))), (4, .ref 0 0), (14, .c (.int .i64 l.length)), (15, .c (.int .i64 (i : Nat)))] [(0, (45, [.ref 0 0, .sl (.own 0 5) 1 (bv (37 :: hexL (l.take i)))]))] 1 (fun _ => .top)) (fun i => i ≤ l.length) (fun i => l.length - i) 0 [2] [0] ?_ (Nat.zero_le _) ?_
    · (refine keep_mkA ?_ ?_ (top_hd _ _ _) (by decide) (by decide) (by decide) (by decide); (repeat' (first | exact trivial | refine genB_one _ _ rfl rfl ?_ ?_)); all_goals (try simp only [pgs, pgl, pgx, pgw, GenA_cons, GenA_nil, GenL_cons, GenL_nil, gen_top, gen_c, gen_fz, decide_true, decide_false, Nat.reduceEqDiff, reduceIte, Nat.reduceAdd, Nat.reduceSub, Nat.reduceMul, Nat.reduceBEq, Nat.max_def, Nat.reduceLeDiff, Int.reduceToNat, Int.reduceLT, Int.reduceLE, Int.reduceEq, Int.reduceNe, Nat.reduceLT, Bool.not_eq_true, Int.toNat_natCast, Int.reduceNeg, Int.reduceSub, Int.reduceAdd, Int.reduceMul, Int.natCast_add, Int.cast_ofNat_Int, eq_self, and_self, Option.some.injEq, not_true_eq_false, not_false_eq_true, List.getElem?_nil, Nat.reduceLeDiff, Nat.le_refl, Int.reduceBEq, Int.reduceBNe, if_true, if_false, ite_true, ite_false, Nat.add_zero, Nat.zero_add, ↓reduceIte]); all_goals (try (repeat' (first | apply And.intro))); all_goals (try (first | exact trivial | exact gen_ii (by omega) | exact gen_cc rfl | exact gen_own rfl rfl | exact gen_ref rfl)))
    · intro i hi
      rcases Nat.lt_or_ge i l.length with hlt | hge
      · have hc := getD_lt ho i
        have hx1 := hexL_len (l.take i)
        have hx2 : (l.take i).length ≤ i := by simp; omega
        (repeat' (first | (simp (disch := first | assumption | omega | (simp only [Fits, maxLen, bv_len, sv_len, List.length_append, List.length_cons, List.length_nil, List.length_map, sB_size] at *; omega)) only [pgs, pgl, pgx, pgw, pgb, tyf, buildSliceV_w, decide_true, decide_false, Nat.reduceEqDiff, reduceIte, Nat.reduceAdd, Nat.reduceSub, Nat.reduceMul, Nat.reduceBEq, Nat.max_def, Nat.reduceLeDiff, Int.reduceToNat, Int.reduceLT, Int.reduceLE, Int.reduceEq, Int.reduceNe, Nat.reduceLT, Bool.not_eq_true, Int.toNat_natCast, Int.reduceNeg, Int.reduceSub, Int.reduceAdd, Int.reduceMul, Int.natCast_add, Int.cast_ofNat_Int, eq_self, and_self, Option.some.injEq, not_true_eq_false, not_false_eq_true, List.getElem?_nil, Nat.reduceLeDiff, Nat.le_refl, Int.reduceBEq, Int.reduceBNe, if_true, if_false, ite_true, ite_false, Nat.add_zero, Nat.zero_add, ↓reduceIte, hexs, shr4b, and15, hexix]) | ((with_reducible show callW _ _ _ _ _ _); first | refine callZ _ (good31 _ _ _ _ 0 0 _ _ _ rfl (.inr rfl) (by simp only [List.length_cons, List.length_append, List.length_nil, Nat.zero_add] at *; omega)) rfl ?_) | ((with_reducible show condC _ _ _ _ _ _ _); refine cond_at (fun hc => ?_) (fun hc => ?_) <;> (try simp only [hc]) <;> (try simp only [decide_eq_true_eq, decide_eq_false_iff_not, beq_iff_eq, beq_eq_false_iff_ne, bne_iff_ne, bne_eq_false_iff_eq, Bool.not_eq_true', Bool.not_eq_false', Int.not_lt, Int.not_le, Nat.not_lt, Nat.not_le, ne_eq, Bool.not_true, Bool.not_false, Bool.not_not, Bool.true_eq_false, Bool.false_eq_true, not_false_eq_true, not_true_eq_false, Decidable.not_not] at hc)) | ((with_reducible show guardC _ _ _ _ _ _ _ _); refine guard_at (fun hc => ?_) (fun hc => ?_) <;> (try simp only [hc]) <;> (try simp only [decide_eq_true_eq, decide_eq_false_iff_not, beq_iff_eq, beq_eq_false_iff_ne, bne_iff_ne, bne_eq_false_iff_eq, Bool.not_eq_true', Bool.not_eq_false', Int.not_lt, Int.not_le, Nat.not_lt, Nat.not_le, ne_eq, Bool.not_true, Bool.not_false, Bool.not_not, Bool.true_eq_false, Bool.false_eq_true, not_false_eq_true, not_true_eq_false, Decidable.not_not] at hc)) | ((with_reducible show drwG _ _ _ _ _ _ _ _ _ _); refine drw_at (fun hc => ?_) (fun hc => ?_) <;> (try simp only [hc]) <;> (try simp only [decide_eq_true_eq, decide_eq_false_iff_not, beq_iff_eq, beq_eq_false_iff_ne, bne_iff_ne, bne_eq_false_iff_eq, Bool.not_eq_true', Bool.not_eq_false', Int.not_lt, Int.not_le, Nat.not_lt, Nat.not_le, ne_eq, Bool.not_true, Bool.not_false, Bool.not_not, Bool.true_eq_false, Bool.false_eq_true, not_false_eq_true, not_true_eq_false, Decidable.not_not] at hc)) | (with_reducible refine chk_at (by kernel_rfl) ?_)))
        (refine back_at (i + 1) [0] [0] (hlt) (by first | omega | (simp only [List.length_cons]; omega)) ?_; (refine keep_mkA ?_ ?_ (top_hd _ _ _) (by decide) (by decide) (by decide) (by decide); (repeat' (first | exact trivial | refine genB_one _ _ rfl rfl ?_ ?_)); all_goals (try simp only [pgs, pgl, pgx, pgw, GenA_cons, GenA_nil, GenL_cons, GenL_nil, gen_top, gen_c, gen_fz, decide_true, decide_false, Nat.reduceEqDiff, reduceIte, Nat.reduceAdd, Nat.reduceSub, Nat.reduceMul, Nat.reduceBEq, Nat.max_def, Nat.reduceLeDiff, Int.reduceToNat, Int.reduceLT, Int.reduceLE, Int.reduceEq, Int.reduceNe, Nat.reduceLT, Bool.not_eq_true, Int.toNat_natCast, Int.reduceNeg, Int.reduceSub, Int.reduceAdd, Int.reduceMul, Int.natCast_add, Int.cast_ofNat_Int, eq_self, and_self, Option.some.injEq, not_true_eq_false, not_false_eq_true, List.getElem?_nil, Nat.reduceLeDiff, Nat.le_refl, Int.reduceBEq, Int.reduceBNe, if_true, if_false, ite_true, ite_false, Nat.add_zero, Nat.zero_add, ↓reduceIte]); all_goals (try (repeat' (first | apply And.intro))); all_goals (try (first | exact trivial | exact gen_ii (by omega) | exact gen_cc rfl | exact gen_own rfl rfl | exact gen_ref rfl))))
        exact gen_own rfl (by rw [hexL_next hlt])
      · have hil : i = l.length := by omega
        subst hil
        rw [List.take_length]
        have hx1 := hexL_len l
        (repeat' (first | (simp (disch := first | assumption | omega | (simp only [Fits, maxLen, bv_len, sv_len, List.length_append, List.length_cons, List.length_nil, List.length_map, sB_size] at *; omega)) only [pgs, pgl, pgx, pgw, pgb, tyf, buildSliceV_w, decide_true, decide_false, Nat.reduceEqDiff, reduceIte, Nat.reduceAdd, Nat.reduceSub, Nat.reduceMul, Nat.reduceBEq, Nat.max_def, Nat.reduceLeDiff, Int.reduceToNat, Int.reduceLT, Int.reduceLE, Int.reduceEq, Int.reduceNe, Nat.reduceLT, Bool.not_eq_true, Int.toNat_natCast, Int.reduceNeg, Int.reduceSub, Int.reduceAdd, Int.reduceMul, Int.natCast_add, Int.cast_ofNat_Int, eq_self, and_self, Option.some.injEq, not_true_eq_false, not_false_eq_true, List.getElem?_nil, Nat.reduceLeDiff, Nat.le_refl, Int.reduceBEq, Int.reduceBNe, if_true, if_false, ite_true, ite_false, Nat.add_zero, Nat.zero_add, ↓reduceIte]) | ((with_reducible show callW _ _ _ _ _ _); first | refine callZ _ (good32 _ _ _ _ 0 0 _ _ rfl (by simp only [List.length_cons] at *; omega) (oct_cons (by omega) (hexL_oct _))) rfl ?_) | ((with_reducible show condC _ _ _ _ _ _ _); refine cond_at (fun hc => ?_) (fun hc => ?_) <;> (try simp only [hc]) <;> (try simp only [decide_eq_true_eq, decide_eq_false_iff_not, beq_iff_eq, beq_eq_false_iff_ne, bne_iff_ne, bne_eq_false_iff_eq, Bool.not_eq_true', Bool.not_eq_false', Int.not_lt, Int.not_le, Nat.not_lt, Nat.not_le, ne_eq, Bool.not_true, Bool.not_false, Bool.not_not, Bool.true_eq_false, Bool.false_eq_true, not_false_eq_true, not_true_eq_false, Decidable.not_not] at hc)) | ((with_reducible show guardC _ _ _ _ _ _ _ _); refine guard_at (fun hc => ?_) (fun hc => ?_) <;> (try simp only [hc]) <;> (try simp only [decide_eq_true_eq, decide_eq_false_iff_not, beq_iff_eq, beq_eq_false_iff_ne, bne_iff_ne, bne_eq_false_iff_eq, Bool.not_eq_true', Bool.not_eq_false', Int.not_lt, Int.not_le, Nat.not_lt, Nat.not_le, ne_eq, Bool.not_true, Bool.not_false, Bool.not_not, Bool.true_eq_false, Bool.false_eq_true, not_false_eq_true, not_true_eq_false, Decidable.not_not] at hc)) | ((with_reducible show drwG _ _ _ _ _ _ _ _ _ _); refine drw_at (fun hc => ?_) (fun hc => ?_) <;> (try simp only [hc]) <;> (try simp only [decide_eq_true_eq, decide_eq_false_iff_not, beq_iff_eq, beq_eq_false_iff_ne, bne_iff_ne, bne_eq_false_iff_eq, Bool.not_eq_true', Bool.not_eq_false', Int.not_lt, Int.not_le, Nat.not_lt, Nat.not_le, ne_eq, Bool.not_true, Bool.not_false, Bool.not_not, Bool.true_eq_false, Bool.false_eq_true, not_false_eq_true, not_true_eq_false, Decidable.not_not] at hc)) | (with_reducible refine chk_at (by kernel_rfl) ?_)))
        (refine ret_at [] _ (by first | exact retV_one _ _ _ | exact retV_two _ _ _ _ | exact retV_three _ _ _ _ _ | exact retV_four _ _ _ _ _ _) (by decide) (by simp only [pgs, pgl, pgx, pgw, decide_true, decide_false, Nat.reduceEqDiff, reduceIte, Nat.reduceAdd, Nat.reduceSub, Nat.reduceMul, Nat.reduceBEq, Nat.max_def, Nat.reduceLeDiff, Int.reduceToNat, Int.reduceLT, Int.reduceLE, Int.reduceEq, Int.reduceNe, Nat.reduceLT, Bool.not_eq_true, Int.toNat_natCast, Int.reduceNeg, Int.reduceSub, Int.reduceAdd, Int.reduceMul, Int.natCast_add, Int.cast_ofNat_Int, eq_self, and_self, Option.some.injEq, not_true_eq_false, not_false_eq_true, List.getElem?_nil, Nat.reduceLeDiff, Nat.le_refl, Int.reduceBEq, Int.reduceBNe, if_true, if_false, ite_true, ite_false, Nat.add_zero, Nat.zero_add, ↓reduceIte]) ?_; (first | rfl | (simp only [pgs, pgl, pgx, pgw, decide_true, decide_false, Nat.reduceEqDiff, reduceIte, Nat.reduceAdd, Nat.reduceSub, Nat.reduceMul, Nat.reduceBEq, Nat.max_def, Nat.reduceLeDiff, Int.reduceToNat, Int.reduceLT, Int.reduceLE, Int.reduceEq, Int.reduceNe, Nat.reduceLT, Bool.not_eq_true, Int.toNat_natCast, Int.reduceNeg, Int.reduceSub, Int.reduceAdd, Int.reduceMul, Int.natCast_add, Int.cast_ofNat_Int, eq_self, and_self, Option.some.injEq, not_true_eq_false, not_false_eq_true, List.getElem?_nil, Nat.reduceLeDiff, Nat.le_refl, Int.reduceBEq, Int.reduceBNe, if_true, if_false, ite_true, ite_false, Nat.add_zero, Nat.zero_add, ↓reduceIte]; done) | (simp only [pgs, pgl, pgx, pgw, decide_true, decide_false, Nat.reduceEqDiff, reduceIte, Nat.reduceAdd, Nat.reduceSub, Nat.reduceMul, Nat.reduceBEq, Nat.max_def, Nat.reduceLeDiff, Int.reduceToNat, Int.reduceLT, Int.reduceLE, Int.reduceEq, Int.reduceNe, Nat.reduceLT, Bool.not_eq_true, Int.toNat_natCast, Int.reduceNeg, Int.reduceSub, Int.reduceAdd, Int.reduceMul, Int.natCast_add, Int.cast_ofNat_Int, eq_self, and_self, Option.some.injEq, not_true_eq_false, not_false_eq_true, List.getElem?_nil, Nat.reduceLeDiff, Nat.le_refl, Int.reduceBEq, Int.reduceBNe, if_true, if_false, ite_true, ite_false, Nat.add_zero, Nat.zero_add, ↓reduceIte])))
  · (repeat' (first | (simp (disch := first | assumption | omega | (simp only [Fits, maxLen, bv_len, sv_len, List.length_append, List.length_cons, List.length_nil, List.length_map, sB_size] at *; omega)) only [pgs, pgl, pgx, pgw, pgb, tyf, buildSliceV_w, decide_true, decide_false, Nat.reduceEqDiff, reduceIte, Nat.reduceAdd, Nat.reduceSub, Nat.reduceMul, Nat.reduceBEq, Nat.max_def, Nat.reduceLeDiff, Int.reduceToNat, Int.reduceLT, Int.reduceLE, Int.reduceEq, Int.reduceNe, Nat.reduceLT, Bool.not_eq_true, Int.toNat_natCast, Int.reduceNeg, Int.reduceSub, Int.reduceAdd, Int.reduceMul, Int.natCast_add, Int.cast_ofNat_Int, eq_self, and_self, Option.some.injEq, not_true_eq_false, not_false_eq_true, List.getElem?_nil, Nat.reduceLeDiff, Nat.le_refl, Int.reduceBEq, Int.reduceBNe, if_true, if_false, ite_true, ite_false, Nat.add_zero, Nat.zero_add, ↓reduceIte, Tryd.f11, nils]) | ((with_reducible show callW _ _ _ _ _ _); first | refine callW_use _ (g1) rfl rfl rfl rfl ?_ | refine callW_use _ (g2) rfl rfl rfl rfl ?_) | ((with_reducible show condC _ _ _ _ _ _ _); refine cond_at (fun hc => ?_) (fun hc => ?_) <;> (try simp only [hc]) <;> (try simp only [decide_eq_true_eq, decide_eq_false_iff_not, beq_iff_eq, beq_eq_false_iff_ne, bne_iff_ne, bne_eq_false_iff_eq, Bool.not_eq_true', Bool.not_eq_false', Int.not_lt, Int.not_le, Nat.not_lt, Nat.not_le, ne_eq, Bool.not_true, Bool.not_false, Bool.not_not, Bool.true_eq_false, Bool.false_eq_true, not_false_eq_true, not_true_eq_false, Decidable.not_not] at hc)) | ((with_reducible show guardC _ _ _ _ _ _ _ _); refine guard_at (fun hc => ?_) (fun hc => ?_) <;> (try simp only [hc]) <;> (try simp only [decide_eq_true_eq, decide_eq_false_iff_not, beq_iff_eq, beq_eq_false_iff_ne, bne_iff_ne, bne_eq_false_iff_eq, Bool.not_eq_true', Bool.not_eq_false', Int.not_lt, Int.not_le, Nat.not_lt, Nat.not_le, ne_eq, Bool.not_true, Bool.not_false, Bool.not_not, Bool.true_eq_false, Bool.false_eq_true, not_false_eq_true, not_true_eq_false, Decidable.not_not] at hc)) | ((with_reducible show drwG _ _ _ _ _ _ _ _ _ _); refine drw_at (fun hc => ?_) (fun hc => ?_) <;> (try simp only [hc]) <;> (try simp only [decide_eq_true_eq, decide_eq_false_iff_not, beq_iff_eq, beq_eq_false_iff_ne, bne_iff_ne, bne_eq_false_iff_eq, Bool.not_eq_true', Bool.not_eq_false', Int.not_lt, Int.not_le, Nat.not_lt, Nat.not_le, ne_eq, Bool.not_true, Bool.not_false, Bool.not_not, Bool.true_eq_false, Bool.false_eq_true, not_false_eq_true, not_true_eq_false, Decidable.not_not] at hc)) | (with_reducible refine chk_at (by kernel_rfl) ?_)))
    (refine ret_at [] _ (by first | exact retV_one _ _ _ | exact retV_two _ _ _ _ | exact retV_three _ _ _ _ _ | exact retV_four _ _ _ _ _ _) (by decide) (by simp only [pgs, pgl, pgx, pgw, decide_true, decide_false, Nat.reduceEqDiff, reduceIte, Nat.reduceAdd, Nat.reduceSub, Nat.reduceMul, Nat.reduceBEq, Nat.max_def, Nat.reduceLeDiff, Int.reduceToNat, Int.reduceLT, Int.reduceLE, Int.reduceEq, Int.reduceNe, Nat.reduceLT, Bool.not_eq_true, Int.toNat_natCast, Int.reduceNeg, Int.reduceSub, Int.reduceAdd, Int.reduceMul, Int.natCast_add, Int.cast_ofNat_Int, eq_self, and_self, Option.some.injEq, not_true_eq_false, not_false_eq_true, List.getElem?_nil, Nat.reduceLeDiff, Nat.le_refl, Int.reduceBEq, Int.reduceBNe, if_true, if_false, ite_true, ite_false, Nat.add_zero, Nat.zero_add, ↓reduceIte]) ?_; (first | rfl | (simp only [pgs, pgl, pgx, pgw, decide_true, decide_false, Nat.reduceEqDiff, reduceIte, Nat.reduceAdd, Nat.reduceSub, Nat.reduceMul, Nat.reduceBEq, Nat.max_def, Nat.reduceLeDiff, Int.reduceToNat, Int.reduceLT, Int.reduceLE, Int.reduceEq, Int.reduceNe, Nat.reduceLT, Bool.not_eq_true, Int.toNat_natCast, Int.reduceNeg, Int.reduceSub, Int.reduceAdd, Int.reduceMul, Int.natCast_add, Int.cast_ofNat_Int, eq_self, and_self, Option.some.injEq, not_true_eq_false, not_false_eq_true, List.getElem?_nil, Nat.reduceLeDiff, Nat.le_refl, Int.reduceBEq, Int.reduceBNe, if_true, if_false, ite_true, ite_false, Nat.add_zero, Nat.zero_add, ↓reduceIte]; done) | (simp only [pgs, pgl, pgx, pgw, decide_true, decide_false, Nat.reduceEqDiff, reduceIte, Nat.reduceAdd, Nat.reduceSub, Nat.reduceMul, Nat.reduceBEq, Nat.max_def, Nat.reduceLeDiff, Int.reduceToNat, Int.reduceLT, Int.reduceLE, Int.reduceEq, Int.reduceNe, Nat.reduceLT, Bool.not_eq_true, Int.toNat_natCast, Int.reduceNeg, Int.reduceSub, Int.reduceAdd, Int.reduceMul, Int.natCast_add, Int.cast_ofNat_Int, eq_self, and_self, Option.some.injEq, not_true_eq_false, not_false_eq_true, List.getElem?_nil, Nat.reduceLeDiff, Nat.le_refl, Int.reduceBEq, Int.reduceBNe, if_true, if_false, ite_true, ite_false, Nat.add_zero, Nat.zero_add, ↓reduceIte])))
end Go.Proofs.YtkgebocldjhflaaDoor
end

section
/-
  Names: ParseKey, the program's, of any string (of at most 2^47 octets).
-/
namespace Go.Proofs.YtkgebocldjhflaaDoor
open Go Go.Pg
set_option maxRecDepth 10000
set_option linter.unusedSimpArgs false

theorem ixB_hexd : ∀ c, c < 256 → ixB hexd c = nib c := by decide
theorem hx_nib : ∀ c, c < 256 → 0 ≤ nib c → hx (nib c).toNat = c := by decide
/-- The key that a text's form gives. -/
def keyOf (l : List Nat) : Option (List Nat) :=
  if hasP l [37] = true then (if (l.drop 1).length % 2 ≠ 0 then none else if okB (l.drop 1) ((l.drop 1).length / 2) = true then some (prs (l.drop 1) ((l.drop 1).length / 2)) else none) else some l
def pkP (l : List Nat) : List Nat × Nat :=
  match keyOf l with
  | none => ([], 1)
  | some k => if (fk k).2 ≠ 0 ∨ (fk k).1 ≠ l then ([], 1) else (k, 0)
theorem pct (l : List Nat) : hasP l [37] = true ↔ 0 < l.length ∧ l.getD 0 0 = 37 := by
  cases l with
  | nil => simp [hasP]
  | cons a l => simp [hasP]
theorem plain_pct (l : List Nat) (h : plain l = true) : hasP l [37] = false := by
  rw [← Bool.not_eq_true, pct]
  rintro ⟨h1, h2⟩
  cases l with
  | nil => simp at h1
  | cons a l =>
    simp at h2
    subst h2
    simp [plain, plC, bt, mk5] at h
theorem hexL_prs (r : List Nat) (ho : oct r) : ∀ j, 2 * j ≤ r.length → okB r j = true → hexL (prs r j) = r.take (2 * j) := by
  intro j
  induction j with
  | zero => intro _ _; rfl
  | succ j ih =>
    intro hj hok
    rw [okB_next, Bool.and_eq_true] at hok
    have h1 := ih (by omega) hok.1
    have h2 := hok.2
    unfold okP at h2
    simp only [Bool.and_eq_true, decide_eq_true_eq] at h2
    have b1 := getD_lt ho (2 * j)
    have b2 := getD_lt ho (2 * j + 1)
    have n1 := nib_rng (r.getD (2 * j) 0)
    have n2 := nib_rng (r.getD (2 * j + 1) 0)
    have e1 := hx_nib _ b1 h2.1
    have e2 := hx_nib _ b2 h2.2
    have e3 : prB r j / 16 = (nib (r.getD (2 * j) 0)).toNat := by unfold prB; omega
    have e4 : prB r j % 16 = (nib (r.getD (2 * j + 1) 0)).toNat := by unfold prB; omega
    rw [prs_next]
    have : hexL (prs r j ++ [prB r j]) = hexL (prs r j) ++ [hx (prB r j / 16), hx (prB r j % 16)] := by simp [hexL]
    rw [this, h1, e3, e4, e1, e2]
    rw [show 2 * (j + 1) = 2 * j + 1 + 1 by omega, List.take_succ_eq_append_getElem (show 2 * j + 1 < r.length by omega), List.take_succ_eq_append_getElem (show 2 * j < r.length by omega)]
    have g1 : r.getD (2 * j) 0 = r[2 * j]'(by omega) := by simp [List.getD, show 2 * j < r.length by omega]
    have g2 : r.getD (2 * j + 1) 0 = r[2 * j + 1]'(by omega) := by simp [List.getD, show 2 * j + 1 < r.length by omega]
    rw [g1, g2, List.append_assoc]
    rfl
theorem pkP_eq (l : List Nat) (ho : oct l) : pkP l = pk l := by
  unfold pkP keyOf
  cases hp : hasP l [37]
  · have hn : ¬ (0 < l.length ∧ l.getD 0 0 = 37) := fun h => by rw [← pct, hp] at h; cases h
    simp only [Bool.false_eq_true, if_false]
    unfold pk fk
    cases h1 : isKey l <;> cases h2 : plain l <;> simp only [Bool.and_true, Bool.and_false, Bool.false_and, Bool.true_and, Bool.false_eq_true, if_true, if_false, ne_eq, not_true_eq_false, or_false, false_or]
    · by_cases h0 : l.length = 0
      · rw [if_pos h0, if_pos (.inl (by decide))]
      · have : l.getD 0 0 ≠ 37 := fun h => hn ⟨by omega, h⟩
        rw [if_neg h0, if_pos this, if_pos (.inl (by decide))]
    · by_cases h0 : l.length = 0
      · rw [if_pos h0, if_pos (.inl (by decide))]
      · have : l.getD 0 0 ≠ 37 := fun h => hn ⟨by omega, h⟩
        rw [if_neg h0, if_pos this, if_pos (.inl (by decide))]
    · have hl := key_len h1
      have : l.getD 0 0 ≠ 37 := fun h => hn ⟨by omega, h⟩
      have hne : ¬ (37 :: hexL l = l) := by
        intro h
        apply this
        rw [← h]
        rfl
      have h0 : ¬ l.length = 0 := by omega
      rw [if_pos (.inr (by simpa using hne)), if_neg h0, if_pos this]
    · simp
  · obtain ⟨h1, h2⟩ := (pct l).1 hp
    have hpl : plain l = false := by
      cases h : plain l
      · rfl
      · have := plain_pct l h; rw [hp] at this; cases this
    unfold pk
    rw [hpl, Bool.and_false]
    simp only [if_true, Bool.false_eq_true, if_false]
    rw [if_neg (show ¬ l.length = 0 by omega), if_neg (show ¬ l.getD 0 0 ≠ 37 from fun h => h h2)]
    by_cases h5 : (l.drop 1).length % 2 ≠ 0
    · rw [if_pos h5]
      cases h4 : okB (l.drop 1) ((l.drop 1).length / 2)
      · rw [if_pos rfl]
      · rw [if_neg (by simp), if_pos h5]
    · rw [if_neg h5]
      cases h4 : okB (l.drop 1) ((l.drop 1).length / 2)
      · rw [if_neg (by simp), if_pos rfl]
      · rw [if_pos rfl, if_neg (by simp), if_neg h5]
        simp only
        have hx := hexL_prs (l.drop 1) (oct_drop ho 1) ((l.drop 1).length / 2) (by omega) h4
        have hk : 37 :: hexL (prs (l.drop 1) ((l.drop 1).length / 2)) = l := by
          rw [hx, List.take_of_length_le (by omega)]
          cases l with
          | nil => simp at h1
          | cons a l => simp at h2; simp [h2]
        generalize prs (l.drop 1) ((l.drop 1).length / 2) = k at hk
        unfold fk
        cases h6 : isKey k
        · simp
        · cases h7 : plain k
          · simp [hk]
          · have hne : k ≠ l := by
              intro h; subst h
              rw [h7] at hpl; cases hpl
            simp [hne]
end Go.Proofs.YtkgebocldjhflaaDoor
end
