/-
  Texts of this claim, merged: PgNG, PgNQ, PgNS, PgNM. Each bears its own remark.
-/
import Derived.Test.YtjiolbcdfgclaaaGreatDoorB2
import Derived.Test.YtjiolbcdfgclaaaGreatDoorBG
set_option linter.unusedVariables false
set_option linter.unusedSimpArgs false
set_option linter.unusedSectionVars false
section
/-
  Library functions by the shelf's contracts: Itoa, TrimSuffix, Cut, Split, Join.
-/
namespace Go.Proofs.YtjiolbcdfgclaaaGreatDoor
open Go Go.Pg
set_option maxRecDepth 100000
set_option linter.unusedSimpArgs false
set_option linter.unusedVariables false

/-- A number's numeral, as octets. -/
def itoaN (n : Int) : List Nat := (Lib.itoa n).map UInt8.toNat
theorem itoaN_oct (n : Int) : oct (itoaN n) := by
  intro b hb
  obtain ⟨c, _, rfl⟩ := List.mem_map.1 hb
  exact c.toNat_lt
theorem itoaN_str (n : Int) : (⟨(Lib.itoa n).toArray⟩ : ByteArray) = sB (itoaN n) := by
  apply ByteArray.ext
  apply Array.ext'
  simp [sB, itoaN, Function.comp_def]
theorem good41 (n : Int) (h0 : -9223372036854775808 ≤ n) (h1 : n ≤ 9223372036854775807) : Pg.Good Tryz.prog 75 [.c (.int .i64 n)] (.c (.string (sB (itoaN n)))) := by
  refine ⟨by kernel_rfl, fun A w cargs hT hA hargs => ?_⟩
  obtain ⟨_, _, rfl, rfl, rfl⟩ := hargs
  refine (Any.strconv_Itoa Tryz.laysM171 n h0 h1 w hT.1).mono ?_
  rintro e w' ⟨rfl, k, os, rfl⟩
  refine ⟨_, ⟨A, fun _ => none, fun _ => none⟩, rfl, by rw [itoaN_str]; rfl, ⟨rfl, rfl, rfl, ?_, fun j hj _ => ?_⟩, ⟨fun g h => .inl h, fun _ _ h => (by cases h), fun _ _ _ h => (by cases h)⟩⟩
  · rw [Sort.size_grow]; show w.heap.size ≤ w.heap.size + _; omega
  · exact Sort.heap_grow_old (w.drewN k) os hj
theorem good23 (n : Int) (h0 : -9223372036854775808 ≤ n) (h1 : n ≤ 9223372036854775807) : Pg.Good Tryz.prog 41 [.c (.int .i64 n)] (.c (.string (sB (itoaN n)))) := by
  refine good_intro (drawW_ok mix) Tryz.func41 rfl Tryz.results41 rfl (by kernel_rfl) (Nat.le_of_ble_eq_true (by kernel_rfl)) ?_
  (repeat' (first | (simp (disch := first | assumption | omega | (simp only [Fits, maxLen, bv_len, sv_len, List.length_append, List.length_cons, List.length_nil, List.length_map, sB_size] at *; omega)) only [pgs, pgl, pgx, pgw, pgb, tyf, buildSliceV_w, pgn, Nat.reduceEqDiff, reduceIte, Nat.reduceAdd, Nat.reduceSub, Nat.reduceMul, Nat.reduceBEq, Nat.reduceLeDiff, Int.reduceToNat, Int.reduceLT, Int.reduceLE, Int.reduceEq, Int.reduceNe, Nat.reduceLT, Int.reduceNeg, Int.reduceSub, Int.reduceAdd, Int.reduceMul, eq_self, Option.some.injEq, List.getElem?_nil, Int.reduceBEq, Int.reduceBNe, if_true, if_false, ite_true, ite_false, ↓reduceIte, Tryz.f41]) | ((with_reducible show callW _ _ _ _ _ _); first | refine callW_use _ (good41 n h0 h1) rfl rfl rfl rfl ?_) | ((first | ((with_reducible show condC _ _ _ _ _ _ _); refine cond_at (fun hc => ?_) (fun hc => ?_)) | ((with_reducible show guardC _ _ _ _ _ _ _ _); refine guard_at (fun hc => ?_) (fun hc => ?_)) | ((with_reducible show drwG _ _ _ _ _ _ _ _ _ _); refine drw_at (fun hc => ?_) (fun hc => ?_))) <;> (try simp only [hc]) <;> (try simp only [decide_eq_true_eq, decide_eq_false_iff_not, beq_iff_eq, beq_eq_false_iff_ne, bne_iff_ne, bne_eq_false_iff_eq, Bool.not_eq_true', Bool.not_eq_false', Int.not_lt, Int.not_le, Nat.not_lt, Nat.not_le, ne_eq, Bool.not_true, Bool.not_false, Bool.not_not, Bool.true_eq_false, Bool.false_eq_true, not_false_eq_true, not_true_eq_false, Decidable.not_not] at hc)) | (with_reducible refine chk_at (by kernel_rfl) ?_)))
  (refine ret_at [] _ (by first | exact retV_one _ _ _ | exact retV_two _ _ _ _ | exact retV_three _ _ _ _ _ | exact retV_four _ _ _ _ _ _ | (simp (disch := first | assumption | omega | (simp only [Fits, maxLen, bv_len, sv_len, List.length_append, List.length_cons, List.length_nil, List.length_map, sB_size] at *; omega)) only [pgr, pgs, pgl, pgx, pgw, tyf, pgn, Nat.reduceEqDiff, reduceIte, Nat.reduceAdd, Nat.reduceSub, Nat.reduceMul, Nat.reduceBEq, Nat.reduceLeDiff, Int.reduceToNat, Int.reduceLT, Int.reduceLE, Int.reduceEq, Int.reduceNe, Nat.reduceLT, Int.reduceNeg, Int.reduceSub, Int.reduceAdd, Int.reduceMul, eq_self, Option.some.injEq, List.getElem?_nil, Int.reduceBEq, Int.reduceBNe, if_true, if_false, ite_true, ite_false, ↓reduceIte]; rfl)) (by decide) (by simp only [pgs, pgl, pgx, pgw, pgn, Nat.reduceEqDiff, reduceIte, Nat.reduceAdd, Nat.reduceSub, Nat.reduceMul, Nat.reduceBEq, Nat.reduceLeDiff, Int.reduceToNat, Int.reduceLT, Int.reduceLE, Int.reduceEq, Int.reduceNe, Nat.reduceLT, Int.reduceNeg, Int.reduceSub, Int.reduceAdd, Int.reduceMul, eq_self, Option.some.injEq, List.getElem?_nil, Int.reduceBEq, Int.reduceBNe, if_true, if_false, ite_true, ite_false, ↓reduceIte]) ?_; (first | rfl | simp only [pgs, pgl, pgx, pgw, pgn, Nat.reduceEqDiff, reduceIte, Nat.reduceAdd, Nat.reduceSub, Nat.reduceMul, Nat.reduceBEq, Nat.reduceLeDiff, Int.reduceToNat, Int.reduceLT, Int.reduceLE, Int.reduceEq, Int.reduceNe, Nat.reduceLT, Int.reduceNeg, Int.reduceSub, Int.reduceAdd, Int.reduceMul, eq_self, Option.some.injEq, List.getElem?_nil, Int.reduceBEq, Int.reduceBNe, if_true, if_false, ite_true, ite_false, ↓reduceIte]))
theorem good24 (n : Int) (h0 : -9223372036854775808 ≤ n) (h1 : n ≤ 9223372036854775807) : Pg.Good Tryz.prog 89 [.c (.int .i64 n)] (.c (.string (sB (itoaN n)))) := by
  refine good_intro (drawW_ok mix) Tryz.func89 rfl Tryz.results89 rfl (by kernel_rfl) (Nat.le_of_ble_eq_true (by kernel_rfl)) ?_
  (repeat' (first | (simp (disch := first | assumption | omega | (simp only [Fits, maxLen, bv_len, sv_len, List.length_append, List.length_cons, List.length_nil, List.length_map, sB_size] at *; omega)) only [pgs, pgl, pgx, pgw, pgb, tyf, buildSliceV_w, pgn, Nat.reduceEqDiff, reduceIte, Nat.reduceAdd, Nat.reduceSub, Nat.reduceMul, Nat.reduceBEq, Nat.reduceLeDiff, Int.reduceToNat, Int.reduceLT, Int.reduceLE, Int.reduceEq, Int.reduceNe, Nat.reduceLT, Int.reduceNeg, Int.reduceSub, Int.reduceAdd, Int.reduceMul, eq_self, Option.some.injEq, List.getElem?_nil, Int.reduceBEq, Int.reduceBNe, if_true, if_false, ite_true, ite_false, ↓reduceIte, Tryz.f89]) | ((with_reducible show callW _ _ _ _ _ _); first | refine callW_use _ (good41 n h0 h1) rfl rfl rfl rfl ?_) | ((first | ((with_reducible show condC _ _ _ _ _ _ _); refine cond_at (fun hc => ?_) (fun hc => ?_)) | ((with_reducible show guardC _ _ _ _ _ _ _ _); refine guard_at (fun hc => ?_) (fun hc => ?_)) | ((with_reducible show drwG _ _ _ _ _ _ _ _ _ _); refine drw_at (fun hc => ?_) (fun hc => ?_))) <;> (try simp only [hc]) <;> (try simp only [decide_eq_true_eq, decide_eq_false_iff_not, beq_iff_eq, beq_eq_false_iff_ne, bne_iff_ne, bne_eq_false_iff_eq, Bool.not_eq_true', Bool.not_eq_false', Int.not_lt, Int.not_le, Nat.not_lt, Nat.not_le, ne_eq, Bool.not_true, Bool.not_false, Bool.not_not, Bool.true_eq_false, Bool.false_eq_true, not_false_eq_true, not_true_eq_false, Decidable.not_not] at hc)) | (with_reducible refine chk_at (by kernel_rfl) ?_)))
  (refine ret_at [] _ (by first | exact retV_one _ _ _ | exact retV_two _ _ _ _ | exact retV_three _ _ _ _ _ | exact retV_four _ _ _ _ _ _ | (simp (disch := first | assumption | omega | (simp only [Fits, maxLen, bv_len, sv_len, List.length_append, List.length_cons, List.length_nil, List.length_map, sB_size] at *; omega)) only [pgr, pgs, pgl, pgx, pgw, tyf, pgn, Nat.reduceEqDiff, reduceIte, Nat.reduceAdd, Nat.reduceSub, Nat.reduceMul, Nat.reduceBEq, Nat.reduceLeDiff, Int.reduceToNat, Int.reduceLT, Int.reduceLE, Int.reduceEq, Int.reduceNe, Nat.reduceLT, Int.reduceNeg, Int.reduceSub, Int.reduceAdd, Int.reduceMul, eq_self, Option.some.injEq, List.getElem?_nil, Int.reduceBEq, Int.reduceBNe, if_true, if_false, ite_true, ite_false, ↓reduceIte]; rfl)) (by decide) (by simp only [pgs, pgl, pgx, pgw, pgn, Nat.reduceEqDiff, reduceIte, Nat.reduceAdd, Nat.reduceSub, Nat.reduceMul, Nat.reduceBEq, Nat.reduceLeDiff, Int.reduceToNat, Int.reduceLT, Int.reduceLE, Int.reduceEq, Int.reduceNe, Nat.reduceLT, Int.reduceNeg, Int.reduceSub, Int.reduceAdd, Int.reduceMul, eq_self, Option.some.injEq, List.getElem?_nil, Int.reduceBEq, Int.reduceBNe, if_true, if_false, ite_true, ite_false, ↓reduceIte]) ?_; (first | rfl | simp only [pgs, pgl, pgx, pgw, pgn, Nat.reduceEqDiff, reduceIte, Nat.reduceAdd, Nat.reduceSub, Nat.reduceMul, Nat.reduceBEq, Nat.reduceLeDiff, Int.reduceToNat, Int.reduceLT, Int.reduceLE, Int.reduceEq, Int.reduceNe, Nat.reduceLT, Int.reduceNeg, Int.reduceSub, Int.reduceAdd, Int.reduceMul, eq_self, Option.some.injEq, List.getElem?_nil, Int.reduceBEq, Int.reduceBNe, if_true, if_false, ite_true, ite_false, ↓reduceIte]))
theorem good44 (l : List Nat) (c : Nat) (ho : oct l) (hc : c < 256) (hl : l.length ≤ 140737488355328) : Pg.Good Tryz.prog 111 [.c (.string (sB l)), .c (.string (sB [c]))] (.c (.string (sB (trm c l)))) := by
  refine ⟨by kernel_rfl, fun A w cargs hT hA hargs => ?_⟩
  obtain ⟨_, _, rfl, rfl, _, _, rfl, rfl, rfl⟩ := hargs
  refine (Any.strings_TrimSuffix Tryz.lays102 (sB l) (sB [c]) w (by rw [sB_size]; omega)).mono ?_
  rintro e w' ⟨rfl, rfl⟩
  exact ⟨_, ⟨A, fun _ => none, fun _ => none⟩, rfl, by rw [trim_sB l c ho hc]; rfl, Kp.refl _ _ _, ⟨fun g h => .inl h, fun _ _ h => (by cases h), fun _ _ _ h => (by cases h)⟩⟩
theorem good42 (l : List Nat) (c : Nat) (ho : oct l) (hc : c < 256) (hl : l.length ≤ 4294967280) : Pg.Good Tryz.prog 112 [.c (.string (sB l)), .c (.string (sB [c]))]
    (.tup [.c (.string (sB (bef c l))), .c (.string ⟨(Lib.cut (sB l).data.toList (sB [c]).data.toList).2.1.toArray⟩), .c (.bool (Lib.cut (sB l).data.toList (sB [c]).data.toList).2.2)]) := by
  refine ⟨by kernel_rfl, fun A w cargs hT hA hargs => ?_⟩
  obtain ⟨_, _, rfl, rfl, _, _, rfl, rfl, rfl⟩ := hargs
  obtain ⟨m, hm⟩ := hT.2.1
  refine (Any.strings_Cut Tryz.lays145 (sB l) (sB [c]) m w (by rw [sB_size]; omega) hm).mono ?_
  rintro e w' ⟨rfl, k, rfl⟩
  exact ⟨_, ⟨A, fun _ => none, fun _ => none⟩, rfl, ⟨_, rfl, _, _, rfl, by rw [cut_sB l c ho hc]; rfl, _, _, rfl, rfl, _, _, rfl, rfl, rfl⟩, ⟨rfl, rfl, rfl, Nat.le_refl _, fun _ _ _ => rfl⟩, ⟨fun g h => .inl h, fun _ _ h => (by cases h), fun _ _ _ h => (by cases h)⟩⟩
theorem repE_sv {L : Lay} {w : World} (l : List (List Nat)) : RepE L w 1 (sv l) (l.map fun x => Value.string (sB x)) := by
  induction l with
  | nil => rfl
  | cons a l ih => exact ⟨.string (sB a), _, by simp [Value.cells], rfl, ⟨rfl, rfl⟩, rfl, ih⟩
theorem good43 (l : List Nat) (c : Nat) (ho : oct l) (hc : c < 256) (hl : l.length ≤ 4294967280) : Pg.Good Tryz.prog 110 [.c (.string (sB l)), .c (.string (sB [c]))] (.sl (.own 0 9) 1 (sv (spl c l))) := by
  refine ⟨by kernel_rfl, fun A w cargs hT hA hargs => ?_⟩
  obtain ⟨_, _, rfl, rfl, _, _, rfl, rfl, rfl⟩ := hargs
  obtain ⟨m, hm⟩ := hT.2.1
  have hn := Lib.splitB_all (sB [c]) (by rw [sB_size]; simp) 0 _ (sB l) rfl
  have hs := split_sB l c ho hc
  have hk : Lib.countB (sB l) (sB [c]) + 1 = (spl c l).length := by rw [← hn, hs, List.length_map]
  have hlen := spl_len c l
  refine (Any.strings_Split Tryz.lays146 (by kernel_rfl) (sB l) (sB [c]) m w (by rw [sB_size]; omega) hm (by rw [sB_size]; simp)).mono ?_
  rintro e w' ⟨rfl, rfl⟩
  refine ⟨_, ⟨A, fun j => if j = 0 then some w.heap.size else none, fun _ => none⟩, rfl, ⟨some ⟨w.heap.size, 0, none⟩, (spl c l).length, (spl c l).map fun x => Value.string (sB x), by rw [hk, sv_len], repE_sv _, ?_⟩, Kp.alloc (Kp.refl _ _ _) (Nat.le_refl _) _, ⟨fun g h => .inl h, fun j g h => ?_, fun i j g h h' => ?_⟩⟩
  · refine .inr ⟨w.heap.size, _, rfl, rfl, heap_alloc_new w _, by rw [sv_len]; exact Nat.le_refl _, by unfold maxLen; omega, ?_, ?_⟩
    · rw [hs]; simp
    · rw [hs, sv_len, Nat.mul_one]
      simp only [List.map_map, Function.comp_def]
      exact List.take_of_length_le (by simp)
  · simp only at h
    split at h
    · simp only [Option.some.injEq] at h
      subst h
      exact ⟨Nat.le_refl _, by simp, fun h => by have := hA _ h; omega⟩
    · cases h
  · simp only at h h'
    split at h
    · split at h'
      · omega
      · cases h'
    · cases h
theorem repE_sv_inv {L : Lay} {w : World} : ∀ (l : List (List Nat)) (us : List Value), RepE L w 1 (sv l) us → us = l.map fun x => Value.string (sB x) := by
  intro l
  induction l with
  | nil => intro us h; exact h
  | cons a l ih =>
    rintro us ⟨u, r, rfl, _, _, h, hr⟩
    have hu : u = .string (sB a) := h
    subst hu
    rw [ih r hr]
    rfl
theorem g_Join (l : List (List Nat)) (hl : (jn l).length ≤ 140737488355328) (hn : l.length ≤ 140737488355328) : Pg.Good Tryz.prog 46 [fzs l, vs [32]] (vs (jn l)) := by
  refine ⟨by kernel_rfl, fun A w cargs hT hA hargs => ?_⟩
  obtain ⟨_, _, rfl, ⟨a, cap, cells, rfl, hr, hm⟩, _, _, rfl, rfl, rfl⟩ := hargs
  have hc := repE_sv_inv l cells hr
  subst hc
  rw [sv_len] at hm ⊢
  obtain ⟨h0, h1⟩ := hm
  rcases h1 with h1 | ⟨g, o, rfl, hg, hrow⟩
  · have : l = [] := List.eq_nil_of_length_eq_zero h1
    subst this
    refine (Any.strings_Join_none Tryz.lays156 Tryz.Builder_Extra_156 a cap (sB [32]) w).mono ?_
    rintro e w' ⟨rfl, rfl⟩
    exact ⟨_, ⟨A, fun _ => none, fun _ => none⟩, rfl, rfl, Kp.refl _ _ _, ⟨fun g h => .inl h, fun _ _ h => (by cases h), fun _ _ _ h => (by cases h)⟩⟩
  · have hlen : (l.map sB).length = l.length := by simp
    have hj : (Lib.join ((l.map sB).map (·.data.toList)) (sB [32]).data.toList).length ≤ 140737488355328 := by
      have h2 := congrArg ByteArray.size (join_sB l)
      rw [sB_size] at h2
      have h3 : (Lib.join ((l.map sB).map (·.data.toList)) (sB [32]).data.toList).length = (jn l).length := by rw [← h2]; simp [ByteArray.size]
      omega
    have := Any.strings_Join Tryz.lays156 Tryz.Builder_Extra_156 g o cap (l.map sB) (sB [32]) w (fun j x hx => by
      refine hrow.cell (j := j) ?_
      rw [List.getElem?_map] at hx ⊢
      cases h4 : l[j]? with
      | none => rw [h4] at hx; cases hx
      | some y => rw [h4] at hx; simp only [Option.map_some, Option.some.injEq] at hx ⊢; rw [hx]) (hA g hg) (by omega) (by omega) hj
    rw [hlen] at this
    refine this.mono ?_
    rintro e w' ⟨rfl, hb⟩
    refine ⟨_, ⟨A, fun _ => none, fun _ => none⟩, rfl, by rw [join_sB]; rfl, ⟨hb.os, hb.tape, hb.output, hb.size, fun k h _ => hb.block k h⟩, ⟨fun g h => .inl h, fun _ _ h => (by cases h), fun _ _ _ h => (by cases h)⟩⟩
end Go.Proofs.YtjiolbcdfgclaaaGreatDoor
end

section
/-
  Names: Lines, of the program and of the reference.
-/
namespace Go.Proofs.YtjiolbcdfgclaaaGreatDoor
open Go Go.Pg
set_option maxRecDepth 100000
set_option linter.unusedSimpArgs false
set_option linter.unusedVariables false

def okc (c : Nat) : Bool := c == 10 || bt c 32 126
def nl : V := .c (.slice none 0 0)
theorem str10 : (⟨#[10]⟩ : ByteArray) = sB [10] := by rfl
theorem nilS (a : List Nat) (ha : oct a) : decide (sB a = sB []) = decide (a = []) := sB_dec ha oct_nil
def linesP (l : List Nat) : V := if 65536 < l.length then .tup [nl, .c (.int .i64 11)] else if l.all okc = false then .tup [nl, .c (.int .i64 1)] else if l = [] then .tup [nl, .c (.int .i64 0)] else .tup [.sl (.own 0 9) 1 (sv (spl 10 (trm 10 l))), .c (.int .i64 0)]
theorem trm_oct {l : List Nat} {c : Nat} (ho : oct l) : oct (trm c l) ∧ (trm c l).length ≤ l.length := by
  unfold trm
  split
  · exact ⟨fun b hb => ho b ((List.dropLast_sublist l).mem hb), by simp⟩
  · exact ⟨ho, Nat.le_refl _⟩
theorem okc_f {c : Nat} : okc c = false ↔ c ≠ 10 ∧ (c < 32 ∨ 126 < c) := by
  unfold okc bt
  rw [Bool.or_eq_false_iff, Bool.and_eq_false_iff, decide_eq_false_iff_not, decide_eq_false_iff_not, beq_eq_false_iff_ne]
  omega
theorem good27 (l : List Nat) (ho : oct l) : Pg.Good Tryz.prog 65 [.c (.string (sB l))] (linesP l) := by
  refine good_intro (drawW_ok mix) Tryz.func65 rfl Tryz.results65 rfl (by kernel_rfl) (Nat.le_of_ble_eq_true (by kernel_rfl)) ?_
  unfold linesP nl
  rcases Nat.lt_or_ge 65536 l.length with h | h
  · rw [if_pos h]
    (repeat' (first | (simp (disch := first | assumption | omega | (simp only [Fits, maxLen, bv_len, sv_len, List.length_append, List.length_cons, List.length_nil, List.length_map, sB_size] at *; omega)) only [pgs, pgl, pgx, pgw, pgb, tyf, buildSliceV_w, pgn, Nat.reduceEqDiff, reduceIte, Nat.reduceAdd, Nat.reduceSub, Nat.reduceMul, Nat.reduceBEq, Nat.reduceLeDiff, Int.reduceToNat, Int.reduceLT, Int.reduceLE, Int.reduceEq, Int.reduceNe, Nat.reduceLT, Int.reduceNeg, Int.reduceSub, Int.reduceAdd, Int.reduceMul, eq_self, Option.some.injEq, List.getElem?_nil, Int.reduceBEq, Int.reduceBNe, if_true, if_false, ite_true, ite_false, ↓reduceIte, Tryz.f65]) | ((first | ((with_reducible show condC _ _ _ _ _ _ _); refine cond_at (fun hc => ?_) (fun hc => ?_)) | ((with_reducible show guardC _ _ _ _ _ _ _ _); refine guard_at (fun hc => ?_) (fun hc => ?_)) | ((with_reducible show drwG _ _ _ _ _ _ _ _ _ _); refine drw_at (fun hc => ?_) (fun hc => ?_))) <;> (try simp only [hc]) <;> (try simp only [decide_eq_true_eq, decide_eq_false_iff_not, beq_iff_eq, beq_eq_false_iff_ne, bne_iff_ne, bne_eq_false_iff_eq, Bool.not_eq_true', Bool.not_eq_false', Int.not_lt, Int.not_le, Nat.not_lt, Nat.not_le, ne_eq, Bool.not_true, Bool.not_false, Bool.not_not, Bool.true_eq_false, Bool.false_eq_true, not_false_eq_true, not_true_eq_false, Decidable.not_not] at hc)) | (with_reducible refine chk_at (by kernel_rfl) ?_)))
    (refine ret_at [] _ (by first | exact retV_one _ _ _ | exact retV_two _ _ _ _ | exact retV_three _ _ _ _ _ | exact retV_four _ _ _ _ _ _ | (simp (disch := first | assumption | omega | (simp only [Fits, maxLen, bv_len, sv_len, List.length_append, List.length_cons, List.length_nil, List.length_map, sB_size] at *; omega)) only [pgr, pgs, pgl, pgx, pgw, tyf, pgn, Nat.reduceEqDiff, reduceIte, Nat.reduceAdd, Nat.reduceSub, Nat.reduceMul, Nat.reduceBEq, Nat.reduceLeDiff, Int.reduceToNat, Int.reduceLT, Int.reduceLE, Int.reduceEq, Int.reduceNe, Nat.reduceLT, Int.reduceNeg, Int.reduceSub, Int.reduceAdd, Int.reduceMul, eq_self, Option.some.injEq, List.getElem?_nil, Int.reduceBEq, Int.reduceBNe, if_true, if_false, ite_true, ite_false, ↓reduceIte]; rfl)) (by decide) (by simp only [pgs, pgl, pgx, pgw, pgn, Nat.reduceEqDiff, reduceIte, Nat.reduceAdd, Nat.reduceSub, Nat.reduceMul, Nat.reduceBEq, Nat.reduceLeDiff, Int.reduceToNat, Int.reduceLT, Int.reduceLE, Int.reduceEq, Int.reduceNe, Nat.reduceLT, Int.reduceNeg, Int.reduceSub, Int.reduceAdd, Int.reduceMul, eq_self, Option.some.injEq, List.getElem?_nil, Int.reduceBEq, Int.reduceBNe, if_true, if_false, ite_true, ite_false, ↓reduceIte]) ?_; (first | rfl | simp only [pgs, pgl, pgx, pgw, pgn, Nat.reduceEqDiff, reduceIte, Nat.reduceAdd, Nat.reduceSub, Nat.reduceMul, Nat.reduceBEq, Nat.reduceLeDiff, Int.reduceToNat, Int.reduceLT, Int.reduceLE, Int.reduceEq, Int.reduceNe, Nat.reduceLT, Int.reduceNeg, Int.reduceSub, Int.reduceAdd, Int.reduceMul, eq_self, Option.some.injEq, List.getElem?_nil, Int.reduceBEq, Int.reduceBNe, if_true, if_false, ite_true, ite_false, ↓reduceIte]))
  rw [if_neg (by omega)]
  (repeat' (first | (simp (disch := first | assumption | omega | (simp only [Fits, maxLen, bv_len, sv_len, List.length_append, List.length_cons, List.length_nil, List.length_map, sB_size] at *; omega)) only [pgs, pgl, pgx, pgw, pgb, tyf, buildSliceV_w, pgn, Nat.reduceEqDiff, reduceIte, Nat.reduceAdd, Nat.reduceSub, Nat.reduceMul, Nat.reduceBEq, Nat.reduceLeDiff, Int.reduceToNat, Int.reduceLT, Int.reduceLE, Int.reduceEq, Int.reduceNe, Nat.reduceLT, Int.reduceNeg, Int.reduceSub, Int.reduceAdd, Int.reduceMul, eq_self, Option.some.injEq, List.getElem?_nil, Int.reduceBEq, Int.reduceBNe, if_true, if_false, ite_true, ite_false, ↓reduceIte, Tryz.f65]) | ((first | ((with_reducible show condC _ _ _ _ _ _ _); refine cond_at (fun hc => ?_) (fun hc => ?_)) | ((with_reducible show guardC _ _ _ _ _ _ _ _); refine guard_at (fun hc => ?_) (fun hc => ?_)) | ((with_reducible show drwG _ _ _ _ _ _ _ _ _ _); refine drw_at (fun hc => ?_) (fun hc => ?_))) <;> (try simp only [hc]) <;> (try simp only [decide_eq_true_eq, decide_eq_false_iff_not, beq_iff_eq, beq_eq_false_iff_ne, bne_iff_ne, bne_eq_false_iff_eq, Bool.not_eq_true', Bool.not_eq_false', Int.not_lt, Int.not_le, Nat.not_lt, Nat.not_le, ne_eq, Bool.not_true, Bool.not_false, Bool.not_not, Bool.true_eq_false, Bool.false_eq_true, not_false_eq_true, not_true_eq_false, Decidable.not_not] at hc)) | (with_reducible refine chk_at (by kernel_rfl) ?_)))
  refine loop_A (fun i => mkA [(0, .c (.string (sB l))), (10, .c (.int .i64 l.length)), (11, .c (.int .i64 (i : Nat)))] [] 0 (fun _ => .top)) (fun i => i ≤ l.length ∧ (l.take i).all okc = true) (fun i => l.length - i) 0 [] [] ?_ ⟨Nat.zero_le _, rfl⟩ ?_
  · (refine keep_mkA ?_ ?_ (top_hd _ _ _) (by decide) (by decide) (by decide) (by decide); (repeat' (first | exact trivial | refine genB_one _ _ rfl rfl ?_ ?_)); all_goals (try simp only [pgs, pgl, pgx, pgw, GenA_cons, GenA_nil, GenL_cons, GenL_nil, gen_top, gen_c, gen_fz, pgn, Nat.reduceEqDiff, reduceIte, Nat.reduceAdd, Nat.reduceSub, Nat.reduceMul, Nat.reduceBEq, Nat.reduceLeDiff, Int.reduceToNat, Int.reduceLT, Int.reduceLE, Int.reduceEq, Int.reduceNe, Nat.reduceLT, Int.reduceNeg, Int.reduceSub, Int.reduceAdd, Int.reduceMul, eq_self, Option.some.injEq, List.getElem?_nil, Int.reduceBEq, Int.reduceBNe, if_true, if_false, ite_true, ite_false, ↓reduceIte]); all_goals (try (repeat' (first | apply And.intro))); all_goals (try (first | exact trivial | exact gen_ii (by omega) | exact gen_cc rfl | exact gen_own rfl rfl | exact gen_ref rfl)))
  · rintro i ⟨hi, hall⟩
    rcases Nat.lt_or_ge i l.length with hlt | hge
    · have hcb := getD_lt ho i
      cases hok : okc (l.getD i 0)
      · rw [all_not hlt hok, if_pos rfl]
        have hc' := okc_f.1 hok
        (repeat' (first | (simp (disch := first | assumption | omega | (simp only [Fits, maxLen, bv_len, sv_len, List.length_append, List.length_cons, List.length_nil, List.length_map, sB_size] at *; omega)) only [pgs, pgl, pgx, pgw, pgb, tyf, buildSliceV_w, pgn, Nat.reduceEqDiff, reduceIte, Nat.reduceAdd, Nat.reduceSub, Nat.reduceMul, Nat.reduceBEq, Nat.reduceLeDiff, Int.reduceToNat, Int.reduceLT, Int.reduceLE, Int.reduceEq, Int.reduceNe, Nat.reduceLT, Int.reduceNeg, Int.reduceSub, Int.reduceAdd, Int.reduceMul, eq_self, Option.some.injEq, List.getElem?_nil, Int.reduceBEq, Int.reduceBNe, if_true, if_false, ite_true, ite_false, ↓reduceIte]) | ((first | ((with_reducible show condC _ _ _ _ _ _ _); refine cond_at (fun hc => ?_) (fun hc => ?_)) | ((with_reducible show guardC _ _ _ _ _ _ _ _); refine guard_at (fun hc => ?_) (fun hc => ?_)) | ((with_reducible show drwG _ _ _ _ _ _ _ _ _ _); refine drw_at (fun hc => ?_) (fun hc => ?_))) <;> (try simp only [hc]) <;> (try simp only [decide_eq_true_eq, decide_eq_false_iff_not, beq_iff_eq, beq_eq_false_iff_ne, bne_iff_ne, bne_eq_false_iff_eq, Bool.not_eq_true', Bool.not_eq_false', Int.not_lt, Int.not_le, Nat.not_lt, Nat.not_le, ne_eq, Bool.not_true, Bool.not_false, Bool.not_not, Bool.true_eq_false, Bool.false_eq_true, not_false_eq_true, not_true_eq_false, Decidable.not_not] at hc)) | (with_reducible refine chk_at (by kernel_rfl) ?_)))
        all_goals (refine ret_at [] _ (by first | exact retV_one _ _ _ | exact retV_two _ _ _ _ | exact retV_three _ _ _ _ _ | exact retV_four _ _ _ _ _ _ | (simp (disch := first | assumption | omega | (simp only [Fits, maxLen, bv_len, sv_len, List.length_append, List.length_cons, List.length_nil, List.length_map, sB_size] at *; omega)) only [pgr, pgs, pgl, pgx, pgw, tyf, pgn, Nat.reduceEqDiff, reduceIte, Nat.reduceAdd, Nat.reduceSub, Nat.reduceMul, Nat.reduceBEq, Nat.reduceLeDiff, Int.reduceToNat, Int.reduceLT, Int.reduceLE, Int.reduceEq, Int.reduceNe, Nat.reduceLT, Int.reduceNeg, Int.reduceSub, Int.reduceAdd, Int.reduceMul, eq_self, Option.some.injEq, List.getElem?_nil, Int.reduceBEq, Int.reduceBNe, if_true, if_false, ite_true, ite_false, ↓reduceIte]; rfl)) (by decide) (by simp only [pgs, pgl, pgx, pgw, pgn, Nat.reduceEqDiff, reduceIte, Nat.reduceAdd, Nat.reduceSub, Nat.reduceMul, Nat.reduceBEq, Nat.reduceLeDiff, Int.reduceToNat, Int.reduceLT, Int.reduceLE, Int.reduceEq, Int.reduceNe, Nat.reduceLT, Int.reduceNeg, Int.reduceSub, Int.reduceAdd, Int.reduceMul, eq_self, Option.some.injEq, List.getElem?_nil, Int.reduceBEq, Int.reduceBNe, if_true, if_false, ite_true, ite_false, ↓reduceIte]) ?_; (first | rfl | simp only [pgs, pgl, pgx, pgw, pgn, Nat.reduceEqDiff, reduceIte, Nat.reduceAdd, Nat.reduceSub, Nat.reduceMul, Nat.reduceBEq, Nat.reduceLeDiff, Int.reduceToNat, Int.reduceLT, Int.reduceLE, Int.reduceEq, Int.reduceNe, Nat.reduceLT, Int.reduceNeg, Int.reduceSub, Int.reduceAdd, Int.reduceMul, eq_self, Option.some.injEq, List.getElem?_nil, Int.reduceBEq, Int.reduceBNe, if_true, if_false, ite_true, ite_false, ↓reduceIte]))
      · have hc' : ¬ (l.getD i 0 ≠ 10 ∧ (l.getD i 0 < 32 ∨ 126 < l.getD i 0)) := fun h' => by rw [← okc_f, hok] at h'; cases h'
        (repeat' (first | (simp (disch := first | assumption | omega | (simp only [Fits, maxLen, bv_len, sv_len, List.length_append, List.length_cons, List.length_nil, List.length_map, sB_size] at *; omega)) only [pgs, pgl, pgx, pgw, pgb, tyf, buildSliceV_w, pgn, Nat.reduceEqDiff, reduceIte, Nat.reduceAdd, Nat.reduceSub, Nat.reduceMul, Nat.reduceBEq, Nat.reduceLeDiff, Int.reduceToNat, Int.reduceLT, Int.reduceLE, Int.reduceEq, Int.reduceNe, Nat.reduceLT, Int.reduceNeg, Int.reduceSub, Int.reduceAdd, Int.reduceMul, eq_self, Option.some.injEq, List.getElem?_nil, Int.reduceBEq, Int.reduceBNe, if_true, if_false, ite_true, ite_false, ↓reduceIte]) | ((first | ((with_reducible show condC _ _ _ _ _ _ _); refine cond_at (fun hc => ?_) (fun hc => ?_)) | ((with_reducible show guardC _ _ _ _ _ _ _ _); refine guard_at (fun hc => ?_) (fun hc => ?_)) | ((with_reducible show drwG _ _ _ _ _ _ _ _ _ _); refine drw_at (fun hc => ?_) (fun hc => ?_))) <;> (try simp only [hc]) <;> (try simp only [decide_eq_true_eq, decide_eq_false_iff_not, beq_iff_eq, beq_eq_false_iff_ne, bne_iff_ne, bne_eq_false_iff_eq, Bool.not_eq_true', Bool.not_eq_false', Int.not_lt, Int.not_le, Nat.not_lt, Nat.not_le, ne_eq, Bool.not_true, Bool.not_false, Bool.not_not, Bool.true_eq_false, Bool.false_eq_true, not_false_eq_true, not_true_eq_false, Decidable.not_not] at hc)) | (with_reducible refine chk_at (by kernel_rfl) ?_)))
        all_goals (refine back_at (i + 1) [] [] (⟨hlt, all_next hlt hall hok⟩) (by first | omega | (simp only [List.length_cons]; omega)) ?_; (refine keep_mkA ?_ ?_ (top_hd _ _ _) (by decide) (by decide) (by decide) (by decide); (repeat' (first | exact trivial | refine genB_one _ _ rfl rfl ?_ ?_)); all_goals (try simp only [pgs, pgl, pgx, pgw, GenA_cons, GenA_nil, GenL_cons, GenL_nil, gen_top, gen_c, gen_fz, pgn, Nat.reduceEqDiff, reduceIte, Nat.reduceAdd, Nat.reduceSub, Nat.reduceMul, Nat.reduceBEq, Nat.reduceLeDiff, Int.reduceToNat, Int.reduceLT, Int.reduceLE, Int.reduceEq, Int.reduceNe, Nat.reduceLT, Int.reduceNeg, Int.reduceSub, Int.reduceAdd, Int.reduceMul, eq_self, Option.some.injEq, List.getElem?_nil, Int.reduceBEq, Int.reduceBNe, if_true, if_false, ite_true, ite_false, ↓reduceIte]); all_goals (try (repeat' (first | apply And.intro))); all_goals (try (first | exact trivial | exact gen_ii (by omega) | exact gen_cc rfl | exact gen_own rfl rfl | exact gen_ref rfl))))
    · have hil : i = l.length := by omega
      subst hil
      rw [List.take_length] at hall
      rw [hall, if_neg (by simp)]
      by_cases hz : l = []
      · rw [if_pos hz]
        (repeat' (first | (simp (disch := first | assumption | omega | (simp only [Fits, maxLen, bv_len, sv_len, List.length_append, List.length_cons, List.length_nil, List.length_map, sB_size] at *; omega)) only [pgs, pgl, pgx, pgw, pgb, tyf, buildSliceV_w, pgn, Nat.reduceEqDiff, reduceIte, Nat.reduceAdd, Nat.reduceSub, Nat.reduceMul, Nat.reduceBEq, Nat.reduceLeDiff, Int.reduceToNat, Int.reduceLT, Int.reduceLE, Int.reduceEq, Int.reduceNe, Nat.reduceLT, Int.reduceNeg, Int.reduceSub, Int.reduceAdd, Int.reduceMul, eq_self, Option.some.injEq, List.getElem?_nil, Int.reduceBEq, Int.reduceBNe, if_true, if_false, ite_true, ite_false, ↓reduceIte, nils, nilS l ho, hz]) | ((first | ((with_reducible show condC _ _ _ _ _ _ _); refine cond_at (fun hc => ?_) (fun hc => ?_)) | ((with_reducible show guardC _ _ _ _ _ _ _ _); refine guard_at (fun hc => ?_) (fun hc => ?_)) | ((with_reducible show drwG _ _ _ _ _ _ _ _ _ _); refine drw_at (fun hc => ?_) (fun hc => ?_))) <;> (try simp only [hc]) <;> (try simp only [decide_eq_true_eq, decide_eq_false_iff_not, beq_iff_eq, beq_eq_false_iff_ne, bne_iff_ne, bne_eq_false_iff_eq, Bool.not_eq_true', Bool.not_eq_false', Int.not_lt, Int.not_le, Nat.not_lt, Nat.not_le, ne_eq, Bool.not_true, Bool.not_false, Bool.not_not, Bool.true_eq_false, Bool.false_eq_true, not_false_eq_true, not_true_eq_false, Decidable.not_not] at hc)) | (with_reducible refine chk_at (by kernel_rfl) ?_)))
        (refine ret_at [] _ (by first | exact retV_one _ _ _ | exact retV_two _ _ _ _ | exact retV_three _ _ _ _ _ | exact retV_four _ _ _ _ _ _ | (simp (disch := first | assumption | omega | (simp only [Fits, maxLen, bv_len, sv_len, List.length_append, List.length_cons, List.length_nil, List.length_map, sB_size] at *; omega)) only [pgr, pgs, pgl, pgx, pgw, tyf, pgn, Nat.reduceEqDiff, reduceIte, Nat.reduceAdd, Nat.reduceSub, Nat.reduceMul, Nat.reduceBEq, Nat.reduceLeDiff, Int.reduceToNat, Int.reduceLT, Int.reduceLE, Int.reduceEq, Int.reduceNe, Nat.reduceLT, Int.reduceNeg, Int.reduceSub, Int.reduceAdd, Int.reduceMul, eq_self, Option.some.injEq, List.getElem?_nil, Int.reduceBEq, Int.reduceBNe, if_true, if_false, ite_true, ite_false, ↓reduceIte]; rfl)) (by decide) (by simp only [pgs, pgl, pgx, pgw, pgn, Nat.reduceEqDiff, reduceIte, Nat.reduceAdd, Nat.reduceSub, Nat.reduceMul, Nat.reduceBEq, Nat.reduceLeDiff, Int.reduceToNat, Int.reduceLT, Int.reduceLE, Int.reduceEq, Int.reduceNe, Nat.reduceLT, Int.reduceNeg, Int.reduceSub, Int.reduceAdd, Int.reduceMul, eq_self, Option.some.injEq, List.getElem?_nil, Int.reduceBEq, Int.reduceBNe, if_true, if_false, ite_true, ite_false, ↓reduceIte]) ?_; (first | rfl | simp only [pgs, pgl, pgx, pgw, pgn, Nat.reduceEqDiff, reduceIte, Nat.reduceAdd, Nat.reduceSub, Nat.reduceMul, Nat.reduceBEq, Nat.reduceLeDiff, Int.reduceToNat, Int.reduceLT, Int.reduceLE, Int.reduceEq, Int.reduceNe, Nat.reduceLT, Int.reduceNeg, Int.reduceSub, Int.reduceAdd, Int.reduceMul, eq_self, Option.some.injEq, List.getElem?_nil, Int.reduceBEq, Int.reduceBNe, if_true, if_false, ite_true, ite_false, ↓reduceIte]))
      · rw [if_neg hz]
        obtain ⟨h1, h2⟩ := trm_oct (c := 10) ho
        (repeat' (first | (simp (disch := first | assumption | omega | (simp only [Fits, maxLen, bv_len, sv_len, List.length_append, List.length_cons, List.length_nil, List.length_map, sB_size] at *; omega)) only [pgs, pgl, pgx, pgw, pgb, tyf, buildSliceV_w, pgn, Nat.reduceEqDiff, reduceIte, Nat.reduceAdd, Nat.reduceSub, Nat.reduceMul, Nat.reduceBEq, Nat.reduceLeDiff, Int.reduceToNat, Int.reduceLT, Int.reduceLE, Int.reduceEq, Int.reduceNe, Nat.reduceLT, Int.reduceNeg, Int.reduceSub, Int.reduceAdd, Int.reduceMul, eq_self, Option.some.injEq, List.getElem?_nil, Int.reduceBEq, Int.reduceBNe, if_true, if_false, ite_true, ite_false, ↓reduceIte, nils, str10, nilS l ho, hz]) | ((with_reducible show callW _ _ _ _ _ _); first | refine callW_use _ (good44 l 10 ho (by omega) (by omega)) rfl rfl rfl rfl ?_ | refine callW_use _ (good43 (trm 10 l) 10 h1 (by omega) (by omega)) rfl rfl rfl rfl ?_) | ((first | ((with_reducible show condC _ _ _ _ _ _ _); refine cond_at (fun hc => ?_) (fun hc => ?_)) | ((with_reducible show guardC _ _ _ _ _ _ _ _); refine guard_at (fun hc => ?_) (fun hc => ?_)) | ((with_reducible show drwG _ _ _ _ _ _ _ _ _ _); refine drw_at (fun hc => ?_) (fun hc => ?_))) <;> (try simp only [hc]) <;> (try simp only [decide_eq_true_eq, decide_eq_false_iff_not, beq_iff_eq, beq_eq_false_iff_ne, bne_iff_ne, bne_eq_false_iff_eq, Bool.not_eq_true', Bool.not_eq_false', Int.not_lt, Int.not_le, Nat.not_lt, Nat.not_le, ne_eq, Bool.not_true, Bool.not_false, Bool.not_not, Bool.true_eq_false, Bool.false_eq_true, not_false_eq_true, not_true_eq_false, Decidable.not_not] at hc)) | (with_reducible refine chk_at (by kernel_rfl) ?_)))
        (refine ret_at [0] _ (by first | exact retV_one _ _ _ | exact retV_two _ _ _ _ | exact retV_three _ _ _ _ _ | exact retV_four _ _ _ _ _ _ | (simp (disch := first | assumption | omega | (simp only [Fits, maxLen, bv_len, sv_len, List.length_append, List.length_cons, List.length_nil, List.length_map, sB_size] at *; omega)) only [pgr, pgs, pgl, pgx, pgw, tyf, pgn, Nat.reduceEqDiff, reduceIte, Nat.reduceAdd, Nat.reduceSub, Nat.reduceMul, Nat.reduceBEq, Nat.reduceLeDiff, Int.reduceToNat, Int.reduceLT, Int.reduceLE, Int.reduceEq, Int.reduceNe, Nat.reduceLT, Int.reduceNeg, Int.reduceSub, Int.reduceAdd, Int.reduceMul, eq_self, Option.some.injEq, List.getElem?_nil, Int.reduceBEq, Int.reduceBNe, if_true, if_false, ite_true, ite_false, ↓reduceIte]; rfl)) (by decide) (by simp only [pgs, pgl, pgx, pgw, pgn, Nat.reduceEqDiff, reduceIte, Nat.reduceAdd, Nat.reduceSub, Nat.reduceMul, Nat.reduceBEq, Nat.reduceLeDiff, Int.reduceToNat, Int.reduceLT, Int.reduceLE, Int.reduceEq, Int.reduceNe, Nat.reduceLT, Int.reduceNeg, Int.reduceSub, Int.reduceAdd, Int.reduceMul, eq_self, Option.some.injEq, List.getElem?_nil, Int.reduceBEq, Int.reduceBNe, if_true, if_false, ite_true, ite_false, ↓reduceIte]) ?_; (first | rfl | simp only [pgs, pgl, pgx, pgw, pgn, Nat.reduceEqDiff, reduceIte, Nat.reduceAdd, Nat.reduceSub, Nat.reduceMul, Nat.reduceBEq, Nat.reduceLeDiff, Int.reduceToNat, Int.reduceLT, Int.reduceLE, Int.reduceEq, Int.reduceNe, Nat.reduceLT, Int.reduceNeg, Int.reduceSub, Int.reduceAdd, Int.reduceMul, eq_self, Option.some.injEq, List.getElem?_nil, Int.reduceBEq, Int.reduceBNe, if_true, if_false, ite_true, ite_false, ↓reduceIte]))

theorem sv_snoc (l : List (List Nat)) (x : List Nat) : sv l ++ [V.c (.string (sB x))] = sv (l ++ [x]) := by simp [sv]
end Go.Proofs.YtjiolbcdfgclaaaGreatDoor
end

section
/-
  Names: Fields, of the program and of the reference.
-/
namespace Go.Proofs.YtjiolbcdfgclaaaGreatDoor
open Go Go.Pg
set_option maxRecDepth 100000
set_option linter.unusedSimpArgs false
set_option linter.unusedVariables false

theorem str35 : (⟨#[35]⟩ : ByteArray) = sB [35] := by rfl
theorem str32 : (⟨#[32]⟩ : ByteArray) = sB [32] := by rfl
theorem bef_oct {l : List Nat} {c : Nat} (ho : oct l) : oct (bef c l) := fun b hb => ho b (bef_mem c l b hb).1
theorem filt1 {w : List Nat} (hn : w ≠ []) : [w].filter nonE = [w] := by
  have : nonE w = true := by rw [nonE_ne]; exact decide_eq_true hn
  rw [List.filter_cons, if_pos this]; rfl
theorem filt0 : [([] : List Nat)].filter nonE = [] := rfl
theorem filt_next {l : List (List Nat)} {i : Nat} (h : i < l.length) (hn : l.getD i [] ≠ []) : (l.take (i + 1)).filter nonE = (l.take i).filter nonE ++ [l.getD i []] := by
  have g : l.getD i [] = l[i] := by simp [List.getD, h]
  rw [List.take_succ_eq_append_getElem h, List.filter_append, ← g, filt1 hn]
theorem filt_same {l : List (List Nat)} {i : Nat} (h : i < l.length) (hn : l.getD i [] = []) : (l.take (i + 1)).filter nonE = (l.take i).filter nonE := by
  have g : l.getD i [] = l[i] := by simp [List.getD, h]
  rw [List.take_succ_eq_append_getElem h, List.filter_append, ← g, hn]
  simp [nonE]
theorem filt_len (l : List (List Nat)) (i : Nat) : ((l.take i).filter nonE).length ≤ l.length := by
  have := List.length_filter_le nonE (l.take i)
  simp at this
  have h2 := List.length_filter_le nonE (l.take i)
  rw [List.length_take] at h2
  omega
theorem good26 (l : List Nat) (ho : oct l) (hl : l.length ≤ 4294967280) : Pg.Good Tryz.prog 66 [.c (.string (sB l))] (.sl (.own 0 9) 1 (sv (fld l))) := by
  refine good_intro (drawW_ok mix) Tryz.func66 rfl Tryz.results66 rfl (by kernel_rfl) (Nat.le_of_ble_eq_true (by kernel_rfl)) ?_
  have a1 := good42 l 35 ho (by omega) hl
  have hbl := bef_len 35 l
  have a2 := good43 (bef 35 l) 32 (bef_oct ho) (by omega) (by omega)
  have hsl := spl_len 32 (bef 35 l)
  have hpo : ∀ p ∈ spl 32 (bef 35 l), oct p := fun p hp b hb => ho b (bef_mem 35 l b (spl_mem 32 _ p hp b hb).1).1
  unfold fld
  generalize hxs : spl 32 (bef 35 l) = xs at a2 hsl hpo
  (repeat' (first | (simp (disch := first | assumption | omega | (simp only [Fits, maxLen, bv_len, sv_len, List.length_append, List.length_cons, List.length_nil, List.length_map, sB_size] at *; omega)) only [pgs, pgl, pgx, pgw, pgb, tyf, buildSliceV_w, pgn, Nat.reduceEqDiff, reduceIte, Nat.reduceAdd, Nat.reduceSub, Nat.reduceMul, Nat.reduceBEq, Nat.reduceLeDiff, Int.reduceToNat, Int.reduceLT, Int.reduceLE, Int.reduceEq, Int.reduceNe, Nat.reduceLT, Int.reduceNeg, Int.reduceSub, Int.reduceAdd, Int.reduceMul, eq_self, Option.some.injEq, List.getElem?_nil, Int.reduceBEq, Int.reduceBNe, if_true, if_false, ite_true, ite_false, ↓reduceIte, Tryz.f66, str35, str32]) | ((with_reducible show callW _ _ _ _ _ _); first | refine callW_use _ (a1) rfl rfl rfl rfl ?_ | refine callW_use _ (a2) rfl rfl rfl rfl ?_) | ((first | ((with_reducible show condC _ _ _ _ _ _ _); refine cond_at (fun hc => ?_) (fun hc => ?_)) | ((with_reducible show guardC _ _ _ _ _ _ _ _); refine guard_at (fun hc => ?_) (fun hc => ?_)) | ((with_reducible show drwG _ _ _ _ _ _ _ _ _ _); refine drw_at (fun hc => ?_) (fun hc => ?_))) <;> (try simp only [hc]) <;> (try simp only [decide_eq_true_eq, decide_eq_false_iff_not, beq_iff_eq, beq_eq_false_iff_ne, bne_iff_ne, bne_eq_false_iff_eq, Bool.not_eq_true', Bool.not_eq_false', Int.not_lt, Int.not_le, Nat.not_lt, Nat.not_le, ne_eq, Bool.not_true, Bool.not_false, Bool.not_not, Bool.true_eq_false, Bool.false_eq_true, not_false_eq_true, not_true_eq_false, Decidable.not_not] at hc)) | (with_reducible refine chk_at (by kernel_rfl) ?_)))
  refine loop_A (fun i => mkA [(3, .sl (.own 1 9) 1 (sv ((xs.take i).filter nonE))), (13, .sl (.own 0 9) 1 (sv xs)), (14, .c (.int .i64 xs.length)), (15, .c (.int .i64 (i : Nat)))] [] 2 (fun _ => .top)) (fun i => i ≤ xs.length) (fun i => xs.length - i) 0 [0] [] ?_ (Nat.zero_le _) ?_
  · (refine keep_mkA ?_ ?_ (top_hd _ _ _) (by decide) (by decide) (by decide) (by decide); (repeat' (first | exact trivial | refine genB_one _ _ rfl rfl ?_ ?_)); all_goals (try simp only [pgs, pgl, pgx, pgw, GenA_cons, GenA_nil, GenL_cons, GenL_nil, gen_top, gen_c, gen_fz, pgn, Nat.reduceEqDiff, reduceIte, Nat.reduceAdd, Nat.reduceSub, Nat.reduceMul, Nat.reduceBEq, Nat.reduceLeDiff, Int.reduceToNat, Int.reduceLT, Int.reduceLE, Int.reduceEq, Int.reduceNe, Nat.reduceLT, Int.reduceNeg, Int.reduceSub, Int.reduceAdd, Int.reduceMul, eq_self, Option.some.injEq, List.getElem?_nil, Int.reduceBEq, Int.reduceBNe, if_true, if_false, ite_true, ite_false, ↓reduceIte]); all_goals (try (repeat' (first | apply And.intro))); all_goals (try (first | exact trivial | exact gen_ii (by omega) | exact gen_cc rfl | exact gen_own rfl rfl | exact gen_ref rfl)))
    all_goals exact gen_nilx rfl
  · intro i hi
    have hfl := filt_len xs i
    rcases Nat.lt_or_ge i xs.length with hlt | hge
    · have hpi : oct (xs.getD i []) := by
        have g : xs.getD i [] = xs[i] := by simp [List.getD, hlt]
        rw [g]; exact hpo _ (List.getElem_mem hlt)
      by_cases hn : xs.getD i [] = []
      · (repeat' (first | (simp (disch := first | assumption | omega | (simp only [Fits, maxLen, bv_len, sv_len, List.length_append, List.length_cons, List.length_nil, List.length_map, sB_size] at *; omega)) only [pgs, pgl, pgx, pgw, pgb, tyf, buildSliceV_w, pgn, Nat.reduceEqDiff, reduceIte, Nat.reduceAdd, Nat.reduceSub, Nat.reduceMul, Nat.reduceBEq, Nat.reduceLeDiff, Int.reduceToNat, Int.reduceLT, Int.reduceLE, Int.reduceEq, Int.reduceNe, Nat.reduceLT, Int.reduceNeg, Int.reduceSub, Int.reduceAdd, Int.reduceMul, eq_self, Option.some.injEq, List.getElem?_nil, Int.reduceBEq, Int.reduceBNe, if_true, if_false, ite_true, ite_false, ↓reduceIte, nils, sv_get, nilS _ hpi, hn]) | ((first | ((with_reducible show condC _ _ _ _ _ _ _); refine cond_at (fun hc => ?_) (fun hc => ?_)) | ((with_reducible show guardC _ _ _ _ _ _ _ _); refine guard_at (fun hc => ?_) (fun hc => ?_)) | ((with_reducible show drwG _ _ _ _ _ _ _ _ _ _); refine drw_at (fun hc => ?_) (fun hc => ?_))) <;> (try simp only [hc]) <;> (try simp only [decide_eq_true_eq, decide_eq_false_iff_not, beq_iff_eq, beq_eq_false_iff_ne, bne_iff_ne, bne_eq_false_iff_eq, Bool.not_eq_true', Bool.not_eq_false', Int.not_lt, Int.not_le, Nat.not_lt, Nat.not_le, ne_eq, Bool.not_true, Bool.not_false, Bool.not_not, Bool.true_eq_false, Bool.false_eq_true, not_false_eq_true, not_true_eq_false, Decidable.not_not] at hc)) | (with_reducible refine chk_at (by kernel_rfl) ?_)))
        (refine back_at (i + 1) [0, 1] [] (hlt) (by first | omega | (simp only [List.length_cons]; omega)) ?_; (refine keep_mkA ?_ ?_ (top_hd _ _ _) (by decide) (by decide) (by decide) (by decide); (repeat' (first | exact trivial | refine genB_one _ _ rfl rfl ?_ ?_)); all_goals (try simp only [pgs, pgl, pgx, pgw, GenA_cons, GenA_nil, GenL_cons, GenL_nil, gen_top, gen_c, gen_fz, pgn, Nat.reduceEqDiff, reduceIte, Nat.reduceAdd, Nat.reduceSub, Nat.reduceMul, Nat.reduceBEq, Nat.reduceLeDiff, Int.reduceToNat, Int.reduceLT, Int.reduceLE, Int.reduceEq, Int.reduceNe, Nat.reduceLT, Int.reduceNeg, Int.reduceSub, Int.reduceAdd, Int.reduceMul, eq_self, Option.some.injEq, List.getElem?_nil, Int.reduceBEq, Int.reduceBNe, if_true, if_false, ite_true, ite_false, ↓reduceIte]); all_goals (try (repeat' (first | apply And.intro))); all_goals (try (first | exact trivial | exact gen_ii (by omega) | exact gen_cc rfl | exact gen_own rfl rfl | exact gen_ref rfl))))
        all_goals exact gen_own rfl (by rw [filt_same hlt hn])
      · (repeat' (first | (simp (disch := first | assumption | omega | (simp only [Fits, maxLen, bv_len, sv_len, List.length_append, List.length_cons, List.length_nil, List.length_map, sB_size] at *; omega)) only [pgs, pgl, pgx, pgw, pgb, tyf, buildSliceV_w, pgn, Nat.reduceEqDiff, reduceIte, Nat.reduceAdd, Nat.reduceSub, Nat.reduceMul, Nat.reduceBEq, Nat.reduceLeDiff, Int.reduceToNat, Int.reduceLT, Int.reduceLE, Int.reduceEq, Int.reduceNe, Nat.reduceLT, Int.reduceNeg, Int.reduceSub, Int.reduceAdd, Int.reduceMul, eq_self, Option.some.injEq, List.getElem?_nil, Int.reduceBEq, Int.reduceBNe, if_true, if_false, ite_true, ite_false, ↓reduceIte, nils, sv_get, nilS _ hpi, hn, sv_snoc]) | ((first | ((with_reducible show condC _ _ _ _ _ _ _); refine cond_at (fun hc => ?_) (fun hc => ?_)) | ((with_reducible show guardC _ _ _ _ _ _ _ _); refine guard_at (fun hc => ?_) (fun hc => ?_)) | ((with_reducible show drwG _ _ _ _ _ _ _ _ _ _); refine drw_at (fun hc => ?_) (fun hc => ?_))) <;> (try simp only [hc]) <;> (try simp only [decide_eq_true_eq, decide_eq_false_iff_not, beq_iff_eq, beq_eq_false_iff_ne, bne_iff_ne, bne_eq_false_iff_eq, Bool.not_eq_true', Bool.not_eq_false', Int.not_lt, Int.not_le, Nat.not_lt, Nat.not_le, ne_eq, Bool.not_true, Bool.not_false, Bool.not_not, Bool.true_eq_false, Bool.false_eq_true, not_false_eq_true, not_true_eq_false, Decidable.not_not] at hc)) | (with_reducible refine chk_at (by kernel_rfl) ?_)))
        (refine back_at (i + 1) [0, 1] [] (hlt) (by first | omega | (simp only [List.length_cons]; omega)) ?_; (refine keep_mkA ?_ ?_ (top_hd _ _ _) (by decide) (by decide) (by decide) (by decide); (repeat' (first | exact trivial | refine genB_one _ _ rfl rfl ?_ ?_)); all_goals (try simp only [pgs, pgl, pgx, pgw, GenA_cons, GenA_nil, GenL_cons, GenL_nil, gen_top, gen_c, gen_fz, pgn, Nat.reduceEqDiff, reduceIte, Nat.reduceAdd, Nat.reduceSub, Nat.reduceMul, Nat.reduceBEq, Nat.reduceLeDiff, Int.reduceToNat, Int.reduceLT, Int.reduceLE, Int.reduceEq, Int.reduceNe, Nat.reduceLT, Int.reduceNeg, Int.reduceSub, Int.reduceAdd, Int.reduceMul, eq_self, Option.some.injEq, List.getElem?_nil, Int.reduceBEq, Int.reduceBNe, if_true, if_false, ite_true, ite_false, ↓reduceIte]); all_goals (try (repeat' (first | apply And.intro))); all_goals (try (first | exact trivial | exact gen_ii (by omega) | exact gen_cc rfl | exact gen_own rfl rfl | exact gen_ref rfl))))
        all_goals exact gen_own rfl (by rw [filt_next hlt hn])
    · have hil : i = xs.length := by omega
      subst hil
      rw [List.take_length]
      (repeat' (first | (simp (disch := first | assumption | omega | (simp only [Fits, maxLen, bv_len, sv_len, List.length_append, List.length_cons, List.length_nil, List.length_map, sB_size] at *; omega)) only [pgs, pgl, pgx, pgw, pgb, tyf, buildSliceV_w, pgn, Nat.reduceEqDiff, reduceIte, Nat.reduceAdd, Nat.reduceSub, Nat.reduceMul, Nat.reduceBEq, Nat.reduceLeDiff, Int.reduceToNat, Int.reduceLT, Int.reduceLE, Int.reduceEq, Int.reduceNe, Nat.reduceLT, Int.reduceNeg, Int.reduceSub, Int.reduceAdd, Int.reduceMul, eq_self, Option.some.injEq, List.getElem?_nil, Int.reduceBEq, Int.reduceBNe, if_true, if_false, ite_true, ite_false, ↓reduceIte]) | ((first | ((with_reducible show condC _ _ _ _ _ _ _); refine cond_at (fun hc => ?_) (fun hc => ?_)) | ((with_reducible show guardC _ _ _ _ _ _ _ _); refine guard_at (fun hc => ?_) (fun hc => ?_)) | ((with_reducible show drwG _ _ _ _ _ _ _ _ _ _); refine drw_at (fun hc => ?_) (fun hc => ?_))) <;> (try simp only [hc]) <;> (try simp only [decide_eq_true_eq, decide_eq_false_iff_not, beq_iff_eq, beq_eq_false_iff_ne, bne_iff_ne, bne_eq_false_iff_eq, Bool.not_eq_true', Bool.not_eq_false', Int.not_lt, Int.not_le, Nat.not_lt, Nat.not_le, ne_eq, Bool.not_true, Bool.not_false, Bool.not_not, Bool.true_eq_false, Bool.false_eq_true, not_false_eq_true, not_true_eq_false, Decidable.not_not] at hc)) | (with_reducible refine chk_at (by kernel_rfl) ?_)))
      (refine ret_at [1] _ (by first | exact retV_one _ _ _ | exact retV_two _ _ _ _ | exact retV_three _ _ _ _ _ | exact retV_four _ _ _ _ _ _ | (simp (disch := first | assumption | omega | (simp only [Fits, maxLen, bv_len, sv_len, List.length_append, List.length_cons, List.length_nil, List.length_map, sB_size] at *; omega)) only [pgr, pgs, pgl, pgx, pgw, tyf, pgn, Nat.reduceEqDiff, reduceIte, Nat.reduceAdd, Nat.reduceSub, Nat.reduceMul, Nat.reduceBEq, Nat.reduceLeDiff, Int.reduceToNat, Int.reduceLT, Int.reduceLE, Int.reduceEq, Int.reduceNe, Nat.reduceLT, Int.reduceNeg, Int.reduceSub, Int.reduceAdd, Int.reduceMul, eq_self, Option.some.injEq, List.getElem?_nil, Int.reduceBEq, Int.reduceBNe, if_true, if_false, ite_true, ite_false, ↓reduceIte]; rfl)) (by decide) (by simp only [pgs, pgl, pgx, pgw, pgn, Nat.reduceEqDiff, reduceIte, Nat.reduceAdd, Nat.reduceSub, Nat.reduceMul, Nat.reduceBEq, Nat.reduceLeDiff, Int.reduceToNat, Int.reduceLT, Int.reduceLE, Int.reduceEq, Int.reduceNe, Nat.reduceLT, Int.reduceNeg, Int.reduceSub, Int.reduceAdd, Int.reduceMul, eq_self, Option.some.injEq, List.getElem?_nil, Int.reduceBEq, Int.reduceBNe, if_true, if_false, ite_true, ite_false, ↓reduceIte]) ?_; (first | rfl | simp only [pgs, pgl, pgx, pgw, pgn, Nat.reduceEqDiff, reduceIte, Nat.reduceAdd, Nat.reduceSub, Nat.reduceMul, Nat.reduceBEq, Nat.reduceLeDiff, Int.reduceToNat, Int.reduceLT, Int.reduceLE, Int.reduceEq, Int.reduceNe, Nat.reduceLT, Int.reduceNeg, Int.reduceSub, Int.reduceAdd, Int.reduceMul, eq_self, Option.some.injEq, List.getElem?_nil, Int.reduceBEq, Int.reduceBNe, if_true, if_false, ite_true, ite_false, ↓reduceIte]))

end Go.Proofs.YtjiolbcdfgclaaaGreatDoor
end

section
/-
  Names, plain: what is written is read back (keys, numbers); numbers' low bits.
-/
namespace Go.Proofs.YtjiolbcdfgclaaaGreatDoor
open Go Go.Pg
set_option maxRecDepth 100000
set_option linter.unusedSimpArgs false
set_option linter.unusedVariables false

theorem nib_hx : ∀ d, d < 16 → nib (hx d) = d := by decide
theorem rt_at (l : List Nat) (ho : oct l) (t : Nat) (ht : t < l.length) : (hexL l).getD (2 * t) 0 = hx (l.getD t 0 / 16) ∧ (hexL l).getD (2 * t + 1) 0 = hx (l.getD t 0 % 16) := by
  induction l generalizing t with
  | nil => simp at ht
  | cons a l ih =>
    have e : hexL (a :: l) = hx (a / 16) :: hx (a % 16) :: hexL l := by simp [hexL]
    rw [e]
    cases t with
    | zero => exact ⟨rfl, rfl⟩
    | succ t =>
      have := ih (fun x hx => ho x (by simp [hx])) t (by simpa using ht)
      simpa [List.getD, Nat.mul_add] using this
theorem rt (l : List Nat) (ho : oct l) : okB (hexL l) l.length = true ∧ prs (hexL l) l.length = l := by
  have h1 : ∀ t, t < l.length → okP (hexL l) t = true ∧ prB (hexL l) t = l.getD t 0 := by
    intro t ht
    have h2 := rt_at l ho t ht
    have h3 := getD_lt ho t
    unfold okP prB
    rw [h2.1, h2.2, nib_hx _ (by omega), nib_hx _ (by omega)]
    refine ⟨by simp; omega, by omega⟩
  constructor
  · rw [okB, List.all_eq_true]
    intro t ht
    exact (h1 t (List.mem_range.1 ht)).1
  · apply List.ext_getElem?
    intro i
    rcases Nat.lt_or_ge i l.length with hi | hi
    · have := (h1 i hi).2
      simp only [prs, List.getElem?_map, List.getElem?_range hi, Option.map_some, this, List.getD, List.getElem?_eq_getElem hi, Option.getD_some]
    · rw [List.getElem?_eq_none (by rw [prs_len]; omega), List.getElem?_eq_none hi]
theorem fk_pk {l : List Nat} (ho : oct l) (h : (fk l).2 = 0) : pk (fk l).1 = (l, 0) := by
  rw [← pkP_eq _ (fk_oct ho)]
  have hfk : fk l = ((fk l).1, 0) := by rw [← h]
  unfold fk at h
  cases h1 : isKey l
  · rw [h1] at h; simp at h
  · cases h2 : plain l
    · have e : (fk l).1 = 37 :: hexL l := by unfold fk; rw [h1, h2]; rfl
      rw [e] at hfk ⊢
      unfold pkP keyOf
      have hp : hasP (37 :: hexL l) [37] = true := (pct _).2 ⟨by simp, rfl⟩
      have hd : (37 :: hexL l).drop 1 = hexL l := rfl
      have hlen := hexL_len l
      have hr := rt l ho
      rw [hp, if_pos rfl, hd, if_neg (by omega), show (hexL l).length / 2 = l.length by omega, hr.1, if_pos rfl, hr.2]
      simp only
      rw [hfk, if_neg (by simp)]
    · have e : (fk l).1 = l := by unfold fk; rw [h1, h2]; rfl
      rw [e] at hfk ⊢
      unfold pkP keyOf
      rw [plain_pct l h2, if_neg (by simp)]
      simp only
      rw [hfk, if_neg (by simp)]
theorem fk_len (l : List Nat) : (fk l).1.length ≤ 65 := by
  unfold fk
  cases h1 : isKey l
  · simp
  · have := key_len h1
    have := hexL_len l
    cases h2 : plain l <;> simp <;> omega
theorem fk_key (l : List Nat) : ((fk l).2 = 0 ∧ isKey l = true) ∨ ((fk l).2 = 7 ∧ isKey l = false) := by
  unfold fk
  cases h1 : isKey l
  · exact .inr ⟨rfl, rfl⟩
  · cases h2 : plain l <;> exact .inl ⟨rfl, rfl⟩
theorem pk_fk {m : List Nat} (ho : oct m) : ((pk m).2 = 0 ∧ fk (pk m).1 = (m, 0)) ∨ (pk m).2 = 1 := by
  rw [← pkP_eq m ho]
  unfold pkP
  cases h : keyOf m with
  | none => exact .inr rfl
  | some k =>
    simp only
    by_cases h1 : (fk k).2 ≠ 0 ∨ (fk k).1 ≠ m
    · rw [if_pos h1]; exact .inr rfl
    · rw [if_neg h1]
      have h2 : (fk k).2 = 0 := by
        rcases Nat.eq_zero_or_pos (fk k).2 with h2 | h2
        · exact h2
        · exact absurd (.inl (by omega)) h1
      have h3 : (fk k).1 = m := Classical.byContradiction fun h3 => h1 (.inr h3)
      exact .inl ⟨rfl, by rw [← h2, ← h3]⟩
theorem pk_oct {m : List Nat} (ho : oct m) (hl : m.length ≤ 140737488355328) : oct (pk m).1 := by
  rw [← pkP_eq m ho]
  unfold pkP
  cases h : keyOf m with
  | none => exact oct_nil
  | some k =>
    simp only
    split
    · exact oct_nil
    · exact (keyOf_oct ho hl h).1
/-- The digits of a number, as octets. -/
def dd (u : Nat) : List Nat := (Lib.decDigits u).map UInt8.toNat
theorem dd_lt (u : Nat) (h : u < 10) : dd u = [48 + u] := by
  unfold dd Lib.decDigits
  rw [dif_pos h]
  simp
  omega
theorem dd_ge (u : Nat) (h : 10 ≤ u) : dd u = dd (u / 10) ++ [48 + u % 10] := by
  unfold dd
  rw [Lib.decDigits, dif_neg (by omega)]
  simp
  omega
theorem dig_snoc (l : List Nat) (b : Nat) : dig (l ++ [b]) = 10 * dig l + (b - 48) := by simp [dig]
theorem dd_ok : ∀ (n u : Nat), u < n → (dd u).all (fun c => bt c 48 57) = true ∧ dig (dd u) = u ∧ 1 ≤ (dd u).length ∧ (1 ≤ u → (dd u).getD 0 0 ≠ 48) ∧ (∀ k, 1 ≤ k → ((dd u).length ≤ k ↔ u < 10 ^ k)) := by
  intro n
  induction n with
  | zero => intro u h; omega
  | succ n ih =>
    intro u hu
    rcases Nat.lt_or_ge u 10 with h | h
    · rw [dd_lt u h]
      refine ⟨by simp [bt]; omega, by simp [dig], by simp, by intro h1; simp; omega, fun k hk => ?_⟩
      have : 10 ^ 1 ≤ 10 ^ k := Nat.pow_le_pow_right (by omega) hk
      simp
      omega
    · rw [dd_ge u h]
      obtain ⟨h1, h2, h3, h4, h5⟩ := ih (u / 10) (by omega)
      refine ⟨?_, ?_, by simp, ?_, fun k hk => ?_⟩
      · rw [List.all_append, h1]
        simp [bt]
        omega
      · rw [dig_snoc, h2]; omega
      · intro _
        have h6 := h4 (by omega)
        have h7 : 0 < (dd (u / 10)).length := by omega
        simp only [List.getD, List.getElem?_append_left h7] at h6 ⊢
        exact h6
      · rw [List.length_append, List.length_singleton]
        cases k with
        | zero => omega
        | succ k =>
          cases k with
          | zero =>
            constructor
            · intro h'; omega
            · intro h'
              have : (10 : Nat) ^ (0 + 1) = 10 := by decide
              omega
          | succ k =>
            have := h5 (k + 1) (by omega)
            rw [Nat.pow_succ]
            omega
theorem itoaN_at (n : Int) : itoaN n = if n < 0 then 45 :: dd n.natAbs else dd n.toNat := by
  unfold itoaN Lib.itoa dd
  split <;> simp
theorem hasP_dash (l : List Nat) : hasP l [45] = true ↔ 0 < l.length ∧ l.getD 0 0 = 45 := by
  cases l with
  | nil => simp [hasP]
  | cons a l => simp [hasP]
theorem hasP_cons (c : Nat) (l : List Nat) : hasP (c :: l) [45] = (c == 45) := by
  rw [Bool.eq_iff_iff, hasP_dash]
  simp
theorem pint_itoa (n : Int) : pint (itoaN n) = if -999999999999 ≤ n ∧ n ≤ 999999999999 then (n, 0) else (0, 1) := by
  rw [itoaN_at]
  have key : ∀ u : Nat, ∀ neg : Bool, (neg = true → 1 ≤ u) → badI (dd u) neg = !decide (u ≤ 999999999999) := by
    intro u neg hneg
    obtain ⟨h1, h2, h3, h4, h5⟩ := dd_ok (u + 1) u (by omega)
    have h6 := h5 12 (by omega)
    rw [Bool.eq_iff_iff, badI_iff, Bool.not_eq_true', decide_eq_false_iff_not]
    have h7 : (10 : Nat) ^ 12 = 1000000000000 := by decide
    constructor
    · rintro (h | h | ⟨h, h'⟩)
      · omega
      · omega
      · rcases Nat.eq_zero_or_pos u with h0 | h0
        · subst h0
          rw [dd_lt 0 (by omega)] at h'
          rcases h' with h' | h'
          · simp at h'
          · have := hneg h'; omega
        · exact absurd h (h4 h0)
    · intro h
      exact .inr (.inl (by omega))
  unfold pint
  by_cases hn : n < 0
  · rw [if_pos hn]
    obtain ⟨h1, h2, h3, h4, h5⟩ := dd_ok (n.natAbs + 1) n.natAbs (by omega)
    have hb : bodyI (45 :: dd n.natAbs) = dd n.natAbs := by unfold bodyI; rw [hasP_cons]; rfl
    rw [hb, hasP_cons, key _ _ (by intro _; omega), h1, h2]
    by_cases hc : n.natAbs ≤ 999999999999
    · rw [if_pos (show -999999999999 ≤ n ∧ n ≤ 999999999999 by omega)]
      simp [hc]
      omega
    · rw [if_neg (show ¬ (-999999999999 ≤ n ∧ n ≤ 999999999999) by omega)]
      simp [hc]
  · rw [if_neg hn]
    obtain ⟨h1, h2, h3, h4, h5⟩ := dd_ok (n.toNat + 1) n.toNat (by omega)
    have hp : hasP (dd n.toNat) [45] = false := by
      rw [← Bool.not_eq_true, hasP_dash]
      rintro ⟨h6, h7⟩
      have := List.all_eq_true.1 h1 ((dd n.toNat).getD 0 0) (by
        simp only [List.getD, List.getElem?_eq_getElem h6, Option.getD_some]
        exact List.getElem_mem h6)
      have := bt_and this
      omega
    have hb : bodyI (dd n.toNat) = dd n.toNat := by unfold bodyI; rw [hp]; rfl
    rw [hb, hp, key _ _ (by intro h; cases h), h1, h2]
    by_cases hc : n.toNat ≤ 999999999999
    · rw [if_pos (show -999999999999 ≤ n ∧ n ≤ 999999999999 by omega)]
      simp [hc]
      omega
    · rw [if_neg (show ¬ (-999999999999 ≤ n ∧ n ≤ 999999999999) by omega)]
      simp [hc]
theorem itoaN_len (n : Int) (h0 : -9223372036854775808 ≤ n) (h1 : n ≤ 9223372036854775807) : (itoaN n).length ≤ 20 := by
  rw [itoaN_at]
  split
  · have := ((dd_ok (n.natAbs + 1) n.natAbs (by omega)).2.2.2.2 19 (by omega)).2 (by
      have : (10 : Nat) ^ 19 = 10000000000000000000 := by decide
      omega)
    simp only [List.length_cons]
    omega
  · have := ((dd_ok (n.toNat + 1) n.toNat (by omega)).2.2.2.2 19 (by omega)).2 (by
      have : (10 : Nat) ^ 19 = 10000000000000000000 := by decide
      omega)
    omega
theorem pint_rng (l : List Nat) : (pint l).2 = 0 ∨ (pint l).2 = 1 := by
  unfold pint; split
  · exact .inr rfl
  · split
    · exact .inr rfl
    · exact .inl rfl
theorem and_i64 (n : Int) (j : Nat) (hj : j ≤ 62) : bits .and .i64 n (2 ^ j - 1) = n % 2 ^ j := by
  have hb : IntKind.i64.bits = 64 := rfl
  have e1 : (BitVec.ofInt 64 (2 ^ j - 1)).toNat = 2 ^ j - 1 := by
    have hle : (2 : Nat) ^ j ≤ 2 ^ 62 := Nat.pow_le_pow_right (by omega) hj
    have h1 : ((2 : Int) ^ j - 1) = ((2 ^ j - 1 : Nat) : Int) := by
      have : 0 < (2 : Nat) ^ j := Nat.two_pow_pos j
      rw [Int.natCast_sub (by omega)]
      simp
    rw [h1, BitVec.toNat_ofInt]
    rw [show ((2 ^ 64 : Nat) : Int) = 18446744073709551616 from rfl]
    omega
  have e2 : (((BitVec.ofInt 64 n).toNat % 2 ^ j : Nat) : Int) = n % 2 ^ j := by
    rw [BitVec.toNat_ofInt, Int.natCast_emod, Int.toNat_of_nonneg (Int.emod_nonneg _ (by decide))]
    have : ((2 ^ 64 : Nat) : Int) = 2 ^ j * 2 ^ (64 - j) := by
      rw [← Int.pow_add, show j + (64 - j) = 64 by omega]
      rfl
    rw [show (((2 ^ j : Nat)) : Int) = 2 ^ j by simp, this]
    exact Int.emod_emod_of_dvd n ⟨_, rfl⟩
  show IntKind.i64.wrap (((BitVec.ofInt 64 n &&& BitVec.ofInt 64 (2 ^ j - 1)).toNat : Nat) : Int) = _
  rw [BitVec.toNat_and, e1, Nat.and_two_pow_sub_one_eq_mod, e2]
  have h0 : 0 ≤ n % 2 ^ j := Int.emod_nonneg _ (by have : (0 : Int) < 2 ^ j := Int.pow_pos (by decide); omega)
  have h1 : n % 2 ^ j < 2 ^ j := Int.emod_lt_of_pos _ (Int.pow_pos (by decide))
  have h2 : (2 : Int) ^ j ≤ 2 ^ 62 := by
    have := Nat.pow_le_pow_right (n := 2) (by omega) hj
    exact_mod_cast this
  have h3 : (2 : Int) ^ 62 = 4611686018427387904 := rfl
  exact w_i64 _ (by omega) (by omega)
theorem and255 (n : Int) : bits .and .i64 n 255 = n % 256 := and_i64 n 8 (by decide)
theorem andF (n : Int) : bits .and .i64 n 15 = n % 16 := and_i64 n 4 (by decide)
end Go.Proofs.YtjiolbcdfgclaaaGreatDoor
end
