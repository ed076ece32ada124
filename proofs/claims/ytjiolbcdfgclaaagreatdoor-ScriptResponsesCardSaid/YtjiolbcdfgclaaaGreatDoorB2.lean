/-
  Texts of this claim, merged: PgN11, PgN12, PgN13, PgN15, PgN16, PgNB, PgNC, PgND, PgNE, PgNF. Each bears its own remark.
-/
import Derived.Test.YtjiolbcdfgclaaaGreatDoorB1
set_option linter.unusedVariables false
set_option linter.unusedSimpArgs false
set_option linter.unusedSectionVars false
section
/-
  Names: the value of a hexadecimal digit, of the reference.
-/
namespace Go.Proofs.YtjiolbcdfgclaaaGreatDoor
open Go Go.Pg
set_option maxRecDepth 10000
set_option linter.unusedSimpArgs false

def nib (c : Nat) : Int := if bt c 48 57 = true then (c : Int) - 48 else if bt c 97 102 = true then (c : Int) - 97 + 10 else -1
theorem bt_and {c a b : Nat} (h : bt c a b = true) : a ≤ c ∧ c ≤ b := by
  unfold bt at h
  simp only [Bool.and_eq_true, decide_eq_true_eq] at h
  exact h
end Go.Proofs.YtjiolbcdfgclaaaGreatDoor
end

section
/-
  Names: the reference's Unhex, of any string.
-/
namespace Go.Proofs.YtjiolbcdfgclaaaGreatDoor
open Go Go.Pg
set_option maxRecDepth 10000
set_option linter.unusedSimpArgs false

theorem el42 : elemT Tryz.prog 28 = some 5 := by kernel_rfl
theorem ta5 : tapp Tryz.prog 5 = some (1, 1) := by kernel_rfl
theorem ze5 : zelem Tryz.prog 5 = some (.c (.int .u8 0)) := by kernel_rfl
theorem it9 : intT Tryz.prog 9 = none := by kernel_rfl
theorem src42 (tg : Tag) (l : List Nat) : srcV Tryz.prog 28 1 (.sl tg 1 (bv l)) = some (bv l) := by rw [srcV_sl, el42]; rfl
theorem fits_1 {n : Nat} (h : n ≤ 140737488355328) : Fits n 1 := by unfold Fits maxLen; omega
theorem app42 (s : St) (l l' : List Nat) (id : Nat) (tg : Tag) (h : l.length + l'.length ≤ 140737488355328) : appendV Tryz.prog s 28 28 (.sl (.own id 5) 1 (bv l)) (.sl tg 1 (bv l')) = some (.sl (.own id 5) 1 (bv (l ++ l')), { s.mapV (poison id) with nid := max s.nid (id + 1) }) := by
  rw [appendV_at _ _ _ _ _ _ _ _ _ _ el42 ta5 (src42 tg l')]
  simp only [bv_len, bv_app]
  rw [if_pos ⟨trivial, trivial, fits_1 h⟩]
theorem bs42 (s : St) (a : Nat) : buildSliceV Tryz.prog s 28 1 [(0, .c (.int .u8 (a : Int)))] = some (.sl (.own s.nid 5) 1 (bv [a]), { s with nid := s.nid + 1 }) := by
  simp [buildSliceV, el42, ta5, ze5, setAll, cs_c_int, free_c, one_c_int, bv, bsTag]
theorem sB_nums (l : List Nat) : strOfNums (l.map fun (b : Nat) => (b : Int)) = sB l := by
  apply ByteArray.ext
  simp [strOfNums, sB, Function.comp_def]
theorem convV_42 (tg : Tag) (l : List Nat) : convV Tryz.prog 28 9 (.sl tg 1 (bv l)) = some (.c (.string (sB l))) := by
  simp [convV, it9, el42, it5, is9, u8s_bv, sB_nums]
theorem convK_42 (s : St) (d : Option Nat) (tg : Tag) (l : List Nat) (K : Kd → St → Prop) : convK Tryz.prog s d 28 9 (.sl tg 1 (bv l)) K = K (kq [.sl tg 1 (bv l)] (.c (.string (sB l)))) (s.put d (.c (.string (sB l)))) := by
  rw [convK_at, convV_42]
  have h1 : (strBytes Tryz.prog 28 9 (.sl tg 1 (bv l))).map (fun r => (r, s)) = none := rfl
  have h3 : unsafeV Tryz.prog s 28 9 (.sl tg 1 (bv l)) = none := rfl
  have h2 : sameSl Tryz.prog s 28 9 (.sl tg 1 (bv l)) = none := by cases tg <;> simp [sameSl]
  rw [h1, h2, h3]
  simp only [optQ_some, optK_none, optR_none, or_false]
theorem u8n (a : Nat) : IntKind.u8.wrap (a : Int) = ((a % 256 : Nat) : Int) := by rw [IntKind.wrap_u8]; omega

theorem nib_rng (c : Nat) : -1 ≤ nib c ∧ nib c ≤ 15 := by
  unfold nib
  split
  · rename_i h; have := bt_and h; omega
  · split
    · rename_i h; have := bt_and h; omega
    · omega
def prB (l : List Nat) (t : Nat) : Nat := (16 * nib (l.getD (2 * t) 0) + nib (l.getD (2 * t + 1) 0)).toNat
def prs (l : List Nat) (j : Nat) : List Nat := (List.range j).map (prB l)
def okP (l : List Nat) (t : Nat) : Bool := decide (0 ≤ nib (l.getD (2 * t) 0)) && decide (0 ≤ nib (l.getD (2 * t + 1) 0))
def okB (l : List Nat) (j : Nat) : Bool := (List.range j).all (okP l)
theorem prs_next (l : List Nat) (j : Nat) : prs l (j + 1) = prs l j ++ [prB l j] := by simp [prs, List.range_succ]
theorem okB_next (l : List Nat) (j : Nat) : okB l (j + 1) = (okB l j && okP l j) := by simp [okB, List.range_succ]
theorem okB_not {l : List Nat} {j n : Nat} (h : j < n) (hp : okP l j = false) : okB l n = false := by
  rw [← Bool.not_eq_true, okB, List.all_eq_true]
  intro hx
  have := hx j (List.mem_range.2 h)
  rw [hp] at this
  cases this
theorem prs_len (l : List Nat) (j : Nat) : (prs l j).length = j := by simp [prs]
def unhV (l : List Nat) : V := if okB l (l.length / 2) = true then .tup [.c (.string (sB (prs l (l.length / 2)))), .c (.bool (decide (l.length % 2 = 0)))] else .tup [.c (.string (sB [])), .c (.bool false)]

end Go.Proofs.YtjiolbcdfgclaaaGreatDoor
end

section
/-
  Names: the reference's ParseKey, of any string (of at most 2^47 octets, as every string of the model).
-/
namespace Go.Proofs.YtjiolbcdfgclaaaGreatDoor
open Go Go.Pg
set_option maxRecDepth 10000
set_option linter.unusedSimpArgs false

def pk (l : List Nat) : List Nat × Nat :=
  if (isKey l && plain l) = true then (l, 0) else
  if l.length = 0 then ([], 1) else
  if l.getD 0 0 ≠ 37 then ([], 1) else
  if okB (l.drop 1) ((l.drop 1).length / 2) = false then ([], 1) else
  if (l.drop 1).length % 2 ≠ 0 then ([], 1) else
  if isKey (prs (l.drop 1) ((l.drop 1).length / 2)) = false then ([], 1) else
  if plain (prs (l.drop 1) ((l.drop 1).length / 2)) = true then ([], 1) else (prs (l.drop 1) ((l.drop 1).length / 2), 0)
def pkV (l : List Nat) : V := .tup [.c (.string (sB (pk l).1)), .c (.int .i64 ((pk l).2 : Nat))]
theorem prB_lt {l : List Nat} {t : Nat} : prB l t < 256 := by
  unfold prB
  have := nib_rng (l.getD (2 * t) 0)
  have := nib_rng (l.getD (2 * t + 1) 0)
  omega
theorem prs_oct (l : List Nat) (j : Nat) : oct (prs l j) := by
  intro b hb
  obtain ⟨t, _, rfl⟩ := List.mem_map.1 hb
  exact prB_lt

end Go.Proofs.YtjiolbcdfgclaaaGreatDoor
end

section
/-
  Names: ParseInt of any string (of at most 2^47 octets).
-/
namespace Go.Proofs.YtjiolbcdfgclaaaGreatDoor
open Go Go.Pg
set_option maxRecDepth 10000
set_option linter.unusedSimpArgs false

def dig (l : List Nat) : Nat := l.foldl (fun x c => 10 * x + (c - 48)) 0
theorem dig_next {l : List Nat} {i : Nat} (h : i < l.length) : dig (l.take (i + 1)) = 10 * dig (l.take i) + (l.getD i 0 - 48) := by
  unfold dig
  rw [List.take_succ_eq_append_getElem h, List.foldl_append]
  simp [List.getD, h]
theorem dig_lt : ∀ (n : Nat) (l : List Nat), l.length = n → l.all (fun c => bt c 48 57) = true → dig l < 10 ^ n := by
  intro n
  induction n with
  | zero => intro l h _; simp at h; subst h; simp [dig]
  | succ n ih =>
    intro l h ha
    rcases List.eq_nil_or_concat l with rfl | ⟨L, b, rfl⟩
    · simp at h
    · rw [List.concat_eq_append, List.all_append] at ha
      simp only [Bool.and_eq_true, List.all_cons, List.all_nil, and_true] at ha
      have h1 := ih L (by simp at h; exact h) ha.1
      have h2 := bt_and ha.2
      have e : dig (L.concat b) = 10 * dig L + (b - 48) := by rw [List.concat_eq_append]; simp [dig]
      rw [e, Nat.pow_succ]
      omega
/-- What stands behind the sign. -/
def bodyI (l : List Nat) : List Nat := if hasP l [45] = true then l.drop 1 else l
def badI (b : List Nat) (neg : Bool) : Bool := decide (b.length < 1) || decide (12 < b.length) || (b.getD 0 0 == 48 && (decide (1 < b.length) || neg))
def pint (l : List Nat) : Int × Nat :=
  if badI (bodyI l) (hasP l [45]) = true then (0, 1) else
  if (bodyI l).all (fun c => bt c 48 57) = false then (0, 1) else
  (if hasP l [45] = true then - (dig (bodyI l) : Int) else (dig (bodyI l) : Int), 0)
def pintV (l : List Nat) : V := .tup [.c (.int .i64 (pint l).1), .c (.int .i64 ((pint l).2 : Nat))]
end Go.Proofs.YtjiolbcdfgclaaaGreatDoor
end

section
/-
  Names: ParseInt, the program's, of any string (of at most 2^47 octets).
-/
namespace Go.Proofs.YtjiolbcdfgclaaaGreatDoor
open Go Go.Pg
set_option maxRecDepth 10000
set_option linter.unusedSimpArgs false

theorem badI_iff (b : List Nat) (neg : Bool) : badI b neg = true ↔ b.length < 1 ∨ 12 < b.length ∨ (b.getD 0 0 = 48 ∧ (1 < b.length ∨ neg = true)) := by
  unfold badI
  simp only [Bool.or_eq_true, Bool.and_eq_true, decide_eq_true_eq, beq_iff_eq, or_assoc]
theorem dash : (⟨#[45]⟩ : ByteArray) = sB [45] := by rfl
theorem oct45 : oct [45] := oct_one (by omega)
theorem good21 (l : List Nat) (ho : oct l) (hl : l.length ≤ 140737488355328) : Pg.Good Tryz.prog 146 [.c (.string (sB l))] (pintV l) := by
  refine good_intro (drawC_ok [4] mix) Tryz.func146 rfl Tryz.results146 rfl (by kernel_rfl) (Nat.le_of_ble_eq_true (by kernel_rfl)) ?_
  have g1 := good35 l [45] ho oct45
  unfold pintV pint
  have hb : ∃ b neg, bodyI l = b ∧ hasP l [45] = neg ∧ oct b ∧ cutP l [45] = .tup [.c (.string (sB b)), .c (.bool neg)] := by
    rcases cutP_cases l [45] with ⟨h, h2⟩ | ⟨h, h2⟩
    · exact ⟨l.drop 1, true, by unfold bodyI; rw [h, if_pos rfl], h, oct_drop ho 1, h2⟩
    · exact ⟨l, false, by unfold bodyI; rw [h, if_neg (by simp)], h, ho, h2⟩
  obtain ⟨b, neg, hb1, hb2, hbo, hb3⟩ := hb
  rw [hb1, hb2]
  rw [hb3] at g1
  simp (disch := first | assumption | omega | (simp only [Fits, maxLen, bv_len, sv_len, List.length_append, List.length_cons, List.length_nil, List.length_map, sB_size] at *; omega)) only [pgs, pgl, pgx, pgw, pgb, tyf, buildSliceV_w, pgn, Nat.reduceEqDiff, reduceIte, Nat.reduceAdd, Nat.reduceSub, Nat.reduceMul, Nat.reduceBEq, Nat.reduceLeDiff, Int.reduceToNat, Int.reduceLT, Int.reduceLE, Int.reduceEq, Int.reduceNe, Nat.reduceLT, Int.reduceNeg, Int.reduceSub, Int.reduceAdd, Int.reduceMul, eq_self, Option.some.injEq, List.getElem?_nil, Int.reduceBEq, Int.reduceBNe, if_true, if_false, ite_true, ite_false, ↓reduceIte, Tryz.f146, dash]
  (repeat' (first | (simp (disch := first | assumption | omega | (simp only [Fits, maxLen, bv_len, sv_len, List.length_append, List.length_cons, List.length_nil, List.length_map, sB_size] at *; omega)) only [pgs, pgl, pgx, pgw, pgb, tyf, buildSliceV_w, pgn, Nat.reduceEqDiff, reduceIte, Nat.reduceAdd, Nat.reduceSub, Nat.reduceMul, Nat.reduceBEq, Nat.reduceLeDiff, Int.reduceToNat, Int.reduceLT, Int.reduceLE, Int.reduceEq, Int.reduceNe, Nat.reduceLT, Int.reduceNeg, Int.reduceSub, Int.reduceAdd, Int.reduceMul, eq_self, Option.some.injEq, List.getElem?_nil, Int.reduceBEq, Int.reduceBNe, if_true, if_false, ite_true, ite_false, ↓reduceIte, dash]) | ((with_reducible show callW _ _ _ _ _ _); first | refine callW_use _ (g1) rfl rfl rfl rfl ?_) | ((first | ((with_reducible show condC _ _ _ _ _ _ _); refine cond_at (fun hc => ?_) (fun hc => ?_)) | ((with_reducible show guardC _ _ _ _ _ _ _ _); refine guard_at (fun hc => ?_) (fun hc => ?_)) | ((with_reducible show drwG _ _ _ _ _ _ _ _ _ _); refine drw_at (fun hc => ?_) (fun hc => ?_))) <;> (try simp only [hc]) <;> (try simp only [decide_eq_true_eq, decide_eq_false_iff_not, beq_iff_eq, beq_eq_false_iff_ne, bne_iff_ne, bne_eq_false_iff_eq, Bool.not_eq_true', Bool.not_eq_false', Int.not_lt, Int.not_le, Nat.not_lt, Nat.not_le, ne_eq, Bool.not_true, Bool.not_false, Bool.not_not, Bool.true_eq_false, Bool.false_eq_true, not_false_eq_true, not_true_eq_false, Decidable.not_not] at hc)) | (with_reducible refine chk_at (by kernel_rfl) ?_)))
  refine seq_cut _ (fun _ : Unit => mkA [(4, .c (.string (sB b))), (5, .c (.bool neg))] [] 0 (fun _ => .top)) (fun _ => badI b neg = false) rfl ?_ ?_
  · rintro _ hbad
    rw [hbad, if_neg (by simp)]
    have hlen : 1 ≤ b.length ∧ b.length ≤ 12 := by
      unfold badI at hbad
      simp only [Bool.or_eq_false_iff, decide_eq_false_iff_not] at hbad
      omega
    (repeat' (first | (simp (disch := first | assumption | omega | (simp only [Fits, maxLen, bv_len, sv_len, List.length_append, List.length_cons, List.length_nil, List.length_map, sB_size] at *; omega)) only [pgs, pgl, pgx, pgw, pgb, tyf, buildSliceV_w, pgn, Nat.reduceEqDiff, reduceIte, Nat.reduceAdd, Nat.reduceSub, Nat.reduceMul, Nat.reduceBEq, Nat.reduceLeDiff, Int.reduceToNat, Int.reduceLT, Int.reduceLE, Int.reduceEq, Int.reduceNe, Nat.reduceLT, Int.reduceNeg, Int.reduceSub, Int.reduceAdd, Int.reduceMul, eq_self, Option.some.injEq, List.getElem?_nil, Int.reduceBEq, Int.reduceBNe, if_true, if_false, ite_true, ite_false, ↓reduceIte]) | ((first | ((with_reducible show condC _ _ _ _ _ _ _); refine cond_at (fun hc => ?_) (fun hc => ?_)) | ((with_reducible show guardC _ _ _ _ _ _ _ _); refine guard_at (fun hc => ?_) (fun hc => ?_)) | ((with_reducible show drwG _ _ _ _ _ _ _ _ _ _); refine drw_at (fun hc => ?_) (fun hc => ?_))) <;> (try simp only [hc]) <;> (try simp only [decide_eq_true_eq, decide_eq_false_iff_not, beq_iff_eq, beq_eq_false_iff_ne, bne_iff_ne, bne_eq_false_iff_eq, Bool.not_eq_true', Bool.not_eq_false', Int.not_lt, Int.not_le, Nat.not_lt, Nat.not_le, ne_eq, Bool.not_true, Bool.not_false, Bool.not_not, Bool.true_eq_false, Bool.false_eq_true, not_false_eq_true, not_true_eq_false, Decidable.not_not] at hc)) | (with_reducible refine chk_at (by kernel_rfl) ?_)))
    refine loop_A (fun i => mkA [(4, .c (.string (sB b))), (5, .c (.bool neg)), (6, .c (.int .i64 (dig (b.take i) : Nat))), (35, .c (.int .i64 b.length)), (36, .c (.int .i64 (i : Nat)))] [] 0 (fun _ => .top)) (fun i => i ≤ b.length ∧ (b.take i).all (fun c => bt c 48 57) = true) (fun i => b.length - i) 0 [] [] ?_ ⟨Nat.zero_le _, rfl⟩ ?_
    · (refine keep_mkA ?_ ?_ (top_hd _ _ _) (by decide) (by decide) (by decide) (by decide); (repeat' (first | exact trivial | refine genB_one _ _ rfl rfl ?_ ?_)); all_goals (try simp only [pgs, pgl, pgx, pgw, GenA_cons, GenA_nil, GenL_cons, GenL_nil, gen_top, gen_c, gen_fz, pgn, Nat.reduceEqDiff, reduceIte, Nat.reduceAdd, Nat.reduceSub, Nat.reduceMul, Nat.reduceBEq, Nat.reduceLeDiff, Int.reduceToNat, Int.reduceLT, Int.reduceLE, Int.reduceEq, Int.reduceNe, Nat.reduceLT, Int.reduceNeg, Int.reduceSub, Int.reduceAdd, Int.reduceMul, eq_self, Option.some.injEq, List.getElem?_nil, Int.reduceBEq, Int.reduceBNe, if_true, if_false, ite_true, ite_false, ↓reduceIte]); all_goals (try (repeat' (first | apply And.intro))); all_goals (try (first | exact trivial | exact gen_ii (by omega) | exact gen_cc rfl | exact gen_own rfl rfl | exact gen_ref rfl)))
    · rintro i ⟨hi, hall⟩
      rcases Nat.lt_or_ge i b.length with hlt | hge
      · cases hbt : bt (b.getD i 0) 48 57
        · rw [all_not hlt hbt]
          (repeat' (first | (simp (disch := first | assumption | omega | (simp only [Fits, maxLen, bv_len, sv_len, List.length_append, List.length_cons, List.length_nil, List.length_map, sB_size] at *; omega)) only [pgs, pgl, pgx, pgw, pgb, tyf, buildSliceV_w, pgn, Nat.reduceEqDiff, reduceIte, Nat.reduceAdd, Nat.reduceSub, Nat.reduceMul, Nat.reduceBEq, Nat.reduceLeDiff, Int.reduceToNat, Int.reduceLT, Int.reduceLE, Int.reduceEq, Int.reduceNe, Nat.reduceLT, Int.reduceNeg, Int.reduceSub, Int.reduceAdd, Int.reduceMul, eq_self, Option.some.injEq, List.getElem?_nil, Int.reduceBEq, Int.reduceBNe, if_true, if_false, ite_true, ite_false, ↓reduceIte, hbt]) | ((with_reducible show callW _ _ _ _ _ _); first | refine callW_use _ (good39 _) rfl rfl rfl rfl ?_) | ((first | ((with_reducible show condC _ _ _ _ _ _ _); refine cond_at (fun hc => ?_) (fun hc => ?_)) | ((with_reducible show guardC _ _ _ _ _ _ _ _); refine guard_at (fun hc => ?_) (fun hc => ?_)) | ((with_reducible show drwG _ _ _ _ _ _ _ _ _ _); refine drw_at (fun hc => ?_) (fun hc => ?_))) <;> (try simp only [hc]) <;> (try simp only [decide_eq_true_eq, decide_eq_false_iff_not, beq_iff_eq, beq_eq_false_iff_ne, bne_iff_ne, bne_eq_false_iff_eq, Bool.not_eq_true', Bool.not_eq_false', Int.not_lt, Int.not_le, Nat.not_lt, Nat.not_le, ne_eq, Bool.not_true, Bool.not_false, Bool.not_not, Bool.true_eq_false, Bool.false_eq_true, not_false_eq_true, not_true_eq_false, Decidable.not_not] at hc)) | (with_reducible refine chk_at (by kernel_rfl) ?_)))
          (refine ret_at [] _ (by first | exact retV_one _ _ _ | exact retV_two _ _ _ _ | exact retV_three _ _ _ _ _ | exact retV_four _ _ _ _ _ _ | (simp (disch := first | assumption | omega | (simp only [Fits, maxLen, bv_len, sv_len, List.length_append, List.length_cons, List.length_nil, List.length_map, sB_size] at *; omega)) only [pgr, pgs, pgl, pgx, pgw, tyf, pgn, Nat.reduceEqDiff, reduceIte, Nat.reduceAdd, Nat.reduceSub, Nat.reduceMul, Nat.reduceBEq, Nat.reduceLeDiff, Int.reduceToNat, Int.reduceLT, Int.reduceLE, Int.reduceEq, Int.reduceNe, Nat.reduceLT, Int.reduceNeg, Int.reduceSub, Int.reduceAdd, Int.reduceMul, eq_self, Option.some.injEq, List.getElem?_nil, Int.reduceBEq, Int.reduceBNe, if_true, if_false, ite_true, ite_false, ↓reduceIte]; rfl)) (by decide) (by simp only [pgs, pgl, pgx, pgw, pgn, Nat.reduceEqDiff, reduceIte, Nat.reduceAdd, Nat.reduceSub, Nat.reduceMul, Nat.reduceBEq, Nat.reduceLeDiff, Int.reduceToNat, Int.reduceLT, Int.reduceLE, Int.reduceEq, Int.reduceNe, Nat.reduceLT, Int.reduceNeg, Int.reduceSub, Int.reduceAdd, Int.reduceMul, eq_self, Option.some.injEq, List.getElem?_nil, Int.reduceBEq, Int.reduceBNe, if_true, if_false, ite_true, ite_false, ↓reduceIte]) ?_; (first | rfl | simp only [pgs, pgl, pgx, pgw, pgn, Nat.reduceEqDiff, reduceIte, Nat.reduceAdd, Nat.reduceSub, Nat.reduceMul, Nat.reduceBEq, Nat.reduceLeDiff, Int.reduceToNat, Int.reduceLT, Int.reduceLE, Int.reduceEq, Int.reduceNe, Nat.reduceLT, Int.reduceNeg, Int.reduceSub, Int.reduceAdd, Int.reduceMul, eq_self, Option.some.injEq, List.getElem?_nil, Int.reduceBEq, Int.reduceBNe, if_true, if_false, ite_true, ite_false, ↓reduceIte]))
        · have h1 := bt_and hbt
          have h2 := dig_lt i (b.take i) (by simp; omega) hall
          have h3 : 10 ^ i ≤ 10 ^ 11 := Nat.pow_le_pow_right (by omega) (by omega)
          have h4 := dig_next hlt
          (repeat' (first | (simp (disch := first | assumption | omega | (simp only [Fits, maxLen, bv_len, sv_len, List.length_append, List.length_cons, List.length_nil, List.length_map, sB_size] at *; omega)) only [pgs, pgl, pgx, pgw, pgb, tyf, buildSliceV_w, pgn, Nat.reduceEqDiff, reduceIte, Nat.reduceAdd, Nat.reduceSub, Nat.reduceMul, Nat.reduceBEq, Nat.reduceLeDiff, Int.reduceToNat, Int.reduceLT, Int.reduceLE, Int.reduceEq, Int.reduceNe, Nat.reduceLT, Int.reduceNeg, Int.reduceSub, Int.reduceAdd, Int.reduceMul, eq_self, Option.some.injEq, List.getElem?_nil, Int.reduceBEq, Int.reduceBNe, if_true, if_false, ite_true, ite_false, ↓reduceIte, hbt]) | ((with_reducible show callW _ _ _ _ _ _); first | refine callW_use _ (good39 _) rfl rfl rfl rfl ?_) | ((first | ((with_reducible show condC _ _ _ _ _ _ _); refine cond_at (fun hc => ?_) (fun hc => ?_)) | ((with_reducible show guardC _ _ _ _ _ _ _ _); refine guard_at (fun hc => ?_) (fun hc => ?_)) | ((with_reducible show drwG _ _ _ _ _ _ _ _ _ _); refine drw_at (fun hc => ?_) (fun hc => ?_))) <;> (try simp only [hc]) <;> (try simp only [decide_eq_true_eq, decide_eq_false_iff_not, beq_iff_eq, beq_eq_false_iff_ne, bne_iff_ne, bne_eq_false_iff_eq, Bool.not_eq_true', Bool.not_eq_false', Int.not_lt, Int.not_le, Nat.not_lt, Nat.not_le, ne_eq, Bool.not_true, Bool.not_false, Bool.not_not, Bool.true_eq_false, Bool.false_eq_true, not_false_eq_true, not_true_eq_false, Decidable.not_not] at hc)) | (with_reducible refine chk_at (by kernel_rfl) ?_)))
          (refine back_at (i + 1) [] [] (⟨by omega, all_next hlt hall hbt⟩) (by first | omega | (simp only [List.length_cons]; omega)) ?_; (refine keep_mkA ?_ ?_ (top_hd _ _ _) (by decide) (by decide) (by decide) (by decide); (repeat' (first | exact trivial | refine genB_one _ _ rfl rfl ?_ ?_)); all_goals (try simp only [pgs, pgl, pgx, pgw, GenA_cons, GenA_nil, GenL_cons, GenL_nil, gen_top, gen_c, gen_fz, pgn, Nat.reduceEqDiff, reduceIte, Nat.reduceAdd, Nat.reduceSub, Nat.reduceMul, Nat.reduceBEq, Nat.reduceLeDiff, Int.reduceToNat, Int.reduceLT, Int.reduceLE, Int.reduceEq, Int.reduceNe, Nat.reduceLT, Int.reduceNeg, Int.reduceSub, Int.reduceAdd, Int.reduceMul, eq_self, Option.some.injEq, List.getElem?_nil, Int.reduceBEq, Int.reduceBNe, if_true, if_false, ite_true, ite_false, ↓reduceIte]); all_goals (try (repeat' (first | apply And.intro))); all_goals (try (first | exact trivial | exact gen_ii (by omega) | exact gen_cc rfl | exact gen_own rfl rfl | exact gen_ref rfl))))
      · have hil : i = b.length := by omega
        subst hil
        rw [List.take_length] at hall
        have h2 := dig_lt b.length b rfl hall
        have h3 : 10 ^ b.length ≤ 10 ^ 12 := Nat.pow_le_pow_right (by omega) (by omega)
        (repeat' (first | (simp (disch := first | assumption | omega | (simp only [Fits, maxLen, bv_len, sv_len, List.length_append, List.length_cons, List.length_nil, List.length_map, sB_size] at *; omega)) only [pgs, pgl, pgx, pgw, pgb, tyf, buildSliceV_w, pgn, Nat.reduceEqDiff, reduceIte, Nat.reduceAdd, Nat.reduceSub, Nat.reduceMul, Nat.reduceBEq, Nat.reduceLeDiff, Int.reduceToNat, Int.reduceLT, Int.reduceLE, Int.reduceEq, Int.reduceNe, Nat.reduceLT, Int.reduceNeg, Int.reduceSub, Int.reduceAdd, Int.reduceMul, eq_self, Option.some.injEq, List.getElem?_nil, Int.reduceBEq, Int.reduceBNe, if_true, if_false, ite_true, ite_false, ↓reduceIte, hall, List.take_length]) | ((first | ((with_reducible show condC _ _ _ _ _ _ _); refine cond_at (fun hc => ?_) (fun hc => ?_)) | ((with_reducible show guardC _ _ _ _ _ _ _ _); refine guard_at (fun hc => ?_) (fun hc => ?_)) | ((with_reducible show drwG _ _ _ _ _ _ _ _ _ _); refine drw_at (fun hc => ?_) (fun hc => ?_))) <;> (try simp only [hc]) <;> (try simp only [decide_eq_true_eq, decide_eq_false_iff_not, beq_iff_eq, beq_eq_false_iff_ne, bne_iff_ne, bne_eq_false_iff_eq, Bool.not_eq_true', Bool.not_eq_false', Int.not_lt, Int.not_le, Nat.not_lt, Nat.not_le, ne_eq, Bool.not_true, Bool.not_false, Bool.not_not, Bool.true_eq_false, Bool.false_eq_true, not_false_eq_true, not_true_eq_false, Decidable.not_not] at hc)) | (with_reducible refine chk_at (by kernel_rfl) ?_)))
        all_goals (refine ret_at [] _ (by first | exact retV_one _ _ _ | exact retV_two _ _ _ _ | exact retV_three _ _ _ _ _ | exact retV_four _ _ _ _ _ _ | (simp (disch := first | assumption | omega | (simp only [Fits, maxLen, bv_len, sv_len, List.length_append, List.length_cons, List.length_nil, List.length_map, sB_size] at *; omega)) only [pgr, pgs, pgl, pgx, pgw, tyf, pgn, Nat.reduceEqDiff, reduceIte, Nat.reduceAdd, Nat.reduceSub, Nat.reduceMul, Nat.reduceBEq, Nat.reduceLeDiff, Int.reduceToNat, Int.reduceLT, Int.reduceLE, Int.reduceEq, Int.reduceNe, Nat.reduceLT, Int.reduceNeg, Int.reduceSub, Int.reduceAdd, Int.reduceMul, eq_self, Option.some.injEq, List.getElem?_nil, Int.reduceBEq, Int.reduceBNe, if_true, if_false, ite_true, ite_false, ↓reduceIte]; rfl)) (by decide) (by simp only [pgs, pgl, pgx, pgw, pgn, Nat.reduceEqDiff, reduceIte, Nat.reduceAdd, Nat.reduceSub, Nat.reduceMul, Nat.reduceBEq, Nat.reduceLeDiff, Int.reduceToNat, Int.reduceLT, Int.reduceLE, Int.reduceEq, Int.reduceNe, Nat.reduceLT, Int.reduceNeg, Int.reduceSub, Int.reduceAdd, Int.reduceMul, eq_self, Option.some.injEq, List.getElem?_nil, Int.reduceBEq, Int.reduceBNe, if_true, if_false, ite_true, ite_false, ↓reduceIte]) ?_; (first | rfl | simp only [pgs, pgl, pgx, pgw, pgn, Nat.reduceEqDiff, reduceIte, Nat.reduceAdd, Nat.reduceSub, Nat.reduceMul, Nat.reduceBEq, Nat.reduceLeDiff, Int.reduceToNat, Int.reduceLT, Int.reduceLE, Int.reduceEq, Int.reduceNe, Nat.reduceLT, Int.reduceNeg, Int.reduceSub, Int.reduceAdd, Int.reduceMul, eq_self, Option.some.injEq, List.getElem?_nil, Int.reduceBEq, Int.reduceBNe, if_true, if_false, ite_true, ite_false, ↓reduceIte]))
        · simp
  · (repeat' (first | (simp (disch := first | assumption | omega | (simp only [Fits, maxLen, bv_len, sv_len, List.length_append, List.length_cons, List.length_nil, List.length_map, sB_size] at *; omega)) only [pgs, pgl, pgx, pgw, pgb, tyf, buildSliceV_w, pgn, Nat.reduceEqDiff, reduceIte, Nat.reduceAdd, Nat.reduceSub, Nat.reduceMul, Nat.reduceBEq, Nat.reduceLeDiff, Int.reduceToNat, Int.reduceLT, Int.reduceLE, Int.reduceEq, Int.reduceNe, Nat.reduceLT, Int.reduceNeg, Int.reduceSub, Int.reduceAdd, Int.reduceMul, eq_self, Option.some.injEq, List.getElem?_nil, Int.reduceBEq, Int.reduceBNe, if_true, if_false, ite_true, ite_false, ↓reduceIte]) | ((first | ((with_reducible show condC _ _ _ _ _ _ _); refine cond_at (fun hc => ?_) (fun hc => ?_)) | ((with_reducible show guardC _ _ _ _ _ _ _ _); refine guard_at (fun hc => ?_) (fun hc => ?_)) | ((with_reducible show drwG _ _ _ _ _ _ _ _ _ _); refine drw_at (fun hc => ?_) (fun hc => ?_))) <;> (try simp only [hc]) <;> (try simp only [decide_eq_true_eq, decide_eq_false_iff_not, beq_iff_eq, beq_eq_false_iff_ne, bne_iff_ne, bne_eq_false_iff_eq, Bool.not_eq_true', Bool.not_eq_false', Int.not_lt, Int.not_le, Nat.not_lt, Nat.not_le, ne_eq, Bool.not_true, Bool.not_false, Bool.not_not, Bool.true_eq_false, Bool.false_eq_true, not_false_eq_true, not_true_eq_false, Decidable.not_not] at hc)) | (with_reducible refine chk_at (by kernel_rfl) ?_)))
    all_goals first
      | (rw [show badI b _ = true from (badI_iff _ _).2 (by first | exact .inl (by omega) | exact .inr (.inl (by omega)) | exact .inr (.inr ⟨by omega, by first | exact .inl (by omega) | exact .inr rfl⟩))]
         (refine ret_at [] _ (by first | exact retV_one _ _ _ | exact retV_two _ _ _ _ | exact retV_three _ _ _ _ _ | exact retV_four _ _ _ _ _ _ | (simp (disch := first | assumption | omega | (simp only [Fits, maxLen, bv_len, sv_len, List.length_append, List.length_cons, List.length_nil, List.length_map, sB_size] at *; omega)) only [pgr, pgs, pgl, pgx, pgw, tyf, pgn, Nat.reduceEqDiff, reduceIte, Nat.reduceAdd, Nat.reduceSub, Nat.reduceMul, Nat.reduceBEq, Nat.reduceLeDiff, Int.reduceToNat, Int.reduceLT, Int.reduceLE, Int.reduceEq, Int.reduceNe, Nat.reduceLT, Int.reduceNeg, Int.reduceSub, Int.reduceAdd, Int.reduceMul, eq_self, Option.some.injEq, List.getElem?_nil, Int.reduceBEq, Int.reduceBNe, if_true, if_false, ite_true, ite_false, ↓reduceIte]; rfl)) (by decide) (by simp only [pgs, pgl, pgx, pgw, pgn, Nat.reduceEqDiff, reduceIte, Nat.reduceAdd, Nat.reduceSub, Nat.reduceMul, Nat.reduceBEq, Nat.reduceLeDiff, Int.reduceToNat, Int.reduceLT, Int.reduceLE, Int.reduceEq, Int.reduceNe, Nat.reduceLT, Int.reduceNeg, Int.reduceSub, Int.reduceAdd, Int.reduceMul, eq_self, Option.some.injEq, List.getElem?_nil, Int.reduceBEq, Int.reduceBNe, if_true, if_false, ite_true, ite_false, ↓reduceIte]) ?_; (first | rfl | simp only [pgs, pgl, pgx, pgw, pgn, Nat.reduceEqDiff, reduceIte, Nat.reduceAdd, Nat.reduceSub, Nat.reduceMul, Nat.reduceBEq, Nat.reduceLeDiff, Int.reduceToNat, Int.reduceLT, Int.reduceLE, Int.reduceEq, Int.reduceNe, Nat.reduceLT, Int.reduceNeg, Int.reduceSub, Int.reduceAdd, Int.reduceMul, eq_self, Option.some.injEq, List.getElem?_nil, Int.reduceBEq, Int.reduceBNe, if_true, if_false, ite_true, ite_false, ↓reduceIte])))
      | (refine meet_at () [] [] (show badI b _ = false by rw [← Bool.not_eq_true, badI_iff]; rintro (h | h | ⟨h, h' | h'⟩) <;> first | omega | cases h') ?_
         (refine keep_mkA ?_ ?_ (top_hd _ _ _) (by decide) (by decide) (by decide) (by decide); (repeat' (first | exact trivial | refine genB_one _ _ rfl rfl ?_ ?_)); all_goals (try simp only [pgs, pgl, pgx, pgw, GenA_cons, GenA_nil, GenL_cons, GenL_nil, gen_top, gen_c, gen_fz, pgn, Nat.reduceEqDiff, reduceIte, Nat.reduceAdd, Nat.reduceSub, Nat.reduceMul, Nat.reduceBEq, Nat.reduceLeDiff, Int.reduceToNat, Int.reduceLT, Int.reduceLE, Int.reduceEq, Int.reduceNe, Nat.reduceLT, Int.reduceNeg, Int.reduceSub, Int.reduceAdd, Int.reduceMul, eq_self, Option.some.injEq, List.getElem?_nil, Int.reduceBEq, Int.reduceBNe, if_true, if_false, ite_true, ite_false, ↓reduceIte]); all_goals (try (repeat' (first | apply And.intro))); all_goals (try (first | exact trivial | exact gen_ii (by omega) | exact gen_cc rfl | exact gen_own rfl rfl | exact gen_ref rfl))))
end Go.Proofs.YtjiolbcdfgclaaaGreatDoor
end

section
/-
  Names: strings.Builder: copyCheck, WriteByte, String, as contracts of states: the Builder lies in a box of the caller's.
-/
namespace Go.Proofs.YtjiolbcdfgclaaaGreatDoor
open Go Go.Pg
set_option maxRecDepth 10000
set_option linter.unusedSimpArgs false

theorem good54 (b o : Nat) : GoodX Tryz.prog 151 [.ref b o] (.ref b o) := by
  rintro L w cargs ⟨_, _, rfl, h, rfl⟩
  refine ⟨_, ?_, h⟩
  rw [run_callFunc_extern Tryz.func151 (by kernel_rfl) (by kernel_rfl) (by kernel_rfl) (e := Extern.AbiNoEscape.same) (by kernel_rfl)]
  rfl
theorem po1 : ptrOk Tryz.prog 113 184 115 2 0 = true := by kernel_rfl
theorem po2 : ptrOk Tryz.prog 184 113 115 2 0 = true := by kernel_rfl
theorem unE_at (e : Nat → V) (b : Nat → Option (TypeId × List V)) (n : Nat) (h : Nat → V) : outS ⟨e, b, n, h⟩ = ⟨unE h, b, n, unH h⟩ := rfl
theorem unE_map (ψ : V → V) (f : Nat → V) : unE (mapE ψ f) = mapE ψ (unE f) := rfl
theorem unH_map (ψ : V → V) (f : Nat → V) : unH (mapE ψ f) = mapE ψ (unH f) := rfl
theorem inlS_at (args : List V) (e : Nat → V) (b : Nat → Option (TypeId × List V)) (n : Nat) (h : Nat → V) : inlS args ⟨e, b, n, h⟩ = ⟨initE args 0, b, n, pair e h⟩ := rfl
theorem inlQ_ret (P : Program) (rs : List ResultVar) (s' : St) (r : V) (s : St) : inlQ P rs s' r .ret s = inlC P rs s' r s := rfl
theorem inlQ_normal (P : Program) (rs : List ResultVar) (s' : St) (r : V) (s : St) : inlQ P rs s' r .normal s = inlC P rs s' r s := rfl
theorem inl_at {P : Program} {rs : List ResultVar} {s' : St} {r : V} {e : Nat → V} {b : Nat → Option (TypeId × List V)} {n : Nat} {h : Nat → V} (h1 : retV P ⟨e, b, n, h⟩ rs = some r) (h2 : (⟨unE h, b, n, unH h⟩ : St) = s') : inlC P rs s' r ⟨e, b, n, h⟩ := ⟨h1, h2⟩
theorem upd_upd {α : Type} (f : Nat → α) (d : Nat) (v v' : α) : upd (upd f d v) d v' = upd f d v' := by
  funext t; simp only [upd]; split <;> rfl
theorem upd_self {α : Type} (f : Nat → α) (d : Nat) (v : α) (h : f d = v) : upd f d v = f := by
  funext t; simp only [upd]; split
  · rename_i ht; rw [ht, h]
  · rfl

/-- A box that holds a Builder. -/
def isBld (b : Nat) (x : V) : Prop := x = .c (.pointer none) ∨ x = .ref b 0
theorem good46 (e : Nat → V) (bx : Nat → Option (TypeId × List V)) (n : Nat) (h : Nat → V) (b : Nat) (p x : V) (hb : bx b = some (115, [p, x])) (hp : isBld b p) :
    GoodZ Tryz.prog 109 [.ref b 0] ⟨e, bx, n, h⟩ ⟨e, upd bx b (some (115, [.ref b 0, x])), n, h⟩ (.tup []) := by
  refine goodZ_intro (drawW_ok mix) Tryz.func109 rfl Tryz.results109 rfl (by kernel_rfl) (Nat.le_of_ble_eq_true (by kernel_rfl)) ?_
  rcases hp with rfl | rfl
  · (repeat' (first | (simp (disch := first | assumption | omega | (simp only [Fits, maxLen, bv_len, sv_len, List.length_append, List.length_cons, List.length_nil, List.length_map, sB_size] at *; omega)) only [pgs, pgl, pgx, pgw, pgb, tyf, buildSliceV_w, pgn, Nat.reduceEqDiff, reduceIte, Nat.reduceAdd, Nat.reduceSub, Nat.reduceMul, Nat.reduceBEq, Nat.reduceLeDiff, Int.reduceToNat, Int.reduceLT, Int.reduceLE, Int.reduceEq, Int.reduceNe, Nat.reduceLT, Int.reduceNeg, Int.reduceSub, Int.reduceAdd, Int.reduceMul, eq_self, Option.some.injEq, List.getElem?_nil, Int.reduceBEq, Int.reduceBNe, if_true, if_false, ite_true, ite_false, ↓reduceIte, Tryz.f109, inlS_at, inlQ_ret, inlQ_normal, hb, po1, po2]) | ((with_reducible show callW _ _ _ _ _ _); first | refine callZ _ ((good54 _ _).z _) rfl ?_) | ((first | ((with_reducible show condC _ _ _ _ _ _ _); refine cond_at (fun hc => ?_) (fun hc => ?_)) | ((with_reducible show guardC _ _ _ _ _ _ _ _); refine guard_at (fun hc => ?_) (fun hc => ?_)) | ((with_reducible show drwG _ _ _ _ _ _ _ _ _ _); refine drw_at (fun hc => ?_) (fun hc => ?_))) <;> (try simp only [hc]) <;> (try simp only [decide_eq_true_eq, decide_eq_false_iff_not, beq_iff_eq, beq_eq_false_iff_ne, bne_iff_ne, bne_eq_false_iff_eq, Bool.not_eq_true', Bool.not_eq_false', Int.not_lt, Int.not_le, Nat.not_lt, Nat.not_le, ne_eq, Bool.not_true, Bool.not_false, Bool.not_not, Bool.true_eq_false, Bool.false_eq_true, not_false_eq_true, not_true_eq_false, Decidable.not_not] at hc)) | (with_reducible refine chk_at (by kernel_rfl) ?_)))
    refine inl_at (retV_none _ _) ?_
    rw [unE_pair, unH_pair]
  · (repeat' (first | (simp (disch := first | assumption | omega | (simp only [Fits, maxLen, bv_len, sv_len, List.length_append, List.length_cons, List.length_nil, List.length_map, sB_size] at *; omega)) only [pgs, pgl, pgx, pgw, pgb, tyf, buildSliceV_w, pgn, Nat.reduceEqDiff, reduceIte, Nat.reduceAdd, Nat.reduceSub, Nat.reduceMul, Nat.reduceBEq, Nat.reduceLeDiff, Int.reduceToNat, Int.reduceLT, Int.reduceLE, Int.reduceEq, Int.reduceNe, Nat.reduceLT, Int.reduceNeg, Int.reduceSub, Int.reduceAdd, Int.reduceMul, eq_self, Option.some.injEq, List.getElem?_nil, Int.reduceBEq, Int.reduceBNe, if_true, if_false, ite_true, ite_false, ↓reduceIte, Tryz.f109, inlS_at, inlQ_ret, inlQ_normal, hb]) | ((first | ((with_reducible show condC _ _ _ _ _ _ _); refine cond_at (fun hc => ?_) (fun hc => ?_)) | ((with_reducible show guardC _ _ _ _ _ _ _ _); refine guard_at (fun hc => ?_) (fun hc => ?_)) | ((with_reducible show drwG _ _ _ _ _ _ _ _ _ _); refine drw_at (fun hc => ?_) (fun hc => ?_))) <;> (try simp only [hc]) <;> (try simp only [decide_eq_true_eq, decide_eq_false_iff_not, beq_iff_eq, beq_eq_false_iff_ne, bne_iff_ne, bne_eq_false_iff_eq, Bool.not_eq_true', Bool.not_eq_false', Int.not_lt, Int.not_le, Nat.not_lt, Nat.not_le, ne_eq, Bool.not_true, Bool.not_false, Bool.not_not, Bool.true_eq_false, Bool.false_eq_true, not_false_eq_true, not_true_eq_false, Decidable.not_not] at hc)) | (with_reducible refine chk_at (by kernel_rfl) ?_)))
    refine inl_at (retV_none _ _) ?_
    rw [unE_pair, unH_pair, upd_self _ _ _ hb]
end Go.Proofs.YtjiolbcdfgclaaaGreatDoor
end

section
/-
  Names: strings.Builder: WriteByte, String, as contracts of states.
-/
namespace Go.Proofs.YtjiolbcdfgclaaaGreatDoor
open Go Go.Pg
set_option maxRecDepth 10000
set_option linter.unusedSimpArgs false

theorem ofConst_nilIface : ofConst .nilIface = .c .nilIface := rfl
theorem upd_mapB (ψ : V → V) (f : Nat → Option (TypeId × List V)) (b : Nat) (v y : Option (TypeId × List V)) : upd (mapB ψ (upd f b v)) b y = upd (mapB ψ f) b y := by
  funext t; simp only [upd, mapB]; split <;> rfl
theorem good31n (e : Nat → V) (bx : Nat → Option (TypeId × List V)) (n : Nat) (h : Nat → V) (b : Nat) (p : V) (c : Nat) (hb : bx b = some (115, [p, .c (.slice none 0 0)])) (hp : isBld b p) :
    GoodZ Tryz.prog 79 [.ref b 0, .c (.int .u8 (c : Int))] ⟨e, bx, n, h⟩ ⟨e, upd bx b (some (115, [.ref b 0, .sl (.own (n + 1) 5) 1 (bv [c])])), n + 2, h⟩ (.c .nilIface) := by
  refine goodZ_intro (drawW_ok mix) Tryz.func79 rfl Tryz.results79 rfl (by kernel_rfl) (Nat.le_of_ble_eq_true (by kernel_rfl)) ?_
  (repeat' (first | (simp (disch := first | assumption | omega | (simp only [Fits, maxLen, bv_len, sv_len, List.length_append, List.length_cons, List.length_nil, List.length_map, sB_size] at *; omega)) only [pgs, pgl, pgx, pgw, pgb, tyf, buildSliceV_w, pgn, Nat.reduceEqDiff, reduceIte, Nat.reduceAdd, Nat.reduceSub, Nat.reduceMul, Nat.reduceBEq, Nat.reduceLeDiff, Int.reduceToNat, Int.reduceLT, Int.reduceLE, Int.reduceEq, Int.reduceNe, Nat.reduceLT, Int.reduceNeg, Int.reduceSub, Int.reduceAdd, Int.reduceMul, eq_self, Option.some.injEq, List.getElem?_nil, Int.reduceBEq, Int.reduceBNe, if_true, if_false, ite_true, ite_false, ↓reduceIte, Tryz.f79, inlS_at, inlQ_ret, inlQ_normal, hb, ofConst_nilIface]) | ((with_reducible show callW _ _ _ _ _ _); first | refine callZ _ (good46 _ _ _ _ _ _ _ hb hp) rfl ?_) | ((first | ((with_reducible show condC _ _ _ _ _ _ _); refine cond_at (fun hc => ?_) (fun hc => ?_)) | ((with_reducible show guardC _ _ _ _ _ _ _ _); refine guard_at (fun hc => ?_) (fun hc => ?_)) | ((with_reducible show drwG _ _ _ _ _ _ _ _ _ _); refine drw_at (fun hc => ?_) (fun hc => ?_))) <;> (try simp only [hc]) <;> (try simp only [decide_eq_true_eq, decide_eq_false_iff_not, beq_iff_eq, beq_eq_false_iff_ne, bne_iff_ne, bne_eq_false_iff_eq, Bool.not_eq_true', Bool.not_eq_false', Int.not_lt, Int.not_le, Nat.not_lt, Nat.not_le, ne_eq, Bool.not_true, Bool.not_false, Bool.not_not, Bool.true_eq_false, Bool.false_eq_true, not_false_eq_true, not_true_eq_false, Decidable.not_not] at hc)) | (with_reducible refine chk_at (by kernel_rfl) ?_)))
  refine inl_at (retV_one _ _ _) ?_
  rw [unE_pair, unH_pair, upd_upd]
  rfl
theorem good31 (e : Nat → V) (bx : Nat → Option (TypeId × List V)) (n : Nat) (h : Nat → V) (b id : Nat) (p : V) (l : List Nat) (c : Nat) (hb : bx b = some (115, [p, .sl (.own id 5) 1 (bv l)])) (hp : isBld b p) (hl : l.length < 140737488355328) :
    GoodZ Tryz.prog 79 [.ref b 0, .c (.int .u8 (c : Int))] ⟨e, bx, n, h⟩ ⟨mapE (poison id) e, upd (mapB (poison id) bx) b (some (115, [.ref b 0, .sl (.own id 5) 1 (bv (l ++ [c]))])), max (n + 1) (id + 1), mapE (poison id) h⟩ (.c .nilIface) := by
  refine goodZ_intro (drawW_ok mix) Tryz.func79 rfl Tryz.results79 rfl (by kernel_rfl) (Nat.le_of_ble_eq_true (by kernel_rfl)) ?_
  (repeat' (first | (simp (disch := first | assumption | omega | (simp only [Fits, maxLen, bv_len, sv_len, List.length_append, List.length_cons, List.length_nil, List.length_map, sB_size] at *; omega)) only [pgs, pgl, pgx, pgw, pgb, tyf, buildSliceV_w, pgn, Nat.reduceEqDiff, reduceIte, Nat.reduceAdd, Nat.reduceSub, Nat.reduceMul, Nat.reduceBEq, Nat.reduceLeDiff, Int.reduceToNat, Int.reduceLT, Int.reduceLE, Int.reduceEq, Int.reduceNe, Nat.reduceLT, Int.reduceNeg, Int.reduceSub, Int.reduceAdd, Int.reduceMul, eq_self, Option.some.injEq, List.getElem?_nil, Int.reduceBEq, Int.reduceBNe, if_true, if_false, ite_true, ite_false, ↓reduceIte, Tryz.f79, inlS_at, inlQ_ret, inlQ_normal, hb, ofConst_nilIface]) | ((with_reducible show callW _ _ _ _ _ _); first | refine callZ _ (good46 _ _ _ _ _ _ _ hb hp) rfl ?_) | ((first | ((with_reducible show condC _ _ _ _ _ _ _); refine cond_at (fun hc => ?_) (fun hc => ?_)) | ((with_reducible show guardC _ _ _ _ _ _ _ _); refine guard_at (fun hc => ?_) (fun hc => ?_)) | ((with_reducible show drwG _ _ _ _ _ _ _ _ _ _); refine drw_at (fun hc => ?_) (fun hc => ?_))) <;> (try simp only [hc]) <;> (try simp only [decide_eq_true_eq, decide_eq_false_iff_not, beq_iff_eq, beq_eq_false_iff_ne, bne_iff_ne, bne_eq_false_iff_eq, Bool.not_eq_true', Bool.not_eq_false', Int.not_lt, Int.not_le, Nat.not_lt, Nat.not_le, ne_eq, Bool.not_true, Bool.not_false, Bool.not_not, Bool.true_eq_false, Bool.false_eq_true, not_false_eq_true, not_true_eq_false, Decidable.not_not] at hc)) | (with_reducible refine chk_at (by kernel_rfl) ?_)))
  refine inl_at (retV_one _ _ _) ?_
  rw [unE_map, unH_map, unE_pair, unH_pair, upd_mapB]
  simp [bv]
theorem oc (l : List Nat) (ho : oct l) : u8L (bv l) = some (l.map UInt8.ofNat) := by
  induction l with
  | nil => rfl
  | cons a l ih =>
    have h1 := ho a (by simp)
    have h2 := ih (fun x hx => ho x (by simp [hx]))
    simp only [bv, List.map_cons] at h2 ⊢
    unfold u8L
    rw [if_pos ⟨by omega, by omega⟩, h2]
    simp
theorem sdV_bv (t : Tag) (k : Nat) (l : List Nat) (h : 0 < l.length) : sdV (.sl t k (bv l)) = some (.el t k (bv l) 0 0) := by
  cases l with
  | nil => simp at h
  | cons a l => rfl
theorem pt61 : ptrTo Tryz.prog 152 = some 5 := by kernel_rfl
theorem co5 : Tryz.prog.cellsOf 5 = 1 := by kernel_rfl
theorem usV_bv (e : Nat → V) (bx : Nat → Option (TypeId × List V)) (n : Nat) (h : Nat → V) (id : Nat) (l : List Nat) (ho : oct l) (hl : 0 < l.length ∧ l.length ≤ 140737488355328) :
    usV Tryz.prog ⟨e, bx, n, h⟩ 152 (.el (.own id 5) 1 (bv l) 0 0) (.c (.int .i64 l.length)) = some (.c (.string (sB l)), ⟨mapE (frz id) e, mapB (frz id) bx, n, mapE (frz id) h⟩) := by
  unfold usV
  simp only [oc l ho, Option.bind_some, bv_len]
  rw [if_pos ⟨pt61, co5, trivial, by omega, by omega⟩]
  rfl
theorem good32 (e : Nat → V) (bx : Nat → Option (TypeId × List V)) (n : Nat) (h : Nat → V) (b id : Nat) (p : V) (l : List Nat) (hb : bx b = some (115, [p, .sl (.own id 5) 1 (bv l)])) (hl : 0 < l.length ∧ l.length ≤ 140737488355328) (ho : oct l) :
    GoodZ Tryz.prog 64 [.ref b 0] ⟨e, bx, n, h⟩ ⟨mapE (frz id) e, mapB (frz id) bx, n, mapE (frz id) h⟩ (.c (.string (sB l))) := by
  refine goodZ_intro (drawW_ok mix) Tryz.func64 rfl Tryz.results64 rfl (by kernel_rfl) (Nat.le_of_ble_eq_true (by kernel_rfl)) ?_
  (repeat' (first | (simp (disch := first | assumption | omega | (simp only [Fits, maxLen, bv_len, sv_len, List.length_append, List.length_cons, List.length_nil, List.length_map, sB_size] at *; omega)) only [pgs, pgl, pgx, pgw, pgb, tyf, buildSliceV_w, pgn, Nat.reduceEqDiff, reduceIte, Nat.reduceAdd, Nat.reduceSub, Nat.reduceMul, Nat.reduceBEq, Nat.reduceLeDiff, Int.reduceToNat, Int.reduceLT, Int.reduceLE, Int.reduceEq, Int.reduceNe, Nat.reduceLT, Int.reduceNeg, Int.reduceSub, Int.reduceAdd, Int.reduceMul, eq_self, Option.some.injEq, List.getElem?_nil, Int.reduceBEq, Int.reduceBNe, if_true, if_false, ite_true, ite_false, ↓reduceIte, Tryz.f64, inlS_at, inlQ_ret, inlQ_normal, hb, sdV_bv, usV_bv _ _ _ _ _ _ ho hl]) | ((first | ((with_reducible show condC _ _ _ _ _ _ _); refine cond_at (fun hc => ?_) (fun hc => ?_)) | ((with_reducible show guardC _ _ _ _ _ _ _ _); refine guard_at (fun hc => ?_) (fun hc => ?_)) | ((with_reducible show drwG _ _ _ _ _ _ _ _ _ _); refine drw_at (fun hc => ?_) (fun hc => ?_))) <;> (try simp only [hc]) <;> (try simp only [decide_eq_true_eq, decide_eq_false_iff_not, beq_iff_eq, beq_eq_false_iff_ne, bne_iff_ne, bne_eq_false_iff_eq, Bool.not_eq_true', Bool.not_eq_false', Int.not_lt, Int.not_le, Nat.not_lt, Nat.not_le, ne_eq, Bool.not_true, Bool.not_false, Bool.not_not, Bool.true_eq_false, Bool.false_eq_true, not_false_eq_true, not_true_eq_false, Decidable.not_not] at hc)) | (with_reducible refine chk_at (by kernel_rfl) ?_)))
  refine inl_at (retV_one _ _ _) ?_
  rw [unE_map, unH_map, unE_pair, unH_pair]
end Go.Proofs.YtjiolbcdfgclaaaGreatDoor
end

section
/-
  Names: FormatKey, the program's, of any string.
-/
namespace Go.Proofs.YtjiolbcdfgclaaaGreatDoor
open Go Go.Pg
set_option maxRecDepth 10000
set_option linter.unusedSimpArgs false

theorem shr4b (a : Nat) : Int.fdiv (a : Int) (2 ^ min 4 IntKind.u8.bits) = ((a / 16 : Nat) : Int) := shr4 a
theorem hexix (d : Nat) (k : IntKind) (h : d < 16) : ixV Tryz.prog 9 (.c (.string (sB hexd))) (.c (.int k (d : Nat))) = some (.c (.int .u8 (hx d : Nat))) := by
  rw [ixV_sB _ _ _ _ _ hexd_oct (by omega) (by simp [hexd]; omega), if_pos is9]
  rfl
theorem good11 (l : List Nat) (ho : oct l) : Pg.Good Tryz.prog 80 [.c (.string (sB l))] (fkV l) := by
  refine good_intro (drawW_ok mix) Tryz.func80 rfl Tryz.results80 rfl (by kernel_rfl) (Nat.le_of_ble_eq_true (by kernel_rfl)) ?_
  have g1 := good15 l
  unfold fkV fk
  cases h1 : isKey l <;> rw [h1] at g1
  · (repeat' (first | (simp (disch := first | assumption | omega | (simp only [Fits, maxLen, bv_len, sv_len, List.length_append, List.length_cons, List.length_nil, List.length_map, sB_size] at *; omega)) only [pgs, pgl, pgx, pgw, pgb, tyf, buildSliceV_w, pgn, Nat.reduceEqDiff, reduceIte, Nat.reduceAdd, Nat.reduceSub, Nat.reduceMul, Nat.reduceBEq, Nat.reduceLeDiff, Int.reduceToNat, Int.reduceLT, Int.reduceLE, Int.reduceEq, Int.reduceNe, Nat.reduceLT, Int.reduceNeg, Int.reduceSub, Int.reduceAdd, Int.reduceMul, eq_self, Option.some.injEq, List.getElem?_nil, Int.reduceBEq, Int.reduceBNe, if_true, if_false, ite_true, ite_false, ↓reduceIte, Tryz.f80, nils]) | ((with_reducible show callW _ _ _ _ _ _); first | refine callW_use _ (g1) rfl rfl rfl rfl ?_) | ((first | ((with_reducible show condC _ _ _ _ _ _ _); refine cond_at (fun hc => ?_) (fun hc => ?_)) | ((with_reducible show guardC _ _ _ _ _ _ _ _); refine guard_at (fun hc => ?_) (fun hc => ?_)) | ((with_reducible show drwG _ _ _ _ _ _ _ _ _ _); refine drw_at (fun hc => ?_) (fun hc => ?_))) <;> (try simp only [hc]) <;> (try simp only [decide_eq_true_eq, decide_eq_false_iff_not, beq_iff_eq, beq_eq_false_iff_ne, bne_iff_ne, bne_eq_false_iff_eq, Bool.not_eq_true', Bool.not_eq_false', Int.not_lt, Int.not_le, Nat.not_lt, Nat.not_le, ne_eq, Bool.not_true, Bool.not_false, Bool.not_not, Bool.true_eq_false, Bool.false_eq_true, not_false_eq_true, not_true_eq_false, Decidable.not_not] at hc)) | (with_reducible refine chk_at (by kernel_rfl) ?_)))
    (refine ret_at [] _ (by first | exact retV_one _ _ _ | exact retV_two _ _ _ _ | exact retV_three _ _ _ _ _ | exact retV_four _ _ _ _ _ _ | (simp (disch := first | assumption | omega | (simp only [Fits, maxLen, bv_len, sv_len, List.length_append, List.length_cons, List.length_nil, List.length_map, sB_size] at *; omega)) only [pgr, pgs, pgl, pgx, pgw, tyf, pgn, Nat.reduceEqDiff, reduceIte, Nat.reduceAdd, Nat.reduceSub, Nat.reduceMul, Nat.reduceBEq, Nat.reduceLeDiff, Int.reduceToNat, Int.reduceLT, Int.reduceLE, Int.reduceEq, Int.reduceNe, Nat.reduceLT, Int.reduceNeg, Int.reduceSub, Int.reduceAdd, Int.reduceMul, eq_self, Option.some.injEq, List.getElem?_nil, Int.reduceBEq, Int.reduceBNe, if_true, if_false, ite_true, ite_false, ↓reduceIte]; rfl)) (by decide) (by simp only [pgs, pgl, pgx, pgw, pgn, Nat.reduceEqDiff, reduceIte, Nat.reduceAdd, Nat.reduceSub, Nat.reduceMul, Nat.reduceBEq, Nat.reduceLeDiff, Int.reduceToNat, Int.reduceLT, Int.reduceLE, Int.reduceEq, Int.reduceNe, Nat.reduceLT, Int.reduceNeg, Int.reduceSub, Int.reduceAdd, Int.reduceMul, eq_self, Option.some.injEq, List.getElem?_nil, Int.reduceBEq, Int.reduceBNe, if_true, if_false, ite_true, ite_false, ↓reduceIte]) ?_; (first | rfl | simp only [pgs, pgl, pgx, pgw, pgn, Nat.reduceEqDiff, reduceIte, Nat.reduceAdd, Nat.reduceSub, Nat.reduceMul, Nat.reduceBEq, Nat.reduceLeDiff, Int.reduceToNat, Int.reduceLT, Int.reduceLE, Int.reduceEq, Int.reduceNe, Nat.reduceLT, Int.reduceNeg, Int.reduceSub, Int.reduceAdd, Int.reduceMul, eq_self, Option.some.injEq, List.getElem?_nil, Int.reduceBEq, Int.reduceBNe, if_true, if_false, ite_true, ite_false, ↓reduceIte]))
  have hl := key_len h1
  have g2 := good30 l ho (by omega)
  cases h2 : plain l <;> rw [h2] at g2
  · (repeat' (first | (simp (disch := first | assumption | omega | (simp only [Fits, maxLen, bv_len, sv_len, List.length_append, List.length_cons, List.length_nil, List.length_map, sB_size] at *; omega)) only [pgs, pgl, pgx, pgw, pgb, tyf, buildSliceV_w, pgn, Nat.reduceEqDiff, reduceIte, Nat.reduceAdd, Nat.reduceSub, Nat.reduceMul, Nat.reduceBEq, Nat.reduceLeDiff, Int.reduceToNat, Int.reduceLT, Int.reduceLE, Int.reduceEq, Int.reduceNe, Nat.reduceLT, Int.reduceNeg, Int.reduceSub, Int.reduceAdd, Int.reduceMul, eq_self, Option.some.injEq, List.getElem?_nil, Int.reduceBEq, Int.reduceBNe, if_true, if_false, ite_true, ite_false, ↓reduceIte, Tryz.f80, nils]) | ((with_reducible show callW _ _ _ _ _ _); first | refine callW_use _ (g1) rfl rfl rfl rfl ?_ | refine callW_use _ (g2) rfl rfl rfl rfl ?_ | refine callZ _ (good31n _ _ _ _ _ _ 37 rfl (.inl rfl)) rfl ?_) | ((first | ((with_reducible show condC _ _ _ _ _ _ _); refine cond_at (fun hc => ?_) (fun hc => ?_)) | ((with_reducible show guardC _ _ _ _ _ _ _ _); refine guard_at (fun hc => ?_) (fun hc => ?_)) | ((with_reducible show drwG _ _ _ _ _ _ _ _ _ _); refine drw_at (fun hc => ?_) (fun hc => ?_))) <;> (try simp only [hc]) <;> (try simp only [decide_eq_true_eq, decide_eq_false_iff_not, beq_iff_eq, beq_eq_false_iff_ne, bne_iff_ne, bne_eq_false_iff_eq, Bool.not_eq_true', Bool.not_eq_false', Int.not_lt, Int.not_le, Nat.not_lt, Nat.not_le, ne_eq, Bool.not_true, Bool.not_false, Bool.not_not, Bool.true_eq_false, Bool.false_eq_true, not_false_eq_true, not_true_eq_false, Decidable.not_not] at hc)) | (with_reducible refine chk_at (by kernel_rfl) ?_)))
    refine loop_A (fun i => mkA [(0, .c (.string (sB l))), (4, .ref 0 0), (14, .c (.int .i64 l.length)), (15, .c (.int .i64 (i : Nat)))] [(0, (115, [.ref 0 0, .sl (.own 0 5) 1 (bv (37 :: hexL (l.take i)))]))] 1 (fun _ => .top)) (fun i => i ≤ l.length) (fun i => l.length - i) 0 [2] [0] ?_ (Nat.zero_le _) ?_
    · (refine keep_mkA ?_ ?_ (top_hd _ _ _) (by decide) (by decide) (by decide) (by decide); (repeat' (first | exact trivial | refine genB_one _ _ rfl rfl ?_ ?_)); all_goals (try simp only [pgs, pgl, pgx, pgw, GenA_cons, GenA_nil, GenL_cons, GenL_nil, gen_top, gen_c, gen_fz, pgn, Nat.reduceEqDiff, reduceIte, Nat.reduceAdd, Nat.reduceSub, Nat.reduceMul, Nat.reduceBEq, Nat.reduceLeDiff, Int.reduceToNat, Int.reduceLT, Int.reduceLE, Int.reduceEq, Int.reduceNe, Nat.reduceLT, Int.reduceNeg, Int.reduceSub, Int.reduceAdd, Int.reduceMul, eq_self, Option.some.injEq, List.getElem?_nil, Int.reduceBEq, Int.reduceBNe, if_true, if_false, ite_true, ite_false, ↓reduceIte]); all_goals (try (repeat' (first | apply And.intro))); all_goals (try (first | exact trivial | exact gen_ii (by omega) | exact gen_cc rfl | exact gen_own rfl rfl | exact gen_ref rfl)))
    · intro i hi
      rcases Nat.lt_or_ge i l.length with hlt | hge
      · have hc := getD_lt ho i
        have hx1 := hexL_len (l.take i)
        have hx2 : (l.take i).length ≤ i := by simp; omega
        (repeat' (first | (simp (disch := first | assumption | omega | (simp only [Fits, maxLen, bv_len, sv_len, List.length_append, List.length_cons, List.length_nil, List.length_map, sB_size] at *; omega)) only [pgs, pgl, pgx, pgw, pgb, tyf, buildSliceV_w, pgn, Nat.reduceEqDiff, reduceIte, Nat.reduceAdd, Nat.reduceSub, Nat.reduceMul, Nat.reduceBEq, Nat.reduceLeDiff, Int.reduceToNat, Int.reduceLT, Int.reduceLE, Int.reduceEq, Int.reduceNe, Nat.reduceLT, Int.reduceNeg, Int.reduceSub, Int.reduceAdd, Int.reduceMul, eq_self, Option.some.injEq, List.getElem?_nil, Int.reduceBEq, Int.reduceBNe, if_true, if_false, ite_true, ite_false, ↓reduceIte, hexs, shr4b, and15, hexix]) | ((with_reducible show callW _ _ _ _ _ _); first | refine callZ _ (good31 _ _ _ _ 0 0 _ _ _ rfl (.inr rfl) (by simp only [List.length_cons, List.length_append, List.length_nil, Nat.zero_add] at *; omega)) rfl ?_) | ((first | ((with_reducible show condC _ _ _ _ _ _ _); refine cond_at (fun hc => ?_) (fun hc => ?_)) | ((with_reducible show guardC _ _ _ _ _ _ _ _); refine guard_at (fun hc => ?_) (fun hc => ?_)) | ((with_reducible show drwG _ _ _ _ _ _ _ _ _ _); refine drw_at (fun hc => ?_) (fun hc => ?_))) <;> (try simp only [hc]) <;> (try simp only [decide_eq_true_eq, decide_eq_false_iff_not, beq_iff_eq, beq_eq_false_iff_ne, bne_iff_ne, bne_eq_false_iff_eq, Bool.not_eq_true', Bool.not_eq_false', Int.not_lt, Int.not_le, Nat.not_lt, Nat.not_le, ne_eq, Bool.not_true, Bool.not_false, Bool.not_not, Bool.true_eq_false, Bool.false_eq_true, not_false_eq_true, not_true_eq_false, Decidable.not_not] at hc)) | (with_reducible refine chk_at (by kernel_rfl) ?_)))
        (refine back_at (i + 1) [0] [0] (hlt) (by first | omega | (simp only [List.length_cons]; omega)) ?_; (refine keep_mkA ?_ ?_ (top_hd _ _ _) (by decide) (by decide) (by decide) (by decide); (repeat' (first | exact trivial | refine genB_one _ _ rfl rfl ?_ ?_)); all_goals (try simp only [pgs, pgl, pgx, pgw, GenA_cons, GenA_nil, GenL_cons, GenL_nil, gen_top, gen_c, gen_fz, pgn, Nat.reduceEqDiff, reduceIte, Nat.reduceAdd, Nat.reduceSub, Nat.reduceMul, Nat.reduceBEq, Nat.reduceLeDiff, Int.reduceToNat, Int.reduceLT, Int.reduceLE, Int.reduceEq, Int.reduceNe, Nat.reduceLT, Int.reduceNeg, Int.reduceSub, Int.reduceAdd, Int.reduceMul, eq_self, Option.some.injEq, List.getElem?_nil, Int.reduceBEq, Int.reduceBNe, if_true, if_false, ite_true, ite_false, ↓reduceIte]); all_goals (try (repeat' (first | apply And.intro))); all_goals (try (first | exact trivial | exact gen_ii (by omega) | exact gen_cc rfl | exact gen_own rfl rfl | exact gen_ref rfl))))
        exact gen_own rfl (by rw [hexL_next hlt])
      · have hil : i = l.length := by omega
        subst hil
        rw [List.take_length]
        have hx1 := hexL_len l
        (repeat' (first | (simp (disch := first | assumption | omega | (simp only [Fits, maxLen, bv_len, sv_len, List.length_append, List.length_cons, List.length_nil, List.length_map, sB_size] at *; omega)) only [pgs, pgl, pgx, pgw, pgb, tyf, buildSliceV_w, pgn, Nat.reduceEqDiff, reduceIte, Nat.reduceAdd, Nat.reduceSub, Nat.reduceMul, Nat.reduceBEq, Nat.reduceLeDiff, Int.reduceToNat, Int.reduceLT, Int.reduceLE, Int.reduceEq, Int.reduceNe, Nat.reduceLT, Int.reduceNeg, Int.reduceSub, Int.reduceAdd, Int.reduceMul, eq_self, Option.some.injEq, List.getElem?_nil, Int.reduceBEq, Int.reduceBNe, if_true, if_false, ite_true, ite_false, ↓reduceIte]) | ((with_reducible show callW _ _ _ _ _ _); first | refine callZ _ (good32 _ _ _ _ 0 0 _ _ rfl (by simp only [List.length_cons] at *; omega) (oct_cons (by omega) (hexL_oct _))) rfl ?_) | ((first | ((with_reducible show condC _ _ _ _ _ _ _); refine cond_at (fun hc => ?_) (fun hc => ?_)) | ((with_reducible show guardC _ _ _ _ _ _ _ _); refine guard_at (fun hc => ?_) (fun hc => ?_)) | ((with_reducible show drwG _ _ _ _ _ _ _ _ _ _); refine drw_at (fun hc => ?_) (fun hc => ?_))) <;> (try simp only [hc]) <;> (try simp only [decide_eq_true_eq, decide_eq_false_iff_not, beq_iff_eq, beq_eq_false_iff_ne, bne_iff_ne, bne_eq_false_iff_eq, Bool.not_eq_true', Bool.not_eq_false', Int.not_lt, Int.not_le, Nat.not_lt, Nat.not_le, ne_eq, Bool.not_true, Bool.not_false, Bool.not_not, Bool.true_eq_false, Bool.false_eq_true, not_false_eq_true, not_true_eq_false, Decidable.not_not] at hc)) | (with_reducible refine chk_at (by kernel_rfl) ?_)))
        (refine ret_at [] _ (by first | exact retV_one _ _ _ | exact retV_two _ _ _ _ | exact retV_three _ _ _ _ _ | exact retV_four _ _ _ _ _ _ | (simp (disch := first | assumption | omega | (simp only [Fits, maxLen, bv_len, sv_len, List.length_append, List.length_cons, List.length_nil, List.length_map, sB_size] at *; omega)) only [pgr, pgs, pgl, pgx, pgw, tyf, pgn, Nat.reduceEqDiff, reduceIte, Nat.reduceAdd, Nat.reduceSub, Nat.reduceMul, Nat.reduceBEq, Nat.reduceLeDiff, Int.reduceToNat, Int.reduceLT, Int.reduceLE, Int.reduceEq, Int.reduceNe, Nat.reduceLT, Int.reduceNeg, Int.reduceSub, Int.reduceAdd, Int.reduceMul, eq_self, Option.some.injEq, List.getElem?_nil, Int.reduceBEq, Int.reduceBNe, if_true, if_false, ite_true, ite_false, ↓reduceIte]; rfl)) (by decide) (by simp only [pgs, pgl, pgx, pgw, pgn, Nat.reduceEqDiff, reduceIte, Nat.reduceAdd, Nat.reduceSub, Nat.reduceMul, Nat.reduceBEq, Nat.reduceLeDiff, Int.reduceToNat, Int.reduceLT, Int.reduceLE, Int.reduceEq, Int.reduceNe, Nat.reduceLT, Int.reduceNeg, Int.reduceSub, Int.reduceAdd, Int.reduceMul, eq_self, Option.some.injEq, List.getElem?_nil, Int.reduceBEq, Int.reduceBNe, if_true, if_false, ite_true, ite_false, ↓reduceIte]) ?_; (first | rfl | simp only [pgs, pgl, pgx, pgw, pgn, Nat.reduceEqDiff, reduceIte, Nat.reduceAdd, Nat.reduceSub, Nat.reduceMul, Nat.reduceBEq, Nat.reduceLeDiff, Int.reduceToNat, Int.reduceLT, Int.reduceLE, Int.reduceEq, Int.reduceNe, Nat.reduceLT, Int.reduceNeg, Int.reduceSub, Int.reduceAdd, Int.reduceMul, eq_self, Option.some.injEq, List.getElem?_nil, Int.reduceBEq, Int.reduceBNe, if_true, if_false, ite_true, ite_false, ↓reduceIte]))
  · (repeat' (first | (simp (disch := first | assumption | omega | (simp only [Fits, maxLen, bv_len, sv_len, List.length_append, List.length_cons, List.length_nil, List.length_map, sB_size] at *; omega)) only [pgs, pgl, pgx, pgw, pgb, tyf, buildSliceV_w, pgn, Nat.reduceEqDiff, reduceIte, Nat.reduceAdd, Nat.reduceSub, Nat.reduceMul, Nat.reduceBEq, Nat.reduceLeDiff, Int.reduceToNat, Int.reduceLT, Int.reduceLE, Int.reduceEq, Int.reduceNe, Nat.reduceLT, Int.reduceNeg, Int.reduceSub, Int.reduceAdd, Int.reduceMul, eq_self, Option.some.injEq, List.getElem?_nil, Int.reduceBEq, Int.reduceBNe, if_true, if_false, ite_true, ite_false, ↓reduceIte, Tryz.f80, nils]) | ((with_reducible show callW _ _ _ _ _ _); first | refine callW_use _ (g1) rfl rfl rfl rfl ?_ | refine callW_use _ (g2) rfl rfl rfl rfl ?_) | ((first | ((with_reducible show condC _ _ _ _ _ _ _); refine cond_at (fun hc => ?_) (fun hc => ?_)) | ((with_reducible show guardC _ _ _ _ _ _ _ _); refine guard_at (fun hc => ?_) (fun hc => ?_)) | ((with_reducible show drwG _ _ _ _ _ _ _ _ _ _); refine drw_at (fun hc => ?_) (fun hc => ?_))) <;> (try simp only [hc]) <;> (try simp only [decide_eq_true_eq, decide_eq_false_iff_not, beq_iff_eq, beq_eq_false_iff_ne, bne_iff_ne, bne_eq_false_iff_eq, Bool.not_eq_true', Bool.not_eq_false', Int.not_lt, Int.not_le, Nat.not_lt, Nat.not_le, ne_eq, Bool.not_true, Bool.not_false, Bool.not_not, Bool.true_eq_false, Bool.false_eq_true, not_false_eq_true, not_true_eq_false, Decidable.not_not] at hc)) | (with_reducible refine chk_at (by kernel_rfl) ?_)))
    (refine ret_at [] _ (by first | exact retV_one _ _ _ | exact retV_two _ _ _ _ | exact retV_three _ _ _ _ _ | exact retV_four _ _ _ _ _ _ | (simp (disch := first | assumption | omega | (simp only [Fits, maxLen, bv_len, sv_len, List.length_append, List.length_cons, List.length_nil, List.length_map, sB_size] at *; omega)) only [pgr, pgs, pgl, pgx, pgw, tyf, pgn, Nat.reduceEqDiff, reduceIte, Nat.reduceAdd, Nat.reduceSub, Nat.reduceMul, Nat.reduceBEq, Nat.reduceLeDiff, Int.reduceToNat, Int.reduceLT, Int.reduceLE, Int.reduceEq, Int.reduceNe, Nat.reduceLT, Int.reduceNeg, Int.reduceSub, Int.reduceAdd, Int.reduceMul, eq_self, Option.some.injEq, List.getElem?_nil, Int.reduceBEq, Int.reduceBNe, if_true, if_false, ite_true, ite_false, ↓reduceIte]; rfl)) (by decide) (by simp only [pgs, pgl, pgx, pgw, pgn, Nat.reduceEqDiff, reduceIte, Nat.reduceAdd, Nat.reduceSub, Nat.reduceMul, Nat.reduceBEq, Nat.reduceLeDiff, Int.reduceToNat, Int.reduceLT, Int.reduceLE, Int.reduceEq, Int.reduceNe, Nat.reduceLT, Int.reduceNeg, Int.reduceSub, Int.reduceAdd, Int.reduceMul, eq_self, Option.some.injEq, List.getElem?_nil, Int.reduceBEq, Int.reduceBNe, if_true, if_false, ite_true, ite_false, ↓reduceIte]) ?_; (first | rfl | simp only [pgs, pgl, pgx, pgw, pgn, Nat.reduceEqDiff, reduceIte, Nat.reduceAdd, Nat.reduceSub, Nat.reduceMul, Nat.reduceBEq, Nat.reduceLeDiff, Int.reduceToNat, Int.reduceLT, Int.reduceLE, Int.reduceEq, Int.reduceNe, Nat.reduceLT, Int.reduceNeg, Int.reduceSub, Int.reduceAdd, Int.reduceMul, eq_self, Option.some.injEq, List.getElem?_nil, Int.reduceBEq, Int.reduceBNe, if_true, if_false, ite_true, ite_false, ↓reduceIte]))
end Go.Proofs.YtjiolbcdfgclaaaGreatDoor
end

section
/-
  Names: ParseKey, the program's, of any string (of at most 2^47 octets).
-/
namespace Go.Proofs.YtjiolbcdfgclaaaGreatDoor
open Go Go.Pg
set_option maxRecDepth 10000
set_option linter.unusedSimpArgs false

theorem ixB_hexd : ∀ c, c < 256 → ixB hexd c = nib c := by decide
theorem hx_nib : ∀ c, c < 256 → 0 ≤ nib c → hx (nib c).toNat = c := by decide
/-- The key that a text's form gives. -/
def keyOf (l : List Nat) : Option (List Nat) :=
  if hasP l [37] = true then (if (l.drop 1).length % 2 ≠ 0 then none else if okB (l.drop 1) ((l.drop 1).length / 2) = true then some (prs (l.drop 1) ((l.drop 1).length / 2)) else none) else some l
def pkP (l : List Nat) : List Nat × Nat :=
  match keyOf l with
  | none => ([], 1)
  | some k => if (fk k).2 ≠ 0 ∨ (fk k).1 ≠ l then ([], 1) else (k, 0)
theorem pct (l : List Nat) : hasP l [37] = true ↔ 0 < l.length ∧ l.getD 0 0 = 37 := by
  cases l with
  | nil => simp [hasP]
  | cons a l => simp [hasP]
theorem plain_pct (l : List Nat) (h : plain l = true) : hasP l [37] = false := by
  rw [← Bool.not_eq_true, pct]
  rintro ⟨h1, h2⟩
  cases l with
  | nil => simp at h1
  | cons a l =>
    simp at h2
    subst h2
    simp [plain, plC, bt, mk5] at h
theorem hexL_prs (r : List Nat) (ho : oct r) : ∀ j, 2 * j ≤ r.length → okB r j = true → hexL (prs r j) = r.take (2 * j) := by
  intro j
  induction j with
  | zero => intro _ _; rfl
  | succ j ih =>
    intro hj hok
    rw [okB_next, Bool.and_eq_true] at hok
    have h1 := ih (by omega) hok.1
    have h2 := hok.2
    unfold okP at h2
    simp only [Bool.and_eq_true, decide_eq_true_eq] at h2
    have b1 := getD_lt ho (2 * j)
    have b2 := getD_lt ho (2 * j + 1)
    have n1 := nib_rng (r.getD (2 * j) 0)
    have n2 := nib_rng (r.getD (2 * j + 1) 0)
    have e1 := hx_nib _ b1 h2.1
    have e2 := hx_nib _ b2 h2.2
    have e3 : prB r j / 16 = (nib (r.getD (2 * j) 0)).toNat := by unfold prB; omega
    have e4 : prB r j % 16 = (nib (r.getD (2 * j + 1) 0)).toNat := by unfold prB; omega
    rw [prs_next]
    have : hexL (prs r j ++ [prB r j]) = hexL (prs r j) ++ [hx (prB r j / 16), hx (prB r j % 16)] := by simp [hexL]
    rw [this, h1, e3, e4, e1, e2]
    rw [show 2 * (j + 1) = 2 * j + 1 + 1 by omega, List.take_succ_eq_append_getElem (show 2 * j + 1 < r.length by omega), List.take_succ_eq_append_getElem (show 2 * j < r.length by omega)]
    have g1 : r.getD (2 * j) 0 = r[2 * j]'(by omega) := by simp [List.getD, show 2 * j < r.length by omega]
    have g2 : r.getD (2 * j + 1) 0 = r[2 * j + 1]'(by omega) := by simp [List.getD, show 2 * j + 1 < r.length by omega]
    rw [g1, g2, List.append_assoc]
    rfl
theorem pkP_eq (l : List Nat) (ho : oct l) : pkP l = pk l := by
  unfold pkP keyOf
  cases hp : hasP l [37]
  · have hn : ¬ (0 < l.length ∧ l.getD 0 0 = 37) := fun h => by rw [← pct, hp] at h; cases h
    simp only [Bool.false_eq_true, if_false]
    unfold pk fk
    cases h1 : isKey l <;> cases h2 : plain l <;> simp only [Bool.and_true, Bool.and_false, Bool.false_and, Bool.true_and, Bool.false_eq_true, if_true, if_false, ne_eq, not_true_eq_false, or_false, false_or]
    · by_cases h0 : l.length = 0
      · rw [if_pos h0, if_pos (.inl (by decide))]
      · have : l.getD 0 0 ≠ 37 := fun h => hn ⟨by omega, h⟩
        rw [if_neg h0, if_pos this, if_pos (.inl (by decide))]
    · by_cases h0 : l.length = 0
      · rw [if_pos h0, if_pos (.inl (by decide))]
      · have : l.getD 0 0 ≠ 37 := fun h => hn ⟨by omega, h⟩
        rw [if_neg h0, if_pos this, if_pos (.inl (by decide))]
    · have hl := key_len h1
      have : l.getD 0 0 ≠ 37 := fun h => hn ⟨by omega, h⟩
      have hne : ¬ (37 :: hexL l = l) := by
        intro h
        apply this
        rw [← h]
        rfl
      have h0 : ¬ l.length = 0 := by omega
      rw [if_pos (.inr (by simpa using hne)), if_neg h0, if_pos this]
    · simp
  · obtain ⟨h1, h2⟩ := (pct l).1 hp
    have hpl : plain l = false := by
      cases h : plain l
      · rfl
      · have := plain_pct l h; rw [hp] at this; cases this
    unfold pk
    rw [hpl, Bool.and_false]
    simp only [if_true, Bool.false_eq_true, if_false]
    rw [if_neg (show ¬ l.length = 0 by omega), if_neg (show ¬ l.getD 0 0 ≠ 37 from fun h => h h2)]
    by_cases h5 : (l.drop 1).length % 2 ≠ 0
    · rw [if_pos h5]
      cases h4 : okB (l.drop 1) ((l.drop 1).length / 2)
      · rw [if_pos rfl]
      · rw [if_neg (by simp), if_pos h5]
    · rw [if_neg h5]
      cases h4 : okB (l.drop 1) ((l.drop 1).length / 2)
      · rw [if_neg (by simp), if_pos rfl]
      · rw [if_pos rfl, if_neg (by simp), if_neg h5]
        simp only
        have hx := hexL_prs (l.drop 1) (oct_drop ho 1) ((l.drop 1).length / 2) (by omega) h4
        have hk : 37 :: hexL (prs (l.drop 1) ((l.drop 1).length / 2)) = l := by
          rw [hx, List.take_of_length_le (by omega)]
          cases l with
          | nil => simp at h1
          | cons a l => simp at h2; simp [h2]
        generalize prs (l.drop 1) ((l.drop 1).length / 2) = k at hk
        unfold fk
        cases h6 : isKey k
        · simp
        · cases h7 : plain k
          · simp [hk]
          · have hne : k ≠ l := by
              intro h; subst h
              rw [h7] at hpl; cases hpl
            simp [hne]
end Go.Proofs.YtjiolbcdfgclaaaGreatDoor
end

section
/-
  Names: ParseKey, the program's, of any string: the walk.
-/
namespace Go.Proofs.YtjiolbcdfgclaaaGreatDoor
open Go Go.Pg
set_option maxRecDepth 10000
set_option linter.unusedSimpArgs false

theorem keyOf_oct {l k : List Nat} (ho : oct l) (hl : l.length ≤ 140737488355328) (h : keyOf l = some k) : oct k ∧ k.length ≤ 140737488355328 := by
  unfold keyOf at h
  split at h
  · split at h
    · cases h
    · split at h
      · simp only [Option.some.injEq] at h
        subst h
        exact ⟨prs_oct _ _, by rw [prs_len, List.length_drop]; omega⟩
      · cases h
  · simp only [Option.some.injEq] at h
    subst h
    exact ⟨ho, hl⟩
theorem sneV (a b : List Nat) (ha : oct a) (hb : oct b) : decide (sB a = sB b) = decide (a = b) := sB_dec ha hb
theorem fk_oct {k : List Nat} (ho : oct k) : oct (fk k).1 := by
  unfold fk
  split
  · exact oct_nil
  · split
    · exact ho
    · exact oct_cons (by omega) (hexL_oct _)
theorem good13 (l : List Nat) (ho : oct l) (hl : l.length ≤ 140737488355328) : Pg.Good Tryz.prog 145 [.c (.string (sB l))] (pkV l) := by
  refine good_intro (drawC_ok [15] mix) Tryz.func145 rfl Tryz.results145 rfl (by kernel_rfl) (Nat.le_of_ble_eq_true (by kernel_rfl)) ?_
  have g1 := good35 l [37] ho (oct_one (by omega))
  unfold pkV
  rw [← pkP_eq l ho]
  unfold pkP
  (repeat' (first | (simp (disch := first | assumption | omega | (simp only [Fits, maxLen, bv_len, sv_len, List.length_append, List.length_cons, List.length_nil, List.length_map, sB_size] at *; omega)) only [pgs, pgl, pgx, pgw, pgb, tyf, buildSliceV_w, pgn, Nat.reduceEqDiff, reduceIte, Nat.reduceAdd, Nat.reduceSub, Nat.reduceMul, Nat.reduceBEq, Nat.reduceLeDiff, Int.reduceToNat, Int.reduceLT, Int.reduceLE, Int.reduceEq, Int.reduceNe, Nat.reduceLT, Int.reduceNeg, Int.reduceSub, Int.reduceAdd, Int.reduceMul, eq_self, Option.some.injEq, List.getElem?_nil, Int.reduceBEq, Int.reduceBNe, if_true, if_false, ite_true, ite_false, ↓reduceIte, Tryz.f145, nils, pcts]) | ((first | ((with_reducible show condC _ _ _ _ _ _ _); refine cond_at (fun hc => ?_) (fun hc => ?_)) | ((with_reducible show guardC _ _ _ _ _ _ _ _); refine guard_at (fun hc => ?_) (fun hc => ?_)) | ((with_reducible show drwG _ _ _ _ _ _ _ _ _ _); refine drw_at (fun hc => ?_) (fun hc => ?_))) <;> (try simp only [hc]) <;> (try simp only [decide_eq_true_eq, decide_eq_false_iff_not, beq_iff_eq, beq_eq_false_iff_ne, bne_iff_ne, bne_eq_false_iff_eq, Bool.not_eq_true', Bool.not_eq_false', Int.not_lt, Int.not_le, Nat.not_lt, Nat.not_le, ne_eq, Bool.not_true, Bool.not_false, Bool.not_not, Bool.true_eq_false, Bool.false_eq_true, not_false_eq_true, not_true_eq_false, Decidable.not_not] at hc)) | (with_reducible refine chk_at (by kernel_rfl) ?_)))
  refine seq_cut _ (fun k => mkA [(0, .c (.string (sB l))), (4, .c (.string (sB k)))] [] 0 (fun _ => .top)) (fun k => keyOf l = some k) rfl ?_ ?_
  · intro k hk
    obtain ⟨hko, hkl⟩ := keyOf_oct ho hl hk
    have g2 := good11 k hko
    have hfo := fk_oct hko
    rw [hk]
    simp only
    by_cases h1 : (fk k).2 = 0
    · have e1 : (((fk k).2 : Nat) : Int) = 0 := by omega
      by_cases h2 : (fk k).1 = l
      · rw [if_neg (by simp [h1, h2])]
        unfold fkV at g2
        rw [e1, h2] at g2
        (repeat' (first | (simp (disch := first | assumption | omega | (simp only [Fits, maxLen, bv_len, sv_len, List.length_append, List.length_cons, List.length_nil, List.length_map, sB_size] at *; omega)) only [pgs, pgl, pgx, pgw, pgb, tyf, buildSliceV_w, pgn, Nat.reduceEqDiff, reduceIte, Nat.reduceAdd, Nat.reduceSub, Nat.reduceMul, Nat.reduceBEq, Nat.reduceLeDiff, Int.reduceToNat, Int.reduceLT, Int.reduceLE, Int.reduceEq, Int.reduceNe, Nat.reduceLT, Int.reduceNeg, Int.reduceSub, Int.reduceAdd, Int.reduceMul, eq_self, Option.some.injEq, List.getElem?_nil, Int.reduceBEq, Int.reduceBNe, if_true, if_false, ite_true, ite_false, ↓reduceIte, nils]) | ((with_reducible show callW _ _ _ _ _ _); first | refine callW_use _ (g2) rfl rfl rfl rfl ?_) | ((first | ((with_reducible show condC _ _ _ _ _ _ _); refine cond_at (fun hc => ?_) (fun hc => ?_)) | ((with_reducible show guardC _ _ _ _ _ _ _ _); refine guard_at (fun hc => ?_) (fun hc => ?_)) | ((with_reducible show drwG _ _ _ _ _ _ _ _ _ _); refine drw_at (fun hc => ?_) (fun hc => ?_))) <;> (try simp only [hc]) <;> (try simp only [decide_eq_true_eq, decide_eq_false_iff_not, beq_iff_eq, beq_eq_false_iff_ne, bne_iff_ne, bne_eq_false_iff_eq, Bool.not_eq_true', Bool.not_eq_false', Int.not_lt, Int.not_le, Nat.not_lt, Nat.not_le, ne_eq, Bool.not_true, Bool.not_false, Bool.not_not, Bool.true_eq_false, Bool.false_eq_true, not_false_eq_true, not_true_eq_false, Decidable.not_not] at hc)) | (with_reducible refine chk_at (by kernel_rfl) ?_)))
        (refine ret_at [] _ (by first | exact retV_one _ _ _ | exact retV_two _ _ _ _ | exact retV_three _ _ _ _ _ | exact retV_four _ _ _ _ _ _ | (simp (disch := first | assumption | omega | (simp only [Fits, maxLen, bv_len, sv_len, List.length_append, List.length_cons, List.length_nil, List.length_map, sB_size] at *; omega)) only [pgr, pgs, pgl, pgx, pgw, tyf, pgn, Nat.reduceEqDiff, reduceIte, Nat.reduceAdd, Nat.reduceSub, Nat.reduceMul, Nat.reduceBEq, Nat.reduceLeDiff, Int.reduceToNat, Int.reduceLT, Int.reduceLE, Int.reduceEq, Int.reduceNe, Nat.reduceLT, Int.reduceNeg, Int.reduceSub, Int.reduceAdd, Int.reduceMul, eq_self, Option.some.injEq, List.getElem?_nil, Int.reduceBEq, Int.reduceBNe, if_true, if_false, ite_true, ite_false, ↓reduceIte]; rfl)) (by decide) (by simp only [pgs, pgl, pgx, pgw, pgn, Nat.reduceEqDiff, reduceIte, Nat.reduceAdd, Nat.reduceSub, Nat.reduceMul, Nat.reduceBEq, Nat.reduceLeDiff, Int.reduceToNat, Int.reduceLT, Int.reduceLE, Int.reduceEq, Int.reduceNe, Nat.reduceLT, Int.reduceNeg, Int.reduceSub, Int.reduceAdd, Int.reduceMul, eq_self, Option.some.injEq, List.getElem?_nil, Int.reduceBEq, Int.reduceBNe, if_true, if_false, ite_true, ite_false, ↓reduceIte]) ?_; (first | rfl | simp only [pgs, pgl, pgx, pgw, pgn, Nat.reduceEqDiff, reduceIte, Nat.reduceAdd, Nat.reduceSub, Nat.reduceMul, Nat.reduceBEq, Nat.reduceLeDiff, Int.reduceToNat, Int.reduceLT, Int.reduceLE, Int.reduceEq, Int.reduceNe, Nat.reduceLT, Int.reduceNeg, Int.reduceSub, Int.reduceAdd, Int.reduceMul, eq_self, Option.some.injEq, List.getElem?_nil, Int.reduceBEq, Int.reduceBNe, if_true, if_false, ite_true, ite_false, ↓reduceIte]))
      · rw [if_pos (.inr h2)]
        unfold fkV at g2
        rw [e1] at g2
        (repeat' (first | (simp (disch := first | assumption | omega | (simp only [Fits, maxLen, bv_len, sv_len, List.length_append, List.length_cons, List.length_nil, List.length_map, sB_size] at *; omega)) only [pgs, pgl, pgx, pgw, pgb, tyf, buildSliceV_w, pgn, Nat.reduceEqDiff, reduceIte, Nat.reduceAdd, Nat.reduceSub, Nat.reduceMul, Nat.reduceBEq, Nat.reduceLeDiff, Int.reduceToNat, Int.reduceLT, Int.reduceLE, Int.reduceEq, Int.reduceNe, Nat.reduceLT, Int.reduceNeg, Int.reduceSub, Int.reduceAdd, Int.reduceMul, eq_self, Option.some.injEq, List.getElem?_nil, Int.reduceBEq, Int.reduceBNe, if_true, if_false, ite_true, ite_false, ↓reduceIte, nils, sneV _ _ hfo ho]) | ((with_reducible show callW _ _ _ _ _ _); first | refine callW_use _ (g2) rfl rfl rfl rfl ?_) | ((first | ((with_reducible show condC _ _ _ _ _ _ _); refine cond_at (fun hc => ?_) (fun hc => ?_)) | ((with_reducible show guardC _ _ _ _ _ _ _ _); refine guard_at (fun hc => ?_) (fun hc => ?_)) | ((with_reducible show drwG _ _ _ _ _ _ _ _ _ _); refine drw_at (fun hc => ?_) (fun hc => ?_))) <;> (try simp only [hc]) <;> (try simp only [decide_eq_true_eq, decide_eq_false_iff_not, beq_iff_eq, beq_eq_false_iff_ne, bne_iff_ne, bne_eq_false_iff_eq, Bool.not_eq_true', Bool.not_eq_false', Int.not_lt, Int.not_le, Nat.not_lt, Nat.not_le, ne_eq, Bool.not_true, Bool.not_false, Bool.not_not, Bool.true_eq_false, Bool.false_eq_true, not_false_eq_true, not_true_eq_false, Decidable.not_not] at hc)) | (with_reducible refine chk_at (by kernel_rfl) ?_)))
        (refine ret_at [] _ (by first | exact retV_one _ _ _ | exact retV_two _ _ _ _ | exact retV_three _ _ _ _ _ | exact retV_four _ _ _ _ _ _ | (simp (disch := first | assumption | omega | (simp only [Fits, maxLen, bv_len, sv_len, List.length_append, List.length_cons, List.length_nil, List.length_map, sB_size] at *; omega)) only [pgr, pgs, pgl, pgx, pgw, tyf, pgn, Nat.reduceEqDiff, reduceIte, Nat.reduceAdd, Nat.reduceSub, Nat.reduceMul, Nat.reduceBEq, Nat.reduceLeDiff, Int.reduceToNat, Int.reduceLT, Int.reduceLE, Int.reduceEq, Int.reduceNe, Nat.reduceLT, Int.reduceNeg, Int.reduceSub, Int.reduceAdd, Int.reduceMul, eq_self, Option.some.injEq, List.getElem?_nil, Int.reduceBEq, Int.reduceBNe, if_true, if_false, ite_true, ite_false, ↓reduceIte]; rfl)) (by decide) (by simp only [pgs, pgl, pgx, pgw, pgn, Nat.reduceEqDiff, reduceIte, Nat.reduceAdd, Nat.reduceSub, Nat.reduceMul, Nat.reduceBEq, Nat.reduceLeDiff, Int.reduceToNat, Int.reduceLT, Int.reduceLE, Int.reduceEq, Int.reduceNe, Nat.reduceLT, Int.reduceNeg, Int.reduceSub, Int.reduceAdd, Int.reduceMul, eq_self, Option.some.injEq, List.getElem?_nil, Int.reduceBEq, Int.reduceBNe, if_true, if_false, ite_true, ite_false, ↓reduceIte]) ?_; (first | rfl | simp only [pgs, pgl, pgx, pgw, pgn, Nat.reduceEqDiff, reduceIte, Nat.reduceAdd, Nat.reduceSub, Nat.reduceMul, Nat.reduceBEq, Nat.reduceLeDiff, Int.reduceToNat, Int.reduceLT, Int.reduceLE, Int.reduceEq, Int.reduceNe, Nat.reduceLT, Int.reduceNeg, Int.reduceSub, Int.reduceAdd, Int.reduceMul, eq_self, Option.some.injEq, List.getElem?_nil, Int.reduceBEq, Int.reduceBNe, if_true, if_false, ite_true, ite_false, ↓reduceIte]))
    · rw [if_pos (.inl h1)]
      unfold fkV at g2
      (repeat' (first | (simp (disch := first | assumption | omega | (simp only [Fits, maxLen, bv_len, sv_len, List.length_append, List.length_cons, List.length_nil, List.length_map, sB_size] at *; omega)) only [pgs, pgl, pgx, pgw, pgb, tyf, buildSliceV_w, pgn, Nat.reduceEqDiff, reduceIte, Nat.reduceAdd, Nat.reduceSub, Nat.reduceMul, Nat.reduceBEq, Nat.reduceLeDiff, Int.reduceToNat, Int.reduceLT, Int.reduceLE, Int.reduceEq, Int.reduceNe, Nat.reduceLT, Int.reduceNeg, Int.reduceSub, Int.reduceAdd, Int.reduceMul, eq_self, Option.some.injEq, List.getElem?_nil, Int.reduceBEq, Int.reduceBNe, if_true, if_false, ite_true, ite_false, ↓reduceIte, nils]) | ((with_reducible show callW _ _ _ _ _ _); first | refine callW_use _ (g2) rfl rfl rfl rfl ?_) | ((first | ((with_reducible show condC _ _ _ _ _ _ _); refine cond_at (fun hc => ?_) (fun hc => ?_)) | ((with_reducible show guardC _ _ _ _ _ _ _ _); refine guard_at (fun hc => ?_) (fun hc => ?_)) | ((with_reducible show drwG _ _ _ _ _ _ _ _ _ _); refine drw_at (fun hc => ?_) (fun hc => ?_))) <;> (try simp only [hc]) <;> (try simp only [decide_eq_true_eq, decide_eq_false_iff_not, beq_iff_eq, beq_eq_false_iff_ne, bne_iff_ne, bne_eq_false_iff_eq, Bool.not_eq_true', Bool.not_eq_false', Int.not_lt, Int.not_le, Nat.not_lt, Nat.not_le, ne_eq, Bool.not_true, Bool.not_false, Bool.not_not, Bool.true_eq_false, Bool.false_eq_true, not_false_eq_true, not_true_eq_false, Decidable.not_not] at hc)) | (with_reducible refine chk_at (by kernel_rfl) ?_)))
      (refine ret_at [] _ (by first | exact retV_one _ _ _ | exact retV_two _ _ _ _ | exact retV_three _ _ _ _ _ | exact retV_four _ _ _ _ _ _ | (simp (disch := first | assumption | omega | (simp only [Fits, maxLen, bv_len, sv_len, List.length_append, List.length_cons, List.length_nil, List.length_map, sB_size] at *; omega)) only [pgr, pgs, pgl, pgx, pgw, tyf, pgn, Nat.reduceEqDiff, reduceIte, Nat.reduceAdd, Nat.reduceSub, Nat.reduceMul, Nat.reduceBEq, Nat.reduceLeDiff, Int.reduceToNat, Int.reduceLT, Int.reduceLE, Int.reduceEq, Int.reduceNe, Nat.reduceLT, Int.reduceNeg, Int.reduceSub, Int.reduceAdd, Int.reduceMul, eq_self, Option.some.injEq, List.getElem?_nil, Int.reduceBEq, Int.reduceBNe, if_true, if_false, ite_true, ite_false, ↓reduceIte]; rfl)) (by decide) (by simp only [pgs, pgl, pgx, pgw, pgn, Nat.reduceEqDiff, reduceIte, Nat.reduceAdd, Nat.reduceSub, Nat.reduceMul, Nat.reduceBEq, Nat.reduceLeDiff, Int.reduceToNat, Int.reduceLT, Int.reduceLE, Int.reduceEq, Int.reduceNe, Nat.reduceLT, Int.reduceNeg, Int.reduceSub, Int.reduceAdd, Int.reduceMul, eq_self, Option.some.injEq, List.getElem?_nil, Int.reduceBEq, Int.reduceBNe, if_true, if_false, ite_true, ite_false, ↓reduceIte]) ?_; (first | rfl | simp only [pgs, pgl, pgx, pgw, pgn, Nat.reduceEqDiff, reduceIte, Nat.reduceAdd, Nat.reduceSub, Nat.reduceMul, Nat.reduceBEq, Nat.reduceLeDiff, Int.reduceToNat, Int.reduceLT, Int.reduceLE, Int.reduceEq, Int.reduceNe, Nat.reduceLT, Int.reduceNeg, Int.reduceSub, Int.reduceAdd, Int.reduceMul, eq_self, Option.some.injEq, List.getElem?_nil, Int.reduceBEq, Int.reduceBNe, if_true, if_false, ite_true, ite_false, ↓reduceIte]))
  · rcases cutP_cases l [37] with ⟨hp, h2⟩ | ⟨hp, h2⟩
    · rw [h2] at g1
      have hro := oct_drop ho 1
      have e5 : ((l.drop 1).length : Int).tmod 2 = (((l.drop 1).length % 2 : Nat) : Int) := rfl
      have hkk : keyOf l = if (l.drop 1).length % 2 ≠ 0 then none else if okB (l.drop 1) ((l.drop 1).length / 2) = true then some (prs (l.drop 1) ((l.drop 1).length / 2)) else none := by unfold keyOf; rw [if_pos hp]
      simp only [List.length_cons, List.length_nil, Nat.zero_add] at g1
      generalize hr : l.drop 1 = r at g1 hro e5 hkk
      have hrl : r.length ≤ 140737488355328 := by rw [← hr, List.length_drop]; omega
      by_cases hodd : r.length % 2 = 0
      · rw [if_neg (by omega)] at hkk
        (repeat' (first | (simp (disch := first | assumption | omega | (simp only [Fits, maxLen, bv_len, sv_len, List.length_append, List.length_cons, List.length_nil, List.length_map, sB_size] at *; omega)) only [pgs, pgl, pgx, pgw, pgb, tyf, buildSliceV_w, pgn, Nat.reduceEqDiff, reduceIte, Nat.reduceAdd, Nat.reduceSub, Nat.reduceMul, Nat.reduceBEq, Nat.reduceLeDiff, Int.reduceToNat, Int.reduceLT, Int.reduceLE, Int.reduceEq, Int.reduceNe, Nat.reduceLT, Int.reduceNeg, Int.reduceSub, Int.reduceAdd, Int.reduceMul, eq_self, Option.some.injEq, List.getElem?_nil, Int.reduceBEq, Int.reduceBNe, if_true, if_false, ite_true, ite_false, ↓reduceIte, nils, e5, hodd]) | ((with_reducible show callW _ _ _ _ _ _); first | refine callW_use _ (g1) rfl rfl rfl rfl ?_) | ((first | ((with_reducible show condC _ _ _ _ _ _ _); refine cond_at (fun hc => ?_) (fun hc => ?_)) | ((with_reducible show guardC _ _ _ _ _ _ _ _); refine guard_at (fun hc => ?_) (fun hc => ?_)) | ((with_reducible show drwG _ _ _ _ _ _ _ _ _ _); refine drw_at (fun hc => ?_) (fun hc => ?_))) <;> (try simp only [hc]) <;> (try simp only [decide_eq_true_eq, decide_eq_false_iff_not, beq_iff_eq, beq_eq_false_iff_ne, bne_iff_ne, bne_eq_false_iff_eq, Bool.not_eq_true', Bool.not_eq_false', Int.not_lt, Int.not_le, Nat.not_lt, Nat.not_le, ne_eq, Bool.not_true, Bool.not_false, Bool.not_not, Bool.true_eq_false, Bool.false_eq_true, not_false_eq_true, not_true_eq_false, Decidable.not_not] at hc)) | (with_reducible refine chk_at (by kernel_rfl) ?_)))
        refine loop_A (fun j => mkA [(0, .c (.string (sB l))), (5, .c (.string (sB r))), (7, .sl (.own 0 5) 1 (bv (prs r j))), (8, .c (.int .i64 (2 * (j : Nat))))] [] 1 (fun _ => .top)) (fun j => j ≤ r.length / 2 ∧ okB r j = true) (fun j => r.length / 2 - j) 0 [] [] ?_ ⟨Nat.zero_le _, rfl⟩ ?_
        · (refine keep_mkA ?_ ?_ (top_hd _ _ _) (by decide) (by decide) (by decide) (by decide); (repeat' (first | exact trivial | refine genB_one _ _ rfl rfl ?_ ?_)); all_goals (try simp only [pgs, pgl, pgx, pgw, GenA_cons, GenA_nil, GenL_cons, GenL_nil, gen_top, gen_c, gen_fz, pgn, Nat.reduceEqDiff, reduceIte, Nat.reduceAdd, Nat.reduceSub, Nat.reduceMul, Nat.reduceBEq, Nat.reduceLeDiff, Int.reduceToNat, Int.reduceLT, Int.reduceLE, Int.reduceEq, Int.reduceNe, Nat.reduceLT, Int.reduceNeg, Int.reduceSub, Int.reduceAdd, Int.reduceMul, eq_self, Option.some.injEq, List.getElem?_nil, Int.reduceBEq, Int.reduceBNe, if_true, if_false, ite_true, ite_false, ↓reduceIte]); all_goals (try (repeat' (first | apply And.intro))); all_goals (try (first | exact trivial | exact gen_ii (by omega) | exact gen_cc rfl | exact gen_own rfl rfl | exact gen_ref rfl)))
          all_goals exact gen_nilx rfl
        · rintro j ⟨hj, hok⟩
          have en1 : (2 * (j : Int)).toNat = 2 * j := by omega
          have en2 : (2 * (j : Int) + 1).toNat = 2 * j + 1 := by omega
          rcases Nat.lt_or_ge j (r.length / 2) with hlt | hge
          · have q1 := good36 hexd (r.getD (2 * j) 0) hexd_oct (getD_lt hro _)
            have q2 := good36 hexd (r.getD (2 * j + 1) 0) hexd_oct (getD_lt hro _)
            rw [ixB_hexd _ (getD_lt hro _)] at q1 q2
            have hr1 := nib_rng (r.getD (2 * j) 0)
            have hr2 := nib_rng (r.getD (2 * j + 1) 0)
            have hv : 0 ≤ nib (r.getD (2 * j) 0) → 0 ≤ nib (r.getD (2 * j + 1) 0) → 16 * nib (r.getD (2 * j) 0) + nib (r.getD (2 * j + 1) 0) = ((prB r j : Nat) : Int) := by
              intro h1 h2
              unfold prB
              omega
            have hpl := prs_len r j
            cases hp : okP r j
            · rw [if_neg (by rw [okB_not hlt hp]; simp)] at hkk
              unfold okP at hp
              have hp' : nib (r.getD (2 * j) 0) < 0 ∨ nib (r.getD (2 * j + 1) 0) < 0 := by
                rw [← Bool.not_eq_true, Bool.and_eq_true, decide_eq_true_eq, decide_eq_true_eq] at hp
                omega
              rw [hkk]
              rcases hp' with hp' | hp'
              · (repeat' (first | (simp (disch := first | assumption | omega | (simp only [Fits, maxLen, bv_len, sv_len, List.length_append, List.length_cons, List.length_nil, List.length_map, sB_size] at *; omega)) only [pgs, pgl, pgx, pgw, pgb, tyf, buildSliceV_w, pgn, Nat.reduceEqDiff, reduceIte, Nat.reduceAdd, Nat.reduceSub, Nat.reduceMul, Nat.reduceBEq, Nat.reduceLeDiff, Int.reduceToNat, Int.reduceLT, Int.reduceLE, Int.reduceEq, Int.reduceNe, Nat.reduceLT, Int.reduceNeg, Int.reduceSub, Int.reduceAdd, Int.reduceMul, eq_self, Option.some.injEq, List.getElem?_nil, Int.reduceBEq, Int.reduceBNe, if_true, if_false, ite_true, ite_false, ↓reduceIte, nils, hexs, en1, en2]) | ((with_reducible show callW _ _ _ _ _ _); first | refine callW_use _ (q1) rfl rfl rfl rfl ?_ | refine callW_use _ (q2) rfl rfl rfl rfl ?_) | ((first | ((with_reducible show condC _ _ _ _ _ _ _); refine cond_at (fun hc => ?_) (fun hc => ?_)) | ((with_reducible show guardC _ _ _ _ _ _ _ _); refine guard_at (fun hc => ?_) (fun hc => ?_)) | ((with_reducible show drwG _ _ _ _ _ _ _ _ _ _); refine drw_at (fun hc => ?_) (fun hc => ?_))) <;> (try simp only [hc]) <;> (try simp only [decide_eq_true_eq, decide_eq_false_iff_not, beq_iff_eq, beq_eq_false_iff_ne, bne_iff_ne, bne_eq_false_iff_eq, Bool.not_eq_true', Bool.not_eq_false', Int.not_lt, Int.not_le, Nat.not_lt, Nat.not_le, ne_eq, Bool.not_true, Bool.not_false, Bool.not_not, Bool.true_eq_false, Bool.false_eq_true, not_false_eq_true, not_true_eq_false, Decidable.not_not] at hc)) | (with_reducible refine chk_at (by kernel_rfl) ?_)))
                (refine ret_at [] _ (by first | exact retV_one _ _ _ | exact retV_two _ _ _ _ | exact retV_three _ _ _ _ _ | exact retV_four _ _ _ _ _ _ | (simp (disch := first | assumption | omega | (simp only [Fits, maxLen, bv_len, sv_len, List.length_append, List.length_cons, List.length_nil, List.length_map, sB_size] at *; omega)) only [pgr, pgs, pgl, pgx, pgw, tyf, pgn, Nat.reduceEqDiff, reduceIte, Nat.reduceAdd, Nat.reduceSub, Nat.reduceMul, Nat.reduceBEq, Nat.reduceLeDiff, Int.reduceToNat, Int.reduceLT, Int.reduceLE, Int.reduceEq, Int.reduceNe, Nat.reduceLT, Int.reduceNeg, Int.reduceSub, Int.reduceAdd, Int.reduceMul, eq_self, Option.some.injEq, List.getElem?_nil, Int.reduceBEq, Int.reduceBNe, if_true, if_false, ite_true, ite_false, ↓reduceIte]; rfl)) (by decide) (by simp only [pgs, pgl, pgx, pgw, pgn, Nat.reduceEqDiff, reduceIte, Nat.reduceAdd, Nat.reduceSub, Nat.reduceMul, Nat.reduceBEq, Nat.reduceLeDiff, Int.reduceToNat, Int.reduceLT, Int.reduceLE, Int.reduceEq, Int.reduceNe, Nat.reduceLT, Int.reduceNeg, Int.reduceSub, Int.reduceAdd, Int.reduceMul, eq_self, Option.some.injEq, List.getElem?_nil, Int.reduceBEq, Int.reduceBNe, if_true, if_false, ite_true, ite_false, ↓reduceIte]) ?_; (first | rfl | simp only [pgs, pgl, pgx, pgw, pgn, Nat.reduceEqDiff, reduceIte, Nat.reduceAdd, Nat.reduceSub, Nat.reduceMul, Nat.reduceBEq, Nat.reduceLeDiff, Int.reduceToNat, Int.reduceLT, Int.reduceLE, Int.reduceEq, Int.reduceNe, Nat.reduceLT, Int.reduceNeg, Int.reduceSub, Int.reduceAdd, Int.reduceMul, eq_self, Option.some.injEq, List.getElem?_nil, Int.reduceBEq, Int.reduceBNe, if_true, if_false, ite_true, ite_false, ↓reduceIte]))
              · (repeat' (first | (simp (disch := first | assumption | omega | (simp only [Fits, maxLen, bv_len, sv_len, List.length_append, List.length_cons, List.length_nil, List.length_map, sB_size] at *; omega)) only [pgs, pgl, pgx, pgw, pgb, tyf, buildSliceV_w, pgn, Nat.reduceEqDiff, reduceIte, Nat.reduceAdd, Nat.reduceSub, Nat.reduceMul, Nat.reduceBEq, Nat.reduceLeDiff, Int.reduceToNat, Int.reduceLT, Int.reduceLE, Int.reduceEq, Int.reduceNe, Nat.reduceLT, Int.reduceNeg, Int.reduceSub, Int.reduceAdd, Int.reduceMul, eq_self, Option.some.injEq, List.getElem?_nil, Int.reduceBEq, Int.reduceBNe, if_true, if_false, ite_true, ite_false, ↓reduceIte, nils, hexs, en1, en2]) | ((with_reducible show callW _ _ _ _ _ _); first | refine callW_use _ (q1) rfl rfl rfl rfl ?_ | refine callW_use _ (q2) rfl rfl rfl rfl ?_) | ((first | ((with_reducible show condC _ _ _ _ _ _ _); refine cond_at (fun hc => ?_) (fun hc => ?_)) | ((with_reducible show guardC _ _ _ _ _ _ _ _); refine guard_at (fun hc => ?_) (fun hc => ?_)) | ((with_reducible show drwG _ _ _ _ _ _ _ _ _ _); refine drw_at (fun hc => ?_) (fun hc => ?_))) <;> (try simp only [hc]) <;> (try simp only [decide_eq_true_eq, decide_eq_false_iff_not, beq_iff_eq, beq_eq_false_iff_ne, bne_iff_ne, bne_eq_false_iff_eq, Bool.not_eq_true', Bool.not_eq_false', Int.not_lt, Int.not_le, Nat.not_lt, Nat.not_le, ne_eq, Bool.not_true, Bool.not_false, Bool.not_not, Bool.true_eq_false, Bool.false_eq_true, not_false_eq_true, not_true_eq_false, Decidable.not_not] at hc)) | (with_reducible refine chk_at (by kernel_rfl) ?_)))
                all_goals (refine ret_at [] _ (by first | exact retV_one _ _ _ | exact retV_two _ _ _ _ | exact retV_three _ _ _ _ _ | exact retV_four _ _ _ _ _ _ | (simp (disch := first | assumption | omega | (simp only [Fits, maxLen, bv_len, sv_len, List.length_append, List.length_cons, List.length_nil, List.length_map, sB_size] at *; omega)) only [pgr, pgs, pgl, pgx, pgw, tyf, pgn, Nat.reduceEqDiff, reduceIte, Nat.reduceAdd, Nat.reduceSub, Nat.reduceMul, Nat.reduceBEq, Nat.reduceLeDiff, Int.reduceToNat, Int.reduceLT, Int.reduceLE, Int.reduceEq, Int.reduceNe, Nat.reduceLT, Int.reduceNeg, Int.reduceSub, Int.reduceAdd, Int.reduceMul, eq_self, Option.some.injEq, List.getElem?_nil, Int.reduceBEq, Int.reduceBNe, if_true, if_false, ite_true, ite_false, ↓reduceIte]; rfl)) (by decide) (by simp only [pgs, pgl, pgx, pgw, pgn, Nat.reduceEqDiff, reduceIte, Nat.reduceAdd, Nat.reduceSub, Nat.reduceMul, Nat.reduceBEq, Nat.reduceLeDiff, Int.reduceToNat, Int.reduceLT, Int.reduceLE, Int.reduceEq, Int.reduceNe, Nat.reduceLT, Int.reduceNeg, Int.reduceSub, Int.reduceAdd, Int.reduceMul, eq_self, Option.some.injEq, List.getElem?_nil, Int.reduceBEq, Int.reduceBNe, if_true, if_false, ite_true, ite_false, ↓reduceIte]) ?_; (first | rfl | simp only [pgs, pgl, pgx, pgw, pgn, Nat.reduceEqDiff, reduceIte, Nat.reduceAdd, Nat.reduceSub, Nat.reduceMul, Nat.reduceBEq, Nat.reduceLeDiff, Int.reduceToNat, Int.reduceLT, Int.reduceLE, Int.reduceEq, Int.reduceNe, Nat.reduceLT, Int.reduceNeg, Int.reduceSub, Int.reduceAdd, Int.reduceMul, eq_self, Option.some.injEq, List.getElem?_nil, Int.reduceBEq, Int.reduceBNe, if_true, if_false, ite_true, ite_false, ↓reduceIte]))
            · have hp0 := hp
              unfold okP at hp
              rw [Bool.and_eq_true, decide_eq_true_eq, decide_eq_true_eq] at hp
              have hv := hv hp.1 hp.2
              (repeat' (first | (simp (disch := first | assumption | omega | (simp only [Fits, maxLen, bv_len, sv_len, List.length_append, List.length_cons, List.length_nil, List.length_map, sB_size] at *; omega)) only [pgs, pgl, pgx, pgw, pgb, tyf, buildSliceV_w, pgn, Nat.reduceEqDiff, reduceIte, Nat.reduceAdd, Nat.reduceSub, Nat.reduceMul, Nat.reduceBEq, Nat.reduceLeDiff, Int.reduceToNat, Int.reduceLT, Int.reduceLE, Int.reduceEq, Int.reduceNe, Nat.reduceLT, Int.reduceNeg, Int.reduceSub, Int.reduceAdd, Int.reduceMul, eq_self, Option.some.injEq, List.getElem?_nil, Int.reduceBEq, Int.reduceBNe, if_true, if_false, ite_true, ite_false, ↓reduceIte, nils, hexs, en1, en2, hv]) | ((with_reducible show callW _ _ _ _ _ _); first | refine callW_use _ (q1) rfl rfl rfl rfl ?_ | refine callW_use _ (q2) rfl rfl rfl rfl ?_) | ((first | ((with_reducible show condC _ _ _ _ _ _ _); refine cond_at (fun hc => ?_) (fun hc => ?_)) | ((with_reducible show guardC _ _ _ _ _ _ _ _); refine guard_at (fun hc => ?_) (fun hc => ?_)) | ((with_reducible show drwG _ _ _ _ _ _ _ _ _ _); refine drw_at (fun hc => ?_) (fun hc => ?_))) <;> (try simp only [hc]) <;> (try simp only [decide_eq_true_eq, decide_eq_false_iff_not, beq_iff_eq, beq_eq_false_iff_ne, bne_iff_ne, bne_eq_false_iff_eq, Bool.not_eq_true', Bool.not_eq_false', Int.not_lt, Int.not_le, Nat.not_lt, Nat.not_le, ne_eq, Bool.not_true, Bool.not_false, Bool.not_not, Bool.true_eq_false, Bool.false_eq_true, not_false_eq_true, not_true_eq_false, Decidable.not_not] at hc)) | (with_reducible refine chk_at (by kernel_rfl) ?_)))
              (refine back_at (j + 1) [0] [] (⟨hlt, by rw [okB_next, hok, hp0]; rfl⟩) (by first | omega | (simp only [List.length_cons]; omega)) ?_; (refine keep_mkA ?_ ?_ (top_hd _ _ _) (by decide) (by decide) (by decide) (by decide); (repeat' (first | exact trivial | refine genB_one _ _ rfl rfl ?_ ?_)); all_goals (try simp only [pgs, pgl, pgx, pgw, GenA_cons, GenA_nil, GenL_cons, GenL_nil, gen_top, gen_c, gen_fz, pgn, Nat.reduceEqDiff, reduceIte, Nat.reduceAdd, Nat.reduceSub, Nat.reduceMul, Nat.reduceBEq, Nat.reduceLeDiff, Int.reduceToNat, Int.reduceLT, Int.reduceLE, Int.reduceEq, Int.reduceNe, Nat.reduceLT, Int.reduceNeg, Int.reduceSub, Int.reduceAdd, Int.reduceMul, eq_self, Option.some.injEq, List.getElem?_nil, Int.reduceBEq, Int.reduceBNe, if_true, if_false, ite_true, ite_false, ↓reduceIte]); all_goals (try (repeat' (first | apply And.intro))); all_goals (try (first | exact trivial | exact gen_ii (by omega) | exact gen_cc rfl | exact gen_own rfl rfl | exact gen_ref rfl))))
              exact gen_own rfl (by rw [prs_next, ← bv_app]; rfl)
          · have hjn : j = r.length / 2 := by omega
            rw [← hjn, if_pos hok] at hkk
            (repeat' (first | (simp (disch := first | assumption | omega | (simp only [Fits, maxLen, bv_len, sv_len, List.length_append, List.length_cons, List.length_nil, List.length_map, sB_size] at *; omega)) only [pgs, pgl, pgx, pgw, pgb, tyf, buildSliceV_w, pgn, Nat.reduceEqDiff, reduceIte, Nat.reduceAdd, Nat.reduceSub, Nat.reduceMul, Nat.reduceBEq, Nat.reduceLeDiff, Int.reduceToNat, Int.reduceLT, Int.reduceLE, Int.reduceEq, Int.reduceNe, Nat.reduceLT, Int.reduceNeg, Int.reduceSub, Int.reduceAdd, Int.reduceMul, eq_self, Option.some.injEq, List.getElem?_nil, Int.reduceBEq, Int.reduceBNe, if_true, if_false, ite_true, ite_false, ↓reduceIte, nils, convK_42]) | ((first | ((with_reducible show condC _ _ _ _ _ _ _); refine cond_at (fun hc => ?_) (fun hc => ?_)) | ((with_reducible show guardC _ _ _ _ _ _ _ _); refine guard_at (fun hc => ?_) (fun hc => ?_)) | ((with_reducible show drwG _ _ _ _ _ _ _ _ _ _); refine drw_at (fun hc => ?_) (fun hc => ?_))) <;> (try simp only [hc]) <;> (try simp only [decide_eq_true_eq, decide_eq_false_iff_not, beq_iff_eq, beq_eq_false_iff_ne, bne_iff_ne, bne_eq_false_iff_eq, Bool.not_eq_true', Bool.not_eq_false', Int.not_lt, Int.not_le, Nat.not_lt, Nat.not_le, ne_eq, Bool.not_true, Bool.not_false, Bool.not_not, Bool.true_eq_false, Bool.false_eq_true, not_false_eq_true, not_true_eq_false, Decidable.not_not] at hc)) | (with_reducible refine chk_at (by kernel_rfl) ?_)))
            refine meet_at (prs r j) [] [] hkk ?_
            (refine keep_mkA ?_ ?_ (top_hd _ _ _) (by decide) (by decide) (by decide) (by decide); (repeat' (first | exact trivial | refine genB_one _ _ rfl rfl ?_ ?_)); all_goals (try simp only [pgs, pgl, pgx, pgw, GenA_cons, GenA_nil, GenL_cons, GenL_nil, gen_top, gen_c, gen_fz, pgn, Nat.reduceEqDiff, reduceIte, Nat.reduceAdd, Nat.reduceSub, Nat.reduceMul, Nat.reduceBEq, Nat.reduceLeDiff, Int.reduceToNat, Int.reduceLT, Int.reduceLE, Int.reduceEq, Int.reduceNe, Nat.reduceLT, Int.reduceNeg, Int.reduceSub, Int.reduceAdd, Int.reduceMul, eq_self, Option.some.injEq, List.getElem?_nil, Int.reduceBEq, Int.reduceBNe, if_true, if_false, ite_true, ite_false, ↓reduceIte]); all_goals (try (repeat' (first | apply And.intro))); all_goals (try (first | exact trivial | exact gen_ii (by omega) | exact gen_cc rfl | exact gen_own rfl rfl | exact gen_ref rfl)))
      · rw [if_pos hodd] at hkk
        rw [hkk]
        (repeat' (first | (simp (disch := first | assumption | omega | (simp only [Fits, maxLen, bv_len, sv_len, List.length_append, List.length_cons, List.length_nil, List.length_map, sB_size] at *; omega)) only [pgs, pgl, pgx, pgw, pgb, tyf, buildSliceV_w, pgn, Nat.reduceEqDiff, reduceIte, Nat.reduceAdd, Nat.reduceSub, Nat.reduceMul, Nat.reduceBEq, Nat.reduceLeDiff, Int.reduceToNat, Int.reduceLT, Int.reduceLE, Int.reduceEq, Int.reduceNe, Nat.reduceLT, Int.reduceNeg, Int.reduceSub, Int.reduceAdd, Int.reduceMul, eq_self, Option.some.injEq, List.getElem?_nil, Int.reduceBEq, Int.reduceBNe, if_true, if_false, ite_true, ite_false, ↓reduceIte, nils, e5]) | ((with_reducible show callW _ _ _ _ _ _); first | refine callW_use _ (g1) rfl rfl rfl rfl ?_) | ((first | ((with_reducible show condC _ _ _ _ _ _ _); refine cond_at (fun hc => ?_) (fun hc => ?_)) | ((with_reducible show guardC _ _ _ _ _ _ _ _); refine guard_at (fun hc => ?_) (fun hc => ?_)) | ((with_reducible show drwG _ _ _ _ _ _ _ _ _ _); refine drw_at (fun hc => ?_) (fun hc => ?_))) <;> (try simp only [hc]) <;> (try simp only [decide_eq_true_eq, decide_eq_false_iff_not, beq_iff_eq, beq_eq_false_iff_ne, bne_iff_ne, bne_eq_false_iff_eq, Bool.not_eq_true', Bool.not_eq_false', Int.not_lt, Int.not_le, Nat.not_lt, Nat.not_le, ne_eq, Bool.not_true, Bool.not_false, Bool.not_not, Bool.true_eq_false, Bool.false_eq_true, not_false_eq_true, not_true_eq_false, Decidable.not_not] at hc)) | (with_reducible refine chk_at (by kernel_rfl) ?_)))
        (refine ret_at [] _ (by first | exact retV_one _ _ _ | exact retV_two _ _ _ _ | exact retV_three _ _ _ _ _ | exact retV_four _ _ _ _ _ _ | (simp (disch := first | assumption | omega | (simp only [Fits, maxLen, bv_len, sv_len, List.length_append, List.length_cons, List.length_nil, List.length_map, sB_size] at *; omega)) only [pgr, pgs, pgl, pgx, pgw, tyf, pgn, Nat.reduceEqDiff, reduceIte, Nat.reduceAdd, Nat.reduceSub, Nat.reduceMul, Nat.reduceBEq, Nat.reduceLeDiff, Int.reduceToNat, Int.reduceLT, Int.reduceLE, Int.reduceEq, Int.reduceNe, Nat.reduceLT, Int.reduceNeg, Int.reduceSub, Int.reduceAdd, Int.reduceMul, eq_self, Option.some.injEq, List.getElem?_nil, Int.reduceBEq, Int.reduceBNe, if_true, if_false, ite_true, ite_false, ↓reduceIte]; rfl)) (by decide) (by simp only [pgs, pgl, pgx, pgw, pgn, Nat.reduceEqDiff, reduceIte, Nat.reduceAdd, Nat.reduceSub, Nat.reduceMul, Nat.reduceBEq, Nat.reduceLeDiff, Int.reduceToNat, Int.reduceLT, Int.reduceLE, Int.reduceEq, Int.reduceNe, Nat.reduceLT, Int.reduceNeg, Int.reduceSub, Int.reduceAdd, Int.reduceMul, eq_self, Option.some.injEq, List.getElem?_nil, Int.reduceBEq, Int.reduceBNe, if_true, if_false, ite_true, ite_false, ↓reduceIte]) ?_; (first | rfl | simp only [pgs, pgl, pgx, pgw, pgn, Nat.reduceEqDiff, reduceIte, Nat.reduceAdd, Nat.reduceSub, Nat.reduceMul, Nat.reduceBEq, Nat.reduceLeDiff, Int.reduceToNat, Int.reduceLT, Int.reduceLE, Int.reduceEq, Int.reduceNe, Nat.reduceLT, Int.reduceNeg, Int.reduceSub, Int.reduceAdd, Int.reduceMul, eq_self, Option.some.injEq, List.getElem?_nil, Int.reduceBEq, Int.reduceBNe, if_true, if_false, ite_true, ite_false, ↓reduceIte]))
    · rw [h2] at g1
      have hkk : keyOf l = some l := by unfold keyOf; rw [if_neg (by rw [hp]; simp)]
      (repeat' (first | (simp (disch := first | assumption | omega | (simp only [Fits, maxLen, bv_len, sv_len, List.length_append, List.length_cons, List.length_nil, List.length_map, sB_size] at *; omega)) only [pgs, pgl, pgx, pgw, pgb, tyf, buildSliceV_w, pgn, Nat.reduceEqDiff, reduceIte, Nat.reduceAdd, Nat.reduceSub, Nat.reduceMul, Nat.reduceBEq, Nat.reduceLeDiff, Int.reduceToNat, Int.reduceLT, Int.reduceLE, Int.reduceEq, Int.reduceNe, Nat.reduceLT, Int.reduceNeg, Int.reduceSub, Int.reduceAdd, Int.reduceMul, eq_self, Option.some.injEq, List.getElem?_nil, Int.reduceBEq, Int.reduceBNe, if_true, if_false, ite_true, ite_false, ↓reduceIte, nils]) | ((with_reducible show callW _ _ _ _ _ _); first | refine callW_use _ (g1) rfl rfl rfl rfl ?_) | ((first | ((with_reducible show condC _ _ _ _ _ _ _); refine cond_at (fun hc => ?_) (fun hc => ?_)) | ((with_reducible show guardC _ _ _ _ _ _ _ _); refine guard_at (fun hc => ?_) (fun hc => ?_)) | ((with_reducible show drwG _ _ _ _ _ _ _ _ _ _); refine drw_at (fun hc => ?_) (fun hc => ?_))) <;> (try simp only [hc]) <;> (try simp only [decide_eq_true_eq, decide_eq_false_iff_not, beq_iff_eq, beq_eq_false_iff_ne, bne_iff_ne, bne_eq_false_iff_eq, Bool.not_eq_true', Bool.not_eq_false', Int.not_lt, Int.not_le, Nat.not_lt, Nat.not_le, ne_eq, Bool.not_true, Bool.not_false, Bool.not_not, Bool.true_eq_false, Bool.false_eq_true, not_false_eq_true, not_true_eq_false, Decidable.not_not] at hc)) | (with_reducible refine chk_at (by kernel_rfl) ?_)))
      refine meet_at l [] [] hkk ?_
      (refine keep_mkA ?_ ?_ (top_hd _ _ _) (by decide) (by decide) (by decide) (by decide); (repeat' (first | exact trivial | refine genB_one _ _ rfl rfl ?_ ?_)); all_goals (try simp only [pgs, pgl, pgx, pgw, GenA_cons, GenA_nil, GenL_cons, GenL_nil, gen_top, gen_c, gen_fz, pgn, Nat.reduceEqDiff, reduceIte, Nat.reduceAdd, Nat.reduceSub, Nat.reduceMul, Nat.reduceBEq, Nat.reduceLeDiff, Int.reduceToNat, Int.reduceLT, Int.reduceLE, Int.reduceEq, Int.reduceNe, Nat.reduceLT, Int.reduceNeg, Int.reduceSub, Int.reduceAdd, Int.reduceMul, eq_self, Option.some.injEq, List.getElem?_nil, Int.reduceBEq, Int.reduceBNe, if_true, if_false, ite_true, ite_false, ↓reduceIte]); all_goals (try (repeat' (first | apply And.intro))); all_goals (try (first | exact trivial | exact gen_ii (by omega) | exact gen_cc rfl | exact gen_own rfl rfl | exact gen_ref rfl)))
end Go.Proofs.YtjiolbcdfgclaaaGreatDoor
end
