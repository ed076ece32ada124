/-
  Pack, Unpack, the reference's, and the two helpers of the law, of any octets in their bounds.
-/
import Derived.Test.YtkgebocldjhflaaPgT9
namespace Go.Proofs.Ytkgebocldjhflaa
open Go Go.Pg
set_option maxRecDepth 10000
set_option linter.unusedSimpArgs false

theorem unV_cases (l : List Nat) (ho : oct l) (_ : l.length ≤ 2147483648) : (∃ e, 1 ≤ e ∧ unV l = bad e) ∨
    (∃ t body used, t < 256 ∧ oct body ∧ body.length ≤ 1048576 ∧ used ≤ l.length ∧ unV l = .tup [.c (.int .u8 (t : Nat)), .sl (.own 0 5) 1 (bv body), .c (.int .i64 (used : Nat)), .c (.int .i64 0)]) := by
  unfold unV
  split
  · exact .inl ⟨3, by omega, rfl⟩
  split
  · exact .inl ⟨_, by omega, rfl⟩
  split
  · exact .inl ⟨2, by omega, rfl⟩
  split
  · exact .inl ⟨3, by omega, rfl⟩
  split
  · exact .inl ⟨4, by omega, rfl⟩
  · refine .inr ⟨_, _, _, getD_lt ho 0, drop_oct (take_oct ho _) _, ?_, ?_, rfl⟩
    · rw [List.length_drop, List.length_take]; omega
    · omega

/-- What Unpack makes of it. -/
def upOf (n : Nat) : V → V
  | .tup [.c (.int _ t), .sl _ _ xs, .c (.int _ used), _] => if (t != 88) = true ∨ (used != n) = true then .tup [.c (.slice none 0 0), .c (.int .i64 2)] else .tup [.sl (.own 0 5) 1 xs, .c (.int .i64 0)]
  | .tup [_, _, _, e] => .tup [.c (.slice none 0 0), e]
  | _ => .top
def upV (l : List Nat) : V := upOf l.length (unV l)

theorem bad_noRef (e : Nat) : (bad e).noRef = true := rfl
theorem unV_noRef (l : List Nat) (ho : oct l) (hl : l.length ≤ 2147483648) : (unV l).noRef = true := by
  rcases unV_cases l ho hl with ⟨e, _, h⟩ | ⟨t, body, used, _, _, _, _, h⟩ <;> rw [h] <;> rfl
theorem bne_cases (a b : Int) (c d : Int) : ((a != b) = true ∧ True ∧ ((a != b) = true ∨ (c != d) = true)) ∨ ((a != b) = false ∧ (c != d) = true ∧ ((a != b) = true ∨ (c != d) = true)) ∨ ((a != b) = false ∧ (c != d) = false ∧ ¬ ((a != b) = true ∨ (c != d) = true)) := by
  cases (a != b) <;> cases (c != d) <;> simp

theorem good8 (l : List Nat) (ho : oct l) (hl : l.length ≤ 2147483648) : Pg.Good Try.prog 8 [.sl .fz 1 (bv l)] (upV l) := by
  refine good_intro (drawW_ok mix) Try.func8 rfl Try.results8 rfl (by kernel_rfl) (Nat.le_of_ble_eq_true (by kernel_rfl)) ?_
  have hG := good12 l ho hl
  have hR := unV_noRef l ho hl
  have hU := unV_cases l ho hl
  unfold upV
  generalize unV l = v at hG hR hU
  simp only [Try.f8, pgs, pgl, pgx, Nat.reduceEqDiff, reduceIte]
  refine callW_use _ hG rfl rfl hR rfl ?_
  rcases hU with ⟨e, he, rfl⟩ | ⟨t, body, used, ht, hbo, hbl, hul, rfl⟩
  · have e1 := ne0T (n := e) (by omega)
    simp only [pgs, pgl, pgx, Nat.reduceEqDiff, reduceIte, bad, e1, upOf]
    refine ret_at [] _ (retV_two _ _ _ _) .nil ?_ ?_
    · simp only [pgs, pgl, pgx, Nat.reduceEqDiff, reduceIte]
    · simp only [pgs, pgl, pgx, Nat.reduceEqDiff, reduceIte] <;> rfl
  · have e1 : ((0 : Int) != 0) = false := rfl
    simp only [pgs, pgl, pgx, Nat.reduceEqDiff, reduceIte, e1, upOf, Nat.reduceAdd]
    rcases bne_cases (t : Int) 88 (used : Int) (l.length : Int) with ⟨f1, f2, f3⟩ | ⟨f1, f2, f3⟩ | ⟨f1, f2, f3⟩
    · rw [if_pos f3]
      simp only [pgs, pgl, pgx, Nat.reduceEqDiff, reduceIte, el22, bv_len, f1, f2]
      refine ret_at [] _ (retV_two _ _ _ _) .nil ?_ ?_
      · simp only [pgs, pgl, pgx, Nat.reduceEqDiff, reduceIte]
      · simp only [pgs, pgl, pgx, Nat.reduceEqDiff, reduceIte] <;> rfl
    · rw [if_pos f3]
      simp only [pgs, pgl, pgx, Nat.reduceEqDiff, reduceIte, el22, bv_len, f1, f2]
      refine ret_at [] _ (retV_two _ _ _ _) .nil ?_ ?_
      · simp only [pgs, pgl, pgx, Nat.reduceEqDiff, reduceIte]
      · simp only [pgs, pgl, pgx, Nat.reduceEqDiff, reduceIte] <;> rfl
    · rw [if_neg f3]
      simp only [pgs, pgl, pgx, Nat.reduceEqDiff, reduceIte, el22, bv_len, f1, f2]
      refine ret_at [0] _ (retV_two _ _ _ _) (by decide) ?_ ?_
      · simp only [pgs, pgl, pgx, Nat.reduceEqDiff, reduceIte, Nat.reduceBEq] <;> rfl
      · simp only [pgs, pgl, pgx, Nat.reduceEqDiff, reduceIte, Nat.reduceBEq] <;> rfl

theorem good11 (l : List Nat) (ho : oct l) (hl : l.length ≤ 2147483648) : Pg.Good Try.prog 11 [.sl .fz 1 (bv l)] (upV l) := by
  refine good_intro (drawW_ok mix) Try.func11 rfl Try.results11 rfl (by kernel_rfl) (Nat.le_of_ble_eq_true (by kernel_rfl)) ?_
  have hG := good17 l ho hl
  have hR := unV_noRef l ho hl
  have hU := unV_cases l ho hl
  unfold upV
  generalize unV l = v at hG hR hU
  simp only [Try.f11, pgs, pgl, pgx, Nat.reduceEqDiff, reduceIte]
  refine callW_use _ hG rfl rfl hR rfl ?_
  rcases hU with ⟨e, he, rfl⟩ | ⟨t, body, used, ht, hbo, hbl, hul, rfl⟩
  · have e1 := ne0T (n := e) (by omega)
    simp only [pgs, pgl, pgx, Nat.reduceEqDiff, reduceIte, bad, e1, upOf]
    refine ret_at [] _ (retV_two _ _ _ _) .nil ?_ ?_
    · simp only [pgs, pgl, pgx, Nat.reduceEqDiff, reduceIte]
    · simp only [pgs, pgl, pgx, Nat.reduceEqDiff, reduceIte] <;> rfl
  · have e1 : ((0 : Int) != 0) = false := rfl
    simp only [pgs, pgl, pgx, Nat.reduceEqDiff, reduceIte, e1, upOf, Nat.reduceAdd]
    rcases bne_cases (t : Int) 88 (used : Int) (l.length : Int) with ⟨f1, f2, f3⟩ | ⟨f1, f2, f3⟩ | ⟨f1, f2, f3⟩
    · rw [if_pos f3]
      simp only [pgs, pgl, pgx, Nat.reduceEqDiff, reduceIte, el22, bv_len, f1, f2]
      refine ret_at [] _ (retV_two _ _ _ _) .nil ?_ ?_
      · simp only [pgs, pgl, pgx, Nat.reduceEqDiff, reduceIte]
      · simp only [pgs, pgl, pgx, Nat.reduceEqDiff, reduceIte] <;> rfl
    · rw [if_pos f3]
      simp only [pgs, pgl, pgx, Nat.reduceEqDiff, reduceIte, el22, bv_len, f1, f2]
      refine ret_at [] _ (retV_two _ _ _ _) .nil ?_ ?_
      · simp only [pgs, pgl, pgx, Nat.reduceEqDiff, reduceIte]
      · simp only [pgs, pgl, pgx, Nat.reduceEqDiff, reduceIte] <;> rfl
    · rw [if_neg f3]
      simp only [pgs, pgl, pgx, Nat.reduceEqDiff, reduceIte, el22, bv_len, f1, f2]
      refine ret_at [0] _ (retV_two _ _ _ _) (by decide) ?_ ?_
      · simp only [pgs, pgl, pgx, Nat.reduceEqDiff, reduceIte, Nat.reduceBEq] <;> rfl
      · simp only [pgs, pgl, pgx, Nat.reduceEqDiff, reduceIte, Nat.reduceBEq] <;> rfl

theorem good5 (l : List Nat) (ho : oct l) (hl : l.length ≤ 1048576) : Pg.Good Try.prog 5 [.sl .fz 1 (bv l)] (.tup [.sl (.own 0 5) 1 (bv (fr 88 l)), .c (.int .i64 0)]) := by
  refine good_intro (drawW_ok mix) Try.func5 rfl Try.results5 rfl (by kernel_rfl) (Nat.le_of_ble_eq_true (by kernel_rfl)) ?_
  have hG := good9 88 l (by omega) ho (by omega)
  unfold frV at hG
  rw [if_pos hl] at hG
  simp only [Try.f5, pgs, pgl, pgx, Nat.reduceEqDiff, reduceIte]
  refine callW_use _ hG rfl rfl rfl rfl ?_
  simp only [pgs, pgl, pgx, Nat.reduceEqDiff, reduceIte, Nat.reduceAdd]
  refine ret_at [0] _ (retV_two _ _ _ _) (by decide) ?_ ?_
  · simp only [pgs, pgl, pgx, Nat.reduceEqDiff, reduceIte, Nat.reduceBEq] <;> rfl
  · simp only [pgs, pgl, pgx, Nat.reduceEqDiff, reduceIte, Nat.reduceBEq] <;> rfl
theorem good6 (l : List Nat) (ho : oct l) (hl : l.length ≤ 1048576) : Pg.Good Try.prog 6 [.sl .fz 1 (bv l)] (.tup [.sl (.own 0 5) 1 (bv (fr 88 l)), .c (.int .i64 0)]) := by
  refine good_intro (drawW_ok mix) Try.func6 rfl Try.results6 rfl (by kernel_rfl) (Nat.le_of_ble_eq_true (by kernel_rfl)) ?_
  have hG := good10 88 l (by omega) ho (by omega)
  unfold frV at hG
  rw [if_pos hl] at hG
  simp only [Try.f6, pgs, pgl, pgx, Nat.reduceEqDiff, reduceIte]
  refine callW_use _ hG rfl rfl rfl rfl ?_
  simp only [pgs, pgl, pgx, Nat.reduceEqDiff, reduceIte, Nat.reduceAdd]
  refine ret_at [0] _ (retV_two _ _ _ _) (by decide) ?_ ?_
  · simp only [pgs, pgl, pgx, Nat.reduceEqDiff, reduceIte, Nat.reduceBEq] <;> rfl
  · simp only [pgs, pgl, pgx, Nat.reduceEqDiff, reduceIte, Nat.reduceBEq] <;> rfl
theorem upV_cases (l : List Nat) (ho : oct l) (hl : l.length ≤ 2147483648) : (∃ e : Nat, upV l = .tup [.c (.slice none 0 0), .c (.int .i64 (e : Nat))]) ∨
    ∃ body, oct body ∧ upV l = .tup [.sl (.own 0 5) 1 (bv body), .c (.int .i64 0)] := by
  unfold upV
  rcases unV_cases l ho hl with ⟨e, _, h⟩ | ⟨t, body, used, _, hb, _, _, h⟩
  · rw [h]; exact .inl ⟨e, rfl⟩
  · rw [h]
    simp only [upOf]
    split
    · exact .inl ⟨2, rfl⟩
    · exact .inr ⟨body, hb, rfl⟩

theorem is9 : isStr Try.prog 9 = true := by kernel_rfl
theorem is22 : isStr Try.prog 22 = false := by kernel_rfl
theorem it9 : intT Try.prog 9 = none := by kernel_rfl
theorem it22 : intT Try.prog 22 = none := by kernel_rfl
theorem u8s_bv (l : List Nat) : u8s (bv l) = some (l.map fun (b : Nat) => (b : Int)) := by
  induction l with
  | nil => rfl
  | cons a l ih => simp only [bv, List.map_cons] at ih ⊢; simp only [u8s, ih]; rfl
def sB (l : List Nat) : ByteArray := strOfNums (l.map fun (b : Nat) => (b : Int))
theorem convV_sl (tg : Tag) (l : List Nat) : convV Try.prog 22 9 (.sl tg 1 (bv l)) = some (.c (.string (sB l))) := by
  simp [convV, it9, el22, it5, is9, u8s_bv, sB]
theorem convV_nil (n c : Nat) : convV Try.prog 22 9 (.c (.slice none n c)) = some (.c (.string .empty)) := by
  simp [convV, it9, el22, it5, is9]
theorem convK_sl (s : St) (d : Option Nat) (tg : Tag) (l : List Nat) (K : Kd → St → Prop) : convK Try.prog s d 22 9 (.sl tg 1 (bv l)) K = K (kq [.sl tg 1 (bv l)] (.c (.string (sB l)))) (s.put d (.c (.string (sB l)))) := by
  rw [convK_at, convV_sl]
  have h1 : (strBytes Try.prog 22 9 (.sl tg 1 (bv l))).map (fun r => (r, s)) = none := rfl
  have h2 : sameSl Try.prog s 22 9 (.sl tg 1 (bv l)) = none := by cases tg <;> simp [sameSl]
  rw [h1, h2]
  simp only [optQ_some, optK_none, or_false]
theorem convK_nil (s : St) (d : Option Nat) (n c : Nat) (K : Kd → St → Prop) : convK Try.prog s d 22 9 (.c (.slice none n c)) K = K (kq [.c (.slice none n c)] (.c (.string .empty))) (s.put d (.c (.string .empty))) := by
  rw [convK_at, convV_nil]
  have h1 : (strBytes Try.prog 22 9 (.c (.slice none n c))).map (fun r => (r, s)) = none := rfl
  have h2 : sameSl Try.prog s 22 9 (.c (.slice none n c)) = none := rfl
  rw [h1, h2]
  simp only [optQ_some, optK_none, or_false]
theorem convK_same (s : St) (d : Option Nat) (id : Nat) (l : List Nat) (hl : 0 < l.length) (K : Kd → St → Prop) : convK Try.prog s d 22 22 (.sl (.own id 5) 1 (bv l)) K = K .z ((s.mapV (frz id)).put d (.sl .fz 1 (bv l))) := by
  rw [convK_at]
  have h0 : convV Try.prog 22 22 (.sl (.own id 5) 1 (bv l)) = none := by simp [convV, it22, el22, it5, is22]
  have h1 : (strBytes Try.prog 22 22 (.sl (.own id 5) 1 (bv l))).map (fun r => (r, s)) = none := rfl
  have h2 : sameSl Try.prog s 22 22 (.sl (.own id 5) 1 (bv l)) = some (.sl .fz 1 (bv l), s.mapV (frz id)) := by simp [sameSl, el22, it5, bv_len, hl]
  rw [h0, h1, h2]
  simp only [optQ_none, optK_none, optK_some, false_or]

theorem good7 (l : List Nat) (ho : oct l) (hl : l.length ≤ 2147483648) : Pg.Good Try.prog 7 [.sl .fz 1 (bv l)] (.c (.bool true)) := by
  refine good_intro (drawW_ok mix) Try.func7 rfl Try.results7 rfl (by kernel_rfl) (Nat.le_of_ble_eq_true (by kernel_rfl)) ?_
  have hG := good8 l ho hl
  have hH := good11 l ho hl
  simp only [Try.f7, pgs, pgl, pgx, Nat.reduceEqDiff, reduceIte]
  rcases upV_cases l ho hl with ⟨e, h⟩ | ⟨body, hb, h⟩
  · rw [h] at hG hH
    refine callW_use _ hG rfl rfl rfl rfl ?_
    simp only [pgs, pgl, pgx, Nat.reduceEqDiff, reduceIte]
    refine callW_use _ hH rfl rfl rfl rfl ?_
    simp only [pgs, pgl, pgx, Nat.reduceEqDiff, reduceIte, beq_self_eq_true, convK_nil, decide_true]
    refine ret_at [] _ (retV_one _ _ _) .nil ?_ ?_
    · simp only [pgs, pgl, pgx, Nat.reduceEqDiff, reduceIte]
    · simp only [pgs, pgl, pgx, Nat.reduceEqDiff, reduceIte]
  · rw [h] at hG hH
    refine callW_use _ hG rfl rfl rfl rfl ?_
    simp only [pgs, pgl, pgx, Nat.reduceEqDiff, reduceIte, Nat.reduceAdd]
    refine callW_use _ hH rfl rfl rfl rfl ?_
    simp only [pgs, pgl, pgx, Nat.reduceEqDiff, reduceIte, Nat.reduceAdd, beq_self_eq_true, convK_sl, decide_true]
    refine ret_at [] _ (retV_one _ _ _) .nil ?_ ?_
    · simp only [pgs, pgl, pgx, Nat.reduceEqDiff, reduceIte]
    · simp only [pgs, pgl, pgx, Nat.reduceEqDiff, reduceIte]

theorem bs3 (s : St) (a b c : Nat) : buildSliceV Try.prog s 22 3 [(0, .c (.int .u8 (a : Int))), (1, .c (.int .u8 (b : Int))), (2, .c (.int .u8 (c : Int)))] = some (.sl (.own s.nid 5) 1 (bv [a, b, c]), { s with nid := s.nid + 1 }) := by
  simp [buildSliceV, el22, ta5, ze5, setAll, cs_c_int, free_c, one_c_int, bv]
theorem up_abc : upV (fr 88 [97, 98, 99]) = .tup [.sl (.own 0 5) 1 (bv [97, 98, 99]), .c (.int .i64 0)] := by kernel_rfl
theorem up_abc0 : upV (fr 88 [97, 98, 99] ++ [0]) = .tup [.c (.slice none 0 0), .c (.int .i64 2)] := by kernel_rfl
theorem s_abc : sB [97, 98, 99] = ⟨#[97, 98, 99]⟩ := by kernel_rfl
theorem oct_abc : oct [97, 98, 99] := by intro b hb; simp at hb; omega
theorem fr_oct {t : Nat} {b : List Nat} (ht : t < 256) (hb : oct b) (hl : b.length ≤ 1048576) : oct (fr t b) := oct_app (pre_oct ht hb hl) (be_oct _ _)
theorem fr_len {t : Nat} {b : List Nat} (hl : b.length ≤ 1048576) : (fr t b).length ≤ 1048590 := by
  have := pre_len (tag := t) hl
  simp [fr, be_len]; omega
theorem good4 : Pg.Good Try.prog 4 [] (.c (.bool true)) := by
  refine good_intro (drawW_ok mix) Try.func4 rfl Try.results4 rfl (by kernel_rfl) (Nat.le_of_ble_eq_true (by kernel_rfl)) ?_
  have hP := good5 [97, 98, 99] oct_abc (by decide)
  have ho := fr_oct (t := 88) (by omega) oct_abc (by decide)
  have hl := fr_len (t := 88) (b := [97, 98, 99]) (by decide)
  have hU := good8 _ ho (by omega)
  have hV := good8 (fr 88 [97, 98, 99] ++ [0]) (oct_app ho (oct_one (by omega))) (by simp; omega)
  rw [up_abc] at hU
  rw [up_abc0] at hV
  have e3 : ∀ s, buildSliceV Try.prog s 22 3 [(0, .c (.int .u8 97)), (1, .c (.int .u8 98)), (2, .c (.int .u8 99))] = _ := fun s => bs3 s 97 98 99
  have e1 : ∀ s, buildSliceV Try.prog s 22 1 [(0, .c (.int .u8 0))] = _ := fun s => bs1 s 0
  simp (disch := decide) only [Try.f4, pgs, pgl, pgx, Nat.reduceEqDiff, reduceIte, e3, convK_same, Nat.reduceAdd]
  refine callW_use _ hP rfl rfl rfl rfl ?_
  simp only [pgs, pgl, pgx, Nat.reduceEqDiff, reduceIte, Nat.reduceAdd]
  refine callW_use _ hU rfl rfl rfl rfl ?_
  simp (disch := first | omega | (simp; omega)) only [pgs, pgl, pgx, Nat.reduceEqDiff, reduceIte, Nat.reduceAdd, e1, app22, Nat.max_def, Nat.reduceLeDiff, Nat.reduceBEq]
  refine callW_use _ hV rfl rfl rfl rfl ?_
  simp only [pgs, pgl, pgx, Nat.reduceEqDiff, reduceIte, Nat.reduceAdd, Nat.reduceBEq, beq_self_eq_true, convK_sl, s_abc, decide_true]
  refine ret_at [] _ (retV_one _ _ _) .nil ?_ ?_
  · simp only [pgs, pgl, pgx, Nat.reduceEqDiff, reduceIte]
  · simp only [pgs, pgl, pgx, Nat.reduceEqDiff, reduceIte]
end Go.Proofs.Ytkgebocldjhflaa
