/-
  Texts of this claim, merged: PgN9, PgN10, PgN11, PgN12, PgN13, PgN14, PgN15. Each bears its own remark.
-/
import Derived.Test.YtkgebocldjhflaaDoorB1
import Derived.Laws.BitsLemmas
set_option linter.unusedVariables false
set_option linter.unusedSimpArgs false
set_option linter.unusedSectionVars false
section
/-
  Names: the reference's Hex and FormatKey, of any string.
-/
namespace Go.Proofs.YtkgebocldjhflaaDoor
open Go Go.Pg
set_option maxRecDepth 10000
set_option linter.unusedSimpArgs false

def hexd : List Nat := [48, 49, 50, 51, 52, 53, 54, 55, 56, 57, 97, 98, 99, 100, 101, 102]
theorem hexs : (⟨#[48, 49, 50, 51, 52, 53, 54, 55, 56, 57, 97, 98, 99, 100, 101, 102]⟩ : ByteArray) = sB hexd := by rfl
theorem hexd_oct : oct hexd := by intro b hb; simp [hexd] at hb; omega
theorem nils : (⟨#[]⟩ : ByteArray) = sB [] := by rfl
theorem pcts : (⟨#[37]⟩ : ByteArray) = sB [37] := by rfl
def hx (d : Nat) : Nat := hexd.getD d 0
def hexL (l : List Nat) : List Nat := l.flatMap fun c => [hx (c / 16), hx (c % 16)]
theorem hexL_next {l : List Nat} {i : Nat} (h : i < l.length) : hexL (l.take (i + 1)) = hexL (l.take i) ++ [hx (l.getD i 0 / 16)] ++ [hx (l.getD i 0 % 16)] := by
  rw [List.take_succ_eq_append_getElem h, hexL, List.flatMap_append]
  simp [hexL, List.getD, h]
theorem hexL_len (l : List Nat) : (hexL l).length = 2 * l.length := by
  induction l with
  | nil => rfl
  | cons a l ih => simp only [hexL, List.flatMap_cons, List.length_append, List.length_cons, List.length_nil] at ih ⊢; omega
theorem hx_lt (d : Nat) : hx d < 256 := getD_lt hexd_oct d
theorem hexL_oct (l : List Nat) : oct (hexL l) := by
  intro b hb
  obtain ⟨c, _, h⟩ := List.mem_flatMap.1 hb
  simp only [List.mem_cons, List.not_mem_nil, or_false] at h
  rcases h with rfl | rfl <;> exact hx_lt _
theorem hexs_at (d : Nat) (h : d < 16) : (hexd.take (d + 1)).drop d = [hx d] := by
  have : ∀ d : Fin 16, (hexd.take (d + 1)).drop d = [hx d] := by decide
  exact this ⟨d, h⟩
theorem shr4 (a : Nat) : Int.fdiv (a : Int) (2 ^ min (Int.toNat 4) IntKind.u8.bits) = ((a / 16 : Nat) : Int) := by
  show Int.fdiv (a : Int) ((16 : Nat) : Int) = _
  rw [Int.fdiv_eq_ediv_of_nonneg _ (Int.natCast_nonneg _), Int.natCast_ediv]
theorem and15 (a : Nat) (h : a < 256) : bits .and .u8 (a : Int) 15 = ((a % 16 : Nat) : Int) := by
  rw [u8_and15 _ (by omega) (by omega)]
  omega
theorem u8w (n : Int) (h : 0 ≤ n ∧ n ≤ 255) : IntKind.u8.wrap n = n := IntWalk.u8_in n h
theorem toN1 (a : Nat) : ((a : Int) + 1).toNat = a + 1 := by omega

theorem good34 (l : List Nat) (ho : oct l) (hl : l.length ≤ 4294967296) : Pg.Good Tryd.prog 34 [.c (.string (sB l))] (.c (.string (sB (hexL l)))) := by
  refine good_intro (drawW_ok mix) Tryd.func34 rfl Tryd.results34 rfl (by kernel_rfl) (Nat.le_of_ble_eq_true (by kernel_rfl)) ?_
  simp only [Tryd.f34, pgs, pgl, pgx, Nat.reduceEqDiff, reduceIte, is9, sB_size, nils]
  refine loop_at (fun i => mkS [.c (.string (sB l)), .top, .top, .c (.string (sB (hexL (l.take i)))), .c (.int .i64 (i : Nat))] 0) (fun i => i ≤ l.length) (fun i => l.length - i) 0 [] [] ?_ (Nat.zero_le _) ?_
  · refine keep_mk ?_ .nil (Nat.le_refl _)
    simp only [pgs, pgl, pgx, GenE_cons, GenE_nil, gen_top, gen_c, gen_fz, Nat.reduceEqDiff, reduceIte, Nat.reduceAdd]
    exact ⟨of_eq_true (gen_c _ _ _), of_eq_true (gen_c _ _ _)⟩
  · intro i hi s hs
    simp only [mkS_at, pgs, pgl, Nat.reduceAdd] at hs
    subst hs
    rcases Nat.lt_or_ge i l.length with hlt | hge
    · have e4 : decide ((i : Int) < (l.length : Int)) = true := decide_eq_true (by omega)
      have hb := getD_lt ho i
      have en := hexL_next hlt
      have hln := hexL_len (l.take i)
      rw [List.length_take, Nat.min_eq_left (by omega)] at hln
      have ha := hexs_at (l.getD i 0 / 16) (by omega)
      have hc := hexs_at (l.getD i 0 % 16) (by omega)
      have hxl : hexd.length = 16 := rfl
      simp (disch := first | assumption | omega | (simp only [hxl, List.length_append, List.length_cons, List.length_nil]; omega)) only [pgs, pgl, pgx, Nat.reduceEqDiff, reduceIte, Nat.reduceAdd, is9, sB_size, e4, ixs, Int.toNat_natCast, hexs, shr4, and15, u8w, sls, toN1, ha, hc, sadd, Int.reduceLT, i64w, headC_normal]
      refine ⟨by kernel_rfl, ?_⟩
      refine back_at (i + 1) [] [] (by omega) (by omega) (keep_mk ?_ .nil (Nat.le_refl _))
      simp only [pgs, pgl, pgx, GenE_cons, GenE_nil, gen_top, gen_c, gen_fz, Nat.reduceEqDiff, reduceIte, Nat.reduceAdd, Int.natCast_add, Int.cast_ofNat_Int, en]
    · have hil : i = l.length := by omega
      subst hil
      have e4 : decide ((l.length : Int) < (l.length : Int)) = false := decide_eq_false (by omega)
      simp only [pgs, pgl, pgx, Nat.reduceEqDiff, reduceIte, Nat.reduceAdd, is9, sB_size, e4, headC_exit, List.take_length]
      refine ret_at [] _ (retV_one _ _ _) .nil ?_ ?_
      · simp only [pgs, pgl, pgx, Nat.reduceEqDiff, reduceIte]
      · simp only [pgs, pgl, pgx, Nat.reduceEqDiff, reduceIte]
end Go.Proofs.YtkgebocldjhflaaDoor
end

section
/-
  Names: the reference's FormatKey, of any string.
-/
namespace Go.Proofs.YtkgebocldjhflaaDoor
open Go Go.Pg
set_option maxRecDepth 10000
set_option linter.unusedSimpArgs false

def fk (l : List Nat) : List Nat × Nat := if isKey l = false then ([], 7) else if plain l = true then (l, 0) else (37 :: hexL l, 0)
def fkV (l : List Nat) : V := .tup [.c (.string (sB (fk l).1)), .c (.int .i64 ((fk l).2 : Nat))]
theorem key_len {l : List Nat} (h : isKey l = true) : 1 ≤ l.length ∧ l.length ≤ 32 := by
  unfold isKey at h
  simp only [Bool.and_eq_true, decide_eq_true_eq] at h
  exact h
theorem good12 (l : List Nat) (ho : oct l) : Pg.Good Tryd.prog 12 [.c (.string (sB l))] (fkV l) := by
  refine good_intro (drawW_ok mix) Tryd.func12 rfl Tryd.results12 rfl (by kernel_rfl) (Nat.le_of_ble_eq_true (by kernel_rfl)) ?_
  have g1 := good18 l
  unfold fkV fk
  simp only [Tryd.f12, pgs, pgl, pgx, Nat.reduceEqDiff, reduceIte, nils]
  cases h1 : isKey l <;> rw [h1] at g1
  · refine callW_use _ g1 rfl rfl rfl rfl ?_
    simp only [pgs, pgl, pgx, Nat.reduceEqDiff, reduceIte, unNot, nils]
    refine ret_at [] _ (retV_two _ _ _ _) .nil ?_ ?_
    · simp only [pgs, pgl, pgx, Nat.reduceEqDiff, reduceIte]
    · simp only [pgs, pgl, pgx, Nat.reduceEqDiff, reduceIte] <;> rfl
  have hl := key_len h1
  have g2 := good33 l ho (by omega)
  have g3 := good34 l ho (by omega)
  have hxl := hexL_len l
  refine callW_use _ g1 rfl rfl rfl rfl ?_
  simp only [pgs, pgl, pgx, Nat.reduceEqDiff, reduceIte, unNot]
  cases h2 : plain l <;> rw [h2] at g2
  · refine callW_use _ g2 rfl rfl rfl rfl ?_
    simp only [pgs, pgl, pgx, Nat.reduceEqDiff, reduceIte]
    refine callW_use _ g3 rfl rfl rfl rfl ?_
    simp (disch := simp only [List.length_cons, List.length_nil]; omega) only [pgs, pgl, pgx, Nat.reduceEqDiff, reduceIte, pcts, sadd]
    refine ret_at [] _ (retV_two _ _ _ _) .nil ?_ ?_
    · simp only [pgs, pgl, pgx, Nat.reduceEqDiff, reduceIte]
    · simp only [pgs, pgl, pgx, Nat.reduceEqDiff, reduceIte] <;> rfl
  · refine callW_use _ g2 rfl rfl rfl rfl ?_
    simp only [pgs, pgl, pgx, Nat.reduceEqDiff, reduceIte]
    refine ret_at [] _ (retV_two _ _ _ _) .nil ?_ ?_
    · simp only [pgs, pgl, pgx, Nat.reduceEqDiff, reduceIte]
    · simp only [pgs, pgl, pgx, Nat.reduceEqDiff, reduceIte] <;> rfl
end Go.Proofs.YtkgebocldjhflaaDoor
end

section
/-
  Names: the value of a hexadecimal digit, of the reference.
-/
namespace Go.Proofs.YtkgebocldjhflaaDoor
open Go Go.Pg
set_option maxRecDepth 10000
set_option linter.unusedSimpArgs false

def nib (c : Nat) : Int := if bt c 48 57 = true then (c : Int) - 48 else if bt c 97 102 = true then (c : Int) - 97 + 10 else -1
theorem bt_and {c a b : Nat} (h : bt c a b = true) : a ≤ c ∧ c ≤ b := by
  unfold bt at h
  simp only [Bool.and_eq_true, decide_eq_true_eq] at h
  exact h
theorem good49 (c : Nat) (hc : c < 256) : Pg.Good Tryd.prog 49 [.c (.int .u8 (c : Int))] (.c (.int .i64 (nib c))) := by
  refine good_intro (drawW_ok mix) Tryd.func49 rfl Tryd.results49 rfl (by kernel_rfl) (Nat.le_of_ble_eq_true (by kernel_rfl)) ?_
  have g1 := good40 c 48 57
  have g2 := good40 c 97 102
  unfold nib
  simp only [Tryd.f49, pgs, pgl, pgx, Nat.reduceEqDiff, reduceIte]
  cases h1 : bt c 48 57 <;> rw [h1] at g1
  · refine callW_use _ g1 rfl rfl rfl rfl ?_
    simp only [pgs, pgl, pgx, Nat.reduceEqDiff, reduceIte]
    cases h2 : bt c 97 102 <;> rw [h2] at g2
    · refine callW_use _ g2 rfl rfl rfl rfl ?_
      simp only [pgs, pgl, pgx, Nat.reduceEqDiff, reduceIte]
      refine ret_at [] _ (retV_one _ _ _) .nil ?_ ?_
      · simp only [pgs, pgl, pgx, Nat.reduceEqDiff, reduceIte]
      · simp only [pgs, pgl, pgx, Nat.reduceEqDiff, reduceIte]
    · have hb := bt_and h2
      refine callW_use _ g2 rfl rfl rfl rfl ?_
      simp (disch := omega) only [pgs, pgl, pgx, Nat.reduceEqDiff, reduceIte, u8w, i64w, convV_int _ _ _ _ _ _ it3 un5]
      refine ret_at [] _ (retV_one _ _ _) .nil ?_ ?_
      · simp only [pgs, pgl, pgx, Nat.reduceEqDiff, reduceIte]
      · simp only [pgs, pgl, pgx, Nat.reduceEqDiff, reduceIte]
  · have hb := bt_and h1
    refine callW_use _ g1 rfl rfl rfl rfl ?_
    simp (disch := omega) only [pgs, pgl, pgx, Nat.reduceEqDiff, reduceIte, u8w, i64w, convV_int _ _ _ _ _ _ it3 un5]
    refine ret_at [] _ (retV_one _ _ _) .nil ?_ ?_
    · simp only [pgs, pgl, pgx, Nat.reduceEqDiff, reduceIte]
    · simp only [pgs, pgl, pgx, Nat.reduceEqDiff, reduceIte]
end Go.Proofs.YtkgebocldjhflaaDoor
end

section
/-
  Names: the reference's Unhex, of any string.
-/
namespace Go.Proofs.YtkgebocldjhflaaDoor
open Go Go.Pg
set_option maxRecDepth 10000
set_option linter.unusedSimpArgs false

theorem el42 : elemT Tryd.prog 42 = some 5 := by kernel_rfl
theorem ta5 : tapp Tryd.prog 5 = some (1, 1) := by kernel_rfl
theorem ze5 : zelem Tryd.prog 5 = some (.c (.int .u8 0)) := by kernel_rfl
theorem it9 : intT Tryd.prog 9 = none := by kernel_rfl
theorem src42 (tg : Tag) (l : List Nat) : srcV Tryd.prog 42 1 (.sl tg 1 (bv l)) = some (bv l) := by rw [srcV_sl, el42]; rfl
theorem fits_1 {n : Nat} (h : n ≤ 140737488355328) : Fits n 1 := by unfold Fits maxLen; omega
theorem app42 (s : St) (l l' : List Nat) (id : Nat) (tg : Tag) (h : l.length + l'.length ≤ 140737488355328) : appendV Tryd.prog s 42 42 (.sl (.own id 5) 1 (bv l)) (.sl tg 1 (bv l')) = some (.sl (.own id 5) 1 (bv (l ++ l')), { s.mapV (poison id) with nid := max s.nid (id + 1) }) := by
  rw [appendV_at _ _ _ _ _ _ _ _ _ _ el42 ta5 (src42 tg l')]
  simp only [bv_len, bv_app]
  rw [if_pos ⟨trivial, trivial, fits_1 h⟩]
theorem bs42 (s : St) (a : Nat) : buildSliceV Tryd.prog s 42 1 [(0, .c (.int .u8 (a : Int)))] = some (.sl (.own s.nid 5) 1 (bv [a]), { s with nid := s.nid + 1 }) := by
  simp [buildSliceV, el42, ta5, ze5, setAll, cs_c_int, free_c, one_c_int, bv]
theorem sB_nums (l : List Nat) : strOfNums (l.map fun (b : Nat) => (b : Int)) = sB l := by
  apply ByteArray.ext
  simp [strOfNums, sB, Function.comp_def]
theorem convV_42 (tg : Tag) (l : List Nat) : convV Tryd.prog 42 9 (.sl tg 1 (bv l)) = some (.c (.string (sB l))) := by
  simp [convV, it9, el42, it5, is9, u8s_bv, sB_nums]
theorem convK_42 (s : St) (d : Option Nat) (tg : Tag) (l : List Nat) (K : Kd → St → Prop) : convK Tryd.prog s d 42 9 (.sl tg 1 (bv l)) K = K (kq [.sl tg 1 (bv l)] (.c (.string (sB l)))) (s.put d (.c (.string (sB l)))) := by
  rw [convK_at, convV_42]
  have h1 : (strBytes Tryd.prog 42 9 (.sl tg 1 (bv l))).map (fun r => (r, s)) = none := rfl
  have h3 : unsafeV Tryd.prog s 42 9 (.sl tg 1 (bv l)) = none := rfl
  have h2 : sameSl Tryd.prog s 42 9 (.sl tg 1 (bv l)) = none := by cases tg <;> simp [sameSl]
  rw [h1, h2, h3]
  simp only [optQ_some, optK_none, optR_none, or_false]
theorem u8n (a : Nat) : IntKind.u8.wrap (a : Int) = ((a % 256 : Nat) : Int) := by rw [IntKind.wrap_u8]; omega

theorem nib_rng (c : Nat) : -1 ≤ nib c ∧ nib c ≤ 15 := by
  unfold nib
  split
  · rename_i h; have := bt_and h; omega
  · split
    · rename_i h; have := bt_and h; omega
    · omega
def prB (l : List Nat) (t : Nat) : Nat := (16 * nib (l.getD (2 * t) 0) + nib (l.getD (2 * t + 1) 0)).toNat
def prs (l : List Nat) (j : Nat) : List Nat := (List.range j).map (prB l)
def okP (l : List Nat) (t : Nat) : Bool := decide (0 ≤ nib (l.getD (2 * t) 0)) && decide (0 ≤ nib (l.getD (2 * t + 1) 0))
def okB (l : List Nat) (j : Nat) : Bool := (List.range j).all (okP l)
theorem prs_next (l : List Nat) (j : Nat) : prs l (j + 1) = prs l j ++ [prB l j] := by simp [prs, List.range_succ]
theorem okB_next (l : List Nat) (j : Nat) : okB l (j + 1) = (okB l j && okP l j) := by simp [okB, List.range_succ]
theorem okB_not {l : List Nat} {j n : Nat} (h : j < n) (hp : okP l j = false) : okB l n = false := by
  rw [← Bool.not_eq_true, okB, List.all_eq_true]
  intro hx
  have := hx j (List.mem_range.2 h)
  rw [hp] at this
  cases this
theorem prs_len (l : List Nat) (j : Nat) : (prs l j).length = j := by simp [prs]
def unhV (l : List Nat) : V := if okB l (l.length / 2) = true then .tup [.c (.string (sB (prs l (l.length / 2)))), .c (.bool (decide (l.length % 2 = 0)))] else .tup [.c (.string (sB [])), .c (.bool false)]

theorem good37 (l : List Nat) (ho : oct l) (hl : l.length ≤ 140737488355328) : Pg.Good Tryd.prog 37 [.c (.string (sB l))] (unhV l) := by
  refine good_intro (drawW_ok mix) Tryd.func37 rfl Tryd.results37 rfl (by kernel_rfl) (Nat.le_of_ble_eq_true (by kernel_rfl)) ?_
  unfold unhV
  simp only [Tryd.f37, pgs, pgl, pgx, Nat.reduceEqDiff, reduceIte]
  refine loop_at (fun j => mkS [.c (.string (sB l)), .top, .top, .top, .sl (.own 0 5) 1 (bv (prs l j)), .c (.int .i64 (2 * (j : Nat)))] 1) (fun j => j ≤ l.length / 2 ∧ okB l j = true) (fun j => l.length / 2 - j) 0 [] [] ?_ ⟨Nat.zero_le _, rfl⟩ ?_
  · refine keep_mk ?_ .nil (Nat.zero_le _)
    simp only [pgs, pgl, pgx, GenE_cons, GenE_nil, gen_top, gen_c, gen_fz, Nat.reduceEqDiff, reduceIte, Nat.reduceAdd]
    exact ⟨of_eq_true (gen_nil _ _ _ _), of_eq_true (gen_c _ _ _)⟩
  · rintro j ⟨hj, hok⟩ s hs
    simp only [mkS_at, pgs, pgl, Nat.reduceAdd] at hs
    subst hs
    rcases Nat.lt_or_ge j (l.length / 2) with hlt | hge
    · have e4 : decide (2 * (j : Int) + 1 < (l.length : Int)) = true := decide_eq_true (by omega)
      have en1 : (2 * (j : Int)).toNat = 2 * j := by omega
      have en2 : (2 * (j : Int) + 1).toNat = 2 * j + 1 := by omega
      have hb1 := getD_lt ho (2 * j)
      have hb2 := getD_lt ho (2 * j + 1)
      simp (disch := first | assumption | omega) only [pgs, pgl, pgx, Nat.reduceEqDiff, reduceIte, Nat.reduceAdd, is9, sB_size, i64w, e4, ixs, en1, en2]
      refine callW_use _ (good49 _ hb1) rfl rfl rfl rfl ?_
      simp (disch := first | assumption | omega) only [pgs, pgl, pgx, Nat.reduceEqDiff, reduceIte, Nat.reduceAdd, i64w, ixs, en1, en2]
      refine callW_use _ (good49 _ hb2) rfl rfl rfl rfl ?_
      have hr1 := nib_rng (l.getD (2 * j) 0)
      have hr2 := nib_rng (l.getD (2 * j + 1) 0)
      have hv : 0 ≤ nib (l.getD (2 * j) 0) → 0 ≤ nib (l.getD (2 * j + 1) 0) → 16 * nib (l.getD (2 * j) 0) + nib (l.getD (2 * j + 1) 0) = ((prB l j : Nat) : Int) := by
        intro h1 h2
        unfold prB
        omega
      have hcs : (decide (nib (l.getD (2 * j) 0) < 0) = true ∧ True ∧ okP l j = false) ∨ (decide (nib (l.getD (2 * j) 0) < 0) = false ∧ decide (nib (l.getD (2 * j + 1) 0) < 0) = true ∧ okP l j = false) ∨
          (decide (nib (l.getD (2 * j) 0) < 0) = false ∧ decide (nib (l.getD (2 * j + 1) 0) < 0) = false ∧ okP l j = true) := by
        unfold okP
        rcases Int.lt_or_le (nib (l.getD (2 * j) 0)) 0 with h1 | h1
        · exact .inl ⟨decide_eq_true h1, trivial, by rw [decide_eq_false (show ¬ 0 ≤ nib (l.getD (2 * j) 0) by omega)]; rfl⟩
        · rcases Int.lt_or_le (nib (l.getD (2 * j + 1) 0)) 0 with h2 | h2
          · exact .inr (.inl ⟨decide_eq_false (by omega), decide_eq_true h2, by rw [decide_eq_false (show ¬ 0 ≤ nib (l.getD (2 * j + 1) 0) by omega), Bool.and_false]⟩)
          · exact .inr (.inr ⟨decide_eq_false (by omega), decide_eq_false (by omega), by rw [decide_eq_true h1, decide_eq_true h2]; rfl⟩)
      rcases hcs with ⟨f1, f2, f3⟩ | ⟨f1, f2, f3⟩ | ⟨f1, f2, f3⟩
      · rw [okB_not hlt f3, if_neg (by simp)]
        simp only [pgs, pgl, pgx, Nat.reduceEqDiff, reduceIte, Nat.reduceAdd, f1, f2, nils, headC_ret]
        refine ⟨by kernel_rfl, ?_⟩
        refine ret_at [] _ (retV_two _ _ _ _) .nil ?_ ?_
        · simp only [pgs, pgl, pgx, Nat.reduceEqDiff, reduceIte]
        · simp only [pgs, pgl, pgx, Nat.reduceEqDiff, reduceIte]
      · rw [okB_not hlt f3, if_neg (by simp)]
        simp only [pgs, pgl, pgx, Nat.reduceEqDiff, reduceIte, Nat.reduceAdd, f1, f2, nils, headC_ret]
        refine ⟨by kernel_rfl, ?_⟩
        refine ret_at [] _ (retV_two _ _ _ _) .nil ?_ ?_
        · simp only [pgs, pgl, pgx, Nat.reduceEqDiff, reduceIte]
        · simp only [pgs, pgl, pgx, Nat.reduceEqDiff, reduceIte]
      · have p1 : 0 ≤ nib (l.getD (2 * j) 0) := by simpa using f1
        have p2 : 0 ≤ nib (l.getD (2 * j + 1) 0) := by simpa using f2
        have hv := hv p1 p2
        have hpl := prs_len l j
        simp (disch := first | omega | (simp only [List.length_cons, List.length_nil]; omega)) only [pgs, pgl, pgx, Nat.reduceEqDiff, reduceIte, Nat.reduceAdd, f1, f2, i64w, hv, u8w, convV_int _ _ _ _ _ _ it5 un3, bs42, app42, Nat.max_def, Nat.reduceLeDiff, Nat.reduceBEq, headC_normal]
        refine ⟨by kernel_rfl, ?_⟩
        refine back_at (j + 1) [0] [] ⟨by omega, by rw [okB_next, hok, f3]; rfl⟩ (by omega) (keep_mk ?_ (by decide) (Nat.le_refl _))
        simp only [pgs, pgl, pgx, GenE_cons, GenE_nil, gen_top, gen_c, gen_fz, Nat.reduceEqDiff, reduceIte, Nat.reduceAdd, Nat.reduceBEq]
        exact ⟨gen_own rfl (by rw [prs_next]), of_eq_true (gen_int _ _ _ _ _ (by omega))⟩
    · have hjn : j = l.length / 2 := by omega
      have e4 : decide (2 * (j : Int) + 1 < (l.length : Int)) = false := decide_eq_false (by omega)
      have e5 : ((l.length : Int).tmod 2 == 0) = decide (l.length % 2 = 0) := by
        rw [Bool.eq_iff_iff, beq_iff_eq, decide_eq_true_eq]
        have : (l.length : Int).tmod 2 = ((l.length % 2 : Nat) : Int) := rfl
        omega
      rw [← hjn, hok, if_pos rfl]
      simp (disch := omega) only [pgs, pgl, pgx, Nat.reduceEqDiff, reduceIte, Nat.reduceAdd, is9, sB_size, i64w, e4, convK_42, Int.reduceEq, e5, headC_exit]
      refine ret_at [] _ (retV_two _ _ _ _) .nil ?_ ?_
      · simp only [pgs, pgl, pgx, Nat.reduceEqDiff, reduceIte]
      · simp only [pgs, pgl, pgx, Nat.reduceEqDiff, reduceIte]
end Go.Proofs.YtkgebocldjhflaaDoor
end

section
/-
  Names: the reference's ParseKey, of any string (of at most 2^47 octets, as every string of the model).
-/
namespace Go.Proofs.YtkgebocldjhflaaDoor
open Go Go.Pg
set_option maxRecDepth 10000
set_option linter.unusedSimpArgs false

def pk (l : List Nat) : List Nat × Nat :=
  if (isKey l && plain l) = true then (l, 0) else
  if l.length = 0 then ([], 1) else
  if l.getD 0 0 ≠ 37 then ([], 1) else
  if okB (l.drop 1) ((l.drop 1).length / 2) = false then ([], 1) else
  if (l.drop 1).length % 2 ≠ 0 then ([], 1) else
  if isKey (prs (l.drop 1) ((l.drop 1).length / 2)) = false then ([], 1) else
  if plain (prs (l.drop 1) ((l.drop 1).length / 2)) = true then ([], 1) else (prs (l.drop 1) ((l.drop 1).length / 2), 0)
def pkV (l : List Nat) : V := .tup [.c (.string (sB (pk l).1)), .c (.int .i64 ((pk l).2 : Nat))]
theorem prB_lt {l : List Nat} {t : Nat} : prB l t < 256 := by
  unfold prB
  have := nib_rng (l.getD (2 * t) 0)
  have := nib_rng (l.getD (2 * t + 1) 0)
  omega
theorem prs_oct (l : List Nat) (j : Nat) : oct (prs l j) := by
  intro b hb
  obtain ⟨t, _, rfl⟩ := List.mem_map.1 hb
  exact prB_lt

theorem good14 (l : List Nat) (ho : oct l) (hl : l.length ≤ 140737488355328) : Pg.Good Tryd.prog 14 [.c (.string (sB l))] (pkV l) := by
  refine good_intro (drawW_ok mix) Tryd.func14 rfl Tryd.results14 rfl (by kernel_rfl) (Nat.le_of_ble_eq_true (by kernel_rfl)) ?_
  unfold pkV pk
  have g1 := good18 l
  simp only [Tryd.f14, pgs, pgl, pgx, Nat.reduceEqDiff, reduceIte, nils]
  have hfirst : (isKey l = true ∧ plain l = true) ∨ (isKey l = true ∧ plain l = false) ∨ isKey l = false := by cases isKey l <;> cases plain l <;> simp
  rcases hfirst with ⟨h1, h2⟩ | hrest
  · have g2 := good33 l ho (by have := key_len h1; omega)
    rw [h1] at g1
    rw [h2] at g2
    rw [h1, h2]
    refine callW_use _ g1 rfl rfl rfl rfl ?_
    simp only [pgs, pgl, pgx, Nat.reduceEqDiff, reduceIte]
    refine callW_use _ g2 rfl rfl rfl rfl ?_
    simp only [pgs, pgl, pgx, Nat.reduceEqDiff, reduceIte]
    refine ret_at [] _ (retV_two _ _ _ _) .nil ?_ ?_
    · simp only [pgs, pgl, pgx, Nat.reduceEqDiff, reduceIte]
    · simp only [pgs, pgl, pgx, Nat.reduceEqDiff, reduceIte] <;> rfl
  have hnp : (isKey l && plain l) = false := by rcases hrest with ⟨h1, h2⟩ | h1 <;> simp_all
  rw [hnp, if_neg (by simp)]
  have hdo := oct_drop ho 1
  have g3 := good37 (l.drop 1) hdo (by rw [List.length_drop]; omega)
  unfold unhV at g3
  generalize hkd : prs (l.drop 1) ((l.drop 1).length / 2) = k at g3
  have hko : oct k := by rw [← hkd]; exact prs_oct _ _
  have g4 := good18 k
  rcases hrest with ⟨h1, h2⟩ | h1
  case' inl =>
    have g2 := good33 l ho (by have := key_len h1; omega)
    rw [h1] at g1
    rw [h2] at g2
    refine callW_use _ g1 rfl rfl rfl rfl ?_
    simp only [pgs, pgl, pgx, Nat.reduceEqDiff, reduceIte]
    refine callW_use _ g2 rfl rfl rfl rfl ?_
    simp only [pgs, pgl, pgx, Nat.reduceEqDiff, reduceIte, is9, sB_size]
  case' inr =>
    rw [h1] at g1
    refine callW_use _ g1 rfl rfl rfl rfl ?_
    simp only [pgs, pgl, pgx, Nat.reduceEqDiff, reduceIte, is9, sB_size]
  all_goals
    rcases Nat.eq_zero_or_pos l.length with h0 | h0
    · have e1 : ((l.length : Int) == 0) = true := by rw [h0]; rfl
      rw [if_pos h0]
      simp only [pgs, pgl, pgx, Nat.reduceEqDiff, reduceIte, e1, nils]
      refine ret_at [] _ (retV_two _ _ _ _) .nil ?_ ?_
      · simp only [pgs, pgl, pgx, Nat.reduceEqDiff, reduceIte]
      · simp only [pgs, pgl, pgx, Nat.reduceEqDiff, reduceIte] <;> rfl
    have e1 : ((l.length : Int) == 0) = false := by rw [beq_eq_false_iff_ne]; omega
    rw [if_neg (by omega)]
    by_cases h3 : l.getD 0 0 = 37
    case neg =>
      have e2 : (((l.getD 0 0 : Nat) : Int) != 37) = true := by rw [bne_iff_ne]; omega
      rw [if_pos h3]
      simp (disch := first | assumption | omega) only [pgs, pgl, pgx, Nat.reduceEqDiff, reduceIte, e1, ixs, Int.reduceToNat, e2, nils]
      refine ret_at [] _ (retV_two _ _ _ _) .nil ?_ ?_
      · simp only [pgs, pgl, pgx, Nat.reduceEqDiff, reduceIte]
      · simp only [pgs, pgl, pgx, Nat.reduceEqDiff, reduceIte] <;> rfl
    have e2 : (((l.getD 0 0 : Nat) : Int) != 37) = false := by rw [h3]; rfl
    rw [if_neg (show ¬ l.getD 0 0 ≠ 37 from fun h => h h3)]
    simp (disch := first | assumption | omega) only [pgs, pgl, pgx, Nat.reduceEqDiff, reduceIte, e1, ixs, Int.reduceToNat, e2, slsa]
    cases h4 : okB (l.drop 1) ((l.drop 1).length / 2) <;> rw [h4] at g3
    · rw [if_neg (by simp)] at g3
      rw [if_pos rfl]
      refine callW_use _ g3 rfl rfl rfl rfl ?_
      simp only [pgs, pgl, pgx, Nat.reduceEqDiff, reduceIte, unNot, nils]
      refine ret_at [] _ (retV_two _ _ _ _) .nil ?_ ?_
      · simp only [pgs, pgl, pgx, Nat.reduceEqDiff, reduceIte]
      · simp only [pgs, pgl, pgx, Nat.reduceEqDiff, reduceIte] <;> rfl
    rw [if_pos rfl] at g3
    rw [if_neg (by simp)]
    by_cases h5 : (l.drop 1).length % 2 = 0
    case neg =>
      rw [decide_eq_false h5] at g3
      rw [if_pos h5]
      refine callW_use _ g3 rfl rfl rfl rfl ?_
      simp only [pgs, pgl, pgx, Nat.reduceEqDiff, reduceIte, unNot, nils]
      refine ret_at [] _ (retV_two _ _ _ _) .nil ?_ ?_
      · simp only [pgs, pgl, pgx, Nat.reduceEqDiff, reduceIte]
      · simp only [pgs, pgl, pgx, Nat.reduceEqDiff, reduceIte] <;> rfl
    rw [decide_eq_true h5] at g3
    rw [if_neg (show ¬ (l.drop 1).length % 2 ≠ 0 from fun h => h h5)]
    refine callW_use _ g3 rfl rfl rfl rfl ?_
    simp only [pgs, pgl, pgx, Nat.reduceEqDiff, reduceIte, unNot]
    cases h6 : isKey k <;> rw [h6] at g4
    · rw [if_pos rfl]
      refine callW_use _ g4 rfl rfl rfl rfl ?_
      simp only [pgs, pgl, pgx, Nat.reduceEqDiff, reduceIte, unNot, nils]
      refine ret_at [] _ (retV_two _ _ _ _) .nil ?_ ?_
      · simp only [pgs, pgl, pgx, Nat.reduceEqDiff, reduceIte]
      · simp only [pgs, pgl, pgx, Nat.reduceEqDiff, reduceIte] <;> rfl
    rw [if_neg (by simp)]
    have g5 := good33 k hko (by have := key_len h6; omega)
    refine callW_use _ g4 rfl rfl rfl rfl ?_
    simp only [pgs, pgl, pgx, Nat.reduceEqDiff, reduceIte, unNot]
    cases h7 : plain k <;> rw [h7] at g5
    · rw [if_neg (by simp)]
      refine callW_use _ g5 rfl rfl rfl rfl ?_
      simp only [pgs, pgl, pgx, Nat.reduceEqDiff, reduceIte, unNot]
      refine ret_at [] _ (retV_two _ _ _ _) .nil ?_ ?_
      · simp only [pgs, pgl, pgx, Nat.reduceEqDiff, reduceIte]
      · simp only [pgs, pgl, pgx, Nat.reduceEqDiff, reduceIte] <;> rfl
    · rw [if_pos rfl]
      refine callW_use _ g5 rfl rfl rfl rfl ?_
      simp only [pgs, pgl, pgx, Nat.reduceEqDiff, reduceIte, unNot, nils]
      refine ret_at [] _ (retV_two _ _ _ _) .nil ?_ ?_
      · simp only [pgs, pgl, pgx, Nat.reduceEqDiff, reduceIte]
      · simp only [pgs, pgl, pgx, Nat.reduceEqDiff, reduceIte] <;> rfl
end Go.Proofs.YtkgebocldjhflaaDoor
end

section
/-
  Names: the law's own 'same': two lists of strings are equal.
-/
namespace Go.Proofs.YtkgebocldjhflaaDoor
open Go Go.Pg
set_option maxRecDepth 10000
set_option linter.unusedSimpArgs false

theorem el35 : elemT Tryd.prog 35 = some 9 := by kernel_rfl
theorem ia35 (l : List (List Nat)) (tg : Tag) (ik : IntKind) (n : Int) (h0 : 0 ≤ n) (h : n < l.length) : iaV Tryd.prog 35 (.sl tg 1 (sv l)) (.c (.int ik n)) = some (.el tg 1 (sv l) n.toNat 0) := by
  rw [iaV_sl, el35, if_pos ⟨ts9, h0, by rw [sv_len]; exact h⟩]
theorem ld9' (v : Value) : ldCells Tryd.prog 9 [.c v] 0 = some (.c v) := by simp [ldCells, ag9]

theorem good25 (a b : List (List Nat)) (ha : ∀ x ∈ a, oct x) (hb : ∀ x ∈ b, oct x) (hl : a.length ≤ 140737488355328) :
    Pg.Good Tryd.prog 25 [.sl .fz 1 (sv a), .sl .fz 1 (sv b)] (.c (.bool (decide (a = b)))) := by
  refine good_intro (drawW_ok mix) Tryd.func25 rfl Tryd.results25 rfl (by kernel_rfl) (Nat.le_of_ble_eq_true (by kernel_rfl)) ?_
  by_cases h : a.length = b.length
  case neg =>
    have e1 : ((a.length : Int) != (b.length : Int)) = true := by rw [bne_iff_ne]; omega
    rw [decide_eq_false (fun e => h (by rw [e]))]
    simp only [Tryd.f25, pgs, pgl, pgx, Nat.reduceEqDiff, reduceIte, el35, sv_len, e1]
    refine ret_at [] _ (retV_one _ _ _) .nil ?_ ?_
    · simp only [pgs, pgl, pgx, Nat.reduceEqDiff, reduceIte]
    · simp only [pgs, pgl, pgx, Nat.reduceEqDiff, reduceIte]
  have e1 : ((a.length : Int) != (b.length : Int)) = false := by rw [h]; simp
  simp only [Tryd.f25, pgs, pgl, pgx, Nat.reduceEqDiff, reduceIte, el35, sv_len, e1]
  refine loop_at (fun i => mkS [.sl .fz 1 (sv a), .sl .fz 1 (sv b), .top, .top, .top, .c (.int .i64 (i : Nat))] 0) (fun i => i ≤ a.length ∧ a.take i = b.take i) (fun i => a.length - i) 0 [] [] ?_ ⟨Nat.zero_le _, rfl⟩ ?_
  · refine keep_mk ?_ .nil (Nat.le_refl _)
    simp only [pgs, pgl, pgx, GenE_cons, GenE_nil, gen_top, gen_c, gen_fz, Nat.reduceEqDiff, reduceIte, Nat.reduceAdd]
    exact of_eq_true (gen_c _ _ _)
  · rintro i ⟨hi, heq⟩ s hs
    simp only [mkS_at, pgs, pgl, Nat.reduceAdd] at hs
    subst hs
    rcases Nat.lt_or_ge i a.length with hlt | hge
    · have e4 : decide ((i : Int) < (a.length : Int)) = true := decide_eq_true (by omega)
      have ga : a.getD i [] = a[i] := by simp [List.getD, hlt]
      have gb : b.getD i [] = b[i]'(by omega) := by simp [List.getD, show i < b.length by omega]
      have hd : decide (sB (a.getD i []) = sB (b.getD i [])) = decide (a.getD i [] = b.getD i []) := by
        rw [ga, gb]
        exact sB_dec (ha _ (List.getElem_mem _)) (hb _ (List.getElem_mem _))
      by_cases hq : a.getD i [] = b.getD i []
      · rw [decide_eq_true hq] at hd
        simp (disch := omega) only [pgs, pgl, pgx, Nat.reduceEqDiff, reduceIte, el35, sv_len, e4, ia35, Int.toNat_natCast, sv_get, ld9', hd, i64w, headC_normal]
        refine ⟨by kernel_rfl, ?_⟩
        refine back_at (i + 1) [] [] ⟨by omega, ?_⟩ (by omega) (keep_mk ?_ .nil (Nat.le_refl _))
        · rw [List.take_succ_eq_append_getElem hlt, List.take_succ_eq_append_getElem (show i < b.length by omega), heq, ← ga, ← gb, hq]
        · simp only [pgs, pgl, pgx, GenE_cons, GenE_nil, gen_top, gen_c, gen_fz, Nat.reduceEqDiff, reduceIte, Nat.reduceAdd, Int.natCast_add, Int.cast_ofNat_Int]
      · rw [decide_eq_false hq] at hd
        rw [decide_eq_false (show ¬ a = b from fun e => hq (by rw [e]))]
        simp (disch := omega) only [pgs, pgl, pgx, Nat.reduceEqDiff, reduceIte, el35, sv_len, e4, ia35, Int.toNat_natCast, sv_get, ld9', hd, i64w, headC_ret]
        refine ⟨by kernel_rfl, ?_⟩
        refine ret_at [] _ (retV_one _ _ _) .nil ?_ ?_
        · simp only [pgs, pgl, pgx, Nat.reduceEqDiff, reduceIte]
        · simp only [pgs, pgl, pgx, Nat.reduceEqDiff, reduceIte]
    · have hil : i = a.length := by omega
      subst hil
      have e4 : decide ((a.length : Int) < (a.length : Int)) = false := decide_eq_false (by omega)
      rw [List.take_length, h, List.take_length] at heq
      rw [decide_eq_true heq]
      simp only [pgs, pgl, pgx, Nat.reduceEqDiff, reduceIte, el35, sv_len, e4, headC_exit]
      refine ret_at [] _ (retV_one _ _ _) .nil ?_ ?_
      · simp only [pgs, pgl, pgx, Nat.reduceEqDiff, reduceIte]
      · simp only [pgs, pgl, pgx, Nat.reduceEqDiff, reduceIte]
end Go.Proofs.YtkgebocldjhflaaDoor
end

section
/-
  Names: ParseInt of any string (of at most 2^47 octets).
-/
namespace Go.Proofs.YtkgebocldjhflaaDoor
open Go Go.Pg
set_option maxRecDepth 10000
set_option linter.unusedSimpArgs false

def dig (l : List Nat) : Nat := l.foldl (fun x c => 10 * x + (c - 48)) 0
theorem dig_next {l : List Nat} {i : Nat} (h : i < l.length) : dig (l.take (i + 1)) = 10 * dig (l.take i) + (l.getD i 0 - 48) := by
  unfold dig
  rw [List.take_succ_eq_append_getElem h, List.foldl_append]
  simp [List.getD, h]
theorem dig_lt : ∀ (n : Nat) (l : List Nat), l.length = n → l.all (fun c => bt c 48 57) = true → dig l < 10 ^ n := by
  intro n
  induction n with
  | zero => intro l h _; simp at h; subst h; simp [dig]
  | succ n ih =>
    intro l h ha
    rcases List.eq_nil_or_concat l with rfl | ⟨L, b, rfl⟩
    · simp at h
    · rw [List.concat_eq_append, List.all_append] at ha
      simp only [Bool.and_eq_true, List.all_cons, List.all_nil, and_true] at ha
      have h1 := ih L (by simp at h; exact h) ha.1
      have h2 := bt_and ha.2
      have e : dig (L.concat b) = 10 * dig L + (b - 48) := by rw [List.concat_eq_append]; simp [dig]
      rw [e, Nat.pow_succ]
      omega
/-- What stands behind the sign. -/
def bodyI (l : List Nat) : List Nat := if hasP l [45] = true then l.drop 1 else l
def badI (b : List Nat) (neg : Bool) : Bool := decide (b.length < 1) || decide (12 < b.length) || (b.getD 0 0 == 48 && (decide (1 < b.length) || neg))
def pint (l : List Nat) : Int × Nat :=
  if badI (bodyI l) (hasP l [45]) = true then (0, 1) else
  if (bodyI l).all (fun c => bt c 48 57) = false then (0, 1) else
  (if hasP l [45] = true then - (dig (bodyI l) : Int) else (dig (bodyI l) : Int), 0)
def pintV (l : List Nat) : V := .tup [.c (.int .i64 (pint l).1), .c (.int .i64 ((pint l).2 : Nat))]
end Go.Proofs.YtkgebocldjhflaaDoor
end
