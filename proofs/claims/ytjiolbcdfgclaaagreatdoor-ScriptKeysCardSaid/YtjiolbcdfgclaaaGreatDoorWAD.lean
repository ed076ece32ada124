/-
  Texts of this claim, merged. Each bears its own remark.
-/
import Derived.Test.YtjiolbcdfgclaaaGreatDoorWAC
import Derived.Laws.Externs
import Derived.Laws.BitsLemmas
import Derived.Shelf.Strings.OnBuilder
import Derived.Shelf.LaysM
import Derived.Shelf.Strconv.Itoa3
import Derived.Shelf.Strings.Cut
import Derived.Shelf.Strings.Prefix
import Derived.Shelf.Strings.Split
import Derived.Test.YtjiolbcdfgclaaaGreatDoorProg
set_option linter.unusedVariables false
set_option linter.unusedSimpArgs false
set_option linter.unusedSectionVars false
section
/-
  Names: IsName, of the program and of the reference, of any string.
-/
namespace Go.Proofs.YtjiolbcdfgclaaaGreatDoor
open Go Go.Pg
set_option maxRecDepth 10000
set_option linter.unusedSimpArgs false

def nmC (c : Nat) : Bool := bt c 97 122 || bt c 48 57 || c == 45 || c == 46
def isName (l : List Nat) : Bool := decide (1 ≤ l.length) && decide (l.length ≤ 16) && bt (l.getD 0 0) 97 122 && l.all nmC
theorem neI (c k : Nat) : ((c : Int) != (k : Int)) = (c != k) := by
  rw [Bool.eq_iff_iff, bne_iff_ne, bne_iff_ne]
  omega
theorem all_next {p : Nat → Bool} {l : List Nat} {i : Nat} (h : i < l.length) (ha : (l.take i).all p = true) (hp : p (l.getD i 0) = true) : (l.take (i + 1)).all p = true := by
  rw [List.take_succ_eq_append_getElem h, List.all_append, ha]
  have : l.getD i 0 = l[i] := by simp [List.getD, h]
  rw [this] at hp
  simp [hp]
theorem all_not {p : Nat → Bool} {l : List Nat} {i : Nat} (h : i < l.length) (hp : p (l.getD i 0) = false) : l.all p = false := by
  have : l.getD i 0 = l[i] := by simp [List.getD, h]
  rw [this] at hp
  rw [← Bool.not_eq_true, List.all_eq_true]
  intro hx
  have := hx _ (List.getElem_mem h)
  rw [hp] at this
  cases this

theorem good16 (l : List Nat) (ho : oct l) : Pg.Good Tryz.prog 178 [.c (.string (sB l))] (.c (.bool (isName l))) := by
  refine good_intro (drawW_ok mix) Tryz.func178 rfl Tryz.results178 rfl (by kernel_rfl) (Nat.le_of_ble_eq_true (by kernel_rfl)) ?_
  unfold isName
  rcases Nat.lt_or_ge l.length 1 with h1 | h1
  · have e1 : decide ((l.length : Int) < 1) = true := decide_eq_true (by omega)
    rw [decide_eq_false (show ¬ 1 ≤ l.length by omega)]
    simp only [Tryz.f178, pgs, pgl, pgx, pgf, Nat.reduceEqDiff, reduceIte, is9, sB_size, e1]
    refine ret_at [] _ (retV_one _ _ _) .nil ?_ ?_
    · simp only [pgs, pgl, pgx, pgf, Nat.reduceEqDiff, reduceIte]
    · simp only [pgs, pgl, pgx, pgf, Nat.reduceEqDiff, reduceIte]
  have e1 : decide ((l.length : Int) < 1) = false := decide_eq_false (by omega)
  rw [decide_eq_true h1]
  rcases Nat.lt_or_ge 16 l.length with h2 | h2
  · have e2 : decide ((16 : Int) < (l.length : Int)) = true := decide_eq_true (by omega)
    rw [decide_eq_false (show ¬ l.length ≤ 16 by omega)]
    simp only [Tryz.f178, pgs, pgl, pgx, pgf, Nat.reduceEqDiff, reduceIte, is9, sB_size, e1, e2]
    refine ret_at [] _ (retV_one _ _ _) .nil ?_ ?_
    · simp only [pgs, pgl, pgx, pgf, Nat.reduceEqDiff, reduceIte]
    · simp only [pgs, pgl, pgx, pgf, Nat.reduceEqDiff, reduceIte]
  have e2 : decide ((16 : Int) < (l.length : Int)) = false := decide_eq_false (by omega)
  rw [decide_eq_true h2]
  simp (disch := first | assumption | omega) only [Tryz.f178, pgs, pgl, pgx, pgf, Nat.reduceEqDiff, reduceIte, is9, sB_size, e1, e2, ixs, Int.reduceToNat]
  have g0 := good38 (l.getD 0 0)
  cases h3 : bt (l.getD 0 0) 97 122 <;> rw [h3] at g0
  · refine callW_use _ g0 rfl rfl rfl rfl ?_
    simp only [pgs, pgl, pgx, pgf, Nat.reduceEqDiff, reduceIte, unNot]
    refine ret_at [] _ (retV_one _ _ _) .nil ?_ ?_
    · simp only [pgs, pgl, pgx, pgf, Nat.reduceEqDiff, reduceIte]
    · simp only [pgs, pgl, pgx, pgf, Nat.reduceEqDiff, reduceIte]
  refine callW_use _ g0 rfl rfl rfl rfl ?_
  simp only [pgs, pgl, pgx, pgf, Nat.reduceEqDiff, reduceIte, unNot, is9, sB_size]
  refine loop_at (fun i => mkS [.c (.string (sB l)), .top, .top, .top, .top, .top, .top, .top, .top, .top, .top, .top, .top, .top, .top, .top, .top, .top, .top, .top, .c (.int .i64 l.length), .c (.int .i64 (i : Nat))] 0) (fun i => i ≤ l.length ∧ (l.take i).all nmC = true) (fun i => l.length - i) 0 [] [] ?_ ⟨Nat.zero_le _, rfl⟩ ?_
  · refine keep_mk ?_ .nil (Nat.le_refl _)
    simp only [pgs, pgl, pgx, pgf, GenE_cons, GenE_nil, gen_top, gen_c, gen_fz, Nat.reduceEqDiff, reduceIte, Nat.reduceAdd]
    exact of_eq_true (gen_c _ _ _)
  · rintro i ⟨hi, hall⟩ s hs
    simp only [mkS_at, pgs, pgl, Nat.reduceAdd] at hs
    subst hs
    rcases Nat.lt_or_ge i l.length with hlt | hge
    · have e4 : decide ((i : Int) < (l.length : Int)) = true := decide_eq_true (by omega)
      simp (disch := first | assumption | omega) only [pgs, pgl, pgx, pgf, Nat.reduceEqDiff, reduceIte, Nat.reduceAdd, e4, ixs, Int.toNat_natCast]
      generalize hcd : l.getD i 0 = c
      have g1 := good38 c
      have g2 := good39 c
      have e5 : ((c : Int) != 45) = (c != 45) := neI c 45
      have e6 : ((c : Int) != 46) = (c != 46) := neI c 46
      cases b1 : bt c 97 122 <;> rw [b1] at g1
      · refine callW_use _ g1 rfl rfl rfl rfl ?_
        simp only [pgs, pgl, pgx, pgf, Nat.reduceEqDiff, reduceIte, unNot]
        cases b2 : bt c 48 57 <;> rw [b2] at g2
        · refine callW_use _ g2 rfl rfl rfl rfl ?_
          cases b3 : (c != 45) <;> rw [b3] at e5
          · have hn : nmC (l.getD i 0) = true := by
              rw [hcd]; unfold nmC; rw [bne_eq_false_iff_eq] at b3; subst b3; rfl
            simp (disch := omega) only [pgs, pgl, pgx, pgf, Nat.reduceEqDiff, reduceIte, unNot, e5, i64w, headC_normal]
            refine back_at (i + 1) [] [] ⟨by omega, all_next hlt hall hn⟩ (by omega) (keep_mk ?_ .nil (Nat.le_refl _))
            simp only [pgs, pgl, pgx, pgf, GenE_cons, GenE_nil, gen_top, gen_c, gen_fz, Nat.reduceEqDiff, reduceIte, Nat.reduceAdd, Int.natCast_add, Int.cast_ofNat_Int]
          · cases b4 : (c != 46) <;> rw [b4] at e6
            · have hn : nmC (l.getD i 0) = true := by
                rw [hcd]; unfold nmC; rw [bne_eq_false_iff_eq] at b4; subst b4; rfl
              simp (disch := omega) only [pgs, pgl, pgx, pgf, Nat.reduceEqDiff, reduceIte, unNot, e5, e6, i64w, headC_normal]
              refine back_at (i + 1) [] [] ⟨by omega, all_next hlt hall hn⟩ (by omega) (keep_mk ?_ .nil (Nat.le_refl _))
              simp only [pgs, pgl, pgx, pgf, GenE_cons, GenE_nil, gen_top, gen_c, gen_fz, Nat.reduceEqDiff, reduceIte, Nat.reduceAdd, Int.natCast_add, Int.cast_ofNat_Int]
            · have hn : nmC (l.getD i 0) = false := by
                rw [hcd]; unfold nmC
                rw [bne_iff_ne] at b3 b4
                simp [b1, b2, b3, b4]
              rw [all_not hlt hn]
              simp (disch := omega) only [pgs, pgl, pgx, pgf, Nat.reduceEqDiff, reduceIte, unNot, e5, e6, i64w, headC_ret]
              refine ret_at [] _ (retV_one _ _ _) .nil ?_ ?_
              · simp only [pgs, pgl, pgx, pgf, Nat.reduceEqDiff, reduceIte]
              · simp only [pgs, pgl, pgx, pgf, Nat.reduceEqDiff, reduceIte]
        · have hn : nmC (l.getD i 0) = true := by rw [hcd]; unfold nmC; simp [b2]
          refine callW_use _ g2 rfl rfl rfl rfl ?_
          simp (disch := omega) only [pgs, pgl, pgx, pgf, Nat.reduceEqDiff, reduceIte, unNot, i64w, headC_normal]
          refine back_at (i + 1) [] [] ⟨by omega, all_next hlt hall hn⟩ (by omega) (keep_mk ?_ .nil (Nat.le_refl _))
          simp only [pgs, pgl, pgx, pgf, GenE_cons, GenE_nil, gen_top, gen_c, gen_fz, Nat.reduceEqDiff, reduceIte, Nat.reduceAdd, Int.natCast_add, Int.cast_ofNat_Int]
      · have hn : nmC (l.getD i 0) = true := by rw [hcd]; unfold nmC; simp [b1]
        refine callW_use _ g1 rfl rfl rfl rfl ?_
        simp (disch := omega) only [pgs, pgl, pgx, pgf, Nat.reduceEqDiff, reduceIte, unNot, i64w, headC_normal]
        refine back_at (i + 1) [] [] ⟨by omega, all_next hlt hall hn⟩ (by omega) (keep_mk ?_ .nil (Nat.le_refl _))
        simp only [pgs, pgl, pgx, pgf, GenE_cons, GenE_nil, gen_top, gen_c, gen_fz, Nat.reduceEqDiff, reduceIte, Nat.reduceAdd, Int.natCast_add, Int.cast_ofNat_Int]
    · have hil : i = l.length := by omega
      subst hil
      rw [List.take_length] at hall
      rw [hall]
      have e4 : decide ((l.length : Int) < (l.length : Int)) = false := decide_eq_false (by omega)
      simp only [pgs, pgl, pgx, pgf, Nat.reduceEqDiff, reduceIte, Nat.reduceAdd, e4, headC_exit]
      refine ret_at [] _ (retV_one _ _ _) .nil ?_ ?_
      · simp only [pgs, pgl, pgx, pgf, Nat.reduceEqDiff, reduceIte]
      · simp only [pgs, pgl, pgx, pgf, Nat.reduceEqDiff, reduceIte]
end Go.Proofs.YtjiolbcdfgclaaaGreatDoor
end

section
/-
  Names: the reference's IsName gives the same, of any string.
-/
namespace Go.Proofs.YtjiolbcdfgclaaaGreatDoor
open Go Go.Pg
set_option maxRecDepth 10000
set_option linter.unusedSimpArgs false

theorem good17 (l : List Nat) (ho : oct l) : Pg.Good Tryz.prog 84 [.c (.string (sB l))] (.c (.bool (isName l))) := by
  refine good_intro (drawW_ok mix) Tryz.func84 rfl Tryz.results84 rfl (by kernel_rfl) (Nat.le_of_ble_eq_true (by kernel_rfl)) ?_
  unfold isName
  rcases Nat.lt_or_ge l.length 1 with h1 | h1
  · have e1 : decide ((l.length : Int) < 1) = true := decide_eq_true (by omega)
    rw [decide_eq_false (show ¬ 1 ≤ l.length by omega)]
    simp only [Tryz.f84, pgs, pgl, pgx, pgf, Nat.reduceEqDiff, reduceIte, is9, sB_size, e1]
    refine ret_at [] _ (retV_one _ _ _) .nil ?_ ?_
    · simp only [pgs, pgl, pgx, pgf, Nat.reduceEqDiff, reduceIte]
    · simp only [pgs, pgl, pgx, pgf, Nat.reduceEqDiff, reduceIte]
  have e1 : decide ((l.length : Int) < 1) = false := decide_eq_false (by omega)
  rw [decide_eq_true h1]
  rcases Nat.lt_or_ge 16 l.length with h2 | h2
  · have e2 : decide ((16 : Int) < (l.length : Int)) = true := decide_eq_true (by omega)
    rw [decide_eq_false (show ¬ l.length ≤ 16 by omega)]
    simp only [Tryz.f84, pgs, pgl, pgx, pgf, Nat.reduceEqDiff, reduceIte, is9, sB_size, e1, e2]
    refine ret_at [] _ (retV_one _ _ _) .nil ?_ ?_
    · simp only [pgs, pgl, pgx, pgf, Nat.reduceEqDiff, reduceIte]
    · simp only [pgs, pgl, pgx, pgf, Nat.reduceEqDiff, reduceIte]
  have e2 : decide ((16 : Int) < (l.length : Int)) = false := decide_eq_false (by omega)
  rw [decide_eq_true h2]
  simp (disch := first | assumption | omega) only [Tryz.f84, pgs, pgl, pgx, pgf, Nat.reduceEqDiff, reduceIte, is9, sB_size, e1, e2, ixs, Int.reduceToNat]
  have g0 := good40 (l.getD 0 0) 97 122
  cases h3 : bt (l.getD 0 0) 97 122 <;> rw [h3] at g0
  · refine callW_use _ g0 rfl rfl rfl rfl ?_
    simp only [pgs, pgl, pgx, pgf, Nat.reduceEqDiff, reduceIte, unNot]
    refine ret_at [] _ (retV_one _ _ _) .nil ?_ ?_
    · simp only [pgs, pgl, pgx, pgf, Nat.reduceEqDiff, reduceIte]
    · simp only [pgs, pgl, pgx, pgf, Nat.reduceEqDiff, reduceIte]
  refine callW_use _ g0 rfl rfl rfl rfl ?_
  simp only [pgs, pgl, pgx, pgf, Nat.reduceEqDiff, reduceIte, unNot, is9, sB_size]
  refine loop_at (fun i => mkS [.c (.string (sB l)), .top, .top, .c (.int .i64 (i : Nat))] 0) (fun i => i ≤ l.length ∧ (l.take i).all nmC = true) (fun i => l.length - i) 0 [] [] ?_ ⟨Nat.zero_le _, rfl⟩ ?_
  · refine keep_mk ?_ .nil (Nat.le_refl _)
    simp only [pgs, pgl, pgx, pgf, GenE_cons, GenE_nil, gen_top, gen_c, gen_fz, Nat.reduceEqDiff, reduceIte, Nat.reduceAdd]
    exact of_eq_true (gen_c _ _ _)
  · rintro i ⟨hi, hall⟩ s hs
    simp only [mkS_at, pgs, pgl, Nat.reduceAdd] at hs
    subst hs
    rcases Nat.lt_or_ge i l.length with hlt | hge
    · have e4 : decide ((i : Int) < (l.length : Int)) = true := decide_eq_true (by omega)
      simp (disch := first | assumption | omega) only [pgs, pgl, pgx, pgf, Nat.reduceEqDiff, reduceIte, Nat.reduceAdd, is9, sB_size, e4, ixs, Int.toNat_natCast]
      generalize hcd : l.getD i 0 = c
      have g1 := good40 c 97 122
      have g2 := good40 c 48 57
      have e5 : ((c : Int) != 45) = (c != 45) := neI c 45
      have e6 : ((c : Int) != 46) = (c != 46) := neI c 46
      cases b1 : bt c 97 122 <;> rw [b1] at g1
      · refine callW_use _ g1 rfl rfl rfl rfl ?_
        simp (disch := first | assumption | omega) only [pgs, pgl, pgx, pgf, Nat.reduceEqDiff, reduceIte, unNot, ixs, Int.toNat_natCast, hcd]
        cases b2 : bt c 48 57 <;> rw [b2] at g2
        · refine callW_use _ g2 rfl rfl rfl rfl ?_
          cases b3 : (c != 45) <;> rw [b3] at e5
          · have hn : nmC (l.getD i 0) = true := by
              rw [hcd]; unfold nmC; rw [bne_eq_false_iff_eq] at b3; subst b3; rfl
            simp (disch := first | assumption | omega) only [pgs, pgl, pgx, pgf, Nat.reduceEqDiff, reduceIte, unNot, ixs, Int.toNat_natCast, hcd, e5, i64w, headC_normal]
            refine back_at (i + 1) [] [] ⟨by omega, all_next hlt hall hn⟩ (by omega) (keep_mk ?_ .nil (Nat.le_refl _))
            simp only [pgs, pgl, pgx, pgf, GenE_cons, GenE_nil, gen_top, gen_c, gen_fz, Nat.reduceEqDiff, reduceIte, Nat.reduceAdd, Int.natCast_add, Int.cast_ofNat_Int]
          · cases b4 : (c != 46) <;> rw [b4] at e6
            · have hn : nmC (l.getD i 0) = true := by
                rw [hcd]; unfold nmC; rw [bne_eq_false_iff_eq] at b4; subst b4; rfl
              simp (disch := first | assumption | omega) only [pgs, pgl, pgx, pgf, Nat.reduceEqDiff, reduceIte, unNot, ixs, Int.toNat_natCast, hcd, e5, e6, i64w, headC_normal]
              refine back_at (i + 1) [] [] ⟨by omega, all_next hlt hall hn⟩ (by omega) (keep_mk ?_ .nil (Nat.le_refl _))
              simp only [pgs, pgl, pgx, pgf, GenE_cons, GenE_nil, gen_top, gen_c, gen_fz, Nat.reduceEqDiff, reduceIte, Nat.reduceAdd, Int.natCast_add, Int.cast_ofNat_Int]
            · have hn : nmC (l.getD i 0) = false := by
                rw [hcd]; unfold nmC
                rw [bne_iff_ne] at b3 b4
                simp [b1, b2, b3, b4]
              rw [all_not hlt hn]
              simp (disch := first | assumption | omega) only [pgs, pgl, pgx, pgf, Nat.reduceEqDiff, reduceIte, unNot, ixs, Int.toNat_natCast, hcd, e5, e6, i64w, headC_ret]
              refine ret_at [] _ (retV_one _ _ _) .nil ?_ ?_
              · simp only [pgs, pgl, pgx, pgf, Nat.reduceEqDiff, reduceIte]
              · simp only [pgs, pgl, pgx, pgf, Nat.reduceEqDiff, reduceIte]
        · have hn : nmC (l.getD i 0) = true := by rw [hcd]; unfold nmC; simp [b2]
          refine callW_use _ g2 rfl rfl rfl rfl ?_
          simp (disch := first | assumption | omega) only [pgs, pgl, pgx, pgf, Nat.reduceEqDiff, reduceIte, unNot, ixs, Int.toNat_natCast, hcd, i64w, headC_normal]
          refine back_at (i + 1) [] [] ⟨by omega, all_next hlt hall hn⟩ (by omega) (keep_mk ?_ .nil (Nat.le_refl _))
          simp only [pgs, pgl, pgx, pgf, GenE_cons, GenE_nil, gen_top, gen_c, gen_fz, Nat.reduceEqDiff, reduceIte, Nat.reduceAdd, Int.natCast_add, Int.cast_ofNat_Int]
      · have hn : nmC (l.getD i 0) = true := by rw [hcd]; unfold nmC; simp [b1]
        refine callW_use _ g1 rfl rfl rfl rfl ?_
        simp (disch := first | assumption | omega) only [pgs, pgl, pgx, pgf, Nat.reduceEqDiff, reduceIte, unNot, ixs, Int.toNat_natCast, hcd, i64w, headC_normal]
        refine back_at (i + 1) [] [] ⟨by omega, all_next hlt hall hn⟩ (by omega) (keep_mk ?_ .nil (Nat.le_refl _))
        simp only [pgs, pgl, pgx, pgf, GenE_cons, GenE_nil, gen_top, gen_c, gen_fz, Nat.reduceEqDiff, reduceIte, Nat.reduceAdd, Int.natCast_add, Int.cast_ofNat_Int]
    · have hil : i = l.length := by omega
      subst hil
      rw [List.take_length] at hall
      rw [hall]
      have e4 : decide ((l.length : Int) < (l.length : Int)) = false := decide_eq_false (by omega)
      simp only [pgs, pgl, pgx, pgf, Nat.reduceEqDiff, reduceIte, Nat.reduceAdd, is9, sB_size, e4, headC_exit]
      refine ret_at [] _ (retV_one _ _ _) .nil ?_ ?_
      · simp only [pgs, pgl, pgx, pgf, Nat.reduceEqDiff, reduceIte]
      · simp only [pgs, pgl, pgx, pgf, Nat.reduceEqDiff, reduceIte]
end Go.Proofs.YtjiolbcdfgclaaaGreatDoor
end

section
/-
  Names: ValidateItem, of the program and of the reference, of any item.
-/
namespace Go.Proofs.YtjiolbcdfgclaaaGreatDoor
open Go Go.Pg
set_option maxRecDepth 100000
set_option linter.unusedSimpArgs false

theorem isKey_t (l : List Nat) : (isKey l = true) = (1 ≤ l.length ∧ l.length ≤ 32) := by simp [isKey]
theorem isKey_f (l : List Nat) : (isKey l = false) = ¬ (1 ≤ l.length ∧ l.length ≤ 32) := by rw [← isKey_t, Bool.not_eq_true]
theorem isKey_T {l : List Nat} (h : 1 ≤ l.length ∧ l.length ≤ 32) : isKey l = true := by rw [isKey_t]; exact h
theorem isKey_F {l : List Nat} (h : ¬ (1 ≤ l.length ∧ l.length ≤ 32)) : isKey l = false := by rw [isKey_f]; exact h
/-- What an item's check answers. -/
def vitem (l : List Nat) (n : Int) : Int := if 1 ≤ l.length ∧ l.length ≤ 32 then (if 1 ≤ n ∧ n ≤ 4294967295 then 0 else 5) else 7
theorem g_ValidateItem (l : List Nat) (n : Int) : Pg.Good Tryz.prog 180 [.agg [vs l, vi n]] (vi (vitem l n)) := by
  refine good_intro (drawW_ok mix) Tryz.func180 rfl Tryz.results180 rfl (by kernel_rfl) (Nat.le_of_ble_eq_true (by kernel_rfl)) ?_
  skip
  (repeat' (first | (simp (disch := first | assumption | omega | (simp only [Fits, maxLen, pgq] at *; omega)) only [pgo, pgb, tyf, buildSliceV_w, simprocAttr, Tryz.f180]) | ((with_reducible show callW _ _ _ _ _ _); first | refine callW_use _ (good15 _) rfl rfl rfl rfl ?_) | ((first | ((with_reducible show condC _ _ _ _ _ _ _); refine cond_at (fun hc => ?_) (fun hc => ?_)) | ((with_reducible show guardC _ _ _ _ _ _ _ _); refine guard_at (fun hc => ?_) (fun hc => ?_)) | ((with_reducible show drwG _ _ _ _ _ _ _ _ _ _); refine drw_at (fun hc => ?_) (fun hc => ?_))) <;> (try simp only [hc]) <;> (try simp only [pgd, isKey_t, isKey_f] at hc)) | (with_reducible refine chk_at (by kernel_rfl) ?_)))
  all_goals (refine ret_at [] _ (by first | exact retV_one _ _ _ | exact retV_two _ _ _ _ | exact retV_three _ _ _ _ _ | exact retV_four _ _ _ _ _ _ | (simp (disch := first | assumption | omega | (simp only [Fits, maxLen, pgq] at *; omega)) only [pgr, pgo, tyf, simprocAttr]; rfl)) (by decide) (by simp only [pgo, simprocAttr]) ?_; (first | rfl | simp only [pgo, simprocAttr]))
  all_goals (unfold vitem; (repeat' split) <;> first | rfl | omega)
theorem g_ValidateItem1 (l : List Nat) (n : Int) : Pg.Good Tryz.prog 138 [.agg [vs l, vi n]] (vi (vitem l n)) := by
  refine good_intro (drawW_ok mix) Tryz.func138 rfl Tryz.results138 rfl (by kernel_rfl) (Nat.le_of_ble_eq_true (by kernel_rfl)) ?_
  (repeat' (first | (simp (disch := first | assumption | omega | (simp only [Fits, maxLen, pgq] at *; omega)) only [pgo, pgb, tyf, buildSliceV_w, simprocAttr, Tryz.f138]) | ((with_reducible show callW _ _ _ _ _ _); first | refine callW_use _ (good18 _) rfl rfl rfl rfl ?_) | ((first | ((with_reducible show condC _ _ _ _ _ _ _); refine cond_at (fun hc => ?_) (fun hc => ?_)) | ((with_reducible show guardC _ _ _ _ _ _ _ _); refine guard_at (fun hc => ?_) (fun hc => ?_)) | ((with_reducible show drwG _ _ _ _ _ _ _ _ _ _); refine drw_at (fun hc => ?_) (fun hc => ?_))) <;> (try simp only [hc]) <;> (try simp only [pgd, isKey_t, isKey_f] at hc)) | (with_reducible refine chk_at (by kernel_rfl) ?_)))
  all_goals (refine ret_at [] _ (by first | exact retV_one _ _ _ | exact retV_two _ _ _ _ | exact retV_three _ _ _ _ _ | exact retV_four _ _ _ _ _ _ | (simp (disch := first | assumption | omega | (simp only [Fits, maxLen, pgq] at *; omega)) only [pgr, pgo, tyf, simprocAttr]; rfl)) (by decide) (by simp only [pgo, simprocAttr]) ?_; (first | rfl | simp only [pgo, simprocAttr]))
  all_goals (unfold vitem; (repeat' split) <;> first | rfl | omega)
end Go.Proofs.YtjiolbcdfgclaaaGreatDoor
end

section
/-
  Names: strings.IndexByte; the first place of an octet in a string.
-/
namespace Go.Proofs.YtjiolbcdfgclaaaGreatDoor
open Go Go.Pg
set_option maxRecDepth 10000
set_option linter.unusedSimpArgs false

/-- The first place of 'c', or -1. -/
def ixB (l : List Nat) (c : Nat) : Int :=
  match (List.range l.length).find? fun i => l.getD i 0 == c with
  | some i => i
  | none => -1
theorem find_congr {p q : Nat → Bool} : ∀ (xs : List Nat), (∀ i ∈ xs, p i = q i) → xs.find? p = xs.find? q := by
  intro xs
  induction xs with
  | nil => intro _; rfl
  | cons x xs ih =>
    intro h
    rw [List.find?_cons, List.find?_cons, h x (by simp), ih (fun i hi => h i (by simp [hi]))]
theorem firstIdx_sB {l : List Nat} (ho : oct l) {c : Nat} (hc : c < 256) : firstIdx (sB l) ((c : Int).toNat.toUInt8) = ixB l c := by
  unfold firstIdx ixB
  rw [sB_size]
  rw [find_congr (q := fun i => l.getD i 0 == c) (List.range l.length) ?_]
  · cases (List.range l.length).find? fun i => l.getD i 0 == c <;> rfl
  · intro i hi
    have hi := List.mem_range.1 hi
    have hg : (sB l)[i]! = (sB l)[i]'(by rw [sB_size]; exact hi) := getElem!_pos (sB l) i _
    have e : (sB l)[i]! = UInt8.ofNat (l.getD i 0) := by
      rw [hg]
      show (sB l).data[i]'_ = _
      simp [sB, List.getD, hi]
    rw [e]
    have hb := getD_lt ho i
    rw [Bool.eq_iff_iff, beq_iff_eq, beq_iff_eq]
    constructor
    · intro h
      have := congrArg UInt8.toNat h
      simp only [UInt8.toNat_ofNat', Int.toNat_natCast, Nat.toUInt8] at this
      omega
    · intro h
      rw [h]
      rfl
theorem good56 (l : List Nat) (c : Nat) (ho : oct l) (hc : c < 256) : GoodX Tryz.prog 227 [.c (.string (sB l)), .c (.int .u8 (c : Int))] (.c (.int .i64 (ixB l c))) := by
  rintro L w cargs ⟨_, _, rfl, rfl, _, _, rfl, rfl, rfl⟩
  refine ⟨_, ?_, rfl⟩
  rw [run_callFunc_extern Tryz.func227 (by kernel_rfl) (by kernel_rfl) (by kernel_rfl) (e := Extern.BytealgIndexByte.indexByte) (by kernel_rfl)]
  show ((Extern.BytealgIndexByte.indexByte #[.string (sB l), .int .u8 (c : Int)]).run Tryz.prog w).andThen _ = _
  rw [run_indexByte_string, firstIdx_sB ho hc]
  rfl
theorem callZ {P : Program} [Tb P] {g : FuncId} {args : List Operand} {d : Option Nat} {s s' : St} {K : Kd → St → Prop} {vs : List V} (r : V) (hg : GoodZ P g vs s s' r) (hvs : args.map s.ev = vs) (hK : K .z (s'.put d r)) : callW P (.fn g [] []) args d s K := by
  refine .inr ⟨s', r, ?_, hK⟩
  simpa [hvs] using hg
theorem good48 (l : List Nat) (c : Nat) (ho : oct l) (hc : c < 256) : Pg.Good Tryz.prog 191 [.c (.string (sB l)), .c (.int .u8 (c : Int))] (.c (.int .i64 (ixB l c))) := by
  refine good_intro (drawW_ok mix) Tryz.func191 rfl Tryz.results191 rfl (by kernel_rfl) (Nat.le_of_ble_eq_true (by kernel_rfl)) ?_
  simp only [Tryz.f191, pgs, pgl, pgx, pgf, Nat.reduceEqDiff, reduceIte]
  refine callZ _ ((good56 l c ho hc).z _) rfl ?_
  simp only [pgs, pgl, pgx, pgf, Nat.reduceEqDiff, reduceIte]
  refine ret_at [] _ (retV_one _ _ _) .nil ?_ ?_
  · simp only [pgs, pgl, pgx, pgf, Nat.reduceEqDiff, reduceIte]
  · simp only [pgs, pgl, pgx, pgf, Nat.reduceEqDiff, reduceIte]
theorem good36 (l : List Nat) (c : Nat) (ho : oct l) (hc : c < 256) : Pg.Good Tryz.prog 144 [.c (.string (sB l)), .c (.int .u8 (c : Int))] (.c (.int .i64 (ixB l c))) := by
  refine good_intro (drawW_ok mix) Tryz.func144 rfl Tryz.results144 rfl (by kernel_rfl) (Nat.le_of_ble_eq_true (by kernel_rfl)) ?_
  simp only [Tryz.f144, pgs, pgl, pgx, pgf, Nat.reduceEqDiff, reduceIte]
  refine callW_use _ (good48 l c ho hc) rfl rfl rfl rfl ?_
  simp only [pgs, pgl, pgx, pgf, Nat.reduceEqDiff, reduceIte]
  refine ret_at [] _ (retV_one _ _ _) .nil ?_ ?_
  · simp only [pgs, pgl, pgx, pgf, Nat.reduceEqDiff, reduceIte]
  · simp only [pgs, pgl, pgx, pgf, Nat.reduceEqDiff, reduceIte]
end Go.Proofs.YtjiolbcdfgclaaaGreatDoor
end

section
/-
  Names: strings.CutPrefix and strings.HasPrefix; plain, of the program and of the reference.
-/
namespace Go.Proofs.YtjiolbcdfgclaaaGreatDoor
open Go Go.Pg
set_option maxRecDepth 10000
set_option linter.unusedSimpArgs false

theorem sls (l : List Nat) (k1 k2 : IntKind) (lo hi : Int) (h0 : 0 ≤ lo) (h1 : lo ≤ hi) (h2 : hi ≤ l.length) : slV Tryz.prog 9 (.c (.string (sB l))) (some (.c (.int k1 lo))) (some (.c (.int k2 hi))) = some (.c (.string (sB ((l.take hi.toNat).drop lo.toNat)))) := by
  rw [slV_str]
  simp only [bdV_int, Option.bind_some, sB_size]
  rw [if_pos ⟨is9, h0, h1, h2⟩, sB_ext]
theorem slsa (l : List Nat) (k1 : IntKind) (lo : Int) (h0 : 0 ≤ lo) (h2 : lo ≤ l.length) : slV Tryz.prog 9 (.c (.string (sB l))) (some (.c (.int k1 lo))) none = some (.c (.string (sB (l.drop lo.toNat)))) := by
  rw [slV_str]
  simp only [bdV_int, bdV_none, Option.bind_some, sB_size]
  rw [if_pos ⟨is9, h0, h2, Int.le_refl _⟩, sB_ext, Int.toNat_natCast, List.take_length]
theorem slsb (l : List Nat) (k2 : IntKind) (hi : Int) (h0 : 0 ≤ hi) (h2 : hi ≤ l.length) : slV Tryz.prog 9 (.c (.string (sB l))) none (some (.c (.int k2 hi))) = some (.c (.string (sB (l.take hi.toNat)))) := by
  rw [slV_str]
  simp only [bdV_int, bdV_none, Option.bind_some, sB_size]
  rw [if_pos ⟨is9, by simp, h0, h2⟩, sB_ext]
  simp

def hasP (l p : List Nat) : Bool := decide (p.length ≤ l.length) && decide (l.take p.length = p)
theorem good55 (l p : List Nat) (ho : oct l) (hp : oct p) : Pg.Good Tryz.prog 251 [.c (.string (sB l)), .c (.string (sB p))] (.c (.bool (hasP l p))) := by
  refine good_intro (drawW_ok mix) Tryz.func251 rfl Tryz.results251 rfl (by kernel_rfl) (Nat.le_of_ble_eq_true (by kernel_rfl)) ?_
  unfold hasP
  rcases Nat.lt_or_ge l.length p.length with h | h
  · have e1 : decide ((p.length : Int) ≤ (l.length : Int)) = false := decide_eq_false (by omega)
    rw [decide_eq_false (show ¬ p.length ≤ l.length by omega)]
    simp only [Tryz.f251, pgs, pgl, pgx, pgf, Nat.reduceEqDiff, reduceIte, is9, sB_size, e1]
    refine ret_at [] _ (retV_one _ _ _) .nil ?_ ?_
    · simp only [pgs, pgl, pgx, pgf, Nat.reduceEqDiff, reduceIte]
    · simp only [pgs, pgl, pgx, pgf, Nat.reduceEqDiff, reduceIte]
  · have e1 : decide ((p.length : Int) ≤ (l.length : Int)) = true := decide_eq_true (by omega)
    rw [decide_eq_true h]
    simp (disch := omega) only [Tryz.f251, pgs, pgl, pgx, pgf, Nat.reduceEqDiff, reduceIte, is9, sB_size, e1, slsb, Int.toNat_natCast, sB_dec (oct_take ho _) hp]
    refine ret_at [] _ (retV_one _ _ _) .nil ?_ ?_
    · simp only [pgs, pgl, pgx, pgf, Nat.reduceEqDiff, reduceIte]
    · simp only [pgs, pgl, pgx, pgf, Nat.reduceEqDiff, reduceIte]
def cutP (l p : List Nat) : V := if hasP l p = true then .tup [.c (.string (sB (l.drop p.length))), .c (.bool true)] else .tup [.c (.string (sB l)), .c (.bool false)]
theorem good47 (l p : List Nat) (ho : oct l) (hp : oct p) : Pg.Good Tryz.prog 228 [.c (.string (sB l)), .c (.string (sB p))] (cutP l p) := by
  refine good_intro (drawW_ok mix) Tryz.func228 rfl Tryz.results228 rfl (by kernel_rfl) (Nat.le_of_ble_eq_true (by kernel_rfl)) ?_
  have g := good55 l p ho hp
  unfold cutP
  simp only [Tryz.f228, pgs, pgl, pgx, pgf, Nat.reduceEqDiff, reduceIte]
  cases h : hasP l p <;> rw [h] at g
  · refine callW_use _ g rfl rfl rfl rfl ?_
    simp only [pgs, pgl, pgx, pgf, Nat.reduceEqDiff, reduceIte, unNot]
    refine ret_at [] _ (retV_two _ _ _ _) .nil ?_ ?_
    · simp only [pgs, pgl, pgx, pgf, Nat.reduceEqDiff, reduceIte]
    · simp only [pgs, pgl, pgx, pgf, Nat.reduceEqDiff, reduceIte]
  · have hl : p.length ≤ l.length := by
      unfold hasP at h
      simp only [Bool.and_eq_true, decide_eq_true_eq] at h
      exact h.1
    refine callW_use _ g rfl rfl rfl rfl ?_
    simp (disch := omega) only [pgs, pgl, pgx, pgf, Nat.reduceEqDiff, reduceIte, unNot, is9, sB_size, slsa, Int.toNat_natCast]
    refine ret_at [] _ (retV_two _ _ _ _) .nil ?_ ?_
    · simp only [pgs, pgl, pgx, pgf, Nat.reduceEqDiff, reduceIte]
    · simp only [pgs, pgl, pgx, pgf, Nat.reduceEqDiff, reduceIte]
theorem cutP_cases (l p : List Nat) : (hasP l p = true ∧ cutP l p = .tup [.c (.string (sB (l.drop p.length))), .c (.bool true)]) ∨ (hasP l p = false ∧ cutP l p = .tup [.c (.string (sB l)), .c (.bool false)]) := by
  unfold cutP
  cases h : hasP l p <;> simp
theorem good35 (l p : List Nat) (ho : oct l) (hp : oct p) : Pg.Good Tryz.prog 192 [.c (.string (sB l)), .c (.string (sB p))] (cutP l p) := by
  refine good_intro (drawW_ok mix) Tryz.func192 rfl Tryz.results192 rfl (by kernel_rfl) (Nat.le_of_ble_eq_true (by kernel_rfl)) ?_
  have g := good47 l p ho hp
  simp only [Tryz.f192, pgs, pgl, pgx, pgf, Nat.reduceEqDiff, reduceIte]
  rcases cutP_cases l p with ⟨_, h⟩ | ⟨_, h⟩ <;> rw [h] at g ⊢
  all_goals
    refine callW_use _ g rfl rfl rfl rfl ?_
    simp only [pgs, pgl, pgx, pgf, Nat.reduceEqDiff, reduceIte]
    refine ret_at [] _ (retV_two _ _ _ _) .nil ?_ ?_
    · simp only [pgs, pgl, pgx, pgf, Nat.reduceEqDiff, reduceIte]
    · simp only [pgs, pgl, pgx, pgf, Nat.reduceEqDiff, reduceIte]
end Go.Proofs.YtjiolbcdfgclaaaGreatDoor
end

section
/-
  Names: plain, of the program and of the reference, of any string.
-/
namespace Go.Proofs.YtjiolbcdfgclaaaGreatDoor
open Go Go.Pg
set_option maxRecDepth 10000
set_option linter.unusedSimpArgs false

def mk5 (c : Nat) : Bool := c != 95 && (c != 45 && (c != 46 && (c != 58 && c != 47)))
def plC (c : Nat) : Bool := bt c 97 122 || bt c 65 90 || bt c 48 57 || !mk5 c
def plain (l : List Nat) : Bool := l.all plC
theorem ix5 (c : Nat) : decide (ixB [95, 45, 46, 58, 47] c < 0) = mk5 c := by
  unfold ixB mk5
  rw [show List.range [95, 45, 46, 58, 47].length = [0, 1, 2, 3, 4] from rfl]
  by_cases h1 : c = 95
  · subst h1; rfl
  by_cases h2 : c = 45
  · subst h2; rfl
  by_cases h3 : c = 46
  · subst h3; rfl
  by_cases h4 : c = 58
  · subst h4; rfl
  by_cases h5 : c = 47
  · subst h5; rfl
  simp [List.getD, h1, h2, h3, h4, h5, Ne.symm h1, Ne.symm h2, Ne.symm h3, Ne.symm h4, Ne.symm h5]
theorem oct5 : oct [95, 45, 46, 58, 47] := by intro b hb; simp at hb; omega

theorem good30 (l : List Nat) (ho : oct l) (hl : l.length ≤ 4294967296) : Pg.Good Tryz.prog 134 [.c (.string (sB l))] (.c (.bool (plain l))) := by
  refine good_intro (drawW_ok mix) Tryz.func134 rfl Tryz.results134 rfl (by kernel_rfl) (Nat.le_of_ble_eq_true (by kernel_rfl)) ?_
  unfold plain
  simp only [Tryz.f134, pgs, pgl, pgx, pgf, Nat.reduceEqDiff, reduceIte, is9, sB_size]
  refine loop_at (fun i => mkS [.c (.string (sB l)), .top, .top, .top, .top, .top, .c (.int .i64 l.length), .c (.int .i64 (i : Nat))] 0) (fun i => i ≤ l.length ∧ (l.take i).all plC = true) (fun i => l.length - i) 0 [] [] ?_ ⟨Nat.zero_le _, rfl⟩ ?_
  · refine keep_mk ?_ .nil (Nat.le_refl _)
    simp only [pgs, pgl, pgx, pgf, GenE_cons, GenE_nil, gen_top, gen_c, gen_fz, Nat.reduceEqDiff, reduceIte, Nat.reduceAdd]
    exact of_eq_true (gen_c _ _ _)
  · rintro i ⟨hi, hall⟩ s hs
    simp only [mkS_at, pgs, pgl, Nat.reduceAdd] at hs
    subst hs
    rcases Nat.lt_or_ge i l.length with hlt | hge
    · have e4 : decide ((i : Int) < (l.length : Int)) = true := decide_eq_true (by omega)
      simp (disch := first | assumption | omega) only [pgs, pgl, pgx, pgf, Nat.reduceEqDiff, reduceIte, Nat.reduceAdd, e4, ixs, Int.toNat_natCast]
      have hcb := getD_lt ho i
      generalize hcd : l.getD i 0 = c at hcb
      have g1 := good38 c
      have g2 := good45 c
      have g3 := good39 c
      have g4 := good36 [95, 45, 46, 58, 47] c oct5 hcb
      have e5 := ix5 c
      have go : plC (l.getD i 0) = true → ∀ x : Nat → V, x 0 = .c (.string (sB l)) → x 6 = .c (.int .i64 l.length) → x 7 = .c (.int .i64 ((i : Int) + 1)) → ∀ n h, backC (fun i => mkS [.c (.string (sB l)), .top, .top, .top, .top, .top, .c (.int .i64 l.length), .c (.int .i64 (i : Nat))] 0) (fun i => i ≤ l.length ∧ (l.take i).all plC = true) (fun i => l.length - i) i ⟨x, fun _ => none, n, h⟩ := by
        intro hn x h0 h6 h7 n h
        refine back_at (i + 1) [] [] ⟨by omega, all_next hlt hall hn⟩ (by omega) (keep_mk ?_ .nil (Nat.zero_le _))
        simp only [pgs, pgl, pgx, pgf, GenE_cons, GenE_nil, gen_top, Nat.reduceAdd, h0, h6, h7, gen_c, Int.natCast_add, Int.cast_ofNat_Int]
      cases b1 : bt c 97 122 <;> rw [b1] at g1
      · refine callW_use _ g1 rfl rfl rfl rfl ?_
        simp only [pgs, pgl, pgx, pgf, Nat.reduceEqDiff, reduceIte, unNot]
        cases b2 : bt c 65 90 <;> rw [b2] at g2
        · refine callW_use _ g2 rfl rfl rfl rfl ?_
          simp only [pgs, pgl, pgx, pgf, Nat.reduceEqDiff, reduceIte, unNot]
          cases b3 : bt c 48 57 <;> rw [b3] at g3
          · refine callW_use _ g3 rfl rfl rfl rfl ?_
            simp only [pgs, pgl, pgx, pgf, Nat.reduceEqDiff, reduceIte, unNot]
            refine callW_use _ g4 rfl rfl rfl rfl ?_
            cases b4 : mk5 c <;> rw [b4] at e5
            · simp (disch := omega) only [pgs, pgl, pgx, pgf, Nat.reduceEqDiff, reduceIte, unNot, e5, i64w, headC_normal]
              exact go (by rw [hcd]; unfold plC; rw [b4]; simp) _ rfl rfl rfl _ _
            · have hn : plC (l.getD i 0) = false := by rw [hcd]; unfold plC; simp [b1, b2, b3, b4]
              rw [all_not hlt hn]
              simp (disch := omega) only [pgs, pgl, pgx, pgf, Nat.reduceEqDiff, reduceIte, unNot, e5, i64w, headC_ret]
              refine ret_at [] _ (retV_one _ _ _) .nil ?_ ?_
              · simp only [pgs, pgl, pgx, pgf, Nat.reduceEqDiff, reduceIte]
              · simp only [pgs, pgl, pgx, pgf, Nat.reduceEqDiff, reduceIte]
          · refine callW_use _ g3 rfl rfl rfl rfl ?_
            simp (disch := omega) only [pgs, pgl, pgx, pgf, Nat.reduceEqDiff, reduceIte, unNot, i64w, headC_normal]
            exact go (by rw [hcd]; unfold plC; rw [b3]; simp) _ rfl rfl rfl _ _
        · refine callW_use _ g2 rfl rfl rfl rfl ?_
          simp (disch := omega) only [pgs, pgl, pgx, pgf, Nat.reduceEqDiff, reduceIte, unNot, i64w, headC_normal]
          exact go (by rw [hcd]; unfold plC; rw [b2]; simp) _ rfl rfl rfl _ _
      · refine callW_use _ g1 rfl rfl rfl rfl ?_
        simp (disch := omega) only [pgs, pgl, pgx, pgf, Nat.reduceEqDiff, reduceIte, unNot, i64w, headC_normal]
        exact go (by rw [hcd]; unfold plC; rw [b1]; simp) _ rfl rfl rfl _ _
    · have hil : i = l.length := by omega
      subst hil
      rw [List.take_length] at hall
      rw [hall]
      have e4 : decide ((l.length : Int) < (l.length : Int)) = false := decide_eq_false (by omega)
      simp only [pgs, pgl, pgx, pgf, Nat.reduceEqDiff, reduceIte, Nat.reduceAdd, e4, headC_exit]
      refine ret_at [] _ (retV_one _ _ _) .nil ?_ ?_
      · simp only [pgs, pgl, pgx, pgf, Nat.reduceEqDiff, reduceIte]
      · simp only [pgs, pgl, pgx, pgf, Nat.reduceEqDiff, reduceIte]
end Go.Proofs.YtjiolbcdfgclaaaGreatDoor
end

section
/-
  Names: the reference's plain gives the same, of any string.
-/
namespace Go.Proofs.YtjiolbcdfgclaaaGreatDoor
open Go Go.Pg
set_option maxRecDepth 10000
set_option linter.unusedSimpArgs false

theorem good33 (l : List Nat) (ho : oct l) (hl : l.length ≤ 4294967296) : Pg.Good Tryz.prog 142 [.c (.string (sB l))] (.c (.bool (plain l))) := by
  refine good_intro (drawW_ok mix) Tryz.func142 rfl Tryz.results142 rfl (by kernel_rfl) (Nat.le_of_ble_eq_true (by kernel_rfl)) ?_
  unfold plain
  simp only [Tryz.f142, pgs, pgl, pgx, pgf, Nat.reduceEqDiff, reduceIte, is9, sB_size]
  refine loop_at (fun i => mkS [.c (.string (sB l)), .top, .top, .c (.int .i64 (i : Nat))] 0) (fun i => i ≤ l.length ∧ (l.take i).all plC = true) (fun i => l.length - i) 0 [] [] ?_ ⟨Nat.zero_le _, rfl⟩ ?_
  · refine keep_mk ?_ .nil (Nat.le_refl _)
    simp only [pgs, pgl, pgx, pgf, GenE_cons, GenE_nil, gen_top, gen_c, gen_fz, Nat.reduceEqDiff, reduceIte, Nat.reduceAdd]
    exact of_eq_true (gen_c _ _ _)
  · rintro i ⟨hi, hall⟩ s hs
    simp only [mkS_at, pgs, pgl, Nat.reduceAdd] at hs
    subst hs
    rcases Nat.lt_or_ge i l.length with hlt | hge
    · have e4 : decide ((i : Int) < (l.length : Int)) = true := decide_eq_true (by omega)
      simp (disch := first | assumption | omega) only [pgs, pgl, pgx, pgf, Nat.reduceEqDiff, reduceIte, Nat.reduceAdd, is9, sB_size, e4, ixs, Int.toNat_natCast]
      have hcb := getD_lt ho i
      generalize hcd : l.getD i 0 = c at hcb
      have g1 := good40 c 97 122
      have g2 := good40 c 65 90
      have g3 := good40 c 48 57
      have f1 : ((c : Int) != 95) = (c != 95) := neI c 95
      have f2 : ((c : Int) != 45) = (c != 45) := neI c 45
      have f3 : ((c : Int) != 46) = (c != 46) := neI c 46
      have f4 : ((c : Int) != 58) = (c != 58) := neI c 58
      have f5 : ((c : Int) != 47) = (c != 47) := neI c 47
      have go : plC (l.getD i 0) = true → ∀ x : Nat → V, x 0 = .c (.string (sB l)) → x 3 = .c (.int .i64 ((i : Int) + 1)) → ∀ n h, backC (fun i => mkS [.c (.string (sB l)), .top, .top, .c (.int .i64 (i : Nat))] 0) (fun i => i ≤ l.length ∧ (l.take i).all plC = true) (fun i => l.length - i) i ⟨x, fun _ => none, n, h⟩ := by
        intro hn x h0 h3 n h
        refine back_at (i + 1) [] [] ⟨by omega, all_next hlt hall hn⟩ (by omega) (keep_mk ?_ .nil (Nat.zero_le _))
        simp only [pgs, pgl, pgx, pgf, GenE_cons, GenE_nil, gen_top, Nat.reduceAdd, h0, h3, gen_c, Int.natCast_add, Int.cast_ofNat_Int]
      cases b1 : bt c 97 122 <;> rw [b1] at g1
      · refine callW_use _ g1 rfl rfl rfl rfl ?_
        simp only [pgs, pgl, pgx, pgf, Nat.reduceEqDiff, reduceIte, unNot]
        cases b2 : bt c 65 90 <;> rw [b2] at g2
        · refine callW_use _ g2 rfl rfl rfl rfl ?_
          simp only [pgs, pgl, pgx, pgf, Nat.reduceEqDiff, reduceIte, unNot]
          cases b3 : bt c 48 57 <;> rw [b3] at g3
          · refine callW_use _ g3 rfl rfl rfl rfl ?_
            cases a1 : (c != 95) <;> rw [a1] at f1
            · simp (disch := first | assumption | omega) only [pgs, pgl, pgx, pgf, Nat.reduceEqDiff, reduceIte, unNot, ixs, Int.toNat_natCast, hcd, i64w, f1, headC_normal]
              exact go (by rw [hcd]; unfold plC mk5; rw [a1]; simp) _ rfl rfl _ _
            cases a2 : (c != 45) <;> rw [a2] at f2
            · simp (disch := first | assumption | omega) only [pgs, pgl, pgx, pgf, Nat.reduceEqDiff, reduceIte, unNot, ixs, Int.toNat_natCast, hcd, i64w, f1, f2, headC_normal]
              exact go (by rw [hcd]; unfold plC mk5; rw [a1, a2]; simp) _ rfl rfl _ _
            cases a3 : (c != 46) <;> rw [a3] at f3
            · simp (disch := first | assumption | omega) only [pgs, pgl, pgx, pgf, Nat.reduceEqDiff, reduceIte, unNot, ixs, Int.toNat_natCast, hcd, i64w, f1, f2, f3, headC_normal]
              exact go (by rw [hcd]; unfold plC mk5; rw [a1, a2, a3]; simp) _ rfl rfl _ _
            cases a4 : (c != 58) <;> rw [a4] at f4
            · simp (disch := first | assumption | omega) only [pgs, pgl, pgx, pgf, Nat.reduceEqDiff, reduceIte, unNot, ixs, Int.toNat_natCast, hcd, i64w, f1, f2, f3, f4, headC_normal]
              exact go (by rw [hcd]; unfold plC mk5; rw [a1, a2, a3, a4]; simp) _ rfl rfl _ _
            cases a5 : (c != 47) <;> rw [a5] at f5
            · simp (disch := first | assumption | omega) only [pgs, pgl, pgx, pgf, Nat.reduceEqDiff, reduceIte, unNot, ixs, Int.toNat_natCast, hcd, i64w, f1, f2, f3, f4, f5, headC_normal]
              exact go (by rw [hcd]; unfold plC mk5; rw [a1, a2, a3, a4, a5]; simp) _ rfl rfl _ _
            have hn : plC (l.getD i 0) = false := by rw [hcd]; unfold plC mk5; rw [b1, b2, b3, a1, a2, a3, a4, a5]; rfl
            rw [all_not hlt hn]
            simp (disch := first | assumption | omega) only [pgs, pgl, pgx, pgf, Nat.reduceEqDiff, reduceIte, unNot, ixs, Int.toNat_natCast, hcd, i64w, f1, f2, f3, f4, f5, headC_ret]
            refine ret_at [] _ (retV_one _ _ _) .nil ?_ ?_
            · simp only [pgs, pgl, pgx, pgf, Nat.reduceEqDiff, reduceIte]
            · simp only [pgs, pgl, pgx, pgf, Nat.reduceEqDiff, reduceIte]
          · refine callW_use _ g3 rfl rfl rfl rfl ?_
            simp (disch := omega) only [pgs, pgl, pgx, pgf, Nat.reduceEqDiff, reduceIte, unNot, i64w, headC_normal]
            exact go (by rw [hcd]; unfold plC; rw [b3]; simp) _ rfl rfl _ _
        · refine callW_use _ g2 rfl rfl rfl rfl ?_
          simp (disch := omega) only [pgs, pgl, pgx, pgf, Nat.reduceEqDiff, reduceIte, unNot, i64w, headC_normal]
          exact go (by rw [hcd]; unfold plC; rw [b2]; simp) _ rfl rfl _ _
      · refine callW_use _ g1 rfl rfl rfl rfl ?_
        simp (disch := omega) only [pgs, pgl, pgx, pgf, Nat.reduceEqDiff, reduceIte, unNot, i64w, headC_normal]
        exact go (by rw [hcd]; unfold plC; rw [b1]; simp) _ rfl rfl _ _
    · have hil : i = l.length := by omega
      subst hil
      rw [List.take_length] at hall
      rw [hall]
      have e4 : decide ((l.length : Int) < (l.length : Int)) = false := decide_eq_false (by omega)
      simp only [pgs, pgl, pgx, pgf, Nat.reduceEqDiff, reduceIte, Nat.reduceAdd, is9, sB_size, e4, headC_exit]
      refine ret_at [] _ (retV_one _ _ _) .nil ?_ ?_
      · simp only [pgs, pgl, pgx, pgf, Nat.reduceEqDiff, reduceIte]
      · simp only [pgs, pgl, pgx, pgf, Nat.reduceEqDiff, reduceIte]
end Go.Proofs.YtjiolbcdfgclaaaGreatDoor
end

section
/-
  Names: the reference's Hex and FormatKey, of any string.
-/
namespace Go.Proofs.YtjiolbcdfgclaaaGreatDoor
open Go Go.Pg
set_option maxRecDepth 10000
set_option linter.unusedSimpArgs false

def hexd : List Nat := [48, 49, 50, 51, 52, 53, 54, 55, 56, 57, 97, 98, 99, 100, 101, 102]
theorem hexs : (⟨#[48, 49, 50, 51, 52, 53, 54, 55, 56, 57, 97, 98, 99, 100, 101, 102]⟩ : ByteArray) = sB hexd := by rfl
theorem hexd_oct : oct hexd := by intro b hb; simp [hexd] at hb; omega
theorem nils : (⟨#[]⟩ : ByteArray) = sB [] := by rfl
theorem pcts : (⟨#[37]⟩ : ByteArray) = sB [37] := by rfl
def hx (d : Nat) : Nat := hexd.getD d 0
def hexL (l : List Nat) : List Nat := l.flatMap fun c => [hx (c / 16), hx (c % 16)]
theorem hexL_next {l : List Nat} {i : Nat} (h : i < l.length) : hexL (l.take (i + 1)) = hexL (l.take i) ++ [hx (l.getD i 0 / 16)] ++ [hx (l.getD i 0 % 16)] := by
  rw [List.take_succ_eq_append_getElem h, hexL, List.flatMap_append]
  simp [hexL, List.getD, h]
theorem hexL_len (l : List Nat) : (hexL l).length = 2 * l.length := by
  induction l with
  | nil => rfl
  | cons a l ih => simp only [hexL, List.flatMap_cons, List.length_append, List.length_cons, List.length_nil] at ih ⊢; omega
theorem hx_lt (d : Nat) : hx d < 256 := getD_lt hexd_oct d
theorem hexL_oct (l : List Nat) : oct (hexL l) := by
  intro b hb
  obtain ⟨c, _, h⟩ := List.mem_flatMap.1 hb
  simp only [List.mem_cons, List.not_mem_nil, or_false] at h
  rcases h with rfl | rfl <;> exact hx_lt _
theorem hexs_at (d : Nat) (h : d < 16) : (hexd.take (d + 1)).drop d = [hx d] := by
  have : ∀ d : Fin 16, (hexd.take (d + 1)).drop d = [hx d] := by decide
  exact this ⟨d, h⟩
theorem shr4 (a : Nat) : Int.fdiv (a : Int) (2 ^ min (Int.toNat 4) IntKind.u8.bits) = ((a / 16 : Nat) : Int) := by
  show Int.fdiv (a : Int) ((16 : Nat) : Int) = _
  rw [Int.fdiv_eq_ediv_of_nonneg _ (Int.natCast_nonneg _), Int.natCast_ediv]
theorem and15 (a : Nat) (h : a < 256) : bits .and .u8 (a : Int) 15 = ((a % 16 : Nat) : Int) := by
  rw [u8_and15 _ (by omega) (by omega)]
  omega
theorem u8w (n : Int) (h : 0 ≤ n ∧ n ≤ 255) : IntKind.u8.wrap n = n := IntWalk.u8_in n h
theorem toN1 (a : Nat) : ((a : Int) + 1).toNat = a + 1 := by omega

theorem good34 (l : List Nat) (ho : oct l) (hl : l.length ≤ 4294967296) : Pg.Good Tryz.prog 90 [.c (.string (sB l))] (.c (.string (sB (hexL l)))) := by
  refine good_intro (drawW_ok mix) Tryz.func90 rfl Tryz.results90 rfl (by kernel_rfl) (Nat.le_of_ble_eq_true (by kernel_rfl)) ?_
  simp only [Tryz.f90, pgs, pgl, pgx, pgf, Nat.reduceEqDiff, reduceIte, is9, sB_size, nils]
  refine loop_at (fun i => mkS [.c (.string (sB l)), .top, .top, .c (.string (sB (hexL (l.take i)))), .c (.int .i64 (i : Nat))] 0) (fun i => i ≤ l.length) (fun i => l.length - i) 0 [] [] ?_ (Nat.zero_le _) ?_
  · refine keep_mk ?_ .nil (Nat.le_refl _)
    simp only [pgs, pgl, pgx, pgf, GenE_cons, GenE_nil, gen_top, gen_c, gen_fz, Nat.reduceEqDiff, reduceIte, Nat.reduceAdd]
    exact ⟨of_eq_true (gen_c _ _ _), of_eq_true (gen_c _ _ _)⟩
  · intro i hi s hs
    simp only [mkS_at, pgs, pgl, Nat.reduceAdd] at hs
    subst hs
    rcases Nat.lt_or_ge i l.length with hlt | hge
    · have e4 : decide ((i : Int) < (l.length : Int)) = true := decide_eq_true (by omega)
      have hb := getD_lt ho i
      have en := hexL_next hlt
      have hln := hexL_len (l.take i)
      rw [List.length_take, Nat.min_eq_left (by omega)] at hln
      have ha := hexs_at (l.getD i 0 / 16) (by omega)
      have hc := hexs_at (l.getD i 0 % 16) (by omega)
      have hxl : hexd.length = 16 := rfl
      simp (disch := first | assumption | omega | (simp only [hxl, List.length_append, List.length_cons, List.length_nil]; omega)) only [pgs, pgl, pgx, pgf, shrV, shlV, Nat.reduceEqDiff, reduceIte, Nat.reduceAdd, is9, sB_size, e4, ixs, Int.toNat_natCast, hexs, shr4, and15, u8w, sls, toN1, ha, hc, sadd, Int.reduceLT, i64w, headC_normal]
      refine ⟨by kernel_rfl, ?_⟩
      refine back_at (i + 1) [] [] (by omega) (by omega) (keep_mk ?_ .nil (Nat.le_refl _))
      simp only [pgs, pgl, pgx, pgf, GenE_cons, GenE_nil, gen_top, gen_c, gen_fz, Nat.reduceEqDiff, reduceIte, Nat.reduceAdd, Int.natCast_add, Int.cast_ofNat_Int, en]
    · have hil : i = l.length := by omega
      subst hil
      have e4 : decide ((l.length : Int) < (l.length : Int)) = false := decide_eq_false (by omega)
      simp only [pgs, pgl, pgx, pgf, Nat.reduceEqDiff, reduceIte, Nat.reduceAdd, is9, sB_size, e4, headC_exit, List.take_length]
      refine ret_at [] _ (retV_one _ _ _) .nil ?_ ?_
      · simp only [pgs, pgl, pgx, pgf, Nat.reduceEqDiff, reduceIte]
      · simp only [pgs, pgl, pgx, pgf, Nat.reduceEqDiff, reduceIte]
end Go.Proofs.YtjiolbcdfgclaaaGreatDoor
end

section
/-
  Names: the reference's FormatKey, of any string.
-/
namespace Go.Proofs.YtjiolbcdfgclaaaGreatDoor
open Go Go.Pg
set_option maxRecDepth 10000
set_option linter.unusedSimpArgs false

def fk (l : List Nat) : List Nat × Nat := if isKey l = false then ([], 7) else if plain l = true then (l, 0) else (37 :: hexL l, 0)
def fkV (l : List Nat) : V := .tup [.c (.string (sB (fk l).1)), .c (.int .i64 ((fk l).2 : Nat))]
theorem key_len {l : List Nat} (h : isKey l = true) : 1 ≤ l.length ∧ l.length ≤ 32 := by
  unfold isKey at h
  simp only [Bool.and_eq_true, decide_eq_true_eq] at h
  exact h
theorem good12 (l : List Nat) (ho : oct l) : Pg.Good Tryz.prog 91 [.c (.string (sB l))] (fkV l) := by
  refine good_intro (drawW_ok mix) Tryz.func91 rfl Tryz.results91 rfl (by kernel_rfl) (Nat.le_of_ble_eq_true (by kernel_rfl)) ?_
  have g1 := good18 l
  unfold fkV fk
  simp only [Tryz.f91, pgs, pgl, pgx, pgf, Nat.reduceEqDiff, reduceIte, nils]
  cases h1 : isKey l <;> rw [h1] at g1
  · refine callW_use _ g1 rfl rfl rfl rfl ?_
    simp only [pgs, pgl, pgx, pgf, Nat.reduceEqDiff, reduceIte, unNot, nils]
    refine ret_at [] _ (retV_two _ _ _ _) .nil ?_ ?_
    · simp only [pgs, pgl, pgx, pgf, Nat.reduceEqDiff, reduceIte]
    · simp only [pgs, pgl, pgx, pgf, Nat.reduceEqDiff, reduceIte] <;> rfl
  have hl := key_len h1
  have g2 := good33 l ho (by omega)
  have g3 := good34 l ho (by omega)
  have hxl := hexL_len l
  refine callW_use _ g1 rfl rfl rfl rfl ?_
  simp only [pgs, pgl, pgx, pgf, Nat.reduceEqDiff, reduceIte, unNot]
  cases h2 : plain l <;> rw [h2] at g2
  · refine callW_use _ g2 rfl rfl rfl rfl ?_
    simp only [pgs, pgl, pgx, pgf, Nat.reduceEqDiff, reduceIte]
    refine callW_use _ g3 rfl rfl rfl rfl ?_
    simp (disch := simp only [List.length_cons, List.length_nil]; omega) only [pgs, pgl, pgx, pgf, Nat.reduceEqDiff, reduceIte, pcts, sadd]
    refine ret_at [] _ (retV_two _ _ _ _) .nil ?_ ?_
    · simp only [pgs, pgl, pgx, pgf, Nat.reduceEqDiff, reduceIte]
    · simp only [pgs, pgl, pgx, pgf, Nat.reduceEqDiff, reduceIte] <;> rfl
  · refine callW_use _ g2 rfl rfl rfl rfl ?_
    simp only [pgs, pgl, pgx, pgf, Nat.reduceEqDiff, reduceIte]
    refine ret_at [] _ (retV_two _ _ _ _) .nil ?_ ?_
    · simp only [pgs, pgl, pgx, pgf, Nat.reduceEqDiff, reduceIte]
    · simp only [pgs, pgl, pgx, pgf, Nat.reduceEqDiff, reduceIte] <;> rfl
end Go.Proofs.YtjiolbcdfgclaaaGreatDoor
end

section
/-
  Names: the value of a hexadecimal digit, of the reference.
-/
namespace Go.Proofs.YtjiolbcdfgclaaaGreatDoor
open Go Go.Pg
set_option maxRecDepth 10000
set_option linter.unusedSimpArgs false

def nib (c : Nat) : Int := if bt c 48 57 = true then (c : Int) - 48 else if bt c 97 102 = true then (c : Int) - 97 + 10 else -1
theorem bt_and {c a b : Nat} (h : bt c a b = true) : a ≤ c ∧ c ≤ b := by
  unfold bt at h
  simp only [Bool.and_eq_true, decide_eq_true_eq] at h
  exact h
theorem good49 (c : Nat) (hc : c < 256) : Pg.Good Tryz.prog 194 [.c (.int .u8 (c : Int))] (.c (.int .i64 (nib c))) := by
  refine good_intro (drawW_ok mix) Tryz.func194 rfl Tryz.results194 rfl (by kernel_rfl) (Nat.le_of_ble_eq_true (by kernel_rfl)) ?_
  have g1 := good40 c 48 57
  have g2 := good40 c 97 102
  unfold nib
  simp only [Tryz.f194, pgs, pgl, pgx, pgf, Nat.reduceEqDiff, reduceIte]
  cases h1 : bt c 48 57 <;> rw [h1] at g1
  · refine callW_use _ g1 rfl rfl rfl rfl ?_
    simp only [pgs, pgl, pgx, pgf, Nat.reduceEqDiff, reduceIte]
    cases h2 : bt c 97 102 <;> rw [h2] at g2
    · refine callW_use _ g2 rfl rfl rfl rfl ?_
      simp only [pgs, pgl, pgx, pgf, Nat.reduceEqDiff, reduceIte]
      refine ret_at [] _ (retV_one _ _ _) .nil ?_ ?_
      · simp only [pgs, pgl, pgx, pgf, Nat.reduceEqDiff, reduceIte]
      · simp only [pgs, pgl, pgx, pgf, Nat.reduceEqDiff, reduceIte]
    · have hb := bt_and h2
      refine callW_use _ g2 rfl rfl rfl rfl ?_
      simp (disch := omega) only [pgs, pgl, pgx, pgf, Nat.reduceEqDiff, reduceIte, u8w, i64w, convV_int _ _ _ _ _ _ it3 un5]
      refine ret_at [] _ (retV_one _ _ _) .nil ?_ ?_
      · simp only [pgs, pgl, pgx, pgf, Nat.reduceEqDiff, reduceIte]
      · simp only [pgs, pgl, pgx, pgf, Nat.reduceEqDiff, reduceIte]
  · have hb := bt_and h1
    refine callW_use _ g1 rfl rfl rfl rfl ?_
    simp (disch := omega) only [pgs, pgl, pgx, pgf, Nat.reduceEqDiff, reduceIte, u8w, i64w, convV_int _ _ _ _ _ _ it3 un5]
    refine ret_at [] _ (retV_one _ _ _) .nil ?_ ?_
    · simp only [pgs, pgl, pgx, pgf, Nat.reduceEqDiff, reduceIte]
    · simp only [pgs, pgl, pgx, pgf, Nat.reduceEqDiff, reduceIte]
end Go.Proofs.YtjiolbcdfgclaaaGreatDoor
end

section
/-
  Names: the reference's Unhex, of any string.
-/
namespace Go.Proofs.YtjiolbcdfgclaaaGreatDoor
open Go Go.Pg
set_option maxRecDepth 10000
set_option linter.unusedSimpArgs false

theorem el42 : elemT Tryz.prog 28 = some 5 := by kernel_rfl
theorem ta5 : tapp Tryz.prog 5 = some (1, 1) := by kernel_rfl
theorem ze5 : zelem Tryz.prog 5 = some (.c (.int .u8 0)) := by kernel_rfl
theorem it9 : intT Tryz.prog 9 = none := by kernel_rfl
theorem src42 (tg : Tag) (l : List Nat) : srcV Tryz.prog 28 1 (.sl tg 1 (bv l)) = some (bv l) := by rw [srcV_sl, el42]; rfl
theorem fits_1 {n : Nat} (h : n ≤ 140737488355328) : Fits n 1 := by unfold Fits maxLen; omega
theorem app42 (s : St) (l l' : List Nat) (id : Nat) (tg : Tag) (h : l.length + l'.length ≤ 140737488355328) : appendV Tryz.prog s 28 28 (.sl (.own id 5) 1 (bv l)) (.sl tg 1 (bv l')) = some (.sl (.own id 5) 1 (bv (l ++ l')), { s.mapV (poison id) with nid := max s.nid (id + 1) }) := by
  rw [appendV_at _ _ _ _ _ _ _ _ _ _ el42 ta5 (src42 tg l')]
  simp only [bv_len, bv_app]
  rw [if_pos ⟨trivial, trivial, fits_1 h⟩]
theorem bs42 (s : St) (a : Nat) : buildSliceV Tryz.prog s 28 1 [(0, .c (.int .u8 (a : Int)))] = some (.sl (.own s.nid 5) 1 (bv [a]), { s with nid := s.nid + 1 }) := by
  simp [buildSliceV, el42, ta5, ze5, setAll, cs_c_int, free_c, one_c_int, bv, bsTag]
theorem sB_nums (l : List Nat) : strOfNums (l.map fun (b : Nat) => (b : Int)) = sB l := by
  apply ByteArray.ext
  simp [strOfNums, sB, Function.comp_def]
theorem convV_42 (tg : Tag) (l : List Nat) : convV Tryz.prog 28 9 (.sl tg 1 (bv l)) = some (.c (.string (sB l))) := by
  simp [convV, it9, el42, it5, is9, u8s_bv, sB_nums]
theorem convK_42 (s : St) (d : Option Nat) (tg : Tag) (l : List Nat) (K : Kd → St → Prop) : convK Tryz.prog s d 28 9 (.sl tg 1 (bv l)) K = K (kq [.sl tg 1 (bv l)] (.c (.string (sB l)))) (s.put d (.c (.string (sB l)))) := by
  rw [convK_at, convV_42]
  have h1 : (strBytes Tryz.prog 28 9 (.sl tg 1 (bv l))).map (fun r => (r, s)) = none := rfl
  have h3 : unsafeV Tryz.prog s 28 9 (.sl tg 1 (bv l)) = none := rfl
  have h2 : sameSl Tryz.prog s 28 9 (.sl tg 1 (bv l)) = none := by cases tg <;> simp [sameSl]
  rw [h1, h2, h3]
  simp only [optQ_some, optK_none, optR_none, or_false]
theorem u8n (a : Nat) : IntKind.u8.wrap (a : Int) = ((a % 256 : Nat) : Int) := by rw [IntKind.wrap_u8]; omega

theorem nib_rng (c : Nat) : -1 ≤ nib c ∧ nib c ≤ 15 := by
  unfold nib
  split
  · rename_i h; have := bt_and h; omega
  · split
    · rename_i h; have := bt_and h; omega
    · omega
def prB (l : List Nat) (t : Nat) : Nat := (16 * nib (l.getD (2 * t) 0) + nib (l.getD (2 * t + 1) 0)).toNat
def prs (l : List Nat) (j : Nat) : List Nat := (List.range j).map (prB l)
def okP (l : List Nat) (t : Nat) : Bool := decide (0 ≤ nib (l.getD (2 * t) 0)) && decide (0 ≤ nib (l.getD (2 * t + 1) 0))
def okB (l : List Nat) (j : Nat) : Bool := (List.range j).all (okP l)
theorem prs_next (l : List Nat) (j : Nat) : prs l (j + 1) = prs l j ++ [prB l j] := by simp [prs, List.range_succ]
theorem okB_next (l : List Nat) (j : Nat) : okB l (j + 1) = (okB l j && okP l j) := by simp [okB, List.range_succ]
theorem okB_not {l : List Nat} {j n : Nat} (h : j < n) (hp : okP l j = false) : okB l n = false := by
  rw [← Bool.not_eq_true, okB, List.all_eq_true]
  intro hx
  have := hx j (List.mem_range.2 h)
  rw [hp] at this
  cases this
theorem prs_len (l : List Nat) (j : Nat) : (prs l j).length = j := by simp [prs]
def unhV (l : List Nat) : V := if okB l (l.length / 2) = true then .tup [.c (.string (sB (prs l (l.length / 2)))), .c (.bool (decide (l.length % 2 = 0)))] else .tup [.c (.string (sB [])), .c (.bool false)]

theorem good37 (l : List Nat) (ho : oct l) (hl : l.length ≤ 140737488355328) : Pg.Good Tryz.prog 149 [.c (.string (sB l))] (unhV l) := by
  refine good_intro (drawW_ok mix) Tryz.func149 rfl Tryz.results149 rfl (by kernel_rfl) (Nat.le_of_ble_eq_true (by kernel_rfl)) ?_
  unfold unhV
  simp only [Tryz.f149, pgs, pgl, pgx, pgf, Nat.reduceEqDiff, reduceIte]
  refine loop_at (fun j => mkS [.c (.string (sB l)), .top, .top, .top, .sl (.own 0 5) 1 (bv (prs l j)), .c (.int .i64 (2 * (j : Nat)))] 1) (fun j => j ≤ l.length / 2 ∧ okB l j = true) (fun j => l.length / 2 - j) 0 [] [] ?_ ⟨Nat.zero_le _, rfl⟩ ?_
  · refine keep_mk ?_ .nil (Nat.zero_le _)
    simp only [pgs, pgl, pgx, pgf, GenE_cons, GenE_nil, gen_top, gen_c, gen_fz, Nat.reduceEqDiff, reduceIte, Nat.reduceAdd]
    exact ⟨of_eq_true (gen_nil _ _ _ _ rfl), of_eq_true (gen_c _ _ _)⟩
  · rintro j ⟨hj, hok⟩ s hs
    simp only [mkS_at, pgs, pgl, Nat.reduceAdd] at hs
    subst hs
    rcases Nat.lt_or_ge j (l.length / 2) with hlt | hge
    · have e4 : decide (2 * (j : Int) + 1 < (l.length : Int)) = true := decide_eq_true (by omega)
      have en1 : (2 * (j : Int)).toNat = 2 * j := by omega
      have en2 : (2 * (j : Int) + 1).toNat = 2 * j + 1 := by omega
      have hb1 := getD_lt ho (2 * j)
      have hb2 := getD_lt ho (2 * j + 1)
      simp (disch := first | assumption | omega) only [pgs, pgl, pgx, pgf, Nat.reduceEqDiff, reduceIte, Nat.reduceAdd, is9, sB_size, i64w, e4, ixs, en1, en2]
      refine callW_use _ (good49 _ hb1) rfl rfl rfl rfl ?_
      simp (disch := first | assumption | omega) only [pgs, pgl, pgx, pgf, Nat.reduceEqDiff, reduceIte, Nat.reduceAdd, i64w, ixs, en1, en2]
      refine callW_use _ (good49 _ hb2) rfl rfl rfl rfl ?_
      have hr1 := nib_rng (l.getD (2 * j) 0)
      have hr2 := nib_rng (l.getD (2 * j + 1) 0)
      have hv : 0 ≤ nib (l.getD (2 * j) 0) → 0 ≤ nib (l.getD (2 * j + 1) 0) → 16 * nib (l.getD (2 * j) 0) + nib (l.getD (2 * j + 1) 0) = ((prB l j : Nat) : Int) := by
        intro h1 h2
        unfold prB
        omega
      have hcs : (decide (nib (l.getD (2 * j) 0) < 0) = true ∧ True ∧ okP l j = false) ∨ (decide (nib (l.getD (2 * j) 0) < 0) = false ∧ decide (nib (l.getD (2 * j + 1) 0) < 0) = true ∧ okP l j = false) ∨
          (decide (nib (l.getD (2 * j) 0) < 0) = false ∧ decide (nib (l.getD (2 * j + 1) 0) < 0) = false ∧ okP l j = true) := by
        unfold okP
        rcases Int.lt_or_le (nib (l.getD (2 * j) 0)) 0 with h1 | h1
        · exact .inl ⟨decide_eq_true h1, trivial, by rw [decide_eq_false (show ¬ 0 ≤ nib (l.getD (2 * j) 0) by omega)]; rfl⟩
        · rcases Int.lt_or_le (nib (l.getD (2 * j + 1) 0)) 0 with h2 | h2
          · exact .inr (.inl ⟨decide_eq_false (by omega), decide_eq_true h2, by rw [decide_eq_false (show ¬ 0 ≤ nib (l.getD (2 * j + 1) 0) by omega), Bool.and_false]⟩)
          · exact .inr (.inr ⟨decide_eq_false (by omega), decide_eq_false (by omega), by rw [decide_eq_true h1, decide_eq_true h2]; rfl⟩)
      rcases hcs with ⟨f1, f2, f3⟩ | ⟨f1, f2, f3⟩ | ⟨f1, f2, f3⟩
      · rw [okB_not hlt f3, if_neg (by simp)]
        simp only [pgs, pgl, pgx, pgf, Nat.reduceEqDiff, reduceIte, Nat.reduceAdd, f1, f2, nils, headC_ret]
        refine ⟨by kernel_rfl, ?_⟩
        refine ret_at [] _ (retV_two _ _ _ _) .nil ?_ ?_
        · simp only [pgs, pgl, pgx, pgf, Nat.reduceEqDiff, reduceIte]
        · simp only [pgs, pgl, pgx, pgf, Nat.reduceEqDiff, reduceIte]
      · rw [okB_not hlt f3, if_neg (by simp)]
        simp only [pgs, pgl, pgx, pgf, Nat.reduceEqDiff, reduceIte, Nat.reduceAdd, f1, f2, nils, headC_ret]
        refine ⟨by kernel_rfl, ?_⟩
        refine ret_at [] _ (retV_two _ _ _ _) .nil ?_ ?_
        · simp only [pgs, pgl, pgx, pgf, Nat.reduceEqDiff, reduceIte]
        · simp only [pgs, pgl, pgx, pgf, Nat.reduceEqDiff, reduceIte]
      · have p1 : 0 ≤ nib (l.getD (2 * j) 0) := by simpa using f1
        have p2 : 0 ≤ nib (l.getD (2 * j + 1) 0) := by simpa using f2
        have hv := hv p1 p2
        have hpl := prs_len l j
        simp (disch := first | omega | (simp only [List.length_cons, List.length_nil]; omega)) only [pgs, pgl, pgx, pgf, Nat.reduceEqDiff, reduceIte, Nat.reduceAdd, f1, f2, i64w, hv, u8w, convV_int _ _ _ _ _ _ it5 un3, bs42, app42, Nat.max_def, Nat.reduceLeDiff, Nat.reduceBEq, headC_normal]
        refine ⟨by kernel_rfl, ?_⟩
        refine back_at (j + 1) [0] [] ⟨by omega, by rw [okB_next, hok, f3]; rfl⟩ (by omega) (keep_mk ?_ (by decide) (Nat.le_refl _))
        simp only [pgs, pgl, pgx, pgf, GenE_cons, GenE_nil, gen_top, gen_c, gen_fz, Nat.reduceEqDiff, reduceIte, Nat.reduceAdd, Nat.reduceBEq]
        exact ⟨gen_own rfl (by rw [prs_next]), of_eq_true (gen_int _ _ _ _ _ (by omega))⟩
    · have hjn : j = l.length / 2 := by omega
      have e4 : decide (2 * (j : Int) + 1 < (l.length : Int)) = false := decide_eq_false (by omega)
      have e5 : ((l.length : Int).tmod 2 == 0) = decide (l.length % 2 = 0) := by
        rw [Bool.eq_iff_iff, beq_iff_eq, decide_eq_true_eq]
        have : (l.length : Int).tmod 2 = ((l.length % 2 : Nat) : Int) := rfl
        omega
      rw [← hjn, hok, if_pos rfl]
      simp (disch := omega) only [pgs, pgl, pgx, pgf, Nat.reduceEqDiff, reduceIte, Nat.reduceAdd, is9, sB_size, i64w, e4, convK_42, remV, Int.reduceEq, e5, headC_exit, ne_eq, not_false_eq_true, Int.reduceNe]
      refine ret_at [] _ (retV_two _ _ _ _) .nil ?_ ?_
      · simp only [pgs, pgl, pgx, pgf, Nat.reduceEqDiff, reduceIte]
      · simp only [pgs, pgl, pgx, pgf, Nat.reduceEqDiff, reduceIte]
end Go.Proofs.YtjiolbcdfgclaaaGreatDoor
end

section
/-
  Names: the reference's ParseKey, of any string (of at most 2^47 octets, as every string of the model).
-/
namespace Go.Proofs.YtjiolbcdfgclaaaGreatDoor
open Go Go.Pg
set_option maxRecDepth 10000
set_option linter.unusedSimpArgs false

def pk (l : List Nat) : List Nat × Nat :=
  if (isKey l && plain l) = true then (l, 0) else
  if l.length = 0 then ([], 1) else
  if l.getD 0 0 ≠ 37 then ([], 1) else
  if okB (l.drop 1) ((l.drop 1).length / 2) = false then ([], 1) else
  if (l.drop 1).length % 2 ≠ 0 then ([], 1) else
  if isKey (prs (l.drop 1) ((l.drop 1).length / 2)) = false then ([], 1) else
  if plain (prs (l.drop 1) ((l.drop 1).length / 2)) = true then ([], 1) else (prs (l.drop 1) ((l.drop 1).length / 2), 0)
def pkV (l : List Nat) : V := .tup [.c (.string (sB (pk l).1)), .c (.int .i64 ((pk l).2 : Nat))]
theorem prB_lt {l : List Nat} {t : Nat} : prB l t < 256 := by
  unfold prB
  have := nib_rng (l.getD (2 * t) 0)
  have := nib_rng (l.getD (2 * t + 1) 0)
  omega
theorem prs_oct (l : List Nat) (j : Nat) : oct (prs l j) := by
  intro b hb
  obtain ⟨t, _, rfl⟩ := List.mem_map.1 hb
  exact prB_lt

theorem good14 (l : List Nat) (ho : oct l) (hl : l.length ≤ 140737488355328) : Pg.Good Tryz.prog 150 [.c (.string (sB l))] (pkV l) := by
  refine good_intro (drawW_ok mix) Tryz.func150 rfl Tryz.results150 rfl (by kernel_rfl) (Nat.le_of_ble_eq_true (by kernel_rfl)) ?_
  unfold pkV pk
  have g1 := good18 l
  simp only [Tryz.f150, pgs, pgl, pgx, pgf, Nat.reduceEqDiff, reduceIte, nils]
  have hfirst : (isKey l = true ∧ plain l = true) ∨ (isKey l = true ∧ plain l = false) ∨ isKey l = false := by cases isKey l <;> cases plain l <;> simp
  rcases hfirst with ⟨h1, h2⟩ | hrest
  · have g2 := good33 l ho (by have := key_len h1; omega)
    rw [h1] at g1
    rw [h2] at g2
    rw [h1, h2]
    refine callW_use _ g1 rfl rfl rfl rfl ?_
    simp only [pgs, pgl, pgx, pgf, Nat.reduceEqDiff, reduceIte]
    refine callW_use _ g2 rfl rfl rfl rfl ?_
    simp only [pgs, pgl, pgx, pgf, Nat.reduceEqDiff, reduceIte]
    refine ret_at [] _ (retV_two _ _ _ _) .nil ?_ ?_
    · simp only [pgs, pgl, pgx, pgf, Nat.reduceEqDiff, reduceIte]
    · simp only [pgs, pgl, pgx, pgf, Nat.reduceEqDiff, reduceIte] <;> rfl
  have hnp : (isKey l && plain l) = false := by rcases hrest with ⟨h1, h2⟩ | h1 <;> simp_all
  rw [hnp, if_neg (by simp)]
  have hdo := oct_drop ho 1
  have g3 := good37 (l.drop 1) hdo (by rw [List.length_drop]; omega)
  unfold unhV at g3
  generalize hkd : prs (l.drop 1) ((l.drop 1).length / 2) = k at g3
  have hko : oct k := by rw [← hkd]; exact prs_oct _ _
  have g4 := good18 k
  rcases hrest with ⟨h1, h2⟩ | h1
  case' inl =>
    have g2 := good33 l ho (by have := key_len h1; omega)
    rw [h1] at g1
    rw [h2] at g2
    refine callW_use _ g1 rfl rfl rfl rfl ?_
    simp only [pgs, pgl, pgx, pgf, Nat.reduceEqDiff, reduceIte]
    refine callW_use _ g2 rfl rfl rfl rfl ?_
    simp only [pgs, pgl, pgx, pgf, Nat.reduceEqDiff, reduceIte, is9, sB_size]
  case' inr =>
    rw [h1] at g1
    refine callW_use _ g1 rfl rfl rfl rfl ?_
    simp only [pgs, pgl, pgx, pgf, Nat.reduceEqDiff, reduceIte, is9, sB_size]
  all_goals
    rcases Nat.eq_zero_or_pos l.length with h0 | h0
    · have e1 : ((l.length : Int) == 0) = true := by rw [h0]; rfl
      rw [if_pos h0]
      simp only [pgs, pgl, pgx, pgf, Nat.reduceEqDiff, reduceIte, e1, nils]
      refine ret_at [] _ (retV_two _ _ _ _) .nil ?_ ?_
      · simp only [pgs, pgl, pgx, pgf, Nat.reduceEqDiff, reduceIte]
      · simp only [pgs, pgl, pgx, pgf, Nat.reduceEqDiff, reduceIte] <;> rfl
    have e1 : ((l.length : Int) == 0) = false := by rw [beq_eq_false_iff_ne]; omega
    rw [if_neg (by omega)]
    by_cases h3 : l.getD 0 0 = 37
    case neg =>
      have e2 : (((l.getD 0 0 : Nat) : Int) != 37) = true := by rw [bne_iff_ne]; omega
      rw [if_pos h3]
      simp (disch := first | assumption | omega) only [pgs, pgl, pgx, pgf, Nat.reduceEqDiff, reduceIte, e1, ixs, Int.reduceToNat, e2, nils]
      refine ret_at [] _ (retV_two _ _ _ _) .nil ?_ ?_
      · simp only [pgs, pgl, pgx, pgf, Nat.reduceEqDiff, reduceIte]
      · simp only [pgs, pgl, pgx, pgf, Nat.reduceEqDiff, reduceIte] <;> rfl
    have e2 : (((l.getD 0 0 : Nat) : Int) != 37) = false := by rw [h3]; rfl
    rw [if_neg (show ¬ l.getD 0 0 ≠ 37 from fun h => h h3)]
    simp (disch := first | assumption | omega) only [pgs, pgl, pgx, pgf, Nat.reduceEqDiff, reduceIte, e1, ixs, Int.reduceToNat, e2, slsa]
    cases h4 : okB (l.drop 1) ((l.drop 1).length / 2) <;> rw [h4] at g3
    · rw [if_neg (by simp)] at g3
      rw [if_pos rfl]
      refine callW_use _ g3 rfl rfl rfl rfl ?_
      simp only [pgs, pgl, pgx, pgf, Nat.reduceEqDiff, reduceIte, unNot, nils]
      refine ret_at [] _ (retV_two _ _ _ _) .nil ?_ ?_
      · simp only [pgs, pgl, pgx, pgf, Nat.reduceEqDiff, reduceIte]
      · simp only [pgs, pgl, pgx, pgf, Nat.reduceEqDiff, reduceIte] <;> rfl
    rw [if_pos rfl] at g3
    rw [if_neg (by simp)]
    by_cases h5 : (l.drop 1).length % 2 = 0
    case neg =>
      rw [decide_eq_false h5] at g3
      rw [if_pos h5]
      refine callW_use _ g3 rfl rfl rfl rfl ?_
      simp only [pgs, pgl, pgx, pgf, Nat.reduceEqDiff, reduceIte, unNot, nils]
      refine ret_at [] _ (retV_two _ _ _ _) .nil ?_ ?_
      · simp only [pgs, pgl, pgx, pgf, Nat.reduceEqDiff, reduceIte]
      · simp only [pgs, pgl, pgx, pgf, Nat.reduceEqDiff, reduceIte] <;> rfl
    rw [decide_eq_true h5] at g3
    rw [if_neg (show ¬ (l.drop 1).length % 2 ≠ 0 from fun h => h h5)]
    refine callW_use _ g3 rfl rfl rfl rfl ?_
    simp only [pgs, pgl, pgx, pgf, Nat.reduceEqDiff, reduceIte, unNot]
    cases h6 : isKey k <;> rw [h6] at g4
    · rw [if_pos rfl]
      refine callW_use _ g4 rfl rfl rfl rfl ?_
      simp only [pgs, pgl, pgx, pgf, Nat.reduceEqDiff, reduceIte, unNot, nils]
      refine ret_at [] _ (retV_two _ _ _ _) .nil ?_ ?_
      · simp only [pgs, pgl, pgx, pgf, Nat.reduceEqDiff, reduceIte]
      · simp only [pgs, pgl, pgx, pgf, Nat.reduceEqDiff, reduceIte] <;> rfl
    rw [if_neg (by simp)]
    have g5 := good33 k hko (by have := key_len h6; omega)
    refine callW_use _ g4 rfl rfl rfl rfl ?_
    simp only [pgs, pgl, pgx, pgf, Nat.reduceEqDiff, reduceIte, unNot]
    cases h7 : plain k <;> rw [h7] at g5
    · rw [if_neg (by simp)]
      refine callW_use _ g5 rfl rfl rfl rfl ?_
      simp only [pgs, pgl, pgx, pgf, Nat.reduceEqDiff, reduceIte, unNot]
      refine ret_at [] _ (retV_two _ _ _ _) .nil ?_ ?_
      · simp only [pgs, pgl, pgx, pgf, Nat.reduceEqDiff, reduceIte]
      · simp only [pgs, pgl, pgx, pgf, Nat.reduceEqDiff, reduceIte] <;> rfl
    · rw [if_pos rfl]
      refine callW_use _ g5 rfl rfl rfl rfl ?_
      simp only [pgs, pgl, pgx, pgf, Nat.reduceEqDiff, reduceIte, unNot, nils]
      refine ret_at [] _ (retV_two _ _ _ _) .nil ?_ ?_
      · simp only [pgs, pgl, pgx, pgf, Nat.reduceEqDiff, reduceIte]
      · simp only [pgs, pgl, pgx, pgf, Nat.reduceEqDiff, reduceIte] <;> rfl
end Go.Proofs.YtjiolbcdfgclaaaGreatDoor
end

section
/-
  Names: ParseInt of any string (of at most 2^47 octets).
-/
namespace Go.Proofs.YtjiolbcdfgclaaaGreatDoor
open Go Go.Pg
set_option maxRecDepth 10000
set_option linter.unusedSimpArgs false

def dig (l : List Nat) : Nat := l.foldl (fun x c => 10 * x + (c - 48)) 0
theorem dig_next {l : List Nat} {i : Nat} (h : i < l.length) : dig (l.take (i + 1)) = 10 * dig (l.take i) + (l.getD i 0 - 48) := by
  unfold dig
  rw [List.take_succ_eq_append_getElem h, List.foldl_append]
  simp [List.getD, h]
theorem dig_lt : ∀ (n : Nat) (l : List Nat), l.length = n → l.all (fun c => bt c 48 57) = true → dig l < 10 ^ n := by
  intro n
  induction n with
  | zero => intro l h _; simp at h; subst h; simp [dig]
  | succ n ih =>
    intro l h ha
    rcases List.eq_nil_or_concat l with rfl | ⟨L, b, rfl⟩
    · simp at h
    · rw [List.concat_eq_append, List.all_append] at ha
      simp only [Bool.and_eq_true, List.all_cons, List.all_nil, and_true] at ha
      have h1 := ih L (by simp at h; exact h) ha.1
      have h2 := bt_and ha.2
      have e : dig (L.concat b) = 10 * dig L + (b - 48) := by rw [List.concat_eq_append]; simp [dig]
      rw [e, Nat.pow_succ]
      omega
/-- What stands behind the sign. -/
def bodyI (l : List Nat) : List Nat := if hasP l [45] = true then l.drop 1 else l
def badI (b : List Nat) (neg : Bool) : Bool := decide (b.length < 1) || decide (12 < b.length) || (b.getD 0 0 == 48 && (decide (1 < b.length) || neg))
def pint (l : List Nat) : Int × Nat :=
  if badI (bodyI l) (hasP l [45]) = true then (0, 1) else
  if (bodyI l).all (fun c => bt c 48 57) = false then (0, 1) else
  (if hasP l [45] = true then - (dig (bodyI l) : Int) else (dig (bodyI l) : Int), 0)
def pintV (l : List Nat) : V := .tup [.c (.int .i64 (pint l).1), .c (.int .i64 ((pint l).2 : Nat))]
end Go.Proofs.YtjiolbcdfgclaaaGreatDoor
end

section
/-
  Names: ParseInt, the program's, of any string (of at most 2^47 octets).
-/
namespace Go.Proofs.YtjiolbcdfgclaaaGreatDoor
open Go Go.Pg
set_option maxRecDepth 10000
set_option linter.unusedSimpArgs false

theorem badI_iff (b : List Nat) (neg : Bool) : badI b neg = true ↔ b.length < 1 ∨ 12 < b.length ∨ (b.getD 0 0 = 48 ∧ (1 < b.length ∨ neg = true)) := by
  unfold badI
  simp only [Bool.or_eq_true, Bool.and_eq_true, decide_eq_true_eq, beq_iff_eq, or_assoc]
theorem dash : (⟨#[45]⟩ : ByteArray) = sB [45] := by rfl
theorem oct45 : oct [45] := oct_one (by omega)
theorem good21 (l : List Nat) (ho : oct l) (hl : l.length ≤ 140737488355328) : Pg.Good Tryz.prog 146 [.c (.string (sB l))] (pintV l) := by
  refine good_intro (drawC_ok [4] mix) Tryz.func146 rfl Tryz.results146 rfl (by kernel_rfl) (Nat.le_of_ble_eq_true (by kernel_rfl)) ?_
  have g1 := good35 l [45] ho oct45
  unfold pintV pint
  have hb : ∃ b neg, bodyI l = b ∧ hasP l [45] = neg ∧ oct b ∧ cutP l [45] = .tup [.c (.string (sB b)), .c (.bool neg)] := by
    rcases cutP_cases l [45] with ⟨h, h2⟩ | ⟨h, h2⟩
    · exact ⟨l.drop 1, true, by unfold bodyI; rw [h, if_pos rfl], h, oct_drop ho 1, h2⟩
    · exact ⟨l, false, by unfold bodyI; rw [h, if_neg (by simp)], h, ho, h2⟩
  obtain ⟨b, neg, hb1, hb2, hbo, hb3⟩ := hb
  rw [hb1, hb2]
  rw [hb3] at g1
  simp (disch := first | assumption | omega | (simp only [Fits, maxLen, pgq] at *; omega)) only [pgo, pgb, tyf, buildSliceV_w, simprocAttr, Tryz.f146, dash]
  (repeat' (first | (simp (disch := first | assumption | omega | (simp only [Fits, maxLen, pgq] at *; omega)) only [pgo, pgb, tyf, buildSliceV_w, simprocAttr, dash]) | ((with_reducible show callW _ _ _ _ _ _); first | refine callW_use _ (g1) rfl rfl rfl rfl ?_) | ((first | ((with_reducible show condC _ _ _ _ _ _ _); refine cond_at (fun hc => ?_) (fun hc => ?_)) | ((with_reducible show guardC _ _ _ _ _ _ _ _); refine guard_at (fun hc => ?_) (fun hc => ?_)) | ((with_reducible show drwG _ _ _ _ _ _ _ _ _ _); refine drw_at (fun hc => ?_) (fun hc => ?_))) <;> (try simp only [hc]) <;> (try simp only [pgd] at hc)) | (with_reducible refine chk_at (by kernel_rfl) ?_)))
  refine seq_cut _ (fun _ : Unit => mkA [(4, .c (.string (sB b))), (5, .c (.bool neg))] [] 0 (fun _ => .top)) (fun _ => badI b neg = false) rfl ?_ ?_
  · rintro _ hbad
    rw [hbad, if_neg (by simp)]
    have hlen : 1 ≤ b.length ∧ b.length ≤ 12 := by
      unfold badI at hbad
      simp only [Bool.or_eq_false_iff, decide_eq_false_iff_not] at hbad
      omega
    (repeat' (first | (simp (disch := first | assumption | omega | (simp only [Fits, maxLen, pgq] at *; omega)) only [pgo, pgb, tyf, buildSliceV_w, simprocAttr]) | ((first | ((with_reducible show condC _ _ _ _ _ _ _); refine cond_at (fun hc => ?_) (fun hc => ?_)) | ((with_reducible show guardC _ _ _ _ _ _ _ _); refine guard_at (fun hc => ?_) (fun hc => ?_)) | ((with_reducible show drwG _ _ _ _ _ _ _ _ _ _); refine drw_at (fun hc => ?_) (fun hc => ?_))) <;> (try simp only [hc]) <;> (try simp only [pgd] at hc)) | (with_reducible refine chk_at (by kernel_rfl) ?_)))
    refine loop_A (fun i => mkA [(4, .c (.string (sB b))), (5, .c (.bool neg)), (6, .c (.int .i64 (dig (b.take i) : Nat))), (35, .c (.int .i64 b.length)), (36, .c (.int .i64 (i : Nat)))] [] 0 (fun _ => .top)) (fun i => i ≤ b.length ∧ (b.take i).all (fun c => bt c 48 57) = true) (fun i => b.length - i) 0 [] [] ?_ ⟨Nat.zero_le _, rfl⟩ ?_
    · (refine keep_mkA ?_ ?_ (top_hd _ _ _) (by decide) (by decide) (by decide) (by decide); (repeat' (first | exact trivial | refine genB_one _ _ rfl rfl ?_ ?_)); all_goals (try simp only [pgs, pgl, pgx, pgf, pgw, GenA_cons, GenA_nil, GenL_cons, GenL_nil, gen_top, gen_c, gen_fz, pgn, simprocAttr]); all_goals (try (repeat' (first | apply And.intro))); all_goals (try (first | exact trivial | exact gen_ii (by omega) | exact gen_cc rfl | exact gen_own rfl rfl | exact gen_ref rfl)))
    · rintro i ⟨hi, hall⟩
      rcases Nat.lt_or_ge i b.length with hlt | hge
      · cases hbt : bt (b.getD i 0) 48 57
        · rw [all_not hlt hbt]
          (repeat' (first | (simp (disch := first | assumption | omega | (simp only [Fits, maxLen, pgq] at *; omega)) only [pgo, pgb, tyf, buildSliceV_w, simprocAttr, hbt]) | ((with_reducible show callW _ _ _ _ _ _); first | refine callW_use _ (good39 _) rfl rfl rfl rfl ?_) | ((first | ((with_reducible show condC _ _ _ _ _ _ _); refine cond_at (fun hc => ?_) (fun hc => ?_)) | ((with_reducible show guardC _ _ _ _ _ _ _ _); refine guard_at (fun hc => ?_) (fun hc => ?_)) | ((with_reducible show drwG _ _ _ _ _ _ _ _ _ _); refine drw_at (fun hc => ?_) (fun hc => ?_))) <;> (try simp only [hc]) <;> (try simp only [pgd] at hc)) | (with_reducible refine chk_at (by kernel_rfl) ?_)))
          (refine ret_at [] _ (by first | exact retV_one _ _ _ | exact retV_two _ _ _ _ | exact retV_three _ _ _ _ _ | exact retV_four _ _ _ _ _ _ | (simp (disch := first | assumption | omega | (simp only [Fits, maxLen, pgq] at *; omega)) only [pgr, pgo, tyf, simprocAttr]; rfl)) (by decide) (by simp only [pgo, simprocAttr]) ?_; (first | rfl | simp only [pgo, simprocAttr]))
        · have h1 := bt_and hbt
          have h2 := dig_lt i (b.take i) (by simp; omega) hall
          have h3 : 10 ^ i ≤ 10 ^ 11 := Nat.pow_le_pow_right (by omega) (by omega)
          have h4 := dig_next hlt
          (repeat' (first | (simp (disch := first | assumption | omega | (simp only [Fits, maxLen, pgq] at *; omega)) only [pgo, pgb, tyf, buildSliceV_w, simprocAttr, hbt]) | ((with_reducible show callW _ _ _ _ _ _); first | refine callW_use _ (good39 _) rfl rfl rfl rfl ?_) | ((first | ((with_reducible show condC _ _ _ _ _ _ _); refine cond_at (fun hc => ?_) (fun hc => ?_)) | ((with_reducible show guardC _ _ _ _ _ _ _ _); refine guard_at (fun hc => ?_) (fun hc => ?_)) | ((with_reducible show drwG _ _ _ _ _ _ _ _ _ _); refine drw_at (fun hc => ?_) (fun hc => ?_))) <;> (try simp only [hc]) <;> (try simp only [pgd] at hc)) | (with_reducible refine chk_at (by kernel_rfl) ?_)))
          (refine back_at (i + 1) [] [] (⟨by omega, all_next hlt hall hbt⟩) (by first | omega | (simp only [List.length_cons]; omega)) ?_; (refine keep_mkA ?_ ?_ (top_hd _ _ _) (by decide) (by decide) (by decide) (by decide); (repeat' (first | exact trivial | refine genB_one _ _ rfl rfl ?_ ?_)); all_goals (try simp only [pgs, pgl, pgx, pgf, pgw, GenA_cons, GenA_nil, GenL_cons, GenL_nil, gen_top, gen_c, gen_fz, pgn, simprocAttr]); all_goals (try (repeat' (first | apply And.intro))); all_goals (try (first | exact trivial | exact gen_ii (by omega) | exact gen_cc rfl | exact gen_own rfl rfl | exact gen_ref rfl))))
      · have hil : i = b.length := by omega
        subst hil
        rw [List.take_length] at hall
        have h2 := dig_lt b.length b rfl hall
        have h3 : 10 ^ b.length ≤ 10 ^ 12 := Nat.pow_le_pow_right (by omega) (by omega)
        (repeat' (first | (simp (disch := first | assumption | omega | (simp only [Fits, maxLen, pgq] at *; omega)) only [pgo, pgb, tyf, buildSliceV_w, simprocAttr, hall, List.take_length]) | ((first | ((with_reducible show condC _ _ _ _ _ _ _); refine cond_at (fun hc => ?_) (fun hc => ?_)) | ((with_reducible show guardC _ _ _ _ _ _ _ _); refine guard_at (fun hc => ?_) (fun hc => ?_)) | ((with_reducible show drwG _ _ _ _ _ _ _ _ _ _); refine drw_at (fun hc => ?_) (fun hc => ?_))) <;> (try simp only [hc]) <;> (try simp only [pgd] at hc)) | (with_reducible refine chk_at (by kernel_rfl) ?_)))
        all_goals (refine ret_at [] _ (by first | exact retV_one _ _ _ | exact retV_two _ _ _ _ | exact retV_three _ _ _ _ _ | exact retV_four _ _ _ _ _ _ | (simp (disch := first | assumption | omega | (simp only [Fits, maxLen, pgq] at *; omega)) only [pgr, pgo, tyf, simprocAttr]; rfl)) (by decide) (by simp only [pgo, simprocAttr]) ?_; (first | rfl | simp only [pgo, simprocAttr]))
        · simp
  · (repeat' (first | (simp (disch := first | assumption | omega | (simp only [Fits, maxLen, pgq] at *; omega)) only [pgo, pgb, tyf, buildSliceV_w, simprocAttr]) | ((first | ((with_reducible show condC _ _ _ _ _ _ _); refine cond_at (fun hc => ?_) (fun hc => ?_)) | ((with_reducible show guardC _ _ _ _ _ _ _ _); refine guard_at (fun hc => ?_) (fun hc => ?_)) | ((with_reducible show drwG _ _ _ _ _ _ _ _ _ _); refine drw_at (fun hc => ?_) (fun hc => ?_))) <;> (try simp only [hc]) <;> (try simp only [pgd] at hc)) | (with_reducible refine chk_at (by kernel_rfl) ?_)))
    all_goals first
      | (rw [show badI b _ = true from (badI_iff _ _).2 (by first | exact .inl (by omega) | exact .inr (.inl (by omega)) | exact .inr (.inr ⟨by omega, by first | exact .inl (by omega) | exact .inr rfl⟩))]
         (refine ret_at [] _ (by first | exact retV_one _ _ _ | exact retV_two _ _ _ _ | exact retV_three _ _ _ _ _ | exact retV_four _ _ _ _ _ _ | (simp (disch := first | assumption | omega | (simp only [Fits, maxLen, pgq] at *; omega)) only [pgr, pgo, tyf, simprocAttr]; rfl)) (by decide) (by simp only [pgo, simprocAttr]) ?_; (first | rfl | simp only [pgo, simprocAttr])))
      | (refine meet_at () [] [] (show badI b _ = false by rw [← Bool.not_eq_true, badI_iff]; rintro (h | h | ⟨h, h' | h'⟩) <;> first | omega | cases h') ?_
         (refine keep_mkA ?_ ?_ (top_hd _ _ _) (by decide) (by decide) (by decide) (by decide); (repeat' (first | exact trivial | refine genB_one _ _ rfl rfl ?_ ?_)); all_goals (try simp only [pgs, pgl, pgx, pgf, pgw, GenA_cons, GenA_nil, GenL_cons, GenL_nil, gen_top, gen_c, gen_fz, pgn, simprocAttr]); all_goals (try (repeat' (first | apply And.intro))); all_goals (try (first | exact trivial | exact gen_ii (by omega) | exact gen_cc rfl | exact gen_own rfl rfl | exact gen_ref rfl))))
end Go.Proofs.YtjiolbcdfgclaaaGreatDoor
end

section
/-
  Names: ParseInt, the reference's, of any string (of at most 2^47 octets).
-/
namespace Go.Proofs.YtjiolbcdfgclaaaGreatDoor
open Go Go.Pg
set_option maxRecDepth 10000
set_option linter.unusedSimpArgs false

theorem hasP_dash (l : List Nat) : hasP l [45] = true ↔ 0 < l.length ∧ l.getD 0 0 = 45 := by
  cases l with
  | nil => simp [hasP]
  | cons a l => simp [hasP]
theorem sB_ne (a b : List Nat) (ha : oct a) (hb : oct b) (h : a ≠ b) : (!decide (sB a = sB b)) = true := by rw [sB_dec ha hb, decide_eq_false h]; rfl
theorem zero48 : (⟨#[48]⟩ : ByteArray) = sB [48] := by rfl
theorem good22 (l : List Nat) (ho : oct l) (hl : l.length ≤ 140737488355328) : Pg.Good Tryz.prog 148 [.c (.string (sB l))] (pintV l) := by
  refine good_intro (drawC_ok [4,6] mix) Tryz.func148 rfl Tryz.results148 rfl (by kernel_rfl) (Nat.le_of_ble_eq_true (by kernel_rfl)) ?_
  have hb : ∃ b neg, bodyI l = b ∧ hasP l [45] = neg ∧ oct b ∧ (neg = true ∧ 0 < l.length ∧ l.getD 0 0 = 45 ∧ b = l.drop 1 ∨ neg = false ∧ ¬ (0 < l.length ∧ l.getD 0 0 = 45) ∧ b = l) := by
    cases h : hasP l [45]
    · exact ⟨l, false, by unfold bodyI; rw [h, if_neg (by simp)], rfl, ho, .inr ⟨rfl, (fun hh => by rw [← hasP_dash, h] at hh; cases hh), rfl⟩⟩
    · have := (hasP_dash l).1 h
      exact ⟨l.drop 1, true, by unfold bodyI; rw [h, if_pos rfl], rfl, oct_drop ho 1, .inl ⟨rfl, this.1, this.2, rfl⟩⟩
  obtain ⟨b, neg, hb1, hb2, hbo, hb3⟩ := hb
  unfold pintV pint
  rw [hb1, hb2]
  clear hb1 hb2
  have hbl : (neg = true ∧ b.length < l.length) ∨ (neg = false ∧ b = l) := by
    rcases hb3 with ⟨h, h1, h2, h3⟩ | ⟨h, h1, h2⟩
    · exact .inl ⟨h, by rw [h3, List.length_drop]; omega⟩
    · exact .inr ⟨h, h2⟩
  simp (disch := first | assumption | omega | (simp only [Fits, maxLen, pgq] at *; omega)) only [pgo, pgb, tyf, buildSliceV_w, simprocAttr, Tryz.f148]
  (repeat' (first | (simp (disch := first | assumption | omega | (simp only [Fits, maxLen, pgq] at *; omega)) only [pgo, pgb, tyf, buildSliceV_w, simprocAttr]) | ((first | ((with_reducible show condC _ _ _ _ _ _ _); refine cond_at (fun hc => ?_) (fun hc => ?_)) | ((with_reducible show guardC _ _ _ _ _ _ _ _); refine guard_at (fun hc => ?_) (fun hc => ?_)) | ((with_reducible show drwG _ _ _ _ _ _ _ _ _ _); refine drw_at (fun hc => ?_) (fun hc => ?_))) <;> (try simp only [hc]) <;> (try simp only [pgd] at hc)) | (with_reducible refine chk_at (by kernel_rfl) ?_)))
  refine seq_cut _ (fun _ : Unit => mkA [(0, .c (.string (sB l))), (4, .c (.string (sB b)))] [] 0 (fun _ => .top)) (fun _ => True) rfl ?_ ?_
  · rintro _ _
    (repeat' (first | (simp (disch := first | assumption | omega | (simp only [Fits, maxLen, pgq] at *; omega)) only [pgo, pgb, tyf, buildSliceV_w, simprocAttr]) | ((first | ((with_reducible show condC _ _ _ _ _ _ _); refine cond_at (fun hc => ?_) (fun hc => ?_)) | ((with_reducible show guardC _ _ _ _ _ _ _ _); refine guard_at (fun hc => ?_) (fun hc => ?_)) | ((with_reducible show drwG _ _ _ _ _ _ _ _ _ _); refine drw_at (fun hc => ?_) (fun hc => ?_))) <;> (try simp only [hc]) <;> (try simp only [pgd] at hc)) | (with_reducible refine chk_at (by kernel_rfl) ?_)))
    refine seq_cut _ (fun _ : Unit => mkA [(0, .c (.string (sB l))), (4, .c (.string (sB b)))] [] 0 (fun _ => .top)) (fun _ => badI b neg = false) rfl ?_ ?_
    · rintro _ hbad
      rw [hbad, if_neg (by simp)]
      (repeat' (first | (simp (disch := first | assumption | omega | (simp only [Fits, maxLen, pgq] at *; omega)) only [pgo, pgb, tyf, buildSliceV_w, simprocAttr]) | ((first | ((with_reducible show condC _ _ _ _ _ _ _); refine cond_at (fun hc => ?_) (fun hc => ?_)) | ((with_reducible show guardC _ _ _ _ _ _ _ _); refine guard_at (fun hc => ?_) (fun hc => ?_)) | ((with_reducible show drwG _ _ _ _ _ _ _ _ _ _); refine drw_at (fun hc => ?_) (fun hc => ?_))) <;> (try simp only [hc]) <;> (try simp only [pgd] at hc)) | (with_reducible refine chk_at (by kernel_rfl) ?_)))
      have hlen : 1 ≤ b.length ∧ b.length ≤ 12 := by
        rw [← Bool.not_eq_true, badI_iff] at hbad
        omega
      refine loop_A (fun i => mkA [(0, .c (.string (sB l))), (4, .c (.string (sB b))), (5, .c (.int .i64 (dig (b.take i) : Nat))), (6, .c (.int .i64 (i : Nat)))] [] 0 (fun _ => .top)) (fun i => i ≤ b.length ∧ (b.take i).all (fun c => bt c 48 57) = true) (fun i => b.length - i) 0 [] [] ?_ ⟨Nat.zero_le _, rfl⟩ ?_
      · (refine keep_mkA ?_ ?_ (top_hd _ _ _) (by decide) (by decide) (by decide) (by decide); (repeat' (first | exact trivial | refine genB_one _ _ rfl rfl ?_ ?_)); all_goals (try simp only [pgs, pgl, pgx, pgf, pgw, GenA_cons, GenA_nil, GenL_cons, GenL_nil, gen_top, gen_c, gen_fz, pgn, simprocAttr]); all_goals (try (repeat' (first | apply And.intro))); all_goals (try (first | exact trivial | exact gen_ii (by omega) | exact gen_cc rfl | exact gen_own rfl rfl | exact gen_ref rfl)))
      · rintro i ⟨hi, hall⟩
        rcases Nat.lt_or_ge i b.length with hlt | hge
        · cases hbt : bt (b.getD i 0) 48 57
          · rw [all_not hlt hbt]
            (repeat' (first | (simp (disch := first | assumption | omega | (simp only [Fits, maxLen, pgq] at *; omega)) only [pgo, pgb, tyf, buildSliceV_w, simprocAttr, hbt]) | ((with_reducible show callW _ _ _ _ _ _); first | refine callW_use _ (good40 _ 48 57) rfl rfl rfl rfl ?_) | ((first | ((with_reducible show condC _ _ _ _ _ _ _); refine cond_at (fun hc => ?_) (fun hc => ?_)) | ((with_reducible show guardC _ _ _ _ _ _ _ _); refine guard_at (fun hc => ?_) (fun hc => ?_)) | ((with_reducible show drwG _ _ _ _ _ _ _ _ _ _); refine drw_at (fun hc => ?_) (fun hc => ?_))) <;> (try simp only [hc]) <;> (try simp only [pgd] at hc)) | (with_reducible refine chk_at (by kernel_rfl) ?_)))
            (refine ret_at [] _ (by first | exact retV_one _ _ _ | exact retV_two _ _ _ _ | exact retV_three _ _ _ _ _ | exact retV_four _ _ _ _ _ _ | (simp (disch := first | assumption | omega | (simp only [Fits, maxLen, pgq] at *; omega)) only [pgr, pgo, tyf, simprocAttr]; rfl)) (by decide) (by simp only [pgo, simprocAttr]) ?_; (first | rfl | simp only [pgo, simprocAttr]))
          · have h1 := bt_and hbt
            have h2 := dig_lt i (b.take i) (by simp; omega) hall
            have h3 : 10 ^ i ≤ 10 ^ 11 := Nat.pow_le_pow_right (by omega) (by omega)
            have h4 := dig_next hlt
            (repeat' (first | (simp (disch := first | assumption | omega | (simp only [Fits, maxLen, pgq] at *; omega)) only [pgo, pgb, tyf, buildSliceV_w, simprocAttr, hbt]) | ((with_reducible show callW _ _ _ _ _ _); first | refine callW_use _ (good40 _ 48 57) rfl rfl rfl rfl ?_) | ((first | ((with_reducible show condC _ _ _ _ _ _ _); refine cond_at (fun hc => ?_) (fun hc => ?_)) | ((with_reducible show guardC _ _ _ _ _ _ _ _); refine guard_at (fun hc => ?_) (fun hc => ?_)) | ((with_reducible show drwG _ _ _ _ _ _ _ _ _ _); refine drw_at (fun hc => ?_) (fun hc => ?_))) <;> (try simp only [hc]) <;> (try simp only [pgd] at hc)) | (with_reducible refine chk_at (by kernel_rfl) ?_)))
            (refine back_at (i + 1) [] [] (⟨by omega, all_next hlt hall hbt⟩) (by first | omega | (simp only [List.length_cons]; omega)) ?_; (refine keep_mkA ?_ ?_ (top_hd _ _ _) (by decide) (by decide) (by decide) (by decide); (repeat' (first | exact trivial | refine genB_one _ _ rfl rfl ?_ ?_)); all_goals (try simp only [pgs, pgl, pgx, pgf, pgw, GenA_cons, GenA_nil, GenL_cons, GenL_nil, gen_top, gen_c, gen_fz, pgn, simprocAttr]); all_goals (try (repeat' (first | apply And.intro))); all_goals (try (first | exact trivial | exact gen_ii (by omega) | exact gen_cc rfl | exact gen_own rfl rfl | exact gen_ref rfl))))
        · have hil : i = b.length := by omega
          subst hil
          rw [List.take_length] at hall
          have h2 := dig_lt b.length b rfl hall
          have h3 : 10 ^ b.length ≤ 10 ^ 12 := Nat.pow_le_pow_right (by omega) (by omega)
          rcases hbl with ⟨rfl, hbl⟩ | ⟨rfl, rfl⟩
          · (repeat' (first | (simp (disch := first | assumption | omega | (simp only [Fits, maxLen, pgq] at *; omega)) only [pgo, pgb, tyf, buildSliceV_w, simprocAttr, hall, List.take_length]) | ((first | ((with_reducible show condC _ _ _ _ _ _ _); refine cond_at (fun hc => ?_) (fun hc => ?_)) | ((with_reducible show guardC _ _ _ _ _ _ _ _); refine guard_at (fun hc => ?_) (fun hc => ?_)) | ((with_reducible show drwG _ _ _ _ _ _ _ _ _ _); refine drw_at (fun hc => ?_) (fun hc => ?_))) <;> (try simp only [hc]) <;> (try simp only [pgd] at hc)) | (with_reducible refine chk_at (by kernel_rfl) ?_)))
            (refine ret_at [] _ (by first | exact retV_one _ _ _ | exact retV_two _ _ _ _ | exact retV_three _ _ _ _ _ | exact retV_four _ _ _ _ _ _ | (simp (disch := first | assumption | omega | (simp only [Fits, maxLen, pgq] at *; omega)) only [pgr, pgo, tyf, simprocAttr]; rfl)) (by decide) (by simp only [pgo, simprocAttr]) ?_; (first | rfl | simp only [pgo, simprocAttr]))
            simp
          · (repeat' (first | (simp (disch := first | assumption | omega | (simp only [Fits, maxLen, pgq] at *; omega)) only [pgo, pgb, tyf, buildSliceV_w, simprocAttr, hall, List.take_length]) | ((first | ((with_reducible show condC _ _ _ _ _ _ _); refine cond_at (fun hc => ?_) (fun hc => ?_)) | ((with_reducible show guardC _ _ _ _ _ _ _ _); refine guard_at (fun hc => ?_) (fun hc => ?_)) | ((with_reducible show drwG _ _ _ _ _ _ _ _ _ _); refine drw_at (fun hc => ?_) (fun hc => ?_))) <;> (try simp only [hc]) <;> (try simp only [pgd] at hc)) | (with_reducible refine chk_at (by kernel_rfl) ?_)))
            (refine ret_at [] _ (by first | exact retV_one _ _ _ | exact retV_two _ _ _ _ | exact retV_three _ _ _ _ _ | exact retV_four _ _ _ _ _ _ | (simp (disch := first | assumption | omega | (simp only [Fits, maxLen, pgq] at *; omega)) only [pgr, pgo, tyf, simprocAttr]; rfl)) (by decide) (by simp only [pgo, simprocAttr]) ?_; (first | rfl | simp only [pgo, simprocAttr]))
    · have hne : b.length = 1 → b.getD 0 0 = 48 → neg = false → sB l = sB [48] := by
        intro h1 h2 h3
        rcases hbl with ⟨h4, _⟩ | ⟨_, h4⟩
        · rw [h3] at h4; cases h4
        · subst h4
          congr 1
          cases b with
          | nil => simp at h1
          | cons x xs => simp at h1 h2; simp [h1, h2]
      have hnn : (1 < b.length ∨ neg = true) → ¬ sB l = sB [48] := by
        intro h1 h2
        have h3 := sB_inj ho (oct_one (by omega)) h2
        rcases hbl with ⟨h4, h5⟩ | ⟨h4, h5⟩
        · rw [h3] at h5
          have h5' : b.length < 1 := h5
          have : b = [] := List.eq_nil_of_length_eq_zero (by omega)
          subst this
          rcases hb3 with ⟨_, _, h6, _⟩ | ⟨h6, _⟩
          · rw [h3] at h6; simp at h6
          · rw [h4] at h6; cases h6
        · rw [h5, h3] at h1
          rcases h1 with h1 | h1
          · simp at h1
          · rw [h4] at h1; cases h1
      have hno : 1 ≤ b.length → b.getD 0 0 = 48 → ¬ sB l = sB [48] → 1 < b.length ∨ neg = true := by
        intro h1 h2 h3
        rcases Nat.lt_or_ge 1 b.length with h4 | h4
        · exact .inl h4
        · cases neg
          · exact absurd (hne (by omega) h2 rfl) h3
          · exact .inr rfl
      (repeat' (first | (simp (disch := first | assumption | omega | (simp only [Fits, maxLen, pgq] at *; omega)) only [pgo, pgb, tyf, buildSliceV_w, simprocAttr, zero48]) | ((first | ((with_reducible show condC _ _ _ _ _ _ _); refine cond_at (fun hc => ?_) (fun hc => ?_)) | ((with_reducible show guardC _ _ _ _ _ _ _ _); refine guard_at (fun hc => ?_) (fun hc => ?_)) | ((with_reducible show drwG _ _ _ _ _ _ _ _ _ _); refine drw_at (fun hc => ?_) (fun hc => ?_))) <;> (try simp only [hc]) <;> (try simp only [pgd] at hc)) | (with_reducible refine chk_at (by kernel_rfl) ?_)))
      all_goals first
        | (rw [show badI b neg = true from (badI_iff _ _).2 (by first | exact .inl (by omega) | exact .inr (.inl (by omega)) | exact .inr (.inr ⟨by omega, hno (by omega) (by omega) (by assumption)⟩))]
           (refine ret_at [] _ (by first | exact retV_one _ _ _ | exact retV_two _ _ _ _ | exact retV_three _ _ _ _ _ | exact retV_four _ _ _ _ _ _ | (simp (disch := first | assumption | omega | (simp only [Fits, maxLen, pgq] at *; omega)) only [pgr, pgo, tyf, simprocAttr]; rfl)) (by decide) (by simp only [pgo, simprocAttr]) ?_; (first | rfl | simp only [pgo, simprocAttr])))
        | (refine meet_at () [] [] (show badI b _ = false by rw [← Bool.not_eq_true, badI_iff]; rintro (h | h | ⟨h, h'⟩) <;> first | omega | exact hnn h' (by assumption)) ?_
           (refine keep_mkA ?_ ?_ (top_hd _ _ _) (by decide) (by decide) (by decide) (by decide); (repeat' (first | exact trivial | refine genB_one _ _ rfl rfl ?_ ?_)); all_goals (try simp only [pgs, pgl, pgx, pgf, pgw, GenA_cons, GenA_nil, GenL_cons, GenL_nil, gen_top, gen_c, gen_fz, pgn, simprocAttr]); all_goals (try (repeat' (first | apply And.intro))); all_goals (try (first | exact trivial | exact gen_ii (by omega) | exact gen_cc rfl | exact gen_own rfl rfl | exact gen_ref rfl))))
  · rcases hb3 with ⟨rfl, h1, h2, rfl⟩ | ⟨rfl, h1, rfl⟩
    · (repeat' (first | (simp (disch := first | assumption | omega | (simp only [Fits, maxLen, pgq] at *; omega)) only [pgo, pgb, tyf, buildSliceV_w, simprocAttr, h2]) | ((first | ((with_reducible show condC _ _ _ _ _ _ _); refine cond_at (fun hc => ?_) (fun hc => ?_)) | ((with_reducible show guardC _ _ _ _ _ _ _ _); refine guard_at (fun hc => ?_) (fun hc => ?_)) | ((with_reducible show drwG _ _ _ _ _ _ _ _ _ _); refine drw_at (fun hc => ?_) (fun hc => ?_))) <;> (try simp only [hc]) <;> (try simp only [pgd] at hc)) | (with_reducible refine chk_at (by kernel_rfl) ?_)))
      refine meet_at () [] [] trivial ?_
      (refine keep_mkA ?_ ?_ (top_hd _ _ _) (by decide) (by decide) (by decide) (by decide); (repeat' (first | exact trivial | refine genB_one _ _ rfl rfl ?_ ?_)); all_goals (try simp only [pgs, pgl, pgx, pgf, pgw, GenA_cons, GenA_nil, GenL_cons, GenL_nil, gen_top, gen_c, gen_fz, pgn, simprocAttr]); all_goals (try (repeat' (first | apply And.intro))); all_goals (try (first | exact trivial | exact gen_ii (by omega) | exact gen_cc rfl | exact gen_own rfl rfl | exact gen_ref rfl)))
    · (repeat' (first | (simp (disch := first | assumption | omega | (simp only [Fits, maxLen, pgq] at *; omega)) only [pgo, pgb, tyf, buildSliceV_w, simprocAttr]) | ((first | ((with_reducible show condC _ _ _ _ _ _ _); refine cond_at (fun hc => ?_) (fun hc => ?_)) | ((with_reducible show guardC _ _ _ _ _ _ _ _); refine guard_at (fun hc => ?_) (fun hc => ?_)) | ((with_reducible show drwG _ _ _ _ _ _ _ _ _ _); refine drw_at (fun hc => ?_) (fun hc => ?_))) <;> (try simp only [hc]) <;> (try simp only [pgd] at hc)) | (with_reducible refine chk_at (by kernel_rfl) ?_)))
      all_goals refine meet_at () [] [] trivial ?_
      all_goals (refine keep_mkA ?_ ?_ (top_hd _ _ _) (by decide) (by decide) (by decide) (by decide); (repeat' (first | exact trivial | refine genB_one _ _ rfl rfl ?_ ?_)); all_goals (try simp only [pgs, pgl, pgx, pgf, pgw, GenA_cons, GenA_nil, GenL_cons, GenL_nil, gen_top, gen_c, gen_fz, pgn, simprocAttr]); all_goals (try (repeat' (first | apply And.intro))); all_goals (try (first | exact trivial | exact gen_ii (by omega) | exact gen_cc rfl | exact gen_own rfl rfl | exact gen_ref rfl)))
end Go.Proofs.YtjiolbcdfgclaaaGreatDoor
end

section
/-
  Names: strings.Builder: copyCheck, WriteByte, String, as contracts of states: the Builder lies in a box of the caller's.
-/
namespace Go.Proofs.YtjiolbcdfgclaaaGreatDoor
open Go Go.Pg
set_option maxRecDepth 10000
set_option linter.unusedSimpArgs false

theorem good54 (b o : Nat) : GoodX Tryz.prog 151 [.ref b o] (.ref b o) := by
  rintro L w cargs ⟨_, _, rfl, h, rfl⟩
  refine ⟨_, ?_, h⟩
  rw [run_callFunc_extern Tryz.func151 (by kernel_rfl) (by kernel_rfl) (by kernel_rfl) (e := Extern.AbiNoEscape.same) (by kernel_rfl)]
  rfl
theorem po1 : ptrOk Tryz.prog 113 184 115 2 0 = true := by kernel_rfl
theorem po2 : ptrOk Tryz.prog 184 113 115 2 0 = true := by kernel_rfl
theorem unE_at (e : Nat → V) (b : Nat → Option (TypeId × List V)) (n : Nat) (h : Nat → V) : outS ⟨e, b, n, h⟩ = ⟨unE h, b, n, unH h⟩ := rfl
theorem unE_map (ψ : V → V) (f : Nat → V) : unE (mapE ψ f) = mapE ψ (unE f) := rfl
theorem unH_map (ψ : V → V) (f : Nat → V) : unH (mapE ψ f) = mapE ψ (unH f) := rfl
theorem inlS_at (args : List V) (e : Nat → V) (b : Nat → Option (TypeId × List V)) (n : Nat) (h : Nat → V) : inlS args ⟨e, b, n, h⟩ = ⟨initE args 0, b, n, pair e h⟩ := rfl
theorem inlQ_ret (P : Program) (rs : List ResultVar) (s' : St) (r : V) (s : St) : inlQ P rs s' r .ret s = inlC P rs s' r s := rfl
theorem inlQ_normal (P : Program) (rs : List ResultVar) (s' : St) (r : V) (s : St) : inlQ P rs s' r .normal s = inlC P rs s' r s := rfl
theorem inl_at {P : Program} {rs : List ResultVar} {s' : St} {r : V} {e : Nat → V} {b : Nat → Option (TypeId × List V)} {n : Nat} {h : Nat → V} (h1 : retV P ⟨e, b, n, h⟩ rs = some r) (h2 : (⟨unE h, b, n, unH h⟩ : St) = s') : inlC P rs s' r ⟨e, b, n, h⟩ := ⟨h1, by subst h2; exact ⟨rfl, rfl, rfl, Nat.le_refl _⟩⟩
theorem inl_le {P : Program} {rs : List ResultVar} {e' : Nat → V} {b' : Nat → Option (TypeId × List V)} {n' : Nat} {h' : Nat → V} {r : V} {e : Nat → V} {b : Nat → Option (TypeId × List V)} {n : Nat} {h : Nat → V} (h1 : retV P ⟨e, b, n, h⟩ rs = some r) (h2 : unE h = e') (h3 : unH h = h') (h4 : b = b') (h5 : n ≤ n') : inlC P rs ⟨e', b', n', h'⟩ r ⟨e, b, n, h⟩ := ⟨h1, h2, h3, h4, h5⟩
theorem upd_upd {α : Type} (f : Nat → α) (d : Nat) (v v' : α) : upd (upd f d v) d v' = upd f d v' := by
  funext t; simp only [upd]; split <;> rfl
theorem upd_self {α : Type} (f : Nat → α) (d : Nat) (v : α) (h : f d = v) : upd f d v = f := by
  funext t; simp only [upd]; split
  · rename_i ht; rw [ht, h]
  · rfl

/-- A box that holds a Builder. -/
def isBld (b : Nat) (x : V) : Prop := x = .c (.pointer none) ∨ x = .ref b 0
theorem good46 (e : Nat → V) (bx : Nat → Option (TypeId × List V)) (n : Nat) (h : Nat → V) (b : Nat) (p x : V) (hb : bx b = some (115, [p, x])) (hp : isBld b p) :
    GoodZ Tryz.prog 109 [.ref b 0] ⟨e, bx, n, h⟩ ⟨e, upd bx b (some (115, [.ref b 0, x])), n, h⟩ (.tup []) := by
  refine goodZ_intro (drawW_ok mix) Tryz.func109 rfl Tryz.results109 rfl (by kernel_rfl) (Nat.le_of_ble_eq_true (by kernel_rfl)) ?_
  rcases hp with rfl | rfl
  · (repeat' (first | (simp (disch := first | assumption | omega | (simp only [Fits, maxLen, pgq] at *; omega)) only [pgo, pgb, tyf, buildSliceV_w, simprocAttr, Tryz.f109, inlS_at, inlQ_ret, inlQ_normal, hb, po1, po2]) | ((with_reducible show callW _ _ _ _ _ _); first | refine callZ _ ((good54 _ _).z _) rfl ?_) | ((first | ((with_reducible show condC _ _ _ _ _ _ _); refine cond_at (fun hc => ?_) (fun hc => ?_)) | ((with_reducible show guardC _ _ _ _ _ _ _ _); refine guard_at (fun hc => ?_) (fun hc => ?_)) | ((with_reducible show drwG _ _ _ _ _ _ _ _ _ _); refine drw_at (fun hc => ?_) (fun hc => ?_))) <;> (try simp only [hc]) <;> (try simp only [pgd] at hc)) | (with_reducible refine chk_at (by kernel_rfl) ?_)))
    refine inl_at (retV_none _ _) ?_
    rw [unE_pair, unH_pair]
  · (repeat' (first | (simp (disch := first | assumption | omega | (simp only [Fits, maxLen, pgq] at *; omega)) only [pgo, pgb, tyf, buildSliceV_w, simprocAttr, Tryz.f109, inlS_at, inlQ_ret, inlQ_normal, hb]) | ((first | ((with_reducible show condC _ _ _ _ _ _ _); refine cond_at (fun hc => ?_) (fun hc => ?_)) | ((with_reducible show guardC _ _ _ _ _ _ _ _); refine guard_at (fun hc => ?_) (fun hc => ?_)) | ((with_reducible show drwG _ _ _ _ _ _ _ _ _ _); refine drw_at (fun hc => ?_) (fun hc => ?_))) <;> (try simp only [hc]) <;> (try simp only [pgd] at hc)) | (with_reducible refine chk_at (by kernel_rfl) ?_)))
    refine inl_at (retV_none _ _) ?_
    rw [unE_pair, unH_pair, upd_self _ _ _ hb]
end Go.Proofs.YtjiolbcdfgclaaaGreatDoor
end

section
/-
  Names: strings.Builder: WriteByte, String, as contracts of states.
-/
namespace Go.Proofs.YtjiolbcdfgclaaaGreatDoor
open Go Go.Pg
set_option maxRecDepth 10000
set_option linter.unusedSimpArgs false

theorem ofConst_nilIface : ofConst .nilIface = .c .nilIface := rfl
theorem upd_mapB (ψ : V → V) (f : Nat → Option (TypeId × List V)) (b : Nat) (v y : Option (TypeId × List V)) : upd (mapB ψ (upd f b v)) b y = upd (mapB ψ f) b y := by
  funext t; simp only [upd, mapB]; split <;> rfl
theorem good31n (e : Nat → V) (bx : Nat → Option (TypeId × List V)) (n : Nat) (h : Nat → V) (b : Nat) (p : V) (c : Nat) (hb : bx b = some (115, [p, .c (.slice none 0 0)])) (hp : isBld b p) :
    GoodZ Tryz.prog 79 [.ref b 0, .c (.int .u8 (c : Int))] ⟨e, bx, n, h⟩ ⟨e, upd bx b (some (115, [.ref b 0, .sl (.own (n + 1) 5) 1 (bv [c])])), n + 2, h⟩ (.c .nilIface) := by
  refine goodZ_intro (drawW_ok mix) Tryz.func79 rfl Tryz.results79 rfl (by kernel_rfl) (Nat.le_of_ble_eq_true (by kernel_rfl)) ?_
  (repeat' (first | (simp (disch := first | assumption | omega | (simp only [Fits, maxLen, pgq] at *; omega)) only [pgo, pgb, tyf, buildSliceV_w, simprocAttr, Tryz.f79, inlS_at, inlQ_ret, inlQ_normal, hb, ofConst_nilIface]) | ((with_reducible show callW _ _ _ _ _ _); first | refine callZ _ (good46 _ _ _ _ _ _ _ hb hp) rfl ?_) | ((first | ((with_reducible show condC _ _ _ _ _ _ _); refine cond_at (fun hc => ?_) (fun hc => ?_)) | ((with_reducible show guardC _ _ _ _ _ _ _ _); refine guard_at (fun hc => ?_) (fun hc => ?_)) | ((with_reducible show drwG _ _ _ _ _ _ _ _ _ _); refine drw_at (fun hc => ?_) (fun hc => ?_))) <;> (try simp only [hc]) <;> (try simp only [pgd] at hc)) | (with_reducible refine chk_at (by kernel_rfl) ?_)))
  refine inl_at (retV_one _ _ _) ?_
  rw [unE_pair, unH_pair, upd_upd]
  rfl
theorem good31 (e : Nat → V) (bx : Nat → Option (TypeId × List V)) (n : Nat) (h : Nat → V) (b id : Nat) (p : V) (l : List Nat) (c : Nat) (hb : bx b = some (115, [p, .sl (.own id 5) 1 (bv l)])) (hp : isBld b p) (hl : l.length < 140737488355328) :
    GoodZ Tryz.prog 79 [.ref b 0, .c (.int .u8 (c : Int))] ⟨e, bx, n, h⟩ ⟨mapE (poison id) e, upd (mapB (poison id) bx) b (some (115, [.ref b 0, .sl (.own id 5) 1 (bv (l ++ [c]))])), max (n + 1) (id + 1), mapE (poison id) h⟩ (.c .nilIface) := by
  refine goodZ_intro (drawW_ok mix) Tryz.func79 rfl Tryz.results79 rfl (by kernel_rfl) (Nat.le_of_ble_eq_true (by kernel_rfl)) ?_
  (repeat' (first | (simp (disch := first | assumption | omega | (simp only [Fits, maxLen, pgq] at *; omega)) only [pgo, pgb, tyf, buildSliceV_w, simprocAttr, Tryz.f79, inlS_at, inlQ_ret, inlQ_normal, hb, ofConst_nilIface]) | ((with_reducible show callW _ _ _ _ _ _); first | refine callZ _ (good46 _ _ _ _ _ _ _ hb hp) rfl ?_) | ((first | ((with_reducible show condC _ _ _ _ _ _ _); refine cond_at (fun hc => ?_) (fun hc => ?_)) | ((with_reducible show guardC _ _ _ _ _ _ _ _); refine guard_at (fun hc => ?_) (fun hc => ?_)) | ((with_reducible show drwG _ _ _ _ _ _ _ _ _ _); refine drw_at (fun hc => ?_) (fun hc => ?_))) <;> (try simp only [hc]) <;> (try simp only [pgd] at hc)) | (with_reducible refine chk_at (by kernel_rfl) ?_)))
  refine inl_at (retV_one _ _ _) ?_
  rw [unE_map, unH_map, unE_pair, unH_pair, upd_mapB]
  simp [bv]
theorem oc (l : List Nat) (ho : oct l) : u8L (bv l) = some (l.map UInt8.ofNat) := by
  induction l with
  | nil => rfl
  | cons a l ih =>
    have h1 := ho a (by simp)
    have h2 := ih (fun x hx => ho x (by simp [hx]))
    simp only [bv, List.map_cons] at h2 ⊢
    unfold u8L
    rw [if_pos ⟨by omega, by omega⟩, h2]
    simp
theorem sdV_bv (t : Tag) (k : Nat) (l : List Nat) (h : 0 < l.length) : sdV (.sl t k (bv l)) = some (.el t k (bv l) 0 0) := by
  cases l with
  | nil => simp at h
  | cons a l => rfl
theorem pt61 : ptrTo Tryz.prog 152 = some 5 := by kernel_rfl
theorem co5 : Tryz.prog.cellsOf 5 = 1 := by kernel_rfl
theorem usV_bv (e : Nat → V) (bx : Nat → Option (TypeId × List V)) (n : Nat) (h : Nat → V) (id : Nat) (l : List Nat) (ho : oct l) (hl : 0 < l.length ∧ l.length ≤ 140737488355328) :
    usV Tryz.prog ⟨e, bx, n, h⟩ 152 (.el (.own id 5) 1 (bv l) 0 0) (.c (.int .i64 l.length)) = some (.c (.string (sB l)), ⟨mapE (frz id) e, mapB (frz id) bx, n, mapE (frz id) h⟩) := by
  unfold usV
  simp only [oc l ho, Option.bind_some, bv_len]
  rw [if_pos ⟨pt61, co5, trivial, by omega, by omega⟩]
  rfl
theorem good32 (e : Nat → V) (bx : Nat → Option (TypeId × List V)) (n : Nat) (h : Nat → V) (b id : Nat) (p : V) (l : List Nat) (hb : bx b = some (115, [p, .sl (.own id 5) 1 (bv l)])) (hl : 0 < l.length ∧ l.length ≤ 140737488355328) (ho : oct l) :
    GoodZ Tryz.prog 64 [.ref b 0] ⟨e, bx, n, h⟩ ⟨mapE (frz id) e, mapB (frz id) bx, n, mapE (frz id) h⟩ (.c (.string (sB l))) := by
  refine goodZ_intro (drawW_ok mix) Tryz.func64 rfl Tryz.results64 rfl (by kernel_rfl) (Nat.le_of_ble_eq_true (by kernel_rfl)) ?_
  (repeat' (first | (simp (disch := first | assumption | omega | (simp only [Fits, maxLen, pgq] at *; omega)) only [pgo, pgb, tyf, buildSliceV_w, simprocAttr, Tryz.f64, inlS_at, inlQ_ret, inlQ_normal, hb, sdV_bv, usV_bv _ _ _ _ _ _ ho hl]) | ((first | ((with_reducible show condC _ _ _ _ _ _ _); refine cond_at (fun hc => ?_) (fun hc => ?_)) | ((with_reducible show guardC _ _ _ _ _ _ _ _); refine guard_at (fun hc => ?_) (fun hc => ?_)) | ((with_reducible show drwG _ _ _ _ _ _ _ _ _ _); refine drw_at (fun hc => ?_) (fun hc => ?_))) <;> (try simp only [hc]) <;> (try simp only [pgd] at hc)) | (with_reducible refine chk_at (by kernel_rfl) ?_)))
  refine inl_at (retV_one _ _ _) ?_
  rw [unE_map, unH_map, unE_pair, unH_pair]
end Go.Proofs.YtjiolbcdfgclaaaGreatDoor
end

section
/-
  Names: FormatKey, the program's, of any string.
-/
namespace Go.Proofs.YtjiolbcdfgclaaaGreatDoor
open Go Go.Pg
set_option maxRecDepth 10000
set_option linter.unusedSimpArgs false

theorem shr4b (a : Nat) : Int.fdiv (a : Int) (2 ^ min 4 IntKind.u8.bits) = ((a / 16 : Nat) : Int) := shr4 a
theorem hexix (d : Nat) (k : IntKind) (h : d < 16) : ixV Tryz.prog 9 (.c (.string (sB hexd))) (.c (.int k (d : Nat))) = some (.c (.int .u8 (hx d : Nat))) := by
  rw [ixV_sB _ _ _ _ _ hexd_oct (by omega) (by simp [hexd]; omega), if_pos is9]
  rfl
theorem good11 (l : List Nat) (ho : oct l) : Pg.Good Tryz.prog 80 [.c (.string (sB l))] (fkV l) := by
  refine good_intro (drawW_ok mix) Tryz.func80 rfl Tryz.results80 rfl (by kernel_rfl) (Nat.le_of_ble_eq_true (by kernel_rfl)) ?_
  have g1 := good15 l
  unfold fkV fk
  cases h1 : isKey l <;> rw [h1] at g1
  · (repeat' (first | (simp (disch := first | assumption | omega | (simp only [Fits, maxLen, pgq] at *; omega)) only [pgo, pgb, tyf, buildSliceV_w, simprocAttr, Tryz.f80, nils]) | ((with_reducible show callW _ _ _ _ _ _); first | refine callW_use _ (g1) rfl rfl rfl rfl ?_) | ((first | ((with_reducible show condC _ _ _ _ _ _ _); refine cond_at (fun hc => ?_) (fun hc => ?_)) | ((with_reducible show guardC _ _ _ _ _ _ _ _); refine guard_at (fun hc => ?_) (fun hc => ?_)) | ((with_reducible show drwG _ _ _ _ _ _ _ _ _ _); refine drw_at (fun hc => ?_) (fun hc => ?_))) <;> (try simp only [hc]) <;> (try simp only [pgd] at hc)) | (with_reducible refine chk_at (by kernel_rfl) ?_)))
    (refine ret_at [] _ (by first | exact retV_one _ _ _ | exact retV_two _ _ _ _ | exact retV_three _ _ _ _ _ | exact retV_four _ _ _ _ _ _ | (simp (disch := first | assumption | omega | (simp only [Fits, maxLen, pgq] at *; omega)) only [pgr, pgo, tyf, simprocAttr]; rfl)) (by decide) (by simp only [pgo, simprocAttr]) ?_; (first | rfl | simp only [pgo, simprocAttr]))
  have hl := key_len h1
  have g2 := good30 l ho (by omega)
  cases h2 : plain l <;> rw [h2] at g2
  · (repeat' (first | (simp (disch := first | assumption | omega | (simp only [Fits, maxLen, pgq] at *; omega)) only [pgo, pgb, tyf, buildSliceV_w, simprocAttr, Tryz.f80, nils]) | ((with_reducible show callW _ _ _ _ _ _); first | refine callW_use _ (g1) rfl rfl rfl rfl ?_ | refine callW_use _ (g2) rfl rfl rfl rfl ?_ | refine callZ _ (good31n _ _ _ _ _ _ 37 rfl (.inl rfl)) rfl ?_) | ((first | ((with_reducible show condC _ _ _ _ _ _ _); refine cond_at (fun hc => ?_) (fun hc => ?_)) | ((with_reducible show guardC _ _ _ _ _ _ _ _); refine guard_at (fun hc => ?_) (fun hc => ?_)) | ((with_reducible show drwG _ _ _ _ _ _ _ _ _ _); refine drw_at (fun hc => ?_) (fun hc => ?_))) <;> (try simp only [hc]) <;> (try simp only [pgd] at hc)) | (with_reducible refine chk_at (by kernel_rfl) ?_)))
    refine loop_A (fun i => mkA [(0, .c (.string (sB l))), (4, .ref 0 0), (14, .c (.int .i64 l.length)), (15, .c (.int .i64 (i : Nat)))] [(0, (115, [.ref 0 0, .sl (.own 0 5) 1 (bv (37 :: hexL (l.take i)))]))] 1 (fun _ => .top)) (fun i => i ≤ l.length) (fun i => l.length - i) 0 [2] [0] ?_ (Nat.zero_le _) ?_
    · (refine keep_mkA ?_ ?_ (top_hd _ _ _) (by decide) (by decide) (by decide) (by decide); (repeat' (first | exact trivial | refine genB_one _ _ rfl rfl ?_ ?_)); all_goals (try simp only [pgs, pgl, pgx, pgf, pgw, GenA_cons, GenA_nil, GenL_cons, GenL_nil, gen_top, gen_c, gen_fz, pgn, simprocAttr]); all_goals (try (repeat' (first | apply And.intro))); all_goals (try (first | exact trivial | exact gen_ii (by omega) | exact gen_cc rfl | exact gen_own rfl rfl | exact gen_ref rfl)))
    · intro i hi
      rcases Nat.lt_or_ge i l.length with hlt | hge
      · have hc := getD_lt ho i
        have hx1 := hexL_len (l.take i)
        have hx2 : (l.take i).length ≤ i := by simp; omega
        (repeat' (first | (simp (disch := first | assumption | omega | (simp only [Fits, maxLen, pgq] at *; omega)) only [pgo, pgb, tyf, buildSliceV_w, simprocAttr, hexs, shr4b, and15, hexix]) | ((with_reducible show callW _ _ _ _ _ _); first | refine callZ _ (good31 _ _ _ _ 0 0 _ _ _ rfl (.inr rfl) (by simp only [List.length_cons, List.length_append, List.length_nil, Nat.zero_add] at *; omega)) rfl ?_) | ((first | ((with_reducible show condC _ _ _ _ _ _ _); refine cond_at (fun hc => ?_) (fun hc => ?_)) | ((with_reducible show guardC _ _ _ _ _ _ _ _); refine guard_at (fun hc => ?_) (fun hc => ?_)) | ((with_reducible show drwG _ _ _ _ _ _ _ _ _ _); refine drw_at (fun hc => ?_) (fun hc => ?_))) <;> (try simp only [hc]) <;> (try simp only [pgd] at hc)) | (with_reducible refine chk_at (by kernel_rfl) ?_)))
        (refine back_at (i + 1) [0] [0] (hlt) (by first | omega | (simp only [List.length_cons]; omega)) ?_; (refine keep_mkA ?_ ?_ (top_hd _ _ _) (by decide) (by decide) (by decide) (by decide); (repeat' (first | exact trivial | refine genB_one _ _ rfl rfl ?_ ?_)); all_goals (try simp only [pgs, pgl, pgx, pgf, pgw, GenA_cons, GenA_nil, GenL_cons, GenL_nil, gen_top, gen_c, gen_fz, pgn, simprocAttr]); all_goals (try (repeat' (first | apply And.intro))); all_goals (try (first | exact trivial | exact gen_ii (by omega) | exact gen_cc rfl | exact gen_own rfl rfl | exact gen_ref rfl))))
        exact gen_own rfl (by rw [hexL_next hlt])
      · have hil : i = l.length := by omega
        subst hil
        rw [List.take_length]
        have hx1 := hexL_len l
        (repeat' (first | (simp (disch := first | assumption | omega | (simp only [Fits, maxLen, pgq] at *; omega)) only [pgo, pgb, tyf, buildSliceV_w, simprocAttr]) | ((with_reducible show callW _ _ _ _ _ _); first | refine callZ _ (good32 _ _ _ _ 0 0 _ _ rfl (by simp only [List.length_cons] at *; omega) (oct_cons (by omega) (hexL_oct _))) rfl ?_) | ((first | ((with_reducible show condC _ _ _ _ _ _ _); refine cond_at (fun hc => ?_) (fun hc => ?_)) | ((with_reducible show guardC _ _ _ _ _ _ _ _); refine guard_at (fun hc => ?_) (fun hc => ?_)) | ((with_reducible show drwG _ _ _ _ _ _ _ _ _ _); refine drw_at (fun hc => ?_) (fun hc => ?_))) <;> (try simp only [hc]) <;> (try simp only [pgd] at hc)) | (with_reducible refine chk_at (by kernel_rfl) ?_)))
        (refine ret_at [] _ (by first | exact retV_one _ _ _ | exact retV_two _ _ _ _ | exact retV_three _ _ _ _ _ | exact retV_four _ _ _ _ _ _ | (simp (disch := first | assumption | omega | (simp only [Fits, maxLen, pgq] at *; omega)) only [pgr, pgo, tyf, simprocAttr]; rfl)) (by decide) (by simp only [pgo, simprocAttr]) ?_; (first | rfl | simp only [pgo, simprocAttr]))
  · (repeat' (first | (simp (disch := first | assumption | omega | (simp only [Fits, maxLen, pgq] at *; omega)) only [pgo, pgb, tyf, buildSliceV_w, simprocAttr, Tryz.f80, nils]) | ((with_reducible show callW _ _ _ _ _ _); first | refine callW_use _ (g1) rfl rfl rfl rfl ?_ | refine callW_use _ (g2) rfl rfl rfl rfl ?_) | ((first | ((with_reducible show condC _ _ _ _ _ _ _); refine cond_at (fun hc => ?_) (fun hc => ?_)) | ((with_reducible show guardC _ _ _ _ _ _ _ _); refine guard_at (fun hc => ?_) (fun hc => ?_)) | ((with_reducible show drwG _ _ _ _ _ _ _ _ _ _); refine drw_at (fun hc => ?_) (fun hc => ?_))) <;> (try simp only [hc]) <;> (try simp only [pgd] at hc)) | (with_reducible refine chk_at (by kernel_rfl) ?_)))
    (refine ret_at [] _ (by first | exact retV_one _ _ _ | exact retV_two _ _ _ _ | exact retV_three _ _ _ _ _ | exact retV_four _ _ _ _ _ _ | (simp (disch := first | assumption | omega | (simp only [Fits, maxLen, pgq] at *; omega)) only [pgr, pgo, tyf, simprocAttr]; rfl)) (by decide) (by simp only [pgo, simprocAttr]) ?_; (first | rfl | simp only [pgo, simprocAttr]))
end Go.Proofs.YtjiolbcdfgclaaaGreatDoor
end

section
/-
  Names: ParseKey, the program's, of any string (of at most 2^47 octets).
-/
namespace Go.Proofs.YtjiolbcdfgclaaaGreatDoor
open Go Go.Pg
set_option maxRecDepth 10000
set_option linter.unusedSimpArgs false

theorem ixB_hexd : ∀ c, c < 256 → ixB hexd c = nib c := by decide
theorem hx_nib : ∀ c, c < 256 → 0 ≤ nib c → hx (nib c).toNat = c := by decide
/-- The key that a text's form gives. -/
def keyOf (l : List Nat) : Option (List Nat) :=
  if hasP l [37] = true then (if (l.drop 1).length % 2 ≠ 0 then none else if okB (l.drop 1) ((l.drop 1).length / 2) = true then some (prs (l.drop 1) ((l.drop 1).length / 2)) else none) else some l
def pkP (l : List Nat) : List Nat × Nat :=
  match keyOf l with
  | none => ([], 1)
  | some k => if (fk k).2 ≠ 0 ∨ (fk k).1 ≠ l then ([], 1) else (k, 0)
theorem pct (l : List Nat) : hasP l [37] = true ↔ 0 < l.length ∧ l.getD 0 0 = 37 := by
  cases l with
  | nil => simp [hasP]
  | cons a l => simp [hasP]
theorem plain_pct (l : List Nat) (h : plain l = true) : hasP l [37] = false := by
  rw [← Bool.not_eq_true, pct]
  rintro ⟨h1, h2⟩
  cases l with
  | nil => simp at h1
  | cons a l =>
    simp at h2
    subst h2
    simp [plain, plC, bt, mk5] at h
theorem hexL_prs (r : List Nat) (ho : oct r) : ∀ j, 2 * j ≤ r.length → okB r j = true → hexL (prs r j) = r.take (2 * j) := by
  intro j
  induction j with
  | zero => intro _ _; rfl
  | succ j ih =>
    intro hj hok
    rw [okB_next, Bool.and_eq_true] at hok
    have h1 := ih (by omega) hok.1
    have h2 := hok.2
    unfold okP at h2
    simp only [Bool.and_eq_true, decide_eq_true_eq] at h2
    have b1 := getD_lt ho (2 * j)
    have b2 := getD_lt ho (2 * j + 1)
    have n1 := nib_rng (r.getD (2 * j) 0)
    have n2 := nib_rng (r.getD (2 * j + 1) 0)
    have e1 := hx_nib _ b1 h2.1
    have e2 := hx_nib _ b2 h2.2
    have e3 : prB r j / 16 = (nib (r.getD (2 * j) 0)).toNat := by unfold prB; omega
    have e4 : prB r j % 16 = (nib (r.getD (2 * j + 1) 0)).toNat := by unfold prB; omega
    rw [prs_next]
    have : hexL (prs r j ++ [prB r j]) = hexL (prs r j) ++ [hx (prB r j / 16), hx (prB r j % 16)] := by simp [hexL]
    rw [this, h1, e3, e4, e1, e2]
    rw [show 2 * (j + 1) = 2 * j + 1 + 1 by omega, List.take_succ_eq_append_getElem (show 2 * j + 1 < r.length by omega), List.take_succ_eq_append_getElem (show 2 * j < r.length by omega)]
    have g1 : r.getD (2 * j) 0 = r[2 * j]'(by omega) := by simp [List.getD, show 2 * j < r.length by omega]
    have g2 : r.getD (2 * j + 1) 0 = r[2 * j + 1]'(by omega) := by simp [List.getD, show 2 * j + 1 < r.length by omega]
    rw [g1, g2, List.append_assoc]
    rfl
theorem pkP_eq (l : List Nat) (ho : oct l) : pkP l = pk l := by
  unfold pkP keyOf
  cases hp : hasP l [37]
  · have hn : ¬ (0 < l.length ∧ l.getD 0 0 = 37) := fun h => by rw [← pct, hp] at h; cases h
    simp only [Bool.false_eq_true, if_false]
    unfold pk fk
    cases h1 : isKey l <;> cases h2 : plain l <;> simp only [Bool.and_true, Bool.and_false, Bool.false_and, Bool.true_and, Bool.false_eq_true, if_true, if_false, ne_eq, not_true_eq_false, or_false, false_or]
    · by_cases h0 : l.length = 0
      · rw [if_pos h0, if_pos (.inl (by decide))]
      · have : l.getD 0 0 ≠ 37 := fun h => hn ⟨by omega, h⟩
        rw [if_neg h0, if_pos this, if_pos (.inl (by decide))]
    · by_cases h0 : l.length = 0
      · rw [if_pos h0, if_pos (.inl (by decide))]
      · have : l.getD 0 0 ≠ 37 := fun h => hn ⟨by omega, h⟩
        rw [if_neg h0, if_pos this, if_pos (.inl (by decide))]
    · have hl := key_len h1
      have : l.getD 0 0 ≠ 37 := fun h => hn ⟨by omega, h⟩
      have hne : ¬ (37 :: hexL l = l) := by
        intro h
        apply this
        rw [← h]
        rfl
      have h0 : ¬ l.length = 0 := by omega
      rw [if_pos (.inr (by simpa using hne)), if_neg h0, if_pos this]
    · simp
  · obtain ⟨h1, h2⟩ := (pct l).1 hp
    have hpl : plain l = false := by
      cases h : plain l
      · rfl
      · have := plain_pct l h; rw [hp] at this; cases this
    unfold pk
    rw [hpl, Bool.and_false]
    simp only [if_true, Bool.false_eq_true, if_false]
    rw [if_neg (show ¬ l.length = 0 by omega), if_neg (show ¬ l.getD 0 0 ≠ 37 from fun h => h h2)]
    by_cases h5 : (l.drop 1).length % 2 ≠ 0
    · rw [if_pos h5]
      cases h4 : okB (l.drop 1) ((l.drop 1).length / 2)
      · rw [if_pos rfl]
      · rw [if_neg (by simp), if_pos h5]
    · rw [if_neg h5]
      cases h4 : okB (l.drop 1) ((l.drop 1).length / 2)
      · rw [if_neg (by simp), if_pos rfl]
      · rw [if_pos rfl, if_neg (by simp), if_neg h5]
        simp only
        have hx := hexL_prs (l.drop 1) (oct_drop ho 1) ((l.drop 1).length / 2) (by omega) h4
        have hk : 37 :: hexL (prs (l.drop 1) ((l.drop 1).length / 2)) = l := by
          rw [hx, List.take_of_length_le (by omega)]
          cases l with
          | nil => simp at h1
          | cons a l => simp at h2; simp [h2]
        generalize prs (l.drop 1) ((l.drop 1).length / 2) = k at hk
        unfold fk
        cases h6 : isKey k
        · simp
        · cases h7 : plain k
          · simp [hk]
          · have hne : k ≠ l := by
              intro h; subst h
              rw [h7] at hpl; cases hpl
            simp [hne]
end Go.Proofs.YtjiolbcdfgclaaaGreatDoor
end

section
/-
  Names: ParseKey, the program's, of any string: the walk.
-/
namespace Go.Proofs.YtjiolbcdfgclaaaGreatDoor
open Go Go.Pg
set_option maxRecDepth 10000
set_option linter.unusedSimpArgs false

theorem keyOf_oct {l k : List Nat} (ho : oct l) (hl : l.length ≤ 140737488355328) (h : keyOf l = some k) : oct k ∧ k.length ≤ 140737488355328 := by
  unfold keyOf at h
  split at h
  · split at h
    · cases h
    · split at h
      · simp only [Option.some.injEq] at h
        subst h
        exact ⟨prs_oct _ _, by rw [prs_len, List.length_drop]; omega⟩
      · cases h
  · simp only [Option.some.injEq] at h
    subst h
    exact ⟨ho, hl⟩
theorem sneV (a b : List Nat) (ha : oct a) (hb : oct b) : decide (sB a = sB b) = decide (a = b) := sB_dec ha hb
theorem fk_oct {k : List Nat} (ho : oct k) : oct (fk k).1 := by
  unfold fk
  split
  · exact oct_nil
  · split
    · exact ho
    · exact oct_cons (by omega) (hexL_oct _)
theorem good13 (l : List Nat) (ho : oct l) (hl : l.length ≤ 140737488355328) : Pg.Good Tryz.prog 145 [.c (.string (sB l))] (pkV l) := by
  refine good_intro (drawC_ok [15] mix) Tryz.func145 rfl Tryz.results145 rfl (by kernel_rfl) (Nat.le_of_ble_eq_true (by kernel_rfl)) ?_
  have g1 := good35 l [37] ho (oct_one (by omega))
  unfold pkV
  rw [← pkP_eq l ho]
  unfold pkP
  (repeat' (first | (simp (disch := first | assumption | omega | (simp only [Fits, maxLen, pgq] at *; omega)) only [pgo, pgb, tyf, buildSliceV_w, simprocAttr, Tryz.f145, nils, pcts]) | ((first | ((with_reducible show condC _ _ _ _ _ _ _); refine cond_at (fun hc => ?_) (fun hc => ?_)) | ((with_reducible show guardC _ _ _ _ _ _ _ _); refine guard_at (fun hc => ?_) (fun hc => ?_)) | ((with_reducible show drwG _ _ _ _ _ _ _ _ _ _); refine drw_at (fun hc => ?_) (fun hc => ?_))) <;> (try simp only [hc]) <;> (try simp only [pgd] at hc)) | (with_reducible refine chk_at (by kernel_rfl) ?_)))
  refine seq_cut _ (fun k => mkA [(0, .c (.string (sB l))), (4, .c (.string (sB k)))] [] 0 (fun _ => .top)) (fun k => keyOf l = some k) rfl ?_ ?_
  · intro k hk
    obtain ⟨hko, hkl⟩ := keyOf_oct ho hl hk
    have g2 := good11 k hko
    have hfo := fk_oct hko
    rw [hk]
    simp only
    by_cases h1 : (fk k).2 = 0
    · have e1 : (((fk k).2 : Nat) : Int) = 0 := by omega
      by_cases h2 : (fk k).1 = l
      · rw [if_neg (by simp [h1, h2])]
        unfold fkV at g2
        rw [e1, h2] at g2
        (repeat' (first | (simp (disch := first | assumption | omega | (simp only [Fits, maxLen, pgq] at *; omega)) only [pgo, pgb, tyf, buildSliceV_w, simprocAttr, nils]) | ((with_reducible show callW _ _ _ _ _ _); first | refine callW_use _ (g2) rfl rfl rfl rfl ?_) | ((first | ((with_reducible show condC _ _ _ _ _ _ _); refine cond_at (fun hc => ?_) (fun hc => ?_)) | ((with_reducible show guardC _ _ _ _ _ _ _ _); refine guard_at (fun hc => ?_) (fun hc => ?_)) | ((with_reducible show drwG _ _ _ _ _ _ _ _ _ _); refine drw_at (fun hc => ?_) (fun hc => ?_))) <;> (try simp only [hc]) <;> (try simp only [pgd] at hc)) | (with_reducible refine chk_at (by kernel_rfl) ?_)))
        (refine ret_at [] _ (by first | exact retV_one _ _ _ | exact retV_two _ _ _ _ | exact retV_three _ _ _ _ _ | exact retV_four _ _ _ _ _ _ | (simp (disch := first | assumption | omega | (simp only [Fits, maxLen, pgq] at *; omega)) only [pgr, pgo, tyf, simprocAttr]; rfl)) (by decide) (by simp only [pgo, simprocAttr]) ?_; (first | rfl | simp only [pgo, simprocAttr]))
      · rw [if_pos (.inr h2)]
        unfold fkV at g2
        rw [e1] at g2
        (repeat' (first | (simp (disch := first | assumption | omega | (simp only [Fits, maxLen, pgq] at *; omega)) only [pgo, pgb, tyf, buildSliceV_w, simprocAttr, nils, sneV _ _ hfo ho]) | ((with_reducible show callW _ _ _ _ _ _); first | refine callW_use _ (g2) rfl rfl rfl rfl ?_) | ((first | ((with_reducible show condC _ _ _ _ _ _ _); refine cond_at (fun hc => ?_) (fun hc => ?_)) | ((with_reducible show guardC _ _ _ _ _ _ _ _); refine guard_at (fun hc => ?_) (fun hc => ?_)) | ((with_reducible show drwG _ _ _ _ _ _ _ _ _ _); refine drw_at (fun hc => ?_) (fun hc => ?_))) <;> (try simp only [hc]) <;> (try simp only [pgd] at hc)) | (with_reducible refine chk_at (by kernel_rfl) ?_)))
        (refine ret_at [] _ (by first | exact retV_one _ _ _ | exact retV_two _ _ _ _ | exact retV_three _ _ _ _ _ | exact retV_four _ _ _ _ _ _ | (simp (disch := first | assumption | omega | (simp only [Fits, maxLen, pgq] at *; omega)) only [pgr, pgo, tyf, simprocAttr]; rfl)) (by decide) (by simp only [pgo, simprocAttr]) ?_; (first | rfl | simp only [pgo, simprocAttr]))
    · rw [if_pos (.inl h1)]
      unfold fkV at g2
      (repeat' (first | (simp (disch := first | assumption | omega | (simp only [Fits, maxLen, pgq] at *; omega)) only [pgo, pgb, tyf, buildSliceV_w, simprocAttr, nils]) | ((with_reducible show callW _ _ _ _ _ _); first | refine callW_use _ (g2) rfl rfl rfl rfl ?_) | ((first | ((with_reducible show condC _ _ _ _ _ _ _); refine cond_at (fun hc => ?_) (fun hc => ?_)) | ((with_reducible show guardC _ _ _ _ _ _ _ _); refine guard_at (fun hc => ?_) (fun hc => ?_)) | ((with_reducible show drwG _ _ _ _ _ _ _ _ _ _); refine drw_at (fun hc => ?_) (fun hc => ?_))) <;> (try simp only [hc]) <;> (try simp only [pgd] at hc)) | (with_reducible refine chk_at (by kernel_rfl) ?_)))
      (refine ret_at [] _ (by first | exact retV_one _ _ _ | exact retV_two _ _ _ _ | exact retV_three _ _ _ _ _ | exact retV_four _ _ _ _ _ _ | (simp (disch := first | assumption | omega | (simp only [Fits, maxLen, pgq] at *; omega)) only [pgr, pgo, tyf, simprocAttr]; rfl)) (by decide) (by simp only [pgo, simprocAttr]) ?_; (first | rfl | simp only [pgo, simprocAttr]))
  · rcases cutP_cases l [37] with ⟨hp, h2⟩ | ⟨hp, h2⟩
    · rw [h2] at g1
      have hro := oct_drop ho 1
      have e5 : ((l.drop 1).length : Int).tmod 2 = (((l.drop 1).length % 2 : Nat) : Int) := rfl
      have hkk : keyOf l = if (l.drop 1).length % 2 ≠ 0 then none else if okB (l.drop 1) ((l.drop 1).length / 2) = true then some (prs (l.drop 1) ((l.drop 1).length / 2)) else none := by unfold keyOf; rw [if_pos hp]
      simp only [List.length_cons, List.length_nil, Nat.zero_add] at g1
      generalize hr : l.drop 1 = r at g1 hro e5 hkk
      have hrl : r.length ≤ 140737488355328 := by rw [← hr, List.length_drop]; omega
      by_cases hodd : r.length % 2 = 0
      · rw [if_neg (by omega)] at hkk
        (repeat' (first | (simp (disch := first | assumption | omega | (simp only [Fits, maxLen, pgq] at *; omega)) only [pgo, pgb, tyf, buildSliceV_w, simprocAttr, nils, e5, hodd]) | ((with_reducible show callW _ _ _ _ _ _); first | refine callW_use _ (g1) rfl rfl rfl rfl ?_) | ((first | ((with_reducible show condC _ _ _ _ _ _ _); refine cond_at (fun hc => ?_) (fun hc => ?_)) | ((with_reducible show guardC _ _ _ _ _ _ _ _); refine guard_at (fun hc => ?_) (fun hc => ?_)) | ((with_reducible show drwG _ _ _ _ _ _ _ _ _ _); refine drw_at (fun hc => ?_) (fun hc => ?_))) <;> (try simp only [hc]) <;> (try simp only [pgd] at hc)) | (with_reducible refine chk_at (by kernel_rfl) ?_)))
        refine loop_A (fun j => mkA [(0, .c (.string (sB l))), (5, .c (.string (sB r))), (7, .sl (.own 0 5) 1 (bv (prs r j))), (8, .c (.int .i64 (2 * (j : Nat))))] [] 1 (fun _ => .top)) (fun j => j ≤ r.length / 2 ∧ okB r j = true) (fun j => r.length / 2 - j) 0 [] [] ?_ ⟨Nat.zero_le _, rfl⟩ ?_
        · (refine keep_mkA ?_ ?_ (top_hd _ _ _) (by decide) (by decide) (by decide) (by decide); (repeat' (first | exact trivial | refine genB_one _ _ rfl rfl ?_ ?_)); all_goals (try simp only [pgs, pgl, pgx, pgf, pgw, GenA_cons, GenA_nil, GenL_cons, GenL_nil, gen_top, gen_c, gen_fz, pgn, simprocAttr]); all_goals (try (repeat' (first | apply And.intro))); all_goals (try (first | exact trivial | exact gen_ii (by omega) | exact gen_cc rfl | exact gen_own rfl rfl | exact gen_ref rfl)))
          all_goals exact gen_nilx rfl
        · rintro j ⟨hj, hok⟩
          have en1 : (2 * (j : Int)).toNat = 2 * j := by omega
          have en2 : (2 * (j : Int) + 1).toNat = 2 * j + 1 := by omega
          rcases Nat.lt_or_ge j (r.length / 2) with hlt | hge
          · have q1 := good36 hexd (r.getD (2 * j) 0) hexd_oct (getD_lt hro _)
            have q2 := good36 hexd (r.getD (2 * j + 1) 0) hexd_oct (getD_lt hro _)
            rw [ixB_hexd _ (getD_lt hro _)] at q1 q2
            have hr1 := nib_rng (r.getD (2 * j) 0)
            have hr2 := nib_rng (r.getD (2 * j + 1) 0)
            have hv : 0 ≤ nib (r.getD (2 * j) 0) → 0 ≤ nib (r.getD (2 * j + 1) 0) → 16 * nib (r.getD (2 * j) 0) + nib (r.getD (2 * j + 1) 0) = ((prB r j : Nat) : Int) := by
              intro h1 h2
              unfold prB
              omega
            have hpl := prs_len r j
            cases hp : okP r j
            · rw [if_neg (by rw [okB_not hlt hp]; simp)] at hkk
              unfold okP at hp
              have hp' : nib (r.getD (2 * j) 0) < 0 ∨ nib (r.getD (2 * j + 1) 0) < 0 := by
                rw [← Bool.not_eq_true, Bool.and_eq_true, decide_eq_true_eq, decide_eq_true_eq] at hp
                omega
              rw [hkk]
              rcases hp' with hp' | hp'
              · (repeat' (first | (simp (disch := first | assumption | omega | (simp only [Fits, maxLen, pgq] at *; omega)) only [pgo, pgb, tyf, buildSliceV_w, simprocAttr, nils, hexs, en1, en2]) | ((with_reducible show callW _ _ _ _ _ _); first | refine callW_use _ (q1) rfl rfl rfl rfl ?_ | refine callW_use _ (q2) rfl rfl rfl rfl ?_) | ((first | ((with_reducible show condC _ _ _ _ _ _ _); refine cond_at (fun hc => ?_) (fun hc => ?_)) | ((with_reducible show guardC _ _ _ _ _ _ _ _); refine guard_at (fun hc => ?_) (fun hc => ?_)) | ((with_reducible show drwG _ _ _ _ _ _ _ _ _ _); refine drw_at (fun hc => ?_) (fun hc => ?_))) <;> (try simp only [hc]) <;> (try simp only [pgd] at hc)) | (with_reducible refine chk_at (by kernel_rfl) ?_)))
                (refine ret_at [] _ (by first | exact retV_one _ _ _ | exact retV_two _ _ _ _ | exact retV_three _ _ _ _ _ | exact retV_four _ _ _ _ _ _ | (simp (disch := first | assumption | omega | (simp only [Fits, maxLen, pgq] at *; omega)) only [pgr, pgo, tyf, simprocAttr]; rfl)) (by decide) (by simp only [pgo, simprocAttr]) ?_; (first | rfl | simp only [pgo, simprocAttr]))
              · (repeat' (first | (simp (disch := first | assumption | omega | (simp only [Fits, maxLen, pgq] at *; omega)) only [pgo, pgb, tyf, buildSliceV_w, simprocAttr, nils, hexs, en1, en2]) | ((with_reducible show callW _ _ _ _ _ _); first | refine callW_use _ (q1) rfl rfl rfl rfl ?_ | refine callW_use _ (q2) rfl rfl rfl rfl ?_) | ((first | ((with_reducible show condC _ _ _ _ _ _ _); refine cond_at (fun hc => ?_) (fun hc => ?_)) | ((with_reducible show guardC _ _ _ _ _ _ _ _); refine guard_at (fun hc => ?_) (fun hc => ?_)) | ((with_reducible show drwG _ _ _ _ _ _ _ _ _ _); refine drw_at (fun hc => ?_) (fun hc => ?_))) <;> (try simp only [hc]) <;> (try simp only [pgd] at hc)) | (with_reducible refine chk_at (by kernel_rfl) ?_)))
                all_goals (refine ret_at [] _ (by first | exact retV_one _ _ _ | exact retV_two _ _ _ _ | exact retV_three _ _ _ _ _ | exact retV_four _ _ _ _ _ _ | (simp (disch := first | assumption | omega | (simp only [Fits, maxLen, pgq] at *; omega)) only [pgr, pgo, tyf, simprocAttr]; rfl)) (by decide) (by simp only [pgo, simprocAttr]) ?_; (first | rfl | simp only [pgo, simprocAttr]))
            · have hp0 := hp
              unfold okP at hp
              rw [Bool.and_eq_true, decide_eq_true_eq, decide_eq_true_eq] at hp
              have hv := hv hp.1 hp.2
              (repeat' (first | (simp (disch := first | assumption | omega | (simp only [Fits, maxLen, pgq] at *; omega)) only [pgo, pgb, tyf, buildSliceV_w, simprocAttr, nils, hexs, en1, en2, hv]) | ((with_reducible show callW _ _ _ _ _ _); first | refine callW_use _ (q1) rfl rfl rfl rfl ?_ | refine callW_use _ (q2) rfl rfl rfl rfl ?_) | ((first | ((with_reducible show condC _ _ _ _ _ _ _); refine cond_at (fun hc => ?_) (fun hc => ?_)) | ((with_reducible show guardC _ _ _ _ _ _ _ _); refine guard_at (fun hc => ?_) (fun hc => ?_)) | ((with_reducible show drwG _ _ _ _ _ _ _ _ _ _); refine drw_at (fun hc => ?_) (fun hc => ?_))) <;> (try simp only [hc]) <;> (try simp only [pgd] at hc)) | (with_reducible refine chk_at (by kernel_rfl) ?_)))
              (refine back_at (j + 1) [0] [] (⟨hlt, by rw [okB_next, hok, hp0]; rfl⟩) (by first | omega | (simp only [List.length_cons]; omega)) ?_; (refine keep_mkA ?_ ?_ (top_hd _ _ _) (by decide) (by decide) (by decide) (by decide); (repeat' (first | exact trivial | refine genB_one _ _ rfl rfl ?_ ?_)); all_goals (try simp only [pgs, pgl, pgx, pgf, pgw, GenA_cons, GenA_nil, GenL_cons, GenL_nil, gen_top, gen_c, gen_fz, pgn, simprocAttr]); all_goals (try (repeat' (first | apply And.intro))); all_goals (try (first | exact trivial | exact gen_ii (by omega) | exact gen_cc rfl | exact gen_own rfl rfl | exact gen_ref rfl))))
              exact gen_own rfl (by rw [prs_next, ← bv_app]; rfl)
          · have hjn : j = r.length / 2 := by omega
            rw [← hjn, if_pos hok] at hkk
            (repeat' (first | (simp (disch := first | assumption | omega | (simp only [Fits, maxLen, pgq] at *; omega)) only [pgo, pgb, tyf, buildSliceV_w, simprocAttr, nils, convK_42]) | ((first | ((with_reducible show condC _ _ _ _ _ _ _); refine cond_at (fun hc => ?_) (fun hc => ?_)) | ((with_reducible show guardC _ _ _ _ _ _ _ _); refine guard_at (fun hc => ?_) (fun hc => ?_)) | ((with_reducible show drwG _ _ _ _ _ _ _ _ _ _); refine drw_at (fun hc => ?_) (fun hc => ?_))) <;> (try simp only [hc]) <;> (try simp only [pgd] at hc)) | (with_reducible refine chk_at (by kernel_rfl) ?_)))
            refine meet_at (prs r j) [] [] hkk ?_
            (refine keep_mkA ?_ ?_ (top_hd _ _ _) (by decide) (by decide) (by decide) (by decide); (repeat' (first | exact trivial | refine genB_one _ _ rfl rfl ?_ ?_)); all_goals (try simp only [pgs, pgl, pgx, pgf, pgw, GenA_cons, GenA_nil, GenL_cons, GenL_nil, gen_top, gen_c, gen_fz, pgn, simprocAttr]); all_goals (try (repeat' (first | apply And.intro))); all_goals (try (first | exact trivial | exact gen_ii (by omega) | exact gen_cc rfl | exact gen_own rfl rfl | exact gen_ref rfl)))
      · rw [if_pos hodd] at hkk
        rw [hkk]
        (repeat' (first | (simp (disch := first | assumption | omega | (simp only [Fits, maxLen, pgq] at *; omega)) only [pgo, pgb, tyf, buildSliceV_w, simprocAttr, nils, e5]) | ((with_reducible show callW _ _ _ _ _ _); first | refine callW_use _ (g1) rfl rfl rfl rfl ?_) | ((first | ((with_reducible show condC _ _ _ _ _ _ _); refine cond_at (fun hc => ?_) (fun hc => ?_)) | ((with_reducible show guardC _ _ _ _ _ _ _ _); refine guard_at (fun hc => ?_) (fun hc => ?_)) | ((with_reducible show drwG _ _ _ _ _ _ _ _ _ _); refine drw_at (fun hc => ?_) (fun hc => ?_))) <;> (try simp only [hc]) <;> (try simp only [pgd] at hc)) | (with_reducible refine chk_at (by kernel_rfl) ?_)))
        (refine ret_at [] _ (by first | exact retV_one _ _ _ | exact retV_two _ _ _ _ | exact retV_three _ _ _ _ _ | exact retV_four _ _ _ _ _ _ | (simp (disch := first | assumption | omega | (simp only [Fits, maxLen, pgq] at *; omega)) only [pgr, pgo, tyf, simprocAttr]; rfl)) (by decide) (by simp only [pgo, simprocAttr]) ?_; (first | rfl | simp only [pgo, simprocAttr]))
    · rw [h2] at g1
      have hkk : keyOf l = some l := by unfold keyOf; rw [if_neg (by rw [hp]; simp)]
      (repeat' (first | (simp (disch := first | assumption | omega | (simp only [Fits, maxLen, pgq] at *; omega)) only [pgo, pgb, tyf, buildSliceV_w, simprocAttr, nils]) | ((with_reducible show callW _ _ _ _ _ _); first | refine callW_use _ (g1) rfl rfl rfl rfl ?_) | ((first | ((with_reducible show condC _ _ _ _ _ _ _); refine cond_at (fun hc => ?_) (fun hc => ?_)) | ((with_reducible show guardC _ _ _ _ _ _ _ _); refine guard_at (fun hc => ?_) (fun hc => ?_)) | ((with_reducible show drwG _ _ _ _ _ _ _ _ _ _); refine drw_at (fun hc => ?_) (fun hc => ?_))) <;> (try simp only [hc]) <;> (try simp only [pgd] at hc)) | (with_reducible refine chk_at (by kernel_rfl) ?_)))
      refine meet_at l [] [] hkk ?_
      (refine keep_mkA ?_ ?_ (top_hd _ _ _) (by decide) (by decide) (by decide) (by decide); (repeat' (first | exact trivial | refine genB_one _ _ rfl rfl ?_ ?_)); all_goals (try simp only [pgs, pgl, pgx, pgf, pgw, GenA_cons, GenA_nil, GenL_cons, GenL_nil, gen_top, gen_c, gen_fz, pgn, simprocAttr]); all_goals (try (repeat' (first | apply And.intro))); all_goals (try (first | exact trivial | exact gen_ii (by omega) | exact gen_cc rfl | exact gen_own rfl rfl | exact gen_ref rfl)))
end Go.Proofs.YtjiolbcdfgclaaaGreatDoor
end

section
/-
  DERIVED: THE SHELF's CONTRACTS AT THIS DUMP, IN PLAIN WORDS (tools/lay-plain.mjs out of 'TryzShelf.lean', which tools/lay-shelf.mjs wrote): THE SAME DECLARATIONS UNDER THE SAME NAMES: 'import', 'namespace', 'open', 'def', 'theorem' AND NOTHING ELSE: no command of the shelf's: FOR A HAND-IN. Each laying: the table of numbers ('.._ren') and one theorem, a field a fact of the dump's own or the kernel's comparison; each contract: ONE APPLICATION.
-/
namespace Go.Proofs
open Go.Shelf
def Tryz.lays156_ren : Go.Shelf.Ren := ⟨fun | 156 => 46 | 165 => 81 | 166 => 60 | 169 => 64 | 240 => 109 | 241 => 135 | 276 => 151 | 277 => 189 | n => n, fun | 31 => 23 | 9 => 9 | 3 => 3 | 4 => 4 | 0 => 0 | 20 => 20 | 72 => 115 | 76 => 118 | 70 => 113 | 37 => 28 | 75 => 117 | 127 => 152 | 164 => 184 | 5 => 5 | 80 => 121 | n => n, fun | n => n⟩
theorem Tryz.lays156 : Go.Proofs.Lays.n156 Tryz.prog Tryz.lays156_ren := {
  mixed := by kernel_rfl
  f156 := Tryz.func46.trans (congrArg some (by kernel_rfl))
  f165 := Tryz.func81.trans (congrArg some (by kernel_rfl))
  f166 := Tryz.func60.trans (congrArg some (by kernel_rfl))
  f169 := Tryz.func64.trans (congrArg some (by kernel_rfl))
  f240 := Tryz.func109.trans (congrArg some (by kernel_rfl))
  f241 := Tryz.func135.trans (congrArg some (by kernel_rfl))
  f276 := Tryz.func151.trans (congrArg some (by kernel_rfl))
  f277 := Tryz.func189.trans (congrArg some (by kernel_rfl))
  t0 := Tryz.underlying0
  a0 := Tryz.isAgg0
  z0 := Tryz.sizeOf0
  v0 := Tryz.zeroValue0
  t3 := Tryz.underlying3
  a3 := Tryz.isAgg3
  z3 := Tryz.sizeOf3
  v3 := Tryz.zeroValue3
  t4 := Tryz.underlying4
  a4 := Tryz.isAgg4
  z4 := Tryz.sizeOf4
  v4 := Tryz.zeroValue4
  t9 := Tryz.underlying9
  a9 := Tryz.isAgg9
  z9 := Tryz.sizeOf9
  v9 := Tryz.zeroValue9
  t20 := Tryz.underlying20
  a20 := Tryz.isAgg20
  z20 := Tryz.sizeOf20
  v20 := Tryz.zeroValue20
  t31 := Tryz.underlying23
  a31 := Tryz.isAgg23
  z31 := Tryz.sizeOf23
  v31 := Tryz.zeroValue23
  t37 := Tryz.underlying28
  a37 := Tryz.isAgg28
  z37 := Tryz.sizeOf28
  v37 := Tryz.zeroValue28
  t70 := Tryz.underlying113
  a70 := Tryz.isAgg113
  z70 := Tryz.sizeOf113
  v70 := Tryz.zeroValue113
  t72 := Tryz.underlying115
  a72 := Tryz.isAgg115
  z72 := Tryz.sizeOf115
  v72 := Tryz.zeroValue115
  t75 := Tryz.underlying117
  a75 := Tryz.isAgg117
  z75 := Tryz.sizeOf117
  v75 := Tryz.zeroValue117
  t76 := Tryz.underlying118
  a76 := Tryz.isAgg118
  z76 := Tryz.sizeOf118
  v76 := Tryz.zeroValue118
  t127 := Tryz.underlying152
  a127 := Tryz.isAgg152
  z127 := Tryz.sizeOf152
  v127 := Tryz.zeroValue152
  t164 := Tryz.underlying184
  a164 := Tryz.isAgg184
  z164 := Tryz.sizeOf184
  v164 := Tryz.zeroValue184 }
theorem Tryz.Builder_Extra_156 : Builder.Extra Tryz.prog Tryz.lays156_ren := {
  sizeBuilder := by kernel_rfl
  liesBuilder := by kernel_rfl
  t5 := Tryz.underlying5
  a5 := Tryz.isAgg5
  z5 := Tryz.sizeOf5
  v5 := Tryz.zeroValue5
  infoByte := by kernel_rfl
  cellsByte := by kernel_rfl
  sizeByte := by kernel_rfl
  neB5 := by decide }
def Tryz.laysM171_ren : Go.Shelf.Ren := ⟨fun | 171 => 75 | 243 => 131 | 246 => 181 | 283 => 182 | 284 => 183 | 285 => 184 | 286 => 185 | 129 => 221 | 317 => 220 | 318 => 222 | 319 => 223 | 320 => 224 | 337 => 243 | 338 => 244 | n => n, fun | 3 => 3 | 9 => 9 | 2 => 2 | 4 => 4 | 171 => 219 | 0 => 0 | 53 => 24 | 37 => 28 | 5 => 5 | 173 => 222 | 212 => 256 | 51 => 197 | 20 => 20 | 213 => 257 | 46 => 45 | 232 => 282 | 233 => 283 | n => n, fun | 17 => 0 | 18 => 2 | 19 => 3 | n => n⟩
theorem Tryz.laysM171 : Go.Proofs.LaysM.n171 Tryz.prog Tryz.laysM171_ren := {
  mixed := by kernel_rfl
  f129 := Tryz.func221.trans (congrArg some (by kernel_rfl))
  f171 := Tryz.func75.trans (congrArg some (by kernel_rfl))
  f243 := Tryz.func131.trans (congrArg some (by kernel_rfl))
  f246 := Tryz.func181.trans (congrArg some (by kernel_rfl))
  f283 := Tryz.func182.trans (congrArg some (by kernel_rfl))
  f284 := Tryz.func183.trans (congrArg some (by kernel_rfl))
  f285 := Tryz.func184.trans (congrArg some (by kernel_rfl))
  f286 := Tryz.func185.trans (congrArg some (by kernel_rfl))
  f317 := Tryz.func220.trans (congrArg some (by kernel_rfl))
  f318 := Tryz.func222.trans (congrArg some (by kernel_rfl))
  f319 := Tryz.func223.trans (congrArg some (by kernel_rfl))
  f320 := Tryz.func224.trans (congrArg some (by kernel_rfl))
  f337 := Tryz.func243.trans (congrArg some (by kernel_rfl))
  f338 := Tryz.func244.trans (congrArg some (by kernel_rfl))
  t0 := Tryz.underlying0
  a0 := Tryz.isAgg0
  z0 := Tryz.sizeOf0
  v0 := Tryz.zeroValue0
  t2 := Tryz.underlying2
  a2 := Tryz.isAgg2
  z2 := Tryz.sizeOf2
  v2 := Tryz.zeroValue2
  t3 := Tryz.underlying3
  a3 := Tryz.isAgg3
  z3 := Tryz.sizeOf3
  v3 := Tryz.zeroValue3
  t4 := Tryz.underlying4
  a4 := Tryz.isAgg4
  z4 := Tryz.sizeOf4
  v4 := Tryz.zeroValue4
  t5 := Tryz.underlying5
  a5 := Tryz.isAgg5
  z5 := Tryz.sizeOf5
  v5 := Tryz.zeroValue5
  t9 := Tryz.underlying9
  a9 := Tryz.isAgg9
  z9 := Tryz.sizeOf9
  v9 := Tryz.zeroValue9
  t20 := Tryz.underlying20
  a20 := Tryz.isAgg20
  z20 := Tryz.sizeOf20
  v20 := Tryz.zeroValue20
  t37 := Tryz.underlying28
  a37 := Tryz.isAgg28
  z37 := Tryz.sizeOf28
  v37 := Tryz.zeroValue28
  t46 := Tryz.underlying45
  a46 := Tryz.isAgg45
  z46 := Tryz.sizeOf45
  v46 := Tryz.zeroValue45
  t51 := Tryz.underlying197
  a51 := Tryz.isAgg197
  z51 := Tryz.sizeOf197
  v51 := Tryz.zeroValue197
  t53 := Tryz.underlying24
  a53 := Tryz.isAgg24
  z53 := Tryz.sizeOf24
  v53 := Tryz.zeroValue24
  t171 := Tryz.underlying219
  a171 := Tryz.isAgg219
  z171 := Tryz.sizeOf219
  v171 := Tryz.zeroValue219
  t173 := Tryz.underlying222
  a173 := Tryz.isAgg222
  z173 := Tryz.sizeOf222
  v173 := Tryz.zeroValue222
  t212 := Tryz.underlying256
  a212 := Tryz.isAgg256
  z212 := Tryz.sizeOf256
  v212 := Tryz.zeroValue256
  t213 := Tryz.underlying257
  a213 := Tryz.isAgg257
  z213 := Tryz.sizeOf257
  t232 := Tryz.underlying282
  a232 := Tryz.isAgg282
  z232 := Tryz.sizeOf282
  v232 := Tryz.zeroValue282
  t233 := Tryz.underlying283
  a233 := Tryz.isAgg283
  z233 := Tryz.sizeOf283
  v233 := Tryz.zeroValue283
  g17 := by kernel_rfl
  g18 := by kernel_rfl
  g19 := by kernel_rfl
  i0 := by kernel_rfl
  i2 := by kernel_rfl
  i3 := by kernel_rfl
  i4 := by kernel_rfl
  i5 := by kernel_rfl
  i9 := by kernel_rfl
  i20 := by kernel_rfl
  i37 := by kernel_rfl
  i46 := by kernel_rfl
  i51 := by kernel_rfl
  i53 := by kernel_rfl
  i171 := by kernel_rfl
  i173 := by kernel_rfl
  i212 := by kernel_rfl
  i232 := by kernel_rfl
  i233 := by kernel_rfl
  m17 := by kernel_rfl
  m18 := by kernel_rfl
  m19 := by kernel_rfl }
def Tryz.lays145_ren : Go.Shelf.Ren := ⟨fun | 145 => 112 | 220 => 154 | 219 => 199 | 217 => 191 | 225 => 232 | 224 => 233 | 267 => 234 | 266 => 227 | 314 => 253 | n => n, fun | 9 => 9 | 4 => 4 | 59 => 155 | 3 => 3 | 5 => 5 | 46 => 45 | 146 => 278 | 51 => 197 | n => n, fun | 1 => 1 | n => n⟩
theorem Tryz.lays145 : Go.Proofs.Lays.n145 Tryz.prog Tryz.lays145_ren := {
  mixed := by kernel_rfl
  f145 := Tryz.func112.trans (congrArg some (by kernel_rfl))
  f217 := Tryz.func191.trans (congrArg some (by kernel_rfl))
  f219 := Tryz.func199.trans (congrArg some (by kernel_rfl))
  f220 := Tryz.func154.trans (congrArg some (by kernel_rfl))
  f224 := Tryz.func233.trans (congrArg some (by kernel_rfl))
  f225 := Tryz.func232.trans (congrArg some (by kernel_rfl))
  f266 := Tryz.func227.trans (congrArg some (by kernel_rfl))
  f267 := Tryz.func234.trans (congrArg some (by kernel_rfl))
  f314 := Tryz.func253.trans (congrArg some (by kernel_rfl))
  t3 := Tryz.underlying3
  a3 := Tryz.isAgg3
  z3 := Tryz.sizeOf3
  v3 := Tryz.zeroValue3
  t4 := Tryz.underlying4
  a4 := Tryz.isAgg4
  z4 := Tryz.sizeOf4
  v4 := Tryz.zeroValue4
  t5 := Tryz.underlying5
  a5 := Tryz.isAgg5
  z5 := Tryz.sizeOf5
  v5 := Tryz.zeroValue5
  t9 := Tryz.underlying9
  a9 := Tryz.isAgg9
  z9 := Tryz.sizeOf9
  v9 := Tryz.zeroValue9
  t46 := Tryz.underlying45
  a46 := Tryz.isAgg45
  z46 := Tryz.sizeOf45
  v46 := Tryz.zeroValue45
  t51 := Tryz.underlying197
  a51 := Tryz.isAgg197
  z51 := Tryz.sizeOf197
  v51 := Tryz.zeroValue197
  t59 := Tryz.underlying155
  a59 := Tryz.isAgg155
  z59 := Tryz.sizeOf155
  v59 := Tryz.zeroValue155
  t146 := Tryz.underlying278
  a146 := Tryz.isAgg278
  z146 := Tryz.sizeOf278
  v146 := Tryz.zeroValue278
  g1 := by kernel_rfl }
def Tryz.lays102_ren : Go.Shelf.Ren := ⟨fun | 102 => 111 | 209 => 153 | 207 => 198 | n => n, fun | 9 => 9 | 4 => 4 | 3 => 3 | n => n, fun | n => n⟩
theorem Tryz.lays102 : Go.Proofs.Lays.n102 Tryz.prog Tryz.lays102_ren := {
  mixed := by kernel_rfl
  f102 := Tryz.func111.trans (congrArg some (by kernel_rfl))
  f207 := Tryz.func198.trans (congrArg some (by kernel_rfl))
  f209 := Tryz.func153.trans (congrArg some (by kernel_rfl))
  t3 := Tryz.underlying3
  a3 := Tryz.isAgg3
  z3 := Tryz.sizeOf3
  v3 := Tryz.zeroValue3
  t4 := Tryz.underlying4
  a4 := Tryz.isAgg4
  z4 := Tryz.sizeOf4
  v4 := Tryz.zeroValue4
  t9 := Tryz.underlying9
  a9 := Tryz.isAgg9
  z9 := Tryz.sizeOf9
  v9 := Tryz.zeroValue9 }
def Tryz.lays146_ren : Go.Shelf.Ren := ⟨fun | 146 => 110 | 221 => 152 | 268 => 195 | 138 => 196 | 143 => 197 | 195 => 229 | 197 => 230 | 218 => 231 | 219 => 199 | 260 => 252 | 217 => 191 | 225 => 232 | 224 => 233 | 267 => 234 | 266 => 227 | 314 => 253 | n => n, fun | 9 => 9 | 31 => 23 | 3 => 3 | 4 => 4 | 0 => 0 | 105 => 261 | 21 => 21 | 5 => 5 | 46 => 45 | 119 => 287 | 139 => 290 | 138 => 289 | 146 => 278 | 51 => 197 | n => n, fun | 1 => 1 | 3 => 6 | 4 => 7 | n => n⟩
theorem Tryz.lays146 : Go.Proofs.Lays.n146 Tryz.prog Tryz.lays146_ren := {
  mixed := by kernel_rfl
  f138 := Tryz.func196.trans (congrArg some (by kernel_rfl))
  f143 := Tryz.func197.trans (congrArg some (by kernel_rfl))
  f146 := Tryz.func110.trans (congrArg some (by kernel_rfl))
  f195 := Tryz.func229.trans (congrArg some (by kernel_rfl))
  f197 := Tryz.func230.trans (congrArg some (by kernel_rfl))
  f217 := Tryz.func191.trans (congrArg some (by kernel_rfl))
  f218 := Tryz.func231.trans (congrArg some (by kernel_rfl))
  f219 := Tryz.func199.trans (congrArg some (by kernel_rfl))
  f221 := Tryz.func152.trans (congrArg some (by kernel_rfl))
  f224 := Tryz.func233.trans (congrArg some (by kernel_rfl))
  f225 := Tryz.func232.trans (congrArg some (by kernel_rfl))
  f260 := Tryz.func252.trans (congrArg some (by kernel_rfl))
  f266 := Tryz.func227.trans (congrArg some (by kernel_rfl))
  f267 := Tryz.func234.trans (congrArg some (by kernel_rfl))
  f268 := Tryz.func195.trans (congrArg some (by kernel_rfl))
  f314 := Tryz.func253.trans (congrArg some (by kernel_rfl))
  t0 := Tryz.underlying0
  a0 := Tryz.isAgg0
  z0 := Tryz.sizeOf0
  v0 := Tryz.zeroValue0
  t3 := Tryz.underlying3
  a3 := Tryz.isAgg3
  z3 := Tryz.sizeOf3
  v3 := Tryz.zeroValue3
  t4 := Tryz.underlying4
  a4 := Tryz.isAgg4
  z4 := Tryz.sizeOf4
  v4 := Tryz.zeroValue4
  t5 := Tryz.underlying5
  a5 := Tryz.isAgg5
  z5 := Tryz.sizeOf5
  v5 := Tryz.zeroValue5
  t9 := Tryz.underlying9
  a9 := Tryz.isAgg9
  z9 := Tryz.sizeOf9
  v9 := Tryz.zeroValue9
  t21 := Tryz.underlying21
  a21 := Tryz.isAgg21
  z21 := Tryz.sizeOf21
  v21 := Tryz.zeroValue21
  t31 := Tryz.underlying23
  a31 := Tryz.isAgg23
  z31 := Tryz.sizeOf23
  v31 := Tryz.zeroValue23
  t46 := Tryz.underlying45
  a46 := Tryz.isAgg45
  z46 := Tryz.sizeOf45
  v46 := Tryz.zeroValue45
  t51 := Tryz.underlying197
  a51 := Tryz.isAgg197
  z51 := Tryz.sizeOf197
  v51 := Tryz.zeroValue197
  t105 := Tryz.underlying261
  a105 := Tryz.isAgg261
  z105 := Tryz.sizeOf261
  v105 := Tryz.zeroValue261
  t119 := Tryz.underlying287
  a119 := Tryz.isAgg287
  z119 := Tryz.sizeOf287
  t138 := Tryz.underlying289
  a138 := Tryz.isAgg289
  z138 := Tryz.sizeOf289
  v138 := Tryz.zeroValue289
  t139 := Tryz.underlying290
  a139 := Tryz.isAgg290
  z139 := Tryz.sizeOf290
  v139 := Tryz.zeroValue290
  t146 := Tryz.underlying278
  a146 := Tryz.isAgg278
  z146 := Tryz.sizeOf278
  v146 := Tryz.zeroValue278
  g1 := by kernel_rfl
  g3 := by kernel_rfl
  g4 := by kernel_rfl }
end Go.Proofs
end

section
/-
  Library functions by the shelf's contracts: Itoa, TrimSuffix, Cut, Split, Join.
-/
namespace Go.Proofs.YtjiolbcdfgclaaaGreatDoor
open Go Go.Pg
set_option maxRecDepth 100000
set_option linter.unusedSimpArgs false
set_option linter.unusedVariables false

/-- A number's numeral, as octets. -/
def itoaN (n : Int) : List Nat := (Lib.itoa n).map UInt8.toNat
theorem itoaN_oct (n : Int) : oct (itoaN n) := by
  intro b hb
  obtain ⟨c, _, rfl⟩ := List.mem_map.1 hb
  exact c.toNat_lt
theorem itoaN_str (n : Int) : (⟨(Lib.itoa n).toArray⟩ : ByteArray) = sB (itoaN n) := by
  apply ByteArray.ext
  apply Array.ext'
  simp [sB, itoaN, Function.comp_def]
theorem good41 (n : Int) (h0 : -9223372036854775808 ≤ n) (h1 : n ≤ 9223372036854775807) : Pg.Good Tryz.prog 75 [.c (.int .i64 n)] (.c (.string (sB (itoaN n)))) := by
  refine ⟨by kernel_rfl, fun A w cargs hT hA hargs => ?_⟩
  obtain ⟨_, _, rfl, rfl, rfl⟩ := hargs
  refine (Any.strconv_Itoa Tryz.laysM171 n h0 h1 w hT.1).mono ?_
  rintro e w' ⟨rfl, k, os, rfl⟩
  refine ⟨_, ⟨A, fun _ => none, fun _ => none⟩, rfl, by rw [itoaN_str]; rfl, ⟨rfl, rfl, rfl, ?_, fun j hj _ => ?_⟩, ⟨fun g h => .inl h, fun _ _ h => (by cases h), fun _ _ _ h => (by cases h)⟩⟩
  · rw [Sort.size_grow]; show w.heap.size ≤ w.heap.size + _; omega
  · exact Sort.heap_grow_old (w.drewN k) os hj
theorem good23 (n : Int) (h0 : -9223372036854775808 ≤ n) (h1 : n ≤ 9223372036854775807) : Pg.Good Tryz.prog 41 [.c (.int .i64 n)] (.c (.string (sB (itoaN n)))) := by
  refine good_intro (drawW_ok mix) Tryz.func41 rfl Tryz.results41 rfl (by kernel_rfl) (Nat.le_of_ble_eq_true (by kernel_rfl)) ?_
  (repeat' (first | (simp (disch := first | assumption | omega | (simp only [Fits, maxLen, pgq] at *; omega)) only [pgo, pgb, tyf, buildSliceV_w, simprocAttr, Tryz.f41]) | ((with_reducible show callW _ _ _ _ _ _); first | refine callW_use _ (good41 n h0 h1) rfl rfl rfl rfl ?_) | ((first | ((with_reducible show condC _ _ _ _ _ _ _); refine cond_at (fun hc => ?_) (fun hc => ?_)) | ((with_reducible show guardC _ _ _ _ _ _ _ _); refine guard_at (fun hc => ?_) (fun hc => ?_)) | ((with_reducible show drwG _ _ _ _ _ _ _ _ _ _); refine drw_at (fun hc => ?_) (fun hc => ?_))) <;> (try simp only [hc]) <;> (try simp only [pgd] at hc)) | (with_reducible refine chk_at (by kernel_rfl) ?_)))
  (refine ret_at [] _ (by first | exact retV_one _ _ _ | exact retV_two _ _ _ _ | exact retV_three _ _ _ _ _ | exact retV_four _ _ _ _ _ _ | (simp (disch := first | assumption | omega | (simp only [Fits, maxLen, pgq] at *; omega)) only [pgr, pgo, tyf, simprocAttr]; rfl)) (by decide) (by simp only [pgo, simprocAttr]) ?_; (first | rfl | simp only [pgo, simprocAttr]))
theorem good24 (n : Int) (h0 : -9223372036854775808 ≤ n) (h1 : n ≤ 9223372036854775807) : Pg.Good Tryz.prog 89 [.c (.int .i64 n)] (.c (.string (sB (itoaN n)))) := by
  refine good_intro (drawW_ok mix) Tryz.func89 rfl Tryz.results89 rfl (by kernel_rfl) (Nat.le_of_ble_eq_true (by kernel_rfl)) ?_
  (repeat' (first | (simp (disch := first | assumption | omega | (simp only [Fits, maxLen, pgq] at *; omega)) only [pgo, pgb, tyf, buildSliceV_w, simprocAttr, Tryz.f89]) | ((with_reducible show callW _ _ _ _ _ _); first | refine callW_use _ (good41 n h0 h1) rfl rfl rfl rfl ?_) | ((first | ((with_reducible show condC _ _ _ _ _ _ _); refine cond_at (fun hc => ?_) (fun hc => ?_)) | ((with_reducible show guardC _ _ _ _ _ _ _ _); refine guard_at (fun hc => ?_) (fun hc => ?_)) | ((with_reducible show drwG _ _ _ _ _ _ _ _ _ _); refine drw_at (fun hc => ?_) (fun hc => ?_))) <;> (try simp only [hc]) <;> (try simp only [pgd] at hc)) | (with_reducible refine chk_at (by kernel_rfl) ?_)))
  (refine ret_at [] _ (by first | exact retV_one _ _ _ | exact retV_two _ _ _ _ | exact retV_three _ _ _ _ _ | exact retV_four _ _ _ _ _ _ | (simp (disch := first | assumption | omega | (simp only [Fits, maxLen, pgq] at *; omega)) only [pgr, pgo, tyf, simprocAttr]; rfl)) (by decide) (by simp only [pgo, simprocAttr]) ?_; (first | rfl | simp only [pgo, simprocAttr]))
theorem good44 (l : List Nat) (c : Nat) (ho : oct l) (hc : c < 256) (hl : l.length ≤ 140737488355328) : Pg.Good Tryz.prog 111 [.c (.string (sB l)), .c (.string (sB [c]))] (.c (.string (sB (trm c l)))) := by
  refine ⟨by kernel_rfl, fun A w cargs hT hA hargs => ?_⟩
  obtain ⟨_, _, rfl, rfl, _, _, rfl, rfl, rfl⟩ := hargs
  refine (Any.strings_TrimSuffix Tryz.lays102 (sB l) (sB [c]) w (by rw [sB_size]; omega)).mono ?_
  rintro e w' ⟨rfl, rfl⟩
  exact ⟨_, ⟨A, fun _ => none, fun _ => none⟩, rfl, by rw [trim_sB l c ho hc]; rfl, Kp.refl _ _ _, ⟨fun g h => .inl h, fun _ _ h => (by cases h), fun _ _ _ h => (by cases h)⟩⟩
theorem good42 (l : List Nat) (c : Nat) (ho : oct l) (hc : c < 256) (hl : l.length ≤ 4294967280) : Pg.Good Tryz.prog 112 [.c (.string (sB l)), .c (.string (sB [c]))]
    (.tup [.c (.string (sB (bef c l))), .c (.string ⟨(Lib.cut (sB l).data.toList (sB [c]).data.toList).2.1.toArray⟩), .c (.bool (Lib.cut (sB l).data.toList (sB [c]).data.toList).2.2)]) := by
  refine ⟨by kernel_rfl, fun A w cargs hT hA hargs => ?_⟩
  obtain ⟨_, _, rfl, rfl, _, _, rfl, rfl, rfl⟩ := hargs
  obtain ⟨m, hm⟩ := hT.2.1
  refine (Any.strings_Cut Tryz.lays145 (sB l) (sB [c]) m w (by rw [sB_size]; omega) hm).mono ?_
  rintro e w' ⟨rfl, k, rfl⟩
  exact ⟨_, ⟨A, fun _ => none, fun _ => none⟩, rfl, ⟨_, rfl, _, _, rfl, by rw [cut_sB l c ho hc]; rfl, _, _, rfl, rfl, _, _, rfl, rfl, rfl⟩, ⟨rfl, rfl, rfl, Nat.le_refl _, fun _ _ _ => rfl⟩, ⟨fun g h => .inl h, fun _ _ h => (by cases h), fun _ _ _ h => (by cases h)⟩⟩
theorem repE_sv {L : Lay} {w : World} (l : List (List Nat)) : RepE L w 1 (sv l) (l.map fun x => Value.string (sB x)) := by
  induction l with
  | nil => rfl
  | cons a l ih => exact ⟨.string (sB a), _, by simp [Value.cells], rfl, ⟨rfl, rfl⟩, rfl, ih⟩
theorem good43 (l : List Nat) (c : Nat) (ho : oct l) (hc : c < 256) (hl : l.length ≤ 4294967280) : Pg.Good Tryz.prog 110 [.c (.string (sB l)), .c (.string (sB [c]))] (.sl (.own 0 9) 1 (sv (spl c l))) := by
  refine ⟨by kernel_rfl, fun A w cargs hT hA hargs => ?_⟩
  obtain ⟨_, _, rfl, rfl, _, _, rfl, rfl, rfl⟩ := hargs
  obtain ⟨m, hm⟩ := hT.2.1
  have hn := Lib.splitB_all (sB [c]) (by rw [sB_size]; simp) 0 _ (sB l) rfl
  have hs := split_sB l c ho hc
  have hk : Lib.countB (sB l) (sB [c]) + 1 = (spl c l).length := by rw [← hn, hs, List.length_map]
  have hlen := spl_len c l
  refine (Any.strings_Split Tryz.lays146 (by kernel_rfl) (sB l) (sB [c]) m w (by rw [sB_size]; omega) hm (by rw [sB_size]; simp)).mono ?_
  rintro e w' ⟨rfl, rfl⟩
  refine ⟨_, ⟨A, fun j => if j = 0 then some w.heap.size else none, fun _ => none⟩, rfl, ⟨some ⟨w.heap.size, 0, none⟩, (spl c l).length, (spl c l).map fun x => Value.string (sB x), by rw [hk, sv_len], repE_sv _, ?_⟩, Kp.alloc (Kp.refl _ _ _) (Nat.le_refl _) _, ⟨fun g h => .inl h, fun j g h => ?_, fun i j g h h' => ?_⟩⟩
  · refine .inr ⟨w.heap.size, _, rfl, rfl, heap_alloc_new w _, by rw [sv_len]; exact Nat.le_refl _, by unfold maxLen; omega, ?_, ?_⟩
    · rw [hs]; simp
    · rw [hs, sv_len, Nat.mul_one]
      simp only [List.map_map, Function.comp_def]
      exact List.take_of_length_le (by simp)
  · simp only at h
    split at h
    · simp only [Option.some.injEq] at h
      subst h
      exact ⟨Nat.le_refl _, by simp, fun h => by have := hA _ h; omega⟩
    · cases h
  · simp only at h h'
    split at h
    · split at h'
      · omega
      · cases h'
    · cases h
theorem repE_sv_inv {L : Lay} {w : World} : ∀ (l : List (List Nat)) (us : List Value), RepE L w 1 (sv l) us → us = l.map fun x => Value.string (sB x) := by
  intro l
  induction l with
  | nil => intro us h; exact h
  | cons a l ih =>
    rintro us ⟨u, r, rfl, _, _, h, hr⟩
    have hu : u = .string (sB a) := h
    subst hu
    rw [ih r hr]
    rfl
theorem g_Join (l : List (List Nat)) (hl : (jn l).length ≤ 140737488355328) (hn : l.length ≤ 140737488355328) : Pg.Good Tryz.prog 46 [fzs l, vs [32]] (vs (jn l)) := by
  refine ⟨by kernel_rfl, fun A w cargs hT hA hargs => ?_⟩
  obtain ⟨_, _, rfl, ⟨a, cap, cells, rfl, hr, hm⟩, _, _, rfl, rfl, rfl⟩ := hargs
  have hc := repE_sv_inv l cells hr
  subst hc
  rw [sv_len] at hm ⊢
  obtain ⟨h0, h1⟩ := hm
  rcases h1 with h1 | ⟨g, o, rfl, hg, hrow⟩
  · have : l = [] := List.eq_nil_of_length_eq_zero h1
    subst this
    refine (Any.strings_Join_none Tryz.lays156 Tryz.Builder_Extra_156 a cap (sB [32]) w).mono ?_
    rintro e w' ⟨rfl, rfl⟩
    exact ⟨_, ⟨A, fun _ => none, fun _ => none⟩, rfl, rfl, Kp.refl _ _ _, ⟨fun g h => .inl h, fun _ _ h => (by cases h), fun _ _ _ h => (by cases h)⟩⟩
  · have hlen : (l.map sB).length = l.length := by simp
    have hj : (Lib.join ((l.map sB).map (·.data.toList)) (sB [32]).data.toList).length ≤ 140737488355328 := by
      have h2 := congrArg ByteArray.size (join_sB l)
      rw [sB_size] at h2
      have h3 : (Lib.join ((l.map sB).map (·.data.toList)) (sB [32]).data.toList).length = (jn l).length := by rw [← h2]; simp [ByteArray.size]
      omega
    have := Any.strings_Join Tryz.lays156 Tryz.Builder_Extra_156 g o cap (l.map sB) (sB [32]) w (fun j x hx => by
      refine hrow.cell (j := j) ?_
      rw [List.getElem?_map] at hx ⊢
      cases h4 : l[j]? with
      | none => rw [h4] at hx; cases hx
      | some y => rw [h4] at hx; simp only [Option.map_some, Option.some.injEq] at hx ⊢; rw [hx]) (hA g hg) (by omega) (by omega) hj
    rw [hlen] at this
    refine this.mono ?_
    rintro e w' ⟨rfl, hb⟩
    refine ⟨_, ⟨A, fun _ => none, fun _ => none⟩, rfl, by rw [join_sB]; rfl, ⟨hb.os, hb.tape, hb.output, hb.size, fun k h _ => hb.block k h⟩, ⟨fun g h => .inl h, fun _ _ h => (by cases h), fun _ _ _ h => (by cases h)⟩⟩
end Go.Proofs.YtjiolbcdfgclaaaGreatDoor
end

section
/-
  Names: Lines, of the program and of the reference.
-/
namespace Go.Proofs.YtjiolbcdfgclaaaGreatDoor
open Go Go.Pg
set_option maxRecDepth 100000
set_option linter.unusedSimpArgs false
set_option linter.unusedVariables false

def okc (c : Nat) : Bool := c == 10 || bt c 32 126
def nl : V := .c (.slice none 0 0)
theorem str10 : (⟨#[10]⟩ : ByteArray) = sB [10] := by rfl
theorem nilS (a : List Nat) (ha : oct a) : decide (sB a = sB []) = decide (a = []) := sB_dec ha oct_nil
def linesP (l : List Nat) : V := if 65536 < l.length then .tup [nl, .c (.int .i64 11)] else if l.all okc = false then .tup [nl, .c (.int .i64 1)] else if l = [] then .tup [nl, .c (.int .i64 0)] else .tup [.sl (.own 0 9) 1 (sv (spl 10 (trm 10 l))), .c (.int .i64 0)]
theorem trm_oct {l : List Nat} {c : Nat} (ho : oct l) : oct (trm c l) ∧ (trm c l).length ≤ l.length := by
  unfold trm
  split
  · exact ⟨fun b hb => ho b ((List.dropLast_sublist l).mem hb), by simp⟩
  · exact ⟨ho, Nat.le_refl _⟩
theorem okc_f {c : Nat} : okc c = false ↔ c ≠ 10 ∧ (c < 32 ∨ 126 < c) := by
  unfold okc bt
  rw [Bool.or_eq_false_iff, Bool.and_eq_false_iff, decide_eq_false_iff_not, decide_eq_false_iff_not, beq_eq_false_iff_ne]
  omega
theorem good27 (l : List Nat) (ho : oct l) : Pg.Good Tryz.prog 65 [.c (.string (sB l))] (linesP l) := by
  refine good_intro (drawW_ok mix) Tryz.func65 rfl Tryz.results65 rfl (by kernel_rfl) (Nat.le_of_ble_eq_true (by kernel_rfl)) ?_
  unfold linesP nl
  rcases Nat.lt_or_ge 65536 l.length with h | h
  · rw [if_pos h]
    (repeat' (first | (simp (disch := first | assumption | omega | (simp only [Fits, maxLen, pgq] at *; omega)) only [pgo, pgb, tyf, buildSliceV_w, simprocAttr, Tryz.f65]) | ((first | ((with_reducible show condC _ _ _ _ _ _ _); refine cond_at (fun hc => ?_) (fun hc => ?_)) | ((with_reducible show guardC _ _ _ _ _ _ _ _); refine guard_at (fun hc => ?_) (fun hc => ?_)) | ((with_reducible show drwG _ _ _ _ _ _ _ _ _ _); refine drw_at (fun hc => ?_) (fun hc => ?_))) <;> (try simp only [hc]) <;> (try simp only [pgd] at hc)) | (with_reducible refine chk_at (by kernel_rfl) ?_)))
    (refine ret_at [] _ (by first | exact retV_one _ _ _ | exact retV_two _ _ _ _ | exact retV_three _ _ _ _ _ | exact retV_four _ _ _ _ _ _ | (simp (disch := first | assumption | omega | (simp only [Fits, maxLen, pgq] at *; omega)) only [pgr, pgo, tyf, simprocAttr]; rfl)) (by decide) (by simp only [pgo, simprocAttr]) ?_; (first | rfl | simp only [pgo, simprocAttr]))
  rw [if_neg (by omega)]
  (repeat' (first | (simp (disch := first | assumption | omega | (simp only [Fits, maxLen, pgq] at *; omega)) only [pgo, pgb, tyf, buildSliceV_w, simprocAttr, Tryz.f65]) | ((first | ((with_reducible show condC _ _ _ _ _ _ _); refine cond_at (fun hc => ?_) (fun hc => ?_)) | ((with_reducible show guardC _ _ _ _ _ _ _ _); refine guard_at (fun hc => ?_) (fun hc => ?_)) | ((with_reducible show drwG _ _ _ _ _ _ _ _ _ _); refine drw_at (fun hc => ?_) (fun hc => ?_))) <;> (try simp only [hc]) <;> (try simp only [pgd] at hc)) | (with_reducible refine chk_at (by kernel_rfl) ?_)))
  refine loop_A (fun i => mkA [(0, .c (.string (sB l))), (10, .c (.int .i64 l.length)), (11, .c (.int .i64 (i : Nat)))] [] 0 (fun _ => .top)) (fun i => i ≤ l.length ∧ (l.take i).all okc = true) (fun i => l.length - i) 0 [] [] ?_ ⟨Nat.zero_le _, rfl⟩ ?_
  · (refine keep_mkA ?_ ?_ (top_hd _ _ _) (by decide) (by decide) (by decide) (by decide); (repeat' (first | exact trivial | refine genB_one _ _ rfl rfl ?_ ?_)); all_goals (try simp only [pgs, pgl, pgx, pgf, pgw, GenA_cons, GenA_nil, GenL_cons, GenL_nil, gen_top, gen_c, gen_fz, pgn, simprocAttr]); all_goals (try (repeat' (first | apply And.intro))); all_goals (try (first | exact trivial | exact gen_ii (by omega) | exact gen_cc rfl | exact gen_own rfl rfl | exact gen_ref rfl)))
  · rintro i ⟨hi, hall⟩
    rcases Nat.lt_or_ge i l.length with hlt | hge
    · have hcb := getD_lt ho i
      cases hok : okc (l.getD i 0)
      · rw [all_not hlt hok, if_pos rfl]
        have hc' := okc_f.1 hok
        (repeat' (first | (simp (disch := first | assumption | omega | (simp only [Fits, maxLen, pgq] at *; omega)) only [pgo, pgb, tyf, buildSliceV_w, simprocAttr]) | ((first | ((with_reducible show condC _ _ _ _ _ _ _); refine cond_at (fun hc => ?_) (fun hc => ?_)) | ((with_reducible show guardC _ _ _ _ _ _ _ _); refine guard_at (fun hc => ?_) (fun hc => ?_)) | ((with_reducible show drwG _ _ _ _ _ _ _ _ _ _); refine drw_at (fun hc => ?_) (fun hc => ?_))) <;> (try simp only [hc]) <;> (try simp only [pgd] at hc)) | (with_reducible refine chk_at (by kernel_rfl) ?_)))
        all_goals (refine ret_at [] _ (by first | exact retV_one _ _ _ | exact retV_two _ _ _ _ | exact retV_three _ _ _ _ _ | exact retV_four _ _ _ _ _ _ | (simp (disch := first | assumption | omega | (simp only [Fits, maxLen, pgq] at *; omega)) only [pgr, pgo, tyf, simprocAttr]; rfl)) (by decide) (by simp only [pgo, simprocAttr]) ?_; (first | rfl | simp only [pgo, simprocAttr]))
      · have hc' : ¬ (l.getD i 0 ≠ 10 ∧ (l.getD i 0 < 32 ∨ 126 < l.getD i 0)) := fun h' => by rw [← okc_f, hok] at h'; cases h'
        (repeat' (first | (simp (disch := first | assumption | omega | (simp only [Fits, maxLen, pgq] at *; omega)) only [pgo, pgb, tyf, buildSliceV_w, simprocAttr]) | ((first | ((with_reducible show condC _ _ _ _ _ _ _); refine cond_at (fun hc => ?_) (fun hc => ?_)) | ((with_reducible show guardC _ _ _ _ _ _ _ _); refine guard_at (fun hc => ?_) (fun hc => ?_)) | ((with_reducible show drwG _ _ _ _ _ _ _ _ _ _); refine drw_at (fun hc => ?_) (fun hc => ?_))) <;> (try simp only [hc]) <;> (try simp only [pgd] at hc)) | (with_reducible refine chk_at (by kernel_rfl) ?_)))
        all_goals (refine back_at (i + 1) [] [] (⟨hlt, all_next hlt hall hok⟩) (by first | omega | (simp only [List.length_cons]; omega)) ?_; (refine keep_mkA ?_ ?_ (top_hd _ _ _) (by decide) (by decide) (by decide) (by decide); (repeat' (first | exact trivial | refine genB_one _ _ rfl rfl ?_ ?_)); all_goals (try simp only [pgs, pgl, pgx, pgf, pgw, GenA_cons, GenA_nil, GenL_cons, GenL_nil, gen_top, gen_c, gen_fz, pgn, simprocAttr]); all_goals (try (repeat' (first | apply And.intro))); all_goals (try (first | exact trivial | exact gen_ii (by omega) | exact gen_cc rfl | exact gen_own rfl rfl | exact gen_ref rfl))))
    · have hil : i = l.length := by omega
      subst hil
      rw [List.take_length] at hall
      rw [hall, if_neg (by simp)]
      by_cases hz : l = []
      · rw [if_pos hz]
        (repeat' (first | (simp (disch := first | assumption | omega | (simp only [Fits, maxLen, pgq] at *; omega)) only [pgo, pgb, tyf, buildSliceV_w, simprocAttr, nils, nilS l ho, hz]) | ((first | ((with_reducible show condC _ _ _ _ _ _ _); refine cond_at (fun hc => ?_) (fun hc => ?_)) | ((with_reducible show guardC _ _ _ _ _ _ _ _); refine guard_at (fun hc => ?_) (fun hc => ?_)) | ((with_reducible show drwG _ _ _ _ _ _ _ _ _ _); refine drw_at (fun hc => ?_) (fun hc => ?_))) <;> (try simp only [hc]) <;> (try simp only [pgd] at hc)) | (with_reducible refine chk_at (by kernel_rfl) ?_)))
        (refine ret_at [] _ (by first | exact retV_one _ _ _ | exact retV_two _ _ _ _ | exact retV_three _ _ _ _ _ | exact retV_four _ _ _ _ _ _ | (simp (disch := first | assumption | omega | (simp only [Fits, maxLen, pgq] at *; omega)) only [pgr, pgo, tyf, simprocAttr]; rfl)) (by decide) (by simp only [pgo, simprocAttr]) ?_; (first | rfl | simp only [pgo, simprocAttr]))
      · rw [if_neg hz]
        obtain ⟨h1, h2⟩ := trm_oct (c := 10) ho
        (repeat' (first | (simp (disch := first | assumption | omega | (simp only [Fits, maxLen, pgq] at *; omega)) only [pgo, pgb, tyf, buildSliceV_w, simprocAttr, nils, str10, nilS l ho, hz]) | ((with_reducible show callW _ _ _ _ _ _); first | refine callW_use _ (good44 l 10 ho (by omega) (by omega)) rfl rfl rfl rfl ?_ | refine callW_use _ (good43 (trm 10 l) 10 h1 (by omega) (by omega)) rfl rfl rfl rfl ?_) | ((first | ((with_reducible show condC _ _ _ _ _ _ _); refine cond_at (fun hc => ?_) (fun hc => ?_)) | ((with_reducible show guardC _ _ _ _ _ _ _ _); refine guard_at (fun hc => ?_) (fun hc => ?_)) | ((with_reducible show drwG _ _ _ _ _ _ _ _ _ _); refine drw_at (fun hc => ?_) (fun hc => ?_))) <;> (try simp only [hc]) <;> (try simp only [pgd] at hc)) | (with_reducible refine chk_at (by kernel_rfl) ?_)))
        (refine ret_at [0] _ (by first | exact retV_one _ _ _ | exact retV_two _ _ _ _ | exact retV_three _ _ _ _ _ | exact retV_four _ _ _ _ _ _ | (simp (disch := first | assumption | omega | (simp only [Fits, maxLen, pgq] at *; omega)) only [pgr, pgo, tyf, simprocAttr]; rfl)) (by decide) (by simp only [pgo, simprocAttr]) ?_; (first | rfl | simp only [pgo, simprocAttr]))

def linesR (l : List Nat) : V := if 65536 < l.length then .tup [nl, .c (.int .i64 11)] else if l.all okc = false then .tup [nl, .c (.int .i64 1)] else .tup [.sl (.own 0 9) 1 (sv (dropE (spl 10 l))), .c (.int .i64 0)]
/-- What has been parted when i octets are read: the pieces, and where the next begins. -/
def Part (l : List Nat) (i : Nat) (ps : List (List Nat)) (f : Nat) : Prop := f ≤ i ∧ i ≤ l.length ∧ spl 10 l = ps ++ spl 10 (l.drop f) ∧ (∀ x ∈ (l.drop f).take (i - f), x ≠ 10)
theorem part_next {l : List Nat} {i : Nat} {ps : List (List Nat)} {f : Nat} (h : Part l i ps f) (hi : i < l.length) (hc : l.getD i 0 ≠ 10) : Part l (i + 1) ps f := by
  obtain ⟨h1, h2, h3, h4⟩ := h
  refine ⟨by omega, hi, h3, ?_⟩
  have e : (l.drop f).take (i + 1 - f) = (l.drop f).take (i - f) ++ [l.getD i 0] := by
    rw [show i + 1 - f = (i - f) + 1 by omega, List.take_succ_eq_append_getElem (by rw [List.length_drop]; omega)]
    simp [List.getD, hi, show f + (i - f) = i by omega]
  intro x hx
  rw [e] at hx
  rcases List.mem_append.1 hx with hx | hx
  · exact h4 x hx
  · simp only [List.mem_singleton] at hx; rw [hx]; exact hc
theorem part_hit {l : List Nat} {i : Nat} {ps : List (List Nat)} {f : Nat} (h : Part l i ps f) (hi : i < l.length) (hc : l.getD i 0 = 10) : Part l (i + 1) (ps ++ [(l.take i).drop f]) (i + 1) := by
  obtain ⟨h1, h2, h3, h4⟩ := h
  refine ⟨Nat.le_refl _, hi, ?_, by simp⟩
  have e : l.drop f = (l.drop f).take (i - f) ++ 10 :: l.drop (i + 1) := by
    have e1 : l.drop i = l.getD i 0 :: l.drop (i + 1) := by
      rw [List.drop_eq_getElem_cons hi]; simp [List.getD, hi]
    rw [hc] at e1
    rw [← e1]
    have := (List.take_append_drop (i - f) (l.drop f)).symm
    rw [List.drop_drop, show f + (i - f) = i by omega] at this
    exact this
  have e2 : (l.take i).drop f = (l.drop f).take (i - f) := by rw [List.drop_take]
  rw [h3, e, spl_at 10 _ _ h4, e2]
  simp
theorem part_end {l : List Nat} {ps : List (List Nat)} {f : Nat} (h : Part l l.length ps f) : dropE (spl 10 l) = if f < l.length then ps ++ [l.drop f] else ps := by
  obtain ⟨h1, h2, h3, h4⟩ := h
  rw [List.take_of_length_le (by rw [List.length_drop]; omega)] at h4
  rw [h3, spl_none 10 _ h4, dropE_snoc]
  by_cases hf : f < l.length
  · rw [if_pos hf, if_neg (by intro e; have := congrArg List.length e; rw [List.length_drop] at this; simp at this; omega)]
  · rw [if_neg hf, if_pos (List.drop_eq_nil_of_le (by omega))]
theorem part_len {l : List Nat} {i : Nat} {ps : List (List Nat)} {f : Nat} (h : Part l i ps f) : ps.length ≤ l.length := by
  obtain ⟨h1, h2, h3, h4⟩ := h
  have := spl_len 10 l
  obtain ⟨y, t, e⟩ := spl_cons 10 (l.drop f)
  rw [h3, e] at this
  simp at this
  omega
theorem sv_snoc (l : List (List Nat)) (x : List Nat) : sv l ++ [V.c (.string (sB x))] = sv (l ++ [x]) := by simp [sv]
theorem good28 (l : List Nat) (ho : oct l) : Pg.Good Tryz.prog 106 [.c (.string (sB l))] (linesR l) := by
  refine good_intro (drawW_ok mix) Tryz.func106 rfl Tryz.results106 rfl (by kernel_rfl) (Nat.le_of_ble_eq_true (by kernel_rfl)) ?_
  unfold linesR nl
  rcases Nat.lt_or_ge 65536 l.length with h | h
  · rw [if_pos h]
    (repeat' (first | (simp (disch := first | assumption | omega | (simp only [Fits, maxLen, pgq] at *; omega)) only [pgo, pgb, tyf, buildSliceV_w, simprocAttr, Tryz.f106]) | ((first | ((with_reducible show condC _ _ _ _ _ _ _); refine cond_at (fun hc => ?_) (fun hc => ?_)) | ((with_reducible show guardC _ _ _ _ _ _ _ _); refine guard_at (fun hc => ?_) (fun hc => ?_)) | ((with_reducible show drwG _ _ _ _ _ _ _ _ _ _); refine drw_at (fun hc => ?_) (fun hc => ?_))) <;> (try simp only [hc]) <;> (try simp only [pgd] at hc)) | (with_reducible refine chk_at (by kernel_rfl) ?_)))
    (refine ret_at [] _ (by first | exact retV_one _ _ _ | exact retV_two _ _ _ _ | exact retV_three _ _ _ _ _ | exact retV_four _ _ _ _ _ _ | (simp (disch := first | assumption | omega | (simp only [Fits, maxLen, pgq] at *; omega)) only [pgr, pgo, tyf, simprocAttr]; rfl)) (by decide) (by simp only [pgo, simprocAttr]) ?_; (first | rfl | simp only [pgo, simprocAttr]))
  rw [if_neg (by omega)]
  (repeat' (first | (simp (disch := first | assumption | omega | (simp only [Fits, maxLen, pgq] at *; omega)) only [pgo, pgb, tyf, buildSliceV_w, simprocAttr, Tryz.f106]) | ((first | ((with_reducible show condC _ _ _ _ _ _ _); refine cond_at (fun hc => ?_) (fun hc => ?_)) | ((with_reducible show guardC _ _ _ _ _ _ _ _); refine guard_at (fun hc => ?_) (fun hc => ?_)) | ((with_reducible show drwG _ _ _ _ _ _ _ _ _ _); refine drw_at (fun hc => ?_) (fun hc => ?_))) <;> (try simp only [hc]) <;> (try simp only [pgd] at hc)) | (with_reducible refine chk_at (by kernel_rfl) ?_)))
  refine loop_A (fun i => mkA [(0, .c (.string (sB l))), (4, .c (.int .i64 (i : Nat)))] [] 0 (fun _ => .top)) (fun i => i ≤ l.length ∧ (l.take i).all okc = true) (fun i => l.length - i) 0 [] [] ?_ ⟨Nat.zero_le _, rfl⟩ ?_
  · (refine keep_mkA ?_ ?_ (top_hd _ _ _) (by decide) (by decide) (by decide) (by decide); (repeat' (first | exact trivial | refine genB_one _ _ rfl rfl ?_ ?_)); all_goals (try simp only [pgs, pgl, pgx, pgf, pgw, GenA_cons, GenA_nil, GenL_cons, GenL_nil, gen_top, gen_c, gen_fz, pgn, simprocAttr]); all_goals (try (repeat' (first | apply And.intro))); all_goals (try (first | exact trivial | exact gen_ii (by omega) | exact gen_cc rfl | exact gen_own rfl rfl | exact gen_ref rfl)))
  · rintro i ⟨hi, hall⟩
    rcases Nat.lt_or_ge i l.length with hlt | hge
    · have hcb := getD_lt ho i
      cases hok : okc (l.getD i 0)
      · rw [all_not hlt hok, if_pos rfl]
        have hc' := okc_f.1 hok
        have hb : bt (l.getD i 0) 32 126 = false := by rw [← Bool.not_eq_true]; intro hb; have := bt_and hb; omega
        (repeat' (first | (simp (disch := first | assumption | omega | (simp only [Fits, maxLen, pgq] at *; omega)) only [pgo, pgb, tyf, buildSliceV_w, simprocAttr, hb]) | ((with_reducible show callW _ _ _ _ _ _); first | refine callW_use _ (good40 _ 32 126) rfl rfl rfl rfl ?_) | ((first | ((with_reducible show condC _ _ _ _ _ _ _); refine cond_at (fun hc => ?_) (fun hc => ?_)) | ((with_reducible show guardC _ _ _ _ _ _ _ _); refine guard_at (fun hc => ?_) (fun hc => ?_)) | ((with_reducible show drwG _ _ _ _ _ _ _ _ _ _); refine drw_at (fun hc => ?_) (fun hc => ?_))) <;> (try simp only [hc]) <;> (try simp only [pgd] at hc)) | (with_reducible refine chk_at (by kernel_rfl) ?_)))
        all_goals (refine ret_at [] _ (by first | exact retV_one _ _ _ | exact retV_two _ _ _ _ | exact retV_three _ _ _ _ _ | exact retV_four _ _ _ _ _ _ | (simp (disch := first | assumption | omega | (simp only [Fits, maxLen, pgq] at *; omega)) only [pgr, pgo, tyf, simprocAttr]; rfl)) (by decide) (by simp only [pgo, simprocAttr]) ?_; (first | rfl | simp only [pgo, simprocAttr]))
      · have hc' : ¬ (l.getD i 0 ≠ 10 ∧ (l.getD i 0 < 32 ∨ 126 < l.getD i 0)) := fun h' => by rw [← okc_f, hok] at h'; cases h'
        by_cases h10 : l.getD i 0 = 10
        · (repeat' (first | (simp (disch := first | assumption | omega | (simp only [Fits, maxLen, pgq] at *; omega)) only [pgo, pgb, tyf, buildSliceV_w, simprocAttr]) | ((with_reducible show callW _ _ _ _ _ _); first | refine callW_use _ (good40 _ 32 126) rfl rfl rfl rfl ?_) | ((first | ((with_reducible show condC _ _ _ _ _ _ _); refine cond_at (fun hc => ?_) (fun hc => ?_)) | ((with_reducible show guardC _ _ _ _ _ _ _ _); refine guard_at (fun hc => ?_) (fun hc => ?_)) | ((with_reducible show drwG _ _ _ _ _ _ _ _ _ _); refine drw_at (fun hc => ?_) (fun hc => ?_))) <;> (try simp only [hc]) <;> (try simp only [pgd] at hc)) | (with_reducible refine chk_at (by kernel_rfl) ?_)))
          all_goals (refine back_at (i + 1) [] [] (⟨hlt, all_next hlt hall hok⟩) (by first | omega | (simp only [List.length_cons]; omega)) ?_; (refine keep_mkA ?_ ?_ (top_hd _ _ _) (by decide) (by decide) (by decide) (by decide); (repeat' (first | exact trivial | refine genB_one _ _ rfl rfl ?_ ?_)); all_goals (try simp only [pgs, pgl, pgx, pgf, pgw, GenA_cons, GenA_nil, GenL_cons, GenL_nil, gen_top, gen_c, gen_fz, pgn, simprocAttr]); all_goals (try (repeat' (first | apply And.intro))); all_goals (try (first | exact trivial | exact gen_ii (by omega) | exact gen_cc rfl | exact gen_own rfl rfl | exact gen_ref rfl))))
        · have hb : bt (l.getD i 0) 32 126 = true := by unfold bt; simp only [Bool.and_eq_true, decide_eq_true_eq]; omega
          (repeat' (first | (simp (disch := first | assumption | omega | (simp only [Fits, maxLen, pgq] at *; omega)) only [pgo, pgb, tyf, buildSliceV_w, simprocAttr, hb]) | ((with_reducible show callW _ _ _ _ _ _); first | refine callW_use _ (good40 _ 32 126) rfl rfl rfl rfl ?_) | ((first | ((with_reducible show condC _ _ _ _ _ _ _); refine cond_at (fun hc => ?_) (fun hc => ?_)) | ((with_reducible show guardC _ _ _ _ _ _ _ _); refine guard_at (fun hc => ?_) (fun hc => ?_)) | ((with_reducible show drwG _ _ _ _ _ _ _ _ _ _); refine drw_at (fun hc => ?_) (fun hc => ?_))) <;> (try simp only [hc]) <;> (try simp only [pgd] at hc)) | (with_reducible refine chk_at (by kernel_rfl) ?_)))
          all_goals (refine back_at (i + 1) [] [] (⟨hlt, all_next hlt hall hok⟩) (by first | omega | (simp only [List.length_cons]; omega)) ?_; (refine keep_mkA ?_ ?_ (top_hd _ _ _) (by decide) (by decide) (by decide) (by decide); (repeat' (first | exact trivial | refine genB_one _ _ rfl rfl ?_ ?_)); all_goals (try simp only [pgs, pgl, pgx, pgf, pgw, GenA_cons, GenA_nil, GenL_cons, GenL_nil, gen_top, gen_c, gen_fz, pgn, simprocAttr]); all_goals (try (repeat' (first | apply And.intro))); all_goals (try (first | exact trivial | exact gen_ii (by omega) | exact gen_cc rfl | exact gen_own rfl rfl | exact gen_ref rfl))))
    · have hil : i = l.length := by omega
      subst hil
      rw [List.take_length] at hall
      rw [hall, if_neg (by simp)]
      (repeat' (first | (simp (disch := first | assumption | omega | (simp only [Fits, maxLen, pgq] at *; omega)) only [pgo, pgb, tyf, buildSliceV_w, simprocAttr]) | ((first | ((with_reducible show condC _ _ _ _ _ _ _); refine cond_at (fun hc => ?_) (fun hc => ?_)) | ((with_reducible show guardC _ _ _ _ _ _ _ _); refine guard_at (fun hc => ?_) (fun hc => ?_)) | ((with_reducible show drwG _ _ _ _ _ _ _ _ _ _); refine drw_at (fun hc => ?_) (fun hc => ?_))) <;> (try simp only [hc]) <;> (try simp only [pgd] at hc)) | (with_reducible refine chk_at (by kernel_rfl) ?_)))
      refine loop_A (fun x : Nat × List (List Nat) × Nat => mkA [(0, .c (.string (sB l))), (5, .sl (.own 0 9) 1 (sv x.2.1)), (6, .c (.int .i64 (x.2.2 : Nat))), (7, .c (.int .i64 (x.1 : Nat)))] [] 1 (fun _ => .top)) (fun x => Part l x.1 x.2.1 x.2.2) (fun x => l.length - x.1) (0, [], 0) [] [] ?_ ⟨Nat.le_refl _, Nat.zero_le _, rfl, by simp⟩ ?_
      · (refine keep_mkA ?_ ?_ (top_hd _ _ _) (by decide) (by decide) (by decide) (by decide); (repeat' (first | exact trivial | refine genB_one _ _ rfl rfl ?_ ?_)); all_goals (try simp only [pgs, pgl, pgx, pgf, pgw, GenA_cons, GenA_nil, GenL_cons, GenL_nil, gen_top, gen_c, gen_fz, pgn, simprocAttr]); all_goals (try (repeat' (first | apply And.intro))); all_goals (try (first | exact trivial | exact gen_ii (by omega) | exact gen_cc rfl | exact gen_own rfl rfl | exact gen_ref rfl)))
        all_goals exact gen_nilx rfl
      · rintro ⟨i, ps, f⟩ hp
        replace hp : Part l i ps f := hp
        have hpl := part_len hp
        have hp' := hp
        obtain ⟨hp1, hp2, _, _⟩ := hp'
        rcases Nat.lt_or_ge i l.length with hlt | hge
        · have hcb := getD_lt ho i
          by_cases h10 : l.getD i 0 = 10
          · (repeat' (first | (simp (disch := first | assumption | omega | (simp only [Fits, maxLen, pgq] at *; omega)) only [pgo, pgb, tyf, buildSliceV_w, simprocAttr, sv_snoc]) | ((first | ((with_reducible show condC _ _ _ _ _ _ _); refine cond_at (fun hc => ?_) (fun hc => ?_)) | ((with_reducible show guardC _ _ _ _ _ _ _ _); refine guard_at (fun hc => ?_) (fun hc => ?_)) | ((with_reducible show drwG _ _ _ _ _ _ _ _ _ _); refine drw_at (fun hc => ?_) (fun hc => ?_))) <;> (try simp only [hc]) <;> (try simp only [pgd] at hc)) | (with_reducible refine chk_at (by kernel_rfl) ?_)))
            refine back_at (i + 1, ps ++ [(l.take i).drop f], i + 1) [0] [] ?_ ?_ ?_
            · exact part_hit hp hlt h10
            · show l.length - (i + 1) < l.length - i
              omega
            · (refine keep_mkA ?_ ?_ (top_hd _ _ _) (by decide) (by decide) (by decide) (by decide); (repeat' (first | exact trivial | refine genB_one _ _ rfl rfl ?_ ?_)); all_goals (try simp only [pgs, pgl, pgx, pgf, pgw, GenA_cons, GenA_nil, GenL_cons, GenL_nil, gen_top, gen_c, gen_fz, pgn, simprocAttr]); all_goals (try (repeat' (first | apply And.intro))); all_goals (try (first | exact trivial | exact gen_ii (by omega) | exact gen_cc rfl | exact gen_own rfl rfl | exact gen_ref rfl)))
          · (repeat' (first | (simp (disch := first | assumption | omega | (simp only [Fits, maxLen, pgq] at *; omega)) only [pgo, pgb, tyf, buildSliceV_w, simprocAttr, sv_snoc]) | ((first | ((with_reducible show condC _ _ _ _ _ _ _); refine cond_at (fun hc => ?_) (fun hc => ?_)) | ((with_reducible show guardC _ _ _ _ _ _ _ _); refine guard_at (fun hc => ?_) (fun hc => ?_)) | ((with_reducible show drwG _ _ _ _ _ _ _ _ _ _); refine drw_at (fun hc => ?_) (fun hc => ?_))) <;> (try simp only [hc]) <;> (try simp only [pgd] at hc)) | (with_reducible refine chk_at (by kernel_rfl) ?_)))
            refine back_at (i + 1, ps, f) [0] [] ?_ ?_ ?_
            · exact part_next hp hlt h10
            · show l.length - (i + 1) < l.length - i
              omega
            · (refine keep_mkA ?_ ?_ (top_hd _ _ _) (by decide) (by decide) (by decide) (by decide); (repeat' (first | exact trivial | refine genB_one _ _ rfl rfl ?_ ?_)); all_goals (try simp only [pgs, pgl, pgx, pgf, pgw, GenA_cons, GenA_nil, GenL_cons, GenL_nil, gen_top, gen_c, gen_fz, pgn, simprocAttr]); all_goals (try (repeat' (first | apply And.intro))); all_goals (try (first | exact trivial | exact gen_ii (by omega) | exact gen_cc rfl | exact gen_own rfl rfl | exact gen_ref rfl)))
        · have hil : i = l.length := by omega
          subst hil
          rw [part_end hp]
          by_cases hf : f < l.length
          · rw [if_pos hf]
            (repeat' (first | (simp (disch := first | assumption | omega | (simp only [Fits, maxLen, pgq] at *; omega)) only [pgo, pgb, tyf, buildSliceV_w, simprocAttr, sv_snoc]) | ((first | ((with_reducible show condC _ _ _ _ _ _ _); refine cond_at (fun hc => ?_) (fun hc => ?_)) | ((with_reducible show guardC _ _ _ _ _ _ _ _); refine guard_at (fun hc => ?_) (fun hc => ?_)) | ((with_reducible show drwG _ _ _ _ _ _ _ _ _ _); refine drw_at (fun hc => ?_) (fun hc => ?_))) <;> (try simp only [hc]) <;> (try simp only [pgd] at hc)) | (with_reducible refine chk_at (by kernel_rfl) ?_)))
            (refine ret_at [0] _ (by first | exact retV_one _ _ _ | exact retV_two _ _ _ _ | exact retV_three _ _ _ _ _ | exact retV_four _ _ _ _ _ _ | (simp (disch := first | assumption | omega | (simp only [Fits, maxLen, pgq] at *; omega)) only [pgr, pgo, tyf, simprocAttr]; rfl)) (by decide) (by simp only [pgo, simprocAttr]) ?_; (first | rfl | simp only [pgo, simprocAttr]))
          · rw [if_neg hf]
            (repeat' (first | (simp (disch := first | assumption | omega | (simp only [Fits, maxLen, pgq] at *; omega)) only [pgo, pgb, tyf, buildSliceV_w, simprocAttr]) | ((first | ((with_reducible show condC _ _ _ _ _ _ _); refine cond_at (fun hc => ?_) (fun hc => ?_)) | ((with_reducible show guardC _ _ _ _ _ _ _ _); refine guard_at (fun hc => ?_) (fun hc => ?_)) | ((with_reducible show drwG _ _ _ _ _ _ _ _ _ _); refine drw_at (fun hc => ?_) (fun hc => ?_))) <;> (try simp only [hc]) <;> (try simp only [pgd] at hc)) | (with_reducible refine chk_at (by kernel_rfl) ?_)))
            (refine ret_at [0] _ (by first | exact retV_one _ _ _ | exact retV_two _ _ _ _ | exact retV_three _ _ _ _ _ | exact retV_four _ _ _ _ _ _ | (simp (disch := first | assumption | omega | (simp only [Fits, maxLen, pgq] at *; omega)) only [pgr, pgo, tyf, simprocAttr]; rfl)) (by decide) (by simp only [pgo, simprocAttr]) ?_; (first | rfl | simp only [pgo, simprocAttr]))
end Go.Proofs.YtjiolbcdfgclaaaGreatDoor
end

section
/-
  Names: Fields, of the program and of the reference.
-/
namespace Go.Proofs.YtjiolbcdfgclaaaGreatDoor
open Go Go.Pg
set_option maxRecDepth 100000
set_option linter.unusedSimpArgs false
set_option linter.unusedVariables false

theorem str35 : (⟨#[35]⟩ : ByteArray) = sB [35] := by rfl
theorem str32 : (⟨#[32]⟩ : ByteArray) = sB [32] := by rfl
theorem bef_oct {l : List Nat} {c : Nat} (ho : oct l) : oct (bef c l) := fun b hb => ho b (bef_mem c l b hb).1
theorem filt1 {w : List Nat} (hn : w ≠ []) : [w].filter nonE = [w] := by
  have : nonE w = true := by rw [nonE_ne]; exact decide_eq_true hn
  rw [List.filter_cons, if_pos this]; rfl
theorem filt0 : [([] : List Nat)].filter nonE = [] := rfl
theorem filt_next {l : List (List Nat)} {i : Nat} (h : i < l.length) (hn : l.getD i [] ≠ []) : (l.take (i + 1)).filter nonE = (l.take i).filter nonE ++ [l.getD i []] := by
  have g : l.getD i [] = l[i] := by simp [List.getD, h]
  rw [List.take_succ_eq_append_getElem h, List.filter_append, ← g, filt1 hn]
theorem filt_same {l : List (List Nat)} {i : Nat} (h : i < l.length) (hn : l.getD i [] = []) : (l.take (i + 1)).filter nonE = (l.take i).filter nonE := by
  have g : l.getD i [] = l[i] := by simp [List.getD, h]
  rw [List.take_succ_eq_append_getElem h, List.filter_append, ← g, hn]
  simp [nonE]
theorem filt_len (l : List (List Nat)) (i : Nat) : ((l.take i).filter nonE).length ≤ l.length := by
  have := List.length_filter_le nonE (l.take i)
  simp at this
  have h2 := List.length_filter_le nonE (l.take i)
  rw [List.length_take] at h2
  omega
theorem good26 (l : List Nat) (ho : oct l) (hl : l.length ≤ 4294967280) : Pg.Good Tryz.prog 66 [.c (.string (sB l))] (.sl (.own 0 9) 1 (sv (fld l))) := by
  refine good_intro (drawW_ok mix) Tryz.func66 rfl Tryz.results66 rfl (by kernel_rfl) (Nat.le_of_ble_eq_true (by kernel_rfl)) ?_
  have a1 := good42 l 35 ho (by omega) hl
  have hbl := bef_len 35 l
  have a2 := good43 (bef 35 l) 32 (bef_oct ho) (by omega) (by omega)
  have hsl := spl_len 32 (bef 35 l)
  have hpo : ∀ p ∈ spl 32 (bef 35 l), oct p := fun p hp b hb => ho b (bef_mem 35 l b (spl_mem 32 _ p hp b hb).1).1
  unfold fld
  generalize hxs : spl 32 (bef 35 l) = xs at a2 hsl hpo
  (repeat' (first | (simp (disch := first | assumption | omega | (simp only [Fits, maxLen, pgq] at *; omega)) only [pgo, pgb, tyf, buildSliceV_w, simprocAttr, Tryz.f66, str35, str32]) | ((with_reducible show callW _ _ _ _ _ _); first | refine callW_use _ (a1) rfl rfl rfl rfl ?_ | refine callW_use _ (a2) rfl rfl rfl rfl ?_) | ((first | ((with_reducible show condC _ _ _ _ _ _ _); refine cond_at (fun hc => ?_) (fun hc => ?_)) | ((with_reducible show guardC _ _ _ _ _ _ _ _); refine guard_at (fun hc => ?_) (fun hc => ?_)) | ((with_reducible show drwG _ _ _ _ _ _ _ _ _ _); refine drw_at (fun hc => ?_) (fun hc => ?_))) <;> (try simp only [hc]) <;> (try simp only [pgd] at hc)) | (with_reducible refine chk_at (by kernel_rfl) ?_)))
  refine loop_A (fun i => mkA [(3, .sl (.own 1 9) 1 (sv ((xs.take i).filter nonE))), (13, .sl (.own 0 9) 1 (sv xs)), (14, .c (.int .i64 xs.length)), (15, .c (.int .i64 (i : Nat)))] [] 2 (fun _ => .top)) (fun i => i ≤ xs.length) (fun i => xs.length - i) 0 [0] [] ?_ (Nat.zero_le _) ?_
  · (refine keep_mkA ?_ ?_ (top_hd _ _ _) (by decide) (by decide) (by decide) (by decide); (repeat' (first | exact trivial | refine genB_one _ _ rfl rfl ?_ ?_)); all_goals (try simp only [pgs, pgl, pgx, pgf, pgw, GenA_cons, GenA_nil, GenL_cons, GenL_nil, gen_top, gen_c, gen_fz, pgn, simprocAttr]); all_goals (try (repeat' (first | apply And.intro))); all_goals (try (first | exact trivial | exact gen_ii (by omega) | exact gen_cc rfl | exact gen_own rfl rfl | exact gen_ref rfl)))
    all_goals exact gen_nilx rfl
  · intro i hi
    have hfl := filt_len xs i
    rcases Nat.lt_or_ge i xs.length with hlt | hge
    · have hpi : oct (xs.getD i []) := by
        have g : xs.getD i [] = xs[i] := by simp [List.getD, hlt]
        rw [g]; exact hpo _ (List.getElem_mem hlt)
      by_cases hn : xs.getD i [] = []
      · (repeat' (first | (simp (disch := first | assumption | omega | (simp only [Fits, maxLen, pgq] at *; omega)) only [pgo, pgb, tyf, buildSliceV_w, simprocAttr, nils, sv_get, nilS _ hpi, hn]) | ((first | ((with_reducible show condC _ _ _ _ _ _ _); refine cond_at (fun hc => ?_) (fun hc => ?_)) | ((with_reducible show guardC _ _ _ _ _ _ _ _); refine guard_at (fun hc => ?_) (fun hc => ?_)) | ((with_reducible show drwG _ _ _ _ _ _ _ _ _ _); refine drw_at (fun hc => ?_) (fun hc => ?_))) <;> (try simp only [hc]) <;> (try simp only [pgd] at hc)) | (with_reducible refine chk_at (by kernel_rfl) ?_)))
        (refine back_at (i + 1) [0, 1] [] (hlt) (by first | omega | (simp only [List.length_cons]; omega)) ?_; (refine keep_mkA ?_ ?_ (top_hd _ _ _) (by decide) (by decide) (by decide) (by decide); (repeat' (first | exact trivial | refine genB_one _ _ rfl rfl ?_ ?_)); all_goals (try simp only [pgs, pgl, pgx, pgf, pgw, GenA_cons, GenA_nil, GenL_cons, GenL_nil, gen_top, gen_c, gen_fz, pgn, simprocAttr]); all_goals (try (repeat' (first | apply And.intro))); all_goals (try (first | exact trivial | exact gen_ii (by omega) | exact gen_cc rfl | exact gen_own rfl rfl | exact gen_ref rfl))))
        all_goals exact gen_own rfl (by rw [filt_same hlt hn])
      · (repeat' (first | (simp (disch := first | assumption | omega | (simp only [Fits, maxLen, pgq] at *; omega)) only [pgo, pgb, tyf, buildSliceV_w, simprocAttr, nils, sv_get, nilS _ hpi, hn, sv_snoc]) | ((first | ((with_reducible show condC _ _ _ _ _ _ _); refine cond_at (fun hc => ?_) (fun hc => ?_)) | ((with_reducible show guardC _ _ _ _ _ _ _ _); refine guard_at (fun hc => ?_) (fun hc => ?_)) | ((with_reducible show drwG _ _ _ _ _ _ _ _ _ _); refine drw_at (fun hc => ?_) (fun hc => ?_))) <;> (try simp only [hc]) <;> (try simp only [pgd] at hc)) | (with_reducible refine chk_at (by kernel_rfl) ?_)))
        (refine back_at (i + 1) [0, 1] [] (hlt) (by first | omega | (simp only [List.length_cons]; omega)) ?_; (refine keep_mkA ?_ ?_ (top_hd _ _ _) (by decide) (by decide) (by decide) (by decide); (repeat' (first | exact trivial | refine genB_one _ _ rfl rfl ?_ ?_)); all_goals (try simp only [pgs, pgl, pgx, pgf, pgw, GenA_cons, GenA_nil, GenL_cons, GenL_nil, gen_top, gen_c, gen_fz, pgn, simprocAttr]); all_goals (try (repeat' (first | apply And.intro))); all_goals (try (first | exact trivial | exact gen_ii (by omega) | exact gen_cc rfl | exact gen_own rfl rfl | exact gen_ref rfl))))
        all_goals exact gen_own rfl (by rw [filt_next hlt hn])
    · have hil : i = xs.length := by omega
      subst hil
      rw [List.take_length]
      (repeat' (first | (simp (disch := first | assumption | omega | (simp only [Fits, maxLen, pgq] at *; omega)) only [pgo, pgb, tyf, buildSliceV_w, simprocAttr]) | ((first | ((with_reducible show condC _ _ _ _ _ _ _); refine cond_at (fun hc => ?_) (fun hc => ?_)) | ((with_reducible show guardC _ _ _ _ _ _ _ _); refine guard_at (fun hc => ?_) (fun hc => ?_)) | ((with_reducible show drwG _ _ _ _ _ _ _ _ _ _); refine drw_at (fun hc => ?_) (fun hc => ?_))) <;> (try simp only [hc]) <;> (try simp only [pgd] at hc)) | (with_reducible refine chk_at (by kernel_rfl) ?_)))
      (refine ret_at [1] _ (by first | exact retV_one _ _ _ | exact retV_two _ _ _ _ | exact retV_three _ _ _ _ _ | exact retV_four _ _ _ _ _ _ | (simp (disch := first | assumption | omega | (simp only [Fits, maxLen, pgq] at *; omega)) only [pgr, pgo, tyf, simprocAttr]; rfl)) (by decide) (by simp only [pgo, simprocAttr]) ?_; (first | rfl | simp only [pgo, simprocAttr]))

/-- What has been read when i octets are: the pieces behind, the piece begun. -/
def Read (l : List Nat) (i : Nat) (ps : List (List Nat)) (w : List Nat) : Prop := i ≤ (bef 35 l).length ∧ spl 32 (l.take i) = ps ++ [w]
theorem read_on {l : List Nat} {i : Nat} {ps : List (List Nat)} {w : List Nat} (h : Read l i ps w) (hi : i < (bef 35 l).length) (hc : l.getD i 0 ≠ 32) : Read l (i + 1) ps (w ++ [l.getD i 0]) := by
  have := bef_len 35 l
  refine ⟨hi, ?_⟩
  rw [List.take_succ_eq_append_getElem (show i < l.length by omega)]
  have g : l.getD i 0 = l[i]'(by omega) := by simp [List.getD, show i < l.length by omega]
  rw [← g]
  exact spl_one 32 _ hc _ _ _ h.2
theorem read_hit {l : List Nat} {i : Nat} {ps : List (List Nat)} {w : List Nat} (h : Read l i ps w) (hi : i < (bef 35 l).length) (hc : l.getD i 0 = 32) : Read l (i + 1) (ps ++ [w]) [] := by
  have := bef_len 35 l
  refine ⟨hi, ?_⟩
  rw [List.take_succ_eq_append_getElem (show i < l.length by omega)]
  have g : l.getD i 0 = l[i]'(by omega) := by simp [List.getD, show i < l.length by omega]
  rw [← g, hc, spl_snoc, h.2]
theorem read_len {l : List Nat} {i : Nat} {ps : List (List Nat)} {w : List Nat} (h : Read l i ps w) : ps.length ≤ l.length ∧ w.length ≤ l.length ∧ (ps.filter nonE).length ≤ l.length := by
  have h1 := spl_len 32 (l.take i)
  have h2 := spl_plen 32 (l.take i) w (by rw [h.2]; simp)
  rw [h.2] at h1
  simp only [List.length_append, List.length_singleton, List.length_take] at h1 h2
  have h3 := List.length_filter_le nonE ps
  omega
theorem read_oct {l : List Nat} {i : Nat} {ps : List (List Nat)} {w : List Nat} (ho : oct l) (h : Read l i ps w) : oct w := fun b hb =>
  ho b (List.mem_of_mem_take (spl_mem 32 (l.take i) w (by rw [h.2]; simp) b hb).1)
theorem bef_ne {l : List Nat} {i : Nat} (h : i < (bef 35 l).length) : l.getD i 0 ≠ 35 := by
  have h1 := (bef_take 35 l).1
  have h2 : (bef 35 l).getD i 0 = l.getD i 0 := by
    have := bef_len 35 l
    rw [h1]
    simp [List.getD, List.getElem?_take, h]
  have h3 := bef_mem 35 l ((bef 35 l).getD i 0) (by simp only [List.getD, List.getElem?_eq_getElem h, Option.getD_some]; exact List.getElem_mem h)
  rw [h2] at h3
  exact h3.2
theorem one_ext {l : List Nat} {i : Nat} (h : i < l.length) : (l.take (i + 1)).drop i = [l.getD i 0] := by
  rw [List.take_succ_eq_append_getElem h, List.drop_append]
  simp [List.getD, h, Nat.min_eq_left (Nat.le_of_lt h)]
theorem good29 (l : List Nat) (ho : oct l) (hl : l.length ≤ 4294967280) : Pg.Good Tryz.prog 107 [.c (.string (sB l))] (.sl (.own 0 9) 1 (sv (fld l))) := by
  refine good_intro (drawW_ok mix) Tryz.func107 rfl Tryz.results107 rfl (by kernel_rfl) (Nat.le_of_ble_eq_true (by kernel_rfl)) ?_
  have hbl := bef_len 35 l
  (repeat' (first | (simp (disch := first | assumption | omega | (simp only [Fits, maxLen, pgq] at *; omega)) only [pgo, pgb, tyf, buildSliceV_w, simprocAttr, Tryz.f107, nils]) | ((first | ((with_reducible show condC _ _ _ _ _ _ _); refine cond_at (fun hc => ?_) (fun hc => ?_)) | ((with_reducible show guardC _ _ _ _ _ _ _ _); refine guard_at (fun hc => ?_) (fun hc => ?_)) | ((with_reducible show drwG _ _ _ _ _ _ _ _ _ _); refine drw_at (fun hc => ?_) (fun hc => ?_))) <;> (try simp only [hc]) <;> (try simp only [pgd] at hc)) | (with_reducible refine chk_at (by kernel_rfl) ?_)))
  refine loop_A (fun x : Nat × List (List Nat) × List Nat => mkA [(0, .c (.string (sB l))), (3, .sl (.own 0 9) 1 (sv (x.2.1.filter nonE))), (4, .c (.string (sB x.2.2))), (5, .c (.int .i64 (x.1 : Nat)))] [] 1 (fun _ => .top)) (fun x => Read l x.1 x.2.1 x.2.2) (fun x => l.length - x.1) (0, [], []) [] [] ?_ ⟨Nat.zero_le _, rfl⟩ ?_
  · (refine keep_mkA ?_ ?_ (top_hd _ _ _) (by decide) (by decide) (by decide) (by decide); (repeat' (first | exact trivial | refine genB_one _ _ rfl rfl ?_ ?_)); all_goals (try simp only [pgs, pgl, pgx, pgf, pgw, GenA_cons, GenA_nil, GenL_cons, GenL_nil, gen_top, gen_c, gen_fz, pgn, simprocAttr]); all_goals (try (repeat' (first | apply And.intro))); all_goals (try (first | exact trivial | exact gen_ii (by omega) | exact gen_cc rfl | exact gen_own rfl rfl | exact gen_ref rfl)))
    all_goals exact gen_nilx rfl
  · rintro ⟨i, ps, w⟩ hr
    replace hr : Read l i ps w := hr
    obtain ⟨hl1, hl2, hl3⟩ := read_len hr
    have hw := read_oct ho hr
    have hi := hr.1
    rcases Nat.lt_or_ge i (bef 35 l).length with hlt | hge
    · have hcb := getD_lt ho i
      have h35 := bef_ne hlt
      have e1 := one_ext (show i < l.length by omega)
      have en1 : ((i : Int) + 1).toNat = i + 1 := by omega
      by_cases h32 : l.getD i 0 = 32
      · by_cases hn : w = []
        · (repeat' (first | (simp (disch := first | assumption | omega | (simp only [Fits, maxLen, pgq] at *; omega)) only [pgo, pgb, tyf, buildSliceV_w, simprocAttr, nils, nilS _ hw, hn]) | ((first | ((with_reducible show condC _ _ _ _ _ _ _); refine cond_at (fun hc => ?_) (fun hc => ?_)) | ((with_reducible show guardC _ _ _ _ _ _ _ _); refine guard_at (fun hc => ?_) (fun hc => ?_)) | ((with_reducible show drwG _ _ _ _ _ _ _ _ _ _); refine drw_at (fun hc => ?_) (fun hc => ?_))) <;> (try simp only [hc]) <;> (try simp only [pgd] at hc)) | (with_reducible refine chk_at (by kernel_rfl) ?_)))
          refine back_at (i + 1, ps ++ [w], []) [0] [] ?_ ?_ ?_
          · exact read_hit hr hlt h32
          · show l.length - (i + 1) < l.length - i
            omega
          (refine keep_mkA ?_ ?_ (top_hd _ _ _) (by decide) (by decide) (by decide) (by decide); (repeat' (first | exact trivial | refine genB_one _ _ rfl rfl ?_ ?_)); all_goals (try simp only [pgs, pgl, pgx, pgf, pgw, GenA_cons, GenA_nil, GenL_cons, GenL_nil, gen_top, gen_c, gen_fz, pgn, simprocAttr]); all_goals (try (repeat' (first | apply And.intro))); all_goals (try (first | exact trivial | exact gen_ii (by omega) | exact gen_cc rfl | exact gen_own rfl rfl | exact gen_ref rfl)))
          all_goals exact gen_own rfl (by rw [hn, List.filter_append, filt0, List.append_nil])
        · (repeat' (first | (simp (disch := first | assumption | omega | (simp only [Fits, maxLen, pgq] at *; omega)) only [pgo, pgb, tyf, buildSliceV_w, simprocAttr, nils, nilS _ hw, hn, sv_snoc]) | ((first | ((with_reducible show condC _ _ _ _ _ _ _); refine cond_at (fun hc => ?_) (fun hc => ?_)) | ((with_reducible show guardC _ _ _ _ _ _ _ _); refine guard_at (fun hc => ?_) (fun hc => ?_)) | ((with_reducible show drwG _ _ _ _ _ _ _ _ _ _); refine drw_at (fun hc => ?_) (fun hc => ?_))) <;> (try simp only [hc]) <;> (try simp only [pgd] at hc)) | (with_reducible refine chk_at (by kernel_rfl) ?_)))
          refine back_at (i + 1, ps ++ [w], []) [0] [] ?_ ?_ ?_
          · exact read_hit hr hlt h32
          · show l.length - (i + 1) < l.length - i
            omega
          (refine keep_mkA ?_ ?_ (top_hd _ _ _) (by decide) (by decide) (by decide) (by decide); (repeat' (first | exact trivial | refine genB_one _ _ rfl rfl ?_ ?_)); all_goals (try simp only [pgs, pgl, pgx, pgf, pgw, GenA_cons, GenA_nil, GenL_cons, GenL_nil, gen_top, gen_c, gen_fz, pgn, simprocAttr]); all_goals (try (repeat' (first | apply And.intro))); all_goals (try (first | exact trivial | exact gen_ii (by omega) | exact gen_cc rfl | exact gen_own rfl rfl | exact gen_ref rfl)))
          all_goals exact gen_own rfl (by rw [List.filter_append, filt1 hn])
      · (repeat' (first | (simp (disch := first | assumption | omega | (simp only [Fits, maxLen, pgq] at *; omega)) only [pgo, pgb, tyf, buildSliceV_w, simprocAttr, nils, e1, en1, sadd]) | ((first | ((with_reducible show condC _ _ _ _ _ _ _); refine cond_at (fun hc => ?_) (fun hc => ?_)) | ((with_reducible show guardC _ _ _ _ _ _ _ _); refine guard_at (fun hc => ?_) (fun hc => ?_)) | ((with_reducible show drwG _ _ _ _ _ _ _ _ _ _); refine drw_at (fun hc => ?_) (fun hc => ?_))) <;> (try simp only [hc]) <;> (try simp only [pgd] at hc)) | (with_reducible refine chk_at (by kernel_rfl) ?_)))
        refine back_at (i + 1, ps, w ++ [l.getD i 0]) [0] [] ?_ ?_ ?_
        · exact read_on hr hlt h32
        · show l.length - (i + 1) < l.length - i
          omega
        (refine keep_mkA ?_ ?_ (top_hd _ _ _) (by decide) (by decide) (by decide) (by decide); (repeat' (first | exact trivial | refine genB_one _ _ rfl rfl ?_ ?_)); all_goals (try simp only [pgs, pgl, pgx, pgf, pgw, GenA_cons, GenA_nil, GenL_cons, GenL_nil, gen_top, gen_c, gen_fz, pgn, simprocAttr]); all_goals (try (repeat' (first | apply And.intro))); all_goals (try (first | exact trivial | exact gen_ii (by omega) | exact gen_cc rfl | exact gen_own rfl rfl | exact gen_ref rfl)))
    · have hil : i = (bef 35 l).length := by omega
      have hfin : fld l = (ps ++ [w]).filter nonE := by
        unfold fld
        have := hr.2
        rw [← this, hil, ← (bef_take 35 l).1]
      have hout : ¬ (i < l.length) ∨ l.getD i 0 = 35 := by
        rcases Nat.lt_or_ge i l.length with h | h
        · exact .inr (by rw [hil]; exact (bef_take 35 l).2 (by omega))
        · exact .inl (by omega)
      rw [hfin, List.filter_append]
      have hcb := getD_lt ho i
      rcases hout with hout | hout
      all_goals
        by_cases hn : w = []
        · subst hn
          rw [filt0, List.append_nil]
          (repeat' (first | (simp (disch := first | assumption | omega | (simp only [Fits, maxLen, pgq] at *; omega)) only [pgo, pgb, tyf, buildSliceV_w, simprocAttr, nils]) | ((first | ((with_reducible show condC _ _ _ _ _ _ _); refine cond_at (fun hc => ?_) (fun hc => ?_)) | ((with_reducible show guardC _ _ _ _ _ _ _ _); refine guard_at (fun hc => ?_) (fun hc => ?_)) | ((with_reducible show drwG _ _ _ _ _ _ _ _ _ _); refine drw_at (fun hc => ?_) (fun hc => ?_))) <;> (try simp only [hc]) <;> (try simp only [pgd] at hc)) | (with_reducible refine chk_at (by kernel_rfl) ?_)))
          all_goals (refine ret_at [0] _ (by first | exact retV_one _ _ _ | exact retV_two _ _ _ _ | exact retV_three _ _ _ _ _ | exact retV_four _ _ _ _ _ _ | (simp (disch := first | assumption | omega | (simp only [Fits, maxLen, pgq] at *; omega)) only [pgr, pgo, tyf, simprocAttr]; rfl)) (by decide) (by simp only [pgo, simprocAttr]) ?_; (first | rfl | simp only [pgo, simprocAttr]))
        · rw [filt1 hn]
          (repeat' (first | (simp (disch := first | assumption | omega | (simp only [Fits, maxLen, pgq] at *; omega)) only [pgo, pgb, tyf, buildSliceV_w, simprocAttr, nils, nilS _ hw, hn, sv_snoc]) | ((first | ((with_reducible show condC _ _ _ _ _ _ _); refine cond_at (fun hc => ?_) (fun hc => ?_)) | ((with_reducible show guardC _ _ _ _ _ _ _ _); refine guard_at (fun hc => ?_) (fun hc => ?_)) | ((with_reducible show drwG _ _ _ _ _ _ _ _ _ _); refine drw_at (fun hc => ?_) (fun hc => ?_))) <;> (try simp only [hc]) <;> (try simp only [pgd] at hc)) | (with_reducible refine chk_at (by kernel_rfl) ?_)))
          all_goals (refine ret_at [0] _ (by first | exact retV_one _ _ _ | exact retV_two _ _ _ _ | exact retV_three _ _ _ _ _ | exact retV_four _ _ _ _ _ _ | (simp (disch := first | assumption | omega | (simp only [Fits, maxLen, pgq] at *; omega)) only [pgr, pgo, tyf, simprocAttr]; rfl)) (by decide) (by simp only [pgo, simprocAttr]) ?_; (first | rfl | simp only [pgo, simprocAttr]))
end Go.Proofs.YtjiolbcdfgclaaaGreatDoor
end

section
/-
  Names, plain: what is written is read back (keys, numbers); numbers' low bits.
-/
namespace Go.Proofs.YtjiolbcdfgclaaaGreatDoor
open Go Go.Pg
set_option maxRecDepth 100000
set_option linter.unusedSimpArgs false
set_option linter.unusedVariables false

theorem nib_hx : ∀ d, d < 16 → nib (hx d) = d := by decide
theorem rt_at (l : List Nat) (ho : oct l) (t : Nat) (ht : t < l.length) : (hexL l).getD (2 * t) 0 = hx (l.getD t 0 / 16) ∧ (hexL l).getD (2 * t + 1) 0 = hx (l.getD t 0 % 16) := by
  induction l generalizing t with
  | nil => simp at ht
  | cons a l ih =>
    have e : hexL (a :: l) = hx (a / 16) :: hx (a % 16) :: hexL l := by simp [hexL]
    rw [e]
    cases t with
    | zero => exact ⟨rfl, rfl⟩
    | succ t =>
      have := ih (fun x hx => ho x (by simp [hx])) t (by simpa using ht)
      simpa [List.getD, Nat.mul_add] using this
theorem rt (l : List Nat) (ho : oct l) : okB (hexL l) l.length = true ∧ prs (hexL l) l.length = l := by
  have h1 : ∀ t, t < l.length → okP (hexL l) t = true ∧ prB (hexL l) t = l.getD t 0 := by
    intro t ht
    have h2 := rt_at l ho t ht
    have h3 := getD_lt ho t
    unfold okP prB
    rw [h2.1, h2.2, nib_hx _ (by omega), nib_hx _ (by omega)]
    refine ⟨by simp; omega, by omega⟩
  constructor
  · rw [okB, List.all_eq_true]
    intro t ht
    exact (h1 t (List.mem_range.1 ht)).1
  · apply List.ext_getElem?
    intro i
    rcases Nat.lt_or_ge i l.length with hi | hi
    · have := (h1 i hi).2
      simp only [prs, List.getElem?_map, List.getElem?_range hi, Option.map_some, this, List.getD, List.getElem?_eq_getElem hi, Option.getD_some]
    · rw [List.getElem?_eq_none (by rw [prs_len]; omega), List.getElem?_eq_none hi]
theorem fk_pk {l : List Nat} (ho : oct l) (h : (fk l).2 = 0) : pk (fk l).1 = (l, 0) := by
  rw [← pkP_eq _ (fk_oct ho)]
  have hfk : fk l = ((fk l).1, 0) := by rw [← h]
  unfold fk at h
  cases h1 : isKey l
  · rw [h1] at h; simp at h
  · cases h2 : plain l
    · have e : (fk l).1 = 37 :: hexL l := by unfold fk; rw [h1, h2]; rfl
      rw [e] at hfk ⊢
      unfold pkP keyOf
      have hp : hasP (37 :: hexL l) [37] = true := (pct _).2 ⟨by simp, rfl⟩
      have hd : (37 :: hexL l).drop 1 = hexL l := rfl
      have hlen := hexL_len l
      have hr := rt l ho
      rw [hp, if_pos rfl, hd, if_neg (by omega), show (hexL l).length / 2 = l.length by omega, hr.1, if_pos rfl, hr.2]
      simp only
      rw [hfk, if_neg (by simp)]
    · have e : (fk l).1 = l := by unfold fk; rw [h1, h2]; rfl
      rw [e] at hfk ⊢
      unfold pkP keyOf
      rw [plain_pct l h2, if_neg (by simp)]
      simp only
      rw [hfk, if_neg (by simp)]
theorem fk_len (l : List Nat) : (fk l).1.length ≤ 65 := by
  unfold fk
  cases h1 : isKey l
  · simp
  · have := key_len h1
    have := hexL_len l
    cases h2 : plain l <;> simp <;> omega
theorem fk_key (l : List Nat) : ((fk l).2 = 0 ∧ isKey l = true) ∨ ((fk l).2 = 7 ∧ isKey l = false) := by
  unfold fk
  cases h1 : isKey l
  · exact .inr ⟨rfl, rfl⟩
  · cases h2 : plain l <;> exact .inl ⟨rfl, rfl⟩
theorem pk_fk {m : List Nat} (ho : oct m) : ((pk m).2 = 0 ∧ fk (pk m).1 = (m, 0)) ∨ (pk m).2 = 1 := by
  rw [← pkP_eq m ho]
  unfold pkP
  cases h : keyOf m with
  | none => exact .inr rfl
  | some k =>
    simp only
    by_cases h1 : (fk k).2 ≠ 0 ∨ (fk k).1 ≠ m
    · rw [if_pos h1]; exact .inr rfl
    · rw [if_neg h1]
      have h2 : (fk k).2 = 0 := by
        rcases Nat.eq_zero_or_pos (fk k).2 with h2 | h2
        · exact h2
        · exact absurd (.inl (by omega)) h1
      have h3 : (fk k).1 = m := Classical.byContradiction fun h3 => h1 (.inr h3)
      exact .inl ⟨rfl, by rw [← h2, ← h3]⟩
theorem pk_oct {m : List Nat} (ho : oct m) (hl : m.length ≤ 140737488355328) : oct (pk m).1 := by
  rw [← pkP_eq m ho]
  unfold pkP
  cases h : keyOf m with
  | none => exact oct_nil
  | some k =>
    simp only
    split
    · exact oct_nil
    · exact (keyOf_oct ho hl h).1
/-- The digits of a number, as octets. -/
def dd (u : Nat) : List Nat := (Lib.decDigits u).map UInt8.toNat
theorem dd_lt (u : Nat) (h : u < 10) : dd u = [48 + u] := by
  unfold dd Lib.decDigits
  rw [dif_pos h]
  simp
  omega
theorem dd_ge (u : Nat) (h : 10 ≤ u) : dd u = dd (u / 10) ++ [48 + u % 10] := by
  unfold dd
  rw [Lib.decDigits, dif_neg (by omega)]
  simp
  omega
theorem dig_snoc (l : List Nat) (b : Nat) : dig (l ++ [b]) = 10 * dig l + (b - 48) := by simp [dig]
theorem dd_ok : ∀ (n u : Nat), u < n → (dd u).all (fun c => bt c 48 57) = true ∧ dig (dd u) = u ∧ 1 ≤ (dd u).length ∧ (1 ≤ u → (dd u).getD 0 0 ≠ 48) ∧ (∀ k, 1 ≤ k → ((dd u).length ≤ k ↔ u < 10 ^ k)) := by
  intro n
  induction n with
  | zero => intro u h; omega
  | succ n ih =>
    intro u hu
    rcases Nat.lt_or_ge u 10 with h | h
    · rw [dd_lt u h]
      refine ⟨by simp [bt]; omega, by simp [dig], by simp, by intro h1; simp; omega, fun k hk => ?_⟩
      have : 10 ^ 1 ≤ 10 ^ k := Nat.pow_le_pow_right (by omega) hk
      simp
      omega
    · rw [dd_ge u h]
      obtain ⟨h1, h2, h3, h4, h5⟩ := ih (u / 10) (by omega)
      refine ⟨?_, ?_, by simp, ?_, fun k hk => ?_⟩
      · rw [List.all_append, h1]
        simp [bt]
        omega
      · rw [dig_snoc, h2]; omega
      · intro _
        have h6 := h4 (by omega)
        have h7 : 0 < (dd (u / 10)).length := by omega
        simp only [List.getD, List.getElem?_append_left h7] at h6 ⊢
        exact h6
      · rw [List.length_append, List.length_singleton]
        cases k with
        | zero => omega
        | succ k =>
          cases k with
          | zero =>
            constructor
            · intro h'; omega
            · intro h'
              have : (10 : Nat) ^ (0 + 1) = 10 := by decide
              omega
          | succ k =>
            have := h5 (k + 1) (by omega)
            rw [Nat.pow_succ]
            omega
theorem itoaN_at (n : Int) : itoaN n = if n < 0 then 45 :: dd n.natAbs else dd n.toNat := by
  unfold itoaN Lib.itoa dd
  split <;> simp
theorem hasP_cons (c : Nat) (l : List Nat) : hasP (c :: l) [45] = (c == 45) := by
  rw [Bool.eq_iff_iff, hasP_dash]
  simp
theorem pint_itoa (n : Int) : pint (itoaN n) = if -999999999999 ≤ n ∧ n ≤ 999999999999 then (n, 0) else (0, 1) := by
  rw [itoaN_at]
  have key : ∀ u : Nat, ∀ neg : Bool, (neg = true → 1 ≤ u) → badI (dd u) neg = !decide (u ≤ 999999999999) := by
    intro u neg hneg
    obtain ⟨h1, h2, h3, h4, h5⟩ := dd_ok (u + 1) u (by omega)
    have h6 := h5 12 (by omega)
    rw [Bool.eq_iff_iff, badI_iff, Bool.not_eq_true', decide_eq_false_iff_not]
    have h7 : (10 : Nat) ^ 12 = 1000000000000 := by decide
    constructor
    · rintro (h | h | ⟨h, h'⟩)
      · omega
      · omega
      · rcases Nat.eq_zero_or_pos u with h0 | h0
        · subst h0
          rw [dd_lt 0 (by omega)] at h'
          rcases h' with h' | h'
          · simp at h'
          · have := hneg h'; omega
        · exact absurd h (h4 h0)
    · intro h
      exact .inr (.inl (by omega))
  unfold pint
  by_cases hn : n < 0
  · rw [if_pos hn]
    obtain ⟨h1, h2, h3, h4, h5⟩ := dd_ok (n.natAbs + 1) n.natAbs (by omega)
    have hb : bodyI (45 :: dd n.natAbs) = dd n.natAbs := by unfold bodyI; rw [hasP_cons]; rfl
    rw [hb, hasP_cons, key _ _ (by intro _; omega), h1, h2]
    by_cases hc : n.natAbs ≤ 999999999999
    · rw [if_pos (show -999999999999 ≤ n ∧ n ≤ 999999999999 by omega)]
      simp [hc]
      omega
    · rw [if_neg (show ¬ (-999999999999 ≤ n ∧ n ≤ 999999999999) by omega)]
      simp [hc]
  · rw [if_neg hn]
    obtain ⟨h1, h2, h3, h4, h5⟩ := dd_ok (n.toNat + 1) n.toNat (by omega)
    have hp : hasP (dd n.toNat) [45] = false := by
      rw [← Bool.not_eq_true, hasP_dash]
      rintro ⟨h6, h7⟩
      have := List.all_eq_true.1 h1 ((dd n.toNat).getD 0 0) (by
        simp only [List.getD, List.getElem?_eq_getElem h6, Option.getD_some]
        exact List.getElem_mem h6)
      have := bt_and this
      omega
    have hb : bodyI (dd n.toNat) = dd n.toNat := by unfold bodyI; rw [hp]; rfl
    rw [hb, hp, key _ _ (by intro h; cases h), h1, h2]
    by_cases hc : n.toNat ≤ 999999999999
    · rw [if_pos (show -999999999999 ≤ n ∧ n ≤ 999999999999 by omega)]
      simp [hc]
      omega
    · rw [if_neg (show ¬ (-999999999999 ≤ n ∧ n ≤ 999999999999) by omega)]
      simp [hc]
theorem itoaN_len (n : Int) (h0 : -9223372036854775808 ≤ n) (h1 : n ≤ 9223372036854775807) : (itoaN n).length ≤ 20 := by
  rw [itoaN_at]
  split
  · have := ((dd_ok (n.natAbs + 1) n.natAbs (by omega)).2.2.2.2 19 (by omega)).2 (by
      have : (10 : Nat) ^ 19 = 10000000000000000000 := by decide
      omega)
    simp only [List.length_cons]
    omega
  · have := ((dd_ok (n.toNat + 1) n.toNat (by omega)).2.2.2.2 19 (by omega)).2 (by
      have : (10 : Nat) ^ 19 = 10000000000000000000 := by decide
      omega)
    omega
theorem pint_rng (l : List Nat) : (pint l).2 = 0 ∨ (pint l).2 = 1 := by
  unfold pint; split
  · exact .inr rfl
  · split
    · exact .inr rfl
    · exact .inl rfl
theorem and_i64 (n : Int) (j : Nat) (hj : j ≤ 62) : bits .and .i64 n (2 ^ j - 1) = n % 2 ^ j := by
  have hb : IntKind.i64.bits = 64 := rfl
  have e1 : (BitVec.ofInt 64 (2 ^ j - 1)).toNat = 2 ^ j - 1 := by
    have hle : (2 : Nat) ^ j ≤ 2 ^ 62 := Nat.pow_le_pow_right (by omega) hj
    have h1 : ((2 : Int) ^ j - 1) = ((2 ^ j - 1 : Nat) : Int) := by
      have : 0 < (2 : Nat) ^ j := Nat.two_pow_pos j
      rw [Int.natCast_sub (by omega)]
      simp
    rw [h1, BitVec.toNat_ofInt]
    rw [show ((2 ^ 64 : Nat) : Int) = 18446744073709551616 from rfl]
    omega
  have e2 : (((BitVec.ofInt 64 n).toNat % 2 ^ j : Nat) : Int) = n % 2 ^ j := by
    rw [BitVec.toNat_ofInt, Int.natCast_emod, Int.toNat_of_nonneg (Int.emod_nonneg _ (by decide))]
    have : ((2 ^ 64 : Nat) : Int) = 2 ^ j * 2 ^ (64 - j) := by
      rw [← Int.pow_add, show j + (64 - j) = 64 by omega]
      rfl
    rw [show (((2 ^ j : Nat)) : Int) = 2 ^ j by simp, this]
    exact Int.emod_emod_of_dvd n ⟨_, rfl⟩
  show IntKind.i64.wrap (((BitVec.ofInt 64 n &&& BitVec.ofInt 64 (2 ^ j - 1)).toNat : Nat) : Int) = _
  rw [BitVec.toNat_and, e1, Nat.and_two_pow_sub_one_eq_mod, e2]
  have h0 : 0 ≤ n % 2 ^ j := Int.emod_nonneg _ (by have : (0 : Int) < 2 ^ j := Int.pow_pos (by decide); omega)
  have h1 : n % 2 ^ j < 2 ^ j := Int.emod_lt_of_pos _ (Int.pow_pos (by decide))
  have h2 : (2 : Int) ^ j ≤ 2 ^ 62 := by
    have := Nat.pow_le_pow_right (n := 2) (by omega) hj
    exact_mod_cast this
  have h3 : (2 : Int) ^ 62 = 4611686018427387904 := rfl
  exact w_i64 _ (by omega) (by omega)
theorem and255 (n : Int) : bits .and .i64 n 255 = n % 256 := and_i64 n 8 (by decide)
theorem andF (n : Int) : bits .and .i64 n 15 = n % 16 := and_i64 n 4 (by decide)
end Go.Proofs.YtjiolbcdfgclaaaGreatDoor
end

section
/-
  Parameters: what their check answers.
-/
namespace Go.Proofs.YtjiolbcdfgclaaaGreatDoor
open Go Go.Pg
set_option maxRecDepth 100000
set_option linter.unusedSimpArgs false
set_option linter.unusedVariables false
/-- From a to b. -/
def inb (n a b : Int) : Bool := decide (a ≤ n) && decide (n ≤ b)
theorem inb_t (n a b : Int) : (inb n a b = true) = (a ≤ n ∧ n ≤ b) := by simp [inb]
theorem inb_f (n a b : Int) : (inb n a b = false) = ¬ (a ≤ n ∧ n ≤ b) := by
  rw [← inb_t, Bool.not_eq_true]
theorem inb_T {n a b : Int} (h : a ≤ n ∧ n ≤ b) : inb n a b = true := by rw [inb_t]; exact h
theorem inb_F {n a b : Int} (h : ¬ (a ≤ n ∧ n ≤ b)) : inb n a b = false := by rw [inb_f]; exact h
theorem g_inside (n a b : Int) : Pg.Good Tryz.prog 179 [vi n, vi a, vi b] (vb (inb n a b)) := by
  refine good_intro (drawW_ok mix) Tryz.func179 rfl Tryz.results179 rfl (by kernel_rfl) (Nat.le_of_ble_eq_true (by kernel_rfl)) ?_
  by_cases h1 : a ≤ n <;> by_cases h2 : n ≤ b
  all_goals
    (repeat' (first | (simp (disch := first | assumption | omega | (simp only [Fits, maxLen, pgq] at *; omega)) only [pgo, pgb, tyf, buildSliceV_w, simprocAttr, Tryz.f179]) | ((first | ((with_reducible show condC _ _ _ _ _ _ _); refine cond_at (fun hc => ?_) (fun hc => ?_)) | ((with_reducible show guardC _ _ _ _ _ _ _ _); refine guard_at (fun hc => ?_) (fun hc => ?_)) | ((with_reducible show drwG _ _ _ _ _ _ _ _ _ _); refine drw_at (fun hc => ?_) (fun hc => ?_))) <;> (try simp only [hc]) <;> (try simp only [pgd] at hc)) | (with_reducible refine chk_at (by kernel_rfl) ?_)))
    (refine ret_at [] _ (by first | exact retV_one _ _ _ | exact retV_two _ _ _ _ | exact retV_three _ _ _ _ _ | exact retV_four _ _ _ _ _ _ | (simp (disch := first | assumption | omega | (simp only [Fits, maxLen, pgq] at *; omega)) only [pgr, pgo, tyf, simprocAttr]; rfl)) (by decide) (by simp only [pgo, simprocAttr]) ?_; (first | rfl | simp only [pgo, simprocAttr]))
    try (rw [show inb n a b = _ from by first | exact inb_T ⟨h1, h2⟩ | exact inb_F (by omega)])
theorem g_within12 (n a b : Int) : Pg.Good Tryz.prog 139 [vi n, vi a, vi b] (vb (inb n a b)) := by
  refine good_intro (drawW_ok mix) Tryz.func139 rfl Tryz.results139 rfl (by kernel_rfl) (Nat.le_of_ble_eq_true (by kernel_rfl)) ?_
  by_cases h1 : a ≤ n <;> by_cases h2 : n ≤ b
  all_goals
    (repeat' (first | (simp (disch := first | assumption | omega | (simp only [Fits, maxLen, pgq] at *; omega)) only [pgo, pgb, tyf, buildSliceV_w, simprocAttr, Tryz.f139]) | ((first | ((with_reducible show condC _ _ _ _ _ _ _); refine cond_at (fun hc => ?_) (fun hc => ?_)) | ((with_reducible show guardC _ _ _ _ _ _ _ _); refine guard_at (fun hc => ?_) (fun hc => ?_)) | ((with_reducible show drwG _ _ _ _ _ _ _ _ _ _); refine drw_at (fun hc => ?_) (fun hc => ?_))) <;> (try simp only [hc]) <;> (try simp only [pgd] at hc)) | (with_reducible refine chk_at (by kernel_rfl) ?_)))
    (refine ret_at [] _ (by first | exact retV_one _ _ _ | exact retV_two _ _ _ _ | exact retV_three _ _ _ _ _ | exact retV_four _ _ _ _ _ _ | (simp (disch := first | assumption | omega | (simp only [Fits, maxLen, pgq] at *; omega)) only [pgr, pgo, tyf, simprocAttr]; rfl)) (by decide) (by simp only [pgo, simprocAttr]) ?_; (first | rfl | simp only [pgo, simprocAttr]))
    try (rw [show inb n a b = _ from by first | exact inb_T ⟨h1, h2⟩ | exact inb_F (by omega)])
theorem g_within6 (n a b : Int) : Pg.Good Tryz.prog 200 [vi n, vi a, vi b] (vb (inb n a b)) := by
  refine good_intro (drawW_ok mix) Tryz.func200 rfl Tryz.results200 rfl (by kernel_rfl) (Nat.le_of_ble_eq_true (by kernel_rfl)) ?_
  by_cases h1 : a ≤ n <;> by_cases h2 : n ≤ b
  all_goals
    (repeat' (first | (simp (disch := first | assumption | omega | (simp only [Fits, maxLen, pgq] at *; omega)) only [pgo, pgb, tyf, buildSliceV_w, simprocAttr, Tryz.f200]) | ((first | ((with_reducible show condC _ _ _ _ _ _ _); refine cond_at (fun hc => ?_) (fun hc => ?_)) | ((with_reducible show guardC _ _ _ _ _ _ _ _); refine guard_at (fun hc => ?_) (fun hc => ?_)) | ((with_reducible show drwG _ _ _ _ _ _ _ _ _ _); refine drw_at (fun hc => ?_) (fun hc => ?_))) <;> (try simp only [hc]) <;> (try simp only [pgd] at hc)) | (with_reducible refine chk_at (by kernel_rfl) ?_)))
    (refine ret_at [] _ (by first | exact retV_one _ _ _ | exact retV_two _ _ _ _ | exact retV_three _ _ _ _ _ | exact retV_four _ _ _ _ _ _ | (simp (disch := first | assumption | omega | (simp only [Fits, maxLen, pgq] at *; omega)) only [pgr, pgo, tyf, simprocAttr]; rfl)) (by decide) (by simp only [pgo, simprocAttr]) ?_; (first | rfl | simp only [pgo, simprocAttr]))
    try (rw [show inb n a b = _ from by first | exact inb_T ⟨h1, h2⟩ | exact inb_F (by omega)])
/-- What parameters' check answers. -/
def vp (k z d s : Int) : Int :=
  if k = 1 then (if z = 0 ∧ d = 0 ∧ s = 0 then 0 else 10)
  else if k = 2 then (if 1 ≤ d ∧ d ≤ 8 ∧ 1 ≤ z ∧ z ≤ 64 then 0 else 5)
  else if k = 3 then (if 2 ≤ z ∧ z ≤ 8 then (if d = 0 then 0 else 10) else 5)
  else if k = 4 ∨ k = 5 then (if 1 ≤ z ∧ z ≤ 32 then (if d = 0 ∧ s = 0 then 0 else 10) else 5)
  else if k = 6 then (if 2 ≤ z ∧ z ≤ 32 ∧ z % 2 = 0 then (if d = 0 ∧ s = 0 then 0 else 10) else 5)
  else 8
theorem tmod_nn (a b : Int) (h : 0 ≤ a) : a.tmod b = a % b := Int.tmod_eq_emod_of_nonneg h
abbrev pV (k z d s : Int) : List V := [vi k, vi z, vi d, vu s]
set_option maxHeartbeats 2000000 in
theorem g_ValidateParams (k z d s : Int) : Pg.Good Tryz.prog 126 [.agg (pV k z d s)] (vi (vp k z d s)) := by
  refine good_intro (drawW_ok mix) Tryz.func126 rfl Tryz.results126 rfl (by kernel_rfl) (Nat.le_of_ble_eq_true (by kernel_rfl)) ?_
  skip
  (repeat' (first | (simp (disch := first | assumption | omega | (simp only [Fits, maxLen, pgq] at *; omega)) only [pgo, pgb, tyf, buildSliceV_w, simprocAttr, Tryz.f126, tmod_nn]) | ((with_reducible show callW _ _ _ _ _ _); first | refine callW_use _ (g_inside _ _ _) rfl rfl rfl rfl ?_) | ((first | ((with_reducible show condC _ _ _ _ _ _ _); refine cond_at (fun hc => ?_) (fun hc => ?_)) | ((with_reducible show guardC _ _ _ _ _ _ _ _); refine guard_at (fun hc => ?_) (fun hc => ?_)) | ((with_reducible show drwG _ _ _ _ _ _ _ _ _ _); refine drw_at (fun hc => ?_) (fun hc => ?_))) <;> (try simp only [hc]) <;> (try simp only [pgd, inb_t, inb_f] at hc)) | (with_reducible refine chk_at (by kernel_rfl) ?_)))
  all_goals (refine ret_at [] _ (by first | exact retV_one _ _ _ | exact retV_two _ _ _ _ | exact retV_three _ _ _ _ _ | exact retV_four _ _ _ _ _ _ | (simp (disch := first | assumption | omega | (simp only [Fits, maxLen, pgq] at *; omega)) only [pgr, pgo, tyf, simprocAttr]; rfl)) (by decide) (by simp only [pgo, simprocAttr]) ?_; (first | rfl | simp only [pgo, simprocAttr]))
  (all_goals (unfold vp; (repeat' split) <;> first | rfl | (exfalso; omega)))
set_option maxHeartbeats 2000000 in
theorem g_ValidateParams12 (k z d s : Int) : Pg.Good Tryz.prog 86 [.agg (pV k z d s)] (vi (vp k z d s)) := by
  refine good_intro (drawW_ok mix) Tryz.func86 rfl Tryz.results86 rfl (by kernel_rfl) (Nat.le_of_ble_eq_true (by kernel_rfl)) ?_
  (repeat' (first | (simp (disch := first | assumption | omega | (simp only [Fits, maxLen, pgq] at *; omega)) only [pgo, pgb, tyf, buildSliceV_w, simprocAttr, Tryz.f86, tmod_nn]) | ((with_reducible show callW _ _ _ _ _ _); first | refine callW_use _ (g_within12 _ _ _) rfl rfl rfl rfl ?_) | ((first | ((with_reducible show condC _ _ _ _ _ _ _); refine cond_at (fun hc => ?_) (fun hc => ?_)) | ((with_reducible show guardC _ _ _ _ _ _ _ _); refine guard_at (fun hc => ?_) (fun hc => ?_)) | ((with_reducible show drwG _ _ _ _ _ _ _ _ _ _); refine drw_at (fun hc => ?_) (fun hc => ?_))) <;> (try simp only [hc]) <;> (try simp only [pgd, inb_t, inb_f] at hc)) | (with_reducible refine chk_at (by kernel_rfl) ?_)))
  all_goals (refine ret_at [] _ (by first | exact retV_one _ _ _ | exact retV_two _ _ _ _ | exact retV_three _ _ _ _ _ | exact retV_four _ _ _ _ _ _ | (simp (disch := first | assumption | omega | (simp only [Fits, maxLen, pgq] at *; omega)) only [pgr, pgo, tyf, simprocAttr]; rfl)) (by decide) (by simp only [pgo, simprocAttr]) ?_; (first | rfl | simp only [pgo, simprocAttr]))
  (all_goals (unfold vp; (repeat' split) <;> first | rfl | (exfalso; omega)))
end Go.Proofs.YtjiolbcdfgclaaaGreatDoor
end
