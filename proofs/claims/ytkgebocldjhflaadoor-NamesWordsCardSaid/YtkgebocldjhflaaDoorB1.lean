/-
  Texts of this claim, merged: PgN1, PgN2, PgN3, PgN4, PgN5, PgN6, PgN7, PgN8. Each bears its own remark.
-/
import Derived.Test.YtkgebocldjhflaaDoorB0
import Derived.Test.YtkgebocldjhflaaDoorProg
import Derived.Laws.Externs
set_option linter.unusedVariables false
set_option linter.unusedSimpArgs false
set_option linter.unusedSectionVars false
section
/-
  Names: octets' classes; IsName, IsKey, plain, of the program and of the reference.
-/
namespace Go.Proofs.YtkgebocldjhflaaDoor
open Go Go.Pg
set_option maxRecDepth 10000
set_option linter.unusedSimpArgs false

theorem mix : Tryd.prog.follows .mixedOrders = true := by kernel_rfl
theorem is9 : isStr Tryd.prog 9 = true := by kernel_rfl
theorem it5 : intT Tryd.prog 5 = some .u8 := by kernel_rfl
theorem it3 : intT Tryd.prog 3 = some .i64 := by kernel_rfl
theorem un3 : (Tryd.prog.underlying 3).isSome = true := by kernel_rfl
theorem un5 : (Tryd.prog.underlying 5).isSome = true := by kernel_rfl
theorem ib4 : isBoolT Tryd.prog 4 = true := by kernel_rfl

theorem ixs (l : List Nat) (k : IntKind) (n : Int) (ho : oct l) (h0 : 0 ≤ n) (h : n < l.length) : ixV Tryd.prog 9 (.c (.string (sB l))) (.c (.int k n)) = some (.c (.int .u8 (l.getD n.toNat 0 : Nat))) := by
  unfold ixV
  simp only
  rw [if_pos ⟨is9, h0, by rw [sB_size]; exact h⟩, sB_get ho]
theorem i64w (n : Int) (h : -9223372036854775808 ≤ n ∧ n ≤ 9223372036854775807) : IntKind.i64.wrap n = n := IntWalk.i64_in n h
theorem unNot (b : Bool) : unV .not (.c (.bool b)) = some (.c (.bool (!b))) := rfl

/-- From 'a' to 'b'. -/
def bt (c a b : Nat) : Bool := decide (a ≤ c) && decide (c ≤ b)
theorem dle (a b : Nat) : decide ((a : Int) ≤ (b : Int)) = decide (a ≤ b) := by
  by_cases h : a ≤ b
  · rw [decide_eq_true h, decide_eq_true (by omega)]
  · rw [decide_eq_false h, decide_eq_false (by omega)]

theorem good40 (c a b : Nat) : Pg.Good Tryd.prog 40 [.c (.int .u8 (c : Int)), .c (.int .u8 (a : Int)), .c (.int .u8 (b : Int))] (.c (.bool (bt c a b))) := by
  refine good_intro (drawW_ok mix) Tryd.func40 rfl Tryd.results40 rfl (by kernel_rfl) (Nat.le_of_ble_eq_true (by kernel_rfl)) ?_
  have e1 := dle a c
  have e2 := dle c b
  unfold bt
  cases h : decide (a ≤ c) <;> rw [h] at e1
  all_goals
    simp only [Tryd.f40, pgs, pgl, pgx, Nat.reduceEqDiff, reduceIte, e1, e2]
    refine ret_at [] _ (retV_one _ _ _) .nil ?_ ?_
    · simp only [pgs, pgl, pgx, Nat.reduceEqDiff, reduceIte]
    · simp only [pgs, pgl, pgx, Nat.reduceEqDiff, reduceIte]
theorem good38 (c : Nat) : Pg.Good Tryd.prog 38 [.c (.int .u8 (c : Int))] (.c (.bool (bt c 97 122))) := by
  refine good_intro (drawW_ok mix) Tryd.func38 rfl Tryd.results38 rfl (by kernel_rfl) (Nat.le_of_ble_eq_true (by kernel_rfl)) ?_
  have e1 : decide ((97 : Int) ≤ (c : Int)) = decide (97 ≤ c) := dle 97 c
  have e2 : decide ((c : Int) ≤ 122) = decide (c ≤ 122) := dle c 122
  unfold bt
  cases h : decide (97 ≤ c) <;> rw [h] at e1
  all_goals
    simp only [Tryd.f38, pgs, pgl, pgx, Nat.reduceEqDiff, reduceIte, e1, e2]
    refine ret_at [] _ (retV_one _ _ _) .nil ?_ ?_
    · simp only [pgs, pgl, pgx, Nat.reduceEqDiff, reduceIte]
    · simp only [pgs, pgl, pgx, Nat.reduceEqDiff, reduceIte]
theorem good39 (c : Nat) : Pg.Good Tryd.prog 39 [.c (.int .u8 (c : Int))] (.c (.bool (bt c 48 57))) := by
  refine good_intro (drawW_ok mix) Tryd.func39 rfl Tryd.results39 rfl (by kernel_rfl) (Nat.le_of_ble_eq_true (by kernel_rfl)) ?_
  have e1 : decide ((48 : Int) ≤ (c : Int)) = decide (48 ≤ c) := dle 48 c
  have e2 : decide ((c : Int) ≤ 57) = decide (c ≤ 57) := dle c 57
  unfold bt
  cases h : decide (48 ≤ c) <;> rw [h] at e1
  all_goals
    simp only [Tryd.f39, pgs, pgl, pgx, Nat.reduceEqDiff, reduceIte, e1, e2]
    refine ret_at [] _ (retV_one _ _ _) .nil ?_ ?_
    · simp only [pgs, pgl, pgx, Nat.reduceEqDiff, reduceIte]
    · simp only [pgs, pgl, pgx, Nat.reduceEqDiff, reduceIte]
theorem good45 (c : Nat) : Pg.Good Tryd.prog 45 [.c (.int .u8 (c : Int))] (.c (.bool (bt c 65 90))) := by
  refine good_intro (drawW_ok mix) Tryd.func45 rfl Tryd.results45 rfl (by kernel_rfl) (Nat.le_of_ble_eq_true (by kernel_rfl)) ?_
  have e1 : decide ((65 : Int) ≤ (c : Int)) = decide (65 ≤ c) := dle 65 c
  have e2 : decide ((c : Int) ≤ 90) = decide (c ≤ 90) := dle c 90
  unfold bt
  cases h : decide (65 ≤ c) <;> rw [h] at e1
  all_goals
    simp only [Tryd.f45, pgs, pgl, pgx, Nat.reduceEqDiff, reduceIte, e1, e2]
    refine ret_at [] _ (retV_one _ _ _) .nil ?_ ?_
    · simp only [pgs, pgl, pgx, Nat.reduceEqDiff, reduceIte]
    · simp only [pgs, pgl, pgx, Nat.reduceEqDiff, reduceIte]

def isKey (l : List Nat) : Bool := decide (1 ≤ l.length) && decide (l.length ≤ 32)
theorem good15 (l : List Nat) : Pg.Good Tryd.prog 15 [.c (.string (sB l))] (.c (.bool (isKey l))) := by
  refine good_intro (drawW_ok mix) Tryd.func15 rfl Tryd.results15 rfl (by kernel_rfl) (Nat.le_of_ble_eq_true (by kernel_rfl)) ?_
  have e1 : decide ((1 : Int) ≤ (l.length : Int)) = decide (1 ≤ l.length) := dle 1 _
  have e2 : decide ((l.length : Int) ≤ 32) = decide (l.length ≤ 32) := dle _ 32
  unfold isKey
  cases h : decide (1 ≤ l.length) <;> rw [h] at e1
  all_goals
    simp only [Tryd.f15, pgs, pgl, pgx, Nat.reduceEqDiff, reduceIte, is9, sB_size, e1, e2]
    refine ret_at [] _ (retV_one _ _ _) .nil ?_ ?_
    · simp only [pgs, pgl, pgx, Nat.reduceEqDiff, reduceIte]
    · simp only [pgs, pgl, pgx, Nat.reduceEqDiff, reduceIte]
theorem good18 (l : List Nat) : Pg.Good Tryd.prog 18 [.c (.string (sB l))] (.c (.bool (isKey l))) := by
  refine good_intro (drawW_ok mix) Tryd.func18 rfl Tryd.results18 rfl (by kernel_rfl) (Nat.le_of_ble_eq_true (by kernel_rfl)) ?_
  have e1 : decide ((1 : Int) ≤ (l.length : Int)) = decide (1 ≤ l.length) := dle 1 _
  have e2 : decide ((l.length : Int) ≤ 32) = decide (l.length ≤ 32) := dle _ 32
  unfold isKey
  cases h : decide (1 ≤ l.length) <;> rw [h] at e1
  all_goals
    simp only [Tryd.f18, pgs, pgl, pgx, Nat.reduceEqDiff, reduceIte, is9, sB_size, e1, e2]
    refine ret_at [] _ (retV_one _ _ _) .nil ?_ ?_
    · simp only [pgs, pgl, pgx, Nat.reduceEqDiff, reduceIte]
    · simp only [pgs, pgl, pgx, Nat.reduceEqDiff, reduceIte]
end Go.Proofs.YtkgebocldjhflaaDoor
end

section
/-
  Names: IsName, of the program and of the reference, of any string.
-/
namespace Go.Proofs.YtkgebocldjhflaaDoor
open Go Go.Pg
set_option maxRecDepth 10000
set_option linter.unusedSimpArgs false

def nmC (c : Nat) : Bool := bt c 97 122 || bt c 48 57 || c == 45 || c == 46
def isName (l : List Nat) : Bool := decide (1 ≤ l.length) && decide (l.length ≤ 16) && bt (l.getD 0 0) 97 122 && l.all nmC
theorem neI (c k : Nat) : ((c : Int) != (k : Int)) = (c != k) := by
  rw [Bool.eq_iff_iff, bne_iff_ne, bne_iff_ne]
  omega
theorem all_next {p : Nat → Bool} {l : List Nat} {i : Nat} (h : i < l.length) (ha : (l.take i).all p = true) (hp : p (l.getD i 0) = true) : (l.take (i + 1)).all p = true := by
  rw [List.take_succ_eq_append_getElem h, List.all_append, ha]
  have : l.getD i 0 = l[i] := by simp [List.getD, h]
  rw [this] at hp
  simp [hp]
theorem all_not {p : Nat → Bool} {l : List Nat} {i : Nat} (h : i < l.length) (hp : p (l.getD i 0) = false) : l.all p = false := by
  have : l.getD i 0 = l[i] := by simp [List.getD, h]
  rw [this] at hp
  rw [← Bool.not_eq_true, List.all_eq_true]
  intro hx
  have := hx _ (List.getElem_mem h)
  rw [hp] at this
  cases this

theorem good16 (l : List Nat) (ho : oct l) : Pg.Good Tryd.prog 16 [.c (.string (sB l))] (.c (.bool (isName l))) := by
  refine good_intro (drawW_ok mix) Tryd.func16 rfl Tryd.results16 rfl (by kernel_rfl) (Nat.le_of_ble_eq_true (by kernel_rfl)) ?_
  unfold isName
  rcases Nat.lt_or_ge l.length 1 with h1 | h1
  · have e1 : decide ((l.length : Int) < 1) = true := decide_eq_true (by omega)
    rw [decide_eq_false (show ¬ 1 ≤ l.length by omega)]
    simp only [Tryd.f16, pgs, pgl, pgx, Nat.reduceEqDiff, reduceIte, is9, sB_size, e1]
    refine ret_at [] _ (retV_one _ _ _) .nil ?_ ?_
    · simp only [pgs, pgl, pgx, Nat.reduceEqDiff, reduceIte]
    · simp only [pgs, pgl, pgx, Nat.reduceEqDiff, reduceIte]
  have e1 : decide ((l.length : Int) < 1) = false := decide_eq_false (by omega)
  rw [decide_eq_true h1]
  rcases Nat.lt_or_ge 16 l.length with h2 | h2
  · have e2 : decide ((16 : Int) < (l.length : Int)) = true := decide_eq_true (by omega)
    rw [decide_eq_false (show ¬ l.length ≤ 16 by omega)]
    simp only [Tryd.f16, pgs, pgl, pgx, Nat.reduceEqDiff, reduceIte, is9, sB_size, e1, e2]
    refine ret_at [] _ (retV_one _ _ _) .nil ?_ ?_
    · simp only [pgs, pgl, pgx, Nat.reduceEqDiff, reduceIte]
    · simp only [pgs, pgl, pgx, Nat.reduceEqDiff, reduceIte]
  have e2 : decide ((16 : Int) < (l.length : Int)) = false := decide_eq_false (by omega)
  rw [decide_eq_true h2]
  simp (disch := first | assumption | omega) only [Tryd.f16, pgs, pgl, pgx, Nat.reduceEqDiff, reduceIte, is9, sB_size, e1, e2, ixs, Int.reduceToNat]
  have g0 := good38 (l.getD 0 0)
  cases h3 : bt (l.getD 0 0) 97 122 <;> rw [h3] at g0
  · refine callW_use _ g0 rfl rfl rfl rfl ?_
    simp only [pgs, pgl, pgx, Nat.reduceEqDiff, reduceIte, unNot]
    refine ret_at [] _ (retV_one _ _ _) .nil ?_ ?_
    · simp only [pgs, pgl, pgx, Nat.reduceEqDiff, reduceIte]
    · simp only [pgs, pgl, pgx, Nat.reduceEqDiff, reduceIte]
  refine callW_use _ g0 rfl rfl rfl rfl ?_
  simp only [pgs, pgl, pgx, Nat.reduceEqDiff, reduceIte, unNot, is9, sB_size]
  refine loop_at (fun i => mkS [.c (.string (sB l)), .top, .top, .top, .top, .top, .top, .top, .top, .top, .top, .top, .top, .top, .top, .top, .top, .top, .top, .top, .c (.int .i64 l.length), .c (.int .i64 (i : Nat))] 0) (fun i => i ≤ l.length ∧ (l.take i).all nmC = true) (fun i => l.length - i) 0 [] [] ?_ ⟨Nat.zero_le _, rfl⟩ ?_
  · refine keep_mk ?_ .nil (Nat.le_refl _)
    simp only [pgs, pgl, pgx, GenE_cons, GenE_nil, gen_top, gen_c, gen_fz, Nat.reduceEqDiff, reduceIte, Nat.reduceAdd]
    exact of_eq_true (gen_c _ _ _)
  · rintro i ⟨hi, hall⟩ s hs
    simp only [mkS_at, pgs, pgl, Nat.reduceAdd] at hs
    subst hs
    rcases Nat.lt_or_ge i l.length with hlt | hge
    · have e4 : decide ((i : Int) < (l.length : Int)) = true := decide_eq_true (by omega)
      simp (disch := first | assumption | omega) only [pgs, pgl, pgx, Nat.reduceEqDiff, reduceIte, Nat.reduceAdd, e4, ixs, Int.toNat_natCast]
      generalize hcd : l.getD i 0 = c
      have g1 := good38 c
      have g2 := good39 c
      have e5 : ((c : Int) != 45) = (c != 45) := neI c 45
      have e6 : ((c : Int) != 46) = (c != 46) := neI c 46
      cases b1 : bt c 97 122 <;> rw [b1] at g1
      · refine callW_use _ g1 rfl rfl rfl rfl ?_
        simp only [pgs, pgl, pgx, Nat.reduceEqDiff, reduceIte, unNot]
        cases b2 : bt c 48 57 <;> rw [b2] at g2
        · refine callW_use _ g2 rfl rfl rfl rfl ?_
          cases b3 : (c != 45) <;> rw [b3] at e5
          · have hn : nmC (l.getD i 0) = true := by
              rw [hcd]; unfold nmC; rw [bne_eq_false_iff_eq] at b3; subst b3; rfl
            simp (disch := omega) only [pgs, pgl, pgx, Nat.reduceEqDiff, reduceIte, unNot, e5, i64w, headC_normal]
            refine back_at (i + 1) [] [] ⟨by omega, all_next hlt hall hn⟩ (by omega) (keep_mk ?_ .nil (Nat.le_refl _))
            simp only [pgs, pgl, pgx, GenE_cons, GenE_nil, gen_top, gen_c, gen_fz, Nat.reduceEqDiff, reduceIte, Nat.reduceAdd, Int.natCast_add, Int.cast_ofNat_Int]
          · cases b4 : (c != 46) <;> rw [b4] at e6
            · have hn : nmC (l.getD i 0) = true := by
                rw [hcd]; unfold nmC; rw [bne_eq_false_iff_eq] at b4; subst b4; rfl
              simp (disch := omega) only [pgs, pgl, pgx, Nat.reduceEqDiff, reduceIte, unNot, e5, e6, i64w, headC_normal]
              refine back_at (i + 1) [] [] ⟨by omega, all_next hlt hall hn⟩ (by omega) (keep_mk ?_ .nil (Nat.le_refl _))
              simp only [pgs, pgl, pgx, GenE_cons, GenE_nil, gen_top, gen_c, gen_fz, Nat.reduceEqDiff, reduceIte, Nat.reduceAdd, Int.natCast_add, Int.cast_ofNat_Int]
            · have hn : nmC (l.getD i 0) = false := by
                rw [hcd]; unfold nmC
                rw [bne_iff_ne] at b3 b4
                simp [b1, b2, b3, b4]
              rw [all_not hlt hn]
              simp (disch := omega) only [pgs, pgl, pgx, Nat.reduceEqDiff, reduceIte, unNot, e5, e6, i64w, headC_ret]
              refine ret_at [] _ (retV_one _ _ _) .nil ?_ ?_
              · simp only [pgs, pgl, pgx, Nat.reduceEqDiff, reduceIte]
              · simp only [pgs, pgl, pgx, Nat.reduceEqDiff, reduceIte]
        · have hn : nmC (l.getD i 0) = true := by rw [hcd]; unfold nmC; simp [b2]
          refine callW_use _ g2 rfl rfl rfl rfl ?_
          simp (disch := omega) only [pgs, pgl, pgx, Nat.reduceEqDiff, reduceIte, unNot, i64w, headC_normal]
          refine back_at (i + 1) [] [] ⟨by omega, all_next hlt hall hn⟩ (by omega) (keep_mk ?_ .nil (Nat.le_refl _))
          simp only [pgs, pgl, pgx, GenE_cons, GenE_nil, gen_top, gen_c, gen_fz, Nat.reduceEqDiff, reduceIte, Nat.reduceAdd, Int.natCast_add, Int.cast_ofNat_Int]
      · have hn : nmC (l.getD i 0) = true := by rw [hcd]; unfold nmC; simp [b1]
        refine callW_use _ g1 rfl rfl rfl rfl ?_
        simp (disch := omega) only [pgs, pgl, pgx, Nat.reduceEqDiff, reduceIte, unNot, i64w, headC_normal]
        refine back_at (i + 1) [] [] ⟨by omega, all_next hlt hall hn⟩ (by omega) (keep_mk ?_ .nil (Nat.le_refl _))
        simp only [pgs, pgl, pgx, GenE_cons, GenE_nil, gen_top, gen_c, gen_fz, Nat.reduceEqDiff, reduceIte, Nat.reduceAdd, Int.natCast_add, Int.cast_ofNat_Int]
    · have hil : i = l.length := by omega
      subst hil
      rw [List.take_length] at hall
      rw [hall]
      have e4 : decide ((l.length : Int) < (l.length : Int)) = false := decide_eq_false (by omega)
      simp only [pgs, pgl, pgx, Nat.reduceEqDiff, reduceIte, Nat.reduceAdd, e4, headC_exit]
      refine ret_at [] _ (retV_one _ _ _) .nil ?_ ?_
      · simp only [pgs, pgl, pgx, Nat.reduceEqDiff, reduceIte]
      · simp only [pgs, pgl, pgx, Nat.reduceEqDiff, reduceIte]
end Go.Proofs.YtkgebocldjhflaaDoor
end

section
/-
  Names: the reference's IsName gives the same, of any string.
-/
namespace Go.Proofs.YtkgebocldjhflaaDoor
open Go Go.Pg
set_option maxRecDepth 10000
set_option linter.unusedSimpArgs false

theorem good17 (l : List Nat) (ho : oct l) : Pg.Good Tryd.prog 17 [.c (.string (sB l))] (.c (.bool (isName l))) := by
  refine good_intro (drawW_ok mix) Tryd.func17 rfl Tryd.results17 rfl (by kernel_rfl) (Nat.le_of_ble_eq_true (by kernel_rfl)) ?_
  unfold isName
  rcases Nat.lt_or_ge l.length 1 with h1 | h1
  · have e1 : decide ((l.length : Int) < 1) = true := decide_eq_true (by omega)
    rw [decide_eq_false (show ¬ 1 ≤ l.length by omega)]
    simp only [Tryd.f17, pgs, pgl, pgx, Nat.reduceEqDiff, reduceIte, is9, sB_size, e1]
    refine ret_at [] _ (retV_one _ _ _) .nil ?_ ?_
    · simp only [pgs, pgl, pgx, Nat.reduceEqDiff, reduceIte]
    · simp only [pgs, pgl, pgx, Nat.reduceEqDiff, reduceIte]
  have e1 : decide ((l.length : Int) < 1) = false := decide_eq_false (by omega)
  rw [decide_eq_true h1]
  rcases Nat.lt_or_ge 16 l.length with h2 | h2
  · have e2 : decide ((16 : Int) < (l.length : Int)) = true := decide_eq_true (by omega)
    rw [decide_eq_false (show ¬ l.length ≤ 16 by omega)]
    simp only [Tryd.f17, pgs, pgl, pgx, Nat.reduceEqDiff, reduceIte, is9, sB_size, e1, e2]
    refine ret_at [] _ (retV_one _ _ _) .nil ?_ ?_
    · simp only [pgs, pgl, pgx, Nat.reduceEqDiff, reduceIte]
    · simp only [pgs, pgl, pgx, Nat.reduceEqDiff, reduceIte]
  have e2 : decide ((16 : Int) < (l.length : Int)) = false := decide_eq_false (by omega)
  rw [decide_eq_true h2]
  simp (disch := first | assumption | omega) only [Tryd.f17, pgs, pgl, pgx, Nat.reduceEqDiff, reduceIte, is9, sB_size, e1, e2, ixs, Int.reduceToNat]
  have g0 := good40 (l.getD 0 0) 97 122
  cases h3 : bt (l.getD 0 0) 97 122 <;> rw [h3] at g0
  · refine callW_use _ g0 rfl rfl rfl rfl ?_
    simp only [pgs, pgl, pgx, Nat.reduceEqDiff, reduceIte, unNot]
    refine ret_at [] _ (retV_one _ _ _) .nil ?_ ?_
    · simp only [pgs, pgl, pgx, Nat.reduceEqDiff, reduceIte]
    · simp only [pgs, pgl, pgx, Nat.reduceEqDiff, reduceIte]
  refine callW_use _ g0 rfl rfl rfl rfl ?_
  simp only [pgs, pgl, pgx, Nat.reduceEqDiff, reduceIte, unNot, is9, sB_size]
  refine loop_at (fun i => mkS [.c (.string (sB l)), .top, .top, .c (.int .i64 (i : Nat))] 0) (fun i => i ≤ l.length ∧ (l.take i).all nmC = true) (fun i => l.length - i) 0 [] [] ?_ ⟨Nat.zero_le _, rfl⟩ ?_
  · refine keep_mk ?_ .nil (Nat.le_refl _)
    simp only [pgs, pgl, pgx, GenE_cons, GenE_nil, gen_top, gen_c, gen_fz, Nat.reduceEqDiff, reduceIte, Nat.reduceAdd]
    exact of_eq_true (gen_c _ _ _)
  · rintro i ⟨hi, hall⟩ s hs
    simp only [mkS_at, pgs, pgl, Nat.reduceAdd] at hs
    subst hs
    rcases Nat.lt_or_ge i l.length with hlt | hge
    · have e4 : decide ((i : Int) < (l.length : Int)) = true := decide_eq_true (by omega)
      simp (disch := first | assumption | omega) only [pgs, pgl, pgx, Nat.reduceEqDiff, reduceIte, Nat.reduceAdd, is9, sB_size, e4, ixs, Int.toNat_natCast]
      generalize hcd : l.getD i 0 = c
      have g1 := good40 c 97 122
      have g2 := good40 c 48 57
      have e5 : ((c : Int) != 45) = (c != 45) := neI c 45
      have e6 : ((c : Int) != 46) = (c != 46) := neI c 46
      cases b1 : bt c 97 122 <;> rw [b1] at g1
      · refine callW_use _ g1 rfl rfl rfl rfl ?_
        simp (disch := first | assumption | omega) only [pgs, pgl, pgx, Nat.reduceEqDiff, reduceIte, unNot, ixs, Int.toNat_natCast, hcd]
        cases b2 : bt c 48 57 <;> rw [b2] at g2
        · refine callW_use _ g2 rfl rfl rfl rfl ?_
          cases b3 : (c != 45) <;> rw [b3] at e5
          · have hn : nmC (l.getD i 0) = true := by
              rw [hcd]; unfold nmC; rw [bne_eq_false_iff_eq] at b3; subst b3; rfl
            simp (disch := first | assumption | omega) only [pgs, pgl, pgx, Nat.reduceEqDiff, reduceIte, unNot, ixs, Int.toNat_natCast, hcd, e5, i64w, headC_normal]
            refine back_at (i + 1) [] [] ⟨by omega, all_next hlt hall hn⟩ (by omega) (keep_mk ?_ .nil (Nat.le_refl _))
            simp only [pgs, pgl, pgx, GenE_cons, GenE_nil, gen_top, gen_c, gen_fz, Nat.reduceEqDiff, reduceIte, Nat.reduceAdd, Int.natCast_add, Int.cast_ofNat_Int]
          · cases b4 : (c != 46) <;> rw [b4] at e6
            · have hn : nmC (l.getD i 0) = true := by
                rw [hcd]; unfold nmC; rw [bne_eq_false_iff_eq] at b4; subst b4; rfl
              simp (disch := first | assumption | omega) only [pgs, pgl, pgx, Nat.reduceEqDiff, reduceIte, unNot, ixs, Int.toNat_natCast, hcd, e5, e6, i64w, headC_normal]
              refine back_at (i + 1) [] [] ⟨by omega, all_next hlt hall hn⟩ (by omega) (keep_mk ?_ .nil (Nat.le_refl _))
              simp only [pgs, pgl, pgx, GenE_cons, GenE_nil, gen_top, gen_c, gen_fz, Nat.reduceEqDiff, reduceIte, Nat.reduceAdd, Int.natCast_add, Int.cast_ofNat_Int]
            · have hn : nmC (l.getD i 0) = false := by
                rw [hcd]; unfold nmC
                rw [bne_iff_ne] at b3 b4
                simp [b1, b2, b3, b4]
              rw [all_not hlt hn]
              simp (disch := first | assumption | omega) only [pgs, pgl, pgx, Nat.reduceEqDiff, reduceIte, unNot, ixs, Int.toNat_natCast, hcd, e5, e6, i64w, headC_ret]
              refine ret_at [] _ (retV_one _ _ _) .nil ?_ ?_
              · simp only [pgs, pgl, pgx, Nat.reduceEqDiff, reduceIte]
              · simp only [pgs, pgl, pgx, Nat.reduceEqDiff, reduceIte]
        · have hn : nmC (l.getD i 0) = true := by rw [hcd]; unfold nmC; simp [b2]
          refine callW_use _ g2 rfl rfl rfl rfl ?_
          simp (disch := first | assumption | omega) only [pgs, pgl, pgx, Nat.reduceEqDiff, reduceIte, unNot, ixs, Int.toNat_natCast, hcd, i64w, headC_normal]
          refine back_at (i + 1) [] [] ⟨by omega, all_next hlt hall hn⟩ (by omega) (keep_mk ?_ .nil (Nat.le_refl _))
          simp only [pgs, pgl, pgx, GenE_cons, GenE_nil, gen_top, gen_c, gen_fz, Nat.reduceEqDiff, reduceIte, Nat.reduceAdd, Int.natCast_add, Int.cast_ofNat_Int]
      · have hn : nmC (l.getD i 0) = true := by rw [hcd]; unfold nmC; simp [b1]
        refine callW_use _ g1 rfl rfl rfl rfl ?_
        simp (disch := first | assumption | omega) only [pgs, pgl, pgx, Nat.reduceEqDiff, reduceIte, unNot, ixs, Int.toNat_natCast, hcd, i64w, headC_normal]
        refine back_at (i + 1) [] [] ⟨by omega, all_next hlt hall hn⟩ (by omega) (keep_mk ?_ .nil (Nat.le_refl _))
        simp only [pgs, pgl, pgx, GenE_cons, GenE_nil, gen_top, gen_c, gen_fz, Nat.reduceEqDiff, reduceIte, Nat.reduceAdd, Int.natCast_add, Int.cast_ofNat_Int]
    · have hil : i = l.length := by omega
      subst hil
      rw [List.take_length] at hall
      rw [hall]
      have e4 : decide ((l.length : Int) < (l.length : Int)) = false := decide_eq_false (by omega)
      simp only [pgs, pgl, pgx, Nat.reduceEqDiff, reduceIte, Nat.reduceAdd, is9, sB_size, e4, headC_exit]
      refine ret_at [] _ (retV_one _ _ _) .nil ?_ ?_
      · simp only [pgs, pgl, pgx, Nat.reduceEqDiff, reduceIte]
      · simp only [pgs, pgl, pgx, Nat.reduceEqDiff, reduceIte]
end Go.Proofs.YtkgebocldjhflaaDoor
end

section
/-
  Names: ValidateItem, of the program and of the reference, of any item.
-/
namespace Go.Proofs.YtkgebocldjhflaaDoor
open Go Go.Pg
set_option maxRecDepth 10000
set_option linter.unusedSimpArgs false

theorem boxA (e : Nat → V) (b : Nat → Option (TypeId × List V)) (n : Nat) (h : Nat → V) (t : TypeId) (cs : List V) : boxV ⟨e, b, n, h⟩ t (.agg cs) = some (.ref n 0, ⟨e, upd b n (some (t, cs)), n + 1, h⟩) := rfl
theorem ft0 : fieldT Tryd.prog 31 0 = some (9, 0) := by kernel_rfl
theorem ft1 : fieldT Tryd.prog 31 1 = some (3, 1) := by kernel_rfl
theorem ts9 : tsz Tryd.prog 9 = some 1 := by kernel_rfl
theorem ts3 : tsz Tryd.prog 3 = some 1 := by kernel_rfl
theorem ag9 : isAggT Tryd.prog 9 = some false := by kernel_rfl
theorem ag3 : isAggT Tryd.prog 3 = some false := by kernel_rfl
theorem fa0 (b off : Nat) : faV Tryd.prog 31 (.ref b off) 0 = some (.ref b (off + 0)) := by simp [faV, ft0, ts9]
theorem fa1 (b off : Nat) : faV Tryd.prog 31 (.ref b off) 1 = some (.ref b (off + 1)) := by simp [faV, ft1, ts3]
theorem ld9 (x y : V) : ldCells Tryd.prog 9 [x, y] 0 = some x := by simp [ldCells, ag9]
theorem ld3 (x y : V) : ldCells Tryd.prog 3 [x, y] 1 = some y := by simp [ldCells, ag3]
theorem ldB (P : Program) (e : Nat → V) (b : Nat → Option (TypeId × List V)) (n : Nat) (h : Nat → V) (t : TypeId) (k off : Nat) : loadB P ⟨e, b, n, h⟩ t k off = (b k).bind fun x => ldCells P t x.2 off := rfl

def valid (l : List Nat) (n : Int) : Int := if isKey l = false then 7 else if n < 1 ∨ 4294967295 < n then 5 else 0

theorem good19 (l : List Nat) (n : Int) : Pg.Good Tryd.prog 19 [.agg [.c (.string (sB l)), .c (.int .i64 n)]] (.c (.int .i64 (valid l n))) := by
  refine good_intro (drawW_ok mix) Tryd.func19 rfl Tryd.results19 rfl (by kernel_rfl) (Nat.le_of_ble_eq_true (by kernel_rfl)) ?_
  unfold valid
  have g0 := good15 l
  simp only [Tryd.f19, pgs, pgl, pgx, Nat.reduceEqDiff, reduceIte, boxA, fa0, fa1, ldB, ld9, ld3, Nat.reduceAdd]
  cases h0 : isKey l <;> rw [h0] at g0
  · refine callW_use _ g0 rfl rfl rfl rfl ?_
    simp only [pgs, pgl, pgx, Nat.reduceEqDiff, reduceIte, unNot]
    refine ret_at [] _ (retV_one _ _ _) .nil ?_ ?_
    · simp only [pgs, pgl, pgx, Nat.reduceEqDiff, reduceIte]
    · simp only [pgs, pgl, pgx, Nat.reduceEqDiff, reduceIte]
  refine callW_use _ g0 rfl rfl rfl rfl ?_
  have hc : (decide (n < 1) = true ∧ True ∧ (n < 1 ∨ 4294967295 < n)) ∨ (decide (n < 1) = false ∧ decide (4294967295 < n) = true ∧ (n < 1 ∨ 4294967295 < n)) ∨ (decide (n < 1) = false ∧ decide (4294967295 < n) = false ∧ ¬ (n < 1 ∨ 4294967295 < n)) := by
    rcases Int.lt_or_le n 1 with h | h
    · exact .inl ⟨decide_eq_true h, trivial, .inl h⟩
    · rcases Int.lt_or_le 4294967295 n with h' | h'
      · exact .inr (.inl ⟨decide_eq_false (by omega), decide_eq_true h', .inr h'⟩)
      · exact .inr (.inr ⟨decide_eq_false (by omega), decide_eq_false (by omega), by omega⟩)
  rw [if_neg (by simp)]
  rcases hc with ⟨e1, e2, e3⟩ | ⟨e1, e2, e3⟩ | ⟨e1, e2, e3⟩
  · rw [if_pos e3]
    simp only [pgs, pgl, pgx, Nat.reduceEqDiff, reduceIte, unNot, fa0, fa1, ldB, ld9, ld3, Nat.reduceAdd, e1, e2]
    refine ret_at [] _ (retV_one _ _ _) .nil ?_ ?_
    · simp only [pgs, pgl, pgx, Nat.reduceEqDiff, reduceIte]
    · simp only [pgs, pgl, pgx, Nat.reduceEqDiff, reduceIte]
  · rw [if_pos e3]
    simp only [pgs, pgl, pgx, Nat.reduceEqDiff, reduceIte, unNot, fa0, fa1, ldB, ld9, ld3, Nat.reduceAdd, e1, e2]
    refine ret_at [] _ (retV_one _ _ _) .nil ?_ ?_
    · simp only [pgs, pgl, pgx, Nat.reduceEqDiff, reduceIte]
    · simp only [pgs, pgl, pgx, Nat.reduceEqDiff, reduceIte]
  · rw [if_neg e3]
    simp only [pgs, pgl, pgx, Nat.reduceEqDiff, reduceIte, unNot, fa0, fa1, ldB, ld9, ld3, Nat.reduceAdd, e1, e2]
    refine ret_at [] _ (retV_one _ _ _) .nil ?_ ?_
    · simp only [pgs, pgl, pgx, Nat.reduceEqDiff, reduceIte]
    · simp only [pgs, pgl, pgx, Nat.reduceEqDiff, reduceIte]
theorem good20 (l : List Nat) (n : Int) : Pg.Good Tryd.prog 20 [.agg [.c (.string (sB l)), .c (.int .i64 n)]] (.c (.int .i64 (valid l n))) := by
  refine good_intro (drawW_ok mix) Tryd.func20 rfl Tryd.results20 rfl (by kernel_rfl) (Nat.le_of_ble_eq_true (by kernel_rfl)) ?_
  unfold valid
  have g0 := good18 l
  simp only [Tryd.f20, pgs, pgl, pgx, Nat.reduceEqDiff, reduceIte, boxA, fa0, fa1, ldB, ld9, ld3, Nat.reduceAdd]
  cases h0 : isKey l <;> rw [h0] at g0
  · refine callW_use _ g0 rfl rfl rfl rfl ?_
    simp only [pgs, pgl, pgx, Nat.reduceEqDiff, reduceIte, unNot]
    refine ret_at [] _ (retV_one _ _ _) .nil ?_ ?_
    · simp only [pgs, pgl, pgx, Nat.reduceEqDiff, reduceIte]
    · simp only [pgs, pgl, pgx, Nat.reduceEqDiff, reduceIte]
  refine callW_use _ g0 rfl rfl rfl rfl ?_
  have hc : (decide (n < 1) = true ∧ True ∧ (n < 1 ∨ 4294967295 < n)) ∨ (decide (n < 1) = false ∧ decide (4294967295 < n) = true ∧ (n < 1 ∨ 4294967295 < n)) ∨ (decide (n < 1) = false ∧ decide (4294967295 < n) = false ∧ ¬ (n < 1 ∨ 4294967295 < n)) := by
    rcases Int.lt_or_le n 1 with h | h
    · exact .inl ⟨decide_eq_true h, trivial, .inl h⟩
    · rcases Int.lt_or_le 4294967295 n with h' | h'
      · exact .inr (.inl ⟨decide_eq_false (by omega), decide_eq_true h', .inr h'⟩)
      · exact .inr (.inr ⟨decide_eq_false (by omega), decide_eq_false (by omega), by omega⟩)
  rw [if_neg (by simp)]
  rcases hc with ⟨e1, e2, e3⟩ | ⟨e1, e2, e3⟩ | ⟨e1, e2, e3⟩
  · rw [if_pos e3]
    simp only [pgs, pgl, pgx, Nat.reduceEqDiff, reduceIte, unNot, fa0, fa1, ldB, ld9, ld3, Nat.reduceAdd, e1, e2]
    refine ret_at [] _ (retV_one _ _ _) .nil ?_ ?_
    · simp only [pgs, pgl, pgx, Nat.reduceEqDiff, reduceIte]
    · simp only [pgs, pgl, pgx, Nat.reduceEqDiff, reduceIte]
  · rw [if_pos e3]
    simp only [pgs, pgl, pgx, Nat.reduceEqDiff, reduceIte, unNot, fa0, fa1, ldB, ld9, ld3, Nat.reduceAdd, e1, e2]
    refine ret_at [] _ (retV_one _ _ _) .nil ?_ ?_
    · simp only [pgs, pgl, pgx, Nat.reduceEqDiff, reduceIte]
    · simp only [pgs, pgl, pgx, Nat.reduceEqDiff, reduceIte]
  · rw [if_neg e3]
    simp only [pgs, pgl, pgx, Nat.reduceEqDiff, reduceIte, unNot, fa0, fa1, ldB, ld9, ld3, Nat.reduceAdd, e1, e2]
    refine ret_at [] _ (retV_one _ _ _) .nil ?_ ?_
    · simp only [pgs, pgl, pgx, Nat.reduceEqDiff, reduceIte]
    · simp only [pgs, pgl, pgx, Nat.reduceEqDiff, reduceIte]
end Go.Proofs.YtkgebocldjhflaaDoor
end

section
/-
  Names: strings.IndexByte; the first place of an octet in a string.
-/
namespace Go.Proofs.YtkgebocldjhflaaDoor
open Go Go.Pg
set_option maxRecDepth 10000
set_option linter.unusedSimpArgs false

/-- The first place of 'c', or -1. -/
def ixB (l : List Nat) (c : Nat) : Int :=
  match (List.range l.length).find? fun i => l.getD i 0 == c with
  | some i => i
  | none => -1
theorem find_congr {p q : Nat → Bool} : ∀ (xs : List Nat), (∀ i ∈ xs, p i = q i) → xs.find? p = xs.find? q := by
  intro xs
  induction xs with
  | nil => intro _; rfl
  | cons x xs ih =>
    intro h
    rw [List.find?_cons, List.find?_cons, h x (by simp), ih (fun i hi => h i (by simp [hi]))]
theorem firstIdx_sB {l : List Nat} (ho : oct l) {c : Nat} (hc : c < 256) : firstIdx (sB l) ((c : Int).toNat.toUInt8) = ixB l c := by
  unfold firstIdx ixB
  rw [sB_size]
  rw [find_congr (q := fun i => l.getD i 0 == c) (List.range l.length) ?_]
  · cases (List.range l.length).find? fun i => l.getD i 0 == c <;> rfl
  · intro i hi
    have hi := List.mem_range.1 hi
    have hg : (sB l)[i]! = (sB l)[i]'(by rw [sB_size]; exact hi) := getElem!_pos (sB l) i _
    have e : (sB l)[i]! = UInt8.ofNat (l.getD i 0) := by
      rw [hg]
      show (sB l).data[i]'_ = _
      simp [sB, List.getD, hi]
    rw [e]
    have hb := getD_lt ho i
    rw [Bool.eq_iff_iff, beq_iff_eq, beq_iff_eq]
    constructor
    · intro h
      have := congrArg UInt8.toNat h
      simp only [UInt8.toNat_ofNat', Int.toNat_natCast, Nat.toUInt8] at this
      omega
    · intro h
      rw [h]
      rfl
theorem good56 (l : List Nat) (c : Nat) (ho : oct l) (hc : c < 256) : GoodX Tryd.prog 56 [.c (.string (sB l)), .c (.int .u8 (c : Int))] (.c (.int .i64 (ixB l c))) := by
  rintro L w cargs ⟨_, _, rfl, rfl, _, _, rfl, rfl, rfl⟩
  refine ⟨_, ?_, rfl⟩
  rw [run_callFunc_extern Tryd.func56 (by kernel_rfl) (by kernel_rfl) (by kernel_rfl) (e := Extern.BytealgIndexByte.indexByte) (by kernel_rfl)]
  show ((Extern.BytealgIndexByte.indexByte #[.string (sB l), .int .u8 (c : Int)]).run Tryd.prog w).andThen _ = _
  rw [run_indexByte_string, firstIdx_sB ho hc]
  rfl
theorem callZ {P : Program} [Tb P] {g : FuncId} {args : List Operand} {d : Option Nat} {s s' : St} {K : Kd → St → Prop} {vs : List V} (r : V) (hg : GoodZ P g vs s s' r) (hvs : args.map s.ev = vs) (hK : K .z (s'.put d r)) : callW P (.fn g [] []) args d s K := by
  refine .inr ⟨s', r, ?_, hK⟩
  simpa [hvs] using hg
theorem good48 (l : List Nat) (c : Nat) (ho : oct l) (hc : c < 256) : Pg.Good Tryd.prog 48 [.c (.string (sB l)), .c (.int .u8 (c : Int))] (.c (.int .i64 (ixB l c))) := by
  refine good_intro (drawW_ok mix) Tryd.func48 rfl Tryd.results48 rfl (by kernel_rfl) (Nat.le_of_ble_eq_true (by kernel_rfl)) ?_
  simp only [Tryd.f48, pgs, pgl, pgx, Nat.reduceEqDiff, reduceIte]
  refine callZ _ ((good56 l c ho hc).z _) rfl ?_
  simp only [pgs, pgl, pgx, Nat.reduceEqDiff, reduceIte]
  refine ret_at [] _ (retV_one _ _ _) .nil ?_ ?_
  · simp only [pgs, pgl, pgx, Nat.reduceEqDiff, reduceIte]
  · simp only [pgs, pgl, pgx, Nat.reduceEqDiff, reduceIte]
theorem good36 (l : List Nat) (c : Nat) (ho : oct l) (hc : c < 256) : Pg.Good Tryd.prog 36 [.c (.string (sB l)), .c (.int .u8 (c : Int))] (.c (.int .i64 (ixB l c))) := by
  refine good_intro (drawW_ok mix) Tryd.func36 rfl Tryd.results36 rfl (by kernel_rfl) (Nat.le_of_ble_eq_true (by kernel_rfl)) ?_
  simp only [Tryd.f36, pgs, pgl, pgx, Nat.reduceEqDiff, reduceIte]
  refine callW_use _ (good48 l c ho hc) rfl rfl rfl rfl ?_
  simp only [pgs, pgl, pgx, Nat.reduceEqDiff, reduceIte]
  refine ret_at [] _ (retV_one _ _ _) .nil ?_ ?_
  · simp only [pgs, pgl, pgx, Nat.reduceEqDiff, reduceIte]
  · simp only [pgs, pgl, pgx, Nat.reduceEqDiff, reduceIte]
end Go.Proofs.YtkgebocldjhflaaDoor
end

section
/-
  Names: strings.CutPrefix and strings.HasPrefix; plain, of the program and of the reference.
-/
namespace Go.Proofs.YtkgebocldjhflaaDoor
open Go Go.Pg
set_option maxRecDepth 10000
set_option linter.unusedSimpArgs false

theorem sls (l : List Nat) (k1 k2 : IntKind) (lo hi : Int) (h0 : 0 ≤ lo) (h1 : lo ≤ hi) (h2 : hi ≤ l.length) : slV Tryd.prog 9 (.c (.string (sB l))) (some (.c (.int k1 lo))) (some (.c (.int k2 hi))) = some (.c (.string (sB ((l.take hi.toNat).drop lo.toNat)))) := by
  rw [slV_str]
  simp only [bdV_int, Option.bind_some, sB_size]
  rw [if_pos ⟨is9, h0, h1, h2⟩, sB_ext]
theorem slsa (l : List Nat) (k1 : IntKind) (lo : Int) (h0 : 0 ≤ lo) (h2 : lo ≤ l.length) : slV Tryd.prog 9 (.c (.string (sB l))) (some (.c (.int k1 lo))) none = some (.c (.string (sB (l.drop lo.toNat)))) := by
  rw [slV_str]
  simp only [bdV_int, bdV_none, Option.bind_some, sB_size]
  rw [if_pos ⟨is9, h0, h2, Int.le_refl _⟩, sB_ext, Int.toNat_natCast, List.take_length]
theorem slsb (l : List Nat) (k2 : IntKind) (hi : Int) (h0 : 0 ≤ hi) (h2 : hi ≤ l.length) : slV Tryd.prog 9 (.c (.string (sB l))) none (some (.c (.int k2 hi))) = some (.c (.string (sB (l.take hi.toNat)))) := by
  rw [slV_str]
  simp only [bdV_int, bdV_none, Option.bind_some, sB_size]
  rw [if_pos ⟨is9, by simp, h0, h2⟩, sB_ext]
  simp

def hasP (l p : List Nat) : Bool := decide (p.length ≤ l.length) && decide (l.take p.length = p)
theorem good55 (l p : List Nat) (ho : oct l) (hp : oct p) : Pg.Good Tryd.prog 55 [.c (.string (sB l)), .c (.string (sB p))] (.c (.bool (hasP l p))) := by
  refine good_intro (drawW_ok mix) Tryd.func55 rfl Tryd.results55 rfl (by kernel_rfl) (Nat.le_of_ble_eq_true (by kernel_rfl)) ?_
  unfold hasP
  rcases Nat.lt_or_ge l.length p.length with h | h
  · have e1 : decide ((p.length : Int) ≤ (l.length : Int)) = false := decide_eq_false (by omega)
    rw [decide_eq_false (show ¬ p.length ≤ l.length by omega)]
    simp only [Tryd.f55, pgs, pgl, pgx, Nat.reduceEqDiff, reduceIte, is9, sB_size, e1]
    refine ret_at [] _ (retV_one _ _ _) .nil ?_ ?_
    · simp only [pgs, pgl, pgx, Nat.reduceEqDiff, reduceIte]
    · simp only [pgs, pgl, pgx, Nat.reduceEqDiff, reduceIte]
  · have e1 : decide ((p.length : Int) ≤ (l.length : Int)) = true := decide_eq_true (by omega)
    rw [decide_eq_true h]
    simp (disch := omega) only [Tryd.f55, pgs, pgl, pgx, Nat.reduceEqDiff, reduceIte, is9, sB_size, e1, slsb, Int.toNat_natCast, sB_dec (oct_take ho _) hp]
    refine ret_at [] _ (retV_one _ _ _) .nil ?_ ?_
    · simp only [pgs, pgl, pgx, Nat.reduceEqDiff, reduceIte]
    · simp only [pgs, pgl, pgx, Nat.reduceEqDiff, reduceIte]
def cutP (l p : List Nat) : V := if hasP l p = true then .tup [.c (.string (sB (l.drop p.length))), .c (.bool true)] else .tup [.c (.string (sB l)), .c (.bool false)]
theorem good47 (l p : List Nat) (ho : oct l) (hp : oct p) : Pg.Good Tryd.prog 47 [.c (.string (sB l)), .c (.string (sB p))] (cutP l p) := by
  refine good_intro (drawW_ok mix) Tryd.func47 rfl Tryd.results47 rfl (by kernel_rfl) (Nat.le_of_ble_eq_true (by kernel_rfl)) ?_
  have g := good55 l p ho hp
  unfold cutP
  simp only [Tryd.f47, pgs, pgl, pgx, Nat.reduceEqDiff, reduceIte]
  cases h : hasP l p <;> rw [h] at g
  · refine callW_use _ g rfl rfl rfl rfl ?_
    simp only [pgs, pgl, pgx, Nat.reduceEqDiff, reduceIte, unNot]
    refine ret_at [] _ (retV_two _ _ _ _) .nil ?_ ?_
    · simp only [pgs, pgl, pgx, Nat.reduceEqDiff, reduceIte]
    · simp only [pgs, pgl, pgx, Nat.reduceEqDiff, reduceIte]
  · have hl : p.length ≤ l.length := by
      unfold hasP at h
      simp only [Bool.and_eq_true, decide_eq_true_eq] at h
      exact h.1
    refine callW_use _ g rfl rfl rfl rfl ?_
    simp (disch := omega) only [pgs, pgl, pgx, Nat.reduceEqDiff, reduceIte, unNot, is9, sB_size, slsa, Int.toNat_natCast]
    refine ret_at [] _ (retV_two _ _ _ _) .nil ?_ ?_
    · simp only [pgs, pgl, pgx, Nat.reduceEqDiff, reduceIte]
    · simp only [pgs, pgl, pgx, Nat.reduceEqDiff, reduceIte]
theorem cutP_cases (l p : List Nat) : (hasP l p = true ∧ cutP l p = .tup [.c (.string (sB (l.drop p.length))), .c (.bool true)]) ∨ (hasP l p = false ∧ cutP l p = .tup [.c (.string (sB l)), .c (.bool false)]) := by
  unfold cutP
  cases h : hasP l p <;> simp
theorem good35 (l p : List Nat) (ho : oct l) (hp : oct p) : Pg.Good Tryd.prog 35 [.c (.string (sB l)), .c (.string (sB p))] (cutP l p) := by
  refine good_intro (drawW_ok mix) Tryd.func35 rfl Tryd.results35 rfl (by kernel_rfl) (Nat.le_of_ble_eq_true (by kernel_rfl)) ?_
  have g := good47 l p ho hp
  simp only [Tryd.f35, pgs, pgl, pgx, Nat.reduceEqDiff, reduceIte]
  rcases cutP_cases l p with ⟨_, h⟩ | ⟨_, h⟩ <;> rw [h] at g ⊢
  all_goals
    refine callW_use _ g rfl rfl rfl rfl ?_
    simp only [pgs, pgl, pgx, Nat.reduceEqDiff, reduceIte]
    refine ret_at [] _ (retV_two _ _ _ _) .nil ?_ ?_
    · simp only [pgs, pgl, pgx, Nat.reduceEqDiff, reduceIte]
    · simp only [pgs, pgl, pgx, Nat.reduceEqDiff, reduceIte]
end Go.Proofs.YtkgebocldjhflaaDoor
end

section
/-
  Names: plain, of the program and of the reference, of any string.
-/
namespace Go.Proofs.YtkgebocldjhflaaDoor
open Go Go.Pg
set_option maxRecDepth 10000
set_option linter.unusedSimpArgs false

def mk5 (c : Nat) : Bool := c != 95 && (c != 45 && (c != 46 && (c != 58 && c != 47)))
def plC (c : Nat) : Bool := bt c 97 122 || bt c 65 90 || bt c 48 57 || !mk5 c
def plain (l : List Nat) : Bool := l.all plC
theorem ix5 (c : Nat) : decide (ixB [95, 45, 46, 58, 47] c < 0) = mk5 c := by
  unfold ixB mk5
  rw [show List.range [95, 45, 46, 58, 47].length = [0, 1, 2, 3, 4] from rfl]
  by_cases h1 : c = 95
  · subst h1; rfl
  by_cases h2 : c = 45
  · subst h2; rfl
  by_cases h3 : c = 46
  · subst h3; rfl
  by_cases h4 : c = 58
  · subst h4; rfl
  by_cases h5 : c = 47
  · subst h5; rfl
  simp [List.getD, h1, h2, h3, h4, h5, Ne.symm h1, Ne.symm h2, Ne.symm h3, Ne.symm h4, Ne.symm h5]
theorem oct5 : oct [95, 45, 46, 58, 47] := by intro b hb; simp at hb; omega

theorem good30 (l : List Nat) (ho : oct l) (hl : l.length ≤ 4294967296) : Pg.Good Tryd.prog 30 [.c (.string (sB l))] (.c (.bool (plain l))) := by
  refine good_intro (drawW_ok mix) Tryd.func30 rfl Tryd.results30 rfl (by kernel_rfl) (Nat.le_of_ble_eq_true (by kernel_rfl)) ?_
  unfold plain
  simp only [Tryd.f30, pgs, pgl, pgx, Nat.reduceEqDiff, reduceIte, is9, sB_size]
  refine loop_at (fun i => mkS [.c (.string (sB l)), .top, .top, .top, .top, .top, .c (.int .i64 l.length), .c (.int .i64 (i : Nat))] 0) (fun i => i ≤ l.length ∧ (l.take i).all plC = true) (fun i => l.length - i) 0 [] [] ?_ ⟨Nat.zero_le _, rfl⟩ ?_
  · refine keep_mk ?_ .nil (Nat.le_refl _)
    simp only [pgs, pgl, pgx, GenE_cons, GenE_nil, gen_top, gen_c, gen_fz, Nat.reduceEqDiff, reduceIte, Nat.reduceAdd]
    exact of_eq_true (gen_c _ _ _)
  · rintro i ⟨hi, hall⟩ s hs
    simp only [mkS_at, pgs, pgl, Nat.reduceAdd] at hs
    subst hs
    rcases Nat.lt_or_ge i l.length with hlt | hge
    · have e4 : decide ((i : Int) < (l.length : Int)) = true := decide_eq_true (by omega)
      simp (disch := first | assumption | omega) only [pgs, pgl, pgx, Nat.reduceEqDiff, reduceIte, Nat.reduceAdd, e4, ixs, Int.toNat_natCast]
      have hcb := getD_lt ho i
      generalize hcd : l.getD i 0 = c at hcb
      have g1 := good38 c
      have g2 := good45 c
      have g3 := good39 c
      have g4 := good36 [95, 45, 46, 58, 47] c oct5 hcb
      have e5 := ix5 c
      have go : plC (l.getD i 0) = true → ∀ x : Nat → V, x 0 = .c (.string (sB l)) → x 6 = .c (.int .i64 l.length) → x 7 = .c (.int .i64 ((i : Int) + 1)) → ∀ n h, backC (fun i => mkS [.c (.string (sB l)), .top, .top, .top, .top, .top, .c (.int .i64 l.length), .c (.int .i64 (i : Nat))] 0) (fun i => i ≤ l.length ∧ (l.take i).all plC = true) (fun i => l.length - i) i ⟨x, fun _ => none, n, h⟩ := by
        intro hn x h0 h6 h7 n h
        refine back_at (i + 1) [] [] ⟨by omega, all_next hlt hall hn⟩ (by omega) (keep_mk ?_ .nil (Nat.zero_le _))
        simp only [pgs, pgl, pgx, GenE_cons, GenE_nil, gen_top, Nat.reduceAdd, h0, h6, h7, gen_c, Int.natCast_add, Int.cast_ofNat_Int]
      cases b1 : bt c 97 122 <;> rw [b1] at g1
      · refine callW_use _ g1 rfl rfl rfl rfl ?_
        simp only [pgs, pgl, pgx, Nat.reduceEqDiff, reduceIte, unNot]
        cases b2 : bt c 65 90 <;> rw [b2] at g2
        · refine callW_use _ g2 rfl rfl rfl rfl ?_
          simp only [pgs, pgl, pgx, Nat.reduceEqDiff, reduceIte, unNot]
          cases b3 : bt c 48 57 <;> rw [b3] at g3
          · refine callW_use _ g3 rfl rfl rfl rfl ?_
            simp only [pgs, pgl, pgx, Nat.reduceEqDiff, reduceIte, unNot]
            refine callW_use _ g4 rfl rfl rfl rfl ?_
            cases b4 : mk5 c <;> rw [b4] at e5
            · simp (disch := omega) only [pgs, pgl, pgx, Nat.reduceEqDiff, reduceIte, unNot, e5, i64w, headC_normal]
              exact go (by rw [hcd]; unfold plC; rw [b4]; simp) _ rfl rfl rfl _ _
            · have hn : plC (l.getD i 0) = false := by rw [hcd]; unfold plC; simp [b1, b2, b3, b4]
              rw [all_not hlt hn]
              simp (disch := omega) only [pgs, pgl, pgx, Nat.reduceEqDiff, reduceIte, unNot, e5, i64w, headC_ret]
              refine ret_at [] _ (retV_one _ _ _) .nil ?_ ?_
              · simp only [pgs, pgl, pgx, Nat.reduceEqDiff, reduceIte]
              · simp only [pgs, pgl, pgx, Nat.reduceEqDiff, reduceIte]
          · refine callW_use _ g3 rfl rfl rfl rfl ?_
            simp (disch := omega) only [pgs, pgl, pgx, Nat.reduceEqDiff, reduceIte, unNot, i64w, headC_normal]
            exact go (by rw [hcd]; unfold plC; rw [b3]; simp) _ rfl rfl rfl _ _
        · refine callW_use _ g2 rfl rfl rfl rfl ?_
          simp (disch := omega) only [pgs, pgl, pgx, Nat.reduceEqDiff, reduceIte, unNot, i64w, headC_normal]
          exact go (by rw [hcd]; unfold plC; rw [b2]; simp) _ rfl rfl rfl _ _
      · refine callW_use _ g1 rfl rfl rfl rfl ?_
        simp (disch := omega) only [pgs, pgl, pgx, Nat.reduceEqDiff, reduceIte, unNot, i64w, headC_normal]
        exact go (by rw [hcd]; unfold plC; rw [b1]; simp) _ rfl rfl rfl _ _
    · have hil : i = l.length := by omega
      subst hil
      rw [List.take_length] at hall
      rw [hall]
      have e4 : decide ((l.length : Int) < (l.length : Int)) = false := decide_eq_false (by omega)
      simp only [pgs, pgl, pgx, Nat.reduceEqDiff, reduceIte, Nat.reduceAdd, e4, headC_exit]
      refine ret_at [] _ (retV_one _ _ _) .nil ?_ ?_
      · simp only [pgs, pgl, pgx, Nat.reduceEqDiff, reduceIte]
      · simp only [pgs, pgl, pgx, Nat.reduceEqDiff, reduceIte]
end Go.Proofs.YtkgebocldjhflaaDoor
end

section
/-
  Names: the reference's plain gives the same, of any string.
-/
namespace Go.Proofs.YtkgebocldjhflaaDoor
open Go Go.Pg
set_option maxRecDepth 10000
set_option linter.unusedSimpArgs false

theorem good33 (l : List Nat) (ho : oct l) (hl : l.length ≤ 4294967296) : Pg.Good Tryd.prog 33 [.c (.string (sB l))] (.c (.bool (plain l))) := by
  refine good_intro (drawW_ok mix) Tryd.func33 rfl Tryd.results33 rfl (by kernel_rfl) (Nat.le_of_ble_eq_true (by kernel_rfl)) ?_
  unfold plain
  simp only [Tryd.f33, pgs, pgl, pgx, Nat.reduceEqDiff, reduceIte, is9, sB_size]
  refine loop_at (fun i => mkS [.c (.string (sB l)), .top, .top, .c (.int .i64 (i : Nat))] 0) (fun i => i ≤ l.length ∧ (l.take i).all plC = true) (fun i => l.length - i) 0 [] [] ?_ ⟨Nat.zero_le _, rfl⟩ ?_
  · refine keep_mk ?_ .nil (Nat.le_refl _)
    simp only [pgs, pgl, pgx, GenE_cons, GenE_nil, gen_top, gen_c, gen_fz, Nat.reduceEqDiff, reduceIte, Nat.reduceAdd]
    exact of_eq_true (gen_c _ _ _)
  · rintro i ⟨hi, hall⟩ s hs
    simp only [mkS_at, pgs, pgl, Nat.reduceAdd] at hs
    subst hs
    rcases Nat.lt_or_ge i l.length with hlt | hge
    · have e4 : decide ((i : Int) < (l.length : Int)) = true := decide_eq_true (by omega)
      simp (disch := first | assumption | omega) only [pgs, pgl, pgx, Nat.reduceEqDiff, reduceIte, Nat.reduceAdd, is9, sB_size, e4, ixs, Int.toNat_natCast]
      have hcb := getD_lt ho i
      generalize hcd : l.getD i 0 = c at hcb
      have g1 := good40 c 97 122
      have g2 := good40 c 65 90
      have g3 := good40 c 48 57
      have f1 : ((c : Int) != 95) = (c != 95) := neI c 95
      have f2 : ((c : Int) != 45) = (c != 45) := neI c 45
      have f3 : ((c : Int) != 46) = (c != 46) := neI c 46
      have f4 : ((c : Int) != 58) = (c != 58) := neI c 58
      have f5 : ((c : Int) != 47) = (c != 47) := neI c 47
      have go : plC (l.getD i 0) = true → ∀ x : Nat → V, x 0 = .c (.string (sB l)) → x 3 = .c (.int .i64 ((i : Int) + 1)) → ∀ n h, backC (fun i => mkS [.c (.string (sB l)), .top, .top, .c (.int .i64 (i : Nat))] 0) (fun i => i ≤ l.length ∧ (l.take i).all plC = true) (fun i => l.length - i) i ⟨x, fun _ => none, n, h⟩ := by
        intro hn x h0 h3 n h
        refine back_at (i + 1) [] [] ⟨by omega, all_next hlt hall hn⟩ (by omega) (keep_mk ?_ .nil (Nat.zero_le _))
        simp only [pgs, pgl, pgx, GenE_cons, GenE_nil, gen_top, Nat.reduceAdd, h0, h3, gen_c, Int.natCast_add, Int.cast_ofNat_Int]
      cases b1 : bt c 97 122 <;> rw [b1] at g1
      · refine callW_use _ g1 rfl rfl rfl rfl ?_
        simp only [pgs, pgl, pgx, Nat.reduceEqDiff, reduceIte, unNot]
        cases b2 : bt c 65 90 <;> rw [b2] at g2
        · refine callW_use _ g2 rfl rfl rfl rfl ?_
          simp only [pgs, pgl, pgx, Nat.reduceEqDiff, reduceIte, unNot]
          cases b3 : bt c 48 57 <;> rw [b3] at g3
          · refine callW_use _ g3 rfl rfl rfl rfl ?_
            cases a1 : (c != 95) <;> rw [a1] at f1
            · simp (disch := first | assumption | omega) only [pgs, pgl, pgx, Nat.reduceEqDiff, reduceIte, unNot, ixs, Int.toNat_natCast, hcd, i64w, f1, headC_normal]
              exact go (by rw [hcd]; unfold plC mk5; rw [a1]; simp) _ rfl rfl _ _
            cases a2 : (c != 45) <;> rw [a2] at f2
            · simp (disch := first | assumption | omega) only [pgs, pgl, pgx, Nat.reduceEqDiff, reduceIte, unNot, ixs, Int.toNat_natCast, hcd, i64w, f1, f2, headC_normal]
              exact go (by rw [hcd]; unfold plC mk5; rw [a1, a2]; simp) _ rfl rfl _ _
            cases a3 : (c != 46) <;> rw [a3] at f3
            · simp (disch := first | assumption | omega) only [pgs, pgl, pgx, Nat.reduceEqDiff, reduceIte, unNot, ixs, Int.toNat_natCast, hcd, i64w, f1, f2, f3, headC_normal]
              exact go (by rw [hcd]; unfold plC mk5; rw [a1, a2, a3]; simp) _ rfl rfl _ _
            cases a4 : (c != 58) <;> rw [a4] at f4
            · simp (disch := first | assumption | omega) only [pgs, pgl, pgx, Nat.reduceEqDiff, reduceIte, unNot, ixs, Int.toNat_natCast, hcd, i64w, f1, f2, f3, f4, headC_normal]
              exact go (by rw [hcd]; unfold plC mk5; rw [a1, a2, a3, a4]; simp) _ rfl rfl _ _
            cases a5 : (c != 47) <;> rw [a5] at f5
            · simp (disch := first | assumption | omega) only [pgs, pgl, pgx, Nat.reduceEqDiff, reduceIte, unNot, ixs, Int.toNat_natCast, hcd, i64w, f1, f2, f3, f4, f5, headC_normal]
              exact go (by rw [hcd]; unfold plC mk5; rw [a1, a2, a3, a4, a5]; simp) _ rfl rfl _ _
            have hn : plC (l.getD i 0) = false := by rw [hcd]; unfold plC mk5; rw [b1, b2, b3, a1, a2, a3, a4, a5]; rfl
            rw [all_not hlt hn]
            simp (disch := first | assumption | omega) only [pgs, pgl, pgx, Nat.reduceEqDiff, reduceIte, unNot, ixs, Int.toNat_natCast, hcd, i64w, f1, f2, f3, f4, f5, headC_ret]
            refine ret_at [] _ (retV_one _ _ _) .nil ?_ ?_
            · simp only [pgs, pgl, pgx, Nat.reduceEqDiff, reduceIte]
            · simp only [pgs, pgl, pgx, Nat.reduceEqDiff, reduceIte]
          · refine callW_use _ g3 rfl rfl rfl rfl ?_
            simp (disch := omega) only [pgs, pgl, pgx, Nat.reduceEqDiff, reduceIte, unNot, i64w, headC_normal]
            exact go (by rw [hcd]; unfold plC; rw [b3]; simp) _ rfl rfl _ _
        · refine callW_use _ g2 rfl rfl rfl rfl ?_
          simp (disch := omega) only [pgs, pgl, pgx, Nat.reduceEqDiff, reduceIte, unNot, i64w, headC_normal]
          exact go (by rw [hcd]; unfold plC; rw [b2]; simp) _ rfl rfl _ _
      · refine callW_use _ g1 rfl rfl rfl rfl ?_
        simp (disch := omega) only [pgs, pgl, pgx, Nat.reduceEqDiff, reduceIte, unNot, i64w, headC_normal]
        exact go (by rw [hcd]; unfold plC; rw [b1]; simp) _ rfl rfl _ _
    · have hil : i = l.length := by omega
      subst hil
      rw [List.take_length] at hall
      rw [hall]
      have e4 : decide ((l.length : Int) < (l.length : Int)) = false := decide_eq_false (by omega)
      simp only [pgs, pgl, pgx, Nat.reduceEqDiff, reduceIte, Nat.reduceAdd, is9, sB_size, e4, headC_exit]
      refine ret_at [] _ (retV_one _ _ _) .nil ?_ ?_
      · simp only [pgs, pgl, pgx, Nat.reduceEqDiff, reduceIte]
      · simp only [pgs, pgl, pgx, Nat.reduceEqDiff, reduceIte]
end Go.Proofs.YtkgebocldjhflaaDoor
end
