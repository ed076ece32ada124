/-
  Texts of this claim, merged: PgY1, PgN1, PgN2, PgN4, PgN5, PgN6, PgN7, PgN8, PgN9, PgN10. Each bears its own remark.
-/
import Derived.Test.YtjiolbcdfgclaaaGreatDoorBT
import Derived.Test.YtjiolbcdfgclaaaGreatDoorA4
import Derived.Laws.Externs
import Derived.Laws.BitsLemmas
set_option linter.unusedVariables false
set_option linter.unusedSimpArgs false
set_option linter.unusedSectionVars false
section
/-
  Scripts: short names for values; operations and responses as plain data.
-/
namespace Go.Proofs.YtjiolbcdfgclaaaGreatDoor
open Go Go.Pg
set_option maxRecDepth 100000
set_option linter.unusedSimpArgs false
set_option linter.unusedVariables false

abbrev vi (n : Int) : V := .c (.int .i64 n)
abbrev vu (n : Int) : V := .c (.int .u64 n)
abbrev vb (b : Bool) : V := .c (.bool b)
abbrev vs (l : List Nat) : V := .c (.string (sB l))
abbrev nls : V := .c (.slice none 0 0)
abbrev fzs (l : List (List Nat)) : V := .sl .fz 1 (sv l)
abbrev fzb (l : List Nat) : V := .sl .fz 1 (bv l)
/-- Numbers as cells. -/
def iv (l : List Int) : List V := l.map fun n => V.c (.int .i64 n)
theorem iv_len (l : List Int) : (iv l).length = l.length := by simp [iv]
theorem iv_get (l : List Int) (i : Nat) (h : i < l.length) : (iv l)[i]? = some (.c (.int .i64 (l.getD i 0))) := by simp [iv, h, List.getD]
theorem iv_app (a b : List Int) : iv a ++ iv b = iv (a ++ b) := by simp [iv]
abbrev fzi (l : List Int) : V := .sl .fz 1 (iv l)
/-- Items as cells. -/
def itv (l : List (List Nat × Int)) : List V := l.map fun x => V.agg [vs x.1, vi x.2]
theorem itv_len (l : List (List Nat × Int)) : (itv l).length = l.length := by simp [itv]
theorem itv_get (l : List (List Nat × Int)) (i : Nat) (h : i < l.length) : (itv l)[i]? = some (.agg [vs (l.getD i ([], 0)).1, vi (l.getD i ([], 0)).2]) := by simp [itv, h, List.getD]
abbrev fzt (l : List (List Nat × Int)) : V := .sl .fz 2 (itv l)
theorem flat_itv (l : List (List Nat × Int)) : V.flatL (itv l) = true := by
  induction l with
  | nil => rfl
  | cons a l ih => simp only [itv, List.map_cons, V.flatL, V.flat] at ih ⊢; simpa using ih
/-- An empty string's own form. -/
theorem sB_nil : sB [] = ⟨#[]⟩ := rfl
theorem str_nil : (⟨#[]⟩ : ByteArray) = sB [] := rfl
theorem seq_nil (l : List Nat) : decide (sB l = sB []) = decide (l.length = 0) := by
  have : sB l = sB [] ↔ l.length = 0 := by
    constructor
    · intro h
      have := congrArg ByteArray.size h
      rw [sB_size, sB_size] at this
      simpa using this
    · intro h; rw [List.eq_nil_of_length_eq_zero h]
  exact decide_eq_decide.2 this
theorem seq_nl (l : List Nat) : decide (sB l = ⟨#[]⟩) = decide (l.length = 0) := seq_nil l
/-- An operation. -/
structure O where
  kind : Int
  name : List Nat
  other : List Nat
  names : List (List Nat)
  pk : Int
  pz : Int
  pd : Int
  ps : Int
  items : List (List Nat × Int)
  coins : List Nat
  exp : Int
  src : Int
  hnd : Int
  idx : Int
  cur : Int
  cnt : Int
  qk : Int
  qkey : List Nat
  qc : Int
  qn : Int
  qd : Int
  data : List Nat
/-- Its cells, the slices' as they are given. -/
abbrev opC (o : O) (nm it co da : V) : List V := [vi o.kind, vs o.name, vs o.other, nm, vi o.pk, vi o.pz, vi o.pd, vu o.ps, it, co, vi o.exp, vi o.src, vi o.hnd, vi o.idx, vi o.cur, vi o.cnt, vi o.qk, vs o.qkey, vi o.qc, vi o.qn, vi o.qd, da]
abbrev opF (o : O) : List V := opC o (fzs o.names) (fzt o.items) (fzb o.coins) (fzb o.data)
end Go.Proofs.YtjiolbcdfgclaaaGreatDoor
end

section
/-
  Names: octets' classes; IsName, IsKey, plain, of the program and of the reference.
-/
namespace Go.Proofs.YtjiolbcdfgclaaaGreatDoor
open Go Go.Pg
set_option maxRecDepth 10000
set_option linter.unusedSimpArgs false

theorem is9 : isStr Tryz.prog 9 = true := by kernel_rfl
theorem it5 : intT Tryz.prog 5 = some .u8 := by kernel_rfl
theorem it3 : intT Tryz.prog 3 = some .i64 := by kernel_rfl
theorem un3 : (Tryz.prog.underlying 3).isSome = true := by kernel_rfl
theorem un5 : (Tryz.prog.underlying 5).isSome = true := by kernel_rfl
theorem ib4 : isBoolT Tryz.prog 4 = true := by kernel_rfl

theorem ixs (l : List Nat) (k : IntKind) (n : Int) (ho : oct l) (h0 : 0 ≤ n) (h : n < l.length) : ixV Tryz.prog 9 (.c (.string (sB l))) (.c (.int k n)) = some (.c (.int .u8 (l.getD n.toNat 0 : Nat))) := by
  unfold ixV
  simp only
  rw [if_pos ⟨is9, h0, by rw [sB_size]; exact h⟩, sB_get ho]
theorem i64w (n : Int) (h : -9223372036854775808 ≤ n ∧ n ≤ 9223372036854775807) : IntKind.i64.wrap n = n := IntWalk.i64_in n h
theorem unNot (b : Bool) : unV .not (.c (.bool b)) = some (.c (.bool (!b))) := rfl

/-- From 'a' to 'b'. -/
def bt (c a b : Nat) : Bool := decide (a ≤ c) && decide (c ≤ b)
theorem dle (a b : Nat) : decide ((a : Int) ≤ (b : Int)) = decide (a ≤ b) := by
  by_cases h : a ≤ b
  · rw [decide_eq_true h, decide_eq_true (by omega)]
  · rw [decide_eq_false h, decide_eq_false (by omega)]

theorem good40 (c a b : Nat) : Pg.Good Tryz.prog 137 [.c (.int .u8 (c : Int)), .c (.int .u8 (a : Int)), .c (.int .u8 (b : Int))] (.c (.bool (bt c a b))) := by
  refine good_intro (drawW_ok mix) Tryz.func137 rfl Tryz.results137 rfl (by kernel_rfl) (Nat.le_of_ble_eq_true (by kernel_rfl)) ?_
  have e1 := dle a c
  have e2 := dle c b
  unfold bt
  cases h : decide (a ≤ c) <;> rw [h] at e1
  all_goals
    simp only [Tryz.f137, pgs, pgl, pgx, Nat.reduceEqDiff, reduceIte, e1, e2]
    refine ret_at [] _ (retV_one _ _ _) .nil ?_ ?_
    · simp only [pgs, pgl, pgx, Nat.reduceEqDiff, reduceIte]
    · simp only [pgs, pgl, pgx, Nat.reduceEqDiff, reduceIte]
theorem good38 (c : Nat) : Pg.Good Tryz.prog 186 [.c (.int .u8 (c : Int))] (.c (.bool (bt c 97 122))) := by
  refine good_intro (drawW_ok mix) Tryz.func186 rfl Tryz.results186 rfl (by kernel_rfl) (Nat.le_of_ble_eq_true (by kernel_rfl)) ?_
  have e1 : decide ((97 : Int) ≤ (c : Int)) = decide (97 ≤ c) := dle 97 c
  have e2 : decide ((c : Int) ≤ 122) = decide (c ≤ 122) := dle c 122
  unfold bt
  cases h : decide (97 ≤ c) <;> rw [h] at e1
  all_goals
    simp only [Tryz.f186, pgs, pgl, pgx, Nat.reduceEqDiff, reduceIte, e1, e2]
    refine ret_at [] _ (retV_one _ _ _) .nil ?_ ?_
    · simp only [pgs, pgl, pgx, Nat.reduceEqDiff, reduceIte]
    · simp only [pgs, pgl, pgx, Nat.reduceEqDiff, reduceIte]
theorem good39 (c : Nat) : Pg.Good Tryz.prog 188 [.c (.int .u8 (c : Int))] (.c (.bool (bt c 48 57))) := by
  refine good_intro (drawW_ok mix) Tryz.func188 rfl Tryz.results188 rfl (by kernel_rfl) (Nat.le_of_ble_eq_true (by kernel_rfl)) ?_
  have e1 : decide ((48 : Int) ≤ (c : Int)) = decide (48 ≤ c) := dle 48 c
  have e2 : decide ((c : Int) ≤ 57) = decide (c ≤ 57) := dle c 57
  unfold bt
  cases h : decide (48 ≤ c) <;> rw [h] at e1
  all_goals
    simp only [Tryz.f188, pgs, pgl, pgx, Nat.reduceEqDiff, reduceIte, e1, e2]
    refine ret_at [] _ (retV_one _ _ _) .nil ?_ ?_
    · simp only [pgs, pgl, pgx, Nat.reduceEqDiff, reduceIte]
    · simp only [pgs, pgl, pgx, Nat.reduceEqDiff, reduceIte]
theorem good45 (c : Nat) : Pg.Good Tryz.prog 187 [.c (.int .u8 (c : Int))] (.c (.bool (bt c 65 90))) := by
  refine good_intro (drawW_ok mix) Tryz.func187 rfl Tryz.results187 rfl (by kernel_rfl) (Nat.le_of_ble_eq_true (by kernel_rfl)) ?_
  have e1 : decide ((65 : Int) ≤ (c : Int)) = decide (65 ≤ c) := dle 65 c
  have e2 : decide ((c : Int) ≤ 90) = decide (c ≤ 90) := dle c 90
  unfold bt
  cases h : decide (65 ≤ c) <;> rw [h] at e1
  all_goals
    simp only [Tryz.f187, pgs, pgl, pgx, Nat.reduceEqDiff, reduceIte, e1, e2]
    refine ret_at [] _ (retV_one _ _ _) .nil ?_ ?_
    · simp only [pgs, pgl, pgx, Nat.reduceEqDiff, reduceIte]
    · simp only [pgs, pgl, pgx, Nat.reduceEqDiff, reduceIte]

def isKey (l : List Nat) : Bool := decide (1 ≤ l.length) && decide (l.length ≤ 32)
theorem good15 (l : List Nat) : Pg.Good Tryz.prog 133 [.c (.string (sB l))] (.c (.bool (isKey l))) := by
  refine good_intro (drawW_ok mix) Tryz.func133 rfl Tryz.results133 rfl (by kernel_rfl) (Nat.le_of_ble_eq_true (by kernel_rfl)) ?_
  have e1 : decide ((1 : Int) ≤ (l.length : Int)) = decide (1 ≤ l.length) := dle 1 _
  have e2 : decide ((l.length : Int) ≤ 32) = decide (l.length ≤ 32) := dle _ 32
  unfold isKey
  cases h : decide (1 ≤ l.length) <;> rw [h] at e1
  all_goals
    simp only [Tryz.f133, pgs, pgl, pgx, Nat.reduceEqDiff, reduceIte, is9, sB_size, e1, e2]
    refine ret_at [] _ (retV_one _ _ _) .nil ?_ ?_
    · simp only [pgs, pgl, pgx, Nat.reduceEqDiff, reduceIte]
    · simp only [pgs, pgl, pgx, Nat.reduceEqDiff, reduceIte]
theorem good18 (l : List Nat) : Pg.Good Tryz.prog 140 [.c (.string (sB l))] (.c (.bool (isKey l))) := by
  refine good_intro (drawW_ok mix) Tryz.func140 rfl Tryz.results140 rfl (by kernel_rfl) (Nat.le_of_ble_eq_true (by kernel_rfl)) ?_
  have e1 : decide ((1 : Int) ≤ (l.length : Int)) = decide (1 ≤ l.length) := dle 1 _
  have e2 : decide ((l.length : Int) ≤ 32) = decide (l.length ≤ 32) := dle _ 32
  unfold isKey
  cases h : decide (1 ≤ l.length) <;> rw [h] at e1
  all_goals
    simp only [Tryz.f140, pgs, pgl, pgx, Nat.reduceEqDiff, reduceIte, is9, sB_size, e1, e2]
    refine ret_at [] _ (retV_one _ _ _) .nil ?_ ?_
    · simp only [pgs, pgl, pgx, Nat.reduceEqDiff, reduceIte]
    · simp only [pgs, pgl, pgx, Nat.reduceEqDiff, reduceIte]
end Go.Proofs.YtjiolbcdfgclaaaGreatDoor
end

section
/-
  Names: IsName, of the program and of the reference, of any string.
-/
namespace Go.Proofs.YtjiolbcdfgclaaaGreatDoor
open Go Go.Pg
set_option maxRecDepth 10000
set_option linter.unusedSimpArgs false

def nmC (c : Nat) : Bool := bt c 97 122 || bt c 48 57 || c == 45 || c == 46
def isName (l : List Nat) : Bool := decide (1 ≤ l.length) && decide (l.length ≤ 16) && bt (l.getD 0 0) 97 122 && l.all nmC
theorem neI (c k : Nat) : ((c : Int) != (k : Int)) = (c != k) := by
  rw [Bool.eq_iff_iff, bne_iff_ne, bne_iff_ne]
  omega
theorem all_next {p : Nat → Bool} {l : List Nat} {i : Nat} (h : i < l.length) (ha : (l.take i).all p = true) (hp : p (l.getD i 0) = true) : (l.take (i + 1)).all p = true := by
  rw [List.take_succ_eq_append_getElem h, List.all_append, ha]
  have : l.getD i 0 = l[i] := by simp [List.getD, h]
  rw [this] at hp
  simp [hp]
theorem all_not {p : Nat → Bool} {l : List Nat} {i : Nat} (h : i < l.length) (hp : p (l.getD i 0) = false) : l.all p = false := by
  have : l.getD i 0 = l[i] := by simp [List.getD, h]
  rw [this] at hp
  rw [← Bool.not_eq_true, List.all_eq_true]
  intro hx
  have := hx _ (List.getElem_mem h)
  rw [hp] at this
  cases this

theorem good16 (l : List Nat) (ho : oct l) : Pg.Good Tryz.prog 178 [.c (.string (sB l))] (.c (.bool (isName l))) := by
  refine good_intro (drawW_ok mix) Tryz.func178 rfl Tryz.results178 rfl (by kernel_rfl) (Nat.le_of_ble_eq_true (by kernel_rfl)) ?_
  unfold isName
  rcases Nat.lt_or_ge l.length 1 with h1 | h1
  · have e1 : decide ((l.length : Int) < 1) = true := decide_eq_true (by omega)
    rw [decide_eq_false (show ¬ 1 ≤ l.length by omega)]
    simp only [Tryz.f178, pgs, pgl, pgx, Nat.reduceEqDiff, reduceIte, is9, sB_size, e1]
    refine ret_at [] _ (retV_one _ _ _) .nil ?_ ?_
    · simp only [pgs, pgl, pgx, Nat.reduceEqDiff, reduceIte]
    · simp only [pgs, pgl, pgx, Nat.reduceEqDiff, reduceIte]
  have e1 : decide ((l.length : Int) < 1) = false := decide_eq_false (by omega)
  rw [decide_eq_true h1]
  rcases Nat.lt_or_ge 16 l.length with h2 | h2
  · have e2 : decide ((16 : Int) < (l.length : Int)) = true := decide_eq_true (by omega)
    rw [decide_eq_false (show ¬ l.length ≤ 16 by omega)]
    simp only [Tryz.f178, pgs, pgl, pgx, Nat.reduceEqDiff, reduceIte, is9, sB_size, e1, e2]
    refine ret_at [] _ (retV_one _ _ _) .nil ?_ ?_
    · simp only [pgs, pgl, pgx, Nat.reduceEqDiff, reduceIte]
    · simp only [pgs, pgl, pgx, Nat.reduceEqDiff, reduceIte]
  have e2 : decide ((16 : Int) < (l.length : Int)) = false := decide_eq_false (by omega)
  rw [decide_eq_true h2]
  simp (disch := first | assumption | omega) only [Tryz.f178, pgs, pgl, pgx, Nat.reduceEqDiff, reduceIte, is9, sB_size, e1, e2, ixs, Int.reduceToNat]
  have g0 := good38 (l.getD 0 0)
  cases h3 : bt (l.getD 0 0) 97 122 <;> rw [h3] at g0
  · refine callW_use _ g0 rfl rfl rfl rfl ?_
    simp only [pgs, pgl, pgx, Nat.reduceEqDiff, reduceIte, unNot]
    refine ret_at [] _ (retV_one _ _ _) .nil ?_ ?_
    · simp only [pgs, pgl, pgx, Nat.reduceEqDiff, reduceIte]
    · simp only [pgs, pgl, pgx, Nat.reduceEqDiff, reduceIte]
  refine callW_use _ g0 rfl rfl rfl rfl ?_
  simp only [pgs, pgl, pgx, Nat.reduceEqDiff, reduceIte, unNot, is9, sB_size]
  refine loop_at (fun i => mkS [.c (.string (sB l)), .top, .top, .top, .top, .top, .top, .top, .top, .top, .top, .top, .top, .top, .top, .top, .top, .top, .top, .top, .c (.int .i64 l.length), .c (.int .i64 (i : Nat))] 0) (fun i => i ≤ l.length ∧ (l.take i).all nmC = true) (fun i => l.length - i) 0 [] [] ?_ ⟨Nat.zero_le _, rfl⟩ ?_
  · refine keep_mk ?_ .nil (Nat.le_refl _)
    simp only [pgs, pgl, pgx, GenE_cons, GenE_nil, gen_top, gen_c, gen_fz, Nat.reduceEqDiff, reduceIte, Nat.reduceAdd]
    exact of_eq_true (gen_c _ _ _)
  · rintro i ⟨hi, hall⟩ s hs
    simp only [mkS_at, pgs, pgl, Nat.reduceAdd] at hs
    subst hs
    rcases Nat.lt_or_ge i l.length with hlt | hge
    · have e4 : decide ((i : Int) < (l.length : Int)) = true := decide_eq_true (by omega)
      simp (disch := first | assumption | omega) only [pgs, pgl, pgx, Nat.reduceEqDiff, reduceIte, Nat.reduceAdd, e4, ixs, Int.toNat_natCast]
      generalize hcd : l.getD i 0 = c
      have g1 := good38 c
      have g2 := good39 c
      have e5 : ((c : Int) != 45) = (c != 45) := neI c 45
      have e6 : ((c : Int) != 46) = (c != 46) := neI c 46
      cases b1 : bt c 97 122 <;> rw [b1] at g1
      · refine callW_use _ g1 rfl rfl rfl rfl ?_
        simp only [pgs, pgl, pgx, Nat.reduceEqDiff, reduceIte, unNot]
        cases b2 : bt c 48 57 <;> rw [b2] at g2
        · refine callW_use _ g2 rfl rfl rfl rfl ?_
          cases b3 : (c != 45) <;> rw [b3] at e5
          · have hn : nmC (l.getD i 0) = true := by
              rw [hcd]; unfold nmC; rw [bne_eq_false_iff_eq] at b3; subst b3; rfl
            simp (disch := omega) only [pgs, pgl, pgx, Nat.reduceEqDiff, reduceIte, unNot, e5, i64w, headC_normal]
            refine back_at (i + 1) [] [] ⟨by omega, all_next hlt hall hn⟩ (by omega) (keep_mk ?_ .nil (Nat.le_refl _))
            simp only [pgs, pgl, pgx, GenE_cons, GenE_nil, gen_top, gen_c, gen_fz, Nat.reduceEqDiff, reduceIte, Nat.reduceAdd, Int.natCast_add, Int.cast_ofNat_Int]
          · cases b4 : (c != 46) <;> rw [b4] at e6
            · have hn : nmC (l.getD i 0) = true := by
                rw [hcd]; unfold nmC; rw [bne_eq_false_iff_eq] at b4; subst b4; rfl
              simp (disch := omega) only [pgs, pgl, pgx, Nat.reduceEqDiff, reduceIte, unNot, e5, e6, i64w, headC_normal]
              refine back_at (i + 1) [] [] ⟨by omega, all_next hlt hall hn⟩ (by omega) (keep_mk ?_ .nil (Nat.le_refl _))
              simp only [pgs, pgl, pgx, GenE_cons, GenE_nil, gen_top, gen_c, gen_fz, Nat.reduceEqDiff, reduceIte, Nat.reduceAdd, Int.natCast_add, Int.cast_ofNat_Int]
            · have hn : nmC (l.getD i 0) = false := by
                rw [hcd]; unfold nmC
                rw [bne_iff_ne] at b3 b4
                simp [b1, b2, b3, b4]
              rw [all_not hlt hn]
              simp (disch := omega) only [pgs, pgl, pgx, Nat.reduceEqDiff, reduceIte, unNot, e5, e6, i64w, headC_ret]
              refine ret_at [] _ (retV_one _ _ _) .nil ?_ ?_
              · simp only [pgs, pgl, pgx, Nat.reduceEqDiff, reduceIte]
              · simp only [pgs, pgl, pgx, Nat.reduceEqDiff, reduceIte]
        · have hn : nmC (l.getD i 0) = true := by rw [hcd]; unfold nmC; simp [b2]
          refine callW_use _ g2 rfl rfl rfl rfl ?_
          simp (disch := omega) only [pgs, pgl, pgx, Nat.reduceEqDiff, reduceIte, unNot, i64w, headC_normal]
          refine back_at (i + 1) [] [] ⟨by omega, all_next hlt hall hn⟩ (by omega) (keep_mk ?_ .nil (Nat.le_refl _))
          simp only [pgs, pgl, pgx, GenE_cons, GenE_nil, gen_top, gen_c, gen_fz, Nat.reduceEqDiff, reduceIte, Nat.reduceAdd, Int.natCast_add, Int.cast_ofNat_Int]
      · have hn : nmC (l.getD i 0) = true := by rw [hcd]; unfold nmC; simp [b1]
        refine callW_use _ g1 rfl rfl rfl rfl ?_
        simp (disch := omega) only [pgs, pgl, pgx, Nat.reduceEqDiff, reduceIte, unNot, i64w, headC_normal]
        refine back_at (i + 1) [] [] ⟨by omega, all_next hlt hall hn⟩ (by omega) (keep_mk ?_ .nil (Nat.le_refl _))
        simp only [pgs, pgl, pgx, GenE_cons, GenE_nil, gen_top, gen_c, gen_fz, Nat.reduceEqDiff, reduceIte, Nat.reduceAdd, Int.natCast_add, Int.cast_ofNat_Int]
    · have hil : i = l.length := by omega
      subst hil
      rw [List.take_length] at hall
      rw [hall]
      have e4 : decide ((l.length : Int) < (l.length : Int)) = false := decide_eq_false (by omega)
      simp only [pgs, pgl, pgx, Nat.reduceEqDiff, reduceIte, Nat.reduceAdd, e4, headC_exit]
      refine ret_at [] _ (retV_one _ _ _) .nil ?_ ?_
      · simp only [pgs, pgl, pgx, Nat.reduceEqDiff, reduceIte]
      · simp only [pgs, pgl, pgx, Nat.reduceEqDiff, reduceIte]
end Go.Proofs.YtjiolbcdfgclaaaGreatDoor
end

section
/-
  Names: ValidateItem, of the program and of the reference, of any item.
-/
namespace Go.Proofs.YtjiolbcdfgclaaaGreatDoor
open Go Go.Pg
set_option maxRecDepth 100000
set_option linter.unusedSimpArgs false

theorem isKey_t (l : List Nat) : (isKey l = true) = (1 ≤ l.length ∧ l.length ≤ 32) := by simp [isKey]
theorem isKey_f (l : List Nat) : (isKey l = false) = ¬ (1 ≤ l.length ∧ l.length ≤ 32) := by rw [← isKey_t, Bool.not_eq_true]
theorem isKey_T {l : List Nat} (h : 1 ≤ l.length ∧ l.length ≤ 32) : isKey l = true := by rw [isKey_t]; exact h
theorem isKey_F {l : List Nat} (h : ¬ (1 ≤ l.length ∧ l.length ≤ 32)) : isKey l = false := by rw [isKey_f]; exact h
/-- What an item's check answers. -/
def vitem (l : List Nat) (n : Int) : Int := if 1 ≤ l.length ∧ l.length ≤ 32 then (if 1 ≤ n ∧ n ≤ 4294967295 then 0 else 5) else 7
theorem g_ValidateItem (l : List Nat) (n : Int) : Pg.Good Tryz.prog 180 [.agg [vs l, vi n]] (vi (vitem l n)) := by
  refine good_intro (drawW_ok mix) Tryz.func180 rfl Tryz.results180 rfl (by kernel_rfl) (Nat.le_of_ble_eq_true (by kernel_rfl)) ?_
  skip
  (repeat' (first | (simp (disch := first | assumption | omega | (simp only [Fits, maxLen, bv_len, sv_len, List.length_append, List.length_cons, List.length_nil, List.length_map, sB_size] at *; omega)) only [pgs, pgl, pgx, pgw, pgb, tyf, buildSliceV_w, pgn, Nat.reduceEqDiff, reduceIte, Nat.reduceAdd, Nat.reduceSub, Nat.reduceMul, Nat.reduceBEq, Nat.reduceLeDiff, Int.reduceToNat, Int.reduceLT, Int.reduceLE, Int.reduceEq, Int.reduceNe, Nat.reduceLT, Int.reduceNeg, Int.reduceSub, Int.reduceAdd, Int.reduceMul, eq_self, Option.some.injEq, List.getElem?_nil, Int.reduceBEq, Int.reduceBNe, if_true, if_false, ite_true, ite_false, ↓reduceIte, Tryz.f180]) | ((with_reducible show callW _ _ _ _ _ _); first | refine callW_use _ (good15 _) rfl rfl rfl rfl ?_) | ((first | ((with_reducible show condC _ _ _ _ _ _ _); refine cond_at (fun hc => ?_) (fun hc => ?_)) | ((with_reducible show guardC _ _ _ _ _ _ _ _); refine guard_at (fun hc => ?_) (fun hc => ?_)) | ((with_reducible show drwG _ _ _ _ _ _ _ _ _ _); refine drw_at (fun hc => ?_) (fun hc => ?_))) <;> (try simp only [hc]) <;> (try simp only [decide_eq_true_eq, decide_eq_false_iff_not, beq_iff_eq, beq_eq_false_iff_ne, bne_iff_ne, bne_eq_false_iff_eq, Bool.not_eq_true', Bool.not_eq_false', Int.not_lt, Int.not_le, Nat.not_lt, Nat.not_le, ne_eq, Bool.not_true, Bool.not_false, Bool.not_not, Bool.true_eq_false, Bool.false_eq_true, not_false_eq_true, not_true_eq_false, Decidable.not_not, isKey_t, isKey_f] at hc)) | (with_reducible refine chk_at (by kernel_rfl) ?_)))
  all_goals (refine ret_at [] _ (by first | exact retV_one _ _ _ | exact retV_two _ _ _ _ | exact retV_three _ _ _ _ _ | exact retV_four _ _ _ _ _ _ | (simp (disch := first | assumption | omega | (simp only [Fits, maxLen, bv_len, sv_len, List.length_append, List.length_cons, List.length_nil, List.length_map, sB_size] at *; omega)) only [pgr, pgs, pgl, pgx, pgw, tyf, pgn, Nat.reduceEqDiff, reduceIte, Nat.reduceAdd, Nat.reduceSub, Nat.reduceMul, Nat.reduceBEq, Nat.reduceLeDiff, Int.reduceToNat, Int.reduceLT, Int.reduceLE, Int.reduceEq, Int.reduceNe, Nat.reduceLT, Int.reduceNeg, Int.reduceSub, Int.reduceAdd, Int.reduceMul, eq_self, Option.some.injEq, List.getElem?_nil, Int.reduceBEq, Int.reduceBNe, if_true, if_false, ite_true, ite_false, ↓reduceIte]; rfl)) (by decide) (by simp only [pgs, pgl, pgx, pgw, pgn, Nat.reduceEqDiff, reduceIte, Nat.reduceAdd, Nat.reduceSub, Nat.reduceMul, Nat.reduceBEq, Nat.reduceLeDiff, Int.reduceToNat, Int.reduceLT, Int.reduceLE, Int.reduceEq, Int.reduceNe, Nat.reduceLT, Int.reduceNeg, Int.reduceSub, Int.reduceAdd, Int.reduceMul, eq_self, Option.some.injEq, List.getElem?_nil, Int.reduceBEq, Int.reduceBNe, if_true, if_false, ite_true, ite_false, ↓reduceIte]) ?_; (first | rfl | simp only [pgs, pgl, pgx, pgw, pgn, Nat.reduceEqDiff, reduceIte, Nat.reduceAdd, Nat.reduceSub, Nat.reduceMul, Nat.reduceBEq, Nat.reduceLeDiff, Int.reduceToNat, Int.reduceLT, Int.reduceLE, Int.reduceEq, Int.reduceNe, Nat.reduceLT, Int.reduceNeg, Int.reduceSub, Int.reduceAdd, Int.reduceMul, eq_self, Option.some.injEq, List.getElem?_nil, Int.reduceBEq, Int.reduceBNe, if_true, if_false, ite_true, ite_false, ↓reduceIte]))
  all_goals (unfold vitem; (repeat' split) <;> first | rfl | omega)
end Go.Proofs.YtjiolbcdfgclaaaGreatDoor
end

section
/-
  Names: strings.IndexByte; the first place of an octet in a string.
-/
namespace Go.Proofs.YtjiolbcdfgclaaaGreatDoor
open Go Go.Pg
set_option maxRecDepth 10000
set_option linter.unusedSimpArgs false

/-- The first place of 'c', or -1. -/
def ixB (l : List Nat) (c : Nat) : Int :=
  match (List.range l.length).find? fun i => l.getD i 0 == c with
  | some i => i
  | none => -1
theorem find_congr {p q : Nat → Bool} : ∀ (xs : List Nat), (∀ i ∈ xs, p i = q i) → xs.find? p = xs.find? q := by
  intro xs
  induction xs with
  | nil => intro _; rfl
  | cons x xs ih =>
    intro h
    rw [List.find?_cons, List.find?_cons, h x (by simp), ih (fun i hi => h i (by simp [hi]))]
theorem firstIdx_sB {l : List Nat} (ho : oct l) {c : Nat} (hc : c < 256) : firstIdx (sB l) ((c : Int).toNat.toUInt8) = ixB l c := by
  unfold firstIdx ixB
  rw [sB_size]
  rw [find_congr (q := fun i => l.getD i 0 == c) (List.range l.length) ?_]
  · cases (List.range l.length).find? fun i => l.getD i 0 == c <;> rfl
  · intro i hi
    have hi := List.mem_range.1 hi
    have hg : (sB l)[i]! = (sB l)[i]'(by rw [sB_size]; exact hi) := getElem!_pos (sB l) i _
    have e : (sB l)[i]! = UInt8.ofNat (l.getD i 0) := by
      rw [hg]
      show (sB l).data[i]'_ = _
      simp [sB, List.getD, hi]
    rw [e]
    have hb := getD_lt ho i
    rw [Bool.eq_iff_iff, beq_iff_eq, beq_iff_eq]
    constructor
    · intro h
      have := congrArg UInt8.toNat h
      simp only [UInt8.toNat_ofNat', Int.toNat_natCast, Nat.toUInt8] at this
      omega
    · intro h
      rw [h]
      rfl
theorem good56 (l : List Nat) (c : Nat) (ho : oct l) (hc : c < 256) : GoodX Tryz.prog 227 [.c (.string (sB l)), .c (.int .u8 (c : Int))] (.c (.int .i64 (ixB l c))) := by
  rintro L w cargs ⟨_, _, rfl, rfl, _, _, rfl, rfl, rfl⟩
  refine ⟨_, ?_, rfl⟩
  rw [run_callFunc_extern Tryz.func227 (by kernel_rfl) (by kernel_rfl) (by kernel_rfl) (e := Extern.BytealgIndexByte.indexByte) (by kernel_rfl)]
  show ((Extern.BytealgIndexByte.indexByte #[.string (sB l), .int .u8 (c : Int)]).run Tryz.prog w).andThen _ = _
  rw [run_indexByte_string, firstIdx_sB ho hc]
  rfl
theorem callZ {P : Program} [Tb P] {g : FuncId} {args : List Operand} {d : Option Nat} {s s' : St} {K : Kd → St → Prop} {vs : List V} (r : V) (hg : GoodZ P g vs s s' r) (hvs : args.map s.ev = vs) (hK : K .z (s'.put d r)) : callW P (.fn g [] []) args d s K := by
  refine .inr ⟨s', r, ?_, hK⟩
  simpa [hvs] using hg
theorem good48 (l : List Nat) (c : Nat) (ho : oct l) (hc : c < 256) : Pg.Good Tryz.prog 191 [.c (.string (sB l)), .c (.int .u8 (c : Int))] (.c (.int .i64 (ixB l c))) := by
  refine good_intro (drawW_ok mix) Tryz.func191 rfl Tryz.results191 rfl (by kernel_rfl) (Nat.le_of_ble_eq_true (by kernel_rfl)) ?_
  simp only [Tryz.f191, pgs, pgl, pgx, Nat.reduceEqDiff, reduceIte]
  refine callZ _ ((good56 l c ho hc).z _) rfl ?_
  simp only [pgs, pgl, pgx, Nat.reduceEqDiff, reduceIte]
  refine ret_at [] _ (retV_one _ _ _) .nil ?_ ?_
  · simp only [pgs, pgl, pgx, Nat.reduceEqDiff, reduceIte]
  · simp only [pgs, pgl, pgx, Nat.reduceEqDiff, reduceIte]
theorem good36 (l : List Nat) (c : Nat) (ho : oct l) (hc : c < 256) : Pg.Good Tryz.prog 144 [.c (.string (sB l)), .c (.int .u8 (c : Int))] (.c (.int .i64 (ixB l c))) := by
  refine good_intro (drawW_ok mix) Tryz.func144 rfl Tryz.results144 rfl (by kernel_rfl) (Nat.le_of_ble_eq_true (by kernel_rfl)) ?_
  simp only [Tryz.f144, pgs, pgl, pgx, Nat.reduceEqDiff, reduceIte]
  refine callW_use _ (good48 l c ho hc) rfl rfl rfl rfl ?_
  simp only [pgs, pgl, pgx, Nat.reduceEqDiff, reduceIte]
  refine ret_at [] _ (retV_one _ _ _) .nil ?_ ?_
  · simp only [pgs, pgl, pgx, Nat.reduceEqDiff, reduceIte]
  · simp only [pgs, pgl, pgx, Nat.reduceEqDiff, reduceIte]
end Go.Proofs.YtjiolbcdfgclaaaGreatDoor
end

section
/-
  Names: strings.CutPrefix and strings.HasPrefix; plain, of the program and of the reference.
-/
namespace Go.Proofs.YtjiolbcdfgclaaaGreatDoor
open Go Go.Pg
set_option maxRecDepth 10000
set_option linter.unusedSimpArgs false

theorem sls (l : List Nat) (k1 k2 : IntKind) (lo hi : Int) (h0 : 0 ≤ lo) (h1 : lo ≤ hi) (h2 : hi ≤ l.length) : slV Tryz.prog 9 (.c (.string (sB l))) (some (.c (.int k1 lo))) (some (.c (.int k2 hi))) = some (.c (.string (sB ((l.take hi.toNat).drop lo.toNat)))) := by
  rw [slV_str]
  simp only [bdV_int, Option.bind_some, sB_size]
  rw [if_pos ⟨is9, h0, h1, h2⟩, sB_ext]
theorem slsa (l : List Nat) (k1 : IntKind) (lo : Int) (h0 : 0 ≤ lo) (h2 : lo ≤ l.length) : slV Tryz.prog 9 (.c (.string (sB l))) (some (.c (.int k1 lo))) none = some (.c (.string (sB (l.drop lo.toNat)))) := by
  rw [slV_str]
  simp only [bdV_int, bdV_none, Option.bind_some, sB_size]
  rw [if_pos ⟨is9, h0, h2, Int.le_refl _⟩, sB_ext, Int.toNat_natCast, List.take_length]
theorem slsb (l : List Nat) (k2 : IntKind) (hi : Int) (h0 : 0 ≤ hi) (h2 : hi ≤ l.length) : slV Tryz.prog 9 (.c (.string (sB l))) none (some (.c (.int k2 hi))) = some (.c (.string (sB (l.take hi.toNat)))) := by
  rw [slV_str]
  simp only [bdV_int, bdV_none, Option.bind_some, sB_size]
  rw [if_pos ⟨is9, by simp, h0, h2⟩, sB_ext]
  simp

def hasP (l p : List Nat) : Bool := decide (p.length ≤ l.length) && decide (l.take p.length = p)
theorem good55 (l p : List Nat) (ho : oct l) (hp : oct p) : Pg.Good Tryz.prog 251 [.c (.string (sB l)), .c (.string (sB p))] (.c (.bool (hasP l p))) := by
  refine good_intro (drawW_ok mix) Tryz.func251 rfl Tryz.results251 rfl (by kernel_rfl) (Nat.le_of_ble_eq_true (by kernel_rfl)) ?_
  unfold hasP
  rcases Nat.lt_or_ge l.length p.length with h | h
  · have e1 : decide ((p.length : Int) ≤ (l.length : Int)) = false := decide_eq_false (by omega)
    rw [decide_eq_false (show ¬ p.length ≤ l.length by omega)]
    simp only [Tryz.f251, pgs, pgl, pgx, Nat.reduceEqDiff, reduceIte, is9, sB_size, e1]
    refine ret_at [] _ (retV_one _ _ _) .nil ?_ ?_
    · simp only [pgs, pgl, pgx, Nat.reduceEqDiff, reduceIte]
    · simp only [pgs, pgl, pgx, Nat.reduceEqDiff, reduceIte]
  · have e1 : decide ((p.length : Int) ≤ (l.length : Int)) = true := decide_eq_true (by omega)
    rw [decide_eq_true h]
    simp (disch := omega) only [Tryz.f251, pgs, pgl, pgx, Nat.reduceEqDiff, reduceIte, is9, sB_size, e1, slsb, Int.toNat_natCast, sB_dec (oct_take ho _) hp]
    refine ret_at [] _ (retV_one _ _ _) .nil ?_ ?_
    · simp only [pgs, pgl, pgx, Nat.reduceEqDiff, reduceIte]
    · simp only [pgs, pgl, pgx, Nat.reduceEqDiff, reduceIte]
def cutP (l p : List Nat) : V := if hasP l p = true then .tup [.c (.string (sB (l.drop p.length))), .c (.bool true)] else .tup [.c (.string (sB l)), .c (.bool false)]
theorem good47 (l p : List Nat) (ho : oct l) (hp : oct p) : Pg.Good Tryz.prog 228 [.c (.string (sB l)), .c (.string (sB p))] (cutP l p) := by
  refine good_intro (drawW_ok mix) Tryz.func228 rfl Tryz.results228 rfl (by kernel_rfl) (Nat.le_of_ble_eq_true (by kernel_rfl)) ?_
  have g := good55 l p ho hp
  unfold cutP
  simp only [Tryz.f228, pgs, pgl, pgx, Nat.reduceEqDiff, reduceIte]
  cases h : hasP l p <;> rw [h] at g
  · refine callW_use _ g rfl rfl rfl rfl ?_
    simp only [pgs, pgl, pgx, Nat.reduceEqDiff, reduceIte, unNot]
    refine ret_at [] _ (retV_two _ _ _ _) .nil ?_ ?_
    · simp only [pgs, pgl, pgx, Nat.reduceEqDiff, reduceIte]
    · simp only [pgs, pgl, pgx, Nat.reduceEqDiff, reduceIte]
  · have hl : p.length ≤ l.length := by
      unfold hasP at h
      simp only [Bool.and_eq_true, decide_eq_true_eq] at h
      exact h.1
    refine callW_use _ g rfl rfl rfl rfl ?_
    simp (disch := omega) only [pgs, pgl, pgx, Nat.reduceEqDiff, reduceIte, unNot, is9, sB_size, slsa, Int.toNat_natCast]
    refine ret_at [] _ (retV_two _ _ _ _) .nil ?_ ?_
    · simp only [pgs, pgl, pgx, Nat.reduceEqDiff, reduceIte]
    · simp only [pgs, pgl, pgx, Nat.reduceEqDiff, reduceIte]
theorem cutP_cases (l p : List Nat) : (hasP l p = true ∧ cutP l p = .tup [.c (.string (sB (l.drop p.length))), .c (.bool true)]) ∨ (hasP l p = false ∧ cutP l p = .tup [.c (.string (sB l)), .c (.bool false)]) := by
  unfold cutP
  cases h : hasP l p <;> simp
theorem good35 (l p : List Nat) (ho : oct l) (hp : oct p) : Pg.Good Tryz.prog 192 [.c (.string (sB l)), .c (.string (sB p))] (cutP l p) := by
  refine good_intro (drawW_ok mix) Tryz.func192 rfl Tryz.results192 rfl (by kernel_rfl) (Nat.le_of_ble_eq_true (by kernel_rfl)) ?_
  have g := good47 l p ho hp
  simp only [Tryz.f192, pgs, pgl, pgx, Nat.reduceEqDiff, reduceIte]
  rcases cutP_cases l p with ⟨_, h⟩ | ⟨_, h⟩ <;> rw [h] at g ⊢
  all_goals
    refine callW_use _ g rfl rfl rfl rfl ?_
    simp only [pgs, pgl, pgx, Nat.reduceEqDiff, reduceIte]
    refine ret_at [] _ (retV_two _ _ _ _) .nil ?_ ?_
    · simp only [pgs, pgl, pgx, Nat.reduceEqDiff, reduceIte]
    · simp only [pgs, pgl, pgx, Nat.reduceEqDiff, reduceIte]
end Go.Proofs.YtjiolbcdfgclaaaGreatDoor
end

section
/-
  Names: plain, of the program and of the reference, of any string.
-/
namespace Go.Proofs.YtjiolbcdfgclaaaGreatDoor
open Go Go.Pg
set_option maxRecDepth 10000
set_option linter.unusedSimpArgs false

def mk5 (c : Nat) : Bool := c != 95 && (c != 45 && (c != 46 && (c != 58 && c != 47)))
def plC (c : Nat) : Bool := bt c 97 122 || bt c 65 90 || bt c 48 57 || !mk5 c
def plain (l : List Nat) : Bool := l.all plC
theorem ix5 (c : Nat) : decide (ixB [95, 45, 46, 58, 47] c < 0) = mk5 c := by
  unfold ixB mk5
  rw [show List.range [95, 45, 46, 58, 47].length = [0, 1, 2, 3, 4] from rfl]
  by_cases h1 : c = 95
  · subst h1; rfl
  by_cases h2 : c = 45
  · subst h2; rfl
  by_cases h3 : c = 46
  · subst h3; rfl
  by_cases h4 : c = 58
  · subst h4; rfl
  by_cases h5 : c = 47
  · subst h5; rfl
  simp [List.getD, h1, h2, h3, h4, h5, Ne.symm h1, Ne.symm h2, Ne.symm h3, Ne.symm h4, Ne.symm h5]
theorem oct5 : oct [95, 45, 46, 58, 47] := by intro b hb; simp at hb; omega

theorem good30 (l : List Nat) (ho : oct l) (hl : l.length ≤ 4294967296) : Pg.Good Tryz.prog 134 [.c (.string (sB l))] (.c (.bool (plain l))) := by
  refine good_intro (drawW_ok mix) Tryz.func134 rfl Tryz.results134 rfl (by kernel_rfl) (Nat.le_of_ble_eq_true (by kernel_rfl)) ?_
  unfold plain
  simp only [Tryz.f134, pgs, pgl, pgx, Nat.reduceEqDiff, reduceIte, is9, sB_size]
  refine loop_at (fun i => mkS [.c (.string (sB l)), .top, .top, .top, .top, .top, .c (.int .i64 l.length), .c (.int .i64 (i : Nat))] 0) (fun i => i ≤ l.length ∧ (l.take i).all plC = true) (fun i => l.length - i) 0 [] [] ?_ ⟨Nat.zero_le _, rfl⟩ ?_
  · refine keep_mk ?_ .nil (Nat.le_refl _)
    simp only [pgs, pgl, pgx, GenE_cons, GenE_nil, gen_top, gen_c, gen_fz, Nat.reduceEqDiff, reduceIte, Nat.reduceAdd]
    exact of_eq_true (gen_c _ _ _)
  · rintro i ⟨hi, hall⟩ s hs
    simp only [mkS_at, pgs, pgl, Nat.reduceAdd] at hs
    subst hs
    rcases Nat.lt_or_ge i l.length with hlt | hge
    · have e4 : decide ((i : Int) < (l.length : Int)) = true := decide_eq_true (by omega)
      simp (disch := first | assumption | omega) only [pgs, pgl, pgx, Nat.reduceEqDiff, reduceIte, Nat.reduceAdd, e4, ixs, Int.toNat_natCast]
      have hcb := getD_lt ho i
      generalize hcd : l.getD i 0 = c at hcb
      have g1 := good38 c
      have g2 := good45 c
      have g3 := good39 c
      have g4 := good36 [95, 45, 46, 58, 47] c oct5 hcb
      have e5 := ix5 c
      have go : plC (l.getD i 0) = true → ∀ x : Nat → V, x 0 = .c (.string (sB l)) → x 6 = .c (.int .i64 l.length) → x 7 = .c (.int .i64 ((i : Int) + 1)) → ∀ n h, backC (fun i => mkS [.c (.string (sB l)), .top, .top, .top, .top, .top, .c (.int .i64 l.length), .c (.int .i64 (i : Nat))] 0) (fun i => i ≤ l.length ∧ (l.take i).all plC = true) (fun i => l.length - i) i ⟨x, fun _ => none, n, h⟩ := by
        intro hn x h0 h6 h7 n h
        refine back_at (i + 1) [] [] ⟨by omega, all_next hlt hall hn⟩ (by omega) (keep_mk ?_ .nil (Nat.zero_le _))
        simp only [pgs, pgl, pgx, GenE_cons, GenE_nil, gen_top, Nat.reduceAdd, h0, h6, h7, gen_c, Int.natCast_add, Int.cast_ofNat_Int]
      cases b1 : bt c 97 122 <;> rw [b1] at g1
      · refine callW_use _ g1 rfl rfl rfl rfl ?_
        simp only [pgs, pgl, pgx, Nat.reduceEqDiff, reduceIte, unNot]
        cases b2 : bt c 65 90 <;> rw [b2] at g2
        · refine callW_use _ g2 rfl rfl rfl rfl ?_
          simp only [pgs, pgl, pgx, Nat.reduceEqDiff, reduceIte, unNot]
          cases b3 : bt c 48 57 <;> rw [b3] at g3
          · refine callW_use _ g3 rfl rfl rfl rfl ?_
            simp only [pgs, pgl, pgx, Nat.reduceEqDiff, reduceIte, unNot]
            refine callW_use _ g4 rfl rfl rfl rfl ?_
            cases b4 : mk5 c <;> rw [b4] at e5
            · simp (disch := omega) only [pgs, pgl, pgx, Nat.reduceEqDiff, reduceIte, unNot, e5, i64w, headC_normal]
              exact go (by rw [hcd]; unfold plC; rw [b4]; simp) _ rfl rfl rfl _ _
            · have hn : plC (l.getD i 0) = false := by rw [hcd]; unfold plC; simp [b1, b2, b3, b4]
              rw [all_not hlt hn]
              simp (disch := omega) only [pgs, pgl, pgx, Nat.reduceEqDiff, reduceIte, unNot, e5, i64w, headC_ret]
              refine ret_at [] _ (retV_one _ _ _) .nil ?_ ?_
              · simp only [pgs, pgl, pgx, Nat.reduceEqDiff, reduceIte]
              · simp only [pgs, pgl, pgx, Nat.reduceEqDiff, reduceIte]
          · refine callW_use _ g3 rfl rfl rfl rfl ?_
            simp (disch := omega) only [pgs, pgl, pgx, Nat.reduceEqDiff, reduceIte, unNot, i64w, headC_normal]
            exact go (by rw [hcd]; unfold plC; rw [b3]; simp) _ rfl rfl rfl _ _
        · refine callW_use _ g2 rfl rfl rfl rfl ?_
          simp (disch := omega) only [pgs, pgl, pgx, Nat.reduceEqDiff, reduceIte, unNot, i64w, headC_normal]
          exact go (by rw [hcd]; unfold plC; rw [b2]; simp) _ rfl rfl rfl _ _
      · refine callW_use _ g1 rfl rfl rfl rfl ?_
        simp (disch := omega) only [pgs, pgl, pgx, Nat.reduceEqDiff, reduceIte, unNot, i64w, headC_normal]
        exact go (by rw [hcd]; unfold plC; rw [b1]; simp) _ rfl rfl rfl _ _
    · have hil : i = l.length := by omega
      subst hil
      rw [List.take_length] at hall
      rw [hall]
      have e4 : decide ((l.length : Int) < (l.length : Int)) = false := decide_eq_false (by omega)
      simp only [pgs, pgl, pgx, Nat.reduceEqDiff, reduceIte, Nat.reduceAdd, e4, headC_exit]
      refine ret_at [] _ (retV_one _ _ _) .nil ?_ ?_
      · simp only [pgs, pgl, pgx, Nat.reduceEqDiff, reduceIte]
      · simp only [pgs, pgl, pgx, Nat.reduceEqDiff, reduceIte]
end Go.Proofs.YtjiolbcdfgclaaaGreatDoor
end

section
/-
  Names: the reference's plain gives the same, of any string.
-/
namespace Go.Proofs.YtjiolbcdfgclaaaGreatDoor
open Go Go.Pg
set_option maxRecDepth 10000
set_option linter.unusedSimpArgs false

theorem good33 (l : List Nat) (ho : oct l) (hl : l.length ≤ 4294967296) : Pg.Good Tryz.prog 142 [.c (.string (sB l))] (.c (.bool (plain l))) := by
  refine good_intro (drawW_ok mix) Tryz.func142 rfl Tryz.results142 rfl (by kernel_rfl) (Nat.le_of_ble_eq_true (by kernel_rfl)) ?_
  unfold plain
  simp only [Tryz.f142, pgs, pgl, pgx, Nat.reduceEqDiff, reduceIte, is9, sB_size]
  refine loop_at (fun i => mkS [.c (.string (sB l)), .top, .top, .c (.int .i64 (i : Nat))] 0) (fun i => i ≤ l.length ∧ (l.take i).all plC = true) (fun i => l.length - i) 0 [] [] ?_ ⟨Nat.zero_le _, rfl⟩ ?_
  · refine keep_mk ?_ .nil (Nat.le_refl _)
    simp only [pgs, pgl, pgx, GenE_cons, GenE_nil, gen_top, gen_c, gen_fz, Nat.reduceEqDiff, reduceIte, Nat.reduceAdd]
    exact of_eq_true (gen_c _ _ _)
  · rintro i ⟨hi, hall⟩ s hs
    simp only [mkS_at, pgs, pgl, Nat.reduceAdd] at hs
    subst hs
    rcases Nat.lt_or_ge i l.length with hlt | hge
    · have e4 : decide ((i : Int) < (l.length : Int)) = true := decide_eq_true (by omega)
      simp (disch := first | assumption | omega) only [pgs, pgl, pgx, Nat.reduceEqDiff, reduceIte, Nat.reduceAdd, is9, sB_size, e4, ixs, Int.toNat_natCast]
      have hcb := getD_lt ho i
      generalize hcd : l.getD i 0 = c at hcb
      have g1 := good40 c 97 122
      have g2 := good40 c 65 90
      have g3 := good40 c 48 57
      have f1 : ((c : Int) != 95) = (c != 95) := neI c 95
      have f2 : ((c : Int) != 45) = (c != 45) := neI c 45
      have f3 : ((c : Int) != 46) = (c != 46) := neI c 46
      have f4 : ((c : Int) != 58) = (c != 58) := neI c 58
      have f5 : ((c : Int) != 47) = (c != 47) := neI c 47
      have go : plC (l.getD i 0) = true → ∀ x : Nat → V, x 0 = .c (.string (sB l)) → x 3 = .c (.int .i64 ((i : Int) + 1)) → ∀ n h, backC (fun i => mkS [.c (.string (sB l)), .top, .top, .c (.int .i64 (i : Nat))] 0) (fun i => i ≤ l.length ∧ (l.take i).all plC = true) (fun i => l.length - i) i ⟨x, fun _ => none, n, h⟩ := by
        intro hn x h0 h3 n h
        refine back_at (i + 1) [] [] ⟨by omega, all_next hlt hall hn⟩ (by omega) (keep_mk ?_ .nil (Nat.zero_le _))
        simp only [pgs, pgl, pgx, GenE_cons, GenE_nil, gen_top, Nat.reduceAdd, h0, h3, gen_c, Int.natCast_add, Int.cast_ofNat_Int]
      cases b1 : bt c 97 122 <;> rw [b1] at g1
      · refine callW_use _ g1 rfl rfl rfl rfl ?_
        simp only [pgs, pgl, pgx, Nat.reduceEqDiff, reduceIte, unNot]
        cases b2 : bt c 65 90 <;> rw [b2] at g2
        · refine callW_use _ g2 rfl rfl rfl rfl ?_
          simp only [pgs, pgl, pgx, Nat.reduceEqDiff, reduceIte, unNot]
          cases b3 : bt c 48 57 <;> rw [b3] at g3
          · refine callW_use _ g3 rfl rfl rfl rfl ?_
            cases a1 : (c != 95) <;> rw [a1] at f1
            · simp (disch := first | assumption | omega) only [pgs, pgl, pgx, Nat.reduceEqDiff, reduceIte, unNot, ixs, Int.toNat_natCast, hcd, i64w, f1, headC_normal]
              exact go (by rw [hcd]; unfold plC mk5; rw [a1]; simp) _ rfl rfl _ _
            cases a2 : (c != 45) <;> rw [a2] at f2
            · simp (disch := first | assumption | omega) only [pgs, pgl, pgx, Nat.reduceEqDiff, reduceIte, unNot, ixs, Int.toNat_natCast, hcd, i64w, f1, f2, headC_normal]
              exact go (by rw [hcd]; unfold plC mk5; rw [a1, a2]; simp) _ rfl rfl _ _
            cases a3 : (c != 46) <;> rw [a3] at f3
            · simp (disch := first | assumption | omega) only [pgs, pgl, pgx, Nat.reduceEqDiff, reduceIte, unNot, ixs, Int.toNat_natCast, hcd, i64w, f1, f2, f3, headC_normal]
              exact go (by rw [hcd]; unfold plC mk5; rw [a1, a2, a3]; simp) _ rfl rfl _ _
            cases a4 : (c != 58) <;> rw [a4] at f4
            · simp (disch := first | assumption | omega) only [pgs, pgl, pgx, Nat.reduceEqDiff, reduceIte, unNot, ixs, Int.toNat_natCast, hcd, i64w, f1, f2, f3, f4, headC_normal]
              exact go (by rw [hcd]; unfold plC mk5; rw [a1, a2, a3, a4]; simp) _ rfl rfl _ _
            cases a5 : (c != 47) <;> rw [a5] at f5
            · simp (disch := first | assumption | omega) only [pgs, pgl, pgx, Nat.reduceEqDiff, reduceIte, unNot, ixs, Int.toNat_natCast, hcd, i64w, f1, f2, f3, f4, f5, headC_normal]
              exact go (by rw [hcd]; unfold plC mk5; rw [a1, a2, a3, a4, a5]; simp) _ rfl rfl _ _
            have hn : plC (l.getD i 0) = false := by rw [hcd]; unfold plC mk5; rw [b1, b2, b3, a1, a2, a3, a4, a5]; rfl
            rw [all_not hlt hn]
            simp (disch := first | assumption | omega) only [pgs, pgl, pgx, Nat.reduceEqDiff, reduceIte, unNot, ixs, Int.toNat_natCast, hcd, i64w, f1, f2, f3, f4, f5, headC_ret]
            refine ret_at [] _ (retV_one _ _ _) .nil ?_ ?_
            · simp only [pgs, pgl, pgx, Nat.reduceEqDiff, reduceIte]
            · simp only [pgs, pgl, pgx, Nat.reduceEqDiff, reduceIte]
          · refine callW_use _ g3 rfl rfl rfl rfl ?_
            simp (disch := omega) only [pgs, pgl, pgx, Nat.reduceEqDiff, reduceIte, unNot, i64w, headC_normal]
            exact go (by rw [hcd]; unfold plC; rw [b3]; simp) _ rfl rfl _ _
        · refine callW_use _ g2 rfl rfl rfl rfl ?_
          simp (disch := omega) only [pgs, pgl, pgx, Nat.reduceEqDiff, reduceIte, unNot, i64w, headC_normal]
          exact go (by rw [hcd]; unfold plC; rw [b2]; simp) _ rfl rfl _ _
      · refine callW_use _ g1 rfl rfl rfl rfl ?_
        simp (disch := omega) only [pgs, pgl, pgx, Nat.reduceEqDiff, reduceIte, unNot, i64w, headC_normal]
        exact go (by rw [hcd]; unfold plC; rw [b1]; simp) _ rfl rfl _ _
    · have hil : i = l.length := by omega
      subst hil
      rw [List.take_length] at hall
      rw [hall]
      have e4 : decide ((l.length : Int) < (l.length : Int)) = false := decide_eq_false (by omega)
      simp only [pgs, pgl, pgx, Nat.reduceEqDiff, reduceIte, Nat.reduceAdd, is9, sB_size, e4, headC_exit]
      refine ret_at [] _ (retV_one _ _ _) .nil ?_ ?_
      · simp only [pgs, pgl, pgx, Nat.reduceEqDiff, reduceIte]
      · simp only [pgs, pgl, pgx, Nat.reduceEqDiff, reduceIte]
end Go.Proofs.YtjiolbcdfgclaaaGreatDoor
end

section
/-
  Names: the reference's Hex and FormatKey, of any string.
-/
namespace Go.Proofs.YtjiolbcdfgclaaaGreatDoor
open Go Go.Pg
set_option maxRecDepth 10000
set_option linter.unusedSimpArgs false

def hexd : List Nat := [48, 49, 50, 51, 52, 53, 54, 55, 56, 57, 97, 98, 99, 100, 101, 102]
theorem hexs : (⟨#[48, 49, 50, 51, 52, 53, 54, 55, 56, 57, 97, 98, 99, 100, 101, 102]⟩ : ByteArray) = sB hexd := by rfl
theorem hexd_oct : oct hexd := by intro b hb; simp [hexd] at hb; omega
theorem nils : (⟨#[]⟩ : ByteArray) = sB [] := by rfl
theorem pcts : (⟨#[37]⟩ : ByteArray) = sB [37] := by rfl
def hx (d : Nat) : Nat := hexd.getD d 0
def hexL (l : List Nat) : List Nat := l.flatMap fun c => [hx (c / 16), hx (c % 16)]
theorem hexL_next {l : List Nat} {i : Nat} (h : i < l.length) : hexL (l.take (i + 1)) = hexL (l.take i) ++ [hx (l.getD i 0 / 16)] ++ [hx (l.getD i 0 % 16)] := by
  rw [List.take_succ_eq_append_getElem h, hexL, List.flatMap_append]
  simp [hexL, List.getD, h]
theorem hexL_len (l : List Nat) : (hexL l).length = 2 * l.length := by
  induction l with
  | nil => rfl
  | cons a l ih => simp only [hexL, List.flatMap_cons, List.length_append, List.length_cons, List.length_nil] at ih ⊢; omega
theorem hx_lt (d : Nat) : hx d < 256 := getD_lt hexd_oct d
theorem hexL_oct (l : List Nat) : oct (hexL l) := by
  intro b hb
  obtain ⟨c, _, h⟩ := List.mem_flatMap.1 hb
  simp only [List.mem_cons, List.not_mem_nil, or_false] at h
  rcases h with rfl | rfl <;> exact hx_lt _
theorem hexs_at (d : Nat) (h : d < 16) : (hexd.take (d + 1)).drop d = [hx d] := by
  have : ∀ d : Fin 16, (hexd.take (d + 1)).drop d = [hx d] := by decide
  exact this ⟨d, h⟩
theorem shr4 (a : Nat) : Int.fdiv (a : Int) (2 ^ min (Int.toNat 4) IntKind.u8.bits) = ((a / 16 : Nat) : Int) := by
  show Int.fdiv (a : Int) ((16 : Nat) : Int) = _
  rw [Int.fdiv_eq_ediv_of_nonneg _ (Int.natCast_nonneg _), Int.natCast_ediv]
theorem and15 (a : Nat) (h : a < 256) : bits .and .u8 (a : Int) 15 = ((a % 16 : Nat) : Int) := by
  rw [u8_and15 _ (by omega) (by omega)]
  omega
theorem u8w (n : Int) (h : 0 ≤ n ∧ n ≤ 255) : IntKind.u8.wrap n = n := IntWalk.u8_in n h
theorem toN1 (a : Nat) : ((a : Int) + 1).toNat = a + 1 := by omega

theorem good34 (l : List Nat) (ho : oct l) (hl : l.length ≤ 4294967296) : Pg.Good Tryz.prog 90 [.c (.string (sB l))] (.c (.string (sB (hexL l)))) := by
  refine good_intro (drawW_ok mix) Tryz.func90 rfl Tryz.results90 rfl (by kernel_rfl) (Nat.le_of_ble_eq_true (by kernel_rfl)) ?_
  simp only [Tryz.f90, pgs, pgl, pgx, Nat.reduceEqDiff, reduceIte, is9, sB_size, nils]
  refine loop_at (fun i => mkS [.c (.string (sB l)), .top, .top, .c (.string (sB (hexL (l.take i)))), .c (.int .i64 (i : Nat))] 0) (fun i => i ≤ l.length) (fun i => l.length - i) 0 [] [] ?_ (Nat.zero_le _) ?_
  · refine keep_mk ?_ .nil (Nat.le_refl _)
    simp only [pgs, pgl, pgx, GenE_cons, GenE_nil, gen_top, gen_c, gen_fz, Nat.reduceEqDiff, reduceIte, Nat.reduceAdd]
    exact ⟨of_eq_true (gen_c _ _ _), of_eq_true (gen_c _ _ _)⟩
  · intro i hi s hs
    simp only [mkS_at, pgs, pgl, Nat.reduceAdd] at hs
    subst hs
    rcases Nat.lt_or_ge i l.length with hlt | hge
    · have e4 : decide ((i : Int) < (l.length : Int)) = true := decide_eq_true (by omega)
      have hb := getD_lt ho i
      have en := hexL_next hlt
      have hln := hexL_len (l.take i)
      rw [List.length_take, Nat.min_eq_left (by omega)] at hln
      have ha := hexs_at (l.getD i 0 / 16) (by omega)
      have hc := hexs_at (l.getD i 0 % 16) (by omega)
      have hxl : hexd.length = 16 := rfl
      simp (disch := first | assumption | omega | (simp only [hxl, List.length_append, List.length_cons, List.length_nil]; omega)) only [pgs, pgl, pgx, shrV, shlV, Nat.reduceEqDiff, reduceIte, Nat.reduceAdd, is9, sB_size, e4, ixs, Int.toNat_natCast, hexs, shr4, and15, u8w, sls, toN1, ha, hc, sadd, Int.reduceLT, i64w, headC_normal]
      refine ⟨by kernel_rfl, ?_⟩
      refine back_at (i + 1) [] [] (by omega) (by omega) (keep_mk ?_ .nil (Nat.le_refl _))
      simp only [pgs, pgl, pgx, GenE_cons, GenE_nil, gen_top, gen_c, gen_fz, Nat.reduceEqDiff, reduceIte, Nat.reduceAdd, Int.natCast_add, Int.cast_ofNat_Int, en]
    · have hil : i = l.length := by omega
      subst hil
      have e4 : decide ((l.length : Int) < (l.length : Int)) = false := decide_eq_false (by omega)
      simp only [pgs, pgl, pgx, Nat.reduceEqDiff, reduceIte, Nat.reduceAdd, is9, sB_size, e4, headC_exit, List.take_length]
      refine ret_at [] _ (retV_one _ _ _) .nil ?_ ?_
      · simp only [pgs, pgl, pgx, Nat.reduceEqDiff, reduceIte]
      · simp only [pgs, pgl, pgx, Nat.reduceEqDiff, reduceIte]
end Go.Proofs.YtjiolbcdfgclaaaGreatDoor
end

section
/-
  Names: the reference's FormatKey, of any string.
-/
namespace Go.Proofs.YtjiolbcdfgclaaaGreatDoor
open Go Go.Pg
set_option maxRecDepth 10000
set_option linter.unusedSimpArgs false

def fk (l : List Nat) : List Nat × Nat := if isKey l = false then ([], 7) else if plain l = true then (l, 0) else (37 :: hexL l, 0)
def fkV (l : List Nat) : V := .tup [.c (.string (sB (fk l).1)), .c (.int .i64 ((fk l).2 : Nat))]
theorem key_len {l : List Nat} (h : isKey l = true) : 1 ≤ l.length ∧ l.length ≤ 32 := by
  unfold isKey at h
  simp only [Bool.and_eq_true, decide_eq_true_eq] at h
  exact h
theorem good12 (l : List Nat) (ho : oct l) : Pg.Good Tryz.prog 91 [.c (.string (sB l))] (fkV l) := by
  refine good_intro (drawW_ok mix) Tryz.func91 rfl Tryz.results91 rfl (by kernel_rfl) (Nat.le_of_ble_eq_true (by kernel_rfl)) ?_
  have g1 := good18 l
  unfold fkV fk
  simp only [Tryz.f91, pgs, pgl, pgx, Nat.reduceEqDiff, reduceIte, nils]
  cases h1 : isKey l <;> rw [h1] at g1
  · refine callW_use _ g1 rfl rfl rfl rfl ?_
    simp only [pgs, pgl, pgx, Nat.reduceEqDiff, reduceIte, unNot, nils]
    refine ret_at [] _ (retV_two _ _ _ _) .nil ?_ ?_
    · simp only [pgs, pgl, pgx, Nat.reduceEqDiff, reduceIte]
    · simp only [pgs, pgl, pgx, Nat.reduceEqDiff, reduceIte] <;> rfl
  have hl := key_len h1
  have g2 := good33 l ho (by omega)
  have g3 := good34 l ho (by omega)
  have hxl := hexL_len l
  refine callW_use _ g1 rfl rfl rfl rfl ?_
  simp only [pgs, pgl, pgx, Nat.reduceEqDiff, reduceIte, unNot]
  cases h2 : plain l <;> rw [h2] at g2
  · refine callW_use _ g2 rfl rfl rfl rfl ?_
    simp only [pgs, pgl, pgx, Nat.reduceEqDiff, reduceIte]
    refine callW_use _ g3 rfl rfl rfl rfl ?_
    simp (disch := simp only [List.length_cons, List.length_nil]; omega) only [pgs, pgl, pgx, Nat.reduceEqDiff, reduceIte, pcts, sadd]
    refine ret_at [] _ (retV_two _ _ _ _) .nil ?_ ?_
    · simp only [pgs, pgl, pgx, Nat.reduceEqDiff, reduceIte]
    · simp only [pgs, pgl, pgx, Nat.reduceEqDiff, reduceIte] <;> rfl
  · refine callW_use _ g2 rfl rfl rfl rfl ?_
    simp only [pgs, pgl, pgx, Nat.reduceEqDiff, reduceIte]
    refine ret_at [] _ (retV_two _ _ _ _) .nil ?_ ?_
    · simp only [pgs, pgl, pgx, Nat.reduceEqDiff, reduceIte]
    · simp only [pgs, pgl, pgx, Nat.reduceEqDiff, reduceIte] <;> rfl
end Go.Proofs.YtjiolbcdfgclaaaGreatDoor
end
