/-
  Texts of this claim, merged. Each bears its own remark.
-/
import Derived.Test.YtjiolbcdfgclaaaGreatDoorWAD
import Derived.Test.YtjiolbcdfgclaaaGreatDoorTie
import Derived.Test.YtjiolbcdfgclaaaGreatDoorCards
import Derived.ProofKit
import Derived.LaidMore
import Derived.OpenShut
import Derived.Stop.Joined
import Derived.Stop.LaidErr
import Derived.SizedLaws
import Derived.ChangeMaps5
import Derived.SevenTiedAt
import Derived.HandedShaped
import Derived.Shelf.Vars
import Derived.Test.YtjiolbcdfgclaaaGreatDoorWAB
import Derived.Test.YtjiolbcdfgclaaaGreatDoorWAC
set_option linter.unusedVariables false
set_option linter.unusedSimpArgs false
set_option linter.unusedSectionVars false
section
/-
  Operations: the small checks.
-/
namespace Go.Proofs.YtjiolbcdfgclaaaGreatDoor
open Go Go.Pg
set_option maxRecDepth 100000
set_option linter.unusedSimpArgs false
set_option linter.unusedVariables false

def bwE (n a b : Int) : Int := if n < a ∨ b < n then 5 else 0
theorem g_between (n a b : Int) : Pg.Good Tryz.prog 129 [vi n, vi a, vi b] (vi (bwE n a b)) := by
  refine good_intro (drawW_ok mix) Tryz.func129 rfl Tryz.results129 rfl (by kernel_rfl) (Nat.le_of_ble_eq_true (by kernel_rfl)) ?_
  (repeat' (first | (simp (disch := first | assumption | omega | (simp only [Fits, maxLen, pgq] at *; omega)) only [pgo, pgb, tyf, buildSliceV_w, simprocAttr, Tryz.f129]) | ((first | ((with_reducible show condC _ _ _ _ _ _ _); refine cond_at (fun hc => ?_) (fun hc => ?_)) | ((with_reducible show guardC _ _ _ _ _ _ _ _); refine guard_at (fun hc => ?_) (fun hc => ?_)) | ((with_reducible show drwG _ _ _ _ _ _ _ _ _ _); refine drw_at (fun hc => ?_) (fun hc => ?_))) <;> (try simp only [hc]) <;> (try simp only [pgd] at hc)) | (with_reducible refine chk_at (by kernel_rfl) ?_)))
  all_goals (refine ret_at [] _ (by first | exact retV_one _ _ _ | exact retV_two _ _ _ _ | exact retV_three _ _ _ _ _ | exact retV_four _ _ _ _ _ _ | (simp (disch := first | assumption | omega | (simp only [Fits, maxLen, pgq] at *; omega)) only [pgr, pgo, tyf, simprocAttr]; rfl)) (by decide) (by simp only [pgo, simprocAttr]) ?_; (first | rfl | simp only [pgo, simprocAttr]))
  (all_goals (unfold bwE; (repeat' split) <;> first | rfl | (exfalso; omega)))
def nmE (l : List Nat) : Int := if isName l = true then 0 else 6
theorem g_name (l : List Nat) (ho : oct l) : Pg.Good Tryz.prog 124 [vs l] (vi (nmE l)) := by
  have h := good16 l ho
  unfold nmE
  refine good_intro (drawW_ok mix) Tryz.func124 rfl Tryz.results124 rfl (by kernel_rfl) (Nat.le_of_ble_eq_true (by kernel_rfl)) ?_
  cases hn : isName l <;> rw [hn] at h
  · (repeat' (first | (simp (disch := first | assumption | omega | (simp only [Fits, maxLen, pgq] at *; omega)) only [pgo, pgb, tyf, buildSliceV_w, simprocAttr, Tryz.f124]) | ((with_reducible show callW _ _ _ _ _ _); first | refine callW_use _ (h) rfl rfl rfl rfl ?_) | ((first | ((with_reducible show condC _ _ _ _ _ _ _); refine cond_at (fun hc => ?_) (fun hc => ?_)) | ((with_reducible show guardC _ _ _ _ _ _ _ _); refine guard_at (fun hc => ?_) (fun hc => ?_)) | ((with_reducible show drwG _ _ _ _ _ _ _ _ _ _); refine drw_at (fun hc => ?_) (fun hc => ?_))) <;> (try simp only [hc]) <;> (try simp only [pgd] at hc)) | (with_reducible refine chk_at (by kernel_rfl) ?_)))
    (refine ret_at [] _ (by first | exact retV_one _ _ _ | exact retV_two _ _ _ _ | exact retV_three _ _ _ _ _ | exact retV_four _ _ _ _ _ _ | (simp (disch := first | assumption | omega | (simp only [Fits, maxLen, pgq] at *; omega)) only [pgr, pgo, tyf, simprocAttr]; rfl)) (by decide) (by simp only [pgo, simprocAttr]) ?_; (first | rfl | simp only [pgo, simprocAttr]))
  · (repeat' (first | (simp (disch := first | assumption | omega | (simp only [Fits, maxLen, pgq] at *; omega)) only [pgo, pgb, tyf, buildSliceV_w, simprocAttr, Tryz.f124]) | ((with_reducible show callW _ _ _ _ _ _); first | refine callW_use _ (h) rfl rfl rfl rfl ?_) | ((first | ((with_reducible show condC _ _ _ _ _ _ _); refine cond_at (fun hc => ?_) (fun hc => ?_)) | ((with_reducible show guardC _ _ _ _ _ _ _ _); refine guard_at (fun hc => ?_) (fun hc => ?_)) | ((with_reducible show drwG _ _ _ _ _ _ _ _ _ _); refine drw_at (fun hc => ?_) (fun hc => ?_))) <;> (try simp only [hc]) <;> (try simp only [pgd] at hc)) | (with_reducible refine chk_at (by kernel_rfl) ?_)))
    (refine ret_at [] _ (by first | exact retV_one _ _ _ | exact retV_two _ _ _ _ | exact retV_three _ _ _ _ _ | exact retV_four _ _ _ _ _ _ | (simp (disch := first | assumption | omega | (simp only [Fits, maxLen, pgq] at *; omega)) only [pgr, pgo, tyf, simprocAttr]; rfl)) (by decide) (by simp only [pgo, simprocAttr]) ?_; (first | rfl | simp only [pgo, simprocAttr]))
def shE (l : List Nat) (m : Int) : Int := if m < l.length then 11 else 0
theorem g_short (l : List Nat) (m : Int) : Pg.Good Tryz.prog 128 [fzb l, vi m] (vi (shE l m)) := by
  refine good_intro (drawW_ok mix) Tryz.func128 rfl Tryz.results128 rfl (by kernel_rfl) (Nat.le_of_ble_eq_true (by kernel_rfl)) ?_
  (repeat' (first | (simp (disch := first | assumption | omega | (simp only [Fits, maxLen, pgq] at *; omega)) only [pgo, pgb, tyf, buildSliceV_w, simprocAttr, Tryz.f128, bv_len]) | ((first | ((with_reducible show condC _ _ _ _ _ _ _); refine cond_at (fun hc => ?_) (fun hc => ?_)) | ((with_reducible show guardC _ _ _ _ _ _ _ _); refine guard_at (fun hc => ?_) (fun hc => ?_)) | ((with_reducible show drwG _ _ _ _ _ _ _ _ _ _); refine drw_at (fun hc => ?_) (fun hc => ?_))) <;> (try simp only [hc]) <;> (try simp only [pgd] at hc)) | (with_reducible refine chk_at (by kernel_rfl) ?_)))
  all_goals (refine ret_at [] _ (by first | exact retV_one _ _ _ | exact retV_two _ _ _ _ | exact retV_three _ _ _ _ _ | exact retV_four _ _ _ _ _ _ | (simp (disch := first | assumption | omega | (simp only [Fits, maxLen, pgq] at *; omega)) only [pgr, pgo, tyf, simprocAttr]; rfl)) (by decide) (by simp only [pgo, simprocAttr]) ?_; (first | rfl | simp only [pgo, simprocAttr]))
  (all_goals (unfold shE; (repeat' split) <;> first | rfl | (exfalso; omega)))
/-- The first error in a list. -/
def fstE {α : Type} (f : α → Int) : List α → Int
  | [] => 0
  | x :: l => if f x ≠ 0 then f x else fstE f l
theorem fstE_app {α : Type} (f : α → Int) (a b : List α) (h : fstE f a = 0) : fstE f (a ++ b) = fstE f b := by
  induction a with
  | nil => rfl
  | cons x a ih =>
    simp only [fstE, List.cons_append] at h ⊢
    by_cases hx : f x = 0
    · rw [if_neg (by omega)] at h ⊢; exact ih h
    · rw [if_pos hx] at h; exact absurd h hx
theorem fstE_at {α : Type} (f : α → Int) (l : List α) (i : Nat) (x : α) (hx : l[i]? = some x) (h : fstE f (l.take i) = 0) (hf : f x ≠ 0) : fstE f l = f x := by
  have hi := (List.getElem?_eq_some_iff.1 hx).1
  have e : l = l.take i ++ x :: l.drop (i + 1) := by
    have h1 : l.drop i = x :: l.drop (i + 1) := by rw [List.drop_eq_getElem_cons hi]; simp [(List.getElem?_eq_some_iff.1 hx).2]
    rw [← h1, List.take_append_drop]
  rw [e, fstE_app f _ _ h]
  simp [fstE, hf]
theorem fstE_next {α : Type} (f : α → Int) (l : List α) (i : Nat) (x : α) (hx : l[i]? = some x) (h : fstE f (l.take i) = 0) (hf : f x = 0) : fstE f (l.take (i + 1)) = 0 := by
  have hi := (List.getElem?_eq_some_iff.1 hx).1
  rw [List.take_succ_eq_append_getElem hi, fstE_app f _ _ h, (List.getElem?_eq_some_iff.1 hx).2]
  simp [fstE, hf]
theorem getD_some {α : Type} (l : List α) (i : Nat) (d : α) (h : i < l.length) : l[i]? = some (l.getD i d) := by simp [List.getD, h]
def lsE (l : List (List Nat)) : Int := if l.length < 1 ∨ 16 < l.length then 5 else fstE nmE l
theorem g_list (l : List (List Nat)) (ho : ∀ x ∈ l, oct x) : Pg.Good Tryz.prog 125 [fzs l] (vi (lsE l)) := by
  refine good_intro (drawW_ok mix) Tryz.func125 rfl Tryz.results125 rfl (by kernel_rfl) (Nat.le_of_ble_eq_true (by kernel_rfl)) ?_
  have hb := g_between (l.length : Int) 1 16
  have hl := sv_len l
  unfold lsE
  by_cases hs : l.length < 1 ∨ 16 < l.length
  · rw [show bwE (l.length : Int) 1 16 = 5 from if_pos (by omega)] at hb
    rw [if_pos hs]
    (repeat' (first | (simp (disch := first | assumption | omega | (simp only [Fits, maxLen, pgq] at *; omega)) only [pgo, pgb, tyf, buildSliceV_w, simprocAttr, Tryz.f125, sv_len]) | ((with_reducible show callW _ _ _ _ _ _); first | refine callW_use _ (hb) rfl rfl rfl rfl ?_) | ((first | ((with_reducible show condC _ _ _ _ _ _ _); refine cond_at (fun hc => ?_) (fun hc => ?_)) | ((with_reducible show guardC _ _ _ _ _ _ _ _); refine guard_at (fun hc => ?_) (fun hc => ?_)) | ((with_reducible show drwG _ _ _ _ _ _ _ _ _ _); refine drw_at (fun hc => ?_) (fun hc => ?_))) <;> (try simp only [hc]) <;> (try simp only [pgd] at hc)) | (with_reducible refine chk_at (by kernel_rfl) ?_)))
    (refine ret_at [] _ (by first | exact retV_one _ _ _ | exact retV_two _ _ _ _ | exact retV_three _ _ _ _ _ | exact retV_four _ _ _ _ _ _ | (simp (disch := first | assumption | omega | (simp only [Fits, maxLen, pgq] at *; omega)) only [pgr, pgo, tyf, simprocAttr]; rfl)) (by decide) (by simp only [pgo, simprocAttr]) ?_; (first | rfl | simp only [pgo, simprocAttr]))
  · rw [show bwE (l.length : Int) 1 16 = 0 from if_neg (by omega)] at hb
    rw [if_neg hs]
    (repeat' (first | (simp (disch := first | assumption | omega | (simp only [Fits, maxLen, pgq] at *; omega)) only [pgo, pgb, tyf, buildSliceV_w, simprocAttr, Tryz.f125, sv_len]) | ((with_reducible show callW _ _ _ _ _ _); first | refine callW_use _ (hb) rfl rfl rfl rfl ?_) | ((first | ((with_reducible show condC _ _ _ _ _ _ _); refine cond_at (fun hc => ?_) (fun hc => ?_)) | ((with_reducible show guardC _ _ _ _ _ _ _ _); refine guard_at (fun hc => ?_) (fun hc => ?_)) | ((with_reducible show drwG _ _ _ _ _ _ _ _ _ _); refine drw_at (fun hc => ?_) (fun hc => ?_))) <;> (try simp only [hc]) <;> (try simp only [pgd] at hc)) | (with_reducible refine chk_at (by kernel_rfl) ?_)))
    refine loop_A (fun i : Nat => mkA [(13, fzs l), (14, vi l.length), (15, vi i)] [] 0 (fun _ => .top)) (fun i => i ≤ l.length ∧ fstE nmE (l.take i) = 0) (fun i => l.length - i) 0 [] [] ?_ ⟨Nat.zero_le _, rfl⟩ ?_
    · (refine keep_mkA ?_ ?_ (top_hd _ _ _) (by decide) (by decide) (by decide) (by decide); (repeat' (first | exact trivial | refine genB_one _ _ rfl rfl ?_ ?_)); all_goals (try simp only [pgs, pgl, pgx, pgf, pgw, GenA_cons, GenA_nil, GenL_cons, GenL_nil, gen_top, gen_c, gen_fz, pgn, simprocAttr]); all_goals (try (repeat' (first | apply And.intro))); all_goals (try (first | exact trivial | exact gen_ii (by omega) | exact gen_cc rfl | exact gen_own rfl rfl | exact gen_ref rfl)))
    · rintro i ⟨hi, he⟩
      rcases Nat.lt_or_ge i l.length with hlt | hge
      · have hg := sv_get l i hlt
        have hx := getD_some l i [] hlt
        have hn := g_name (l.getD i []) (ho _ (by rw [List.getD_eq_getElem?_getD, List.getElem?_eq_getElem hlt]; exact List.getElem_mem hlt))
        have h1 := fstE_at nmE l i _ hx he
        have h2 := fstE_next nmE l i _ hx he
        generalize l.getD i [] = x at hg hn h1 h2
        by_cases hn0 : nmE x = 0
        · (repeat' (first | (simp (disch := first | assumption | omega | (simp only [Fits, maxLen, pgq] at *; omega)) only [pgo, pgb, tyf, buildSliceV_w, simprocAttr, hg, sv_len, hn0]) | ((with_reducible show callW _ _ _ _ _ _); first | refine callW_use _ (hn) rfl rfl rfl rfl ?_) | ((first | ((with_reducible show condC _ _ _ _ _ _ _); refine cond_at (fun hc => ?_) (fun hc => ?_)) | ((with_reducible show guardC _ _ _ _ _ _ _ _); refine guard_at (fun hc => ?_) (fun hc => ?_)) | ((with_reducible show drwG _ _ _ _ _ _ _ _ _ _); refine drw_at (fun hc => ?_) (fun hc => ?_))) <;> (try simp only [hc]) <;> (try simp only [pgd] at hc)) | (with_reducible refine chk_at (by kernel_rfl) ?_)))
          (refine back_at (i + 1) [] [] (⟨hlt, h2 hn0⟩) (by first | omega | (simp only [List.length_cons]; omega)) ?_; (refine keep_mkA ?_ ?_ (top_hd _ _ _) (by decide) (by decide) (by decide) (by decide); (repeat' (first | exact trivial | refine genB_one _ _ rfl rfl ?_ ?_)); all_goals (try simp only [pgs, pgl, pgx, pgf, pgw, GenA_cons, GenA_nil, GenL_cons, GenL_nil, gen_top, gen_c, gen_fz, pgn, simprocAttr]); all_goals (try (repeat' (first | apply And.intro))); all_goals (try (first | exact trivial | exact gen_ii (by omega) | exact gen_cc rfl | exact gen_own rfl rfl | exact gen_ref rfl))))
        · rw [h1 hn0]
          (repeat' (first | (simp (disch := first | assumption | omega | (simp only [Fits, maxLen, pgq] at *; omega)) only [pgo, pgb, tyf, buildSliceV_w, simprocAttr, hg, sv_len, hn0]) | ((with_reducible show callW _ _ _ _ _ _); first | refine callW_use _ (hn) rfl rfl rfl rfl ?_) | ((first | ((with_reducible show condC _ _ _ _ _ _ _); refine cond_at (fun hc => ?_) (fun hc => ?_)) | ((with_reducible show guardC _ _ _ _ _ _ _ _); refine guard_at (fun hc => ?_) (fun hc => ?_)) | ((with_reducible show drwG _ _ _ _ _ _ _ _ _ _); refine drw_at (fun hc => ?_) (fun hc => ?_))) <;> (try simp only [hc]) <;> (try simp only [pgd] at hc)) | (with_reducible refine chk_at (by kernel_rfl) ?_)))
          (refine ret_at [] _ (by first | exact retV_one _ _ _ | exact retV_two _ _ _ _ | exact retV_three _ _ _ _ _ | exact retV_four _ _ _ _ _ _ | (simp (disch := first | assumption | omega | (simp only [Fits, maxLen, pgq] at *; omega)) only [pgr, pgo, tyf, simprocAttr]; rfl)) (by decide) (by simp only [pgo, simprocAttr]) ?_; (first | rfl | simp only [pgo, simprocAttr]))
      · have : i = l.length := by omega
        subst this
        rw [List.take_length] at he
        rw [he]
        (repeat' (first | (simp (disch := first | assumption | omega | (simp only [Fits, maxLen, pgq] at *; omega)) only [pgo, pgb, tyf, buildSliceV_w, simprocAttr, sv_len]) | ((first | ((with_reducible show condC _ _ _ _ _ _ _); refine cond_at (fun hc => ?_) (fun hc => ?_)) | ((with_reducible show guardC _ _ _ _ _ _ _ _); refine guard_at (fun hc => ?_) (fun hc => ?_)) | ((with_reducible show drwG _ _ _ _ _ _ _ _ _ _); refine drw_at (fun hc => ?_) (fun hc => ?_))) <;> (try simp only [hc]) <;> (try simp only [pgd] at hc)) | (with_reducible refine chk_at (by kernel_rfl) ?_)))
        (refine ret_at [] _ (by first | exact retV_one _ _ _ | exact retV_two _ _ _ _ | exact retV_three _ _ _ _ _ | exact retV_four _ _ _ _ _ _ | (simp (disch := first | assumption | omega | (simp only [Fits, maxLen, pgq] at *; omega)) only [pgr, pgo, tyf, simprocAttr]; rfl)) (by decide) (by simp only [pgo, simprocAttr]) ?_; (first | rfl | simp only [pgo, simprocAttr]))
def vitE (x : List Nat × Int) : Int := vitem x.1 x.2
def itE (l : List (List Nat × Int)) : Int := if l.length < 1 ∨ 64 < l.length then 5 else fstE vitE l
theorem g_items (l : List (List Nat × Int)) : Pg.Good Tryz.prog 127 [fzt l] (vi (itE l)) := by
  refine good_intro (drawW_ok mix) Tryz.func127 rfl Tryz.results127 rfl (by kernel_rfl) (Nat.le_of_ble_eq_true (by kernel_rfl)) ?_
  have hb := g_between (l.length : Int) 1 64
  have hl := itv_len l
  unfold itE
  by_cases hs : l.length < 1 ∨ 64 < l.length
  · rw [show bwE (l.length : Int) 1 64 = 5 from if_pos (by omega)] at hb
    rw [if_pos hs]
    (repeat' (first | (simp (disch := first | assumption | omega | (simp only [Fits, maxLen, pgq] at *; omega)) only [pgo, pgb, tyf, buildSliceV_w, simprocAttr, Tryz.f127, itv_len]) | ((with_reducible show callW _ _ _ _ _ _); first | refine callW_use _ (hb) rfl rfl rfl rfl ?_) | ((first | ((with_reducible show condC _ _ _ _ _ _ _); refine cond_at (fun hc => ?_) (fun hc => ?_)) | ((with_reducible show guardC _ _ _ _ _ _ _ _); refine guard_at (fun hc => ?_) (fun hc => ?_)) | ((with_reducible show drwG _ _ _ _ _ _ _ _ _ _); refine drw_at (fun hc => ?_) (fun hc => ?_))) <;> (try simp only [hc]) <;> (try simp only [pgd] at hc)) | (with_reducible refine chk_at (by kernel_rfl) ?_)))
    (refine ret_at [] _ (by first | exact retV_one _ _ _ | exact retV_two _ _ _ _ | exact retV_three _ _ _ _ _ | exact retV_four _ _ _ _ _ _ | (simp (disch := first | assumption | omega | (simp only [Fits, maxLen, pgq] at *; omega)) only [pgr, pgo, tyf, simprocAttr]; rfl)) (by decide) (by simp only [pgo, simprocAttr]) ?_; (first | rfl | simp only [pgo, simprocAttr]))
  · rw [show bwE (l.length : Int) 1 64 = 0 from if_neg (by omega)] at hb
    rw [if_neg hs]
    (repeat' (first | (simp (disch := first | assumption | omega | (simp only [Fits, maxLen, pgq] at *; omega)) only [pgo, pgb, tyf, buildSliceV_w, simprocAttr, Tryz.f127, itv_len]) | ((with_reducible show callW _ _ _ _ _ _); first | refine callW_use _ (hb) rfl rfl rfl rfl ?_) | ((first | ((with_reducible show condC _ _ _ _ _ _ _); refine cond_at (fun hc => ?_) (fun hc => ?_)) | ((with_reducible show guardC _ _ _ _ _ _ _ _); refine guard_at (fun hc => ?_) (fun hc => ?_)) | ((with_reducible show drwG _ _ _ _ _ _ _ _ _ _); refine drw_at (fun hc => ?_) (fun hc => ?_))) <;> (try simp only [hc]) <;> (try simp only [pgd] at hc)) | (with_reducible refine chk_at (by kernel_rfl) ?_)))
    refine loop_A (fun i : Nat => mkA [(13, fzt l), (14, vi l.length), (15, vi i)] [] 0 (fun _ => .top)) (fun i => i ≤ l.length ∧ fstE vitE (l.take i) = 0) (fun i => l.length - i) 0 [] [] ?_ ⟨Nat.zero_le _, rfl⟩ ?_
    · (refine keep_mkA ?_ ?_ (top_hd _ _ _) (by decide) (by decide) (by decide) (by decide); (repeat' (first | exact trivial | refine genB_one _ _ rfl rfl ?_ ?_)); all_goals (try simp only [pgs, pgl, pgx, pgf, pgw, GenA_cons, GenA_nil, GenL_cons, GenL_nil, gen_top, gen_c, gen_fz, pgn, simprocAttr]); all_goals (try (repeat' (first | apply And.intro))); all_goals (try (first | exact trivial | exact gen_ii (by omega) | exact gen_cc rfl | exact gen_own rfl rfl | exact gen_ref rfl)))
    · rintro i ⟨hi, he⟩
      rcases Nat.lt_or_ge i l.length with hlt | hge
      · have hg := itv_get l i hlt
        have hx := getD_some l i ([], 0) hlt
        have h1 := fstE_at vitE l i _ hx he
        have h2 := fstE_next vitE l i _ hx he
        generalize l.getD i ([], 0) = x at hg h1 h2
        obtain ⟨k, n⟩ := x
        have hn := g_ValidateItem k n
        have hv : vitE (k, n) = vitem k n := rfl
        rw [hv] at h1 h2
        by_cases hn0 : vitem k n = 0
        · (repeat' (first | (simp (disch := first | assumption | omega | (simp only [Fits, maxLen, pgq] at *; omega)) only [pgo, pgb, tyf, buildSliceV_w, simprocAttr, hg, itv_len, hn0]) | ((with_reducible show callW _ _ _ _ _ _); first | refine callW_use _ (hn) rfl rfl rfl rfl ?_) | ((first | ((with_reducible show condC _ _ _ _ _ _ _); refine cond_at (fun hc => ?_) (fun hc => ?_)) | ((with_reducible show guardC _ _ _ _ _ _ _ _); refine guard_at (fun hc => ?_) (fun hc => ?_)) | ((with_reducible show drwG _ _ _ _ _ _ _ _ _ _); refine drw_at (fun hc => ?_) (fun hc => ?_))) <;> (try simp only [hc]) <;> (try simp only [pgd] at hc)) | (with_reducible refine chk_at (by kernel_rfl) ?_)))
          (refine back_at (i + 1) [] [] (⟨hlt, h2 hn0⟩) (by first | omega | (simp only [List.length_cons]; omega)) ?_; (refine keep_mkA ?_ ?_ (top_hd _ _ _) (by decide) (by decide) (by decide) (by decide); (repeat' (first | exact trivial | refine genB_one _ _ rfl rfl ?_ ?_)); all_goals (try simp only [pgs, pgl, pgx, pgf, pgw, GenA_cons, GenA_nil, GenL_cons, GenL_nil, gen_top, gen_c, gen_fz, pgn, simprocAttr]); all_goals (try (repeat' (first | apply And.intro))); all_goals (try (first | exact trivial | exact gen_ii (by omega) | exact gen_cc rfl | exact gen_own rfl rfl | exact gen_ref rfl))))
        · rw [h1 hn0]
          (repeat' (first | (simp (disch := first | assumption | omega | (simp only [Fits, maxLen, pgq] at *; omega)) only [pgo, pgb, tyf, buildSliceV_w, simprocAttr, hg, itv_len, hn0]) | ((with_reducible show callW _ _ _ _ _ _); first | refine callW_use _ (hn) rfl rfl rfl rfl ?_) | ((first | ((with_reducible show condC _ _ _ _ _ _ _); refine cond_at (fun hc => ?_) (fun hc => ?_)) | ((with_reducible show guardC _ _ _ _ _ _ _ _); refine guard_at (fun hc => ?_) (fun hc => ?_)) | ((with_reducible show drwG _ _ _ _ _ _ _ _ _ _); refine drw_at (fun hc => ?_) (fun hc => ?_))) <;> (try simp only [hc]) <;> (try simp only [pgd] at hc)) | (with_reducible refine chk_at (by kernel_rfl) ?_)))
          (refine ret_at [] _ (by first | exact retV_one _ _ _ | exact retV_two _ _ _ _ | exact retV_three _ _ _ _ _ | exact retV_four _ _ _ _ _ _ | (simp (disch := first | assumption | omega | (simp only [Fits, maxLen, pgq] at *; omega)) only [pgr, pgo, tyf, simprocAttr]; rfl)) (by decide) (by simp only [pgo, simprocAttr]) ?_; (first | rfl | simp only [pgo, simprocAttr]))
      · have : i = l.length := by omega
        subst this
        rw [List.take_length] at he
        rw [he]
        (repeat' (first | (simp (disch := first | assumption | omega | (simp only [Fits, maxLen, pgq] at *; omega)) only [pgo, pgb, tyf, buildSliceV_w, simprocAttr, itv_len]) | ((first | ((with_reducible show condC _ _ _ _ _ _ _); refine cond_at (fun hc => ?_) (fun hc => ?_)) | ((with_reducible show guardC _ _ _ _ _ _ _ _); refine guard_at (fun hc => ?_) (fun hc => ?_)) | ((with_reducible show drwG _ _ _ _ _ _ _ _ _ _); refine drw_at (fun hc => ?_) (fun hc => ?_))) <;> (try simp only [hc]) <;> (try simp only [pgd] at hc)) | (with_reducible refine chk_at (by kernel_rfl) ?_)))
        (refine ret_at [] _ (by first | exact retV_one _ _ _ | exact retV_two _ _ _ _ | exact retV_three _ _ _ _ _ | exact retV_four _ _ _ _ _ _ | (simp (disch := first | assumption | omega | (simp only [Fits, maxLen, pgq] at *; omega)) only [pgr, pgo, tyf, simprocAttr]; rfl)) (by decide) (by simp only [pgo, simprocAttr]) ?_; (first | rfl | simp only [pgo, simprocAttr]))
/-- What a query's check answers. -/
def vq (k : Int) (key : List Nat) (c n d : Int) : Int :=
  if k < 1 ∨ 7 < k then 8 else
  if (k = 2 ∨ k = 6) ∧ ¬ (1 ≤ key.length ∧ key.length ≤ 32) then 7 else
  if k = 5 ∧ (c < 0 ∨ 32 < c) then 5 else
  if k = 7 ∧ (d < 1 ∨ 1000000 < d ∨ n < 0 ∨ d < n) then 5 else
  if (¬ (k = 2 ∨ k = 6) ∧ 0 < key.length) ∨ (k ≠ 5 ∧ c ≠ 0) ∨ (k ≠ 7 ∧ (n ≠ 0 ∨ d ≠ 0)) then 18 else 0
end Go.Proofs.YtjiolbcdfgclaaaGreatDoor
end

section
/-
  Operations: which fields a kind uses, a field's check, Validate; of any operation.
-/
namespace Go.Proofs.YtjiolbcdfgclaaaGreatDoor
open Go Go.Pg
set_option maxRecDepth 100000
set_option linter.unusedSimpArgs false
set_option linter.unusedVariables false

/-- The fields that a kind uses. -/
def usesL (k : Int) : List Int :=
  if k = 1 then [0, 3] else if k = 2 then [0] else if k = 3 then [0, 1] else if k = 5 then [0, 12] else if k = 6 then [0, 4, 5] else if k = 7 then [0, 1, 5] else if k = 8 then [0, 1, 5, 6, 7] else if k = 9 then [2]
  else if k = 10 then [8, 9, 12] else if k = 11 then [8] else if k = 12 ∨ k = 15 then [8, 9] else if k = 13 then [10, 11] else if k = 14 then [10] else if k = 16 then [0, 13] else []
def usV (k : Int) : V := if k = 4 ∨ k = 17 then .sl .nn 1 [] else if k < 1 ∨ 17 < k then nls else .sl (.own 0 3) 1 (iv (usesL k))
set_option maxHeartbeats 2000000 in
theorem g_uses (k : Int) : Pg.Good Tryz.prog 72 [vi k] (usV k) := by
  refine good_intro (drawW_ok mix) Tryz.func72 rfl Tryz.results72 rfl (by kernel_rfl) (Nat.le_of_ble_eq_true (by kernel_rfl)) ?_
  (repeat' (first | (simp (disch := first | assumption | omega | (simp only [Fits, maxLen, pgq] at *; omega)) only [pgo, pgb, tyf, buildSliceV_w, simprocAttr, Tryz.f72]) | ((first | ((with_reducible show condC _ _ _ _ _ _ _); refine cond_at (fun hc => ?_) (fun hc => ?_)) | ((with_reducible show guardC _ _ _ _ _ _ _ _); refine guard_at (fun hc => ?_) (fun hc => ?_)) | ((with_reducible show drwG _ _ _ _ _ _ _ _ _ _); refine drw_at (fun hc => ?_) (fun hc => ?_))) <;> (try simp only [hc]) <;> (try simp only [pgd] at hc)) | (with_reducible refine chk_at (by kernel_rfl) ?_)))
  all_goals (refine ret_at [0] _ (by first | exact retV_one _ _ _ | exact retV_two _ _ _ _ | exact retV_three _ _ _ _ _ | exact retV_four _ _ _ _ _ _ | (simp (disch := first | assumption | omega | (simp only [Fits, maxLen, pgq] at *; omega)) only [pgr, pgo, tyf, simprocAttr]; rfl)) (by decide) (by simp only [pgo, simprocAttr]) ?_; (first | rfl | simp only [pgo, simprocAttr]))
  all_goals first | (subst_vars; rfl) | (rw [usV, if_neg (by omega), if_pos (by omega)])
/-- A field's error. -/
def chk (o : O) : Nat → Int
  | 0 => nmE o.name
  | 1 => nmE o.other
  | 2 => lsE o.names
  | 3 => vp o.pk o.pz o.pd o.ps
  | 4 => itE o.items
  | 5 => shE o.coins 64
  | 6 => bwE o.exp 1 1048576
  | 7 => bwE o.src 1 1048576
  | 8 => bwE o.hnd 0 3
  | 9 => bwE o.idx 0 15
  | 10 => bwE o.cur 0 3
  | 11 => bwE o.cnt 0 32
  | 12 => vq o.qk o.qkey o.qc o.qn o.qd
  | _ => shE o.data 65536
def O.Oct (o : O) : Prop := oct o.name ∧ oct o.other ∧ (∀ x ∈ o.names, oct x) ∧ (∀ x ∈ o.items, oct x.1) ∧ oct o.coins ∧ oct o.qkey ∧ oct o.data
end Go.Proofs.YtjiolbcdfgclaaaGreatDoor
end

section
/-
  Queries: their check.
-/
namespace Go.Proofs.YtjiolbcdfgclaaaGreatDoor
open Go Go.Pg
set_option maxRecDepth 100000
set_option linter.unusedSimpArgs false
set_option linter.unusedVariables false

set_option maxHeartbeats 2000000 in
theorem g_query (k : Int) (key : List Nat) (c n d : Int) : Pg.Good Tryz.prog 130 [.agg [vi k, vs key, vi c, vi n, vi d]] (vi (vq k key c n d)) := by
  refine good_intro (drawW_ok mix) Tryz.func130 rfl Tryz.results130 rfl (by kernel_rfl) (Nat.le_of_ble_eq_true (by kernel_rfl)) ?_
  skip
  (repeat' (first | (simp (disch := first | assumption | omega | (simp only [Fits, maxLen, pgq] at *; omega)) only [pgo, pgb, tyf, buildSliceV_w, simprocAttr, Tryz.f130, seq_nl]) | ((with_reducible show callW _ _ _ _ _ _); first | refine callW_use _ (good15 _) rfl rfl rfl rfl ?_) | ((first | ((with_reducible show condC _ _ _ _ _ _ _); refine cond_at (fun hc => ?_) (fun hc => ?_)) | ((with_reducible show guardC _ _ _ _ _ _ _ _); refine guard_at (fun hc => ?_) (fun hc => ?_)) | ((with_reducible show drwG _ _ _ _ _ _ _ _ _ _); refine drw_at (fun hc => ?_) (fun hc => ?_))) <;> (try simp only [hc]) <;> (try simp only [pgd, isKey_t, isKey_f] at hc)) | (with_reducible refine chk_at (by kernel_rfl) ?_)))
  all_goals (refine ret_at [] _ (by first | exact retV_one _ _ _ | exact retV_two _ _ _ _ | exact retV_three _ _ _ _ _ | exact retV_four _ _ _ _ _ _ | (simp (disch := first | assumption | omega | (simp only [Fits, maxLen, pgq] at *; omega)) only [pgr, pgo, tyf, simprocAttr]; rfl)) (by decide) (by simp only [pgo, simprocAttr]) ?_; (first | rfl | simp only [pgo, simprocAttr]))
  (all_goals (unfold vq; (repeat' split) <;> first | rfl | (exfalso; omega)))
end Go.Proofs.YtjiolbcdfgclaaaGreatDoor
end

section
/-
  Operations: a field's check; whether it is zero.
-/
namespace Go.Proofs.YtjiolbcdfgclaaaGreatDoor
open Go Go.Pg
set_option maxRecDepth 100000
set_option linter.unusedSimpArgs false
set_option linter.unusedVariables false

theorem g_check0 (o : O) (ho : o.Oct) : Pg.Good Tryz.prog 73 [.agg (opF o), vi 0] (vi (chk o 0)) := by
  refine good_intro (drawW_ok mix) Tryz.func73 rfl Tryz.results73 rfl (by kernel_rfl) (Nat.le_of_ble_eq_true (by kernel_rfl)) ?_
  (repeat' (first | (simp (disch := first | assumption | omega | (simp only [Fits, maxLen, pgq] at *; omega)) only [pgo, pgb, tyf, buildSliceV_w, simprocAttr, Tryz.f73]) | ((with_reducible show callW _ _ _ _ _ _); first | refine callW_use _ (g_name _ ho.1) rfl rfl rfl rfl ?_) | ((first | ((with_reducible show condC _ _ _ _ _ _ _); refine cond_at (fun hc => ?_) (fun hc => ?_)) | ((with_reducible show guardC _ _ _ _ _ _ _ _); refine guard_at (fun hc => ?_) (fun hc => ?_)) | ((with_reducible show drwG _ _ _ _ _ _ _ _ _ _); refine drw_at (fun hc => ?_) (fun hc => ?_))) <;> (try simp only [hc]) <;> (try simp only [pgd] at hc)) | (with_reducible refine chk_at (by kernel_rfl) ?_)))
  (refine ret_at [] _ (by first | exact retV_one _ _ _ | exact retV_two _ _ _ _ | exact retV_three _ _ _ _ _ | exact retV_four _ _ _ _ _ _ | (simp (disch := first | assumption | omega | (simp only [Fits, maxLen, pgq] at *; omega)) only [pgr, pgo, tyf, simprocAttr]; rfl)) (by decide) (by simp only [pgo, simprocAttr]) ?_; (first | rfl | simp only [pgo, simprocAttr]))
theorem g_check1 (o : O) (ho : o.Oct) : Pg.Good Tryz.prog 73 [.agg (opF o), vi 1] (vi (chk o 1)) := by
  refine good_intro (drawW_ok mix) Tryz.func73 rfl Tryz.results73 rfl (by kernel_rfl) (Nat.le_of_ble_eq_true (by kernel_rfl)) ?_
  (repeat' (first | (simp (disch := first | assumption | omega | (simp only [Fits, maxLen, pgq] at *; omega)) only [pgo, pgb, tyf, buildSliceV_w, simprocAttr, Tryz.f73]) | ((with_reducible show callW _ _ _ _ _ _); first | refine callW_use _ (g_name _ ho.2.1) rfl rfl rfl rfl ?_) | ((first | ((with_reducible show condC _ _ _ _ _ _ _); refine cond_at (fun hc => ?_) (fun hc => ?_)) | ((with_reducible show guardC _ _ _ _ _ _ _ _); refine guard_at (fun hc => ?_) (fun hc => ?_)) | ((with_reducible show drwG _ _ _ _ _ _ _ _ _ _); refine drw_at (fun hc => ?_) (fun hc => ?_))) <;> (try simp only [hc]) <;> (try simp only [pgd] at hc)) | (with_reducible refine chk_at (by kernel_rfl) ?_)))
  (refine ret_at [] _ (by first | exact retV_one _ _ _ | exact retV_two _ _ _ _ | exact retV_three _ _ _ _ _ | exact retV_four _ _ _ _ _ _ | (simp (disch := first | assumption | omega | (simp only [Fits, maxLen, pgq] at *; omega)) only [pgr, pgo, tyf, simprocAttr]; rfl)) (by decide) (by simp only [pgo, simprocAttr]) ?_; (first | rfl | simp only [pgo, simprocAttr]))
theorem g_check2 (o : O) (ho : o.Oct) : Pg.Good Tryz.prog 73 [.agg (opF o), vi 2] (vi (chk o 2)) := by
  refine good_intro (drawW_ok mix) Tryz.func73 rfl Tryz.results73 rfl (by kernel_rfl) (Nat.le_of_ble_eq_true (by kernel_rfl)) ?_
  (repeat' (first | (simp (disch := first | assumption | omega | (simp only [Fits, maxLen, pgq] at *; omega)) only [pgo, pgb, tyf, buildSliceV_w, simprocAttr, Tryz.f73]) | ((with_reducible show callW _ _ _ _ _ _); first | refine callW_use _ (g_list _ ho.2.2.1) rfl rfl rfl rfl ?_) | ((first | ((with_reducible show condC _ _ _ _ _ _ _); refine cond_at (fun hc => ?_) (fun hc => ?_)) | ((with_reducible show guardC _ _ _ _ _ _ _ _); refine guard_at (fun hc => ?_) (fun hc => ?_)) | ((with_reducible show drwG _ _ _ _ _ _ _ _ _ _); refine drw_at (fun hc => ?_) (fun hc => ?_))) <;> (try simp only [hc]) <;> (try simp only [pgd] at hc)) | (with_reducible refine chk_at (by kernel_rfl) ?_)))
  (refine ret_at [] _ (by first | exact retV_one _ _ _ | exact retV_two _ _ _ _ | exact retV_three _ _ _ _ _ | exact retV_four _ _ _ _ _ _ | (simp (disch := first | assumption | omega | (simp only [Fits, maxLen, pgq] at *; omega)) only [pgr, pgo, tyf, simprocAttr]; rfl)) (by decide) (by simp only [pgo, simprocAttr]) ?_; (first | rfl | simp only [pgo, simprocAttr]))
theorem g_check3 (o : O) (ho : o.Oct) : Pg.Good Tryz.prog 73 [.agg (opF o), vi 3] (vi (chk o 3)) := by
  refine good_intro (drawW_ok mix) Tryz.func73 rfl Tryz.results73 rfl (by kernel_rfl) (Nat.le_of_ble_eq_true (by kernel_rfl)) ?_
  (repeat' (first | (simp (disch := first | assumption | omega | (simp only [Fits, maxLen, pgq] at *; omega)) only [pgo, pgb, tyf, buildSliceV_w, simprocAttr, Tryz.f73]) | ((with_reducible show callW _ _ _ _ _ _); first | refine callW_use _ (g_ValidateParams _ _ _ _) rfl rfl rfl rfl ?_) | ((first | ((with_reducible show condC _ _ _ _ _ _ _); refine cond_at (fun hc => ?_) (fun hc => ?_)) | ((with_reducible show guardC _ _ _ _ _ _ _ _); refine guard_at (fun hc => ?_) (fun hc => ?_)) | ((with_reducible show drwG _ _ _ _ _ _ _ _ _ _); refine drw_at (fun hc => ?_) (fun hc => ?_))) <;> (try simp only [hc]) <;> (try simp only [pgd] at hc)) | (with_reducible refine chk_at (by kernel_rfl) ?_)))
  (refine ret_at [] _ (by first | exact retV_one _ _ _ | exact retV_two _ _ _ _ | exact retV_three _ _ _ _ _ | exact retV_four _ _ _ _ _ _ | (simp (disch := first | assumption | omega | (simp only [Fits, maxLen, pgq] at *; omega)) only [pgr, pgo, tyf, simprocAttr]; rfl)) (by decide) (by simp only [pgo, simprocAttr]) ?_; (first | rfl | simp only [pgo, simprocAttr]))
theorem g_check4 (o : O) (ho : o.Oct) : Pg.Good Tryz.prog 73 [.agg (opF o), vi 4] (vi (chk o 4)) := by
  refine good_intro (drawW_ok mix) Tryz.func73 rfl Tryz.results73 rfl (by kernel_rfl) (Nat.le_of_ble_eq_true (by kernel_rfl)) ?_
  (repeat' (first | (simp (disch := first | assumption | omega | (simp only [Fits, maxLen, pgq] at *; omega)) only [pgo, pgb, tyf, buildSliceV_w, simprocAttr, Tryz.f73]) | ((with_reducible show callW _ _ _ _ _ _); first | refine callW_use _ (g_items _) rfl rfl rfl rfl ?_) | ((first | ((with_reducible show condC _ _ _ _ _ _ _); refine cond_at (fun hc => ?_) (fun hc => ?_)) | ((with_reducible show guardC _ _ _ _ _ _ _ _); refine guard_at (fun hc => ?_) (fun hc => ?_)) | ((with_reducible show drwG _ _ _ _ _ _ _ _ _ _); refine drw_at (fun hc => ?_) (fun hc => ?_))) <;> (try simp only [hc]) <;> (try simp only [pgd] at hc)) | (with_reducible refine chk_at (by kernel_rfl) ?_)))
  (refine ret_at [] _ (by first | exact retV_one _ _ _ | exact retV_two _ _ _ _ | exact retV_three _ _ _ _ _ | exact retV_four _ _ _ _ _ _ | (simp (disch := first | assumption | omega | (simp only [Fits, maxLen, pgq] at *; omega)) only [pgr, pgo, tyf, simprocAttr]; rfl)) (by decide) (by simp only [pgo, simprocAttr]) ?_; (first | rfl | simp only [pgo, simprocAttr]))
theorem g_check5 (o : O) (ho : o.Oct) : Pg.Good Tryz.prog 73 [.agg (opF o), vi 5] (vi (chk o 5)) := by
  refine good_intro (drawW_ok mix) Tryz.func73 rfl Tryz.results73 rfl (by kernel_rfl) (Nat.le_of_ble_eq_true (by kernel_rfl)) ?_
  (repeat' (first | (simp (disch := first | assumption | omega | (simp only [Fits, maxLen, pgq] at *; omega)) only [pgo, pgb, tyf, buildSliceV_w, simprocAttr, Tryz.f73]) | ((with_reducible show callW _ _ _ _ _ _); first | refine callW_use _ (g_short _ _) rfl rfl rfl rfl ?_) | ((first | ((with_reducible show condC _ _ _ _ _ _ _); refine cond_at (fun hc => ?_) (fun hc => ?_)) | ((with_reducible show guardC _ _ _ _ _ _ _ _); refine guard_at (fun hc => ?_) (fun hc => ?_)) | ((with_reducible show drwG _ _ _ _ _ _ _ _ _ _); refine drw_at (fun hc => ?_) (fun hc => ?_))) <;> (try simp only [hc]) <;> (try simp only [pgd] at hc)) | (with_reducible refine chk_at (by kernel_rfl) ?_)))
  (refine ret_at [] _ (by first | exact retV_one _ _ _ | exact retV_two _ _ _ _ | exact retV_three _ _ _ _ _ | exact retV_four _ _ _ _ _ _ | (simp (disch := first | assumption | omega | (simp only [Fits, maxLen, pgq] at *; omega)) only [pgr, pgo, tyf, simprocAttr]; rfl)) (by decide) (by simp only [pgo, simprocAttr]) ?_; (first | rfl | simp only [pgo, simprocAttr]))
theorem g_check6 (o : O) (ho : o.Oct) : Pg.Good Tryz.prog 73 [.agg (opF o), vi 6] (vi (chk o 6)) := by
  refine good_intro (drawW_ok mix) Tryz.func73 rfl Tryz.results73 rfl (by kernel_rfl) (Nat.le_of_ble_eq_true (by kernel_rfl)) ?_
  (repeat' (first | (simp (disch := first | assumption | omega | (simp only [Fits, maxLen, pgq] at *; omega)) only [pgo, pgb, tyf, buildSliceV_w, simprocAttr, Tryz.f73]) | ((with_reducible show callW _ _ _ _ _ _); first | refine callW_use _ (g_between _ _ _) rfl rfl rfl rfl ?_) | ((first | ((with_reducible show condC _ _ _ _ _ _ _); refine cond_at (fun hc => ?_) (fun hc => ?_)) | ((with_reducible show guardC _ _ _ _ _ _ _ _); refine guard_at (fun hc => ?_) (fun hc => ?_)) | ((with_reducible show drwG _ _ _ _ _ _ _ _ _ _); refine drw_at (fun hc => ?_) (fun hc => ?_))) <;> (try simp only [hc]) <;> (try simp only [pgd] at hc)) | (with_reducible refine chk_at (by kernel_rfl) ?_)))
  (refine ret_at [] _ (by first | exact retV_one _ _ _ | exact retV_two _ _ _ _ | exact retV_three _ _ _ _ _ | exact retV_four _ _ _ _ _ _ | (simp (disch := first | assumption | omega | (simp only [Fits, maxLen, pgq] at *; omega)) only [pgr, pgo, tyf, simprocAttr]; rfl)) (by decide) (by simp only [pgo, simprocAttr]) ?_; (first | rfl | simp only [pgo, simprocAttr]))
theorem g_check7 (o : O) (ho : o.Oct) : Pg.Good Tryz.prog 73 [.agg (opF o), vi 7] (vi (chk o 7)) := by
  refine good_intro (drawW_ok mix) Tryz.func73 rfl Tryz.results73 rfl (by kernel_rfl) (Nat.le_of_ble_eq_true (by kernel_rfl)) ?_
  (repeat' (first | (simp (disch := first | assumption | omega | (simp only [Fits, maxLen, pgq] at *; omega)) only [pgo, pgb, tyf, buildSliceV_w, simprocAttr, Tryz.f73]) | ((with_reducible show callW _ _ _ _ _ _); first | refine callW_use _ (g_between _ _ _) rfl rfl rfl rfl ?_) | ((first | ((with_reducible show condC _ _ _ _ _ _ _); refine cond_at (fun hc => ?_) (fun hc => ?_)) | ((with_reducible show guardC _ _ _ _ _ _ _ _); refine guard_at (fun hc => ?_) (fun hc => ?_)) | ((with_reducible show drwG _ _ _ _ _ _ _ _ _ _); refine drw_at (fun hc => ?_) (fun hc => ?_))) <;> (try simp only [hc]) <;> (try simp only [pgd] at hc)) | (with_reducible refine chk_at (by kernel_rfl) ?_)))
  (refine ret_at [] _ (by first | exact retV_one _ _ _ | exact retV_two _ _ _ _ | exact retV_three _ _ _ _ _ | exact retV_four _ _ _ _ _ _ | (simp (disch := first | assumption | omega | (simp only [Fits, maxLen, pgq] at *; omega)) only [pgr, pgo, tyf, simprocAttr]; rfl)) (by decide) (by simp only [pgo, simprocAttr]) ?_; (first | rfl | simp only [pgo, simprocAttr]))
theorem g_check8 (o : O) (ho : o.Oct) : Pg.Good Tryz.prog 73 [.agg (opF o), vi 8] (vi (chk o 8)) := by
  refine good_intro (drawW_ok mix) Tryz.func73 rfl Tryz.results73 rfl (by kernel_rfl) (Nat.le_of_ble_eq_true (by kernel_rfl)) ?_
  (repeat' (first | (simp (disch := first | assumption | omega | (simp only [Fits, maxLen, pgq] at *; omega)) only [pgo, pgb, tyf, buildSliceV_w, simprocAttr, Tryz.f73]) | ((with_reducible show callW _ _ _ _ _ _); first | refine callW_use _ (g_between _ _ _) rfl rfl rfl rfl ?_) | ((first | ((with_reducible show condC _ _ _ _ _ _ _); refine cond_at (fun hc => ?_) (fun hc => ?_)) | ((with_reducible show guardC _ _ _ _ _ _ _ _); refine guard_at (fun hc => ?_) (fun hc => ?_)) | ((with_reducible show drwG _ _ _ _ _ _ _ _ _ _); refine drw_at (fun hc => ?_) (fun hc => ?_))) <;> (try simp only [hc]) <;> (try simp only [pgd] at hc)) | (with_reducible refine chk_at (by kernel_rfl) ?_)))
  (refine ret_at [] _ (by first | exact retV_one _ _ _ | exact retV_two _ _ _ _ | exact retV_three _ _ _ _ _ | exact retV_four _ _ _ _ _ _ | (simp (disch := first | assumption | omega | (simp only [Fits, maxLen, pgq] at *; omega)) only [pgr, pgo, tyf, simprocAttr]; rfl)) (by decide) (by simp only [pgo, simprocAttr]) ?_; (first | rfl | simp only [pgo, simprocAttr]))
theorem g_check9 (o : O) (ho : o.Oct) : Pg.Good Tryz.prog 73 [.agg (opF o), vi 9] (vi (chk o 9)) := by
  refine good_intro (drawW_ok mix) Tryz.func73 rfl Tryz.results73 rfl (by kernel_rfl) (Nat.le_of_ble_eq_true (by kernel_rfl)) ?_
  (repeat' (first | (simp (disch := first | assumption | omega | (simp only [Fits, maxLen, pgq] at *; omega)) only [pgo, pgb, tyf, buildSliceV_w, simprocAttr, Tryz.f73]) | ((with_reducible show callW _ _ _ _ _ _); first | refine callW_use _ (g_between _ _ _) rfl rfl rfl rfl ?_) | ((first | ((with_reducible show condC _ _ _ _ _ _ _); refine cond_at (fun hc => ?_) (fun hc => ?_)) | ((with_reducible show guardC _ _ _ _ _ _ _ _); refine guard_at (fun hc => ?_) (fun hc => ?_)) | ((with_reducible show drwG _ _ _ _ _ _ _ _ _ _); refine drw_at (fun hc => ?_) (fun hc => ?_))) <;> (try simp only [hc]) <;> (try simp only [pgd] at hc)) | (with_reducible refine chk_at (by kernel_rfl) ?_)))
  (refine ret_at [] _ (by first | exact retV_one _ _ _ | exact retV_two _ _ _ _ | exact retV_three _ _ _ _ _ | exact retV_four _ _ _ _ _ _ | (simp (disch := first | assumption | omega | (simp only [Fits, maxLen, pgq] at *; omega)) only [pgr, pgo, tyf, simprocAttr]; rfl)) (by decide) (by simp only [pgo, simprocAttr]) ?_; (first | rfl | simp only [pgo, simprocAttr]))
theorem g_check10 (o : O) (ho : o.Oct) : Pg.Good Tryz.prog 73 [.agg (opF o), vi 10] (vi (chk o 10)) := by
  refine good_intro (drawW_ok mix) Tryz.func73 rfl Tryz.results73 rfl (by kernel_rfl) (Nat.le_of_ble_eq_true (by kernel_rfl)) ?_
  (repeat' (first | (simp (disch := first | assumption | omega | (simp only [Fits, maxLen, pgq] at *; omega)) only [pgo, pgb, tyf, buildSliceV_w, simprocAttr, Tryz.f73]) | ((with_reducible show callW _ _ _ _ _ _); first | refine callW_use _ (g_between _ _ _) rfl rfl rfl rfl ?_) | ((first | ((with_reducible show condC _ _ _ _ _ _ _); refine cond_at (fun hc => ?_) (fun hc => ?_)) | ((with_reducible show guardC _ _ _ _ _ _ _ _); refine guard_at (fun hc => ?_) (fun hc => ?_)) | ((with_reducible show drwG _ _ _ _ _ _ _ _ _ _); refine drw_at (fun hc => ?_) (fun hc => ?_))) <;> (try simp only [hc]) <;> (try simp only [pgd] at hc)) | (with_reducible refine chk_at (by kernel_rfl) ?_)))
  (refine ret_at [] _ (by first | exact retV_one _ _ _ | exact retV_two _ _ _ _ | exact retV_three _ _ _ _ _ | exact retV_four _ _ _ _ _ _ | (simp (disch := first | assumption | omega | (simp only [Fits, maxLen, pgq] at *; omega)) only [pgr, pgo, tyf, simprocAttr]; rfl)) (by decide) (by simp only [pgo, simprocAttr]) ?_; (first | rfl | simp only [pgo, simprocAttr]))
theorem g_check11 (o : O) (ho : o.Oct) : Pg.Good Tryz.prog 73 [.agg (opF o), vi 11] (vi (chk o 11)) := by
  refine good_intro (drawW_ok mix) Tryz.func73 rfl Tryz.results73 rfl (by kernel_rfl) (Nat.le_of_ble_eq_true (by kernel_rfl)) ?_
  (repeat' (first | (simp (disch := first | assumption | omega | (simp only [Fits, maxLen, pgq] at *; omega)) only [pgo, pgb, tyf, buildSliceV_w, simprocAttr, Tryz.f73]) | ((with_reducible show callW _ _ _ _ _ _); first | refine callW_use _ (g_between _ _ _) rfl rfl rfl rfl ?_) | ((first | ((with_reducible show condC _ _ _ _ _ _ _); refine cond_at (fun hc => ?_) (fun hc => ?_)) | ((with_reducible show guardC _ _ _ _ _ _ _ _); refine guard_at (fun hc => ?_) (fun hc => ?_)) | ((with_reducible show drwG _ _ _ _ _ _ _ _ _ _); refine drw_at (fun hc => ?_) (fun hc => ?_))) <;> (try simp only [hc]) <;> (try simp only [pgd] at hc)) | (with_reducible refine chk_at (by kernel_rfl) ?_)))
  (refine ret_at [] _ (by first | exact retV_one _ _ _ | exact retV_two _ _ _ _ | exact retV_three _ _ _ _ _ | exact retV_four _ _ _ _ _ _ | (simp (disch := first | assumption | omega | (simp only [Fits, maxLen, pgq] at *; omega)) only [pgr, pgo, tyf, simprocAttr]; rfl)) (by decide) (by simp only [pgo, simprocAttr]) ?_; (first | rfl | simp only [pgo, simprocAttr]))
theorem g_check12 (o : O) (ho : o.Oct) : Pg.Good Tryz.prog 73 [.agg (opF o), vi 12] (vi (chk o 12)) := by
  refine good_intro (drawW_ok mix) Tryz.func73 rfl Tryz.results73 rfl (by kernel_rfl) (Nat.le_of_ble_eq_true (by kernel_rfl)) ?_
  (repeat' (first | (simp (disch := first | assumption | omega | (simp only [Fits, maxLen, pgq] at *; omega)) only [pgo, pgb, tyf, buildSliceV_w, simprocAttr, Tryz.f73]) | ((with_reducible show callW _ _ _ _ _ _); first | refine callW_use _ (g_query _ _ _ _ _) rfl rfl rfl rfl ?_) | ((first | ((with_reducible show condC _ _ _ _ _ _ _); refine cond_at (fun hc => ?_) (fun hc => ?_)) | ((with_reducible show guardC _ _ _ _ _ _ _ _); refine guard_at (fun hc => ?_) (fun hc => ?_)) | ((with_reducible show drwG _ _ _ _ _ _ _ _ _ _); refine drw_at (fun hc => ?_) (fun hc => ?_))) <;> (try simp only [hc]) <;> (try simp only [pgd] at hc)) | (with_reducible refine chk_at (by kernel_rfl) ?_)))
  (refine ret_at [] _ (by first | exact retV_one _ _ _ | exact retV_two _ _ _ _ | exact retV_three _ _ _ _ _ | exact retV_four _ _ _ _ _ _ | (simp (disch := first | assumption | omega | (simp only [Fits, maxLen, pgq] at *; omega)) only [pgr, pgo, tyf, simprocAttr]; rfl)) (by decide) (by simp only [pgo, simprocAttr]) ?_; (first | rfl | simp only [pgo, simprocAttr]))
theorem g_check13 (o : O) (ho : o.Oct) : Pg.Good Tryz.prog 73 [.agg (opF o), vi 13] (vi (chk o 13)) := by
  refine good_intro (drawW_ok mix) Tryz.func73 rfl Tryz.results73 rfl (by kernel_rfl) (Nat.le_of_ble_eq_true (by kernel_rfl)) ?_
  (repeat' (first | (simp (disch := first | assumption | omega | (simp only [Fits, maxLen, pgq] at *; omega)) only [pgo, pgb, tyf, buildSliceV_w, simprocAttr, Tryz.f73]) | ((with_reducible show callW _ _ _ _ _ _); first | refine callW_use _ (g_short _ _) rfl rfl rfl rfl ?_) | ((first | ((with_reducible show condC _ _ _ _ _ _ _); refine cond_at (fun hc => ?_) (fun hc => ?_)) | ((with_reducible show guardC _ _ _ _ _ _ _ _); refine guard_at (fun hc => ?_) (fun hc => ?_)) | ((with_reducible show drwG _ _ _ _ _ _ _ _ _ _); refine drw_at (fun hc => ?_) (fun hc => ?_))) <;> (try simp only [hc]) <;> (try simp only [pgd] at hc)) | (with_reducible refine chk_at (by kernel_rfl) ?_)))
  (refine ret_at [] _ (by first | exact retV_one _ _ _ | exact retV_two _ _ _ _ | exact retV_three _ _ _ _ _ | exact retV_four _ _ _ _ _ _ | (simp (disch := first | assumption | omega | (simp only [Fits, maxLen, pgq] at *; omega)) only [pgr, pgo, tyf, simprocAttr]; rfl)) (by decide) (by simp only [pgo, simprocAttr]) ?_; (first | rfl | simp only [pgo, simprocAttr]))
theorem g_check (o : O) (ho : o.Oct) (f : Nat) (hf : f < 14) : Pg.Good Tryz.prog 73 [.agg (opF o), vi f] (vi (chk o f)) := by
  match f, hf with
  | 0, _ => exact g_check0 o ho
  | 1, _ => exact g_check1 o ho
  | 2, _ => exact g_check2 o ho
  | 3, _ => exact g_check3 o ho
  | 4, _ => exact g_check4 o ho
  | 5, _ => exact g_check5 o ho
  | 6, _ => exact g_check6 o ho
  | 7, _ => exact g_check7 o ho
  | 8, _ => exact g_check8 o ho
  | 9, _ => exact g_check9 o ho
  | 10, _ => exact g_check10 o ho
  | 11, _ => exact g_check11 o ho
  | 12, _ => exact g_check12 o ho
  | 13, _ => exact g_check13 o ho
end Go.Proofs.YtjiolbcdfgclaaaGreatDoor
end

section
/-
  Operations: whether a field is zero.
-/
namespace Go.Proofs.YtjiolbcdfgclaaaGreatDoor
open Go Go.Pg
set_option maxRecDepth 100000
set_option linter.unusedSimpArgs false
set_option linter.unusedVariables false

theorem vbE {a b : Bool} (h : a = b) : vb a = vb b := by rw [h]
/-- A field is zero. -/
def zro (o : O) : Nat → Bool
  | 0 => decide (o.name.length = 0)
  | 1 => decide (o.other.length = 0)
  | 2 => decide (o.names.length = 0)
  | 3 => decide (o.pk = 0 ∧ o.pz = 0 ∧ o.pd = 0 ∧ o.ps = 0)
  | 4 => decide (o.items.length = 0)
  | 5 => decide (o.coins.length = 0)
  | 6 => decide (o.exp = 0)
  | 7 => decide (o.src = 0)
  | 8 => decide (o.hnd = 0)
  | 9 => decide (o.idx = 0)
  | 10 => decide (o.cur = 0)
  | 11 => decide (o.cnt = 0)
  | 12 => decide (o.qk = 0 ∧ o.qkey.length = 0 ∧ o.qc = 0 ∧ o.qn = 0 ∧ o.qd = 0)
  | _ => decide (o.data.length = 0)
theorem zro_0 (o : O) : zro o 0 = decide (o.name.length = 0) := rfl
theorem g_zero0 (o : O) : Pg.Good Tryz.prog 74 [.agg (opF o), vi 0] (vb (zro o 0)) := by
  refine good_intro (drawW_ok mix) Tryz.func74 rfl Tryz.results74 rfl (by kernel_rfl) (Nat.le_of_ble_eq_true (by kernel_rfl)) ?_
  have hl := itv_len o.items
  rw [zro_0]
  (repeat' (first | (simp (disch := first | assumption | omega | (simp only [Fits, maxLen, pgq] at *; omega)) only [pgo, pgb, tyf, buildSliceV_w, simprocAttr, Tryz.f74, seq_nl, itv_len, bv_len, sv_len]) | ((first | ((with_reducible show condC _ _ _ _ _ _ _); refine cond_at (fun hc => ?_) (fun hc => ?_)) | ((with_reducible show guardC _ _ _ _ _ _ _ _); refine guard_at (fun hc => ?_) (fun hc => ?_)) | ((with_reducible show drwG _ _ _ _ _ _ _ _ _ _); refine drw_at (fun hc => ?_) (fun hc => ?_))) <;> (try simp only [hc]) <;> (try simp only [pgd] at hc)) | (with_reducible refine chk_at (by kernel_rfl) ?_)))
  all_goals (refine ret_at [] _ (by first | exact retV_one _ _ _ | exact retV_two _ _ _ _ | exact retV_three _ _ _ _ _ | exact retV_four _ _ _ _ _ _ | (simp (disch := first | assumption | omega | (simp only [Fits, maxLen, pgq] at *; omega)) only [pgr, pgo, tyf, simprocAttr]; rfl)) (by decide) (by simp only [pgo, simprocAttr]) ?_; (first | rfl | simp only [pgo, simprocAttr]))
  all_goals (refine vbE ?_; rw [Bool.eq_iff_iff]; simp only [decide_eq_true_eq, beq_iff_eq, Bool.and_eq_true] <;> omega)
theorem zro_1 (o : O) : zro o 1 = decide (o.other.length = 0) := rfl
theorem g_zero1 (o : O) : Pg.Good Tryz.prog 74 [.agg (opF o), vi 1] (vb (zro o 1)) := by
  refine good_intro (drawW_ok mix) Tryz.func74 rfl Tryz.results74 rfl (by kernel_rfl) (Nat.le_of_ble_eq_true (by kernel_rfl)) ?_
  have hl := itv_len o.items
  rw [zro_1]
  (repeat' (first | (simp (disch := first | assumption | omega | (simp only [Fits, maxLen, pgq] at *; omega)) only [pgo, pgb, tyf, buildSliceV_w, simprocAttr, Tryz.f74, seq_nl, itv_len, bv_len, sv_len]) | ((first | ((with_reducible show condC _ _ _ _ _ _ _); refine cond_at (fun hc => ?_) (fun hc => ?_)) | ((with_reducible show guardC _ _ _ _ _ _ _ _); refine guard_at (fun hc => ?_) (fun hc => ?_)) | ((with_reducible show drwG _ _ _ _ _ _ _ _ _ _); refine drw_at (fun hc => ?_) (fun hc => ?_))) <;> (try simp only [hc]) <;> (try simp only [pgd] at hc)) | (with_reducible refine chk_at (by kernel_rfl) ?_)))
  all_goals (refine ret_at [] _ (by first | exact retV_one _ _ _ | exact retV_two _ _ _ _ | exact retV_three _ _ _ _ _ | exact retV_four _ _ _ _ _ _ | (simp (disch := first | assumption | omega | (simp only [Fits, maxLen, pgq] at *; omega)) only [pgr, pgo, tyf, simprocAttr]; rfl)) (by decide) (by simp only [pgo, simprocAttr]) ?_; (first | rfl | simp only [pgo, simprocAttr]))
  all_goals (refine vbE ?_; rw [Bool.eq_iff_iff]; simp only [decide_eq_true_eq, beq_iff_eq, Bool.and_eq_true] <;> omega)
theorem zro_2 (o : O) : zro o 2 = decide (o.names.length = 0) := rfl
theorem g_zero2 (o : O) : Pg.Good Tryz.prog 74 [.agg (opF o), vi 2] (vb (zro o 2)) := by
  refine good_intro (drawW_ok mix) Tryz.func74 rfl Tryz.results74 rfl (by kernel_rfl) (Nat.le_of_ble_eq_true (by kernel_rfl)) ?_
  have hl := itv_len o.items
  rw [zro_2]
  (repeat' (first | (simp (disch := first | assumption | omega | (simp only [Fits, maxLen, pgq] at *; omega)) only [pgo, pgb, tyf, buildSliceV_w, simprocAttr, Tryz.f74, seq_nl, itv_len, bv_len, sv_len]) | ((first | ((with_reducible show condC _ _ _ _ _ _ _); refine cond_at (fun hc => ?_) (fun hc => ?_)) | ((with_reducible show guardC _ _ _ _ _ _ _ _); refine guard_at (fun hc => ?_) (fun hc => ?_)) | ((with_reducible show drwG _ _ _ _ _ _ _ _ _ _); refine drw_at (fun hc => ?_) (fun hc => ?_))) <;> (try simp only [hc]) <;> (try simp only [pgd] at hc)) | (with_reducible refine chk_at (by kernel_rfl) ?_)))
  all_goals (refine ret_at [] _ (by first | exact retV_one _ _ _ | exact retV_two _ _ _ _ | exact retV_three _ _ _ _ _ | exact retV_four _ _ _ _ _ _ | (simp (disch := first | assumption | omega | (simp only [Fits, maxLen, pgq] at *; omega)) only [pgr, pgo, tyf, simprocAttr]; rfl)) (by decide) (by simp only [pgo, simprocAttr]) ?_; (first | rfl | simp only [pgo, simprocAttr]))
  all_goals (refine vbE ?_; rw [Bool.eq_iff_iff]; simp only [decide_eq_true_eq, beq_iff_eq, Bool.and_eq_true] <;> omega)
theorem zro_3 (o : O) : zro o 3 = decide (o.pk = 0 ∧ o.pz = 0 ∧ o.pd = 0 ∧ o.ps = 0) := rfl
theorem g_zero3 (o : O) : Pg.Good Tryz.prog 74 [.agg (opF o), vi 3] (vb (zro o 3)) := by
  refine good_intro (drawW_ok mix) Tryz.func74 rfl Tryz.results74 rfl (by kernel_rfl) (Nat.le_of_ble_eq_true (by kernel_rfl)) ?_
  have hl := itv_len o.items
  rw [zro_3]
  (repeat' (first | (simp (disch := first | assumption | omega | (simp only [Fits, maxLen, pgq] at *; omega)) only [pgo, pgb, tyf, buildSliceV_w, simprocAttr, Tryz.f74, seq_nl, itv_len, bv_len, sv_len]) | ((first | ((with_reducible show condC _ _ _ _ _ _ _); refine cond_at (fun hc => ?_) (fun hc => ?_)) | ((with_reducible show guardC _ _ _ _ _ _ _ _); refine guard_at (fun hc => ?_) (fun hc => ?_)) | ((with_reducible show drwG _ _ _ _ _ _ _ _ _ _); refine drw_at (fun hc => ?_) (fun hc => ?_))) <;> (try simp only [hc]) <;> (try simp only [pgd] at hc)) | (with_reducible refine chk_at (by kernel_rfl) ?_)))
  all_goals (refine ret_at [] _ (by first | exact retV_one _ _ _ | exact retV_two _ _ _ _ | exact retV_three _ _ _ _ _ | exact retV_four _ _ _ _ _ _ | (simp (disch := first | assumption | omega | (simp only [Fits, maxLen, pgq] at *; omega)) only [pgr, pgo, tyf, simprocAttr]; rfl)) (by decide) (by simp only [pgo, simprocAttr]) ?_; (first | rfl | simp only [pgo, simprocAttr]))
  all_goals (refine vbE ?_; rw [Bool.eq_iff_iff]; simp only [decide_eq_true_eq, beq_iff_eq, Bool.and_eq_true] <;> omega)
theorem zro_4 (o : O) : zro o 4 = decide (o.items.length = 0) := rfl
theorem g_zero4 (o : O) : Pg.Good Tryz.prog 74 [.agg (opF o), vi 4] (vb (zro o 4)) := by
  refine good_intro (drawW_ok mix) Tryz.func74 rfl Tryz.results74 rfl (by kernel_rfl) (Nat.le_of_ble_eq_true (by kernel_rfl)) ?_
  have hl := itv_len o.items
  rw [zro_4]
  (repeat' (first | (simp (disch := first | assumption | omega | (simp only [Fits, maxLen, pgq] at *; omega)) only [pgo, pgb, tyf, buildSliceV_w, simprocAttr, Tryz.f74, seq_nl, itv_len, bv_len, sv_len]) | ((first | ((with_reducible show condC _ _ _ _ _ _ _); refine cond_at (fun hc => ?_) (fun hc => ?_)) | ((with_reducible show guardC _ _ _ _ _ _ _ _); refine guard_at (fun hc => ?_) (fun hc => ?_)) | ((with_reducible show drwG _ _ _ _ _ _ _ _ _ _); refine drw_at (fun hc => ?_) (fun hc => ?_))) <;> (try simp only [hc]) <;> (try simp only [pgd] at hc)) | (with_reducible refine chk_at (by kernel_rfl) ?_)))
  all_goals (refine ret_at [] _ (by first | exact retV_one _ _ _ | exact retV_two _ _ _ _ | exact retV_three _ _ _ _ _ | exact retV_four _ _ _ _ _ _ | (simp (disch := first | assumption | omega | (simp only [Fits, maxLen, pgq] at *; omega)) only [pgr, pgo, tyf, simprocAttr]; rfl)) (by decide) (by simp only [pgo, simprocAttr]) ?_; (first | rfl | simp only [pgo, simprocAttr]))
  all_goals (refine vbE ?_; rw [Bool.eq_iff_iff]; simp only [decide_eq_true_eq, beq_iff_eq, Bool.and_eq_true] <;> omega)
theorem zro_5 (o : O) : zro o 5 = decide (o.coins.length = 0) := rfl
theorem g_zero5 (o : O) : Pg.Good Tryz.prog 74 [.agg (opF o), vi 5] (vb (zro o 5)) := by
  refine good_intro (drawW_ok mix) Tryz.func74 rfl Tryz.results74 rfl (by kernel_rfl) (Nat.le_of_ble_eq_true (by kernel_rfl)) ?_
  have hl := itv_len o.items
  rw [zro_5]
  (repeat' (first | (simp (disch := first | assumption | omega | (simp only [Fits, maxLen, pgq] at *; omega)) only [pgo, pgb, tyf, buildSliceV_w, simprocAttr, Tryz.f74, seq_nl, itv_len, bv_len, sv_len]) | ((first | ((with_reducible show condC _ _ _ _ _ _ _); refine cond_at (fun hc => ?_) (fun hc => ?_)) | ((with_reducible show guardC _ _ _ _ _ _ _ _); refine guard_at (fun hc => ?_) (fun hc => ?_)) | ((with_reducible show drwG _ _ _ _ _ _ _ _ _ _); refine drw_at (fun hc => ?_) (fun hc => ?_))) <;> (try simp only [hc]) <;> (try simp only [pgd] at hc)) | (with_reducible refine chk_at (by kernel_rfl) ?_)))
  all_goals (refine ret_at [] _ (by first | exact retV_one _ _ _ | exact retV_two _ _ _ _ | exact retV_three _ _ _ _ _ | exact retV_four _ _ _ _ _ _ | (simp (disch := first | assumption | omega | (simp only [Fits, maxLen, pgq] at *; omega)) only [pgr, pgo, tyf, simprocAttr]; rfl)) (by decide) (by simp only [pgo, simprocAttr]) ?_; (first | rfl | simp only [pgo, simprocAttr]))
  all_goals (refine vbE ?_; rw [Bool.eq_iff_iff]; simp only [decide_eq_true_eq, beq_iff_eq, Bool.and_eq_true] <;> omega)
theorem zro_6 (o : O) : zro o 6 = decide (o.exp = 0) := rfl
theorem g_zero6 (o : O) : Pg.Good Tryz.prog 74 [.agg (opF o), vi 6] (vb (zro o 6)) := by
  refine good_intro (drawW_ok mix) Tryz.func74 rfl Tryz.results74 rfl (by kernel_rfl) (Nat.le_of_ble_eq_true (by kernel_rfl)) ?_
  have hl := itv_len o.items
  rw [zro_6]
  (repeat' (first | (simp (disch := first | assumption | omega | (simp only [Fits, maxLen, pgq] at *; omega)) only [pgo, pgb, tyf, buildSliceV_w, simprocAttr, Tryz.f74, seq_nl, itv_len, bv_len, sv_len]) | ((first | ((with_reducible show condC _ _ _ _ _ _ _); refine cond_at (fun hc => ?_) (fun hc => ?_)) | ((with_reducible show guardC _ _ _ _ _ _ _ _); refine guard_at (fun hc => ?_) (fun hc => ?_)) | ((with_reducible show drwG _ _ _ _ _ _ _ _ _ _); refine drw_at (fun hc => ?_) (fun hc => ?_))) <;> (try simp only [hc]) <;> (try simp only [pgd] at hc)) | (with_reducible refine chk_at (by kernel_rfl) ?_)))
  all_goals (refine ret_at [] _ (by first | exact retV_one _ _ _ | exact retV_two _ _ _ _ | exact retV_three _ _ _ _ _ | exact retV_four _ _ _ _ _ _ | (simp (disch := first | assumption | omega | (simp only [Fits, maxLen, pgq] at *; omega)) only [pgr, pgo, tyf, simprocAttr]; rfl)) (by decide) (by simp only [pgo, simprocAttr]) ?_; (first | rfl | simp only [pgo, simprocAttr]))
  all_goals (refine vbE ?_; rw [Bool.eq_iff_iff]; simp only [decide_eq_true_eq, beq_iff_eq, Bool.and_eq_true] <;> omega)
theorem zro_7 (o : O) : zro o 7 = decide (o.src = 0) := rfl
theorem g_zero7 (o : O) : Pg.Good Tryz.prog 74 [.agg (opF o), vi 7] (vb (zro o 7)) := by
  refine good_intro (drawW_ok mix) Tryz.func74 rfl Tryz.results74 rfl (by kernel_rfl) (Nat.le_of_ble_eq_true (by kernel_rfl)) ?_
  have hl := itv_len o.items
  rw [zro_7]
  (repeat' (first | (simp (disch := first | assumption | omega | (simp only [Fits, maxLen, pgq] at *; omega)) only [pgo, pgb, tyf, buildSliceV_w, simprocAttr, Tryz.f74, seq_nl, itv_len, bv_len, sv_len]) | ((first | ((with_reducible show condC _ _ _ _ _ _ _); refine cond_at (fun hc => ?_) (fun hc => ?_)) | ((with_reducible show guardC _ _ _ _ _ _ _ _); refine guard_at (fun hc => ?_) (fun hc => ?_)) | ((with_reducible show drwG _ _ _ _ _ _ _ _ _ _); refine drw_at (fun hc => ?_) (fun hc => ?_))) <;> (try simp only [hc]) <;> (try simp only [pgd] at hc)) | (with_reducible refine chk_at (by kernel_rfl) ?_)))
  all_goals (refine ret_at [] _ (by first | exact retV_one _ _ _ | exact retV_two _ _ _ _ | exact retV_three _ _ _ _ _ | exact retV_four _ _ _ _ _ _ | (simp (disch := first | assumption | omega | (simp only [Fits, maxLen, pgq] at *; omega)) only [pgr, pgo, tyf, simprocAttr]; rfl)) (by decide) (by simp only [pgo, simprocAttr]) ?_; (first | rfl | simp only [pgo, simprocAttr]))
  all_goals (refine vbE ?_; rw [Bool.eq_iff_iff]; simp only [decide_eq_true_eq, beq_iff_eq, Bool.and_eq_true] <;> omega)
theorem zro_8 (o : O) : zro o 8 = decide (o.hnd = 0) := rfl
theorem g_zero8 (o : O) : Pg.Good Tryz.prog 74 [.agg (opF o), vi 8] (vb (zro o 8)) := by
  refine good_intro (drawW_ok mix) Tryz.func74 rfl Tryz.results74 rfl (by kernel_rfl) (Nat.le_of_ble_eq_true (by kernel_rfl)) ?_
  have hl := itv_len o.items
  rw [zro_8]
  (repeat' (first | (simp (disch := first | assumption | omega | (simp only [Fits, maxLen, pgq] at *; omega)) only [pgo, pgb, tyf, buildSliceV_w, simprocAttr, Tryz.f74, seq_nl, itv_len, bv_len, sv_len]) | ((first | ((with_reducible show condC _ _ _ _ _ _ _); refine cond_at (fun hc => ?_) (fun hc => ?_)) | ((with_reducible show guardC _ _ _ _ _ _ _ _); refine guard_at (fun hc => ?_) (fun hc => ?_)) | ((with_reducible show drwG _ _ _ _ _ _ _ _ _ _); refine drw_at (fun hc => ?_) (fun hc => ?_))) <;> (try simp only [hc]) <;> (try simp only [pgd] at hc)) | (with_reducible refine chk_at (by kernel_rfl) ?_)))
  all_goals (refine ret_at [] _ (by first | exact retV_one _ _ _ | exact retV_two _ _ _ _ | exact retV_three _ _ _ _ _ | exact retV_four _ _ _ _ _ _ | (simp (disch := first | assumption | omega | (simp only [Fits, maxLen, pgq] at *; omega)) only [pgr, pgo, tyf, simprocAttr]; rfl)) (by decide) (by simp only [pgo, simprocAttr]) ?_; (first | rfl | simp only [pgo, simprocAttr]))
  all_goals (refine vbE ?_; rw [Bool.eq_iff_iff]; simp only [decide_eq_true_eq, beq_iff_eq, Bool.and_eq_true] <;> omega)
theorem zro_9 (o : O) : zro o 9 = decide (o.idx = 0) := rfl
theorem g_zero9 (o : O) : Pg.Good Tryz.prog 74 [.agg (opF o), vi 9] (vb (zro o 9)) := by
  refine good_intro (drawW_ok mix) Tryz.func74 rfl Tryz.results74 rfl (by kernel_rfl) (Nat.le_of_ble_eq_true (by kernel_rfl)) ?_
  have hl := itv_len o.items
  rw [zro_9]
  (repeat' (first | (simp (disch := first | assumption | omega | (simp only [Fits, maxLen, pgq] at *; omega)) only [pgo, pgb, tyf, buildSliceV_w, simprocAttr, Tryz.f74, seq_nl, itv_len, bv_len, sv_len]) | ((first | ((with_reducible show condC _ _ _ _ _ _ _); refine cond_at (fun hc => ?_) (fun hc => ?_)) | ((with_reducible show guardC _ _ _ _ _ _ _ _); refine guard_at (fun hc => ?_) (fun hc => ?_)) | ((with_reducible show drwG _ _ _ _ _ _ _ _ _ _); refine drw_at (fun hc => ?_) (fun hc => ?_))) <;> (try simp only [hc]) <;> (try simp only [pgd] at hc)) | (with_reducible refine chk_at (by kernel_rfl) ?_)))
  all_goals (refine ret_at [] _ (by first | exact retV_one _ _ _ | exact retV_two _ _ _ _ | exact retV_three _ _ _ _ _ | exact retV_four _ _ _ _ _ _ | (simp (disch := first | assumption | omega | (simp only [Fits, maxLen, pgq] at *; omega)) only [pgr, pgo, tyf, simprocAttr]; rfl)) (by decide) (by simp only [pgo, simprocAttr]) ?_; (first | rfl | simp only [pgo, simprocAttr]))
  all_goals (refine vbE ?_; rw [Bool.eq_iff_iff]; simp only [decide_eq_true_eq, beq_iff_eq, Bool.and_eq_true] <;> omega)
theorem zro_10 (o : O) : zro o 10 = decide (o.cur = 0) := rfl
theorem g_zero10 (o : O) : Pg.Good Tryz.prog 74 [.agg (opF o), vi 10] (vb (zro o 10)) := by
  refine good_intro (drawW_ok mix) Tryz.func74 rfl Tryz.results74 rfl (by kernel_rfl) (Nat.le_of_ble_eq_true (by kernel_rfl)) ?_
  have hl := itv_len o.items
  rw [zro_10]
  (repeat' (first | (simp (disch := first | assumption | omega | (simp only [Fits, maxLen, pgq] at *; omega)) only [pgo, pgb, tyf, buildSliceV_w, simprocAttr, Tryz.f74, seq_nl, itv_len, bv_len, sv_len]) | ((first | ((with_reducible show condC _ _ _ _ _ _ _); refine cond_at (fun hc => ?_) (fun hc => ?_)) | ((with_reducible show guardC _ _ _ _ _ _ _ _); refine guard_at (fun hc => ?_) (fun hc => ?_)) | ((with_reducible show drwG _ _ _ _ _ _ _ _ _ _); refine drw_at (fun hc => ?_) (fun hc => ?_))) <;> (try simp only [hc]) <;> (try simp only [pgd] at hc)) | (with_reducible refine chk_at (by kernel_rfl) ?_)))
  all_goals (refine ret_at [] _ (by first | exact retV_one _ _ _ | exact retV_two _ _ _ _ | exact retV_three _ _ _ _ _ | exact retV_four _ _ _ _ _ _ | (simp (disch := first | assumption | omega | (simp only [Fits, maxLen, pgq] at *; omega)) only [pgr, pgo, tyf, simprocAttr]; rfl)) (by decide) (by simp only [pgo, simprocAttr]) ?_; (first | rfl | simp only [pgo, simprocAttr]))
  all_goals (refine vbE ?_; rw [Bool.eq_iff_iff]; simp only [decide_eq_true_eq, beq_iff_eq, Bool.and_eq_true] <;> omega)
theorem zro_11 (o : O) : zro o 11 = decide (o.cnt = 0) := rfl
theorem g_zero11 (o : O) : Pg.Good Tryz.prog 74 [.agg (opF o), vi 11] (vb (zro o 11)) := by
  refine good_intro (drawW_ok mix) Tryz.func74 rfl Tryz.results74 rfl (by kernel_rfl) (Nat.le_of_ble_eq_true (by kernel_rfl)) ?_
  have hl := itv_len o.items
  rw [zro_11]
  (repeat' (first | (simp (disch := first | assumption | omega | (simp only [Fits, maxLen, pgq] at *; omega)) only [pgo, pgb, tyf, buildSliceV_w, simprocAttr, Tryz.f74, seq_nl, itv_len, bv_len, sv_len]) | ((first | ((with_reducible show condC _ _ _ _ _ _ _); refine cond_at (fun hc => ?_) (fun hc => ?_)) | ((with_reducible show guardC _ _ _ _ _ _ _ _); refine guard_at (fun hc => ?_) (fun hc => ?_)) | ((with_reducible show drwG _ _ _ _ _ _ _ _ _ _); refine drw_at (fun hc => ?_) (fun hc => ?_))) <;> (try simp only [hc]) <;> (try simp only [pgd] at hc)) | (with_reducible refine chk_at (by kernel_rfl) ?_)))
  all_goals (refine ret_at [] _ (by first | exact retV_one _ _ _ | exact retV_two _ _ _ _ | exact retV_three _ _ _ _ _ | exact retV_four _ _ _ _ _ _ | (simp (disch := first | assumption | omega | (simp only [Fits, maxLen, pgq] at *; omega)) only [pgr, pgo, tyf, simprocAttr]; rfl)) (by decide) (by simp only [pgo, simprocAttr]) ?_; (first | rfl | simp only [pgo, simprocAttr]))
  all_goals (refine vbE ?_; rw [Bool.eq_iff_iff]; simp only [decide_eq_true_eq, beq_iff_eq, Bool.and_eq_true] <;> omega)
theorem zro_12 (o : O) : zro o 12 = decide (o.qk = 0 ∧ o.qkey.length = 0 ∧ o.qc = 0 ∧ o.qn = 0 ∧ o.qd = 0) := rfl
theorem g_zero12 (o : O) : Pg.Good Tryz.prog 74 [.agg (opF o), vi 12] (vb (zro o 12)) := by
  refine good_intro (drawW_ok mix) Tryz.func74 rfl Tryz.results74 rfl (by kernel_rfl) (Nat.le_of_ble_eq_true (by kernel_rfl)) ?_
  have hl := itv_len o.items
  rw [zro_12]
  (repeat' (first | (simp (disch := first | assumption | omega | (simp only [Fits, maxLen, pgq] at *; omega)) only [pgo, pgb, tyf, buildSliceV_w, simprocAttr, Tryz.f74, seq_nl, itv_len, bv_len, sv_len]) | ((first | ((with_reducible show condC _ _ _ _ _ _ _); refine cond_at (fun hc => ?_) (fun hc => ?_)) | ((with_reducible show guardC _ _ _ _ _ _ _ _); refine guard_at (fun hc => ?_) (fun hc => ?_)) | ((with_reducible show drwG _ _ _ _ _ _ _ _ _ _); refine drw_at (fun hc => ?_) (fun hc => ?_))) <;> (try simp only [hc]) <;> (try simp only [pgd] at hc)) | (with_reducible refine chk_at (by kernel_rfl) ?_)))
  all_goals (refine ret_at [] _ (by first | exact retV_one _ _ _ | exact retV_two _ _ _ _ | exact retV_three _ _ _ _ _ | exact retV_four _ _ _ _ _ _ | (simp (disch := first | assumption | omega | (simp only [Fits, maxLen, pgq] at *; omega)) only [pgr, pgo, tyf, simprocAttr]; rfl)) (by decide) (by simp only [pgo, simprocAttr]) ?_; (first | rfl | simp only [pgo, simprocAttr]))
  all_goals (refine vbE ?_; rw [Bool.eq_iff_iff]; simp only [decide_eq_true_eq, beq_iff_eq, Bool.and_eq_true] <;> omega)
theorem zro_13 (o : O) : zro o 13 = decide (o.data.length = 0) := rfl
theorem g_zero13 (o : O) : Pg.Good Tryz.prog 74 [.agg (opF o), vi 13] (vb (zro o 13)) := by
  refine good_intro (drawW_ok mix) Tryz.func74 rfl Tryz.results74 rfl (by kernel_rfl) (Nat.le_of_ble_eq_true (by kernel_rfl)) ?_
  have hl := itv_len o.items
  rw [zro_13]
  (repeat' (first | (simp (disch := first | assumption | omega | (simp only [Fits, maxLen, pgq] at *; omega)) only [pgo, pgb, tyf, buildSliceV_w, simprocAttr, Tryz.f74, seq_nl, itv_len, bv_len, sv_len]) | ((first | ((with_reducible show condC _ _ _ _ _ _ _); refine cond_at (fun hc => ?_) (fun hc => ?_)) | ((with_reducible show guardC _ _ _ _ _ _ _ _); refine guard_at (fun hc => ?_) (fun hc => ?_)) | ((with_reducible show drwG _ _ _ _ _ _ _ _ _ _); refine drw_at (fun hc => ?_) (fun hc => ?_))) <;> (try simp only [hc]) <;> (try simp only [pgd] at hc)) | (with_reducible refine chk_at (by kernel_rfl) ?_)))
  all_goals (refine ret_at [] _ (by first | exact retV_one _ _ _ | exact retV_two _ _ _ _ | exact retV_three _ _ _ _ _ | exact retV_four _ _ _ _ _ _ | (simp (disch := first | assumption | omega | (simp only [Fits, maxLen, pgq] at *; omega)) only [pgr, pgo, tyf, simprocAttr]; rfl)) (by decide) (by simp only [pgo, simprocAttr]) ?_; (first | rfl | simp only [pgo, simprocAttr]))
  all_goals (refine vbE ?_; rw [Bool.eq_iff_iff]; simp only [decide_eq_true_eq, beq_iff_eq, Bool.and_eq_true] <;> omega)
theorem g_zero (o : O) (f : Nat) (hf : f < 14) : Pg.Good Tryz.prog 74 [.agg (opF o), vi f] (vb (zro o f)) := by
  match f, hf with
  | 0, _ => exact g_zero0 o
  | 1, _ => exact g_zero1 o
  | 2, _ => exact g_zero2 o
  | 3, _ => exact g_zero3 o
  | 4, _ => exact g_zero4 o
  | 5, _ => exact g_zero5 o
  | 6, _ => exact g_zero6 o
  | 7, _ => exact g_zero7 o
  | 8, _ => exact g_zero8 o
  | 9, _ => exact g_zero9 o
  | 10, _ => exact g_zero10 o
  | 11, _ => exact g_zero11 o
  | 12, _ => exact g_zero12 o
  | 13, _ => exact g_zero13 o
end Go.Proofs.YtjiolbcdfgclaaaGreatDoor
end

section
/-
  Operations: Validate, of any operation.
-/
namespace Go.Proofs.YtjiolbcdfgclaaaGreatDoor
open Go Go.Pg
set_option maxRecDepth 100000
set_option linter.unusedSimpArgs false
set_option linter.unusedVariables false

/-- Truth values as cells. -/
def bov (l : List Bool) : List V := l.map fun b => V.c (.bool b)
theorem bov_len (l : List Bool) : (bov l).length = l.length := by simp [bov]
theorem bov_get (l : List Bool) (i : Nat) (h : i < l.length) : (bov l)[i]? = some (vb (l.getD i false)) := by simp [bov, h, List.getD]
theorem genL_bov {l m : List Nat} (x : List Bool) : GenL l m (bov x) (bov x) := by
  induction x with
  | nil => trivial
  | cons a x ih => exact ⟨of_eq_true (gen_c _ _ _), ih⟩
/-- The first fourteen numbers that are in a list. -/
def mk14 (l : List Int) : List Bool := (List.range 14).map fun (f : Nat) => decide ((f : Int) ∈ l)
theorem mk14_len (l : List Int) : (mk14 l).length = 14 := by simp [mk14]
theorem mk14_get (l : List Int) (i : Nat) (h : i < 14) : (mk14 l).getD i false = decide ((i : Int) ∈ l) := by simp [mk14, List.getD, h]
theorem mk14_next (l : List Int) (i : Nat) (n : Int) (hx : l[i]? = some n) (h : 0 ≤ n ∧ n < 14) : List.take n.toNat (bov (mk14 (l.take i))) ++ [vb true] ++ List.drop (n.toNat + 1) (bov (mk14 (l.take i))) = bov (mk14 (l.take (i + 1))) := by
  have hi := (List.getElem?_eq_some_iff.1 hx).1
  have e : l.take (i + 1) = l.take i ++ [n] := by rw [List.take_succ_eq_append_getElem hi, (List.getElem?_eq_some_iff.1 hx).2]
  rw [e]
  have hs : bov (mk14 (l.take i ++ [n])) = (bov (mk14 (l.take i))).set n.toNat (vb true) := by
    apply List.ext_getElem?
    intro j
    by_cases hj : j < 14
    · by_cases hjn : n.toNat = j
      · subst hjn
        rw [List.getElem?_set_self (by rw [bov_len, mk14_len]; exact hj), bov_get _ _ (by rw [mk14_len]; exact hj), mk14_get _ _ hj]
        have : decide (((n.toNat : Nat) : Int) ∈ l.take i ++ [n]) = true := by
          rw [decide_eq_true_eq, List.mem_append]
          right; simp; omega
        rw [this]
      · rw [List.getElem?_set_ne hjn, bov_get _ _ (by rw [mk14_len]; exact hj), bov_get _ _ (by rw [mk14_len]; exact hj), mk14_get _ _ hj, mk14_get _ _ hj]
        have : decide ((j : Int) ∈ l.take i ++ [n]) = decide ((j : Int) ∈ l.take i) := by
          refine decide_eq_decide.2 ?_
          rw [List.mem_append]
          constructor
          · rintro (h1 | h1)
            · exact h1
            · simp at h1; omega
          · exact .inl
        rw [this]
    · rw [List.getElem?_eq_none (by rw [bov_len, mk14_len]; omega), List.getElem?_eq_none (by rw [List.length_set, bov_len, mk14_len]; omega)]
  rw [hs, List.set_eq_take_append_cons_drop, if_pos (by rw [bov_len, mk14_len]; omega)]
  simp
/-- The first error among the fields used, from field i on. -/
def vE (o : O) (m : List Bool) : Nat → Nat → Int
  | 0, _ => 0
  | n + 1, i => if m.getD i false = true ∧ chk o i ≠ 0 then chk o i else vE o m n (i + 1)
/-- Whether one of the other fields is not zero. -/
def zE (o : O) (m : List Bool) : Nat → Nat → Int
  | 0, _ => 0
  | n + 1, i => if m.getD i false = false ∧ zro o i = false then 18 else zE o m n (i + 1)
/-- What Validate answers. -/
def vop (o : O) : Int := if o.kind < 1 ∨ 17 < o.kind then 8 else if vE o (mk14 (usesL o.kind)) 14 0 ≠ 0 then vE o (mk14 (usesL o.kind)) 14 0 else zE o (mk14 (usesL o.kind)) 14 0
theorem usesL_out (k : Int) (h : k < 1 ∨ 17 < k) : usesL k = [] := by
  unfold usesL
  iterate 14 rw [if_neg (by omega)]
theorem kinds_of {k : Int} (h : ¬ (k < 1 ∨ 17 < k)) : k = 1 ∨ k = 2 ∨ k = 3 ∨ k = 4 ∨ k = 5 ∨ k = 6 ∨ k = 7 ∨ k = 8 ∨ k = 9 ∨ k = 10 ∨ k = 11 ∨ k = 12 ∨ k = 13 ∨ k = 14 ∨ k = 15 ∨ k = 16 ∨ k = 17 := by omega
theorem usesL_in (k : Int) : ∀ n ∈ usesL k, 0 ≤ n ∧ n < 14 := by
  by_cases h : k < 1 ∨ 17 < k
  · rw [usesL_out k h]; intro n hn; cases hn
  · rcases kinds_of h with rfl | rfl | rfl | rfl | rfl | rfl | rfl | rfl | rfl | rfl | rfl | rfl | rfl | rfl | rfl | rfl | rfl <;> decide
theorem usV_cases (k : Int) : (k < 1 ∨ 17 < k) ∧ usV k = nls ∨ ¬ (k < 1 ∨ 17 < k) ∧ (usV k = .sl .nn 1 [] ∧ usesL k = [] ∨ ∃ x l, usesL k = x :: l ∧ usV k = .sl (.own 0 3) 1 (iv (x :: l))) := by
  unfold usV
  by_cases h : k < 1 ∨ 17 < k
  · exact .inl ⟨h, by rw [if_neg (by omega), if_pos h]⟩
  · refine .inr ⟨h, ?_⟩
    by_cases h4 : k = 4 ∨ k = 17
    · refine .inl ⟨if_pos h4, ?_⟩
      rcases h4 with rfl | rfl <;> rfl
    · right
      rw [if_neg h4, if_neg h]
      have : usesL k ≠ [] := by
        rcases kinds_of h with rfl | rfl | rfl | rfl | rfl | rfl | rfl | rfl | rfl | rfl | rfl | rfl | rfl | rfl | rfl | rfl | rfl <;> first | decide | (exfalso; omega)
      cases hu : usesL k with
      | nil => exact absurd hu this
      | cons x l => exact ⟨x, l, rfl, rfl⟩
theorem slE_nn0 (P : Program) (t : TypeId) (k : Nat) : binV P .eql t (.sl .nn k []) nls = if (elemT P t).isSome = true then some (.c (.bool false)) else none := rfl
theorem slE_iv (P : Program) (t : TypeId) (tg : Tag) (k : Nat) (x : Int) (r : List Int) : binV P .eql t (.sl tg k (iv (x :: r))) nls = if (elemT P t).isSome = true then some (.c (.bool false)) else none := rfl
theorem mk14_nil : bov (mk14 []) = List.replicate 14 (vb false) := rfl
set_option maxHeartbeats 2000000 in
theorem g_Validate (o : O) (ho : o.Oct) : Pg.Good Tryz.prog 38 [.agg (opF o)] (vi (vop o)) := by
  have hu := g_uses o.kind
  rcases usV_cases o.kind with ⟨hk, he⟩ | ⟨hk, he⟩
  · rw [he] at hu
    rw [vop, if_pos hk]
    refine good_intro (drawW_ok mix) Tryz.func38 rfl Tryz.results38 rfl (by kernel_rfl) (Nat.le_of_ble_eq_true (by kernel_rfl)) ?_
    (repeat' (first | (simp (disch := first | assumption | omega | (simp only [Fits, maxLen, pgq] at *; omega)) only [pgo, pgb, tyf, buildSliceV_w, simprocAttr, Tryz.f38]) | ((with_reducible show callW _ _ _ _ _ _); first | refine callW_use _ (hu) rfl rfl rfl rfl ?_) | ((first | ((with_reducible show condC _ _ _ _ _ _ _); refine cond_at (fun hc => ?_) (fun hc => ?_)) | ((with_reducible show guardC _ _ _ _ _ _ _ _); refine guard_at (fun hc => ?_) (fun hc => ?_)) | ((with_reducible show drwG _ _ _ _ _ _ _ _ _ _); refine drw_at (fun hc => ?_) (fun hc => ?_))) <;> (try simp only [hc]) <;> (try simp only [pgd] at hc)) | (with_reducible refine chk_at (by kernel_rfl) ?_)))
    (refine ret_at [] _ (by first | exact retV_one _ _ _ | exact retV_two _ _ _ _ | exact retV_three _ _ _ _ _ | exact retV_four _ _ _ _ _ _ | (simp (disch := first | assumption | omega | (simp only [Fits, maxLen, pgq] at *; omega)) only [pgr, pgo, tyf, simprocAttr]; rfl)) (by decide) (by simp only [pgo, simprocAttr]) ?_; (first | rfl | simp only [pgo, simprocAttr]))
  · rw [vop, if_neg hk]
    have hin := usesL_in o.kind
    refine good_intro (drawC_ok [10] mix) Tryz.func38 rfl Tryz.results38 rfl (by kernel_rfl) (Nat.le_of_ble_eq_true (by kernel_rfl)) ?_
    have rest : ∀ l : List Int, usesL o.kind = l → (usV o.kind = .sl .nn 1 [] ∧ l = [] ∨ ∃ x r, l = x :: r ∧ usV o.kind = .sl (.own 0 3) 1 (iv l)) := by
      rintro l rfl
      rcases he with he | ⟨x, r, h1, h2⟩
      · exact .inl he
      · exact .inr ⟨x, r, h1, by rw [h1]; exact h2⟩
    generalize hl : usesL o.kind = l at hin
    have he2 := rest l hl
    clear rest he
    have hm := mk14_len l
    have hb := bov_len (mk14 l)
    have e0 := mk14_nil
    rcases he2 with ⟨he, rfl⟩ | ⟨x, r, rfl, he⟩
    · rw [he] at hu
      (repeat' (first | (simp (disch := first | assumption | omega | (simp only [Fits, maxLen, pgq] at *; omega)) only [pgo, pgb, tyf, buildSliceV_w, simprocAttr, Tryz.f38, slE_nn0]) | ((with_reducible show callW _ _ _ _ _ _); first | refine callW_use _ (hu) rfl rfl rfl rfl ?_) | ((first | ((with_reducible show condC _ _ _ _ _ _ _); refine cond_at (fun hc => ?_) (fun hc => ?_)) | ((with_reducible show guardC _ _ _ _ _ _ _ _); refine guard_at (fun hc => ?_) (fun hc => ?_)) | ((with_reducible show drwG _ _ _ _ _ _ _ _ _ _); refine drw_at (fun hc => ?_) (fun hc => ?_))) <;> (try simp only [hc]) <;> (try simp only [pgd] at hc)) | (with_reducible refine chk_at (by kernel_rfl) ?_)))
      refine seq_cut _ (fun _ : Unit => mkA [(1, .ref 0 0), (4, .ref 1 0)] [(0, (32, opF o)), (1, (132, bov (mk14 [])))] 2 (fun _ => .top)) (fun _ => True) rfl ?_ ?_
      · intro _ _
        have hml := mk14_len []
        generalize hE : vE o (mk14 []) 14 0 = E
        generalize hZ : zE o (mk14 []) 14 0 = Z
        (repeat' (first | (simp (disch := first | assumption | omega | (simp only [Fits, maxLen, pgq] at *; omega)) only [pgo, pgb, tyf, buildSliceV_w, simprocAttr, slE_nn0]) | ((first | ((with_reducible show condC _ _ _ _ _ _ _); refine cond_at (fun hc => ?_) (fun hc => ?_)) | ((with_reducible show guardC _ _ _ _ _ _ _ _); refine guard_at (fun hc => ?_) (fun hc => ?_)) | ((with_reducible show drwG _ _ _ _ _ _ _ _ _ _); refine drw_at (fun hc => ?_) (fun hc => ?_))) <;> (try simp only [hc]) <;> (try simp only [pgd] at hc)) | (with_reducible refine chk_at (by kernel_rfl) ?_)))
        refine loop_A (fun i : Nat => mkA [(1, .ref 0 0), (4, .ref 1 0), (24, vi i)] [(0, (32, opF o)), (1, (132, bov (mk14 [])))] 2 (fun _ => .top)) (fun i => i ≤ 14 ∧ E = vE o (mk14 []) (14 - i) i) (fun i => 14 - i) 0 [] [0, 1] ?_ ⟨Nat.zero_le _, hE.symm⟩ ?_
        · (refine keep_mkA ?_ ?_ (top_hd _ _ _) (by decide) (by decide) (by decide) (by decide); (repeat' (first | exact trivial | refine genB_one _ _ rfl rfl ?_ ?_)); all_goals (try simp only [pgs, pgl, pgx, pgf, pgw, GenA_cons, GenA_nil, GenL_cons, GenL_nil, gen_top, gen_c, gen_fz, pgn, simprocAttr]); all_goals (try (repeat' (first | apply And.intro))); all_goals (try (first | exact trivial | exact gen_ii (by omega) | exact gen_cc rfl | exact gen_own rfl rfl | exact gen_ref rfl)))
          all_goals exact genL_bov _
        · rintro i ⟨hi, hv⟩
          rcases Nat.lt_or_ge i 14 with hlt | hge
          · have hg := bov_get (mk14 []) i (by rw [hml]; exact hlt)
            have hc := g_check o ho i hlt
            have hi0 : (0 : Int) ≤ (i : Int) := by omega
            have hi1 : (i : Int) < 14 := by omega
            rw [show 14 - i = (14 - (i + 1)) + 1 by omega, vE] at hv
            cases hb : (mk14 []).getD i false
            · rw [hb] at hg
              rw [if_neg (by rw [hb]; simp)] at hv
              (repeat' (first | (simp (disch := first | assumption | omega | (simp only [Fits, maxLen, pgq] at *; omega)) only [pgo, pgb, tyf, buildSliceV_w, simprocAttr, hg, hi0, hi1, Nat.mul_one]) | ((first | ((with_reducible show condC _ _ _ _ _ _ _); refine cond_at (fun hc => ?_) (fun hc => ?_)) | ((with_reducible show guardC _ _ _ _ _ _ _ _); refine guard_at (fun hc => ?_) (fun hc => ?_)) | ((with_reducible show drwG _ _ _ _ _ _ _ _ _ _); refine drw_at (fun hc => ?_) (fun hc => ?_))) <;> (try simp only [hc]) <;> (try simp only [pgd] at hc)) | (with_reducible refine chk_at (by kernel_rfl) ?_)))
              (refine back_at (i + 1) [] [0, 1] (⟨hlt, hv⟩) (by first | omega | (simp only [List.length_cons]; omega)) ?_; (refine keep_mkA ?_ ?_ (top_hd _ _ _) (by decide) (by decide) (by decide) (by decide); (repeat' (first | exact trivial | refine genB_one _ _ rfl rfl ?_ ?_)); all_goals (try simp only [pgs, pgl, pgx, pgf, pgw, GenA_cons, GenA_nil, GenL_cons, GenL_nil, gen_top, gen_c, gen_fz, pgn, simprocAttr]); all_goals (try (repeat' (first | apply And.intro))); all_goals (try (first | exact trivial | exact gen_ii (by omega) | exact gen_cc rfl | exact gen_own rfl rfl | exact gen_ref rfl))))
              all_goals exact genL_bov _
            · rw [hb] at hg
              by_cases hz : chk o i = 0
              · rw [if_neg (by rw [hz]; simp)] at hv
                (repeat' (first | (simp (disch := first | assumption | omega | (simp only [Fits, maxLen, pgq] at *; omega)) only [pgo, pgb, tyf, buildSliceV_w, simprocAttr, hg, hi0, hi1, Nat.mul_one, hz]) | ((with_reducible show callW _ _ _ _ _ _); first | refine callW_use _ (hc) rfl rfl rfl rfl ?_) | ((first | ((with_reducible show condC _ _ _ _ _ _ _); refine cond_at (fun hc => ?_) (fun hc => ?_)) | ((with_reducible show guardC _ _ _ _ _ _ _ _); refine guard_at (fun hc => ?_) (fun hc => ?_)) | ((with_reducible show drwG _ _ _ _ _ _ _ _ _ _); refine drw_at (fun hc => ?_) (fun hc => ?_))) <;> (try simp only [hc]) <;> (try simp only [pgd] at hc)) | (with_reducible refine chk_at (by kernel_rfl) ?_)))
                (refine back_at (i + 1) [] [0, 1] (⟨hlt, hv⟩) (by first | omega | (simp only [List.length_cons]; omega)) ?_; (refine keep_mkA ?_ ?_ (top_hd _ _ _) (by decide) (by decide) (by decide) (by decide); (repeat' (first | exact trivial | refine genB_one _ _ rfl rfl ?_ ?_)); all_goals (try simp only [pgs, pgl, pgx, pgf, pgw, GenA_cons, GenA_nil, GenL_cons, GenL_nil, gen_top, gen_c, gen_fz, pgn, simprocAttr]); all_goals (try (repeat' (first | apply And.intro))); all_goals (try (first | exact trivial | exact gen_ii (by omega) | exact gen_cc rfl | exact gen_own rfl rfl | exact gen_ref rfl))))
                all_goals exact genL_bov _
              · rw [if_pos ⟨hb, hz⟩] at hv
                rw [hv, if_pos hz]
                (repeat' (first | (simp (disch := first | assumption | omega | (simp only [Fits, maxLen, pgq] at *; omega)) only [pgo, pgb, tyf, buildSliceV_w, simprocAttr, hg, hi0, hi1, Nat.mul_one, hz]) | ((with_reducible show callW _ _ _ _ _ _); first | refine callW_use _ (hc) rfl rfl rfl rfl ?_) | ((first | ((with_reducible show condC _ _ _ _ _ _ _); refine cond_at (fun hc => ?_) (fun hc => ?_)) | ((with_reducible show guardC _ _ _ _ _ _ _ _); refine guard_at (fun hc => ?_) (fun hc => ?_)) | ((with_reducible show drwG _ _ _ _ _ _ _ _ _ _); refine drw_at (fun hc => ?_) (fun hc => ?_))) <;> (try simp only [hc]) <;> (try simp only [pgd] at hc)) | (with_reducible refine chk_at (by kernel_rfl) ?_)))
                (refine ret_at [] _ (by first | exact retV_one _ _ _ | exact retV_two _ _ _ _ | exact retV_three _ _ _ _ _ | exact retV_four _ _ _ _ _ _ | (simp (disch := first | assumption | omega | (simp only [Fits, maxLen, pgq] at *; omega)) only [pgr, pgo, tyf, simprocAttr]; rfl)) (by decide) (by simp only [pgo, simprocAttr]) ?_; (first | rfl | simp only [pgo, simprocAttr]))
          · have : i = 14 := by omega
            subst this
            have hv0 : E = 0 := hv
            rw [hv0, if_neg (by simp)]
            (repeat' (first | (simp (disch := first | assumption | omega | (simp only [Fits, maxLen, pgq] at *; omega)) only [pgo, pgb, tyf, buildSliceV_w, simprocAttr]) | ((first | ((with_reducible show condC _ _ _ _ _ _ _); refine cond_at (fun hc => ?_) (fun hc => ?_)) | ((with_reducible show guardC _ _ _ _ _ _ _ _); refine guard_at (fun hc => ?_) (fun hc => ?_)) | ((with_reducible show drwG _ _ _ _ _ _ _ _ _ _); refine drw_at (fun hc => ?_) (fun hc => ?_))) <;> (try simp only [hc]) <;> (try simp only [pgd] at hc)) | (with_reducible refine chk_at (by kernel_rfl) ?_)))
            refine loop_A (fun i : Nat => mkA [(1, .ref 0 0), (4, .ref 1 0), (38, vi i)] [(0, (32, opF o)), (1, (132, bov (mk14 [])))] 2 (fun _ => .top)) (fun i => i ≤ 14 ∧ Z = zE o (mk14 []) (14 - i) i) (fun i => 14 - i) 0 [] [0, 1] ?_ ⟨Nat.zero_le _, hZ.symm⟩ ?_
            · (refine keep_mkA ?_ ?_ (top_hd _ _ _) (by decide) (by decide) (by decide) (by decide); (repeat' (first | exact trivial | refine genB_one _ _ rfl rfl ?_ ?_)); all_goals (try simp only [pgs, pgl, pgx, pgf, pgw, GenA_cons, GenA_nil, GenL_cons, GenL_nil, gen_top, gen_c, gen_fz, pgn, simprocAttr]); all_goals (try (repeat' (first | apply And.intro))); all_goals (try (first | exact trivial | exact gen_ii (by omega) | exact gen_cc rfl | exact gen_own rfl rfl | exact gen_ref rfl)))
              all_goals exact genL_bov _
            · rintro i ⟨hi, hv⟩
              rcases Nat.lt_or_ge i 14 with hlt | hge
              · have hg := bov_get (mk14 []) i (by rw [hml]; exact hlt)
                have hc := g_zero o i hlt
                have hi0 : (0 : Int) ≤ (i : Int) := by omega
                have hi1 : (i : Int) < 14 := by omega
                rw [show 14 - i = (14 - (i + 1)) + 1 by omega, zE] at hv
                cases hb : (mk14 []).getD i false
                · rw [hb] at hg
                  cases hz : zro o i
                  · rw [if_pos ⟨hb, hz⟩] at hv
                    rw [hz] at hc
                    rw [hv]
                    (repeat' (first | (simp (disch := first | assumption | omega | (simp only [Fits, maxLen, pgq] at *; omega)) only [pgo, pgb, tyf, buildSliceV_w, simprocAttr, hg, hi0, hi1, Nat.mul_one]) | ((with_reducible show callW _ _ _ _ _ _); first | refine callW_use _ (hc) rfl rfl rfl rfl ?_) | ((first | ((with_reducible show condC _ _ _ _ _ _ _); refine cond_at (fun hc => ?_) (fun hc => ?_)) | ((with_reducible show guardC _ _ _ _ _ _ _ _); refine guard_at (fun hc => ?_) (fun hc => ?_)) | ((with_reducible show drwG _ _ _ _ _ _ _ _ _ _); refine drw_at (fun hc => ?_) (fun hc => ?_))) <;> (try simp only [hc]) <;> (try simp only [pgd] at hc)) | (with_reducible refine chk_at (by kernel_rfl) ?_)))
                    (refine ret_at [] _ (by first | exact retV_one _ _ _ | exact retV_two _ _ _ _ | exact retV_three _ _ _ _ _ | exact retV_four _ _ _ _ _ _ | (simp (disch := first | assumption | omega | (simp only [Fits, maxLen, pgq] at *; omega)) only [pgr, pgo, tyf, simprocAttr]; rfl)) (by decide) (by simp only [pgo, simprocAttr]) ?_; (first | rfl | simp only [pgo, simprocAttr]))
                  · rw [if_neg (by rw [hz]; simp)] at hv
                    rw [hz] at hc
                    (repeat' (first | (simp (disch := first | assumption | omega | (simp only [Fits, maxLen, pgq] at *; omega)) only [pgo, pgb, tyf, buildSliceV_w, simprocAttr, hg, hi0, hi1, Nat.mul_one]) | ((with_reducible show callW _ _ _ _ _ _); first | refine callW_use _ (hc) rfl rfl rfl rfl ?_) | ((first | ((with_reducible show condC _ _ _ _ _ _ _); refine cond_at (fun hc => ?_) (fun hc => ?_)) | ((with_reducible show guardC _ _ _ _ _ _ _ _); refine guard_at (fun hc => ?_) (fun hc => ?_)) | ((with_reducible show drwG _ _ _ _ _ _ _ _ _ _); refine drw_at (fun hc => ?_) (fun hc => ?_))) <;> (try simp only [hc]) <;> (try simp only [pgd] at hc)) | (with_reducible refine chk_at (by kernel_rfl) ?_)))
                    (refine back_at (i + 1) [] [0, 1] (⟨hlt, hv⟩) (by first | omega | (simp only [List.length_cons]; omega)) ?_; (refine keep_mkA ?_ ?_ (top_hd _ _ _) (by decide) (by decide) (by decide) (by decide); (repeat' (first | exact trivial | refine genB_one _ _ rfl rfl ?_ ?_)); all_goals (try simp only [pgs, pgl, pgx, pgf, pgw, GenA_cons, GenA_nil, GenL_cons, GenL_nil, gen_top, gen_c, gen_fz, pgn, simprocAttr]); all_goals (try (repeat' (first | apply And.intro))); all_goals (try (first | exact trivial | exact gen_ii (by omega) | exact gen_cc rfl | exact gen_own rfl rfl | exact gen_ref rfl))))
                    all_goals exact genL_bov _
                · rw [hb] at hg
                  rw [if_neg (by rw [hb]; simp)] at hv
                  (repeat' (first | (simp (disch := first | assumption | omega | (simp only [Fits, maxLen, pgq] at *; omega)) only [pgo, pgb, tyf, buildSliceV_w, simprocAttr, hg, hi0, hi1, Nat.mul_one]) | ((with_reducible show callW _ _ _ _ _ _); first | refine callW_use _ (hc) rfl rfl rfl rfl ?_) | ((first | ((with_reducible show condC _ _ _ _ _ _ _); refine cond_at (fun hc => ?_) (fun hc => ?_)) | ((with_reducible show guardC _ _ _ _ _ _ _ _); refine guard_at (fun hc => ?_) (fun hc => ?_)) | ((with_reducible show drwG _ _ _ _ _ _ _ _ _ _); refine drw_at (fun hc => ?_) (fun hc => ?_))) <;> (try simp only [hc]) <;> (try simp only [pgd] at hc)) | (with_reducible refine chk_at (by kernel_rfl) ?_)))
                  (refine back_at (i + 1) [] [0, 1] (⟨hlt, hv⟩) (by first | omega | (simp only [List.length_cons]; omega)) ?_; (refine keep_mkA ?_ ?_ (top_hd _ _ _) (by decide) (by decide) (by decide) (by decide); (repeat' (first | exact trivial | refine genB_one _ _ rfl rfl ?_ ?_)); all_goals (try simp only [pgs, pgl, pgx, pgf, pgw, GenA_cons, GenA_nil, GenL_cons, GenL_nil, gen_top, gen_c, gen_fz, pgn, simprocAttr]); all_goals (try (repeat' (first | apply And.intro))); all_goals (try (first | exact trivial | exact gen_ii (by omega) | exact gen_cc rfl | exact gen_own rfl rfl | exact gen_ref rfl))))
                  all_goals exact genL_bov _
              · have : i = 14 := by omega
                subst this
                have hv0 : Z = 0 := hv
                rw [hv0]
                (repeat' (first | (simp (disch := first | assumption | omega | (simp only [Fits, maxLen, pgq] at *; omega)) only [pgo, pgb, tyf, buildSliceV_w, simprocAttr]) | ((first | ((with_reducible show condC _ _ _ _ _ _ _); refine cond_at (fun hc => ?_) (fun hc => ?_)) | ((with_reducible show guardC _ _ _ _ _ _ _ _); refine guard_at (fun hc => ?_) (fun hc => ?_)) | ((with_reducible show drwG _ _ _ _ _ _ _ _ _ _); refine drw_at (fun hc => ?_) (fun hc => ?_))) <;> (try simp only [hc]) <;> (try simp only [pgd] at hc)) | (with_reducible refine chk_at (by kernel_rfl) ?_)))
                (refine ret_at [] _ (by first | exact retV_one _ _ _ | exact retV_two _ _ _ _ | exact retV_three _ _ _ _ _ | exact retV_four _ _ _ _ _ _ | (simp (disch := first | assumption | omega | (simp only [Fits, maxLen, pgq] at *; omega)) only [pgr, pgo, tyf, simprocAttr]; rfl)) (by decide) (by simp only [pgo, simprocAttr]) ?_; (first | rfl | simp only [pgo, simprocAttr]))
      · (repeat' (first | (simp (disch := first | assumption | omega | (simp only [Fits, maxLen, pgq] at *; omega)) only [pgo, pgb, tyf, buildSliceV_w, simprocAttr, slE_nn0]) | ((first | ((with_reducible show condC _ _ _ _ _ _ _); refine cond_at (fun hc => ?_) (fun hc => ?_)) | ((with_reducible show guardC _ _ _ _ _ _ _ _); refine guard_at (fun hc => ?_) (fun hc => ?_)) | ((with_reducible show drwG _ _ _ _ _ _ _ _ _ _); refine drw_at (fun hc => ?_) (fun hc => ?_))) <;> (try simp only [hc]) <;> (try simp only [pgd] at hc)) | (with_reducible refine chk_at (by kernel_rfl) ?_)))
        refine loop_A (fun _ : Unit => mkA [(1, .ref 0 0), (4, .ref 1 0), (15, .sl .nn 1 []), (16, vi 0), (17, vi 0)] [(0, (32, opF o)), (1, (132, bov (mk14 [])))] 2 (fun _ => .top)) (fun _ => True) (fun _ => 0) () [] [0, 1] ?_ trivial ?_
        · (refine keep_mkA ?_ ?_ (top_hd _ _ _) (by decide) (by decide) (by decide) (by decide); (repeat' (first | exact trivial | refine genB_one _ _ rfl rfl ?_ ?_)); all_goals (try simp only [pgs, pgl, pgx, pgf, pgw, GenA_cons, GenA_nil, GenL_cons, GenL_nil, gen_top, gen_c, gen_fz, pgn, simprocAttr]); all_goals (try (repeat' (first | apply And.intro))); all_goals (try (first | exact trivial | exact gen_ii (by omega) | exact gen_cc rfl | exact gen_own rfl rfl | exact gen_ref rfl)))
          all_goals first | exact gen_same rfl rfl | skip
        · intro _ _
          (repeat' (first | (simp (disch := first | assumption | omega | (simp only [Fits, maxLen, pgq] at *; omega)) only [pgo, pgb, tyf, buildSliceV_w, simprocAttr]) | ((first | ((with_reducible show condC _ _ _ _ _ _ _); refine cond_at (fun hc => ?_) (fun hc => ?_)) | ((with_reducible show guardC _ _ _ _ _ _ _ _); refine guard_at (fun hc => ?_) (fun hc => ?_)) | ((with_reducible show drwG _ _ _ _ _ _ _ _ _ _); refine drw_at (fun hc => ?_) (fun hc => ?_))) <;> (try simp only [hc]) <;> (try simp only [pgd] at hc)) | (with_reducible refine chk_at (by kernel_rfl) ?_)))
          refine meet_at () [] [0, 1] trivial ?_
          (refine keep_mkA ?_ ?_ (top_hd _ _ _) (by decide) (by decide) (by decide) (by decide); (repeat' (first | exact trivial | refine genB_one _ _ rfl rfl ?_ ?_)); all_goals (try simp only [pgs, pgl, pgx, pgf, pgw, GenA_cons, GenA_nil, GenL_cons, GenL_nil, gen_top, gen_c, gen_fz, pgn, simprocAttr]); all_goals (try (repeat' (first | apply And.intro))); all_goals (try (first | exact trivial | exact gen_ii (by omega) | exact gen_cc rfl | exact gen_own rfl rfl | exact gen_ref rfl)))
          all_goals exact genL_bov _
    · rw [he] at hu
      (repeat' (first | (simp (disch := first | assumption | omega | (simp only [Fits, maxLen, pgq] at *; omega)) only [pgo, pgb, tyf, buildSliceV_w, simprocAttr, Tryz.f38, slE_iv]) | ((with_reducible show callW _ _ _ _ _ _); first | refine callW_use _ (hu) rfl rfl rfl rfl ?_) | ((first | ((with_reducible show condC _ _ _ _ _ _ _); refine cond_at (fun hc => ?_) (fun hc => ?_)) | ((with_reducible show guardC _ _ _ _ _ _ _ _); refine guard_at (fun hc => ?_) (fun hc => ?_)) | ((with_reducible show drwG _ _ _ _ _ _ _ _ _ _); refine drw_at (fun hc => ?_) (fun hc => ?_))) <;> (try simp only [hc]) <;> (try simp only [pgd] at hc)) | (with_reducible refine chk_at (by kernel_rfl) ?_)))
      refine seq_cut _ (fun _ : Unit => mkA [(1, .ref 0 0), (4, .ref 1 0)] [(0, (32, opF o)), (1, (132, bov (mk14 (x :: r))))] 2 (fun _ => .top)) (fun _ => True) rfl ?_ ?_
      · intro _ _
        have hml := mk14_len (x :: r)
        generalize hE : vE o (mk14 (x :: r)) 14 0 = E
        generalize hZ : zE o (mk14 (x :: r)) 14 0 = Z
        (repeat' (first | (simp (disch := first | assumption | omega | (simp only [Fits, maxLen, pgq] at *; omega)) only [pgo, pgb, tyf, buildSliceV_w, simprocAttr, slE_nn0]) | ((first | ((with_reducible show condC _ _ _ _ _ _ _); refine cond_at (fun hc => ?_) (fun hc => ?_)) | ((with_reducible show guardC _ _ _ _ _ _ _ _); refine guard_at (fun hc => ?_) (fun hc => ?_)) | ((with_reducible show drwG _ _ _ _ _ _ _ _ _ _); refine drw_at (fun hc => ?_) (fun hc => ?_))) <;> (try simp only [hc]) <;> (try simp only [pgd] at hc)) | (with_reducible refine chk_at (by kernel_rfl) ?_)))
        refine loop_A (fun i : Nat => mkA [(1, .ref 0 0), (4, .ref 1 0), (24, vi i)] [(0, (32, opF o)), (1, (132, bov (mk14 (x :: r))))] 2 (fun _ => .top)) (fun i => i ≤ 14 ∧ E = vE o (mk14 (x :: r)) (14 - i) i) (fun i => 14 - i) 0 [] [0, 1] ?_ ⟨Nat.zero_le _, hE.symm⟩ ?_
        · (refine keep_mkA ?_ ?_ (top_hd _ _ _) (by decide) (by decide) (by decide) (by decide); (repeat' (first | exact trivial | refine genB_one _ _ rfl rfl ?_ ?_)); all_goals (try simp only [pgs, pgl, pgx, pgf, pgw, GenA_cons, GenA_nil, GenL_cons, GenL_nil, gen_top, gen_c, gen_fz, pgn, simprocAttr]); all_goals (try (repeat' (first | apply And.intro))); all_goals (try (first | exact trivial | exact gen_ii (by omega) | exact gen_cc rfl | exact gen_own rfl rfl | exact gen_ref rfl)))
          all_goals exact genL_bov _
        · rintro i ⟨hi, hv⟩
          rcases Nat.lt_or_ge i 14 with hlt | hge
          · have hg := bov_get (mk14 (x :: r)) i (by rw [hml]; exact hlt)
            have hc := g_check o ho i hlt
            have hi0 : (0 : Int) ≤ (i : Int) := by omega
            have hi1 : (i : Int) < 14 := by omega
            rw [show 14 - i = (14 - (i + 1)) + 1 by omega, vE] at hv
            cases hb : (mk14 (x :: r)).getD i false
            · rw [hb] at hg
              rw [if_neg (by rw [hb]; simp)] at hv
              (repeat' (first | (simp (disch := first | assumption | omega | (simp only [Fits, maxLen, pgq] at *; omega)) only [pgo, pgb, tyf, buildSliceV_w, simprocAttr, hg, hi0, hi1, Nat.mul_one]) | ((first | ((with_reducible show condC _ _ _ _ _ _ _); refine cond_at (fun hc => ?_) (fun hc => ?_)) | ((with_reducible show guardC _ _ _ _ _ _ _ _); refine guard_at (fun hc => ?_) (fun hc => ?_)) | ((with_reducible show drwG _ _ _ _ _ _ _ _ _ _); refine drw_at (fun hc => ?_) (fun hc => ?_))) <;> (try simp only [hc]) <;> (try simp only [pgd] at hc)) | (with_reducible refine chk_at (by kernel_rfl) ?_)))
              (refine back_at (i + 1) [] [0, 1] (⟨hlt, hv⟩) (by first | omega | (simp only [List.length_cons]; omega)) ?_; (refine keep_mkA ?_ ?_ (top_hd _ _ _) (by decide) (by decide) (by decide) (by decide); (repeat' (first | exact trivial | refine genB_one _ _ rfl rfl ?_ ?_)); all_goals (try simp only [pgs, pgl, pgx, pgf, pgw, GenA_cons, GenA_nil, GenL_cons, GenL_nil, gen_top, gen_c, gen_fz, pgn, simprocAttr]); all_goals (try (repeat' (first | apply And.intro))); all_goals (try (first | exact trivial | exact gen_ii (by omega) | exact gen_cc rfl | exact gen_own rfl rfl | exact gen_ref rfl))))
              all_goals exact genL_bov _
            · rw [hb] at hg
              by_cases hz : chk o i = 0
              · rw [if_neg (by rw [hz]; simp)] at hv
                (repeat' (first | (simp (disch := first | assumption | omega | (simp only [Fits, maxLen, pgq] at *; omega)) only [pgo, pgb, tyf, buildSliceV_w, simprocAttr, hg, hi0, hi1, Nat.mul_one, hz]) | ((with_reducible show callW _ _ _ _ _ _); first | refine callW_use _ (hc) rfl rfl rfl rfl ?_) | ((first | ((with_reducible show condC _ _ _ _ _ _ _); refine cond_at (fun hc => ?_) (fun hc => ?_)) | ((with_reducible show guardC _ _ _ _ _ _ _ _); refine guard_at (fun hc => ?_) (fun hc => ?_)) | ((with_reducible show drwG _ _ _ _ _ _ _ _ _ _); refine drw_at (fun hc => ?_) (fun hc => ?_))) <;> (try simp only [hc]) <;> (try simp only [pgd] at hc)) | (with_reducible refine chk_at (by kernel_rfl) ?_)))
                (refine back_at (i + 1) [] [0, 1] (⟨hlt, hv⟩) (by first | omega | (simp only [List.length_cons]; omega)) ?_; (refine keep_mkA ?_ ?_ (top_hd _ _ _) (by decide) (by decide) (by decide) (by decide); (repeat' (first | exact trivial | refine genB_one _ _ rfl rfl ?_ ?_)); all_goals (try simp only [pgs, pgl, pgx, pgf, pgw, GenA_cons, GenA_nil, GenL_cons, GenL_nil, gen_top, gen_c, gen_fz, pgn, simprocAttr]); all_goals (try (repeat' (first | apply And.intro))); all_goals (try (first | exact trivial | exact gen_ii (by omega) | exact gen_cc rfl | exact gen_own rfl rfl | exact gen_ref rfl))))
                all_goals exact genL_bov _
              · rw [if_pos ⟨hb, hz⟩] at hv
                rw [hv, if_pos hz]
                (repeat' (first | (simp (disch := first | assumption | omega | (simp only [Fits, maxLen, pgq] at *; omega)) only [pgo, pgb, tyf, buildSliceV_w, simprocAttr, hg, hi0, hi1, Nat.mul_one, hz]) | ((with_reducible show callW _ _ _ _ _ _); first | refine callW_use _ (hc) rfl rfl rfl rfl ?_) | ((first | ((with_reducible show condC _ _ _ _ _ _ _); refine cond_at (fun hc => ?_) (fun hc => ?_)) | ((with_reducible show guardC _ _ _ _ _ _ _ _); refine guard_at (fun hc => ?_) (fun hc => ?_)) | ((with_reducible show drwG _ _ _ _ _ _ _ _ _ _); refine drw_at (fun hc => ?_) (fun hc => ?_))) <;> (try simp only [hc]) <;> (try simp only [pgd] at hc)) | (with_reducible refine chk_at (by kernel_rfl) ?_)))
                (refine ret_at [] _ (by first | exact retV_one _ _ _ | exact retV_two _ _ _ _ | exact retV_three _ _ _ _ _ | exact retV_four _ _ _ _ _ _ | (simp (disch := first | assumption | omega | (simp only [Fits, maxLen, pgq] at *; omega)) only [pgr, pgo, tyf, simprocAttr]; rfl)) (by decide) (by simp only [pgo, simprocAttr]) ?_; (first | rfl | simp only [pgo, simprocAttr]))
          · have : i = 14 := by omega
            subst this
            have hv0 : E = 0 := hv
            rw [hv0, if_neg (by simp)]
            (repeat' (first | (simp (disch := first | assumption | omega | (simp only [Fits, maxLen, pgq] at *; omega)) only [pgo, pgb, tyf, buildSliceV_w, simprocAttr]) | ((first | ((with_reducible show condC _ _ _ _ _ _ _); refine cond_at (fun hc => ?_) (fun hc => ?_)) | ((with_reducible show guardC _ _ _ _ _ _ _ _); refine guard_at (fun hc => ?_) (fun hc => ?_)) | ((with_reducible show drwG _ _ _ _ _ _ _ _ _ _); refine drw_at (fun hc => ?_) (fun hc => ?_))) <;> (try simp only [hc]) <;> (try simp only [pgd] at hc)) | (with_reducible refine chk_at (by kernel_rfl) ?_)))
            refine loop_A (fun i : Nat => mkA [(1, .ref 0 0), (4, .ref 1 0), (38, vi i)] [(0, (32, opF o)), (1, (132, bov (mk14 (x :: r))))] 2 (fun _ => .top)) (fun i => i ≤ 14 ∧ Z = zE o (mk14 (x :: r)) (14 - i) i) (fun i => 14 - i) 0 [] [0, 1] ?_ ⟨Nat.zero_le _, hZ.symm⟩ ?_
            · (refine keep_mkA ?_ ?_ (top_hd _ _ _) (by decide) (by decide) (by decide) (by decide); (repeat' (first | exact trivial | refine genB_one _ _ rfl rfl ?_ ?_)); all_goals (try simp only [pgs, pgl, pgx, pgf, pgw, GenA_cons, GenA_nil, GenL_cons, GenL_nil, gen_top, gen_c, gen_fz, pgn, simprocAttr]); all_goals (try (repeat' (first | apply And.intro))); all_goals (try (first | exact trivial | exact gen_ii (by omega) | exact gen_cc rfl | exact gen_own rfl rfl | exact gen_ref rfl)))
              all_goals exact genL_bov _
            · rintro i ⟨hi, hv⟩
              rcases Nat.lt_or_ge i 14 with hlt | hge
              · have hg := bov_get (mk14 (x :: r)) i (by rw [hml]; exact hlt)
                have hc := g_zero o i hlt
                have hi0 : (0 : Int) ≤ (i : Int) := by omega
                have hi1 : (i : Int) < 14 := by omega
                rw [show 14 - i = (14 - (i + 1)) + 1 by omega, zE] at hv
                cases hb : (mk14 (x :: r)).getD i false
                · rw [hb] at hg
                  cases hz : zro o i
                  · rw [if_pos ⟨hb, hz⟩] at hv
                    rw [hz] at hc
                    rw [hv]
                    (repeat' (first | (simp (disch := first | assumption | omega | (simp only [Fits, maxLen, pgq] at *; omega)) only [pgo, pgb, tyf, buildSliceV_w, simprocAttr, hg, hi0, hi1, Nat.mul_one]) | ((with_reducible show callW _ _ _ _ _ _); first | refine callW_use _ (hc) rfl rfl rfl rfl ?_) | ((first | ((with_reducible show condC _ _ _ _ _ _ _); refine cond_at (fun hc => ?_) (fun hc => ?_)) | ((with_reducible show guardC _ _ _ _ _ _ _ _); refine guard_at (fun hc => ?_) (fun hc => ?_)) | ((with_reducible show drwG _ _ _ _ _ _ _ _ _ _); refine drw_at (fun hc => ?_) (fun hc => ?_))) <;> (try simp only [hc]) <;> (try simp only [pgd] at hc)) | (with_reducible refine chk_at (by kernel_rfl) ?_)))
                    (refine ret_at [] _ (by first | exact retV_one _ _ _ | exact retV_two _ _ _ _ | exact retV_three _ _ _ _ _ | exact retV_four _ _ _ _ _ _ | (simp (disch := first | assumption | omega | (simp only [Fits, maxLen, pgq] at *; omega)) only [pgr, pgo, tyf, simprocAttr]; rfl)) (by decide) (by simp only [pgo, simprocAttr]) ?_; (first | rfl | simp only [pgo, simprocAttr]))
                  · rw [if_neg (by rw [hz]; simp)] at hv
                    rw [hz] at hc
                    (repeat' (first | (simp (disch := first | assumption | omega | (simp only [Fits, maxLen, pgq] at *; omega)) only [pgo, pgb, tyf, buildSliceV_w, simprocAttr, hg, hi0, hi1, Nat.mul_one]) | ((with_reducible show callW _ _ _ _ _ _); first | refine callW_use _ (hc) rfl rfl rfl rfl ?_) | ((first | ((with_reducible show condC _ _ _ _ _ _ _); refine cond_at (fun hc => ?_) (fun hc => ?_)) | ((with_reducible show guardC _ _ _ _ _ _ _ _); refine guard_at (fun hc => ?_) (fun hc => ?_)) | ((with_reducible show drwG _ _ _ _ _ _ _ _ _ _); refine drw_at (fun hc => ?_) (fun hc => ?_))) <;> (try simp only [hc]) <;> (try simp only [pgd] at hc)) | (with_reducible refine chk_at (by kernel_rfl) ?_)))
                    (refine back_at (i + 1) [] [0, 1] (⟨hlt, hv⟩) (by first | omega | (simp only [List.length_cons]; omega)) ?_; (refine keep_mkA ?_ ?_ (top_hd _ _ _) (by decide) (by decide) (by decide) (by decide); (repeat' (first | exact trivial | refine genB_one _ _ rfl rfl ?_ ?_)); all_goals (try simp only [pgs, pgl, pgx, pgf, pgw, GenA_cons, GenA_nil, GenL_cons, GenL_nil, gen_top, gen_c, gen_fz, pgn, simprocAttr]); all_goals (try (repeat' (first | apply And.intro))); all_goals (try (first | exact trivial | exact gen_ii (by omega) | exact gen_cc rfl | exact gen_own rfl rfl | exact gen_ref rfl))))
                    all_goals exact genL_bov _
                · rw [hb] at hg
                  rw [if_neg (by rw [hb]; simp)] at hv
                  (repeat' (first | (simp (disch := first | assumption | omega | (simp only [Fits, maxLen, pgq] at *; omega)) only [pgo, pgb, tyf, buildSliceV_w, simprocAttr, hg, hi0, hi1, Nat.mul_one]) | ((with_reducible show callW _ _ _ _ _ _); first | refine callW_use _ (hc) rfl rfl rfl rfl ?_) | ((first | ((with_reducible show condC _ _ _ _ _ _ _); refine cond_at (fun hc => ?_) (fun hc => ?_)) | ((with_reducible show guardC _ _ _ _ _ _ _ _); refine guard_at (fun hc => ?_) (fun hc => ?_)) | ((with_reducible show drwG _ _ _ _ _ _ _ _ _ _); refine drw_at (fun hc => ?_) (fun hc => ?_))) <;> (try simp only [hc]) <;> (try simp only [pgd] at hc)) | (with_reducible refine chk_at (by kernel_rfl) ?_)))
                  (refine back_at (i + 1) [] [0, 1] (⟨hlt, hv⟩) (by first | omega | (simp only [List.length_cons]; omega)) ?_; (refine keep_mkA ?_ ?_ (top_hd _ _ _) (by decide) (by decide) (by decide) (by decide); (repeat' (first | exact trivial | refine genB_one _ _ rfl rfl ?_ ?_)); all_goals (try simp only [pgs, pgl, pgx, pgf, pgw, GenA_cons, GenA_nil, GenL_cons, GenL_nil, gen_top, gen_c, gen_fz, pgn, simprocAttr]); all_goals (try (repeat' (first | apply And.intro))); all_goals (try (first | exact trivial | exact gen_ii (by omega) | exact gen_cc rfl | exact gen_own rfl rfl | exact gen_ref rfl))))
                  all_goals exact genL_bov _
              · have : i = 14 := by omega
                subst this
                have hv0 : Z = 0 := hv
                rw [hv0]
                (repeat' (first | (simp (disch := first | assumption | omega | (simp only [Fits, maxLen, pgq] at *; omega)) only [pgo, pgb, tyf, buildSliceV_w, simprocAttr]) | ((first | ((with_reducible show condC _ _ _ _ _ _ _); refine cond_at (fun hc => ?_) (fun hc => ?_)) | ((with_reducible show guardC _ _ _ _ _ _ _ _); refine guard_at (fun hc => ?_) (fun hc => ?_)) | ((with_reducible show drwG _ _ _ _ _ _ _ _ _ _); refine drw_at (fun hc => ?_) (fun hc => ?_))) <;> (try simp only [hc]) <;> (try simp only [pgd] at hc)) | (with_reducible refine chk_at (by kernel_rfl) ?_)))
                (refine ret_at [] _ (by first | exact retV_one _ _ _ | exact retV_two _ _ _ _ | exact retV_three _ _ _ _ _ | exact retV_four _ _ _ _ _ _ | (simp (disch := first | assumption | omega | (simp only [Fits, maxLen, pgq] at *; omega)) only [pgr, pgo, tyf, simprocAttr]; rfl)) (by decide) (by simp only [pgo, simprocAttr]) ?_; (first | rfl | simp only [pgo, simprocAttr]))
      · have hll : (iv (x :: r)).length = r.length + 1 := iv_len (x :: r)
        (repeat' (first | (simp (disch := first | assumption | omega | (simp only [Fits, maxLen, pgq] at *; omega)) only [pgo, pgb, tyf, buildSliceV_w, simprocAttr]) | ((first | ((with_reducible show condC _ _ _ _ _ _ _); refine cond_at (fun hc => ?_) (fun hc => ?_)) | ((with_reducible show guardC _ _ _ _ _ _ _ _); refine guard_at (fun hc => ?_) (fun hc => ?_)) | ((with_reducible show drwG _ _ _ _ _ _ _ _ _ _); refine drw_at (fun hc => ?_) (fun hc => ?_))) <;> (try simp only [hc]) <;> (try simp only [pgd] at hc)) | (with_reducible refine chk_at (by kernel_rfl) ?_)))
        refine loop_A (fun i : Nat => mkA [(1, .ref 0 0), (4, .ref 1 0), (15, .sl (.own 0 3) 1 (iv (x :: r))), (16, vi (x :: r).length), (17, vi i)] [(0, (32, opF o)), (1, (132, bov (mk14 ((x :: r).take i))))] 2 (fun _ => .top)) (fun i => i ≤ (x :: r).length) (fun i => (x :: r).length - i) 0 [1] [0, 2] ?_ (Nat.zero_le _) ?_
        · (refine keep_mkA ?_ ?_ (top_hd _ _ _) (by decide) (by decide) (by decide) (by decide); (repeat' (first | exact trivial | refine genB_one _ _ rfl rfl ?_ ?_)); all_goals (try simp only [pgs, pgl, pgx, pgf, pgw, GenA_cons, GenA_nil, GenL_cons, GenL_nil, gen_top, gen_c, gen_fz, pgn, simprocAttr]); all_goals (try (repeat' (first | apply And.intro))); all_goals (try (first | exact trivial | exact gen_ii (by omega) | exact gen_cc rfl | exact gen_own rfl rfl | exact gen_ref rfl)))
          all_goals first | exact genL_bov _ | (exact gen_own rfl rfl) | skip
        · intro i hi
          replace hi : i ≤ (x :: r).length := hi
          have hr5 : (x :: r).length ≤ 5 := by
            rw [← hl]
            by_cases h : o.kind < 1 ∨ 17 < o.kind
            · exact absurd h hk
            · have h5 : ∀ k : Int, ¬ (k < 1 ∨ 17 < k) → (usesL k).length ≤ 5 := by
                intro k h
                rcases kinds_of h with rfl | rfl | rfl | rfl | rfl | rfl | rfl | rfl | rfl | rfl | rfl | rfl | rfl | rfl | rfl | rfl | rfl <;> decide
              exact h5 _ h
          rcases Nat.lt_or_ge i (x :: r).length with hlt | hge
          · have hg := iv_get (x :: r) i hlt
            have hx := getD_some (x :: r) i 0 hlt
            have hn := hin ((x :: r).getD i 0) (by rw [List.getD_eq_getElem?_getD, List.getElem?_eq_getElem hlt]; exact List.getElem_mem hlt)
            have hnx := mk14_next (x :: r) i _ hx hn
            generalize (x :: r).getD i 0 = n at hg hx hn hnx
            have hn0 := hn.1
            have hn1 := hn.2
            have hbl := bov_len (mk14 ((x :: r).take i))
            rw [mk14_len] at hbl
            have hn2 : n.toNat + 1 ≤ 14 := by omega
            have hlt' : i < r.length + 1 := hlt
            (repeat' (first | (simp (disch := first | assumption | omega | (simp only [Fits, maxLen, pgq] at *; omega)) only [pgo, pgb, tyf, buildSliceV_w, simprocAttr, hg, hn0, hn1, Nat.mul_one, hbl, hn2, hnx]) | ((first | ((with_reducible show condC _ _ _ _ _ _ _); refine cond_at (fun hc => ?_) (fun hc => ?_)) | ((with_reducible show guardC _ _ _ _ _ _ _ _); refine guard_at (fun hc => ?_) (fun hc => ?_)) | ((with_reducible show drwG _ _ _ _ _ _ _ _ _ _); refine drw_at (fun hc => ?_) (fun hc => ?_))) <;> (try simp only [hc]) <;> (try simp only [pgd] at hc)) | (with_reducible refine chk_at (by kernel_rfl) ?_)))
            (refine back_at (i + 1) [0] [0, 1] (hlt) (by first | omega | (simp only [List.length_cons]; omega)) ?_; (refine keep_mkA ?_ ?_ (top_hd _ _ _) (by decide) (by decide) (by decide) (by decide); (repeat' (first | exact trivial | refine genB_one _ _ rfl rfl ?_ ?_)); all_goals (try simp only [pgs, pgl, pgx, pgf, pgw, GenA_cons, GenA_nil, GenL_cons, GenL_nil, gen_top, gen_c, gen_fz, pgn, simprocAttr]); all_goals (try (repeat' (first | apply And.intro))); all_goals (try (first | exact trivial | exact gen_ii (by omega) | exact gen_cc rfl | exact gen_own rfl rfl | exact gen_ref rfl))))
            all_goals exact genL_bov _
          · have : i = (x :: r).length := by omega
            subst this
            rw [List.take_length]
            (repeat' (first | (simp (disch := first | assumption | omega | (simp only [Fits, maxLen, pgq] at *; omega)) only [pgo, pgb, tyf, buildSliceV_w, simprocAttr]) | ((first | ((with_reducible show condC _ _ _ _ _ _ _); refine cond_at (fun hc => ?_) (fun hc => ?_)) | ((with_reducible show guardC _ _ _ _ _ _ _ _); refine guard_at (fun hc => ?_) (fun hc => ?_)) | ((with_reducible show drwG _ _ _ _ _ _ _ _ _ _); refine drw_at (fun hc => ?_) (fun hc => ?_))) <;> (try simp only [hc]) <;> (try simp only [pgd] at hc)) | (with_reducible refine chk_at (by kernel_rfl) ?_)))
            refine meet_at () [] [0, 1] trivial ?_
            (refine keep_mkA ?_ ?_ (top_hd _ _ _) (by decide) (by decide) (by decide) (by decide); (repeat' (first | exact trivial | refine genB_one _ _ rfl rfl ?_ ?_)); all_goals (try simp only [pgs, pgl, pgx, pgf, pgw, GenA_cons, GenA_nil, GenL_cons, GenL_nil, gen_top, gen_c, gen_fz, pgn, simprocAttr]); all_goals (try (repeat' (first | apply And.intro))); all_goals (try (first | exact trivial | exact gen_ii (by omega) | exact gen_cc rfl | exact gen_own rfl rfl | exact gen_ref rfl)))
            all_goals exact genL_bov _
end Go.Proofs.YtjiolbcdfgclaaaGreatDoor
end

section
/-
  Scripts: formatBytes, formatKey, the lists of words, the closures that append.
-/
namespace Go.Proofs.YtjiolbcdfgclaaaGreatDoor
open Go Go.Pg
set_option maxRecDepth 100000
set_option linter.unusedSimpArgs false
set_option linter.unusedVariables false

/-- A Builder's cells while bytes are written. -/
def bldC (l : List Nat) : Nat → List V
  | 0 => [.c (.pointer none), nls]
  | i + 1 => [.ref 0 0, .sl (.own 0 5) 1 (bv (hexL (l.take (i + 1))))]
theorem bld0 (l : List Nat) : bldC l 0 = [.c (.pointer none), nls] := rfl
theorem bldS (l : List Nat) (i : Nat) : bldC l (i + 1) = [.ref 0 0, .sl (.own 0 5) 1 (bv (hexL (l.take (i + 1))))] := rfl
/-- Bytes as a word. -/
def fb (l : List Nat) : List Nat := if l.length = 0 then [45] else hexL l
theorem k45 : (⟨#[45]⟩ : ByteArray) = sB [45] := rfl
theorem g_formatBytes (l : List Nat) (ho : oct l) (hl : l.length ≤ 1000000) : Pg.Good Tryz.prog 44 [fzb l] (vs (fb l)) := by
  refine good_intro (drawW_ok mix) Tryz.func44 rfl Tryz.results44 rfl (by kernel_rfl) (Nat.le_of_ble_eq_true (by kernel_rfl)) ?_
  unfold fb
  by_cases h0 : l.length = 0
  · rw [if_pos h0]
    (repeat' (first | (simp (disch := first | assumption | omega | (simp only [Fits, maxLen, pgq] at *; omega)) only [pgo, pgb, tyf, buildSliceV_w, simprocAttr, Tryz.f44, bv_len, h0, k45]) | ((first | ((with_reducible show condC _ _ _ _ _ _ _); refine cond_at (fun hc => ?_) (fun hc => ?_)) | ((with_reducible show guardC _ _ _ _ _ _ _ _); refine guard_at (fun hc => ?_) (fun hc => ?_)) | ((with_reducible show drwG _ _ _ _ _ _ _ _ _ _); refine drw_at (fun hc => ?_) (fun hc => ?_))) <;> (try simp only [hc]) <;> (try simp only [pgd] at hc)) | (with_reducible refine chk_at (by kernel_rfl) ?_)))
    (refine ret_at [] _ (by first | exact retV_one _ _ _ | exact retV_two _ _ _ _ | exact retV_three _ _ _ _ _ | exact retV_four _ _ _ _ _ _ | (simp (disch := first | assumption | omega | (simp only [Fits, maxLen, pgq] at *; omega)) only [pgr, pgo, tyf, simprocAttr]; rfl)) (by decide) (by simp only [pgo, simprocAttr]) ?_; (first | rfl | simp only [pgo, simprocAttr]))
  · rw [if_neg h0]
    have hb := bv_len l
    (repeat' (first | (simp (disch := first | assumption | omega | (simp only [Fits, maxLen, pgq] at *; omega)) only [pgo, pgb, tyf, buildSliceV_w, simprocAttr, Tryz.f44, bv_len, h0]) | ((first | ((with_reducible show condC _ _ _ _ _ _ _); refine cond_at (fun hc => ?_) (fun hc => ?_)) | ((with_reducible show guardC _ _ _ _ _ _ _ _); refine guard_at (fun hc => ?_) (fun hc => ?_)) | ((with_reducible show drwG _ _ _ _ _ _ _ _ _ _); refine drw_at (fun hc => ?_) (fun hc => ?_))) <;> (try simp only [hc]) <;> (try simp only [pgd] at hc)) | (with_reducible refine chk_at (by kernel_rfl) ?_)))
    refine loop_A (fun i => mkA [(3, .ref 0 0), (9, fzb l), (10, vi l.length), (11, vi (i : Nat))] [(0, (115, bldC l i))] 1 (fun _ => .top)) (fun i => i ≤ l.length) (fun i => l.length - i) 0 [] [0] ?_ (Nat.zero_le _) ?_
    · (refine keep_mkA ?_ ?_ (top_hd _ _ _) (by decide) (by decide) (by decide) (by decide); (repeat' (first | exact trivial | refine genB_one _ _ rfl rfl ?_ ?_)); all_goals (try simp only [pgs, pgl, pgx, pgf, pgw, GenA_cons, GenA_nil, GenL_cons, GenL_nil, gen_top, gen_c, gen_fz, pgn, simprocAttr]); all_goals (try (repeat' (first | apply And.intro))); all_goals (try (first | exact trivial | exact gen_ii (by omega) | exact gen_cc rfl | exact gen_own rfl rfl | exact gen_ref rfl)))
      all_goals first | exact ⟨of_eq_true (gen_c _ _ _), of_eq_true (gen_c _ _ _), trivial⟩ | skip
    · intro i hi
      replace hi : i ≤ l.length := hi
      rcases Nat.lt_or_ge i l.length with hlt | hge
      · have hg := bv_get l i hlt
        have hc := getD_lt ho i
        have hn := hexL_next hlt
        have hx1 := hexL_len (l.take i)
        have hx2 : (l.take i).length ≤ i := by simp; omega
        generalize l.getD i 0 = c at hg hc hn
        cases i with
        | zero =>
          (repeat' (first | (simp (disch := first | assumption | omega | (simp only [Fits, maxLen, pgq] at *; omega)) only [pgo, pgb, tyf, buildSliceV_w, simprocAttr, hg, bld0, bv_len, hexs, shr4b, and15, hexix]) | ((with_reducible show callW _ _ _ _ _ _); first | refine callZ _ (good31 _ _ _ _ 0 _ _ _ _ rfl (.inr rfl) (by simp)) rfl ?_ | refine callZ _ (good31n _ _ _ _ _ _ _ rfl (.inl rfl)) rfl ?_) | ((first | ((with_reducible show condC _ _ _ _ _ _ _); refine cond_at (fun hc => ?_) (fun hc => ?_)) | ((with_reducible show guardC _ _ _ _ _ _ _ _); refine guard_at (fun hc => ?_) (fun hc => ?_)) | ((with_reducible show drwG _ _ _ _ _ _ _ _ _ _); refine drw_at (fun hc => ?_) (fun hc => ?_))) <;> (try simp only [hc]) <;> (try simp only [pgd] at hc)) | (with_reducible refine chk_at (by kernel_rfl) ?_)))
          (refine back_at (0 + 1) [2] [0] (hlt) (by first | omega | (simp only [List.length_cons]; omega)) ?_; (refine keep_mkA ?_ ?_ (top_hd _ _ _) (by decide) (by decide) (by decide) (by decide); (repeat' (first | exact trivial | refine genB_one _ _ rfl rfl ?_ ?_)); all_goals (try simp only [pgs, pgl, pgx, pgf, pgw, GenA_cons, GenA_nil, GenL_cons, GenL_nil, gen_top, gen_c, gen_fz, pgn, simprocAttr]); all_goals (try (repeat' (first | apply And.intro))); all_goals (try (first | exact trivial | exact gen_ii (by omega) | exact gen_cc rfl | exact gen_own rfl rfl | exact gen_ref rfl))))
          all_goals exact gen_own rfl (by rw [hn]; rfl)
        | succ i =>
          (repeat' (first | (simp (disch := first | assumption | omega | (simp only [Fits, maxLen, pgq] at *; omega)) only [pgo, pgb, tyf, buildSliceV_w, simprocAttr, hg, toN1, bldS, bv_len, hexs, shr4b, and15, hexix]) | ((with_reducible show callW _ _ _ _ _ _); first | refine callZ _ (good31 _ _ _ _ 0 0 _ _ _ rfl (.inr rfl) (by first | omega | (simp only [List.length_append, List.length_cons, List.length_nil]; omega))) rfl ?_) | ((first | ((with_reducible show condC _ _ _ _ _ _ _); refine cond_at (fun hc => ?_) (fun hc => ?_)) | ((with_reducible show guardC _ _ _ _ _ _ _ _); refine guard_at (fun hc => ?_) (fun hc => ?_)) | ((with_reducible show drwG _ _ _ _ _ _ _ _ _ _); refine drw_at (fun hc => ?_) (fun hc => ?_))) <;> (try simp only [hc]) <;> (try simp only [pgd] at hc)) | (with_reducible refine chk_at (by kernel_rfl) ?_)))
          (refine back_at (i + 1 + 1) [0] [0] (hlt) (by first | omega | (simp only [List.length_cons]; omega)) ?_; (refine keep_mkA ?_ ?_ (top_hd _ _ _) (by decide) (by decide) (by decide) (by decide); (repeat' (first | exact trivial | refine genB_one _ _ rfl rfl ?_ ?_)); all_goals (try simp only [pgs, pgl, pgx, pgf, pgw, GenA_cons, GenA_nil, GenL_cons, GenL_nil, gen_top, gen_c, gen_fz, pgn, simprocAttr]); all_goals (try (repeat' (first | apply And.intro))); all_goals (try (first | exact trivial | exact gen_ii (by omega) | exact gen_cc rfl | exact gen_own rfl rfl | exact gen_ref rfl))))
          all_goals exact gen_own rfl (by rw [hn])
      · have hil : i = l.length := by omega
        cases i with
        | zero => omega
        | succ i =>
          have hx1 := hexL_len l
          have hbl : bldC l (i + 1) = [.ref 0 0, .sl (.own 0 5) 1 (bv (hexL l))] := by rw [bldS, hil, List.take_length]
          (repeat' (first | (simp (disch := first | assumption | omega | (simp only [Fits, maxLen, pgq] at *; omega)) only [pgo, pgb, tyf, buildSliceV_w, simprocAttr, hbl, bv_len]) | ((with_reducible show callW _ _ _ _ _ _); first | refine callZ _ (good32 _ _ _ _ 0 0 _ _ rfl (by omega) (hexL_oct _)) rfl ?_) | ((first | ((with_reducible show condC _ _ _ _ _ _ _); refine cond_at (fun hc => ?_) (fun hc => ?_)) | ((with_reducible show guardC _ _ _ _ _ _ _ _); refine guard_at (fun hc => ?_) (fun hc => ?_)) | ((with_reducible show drwG _ _ _ _ _ _ _ _ _ _); refine drw_at (fun hc => ?_) (fun hc => ?_))) <;> (try simp only [hc]) <;> (try simp only [pgd] at hc)) | (with_reducible refine chk_at (by kernel_rfl) ?_)))
          (refine ret_at [] _ (by first | exact retV_one _ _ _ | exact retV_two _ _ _ _ | exact retV_three _ _ _ _ _ | exact retV_four _ _ _ _ _ _ | (simp (disch := first | assumption | omega | (simp only [Fits, maxLen, pgq] at *; omega)) only [pgr, pgo, tyf, simprocAttr]; rfl)) (by decide) (by simp only [pgo, simprocAttr]) ?_; (first | rfl | simp only [pgo, simprocAttr]))
end Go.Proofs.YtjiolbcdfgclaaaGreatDoor
end

section
/-
  Scripts: the lists of words; formatKey; the closures that append words.
-/
namespace Go.Proofs.YtjiolbcdfgclaaaGreatDoor
open Go Go.Pg
set_option maxRecDepth 100000
set_option linter.unusedSimpArgs false
set_option linter.unusedVariables false

/-- The operations' first words. -/
def wordsL : List (List Nat) := [[], [99, 114, 101, 97, 116, 101], [100, 114, 111, 112], [114, 101, 110, 97, 109, 101], [108, 105, 115, 116], [113, 117, 101, 114, 121], [105, 110, 115, 101, 114, 116], [109, 101, 114, 103, 101], [99, 111, 109, 112, 97, 114, 101], [111, 112, 101, 110], [114, 101, 97, 100], [99, 108, 111, 115, 101], [99, 117, 114, 115, 111, 114], [110, 101, 120, 116], [101, 110, 100], [101, 120, 112, 111, 114, 116], [105, 109, 112, 111, 114, 116], [99, 111, 108, 108, 101, 99, 116]]
/-- The sketches' kinds. -/
def kindsL : List (List Nat) := [[], [116, 97, 108, 108, 121], [99, 111, 117, 110, 116, 109, 105, 110], [108, 111, 103, 108, 111, 103], [116, 111, 112], [102, 114, 101, 113, 117, 101, 110, 116], [114, 97, 110, 107, 115]]
/-- The queries' kinds. -/
def queriesL : List (List Nat) := [[], [116, 111, 116, 97, 108], [112, 111, 105, 110, 116], [114, 101, 103, 105, 115, 116, 101, 114, 115], [100, 105, 115, 116, 105, 110, 99, 116], [116, 111, 112], [114, 97, 110, 107], [113, 117, 97, 110, 116, 105, 108, 101]]
/-- The events' kinds. -/
def eventsL : List (List Nat) := [[], [99, 97, 108, 108], [112, 105, 99, 107], [99, 97, 110, 99, 101, 108]]
theorem bs_words (e : Nat → V) (b : Nat → Option (TypeId × List V)) (n : Nat) (h : Nat → V) : buildSliceV Tryz.prog ⟨e, b, n, h⟩ 23 18 [(0, V.c (.string ⟨#[]⟩)), (1, V.c (.string ⟨#[99, 114, 101, 97, 116, 101]⟩)), (2, V.c (.string ⟨#[100, 114, 111, 112]⟩)), (3, V.c (.string ⟨#[114, 101, 110, 97, 109, 101]⟩)), (4, V.c (.string ⟨#[108, 105, 115, 116]⟩)), (5, V.c (.string ⟨#[113, 117, 101, 114, 121]⟩)), (6, V.c (.string ⟨#[105, 110, 115, 101, 114, 116]⟩)), (7, V.c (.string ⟨#[109, 101, 114, 103, 101]⟩)), (8, V.c (.string ⟨#[99, 111, 109, 112, 97, 114, 101]⟩)), (9, V.c (.string ⟨#[111, 112, 101, 110]⟩)), (10, V.c (.string ⟨#[114, 101, 97, 100]⟩)), (11, V.c (.string ⟨#[99, 108, 111, 115, 101]⟩)), (12, V.c (.string ⟨#[99, 117, 114, 115, 111, 114]⟩)), (13, V.c (.string ⟨#[110, 101, 120, 116]⟩)), (14, V.c (.string ⟨#[101, 110, 100]⟩)), (15, V.c (.string ⟨#[101, 120, 112, 111, 114, 116]⟩)), (16, V.c (.string ⟨#[105, 109, 112, 111, 114, 116]⟩)), (17, V.c (.string ⟨#[99, 111, 108, 108, 101, 99, 116]⟩))] = some (.sl (.own n 9) 1 (sv wordsL), ⟨e, b, n + 1, h⟩) := by
  rw [buildSliceV_w, ty_e23, Option.bind_some, ty_t9, Option.bind_some, ty_y9, Option.bind_some]
  rfl
theorem g_words : Pg.Good Tryz.prog 39 [] (.sl (.own 0 9) 1 (sv wordsL)) := by
  refine good_intro (drawW_ok mix) Tryz.func39 rfl Tryz.results39 rfl (by kernel_rfl) (Nat.le_of_ble_eq_true (by kernel_rfl)) ?_
  (repeat' (first | (simp (disch := first | assumption | omega | (simp only [Fits, maxLen, pgq] at *; omega)) only [pgo, pgb, tyf, simprocAttr, Tryz.f39, bs_words]) | ((first | ((with_reducible show condC _ _ _ _ _ _ _); refine cond_at (fun hc => ?_) (fun hc => ?_)) | ((with_reducible show guardC _ _ _ _ _ _ _ _); refine guard_at (fun hc => ?_) (fun hc => ?_)) | ((with_reducible show drwG _ _ _ _ _ _ _ _ _ _); refine drw_at (fun hc => ?_) (fun hc => ?_))) <;> (try simp only [hc]) <;> (try simp only [pgd] at hc)) | (with_reducible refine chk_at (by kernel_rfl) ?_)))
  (refine ret_at [0] _ (by first | exact retV_one _ _ _ | exact retV_two _ _ _ _ | exact retV_three _ _ _ _ _ | exact retV_four _ _ _ _ _ _ | (simp (disch := first | assumption | omega | (simp only [Fits, maxLen, pgq] at *; omega)) only [pgr, pgo, tyf, simprocAttr]; rfl)) (by decide) (by simp only [pgo, simprocAttr]) ?_; (first | rfl | simp only [pgo, simprocAttr]))
theorem bs_kinds (e : Nat → V) (b : Nat → Option (TypeId × List V)) (n : Nat) (h : Nat → V) : buildSliceV Tryz.prog ⟨e, b, n, h⟩ 23 7 [(0, V.c (.string ⟨#[]⟩)), (1, V.c (.string ⟨#[116, 97, 108, 108, 121]⟩)), (2, V.c (.string ⟨#[99, 111, 117, 110, 116, 109, 105, 110]⟩)), (3, V.c (.string ⟨#[108, 111, 103, 108, 111, 103]⟩)), (4, V.c (.string ⟨#[116, 111, 112]⟩)), (5, V.c (.string ⟨#[102, 114, 101, 113, 117, 101, 110, 116]⟩)), (6, V.c (.string ⟨#[114, 97, 110, 107, 115]⟩))] = some (.sl (.own n 9) 1 (sv kindsL), ⟨e, b, n + 1, h⟩) := by
  rw [buildSliceV_w, ty_e23, Option.bind_some, ty_t9, Option.bind_some, ty_y9, Option.bind_some]
  rfl
theorem g_kinds : Pg.Good Tryz.prog 76 [] (.sl (.own 0 9) 1 (sv kindsL)) := by
  refine good_intro (drawW_ok mix) Tryz.func76 rfl Tryz.results76 rfl (by kernel_rfl) (Nat.le_of_ble_eq_true (by kernel_rfl)) ?_
  (repeat' (first | (simp (disch := first | assumption | omega | (simp only [Fits, maxLen, pgq] at *; omega)) only [pgo, pgb, tyf, simprocAttr, Tryz.f76, bs_kinds]) | ((first | ((with_reducible show condC _ _ _ _ _ _ _); refine cond_at (fun hc => ?_) (fun hc => ?_)) | ((with_reducible show guardC _ _ _ _ _ _ _ _); refine guard_at (fun hc => ?_) (fun hc => ?_)) | ((with_reducible show drwG _ _ _ _ _ _ _ _ _ _); refine drw_at (fun hc => ?_) (fun hc => ?_))) <;> (try simp only [hc]) <;> (try simp only [pgd] at hc)) | (with_reducible refine chk_at (by kernel_rfl) ?_)))
  (refine ret_at [0] _ (by first | exact retV_one _ _ _ | exact retV_two _ _ _ _ | exact retV_three _ _ _ _ _ | exact retV_four _ _ _ _ _ _ | (simp (disch := first | assumption | omega | (simp only [Fits, maxLen, pgq] at *; omega)) only [pgr, pgo, tyf, simprocAttr]; rfl)) (by decide) (by simp only [pgo, simprocAttr]) ?_; (first | rfl | simp only [pgo, simprocAttr]))
theorem bs_queries (e : Nat → V) (b : Nat → Option (TypeId × List V)) (n : Nat) (h : Nat → V) : buildSliceV Tryz.prog ⟨e, b, n, h⟩ 23 8 [(0, V.c (.string ⟨#[]⟩)), (1, V.c (.string ⟨#[116, 111, 116, 97, 108]⟩)), (2, V.c (.string ⟨#[112, 111, 105, 110, 116]⟩)), (3, V.c (.string ⟨#[114, 101, 103, 105, 115, 116, 101, 114, 115]⟩)), (4, V.c (.string ⟨#[100, 105, 115, 116, 105, 110, 99, 116]⟩)), (5, V.c (.string ⟨#[116, 111, 112]⟩)), (6, V.c (.string ⟨#[114, 97, 110, 107]⟩)), (7, V.c (.string ⟨#[113, 117, 97, 110, 116, 105, 108, 101]⟩))] = some (.sl (.own n 9) 1 (sv queriesL), ⟨e, b, n + 1, h⟩) := by
  rw [buildSliceV_w, ty_e23, Option.bind_some, ty_t9, Option.bind_some, ty_y9, Option.bind_some]
  rfl
theorem g_queries : Pg.Good Tryz.prog 78 [] (.sl (.own 0 9) 1 (sv queriesL)) := by
  refine good_intro (drawW_ok mix) Tryz.func78 rfl Tryz.results78 rfl (by kernel_rfl) (Nat.le_of_ble_eq_true (by kernel_rfl)) ?_
  (repeat' (first | (simp (disch := first | assumption | omega | (simp only [Fits, maxLen, pgq] at *; omega)) only [pgo, pgb, tyf, simprocAttr, Tryz.f78, bs_queries]) | ((first | ((with_reducible show condC _ _ _ _ _ _ _); refine cond_at (fun hc => ?_) (fun hc => ?_)) | ((with_reducible show guardC _ _ _ _ _ _ _ _); refine guard_at (fun hc => ?_) (fun hc => ?_)) | ((with_reducible show drwG _ _ _ _ _ _ _ _ _ _); refine drw_at (fun hc => ?_) (fun hc => ?_))) <;> (try simp only [hc]) <;> (try simp only [pgd] at hc)) | (with_reducible refine chk_at (by kernel_rfl) ?_)))
  (refine ret_at [0] _ (by first | exact retV_one _ _ _ | exact retV_two _ _ _ _ | exact retV_three _ _ _ _ _ | exact retV_four _ _ _ _ _ _ | (simp (disch := first | assumption | omega | (simp only [Fits, maxLen, pgq] at *; omega)) only [pgr, pgo, tyf, simprocAttr]; rfl)) (by decide) (by simp only [pgo, simprocAttr]) ?_; (first | rfl | simp only [pgo, simprocAttr]))
theorem g_eventWords : Pg.Good Tryz.prog 61 [] (.sl (.own 0 9) 1 (sv eventsL)) := by
  refine good_intro (drawW_ok mix) Tryz.func61 rfl Tryz.results61 rfl (by kernel_rfl) (Nat.le_of_ble_eq_true (by kernel_rfl)) ?_
  (repeat' (first | (simp (disch := first | assumption | omega | (simp only [Fits, maxLen, pgq] at *; omega)) only [pgo, pgb, tyf, buildSliceV_w, simprocAttr, Tryz.f61]) | ((first | ((with_reducible show condC _ _ _ _ _ _ _); refine cond_at (fun hc => ?_) (fun hc => ?_)) | ((with_reducible show guardC _ _ _ _ _ _ _ _); refine guard_at (fun hc => ?_) (fun hc => ?_)) | ((with_reducible show drwG _ _ _ _ _ _ _ _ _ _); refine drw_at (fun hc => ?_) (fun hc => ?_))) <;> (try simp only [hc]) <;> (try simp only [pgd] at hc)) | (with_reducible refine chk_at (by kernel_rfl) ?_)))
  (refine ret_at [0] _ (by first | exact retV_one _ _ _ | exact retV_two _ _ _ _ | exact retV_three _ _ _ _ _ | exact retV_four _ _ _ _ _ _ | (simp (disch := first | assumption | omega | (simp only [Fits, maxLen, pgq] at *; omega)) only [pgr, pgo, tyf, simprocAttr]; rfl)) (by decide) (by simp only [pgo, simprocAttr]) ?_; (first | rfl | simp only [pgo, simprocAttr]))
/-- A key as a word, or a dash. -/
def kw (l : List Nat) : List Nat := if (fk l).2 = 0 then (fk l).1 else [45]
theorem g_formatKey (l : List Nat) (ho : oct l) : Pg.Good Tryz.prog 45 [vs l] (vs (kw l)) := by
  have h := good11 l ho
  unfold fkV at h
  unfold kw
  refine good_intro (drawW_ok mix) Tryz.func45 rfl Tryz.results45 rfl (by kernel_rfl) (Nat.le_of_ble_eq_true (by kernel_rfl)) ?_
  by_cases h0 : (fk l).2 = 0
  · rw [h0] at h
    rw [if_pos h0]
    (repeat' (first | (simp (disch := first | assumption | omega | (simp only [Fits, maxLen, pgq] at *; omega)) only [pgo, pgb, tyf, buildSliceV_w, simprocAttr, Tryz.f45]) | ((with_reducible show callW _ _ _ _ _ _); first | refine callW_use _ (h) rfl rfl rfl rfl ?_) | ((first | ((with_reducible show condC _ _ _ _ _ _ _); refine cond_at (fun hc => ?_) (fun hc => ?_)) | ((with_reducible show guardC _ _ _ _ _ _ _ _); refine guard_at (fun hc => ?_) (fun hc => ?_)) | ((with_reducible show drwG _ _ _ _ _ _ _ _ _ _); refine drw_at (fun hc => ?_) (fun hc => ?_))) <;> (try simp only [hc]) <;> (try simp only [pgd] at hc)) | (with_reducible refine chk_at (by kernel_rfl) ?_)))
    (refine ret_at [] _ (by first | exact retV_one _ _ _ | exact retV_two _ _ _ _ | exact retV_three _ _ _ _ _ | exact retV_four _ _ _ _ _ _ | (simp (disch := first | assumption | omega | (simp only [Fits, maxLen, pgq] at *; omega)) only [pgr, pgo, tyf, simprocAttr]; rfl)) (by decide) (by simp only [pgo, simprocAttr]) ?_; (first | rfl | simp only [pgo, simprocAttr]))
  · have h1 : ((fk l).2 : Int) ≠ 0 := by omega
    rw [if_neg h0]
    (repeat' (first | (simp (disch := first | assumption | omega | (simp only [Fits, maxLen, pgq] at *; omega)) only [pgo, pgb, tyf, buildSliceV_w, simprocAttr, Tryz.f45, k45]) | ((with_reducible show callW _ _ _ _ _ _); first | refine callW_use _ (h) rfl rfl rfl rfl ?_) | ((first | ((with_reducible show condC _ _ _ _ _ _ _); refine cond_at (fun hc => ?_) (fun hc => ?_)) | ((with_reducible show guardC _ _ _ _ _ _ _ _); refine guard_at (fun hc => ?_) (fun hc => ?_)) | ((with_reducible show drwG _ _ _ _ _ _ _ _ _ _); refine drw_at (fun hc => ?_) (fun hc => ?_))) <;> (try simp only [hc]) <;> (try simp only [pgd] at hc)) | (with_reducible refine chk_at (by kernel_rfl) ?_)))
    (refine ret_at [] _ (by first | exact retV_one _ _ _ | exact retV_two _ _ _ _ | exact retV_three _ _ _ _ _ | exact retV_four _ _ _ _ _ _ | (simp (disch := first | assumption | omega | (simp only [Fits, maxLen, pgq] at *; omega)) only [pgr, pgo, tyf, simprocAttr]; rfl)) (by decide) (by simp only [pgo, simprocAttr]) ?_; (first | rfl | simp only [pgo, simprocAttr]))
theorem g_addO (e : Nat → V) (bx : Nat → Option (TypeId × List V)) (n : Nat) (h : Nat → V) (b id : Nat) (tg : Tag) (xs ys : List (List Nat)) (hb : bx b = some (23, [.sl (.own id 9) 1 (sv xs)])) (hl : xs.length + ys.length ≤ 1000000) (ht : Tag.is id tg = false) :
    GoodZ Tryz.prog 40 [.sl tg 1 (sv ys), .ref b 0] ⟨e, bx, n, h⟩ ⟨mapE (poison id) e, upd (mapB (poison id) bx) b (some (23, [.sl (.own id 9) 1 (sv (xs ++ ys))])), max n (id + 1), mapE (poison id) h⟩ (.tup []) := by
  have hx := sv_len xs
  have hy := sv_len ys
  refine goodZ_intro (drawW_ok mix) Tryz.func40 rfl Tryz.results40 rfl (by kernel_rfl) (Nat.le_of_ble_eq_true (by kernel_rfl)) ?_
  (repeat' (first | (simp (disch := first | assumption | omega | (simp only [Fits, maxLen, pgq] at *; omega)) only [pgo, pgb, tyf, buildSliceV_w, simprocAttr, Tryz.f40, inlS_at, inlQ_ret, inlQ_normal, hb, sv_app]) | ((first | ((with_reducible show condC _ _ _ _ _ _ _); refine cond_at (fun hc => ?_) (fun hc => ?_)) | ((with_reducible show guardC _ _ _ _ _ _ _ _); refine guard_at (fun hc => ?_) (fun hc => ?_)) | ((with_reducible show drwG _ _ _ _ _ _ _ _ _ _); refine drw_at (fun hc => ?_) (fun hc => ?_))) <;> (try simp only [hc]) <;> (try simp only [pgd] at hc)) | (with_reducible refine chk_at (by kernel_rfl) ?_)))
  refine inl_at (retV_none _ _) ?_
  rw [unE_map, unH_map, unE_pair, unH_pair]
theorem g_addR (e : Nat → V) (bx : Nat → Option (TypeId × List V)) (n : Nat) (h : Nat → V) (b id : Nat) (tg : Tag) (xs ys : List (List Nat)) (hb : bx b = some (23, [.sl (.own id 9) 1 (sv xs)])) (hl : xs.length + ys.length ≤ 1000000) (ht : Tag.is id tg = false) :
    GoodZ Tryz.prog 58 [.sl tg 1 (sv ys), .ref b 0] ⟨e, bx, n, h⟩ ⟨mapE (poison id) e, upd (mapB (poison id) bx) b (some (23, [.sl (.own id 9) 1 (sv (xs ++ ys))])), max n (id + 1), mapE (poison id) h⟩ (.tup []) := by
  have hx := sv_len xs
  have hy := sv_len ys
  refine goodZ_intro (drawW_ok mix) Tryz.func58 rfl Tryz.results58 rfl (by kernel_rfl) (Nat.le_of_ble_eq_true (by kernel_rfl)) ?_
  (repeat' (first | (simp (disch := first | assumption | omega | (simp only [Fits, maxLen, pgq] at *; omega)) only [pgo, pgb, tyf, buildSliceV_w, simprocAttr, Tryz.f58, inlS_at, inlQ_ret, inlQ_normal, hb, sv_app]) | ((first | ((with_reducible show condC _ _ _ _ _ _ _); refine cond_at (fun hc => ?_) (fun hc => ?_)) | ((with_reducible show guardC _ _ _ _ _ _ _ _); refine guard_at (fun hc => ?_) (fun hc => ?_)) | ((with_reducible show drwG _ _ _ _ _ _ _ _ _ _); refine drw_at (fun hc => ?_) (fun hc => ?_))) <;> (try simp only [hc]) <;> (try simp only [pgd] at hc)) | (with_reducible refine chk_at (by kernel_rfl) ?_)))
  refine inl_at (retV_none _ _) ?_
  rw [unE_map, unH_map, unE_pair, unH_pair]
end Go.Proofs.YtjiolbcdfgclaaaGreatDoor
end

section
/-
  Scripts: FormatOp of an insertion that is valid.
-/
namespace Go.Proofs.YtjiolbcdfgclaaaGreatDoor
open Go Go.Pg
set_option maxRecDepth 100000
set_option linter.unusedSimpArgs false
set_option linter.unusedVariables false

/-- The words of items. -/
def itsW : List (List Nat × Int) → List (List Nat)
  | [] => []
  | x :: l => kw x.1 :: itoaN x.2 :: itsW l
theorem itsW_app (a b : List (List Nat × Int)) : itsW (a ++ b) = itsW a ++ itsW b := by
  induction a with
  | nil => rfl
  | cons x a ih => simp only [List.cons_append, itsW, ih]
theorem itsW_next (l : List (List Nat × Int)) (i : Nat) (x : List Nat × Int) (hx : l[i]? = some x) : itsW (l.take (i + 1)) = itsW (l.take i) ++ [kw x.1, itoaN x.2] := by
  have hi := (List.getElem?_eq_some_iff.1 hx).1
  rw [List.take_succ_eq_append_getElem hi, itsW_app, (List.getElem?_eq_some_iff.1 hx).2]
  rfl
theorem itsW_len (l : List (List Nat × Int)) : (itsW l).length = 2 * l.length := by
  induction l with
  | nil => rfl
  | cons x l ih => simp only [itsW, List.length_cons, ih]; omega
/-- The words of an insertion. -/
def insW (o : O) : List (List Nat) := [[105, 110, 115, 101, 114, 116], o.name, fb o.coins] ++ itsW o.items
theorem kw_len (l : List Nat) : (kw l).length ≤ 65 := by
  unfold kw
  split
  · exact fk_len l
  · simp
theorem kw_oct {l : List Nat} (ho : oct l) : oct (kw l) := by
  unfold kw
  split
  · exact fk_oct ho
  · exact oct_one (by omega)
theorem fb_len (l : List Nat) : (fb l).length ≤ 2 * l.length + 1 := by
  unfold fb
  split
  · simp
  · rw [hexL_len]; omega
theorem fb_oct (l : List Nat) : oct (fb l) := by
  unfold fb
  split
  · exact oct_one (by omega)
  · exact hexL_oct l
def Wt (n : Int) : Prop := -9223372036854775808 ≤ n ∧ n ≤ 9223372036854775807
theorem itsW_tot (l : List (List Nat × Int)) (hw : ∀ x ∈ l, Wt x.2) : tot (itsW l) ≤ l.length * 100 := by
  induction l with
  | nil => simp [itsW, tot_nil]
  | cons x l ih =>
    have h1 := kw_len x.1
    have h2 := itoaN_len x.2 (hw x (by simp)).1 (hw x (by simp)).2
    have h3 := ih fun y hy => hw y (by simp [hy])
    simp only [itsW, tot_cons, List.length_cons]
    omega
theorem wordsL_get6 : (sv wordsL)[6]? = some (.c (.string (sB [105, 110, 115, 101, 114, 116]))) := rfl
theorem k32 : (⟨#[32]⟩ : ByteArray) = sB [32] := rfl
set_option maxHeartbeats 2000000 in
theorem g_FmtIns (o : O) (ho : o.Oct) (hk : o.kind = 6) (hv : vop o = 0) (hc : o.coins.length ≤ 1000) (hn : o.name.length ≤ 1000) (hi : o.items.length ≤ 1000) (hw : ∀ x ∈ o.items, Wt x.2) :
    Pg.Good Tryz.prog 13 [.agg (opF o)] (.tup [vs (jn (insW o)), vi 0]) := by
  have h1 := g_Validate o ho
  rw [hv] at h1
  have hfb := g_formatBytes o.coins ho.2.2.2.2.1 (by omega)
  have hoi := ho.2.2.2.1
  have htot := itsW_tot o.items hw
  have hfl := fb_len o.coins
  have hjl : (jn (insW o)).length ≤ 1000000 := by
    have h2 := jn_len (insW o)
    have h3 : tot (insW o) = 6 + 1 + (o.name.length + 1 + ((fb o.coins).length + 1 + tot (itsW o.items))) := by simp [insW, tot_cons]
    omega
  have hnl : (insW o).length ≤ 1000000 := by
    have h2 : (insW o).length = (itsW o.items).length + 3 := by simp [insW]
    have h3 := itsW_len o.items
    omega
  have hjo := g_Join (insW o) (by omega) (by omega)
  unfold insW at hjo
  unfold insW
  obtain ⟨kind, name, other, names, pk, pz, pd, ps, items, coins, exp, src, hnd, idx, cur, cnt, qk, qkey, qc, qn, qd, data⟩ := o
  simp only at hk hv hc hn hi hw hfb hoi hjo ⊢
  subst hk
  refine good_intro (drawD_ok [] mix) Tryz.func13 rfl Tryz.results13 rfl (by kernel_rfl) (Nat.le_of_ble_eq_true (by kernel_rfl)) ?_
  have hsl : (sv wordsL).length = 18 := rfl
  clear htot hfl hjl hnl
  have hil := itv_len items
  (repeat' (first | (simp (disch := first | assumption | omega | (simp only [Fits, maxLen, pgq] at *; omega)) only [pgo, pgb, tyf, buildSliceV_w, simprocAttr, Tryz.f13, pga, wordsL_get6, str_nil, sv_len, itv_len, List.append_eq, List.cons_append, List.nil_append, List.length_cons, List.length_nil]) | ((with_reducible show callW _ _ _ _ _ _); first | refine callW_use _ (h1) rfl rfl rfl rfl ?_ | refine callW_use _ (g_words) rfl rfl rfl rfl ?_ | refine callW_use _ (hfb) rfl rfl rfl rfl ?_ | refine callY _ (g_addO _ _ _ _ _ _ _ [_] [_, _] rfl (by simp) rfl) rfl ?_) | ((with_reducible show callAW _ _ _ _ _ _ _); first | refine callA_use _ (h1) rfl rfl rfl rfl rfl (Nat.le_of_ble_eq_true rfl) ?_ | refine callA_use _ (g_words) rfl rfl rfl rfl rfl (Nat.le_of_ble_eq_true rfl) ?_ | refine callA_use _ (hfb) rfl rfl rfl rfl rfl (Nat.le_of_ble_eq_true rfl) ?_ | refine callA_z _ (g_addO _ _ _ _ _ _ _ [_] [_, _] rfl (by simp) rfl) rfl ?_) | ((first | ((with_reducible show condC _ _ _ _ _ _ _); refine cond_at (fun hc => ?_) (fun hc => ?_)) | ((with_reducible show guardC _ _ _ _ _ _ _ _); refine guard_at (fun hc => ?_) (fun hc => ?_)) | ((with_reducible show drwG _ _ _ _ _ _ _ _ _ _); refine drw_at (fun hc => ?_) (fun hc => ?_))) <;> (try simp only [hc]) <;> (try simp only [pgd] at hc)) | (with_reducible refine chkA_at (by kernel_rfl) ?_) | ((with_reducible show drwE _ _ _ _ _); first | refine drwE_tt (by kernel_rfl) ?_ | refine drwE_ff (by kernel_rfl) ?_) | (with_reducible refine chk_at (by kernel_rfl) ?_)))
  generalize hpre : ([[105, 110, 115, 101, 114, 116], name, fb coins] : List (List Nat)) = pre at hjo ⊢
  have hpl : pre.length = 3 := by rw [← hpre]; rfl
  refine loop_A (fun i : Nat => mkA [(1, .ref 0 0), (5, .ref 1 0), (6, .fn 40 [] [.ref 1 0]), (7, .fn 41 [] []), (75, fzt items), (76, vi items.length), (77, vi i)] [(0, (32, opF ⟨6, name, other, names, pk, pz, pd, ps, items, coins, exp, src, hnd, idx, cur, cnt, qk, qkey, qc, qn, qd, data⟩)), (1, (23, [.sl (.own 0 9) 1 (sv (pre ++ itsW (items.take i)))]))] 2 (fun _ => .top)) (fun i => i ≤ items.length) (fun i => items.length - i) 0 [6] [0, 7] ?_ (Nat.zero_le _) ?_
  · (refine keep_mkA ?_ ?_ (top_hd _ _ _) (by decide) (by decide) (by decide) (by decide); (repeat' (first | exact trivial | refine genB_one _ _ rfl rfl ?_ ?_)); all_goals (try simp only [pgs, pgl, pgx, pgf, pgw, GenA_cons, GenA_nil, GenL_cons, GenL_nil, gen_top, gen_c, gen_fz, pgn, simprocAttr]); all_goals (try (repeat' (first | apply And.intro))); all_goals (try (first | exact trivial | exact gen_ii (by omega) | exact gen_cc rfl | exact gen_own rfl rfl | exact gen_ref rfl)))
    all_goals first | exact gen_same rfl rfl | (exact gen_own rfl (by rw [← hpre]; rfl))
  · intro i hi
    replace hi : i ≤ items.length := hi
    rcases Nat.lt_or_ge i items.length with hlt | hge
    · have hg := itv_get items i hlt
      have hx := getD_some items i ([], 0) hlt
      have hmem : items.getD i ([], 0) ∈ items := by rw [List.getD_eq_getElem?_getD, List.getElem?_eq_getElem hlt]; exact List.getElem_mem hlt
      have ho1 := hoi _ hmem
      have hw1 := hw _ hmem
      have hnx := itsW_next items i _ hx
      have hln : (itsW (items.take i)).length = 2 * (items.take i).length := itsW_len _
      have hlt2 : (items.take i).length ≤ i := by simp; omega
      generalize items.getD i ([], 0) = x at hg hx hmem ho1 hw1 hnx
      obtain ⟨k, n⟩ := x
      simp only at ho1 hw1 hnx
      (repeat' (first | (simp (disch := first | assumption | omega | (simp only [Fits, maxLen, pgq] at *; omega)) only [pgo, pgb, tyf, buildSliceV_w, simprocAttr, pga, hg, str_nil, sv_len, itv_len]) | ((with_reducible show callW _ _ _ _ _ _); first | refine callW_use _ (g_formatKey k ho1) rfl rfl rfl rfl ?_ | refine callW_use _ (good23 n hw1.1 hw1.2) rfl rfl rfl rfl ?_ | refine callY _ (g_addO _ _ _ _ _ 0 _ _ [_, _] rfl (by simp only [List.length_append, List.length_cons, List.length_nil]; omega) rfl) rfl ?_) | ((with_reducible show callAW _ _ _ _ _ _ _); first | refine callA_use _ (g_formatKey k ho1) rfl rfl rfl rfl rfl (Nat.le_of_ble_eq_true rfl) ?_ | refine callA_use _ (good23 n hw1.1 hw1.2) rfl rfl rfl rfl rfl (Nat.le_of_ble_eq_true rfl) ?_ | refine callA_z _ (g_addO _ _ _ _ _ 0 _ _ [_, _] rfl (by simp only [List.length_append, List.length_cons, List.length_nil]; omega) rfl) rfl ?_) | ((first | ((with_reducible show condC _ _ _ _ _ _ _); refine cond_at (fun hc => ?_) (fun hc => ?_)) | ((with_reducible show guardC _ _ _ _ _ _ _ _); refine guard_at (fun hc => ?_) (fun hc => ?_)) | ((with_reducible show drwG _ _ _ _ _ _ _ _ _ _); refine drw_at (fun hc => ?_) (fun hc => ?_))) <;> (try simp only [hc]) <;> (try simp only [pgd] at hc)) | (with_reducible refine chkA_at (by kernel_rfl) ?_) | ((with_reducible show drwE _ _ _ _ _); first | refine drwE_tt (by kernel_rfl) ?_ | refine drwE_ff (by kernel_rfl) ?_) | (with_reducible refine chk_at (by kernel_rfl) ?_)))
      (refine back_at (i + 1) [0] [0, 1] (hlt) (by first | omega | (simp only [List.length_cons]; omega)) ?_; (refine keep_mkA ?_ ?_ (top_hd _ _ _) (by decide) (by decide) (by decide) (by decide); (repeat' (first | exact trivial | refine genB_one _ _ rfl rfl ?_ ?_)); all_goals (try simp only [pgs, pgl, pgx, pgf, pgw, GenA_cons, GenA_nil, GenL_cons, GenL_nil, gen_top, gen_c, gen_fz, pgn, simprocAttr]); all_goals (try (repeat' (first | apply And.intro))); all_goals (try (first | exact trivial | exact gen_ii (by omega) | exact gen_cc rfl | exact gen_own rfl rfl | exact gen_ref rfl))))
      all_goals first | exact gen_same rfl rfl | (exact gen_own rfl (by rw [hnx, List.append_assoc]))
    · have : i = items.length := by omega
      subst this
      rw [List.take_length]
      (repeat' (first | (simp (disch := first | assumption | omega | (simp only [Fits, maxLen, pgq] at *; omega)) only [pgo, pgb, tyf, buildSliceV_w, simprocAttr, pga, itv_len, k32]) | ((with_reducible show callW _ _ _ _ _ _); first | refine callW_use _ (hjo) rfl rfl rfl rfl ?_) | ((with_reducible show callAW _ _ _ _ _ _ _); first | refine callA_use _ (hjo) rfl rfl rfl rfl rfl (Nat.le_of_ble_eq_true rfl) ?_) | ((first | ((with_reducible show condC _ _ _ _ _ _ _); refine cond_at (fun hc => ?_) (fun hc => ?_)) | ((with_reducible show guardC _ _ _ _ _ _ _ _); refine guard_at (fun hc => ?_) (fun hc => ?_)) | ((with_reducible show drwG _ _ _ _ _ _ _ _ _ _); refine drw_at (fun hc => ?_) (fun hc => ?_))) <;> (try simp only [hc]) <;> (try simp only [pgd] at hc)) | (with_reducible refine chkA_at (by kernel_rfl) ?_) | ((with_reducible show drwE _ _ _ _ _); first | refine drwE_tt (by kernel_rfl) ?_ | refine drwE_ff (by kernel_rfl) ?_) | (with_reducible refine chk_at (by kernel_rfl) ?_)))
      (refine ret_at [] _ (by first | exact retV_one _ _ _ | exact retV_two _ _ _ _ | exact retV_three _ _ _ _ _ | exact retV_four _ _ _ _ _ _ | (simp (disch := first | assumption | omega | (simp only [Fits, maxLen, pgq] at *; omega)) only [pgr, pgo, tyf, simprocAttr]; rfl)) (by decide) (by simp only [pgo, simprocAttr]) ?_; (first | rfl | simp only [pgo, simprocAttr]))
      rw [← hpre]; rfl
end Go.Proofs.YtjiolbcdfgclaaaGreatDoor
end

section
/-
  What the rows share: the listed tables, the wrap.
-/
namespace Go.Proofs.YtjiolbcdfgclaaaGreatDoor
open Go Go.ChangeShapes Go.WideShapes Go.ChangeAt Go.RowKit
set_option maxRecDepth 100000
set_option linter.unusedVariables false

theorem own : ownKnob Tryz.prog.godebug = none := by kernel_rfl
theorem laidOut : laidOutB Tryz.prog = true := by kernel_rfl
theorem gTab : Tryz.prog.globalNamed "internal/strconv.uint64pow10" = some 0 := by kernel_rfl
theorem tTab : (Tryz.prog.globals[0]?).map (·.type) = some 256 := by kernel_rfl
theorem cTab : Tryz.prog.cellsOf 256 = 20 := by kernel_rfl
theorem cElt : Tryz.prog.cellsOf 24 = 1 := by kernel_rfl
theorem tabD : (Rows.laid_internal_strconv_uint64pow10 : DataW Unit) = Lib.tabData .u64 Lib.pow10Tab := by kernel_rfl
theorem gBr : Tryz.prog.globalNamed "math/bits.deBruijn64tab" = some 3 := by kernel_rfl
theorem tBr : (Tryz.prog.globals[3]?).map (·.type) = some 283 := by kernel_rfl
theorem cBr : Tryz.prog.cellsOf 283 = 64 := by kernel_rfl
theorem cBe : Tryz.prog.cellsOf 5 = 1 := by kernel_rfl
theorem brD : (Rows.laid_math_bits_deBruijn64tab : DataW Unit) = Lib.tabData .u8 bruijn := by kernel_rfl
theorem maxLen_cell {W : World} (h : W.ShapedOpen Tryz.prog) : ∃ m, W.cell? ⟨1, 0, none⟩ = some (.int .i64 m) :=
  cell_of_shapedOpen_int (zero := #[.int .i64 0]) (t := 3) h (of_decide_eq_true (by kernel_rfl)) (by kernel_rfl) rfl (by kernel_rfl) (by kernel_rfl) Tryz.underlying3
theorem tabs_of_laid {W : World} {n1 : String} {d1 : DataW Unit} {rest : List (String × DataW Unit)} (h : laidMet Tryz.prog ((n1, d1) :: ("math/bits.deBruijn64tab", Rows.laid_math_bits_deBruijn64tab) :: ("internal/strconv.uint64pow10", Rows.laid_internal_strconv_uint64pow10) :: rest) W) (hsh : W.ShapedOpen Tryz.prog) : Pg.Tb.T Tryz.prog W := by
  have h1 : laidMet Tryz.prog (("math/bits.deBruijn64tab", Rows.laid_math_bits_deBruijn64tab) :: ("internal/strconv.uint64pow10", Rows.laid_internal_strconv_uint64pow10) :: rest) W := h.tail
  have h2 : laidMet Tryz.prog (("internal/strconv.uint64pow10", Rows.laid_internal_strconv_uint64pow10) :: rest) W := h.tail.tail
  rw [tabD] at h2
  rw [brD] at h1
  exact ⟨Lib.tabIs_of_head gTab tTab Tryz.underlying256 Tryz.underlying24 cElt cTab h2, maxLen_cell hsh, Lib.tabIs_of_head gBr tBr Tryz.underlying283 Tryz.underlying5 cBe cBr h1⟩
theorem wf_i64 {n : Int} (h : (Lit.int .i64 n).wf = true) : Wt n := by
  simp only [Lit.wf, Bool.and_eq_true, decide_eq_true_eq] at h
  have e1 : IntKind.i64.min = -9223372036854775808 := rfl
  have e2 : IntKind.i64.max = 9223372036854775807 := rfl
  rw [e1, e2] at h
  exact h
theorem wf_u8 {n : Int} (h : (Lit.int .u8 n).wf = true) : 0 ≤ n ∧ n ≤ 255 := by
  simp only [Lit.wf, Bool.and_eq_true, decide_eq_true_eq] at h
  have e1 : IntKind.u8.min = 0 := rfl
  have e2 : IntKind.u8.max = 255 := rfl
  rw [e1, e2] at h
  exact h
theorem keptB {W W' : World} (hk : Pg.Kp (fun _ => False) W.heap.size W W') : Below W.heap.size W W' := ⟨hk.os, hk.tape, hk.output, hk.size, fun k h => hk.block k h (fun h => h)⟩
section
variable {H : Type} {enc : TypeId × Value → H}
/-- The plain wrap with a side condition on the row's first world, and that world's shape handed on. -/
theorem handed_shaped_and {a : Assume} {C : Checked} {os : Os} {f : FuncId} {fn : Func} {s : ChangeSpec} {conds : List PathCond} {apart fresh handsOn again : Bool} {X : World → Array Value → Prop}
    (hX : ∀ (w w' : World) (args : Array Value), w.heap = w'.heap → X w args → X w' args)
    (own : ownKnob C.prog.godebug = none) (started : os.Started) (noInit : C.prog.inits.idxOf? f = none) (hfn : C.prog.funcs[f]? = some fn)
    (witness : ∃ (w : World) (tape : Tape) (i : Input), w.os = os ∧ (w.forCall tape i).Shaped C.prog ∧ i.vars = [] ∧ Input.okWide C.prog (w.forCall tape i) .any w.heap.size f i ∧
      ((s.pre enc C.prog fn conds apart (w.forCall tape i).memory i.args ∧ X (w.forCall tape i).memory i.args) ∧ sizedMet enc C.prog fn (OpenSpec.ofChange s) apart (w.forCall tape i).memory i.args) ∧ a.holds C.prog (lone (Frame.enter C.prog f i.args .normal) [] (w.forCall tape i)))
    (contract : ∀ (W : World) (base : Nat) (args : Array Value) (ds gs : List (DataW H)) (before : List MemPlace),
      (∀ (j : Nat) t v, fn.params[j]? = some t → args[j]? = some v → Value.okWide C.prog W .any base t v) →
      DataW.Whole enc C.prog fn.params.toList s.vars apart W args.toList ds gs before →
      X W args → W.ShapedOpen C.prog →
      Calls C.prog f args W fun e W' => ∃ v, e = .returned v ∧ s.post enc C.prog fn apart fresh handsOn again W args v W') :
    ReturnsInHanded a C os f .any (fun w args => (s.pre enc C.prog fn conds apart w args ∧ X w args) ∧ sizedMet enc C.prog fn (OpenSpec.ofChange s) apart w args) (s.post enc C.prog fn apart fresh handsOn again) := by
  refine returnsInHanded_of_calls own started noInit witness ?_
  intro w tape i _ hsh _ hok hpre _
  obtain ⟨_, _, _, fn', hfn', _, _, _, _, hval⟩ := hok
  have e : fn' = fn := Option.some.inj (hfn'.symm.trans hfn)
  subst e
  obtain ⟨⟨⟨ds, gs, before, hw, _⟩, hx⟩, _⟩ := hpre
  have hw' := DataW.Whole.of_heap (w' := w.forCall tape i) (by rfl) hw
  refine (contract (w.forCall tape i) w.heap.size i.args ds gs before hval hw' (hX _ _ _ (by rfl) hx) hsh).mono fun e W' ⟨v, he, hp⟩ => ?_
  subst he
  exact ChangeSpec.post_blind hp
end
end Go.Proofs.YtjiolbcdfgclaaaGreatDoor
end

section
/-
  Library: math/bits.TrailingZeros of sixteen; internal/strconv's small ones.
-/
namespace Go.Proofs.YtjiolbcdfgclaaaGreatDoor
open Go Go.Pg
set_option maxRecDepth 100000
set_option linter.unusedSimpArgs false
set_option linter.unusedVariables false

theorem tz16 (w : World) (h : Lib.TabIs Tryz.prog w "math/bits.deBruijn64tab" .u8 bruijn) : Calls Tryz.prog 244 #[.int .u64 16] w fun e w' => e = .returned (.int .i64 4) ∧ w' = w := by
  have hcell : w.cell? ⟨3, 15, none⟩ = some (.int .u8 4) := h.cell (g := 3) (by kernel_rfl) 15 (by decide)
  have key : IntKind.u64.wrap (bits BinOp.and IntKind.u64 16 (IntKind.u64.wrap (-16)) * 285870213051353865) / 288230376151711744 = 15 := by kernel_rfl
  have t3 := Tryz.underlying3
  have a3 := Tryz.isAgg3
  have z3 := Tryz.sizeOf3
  have v3 := Tryz.zeroValue3
  have t4 := Tryz.underlying4
  have a4 := Tryz.isAgg4
  have z4 := Tryz.sizeOf4
  have v4 := Tryz.zeroValue4
  have t5 := Tryz.underlying5
  have a5 := Tryz.isAgg5
  have z5 := Tryz.sizeOf5
  have v5 := Tryz.zeroValue5
  have t24 := Tryz.underlying24
  have a24 := Tryz.isAgg24
  have z24 := Tryz.sizeOf24
  have v24 := Tryz.zeroValue24
  have t45 := Tryz.underlying45
  have a45 := Tryz.isAgg45
  have z45 := Tryz.sizeOf45
  have v45 := Tryz.zeroValue45
  have t283 := Tryz.underlying283
  have a283 := Tryz.isAgg283
  have z283 := Tryz.sizeOf283
  go_enter Tryz.func244, Tryz.ntmps244
  go_wp2_with (simp only [key])

  go_ret
  exact ⟨rfl, rfl⟩
end Go.Proofs.YtjiolbcdfgclaaaGreatDoor
end

section
/-
  Library: strconv.FormatUint to the base sixteen.
-/
namespace Go.Proofs.YtjiolbcdfgclaaaGreatDoor
open Go Go.Pg
set_option maxRecDepth 100000
set_option linter.unusedSimpArgs false
set_option linter.unusedVariables false

theorem g_tz64 : Pg.Good Tryz.prog 244 [vu 16] (vi 4) := by
  refine ⟨by kernel_rfl, fun A w cargs hT hA hargs => ?_⟩
  obtain ⟨_, _, rfl, rfl, rfl⟩ := hargs
  refine (tz16 w hT.2.2).mono ?_
  rintro e w' ⟨rfl, rfl⟩
  exact ⟨_, ⟨A, fun _ => none, fun _ => none⟩, rfl, rfl, Kp.refl _ _ _, ⟨fun g h => .inl h, fun _ _ h => (by cases h), fun _ _ _ h => (by cases h)⟩⟩
theorem g_tz : Pg.Good Tryz.prog 224 [vu 16] (vi 4) := by
  refine good_intro (drawW_ok mix) Tryz.func224 rfl Tryz.results224 rfl (by kernel_rfl) (Nat.le_of_ble_eq_true (by kernel_rfl)) ?_
  (repeat' (first | (simp (disch := first | assumption | omega | (simp only [Fits, maxLen, pgq] at *; omega)) only [pgo, pgb, tyf, buildSliceV_w, simprocAttr, Tryz.f224]) | ((with_reducible show callW _ _ _ _ _ _); first | refine callW_use _ (g_tz64) rfl rfl rfl rfl ?_) | ((first | ((with_reducible show condC _ _ _ _ _ _ _); refine cond_at (fun hc => ?_) (fun hc => ?_)) | ((with_reducible show guardC _ _ _ _ _ _ _ _); refine guard_at (fun hc => ?_) (fun hc => ?_)) | ((with_reducible show drwG _ _ _ _ _ _ _ _ _ _); refine drw_at (fun hc => ?_) (fun hc => ?_))) <;> (try simp only [hc]) <;> (try simp only [pgd] at hc)) | (with_reducible refine chk_at (by kernel_rfl) ?_)))
  (refine ret_at [] _ (by first | exact retV_one _ _ _ | exact retV_two _ _ _ _ | exact retV_three _ _ _ _ _ | exact retV_four _ _ _ _ _ _ | (simp (disch := first | assumption | omega | (simp only [Fits, maxLen, pgq] at *; omega)) only [pgr, pgo, tyf, simprocAttr]; rfl)) (by decide) (by simp only [pgo, simprocAttr]) ?_; (first | rfl | simp only [pgo, simprocAttr]))
theorem pow16 : bits .and .i64 16 15 = 0 := by kernel_rfl
theorem g_pow : Pg.Good Tryz.prog 223 [vi 16] (vb true) := by
  refine good_intro (drawW_ok mix) Tryz.func223 rfl Tryz.results223 rfl (by kernel_rfl) (Nat.le_of_ble_eq_true (by kernel_rfl)) ?_
  (repeat' (first | (simp (disch := first | assumption | omega | (simp only [Fits, maxLen, pgq] at *; omega)) only [pgo, pgb, tyf, buildSliceV_w, simprocAttr, Tryz.f223, pow16]) | ((first | ((with_reducible show condC _ _ _ _ _ _ _); refine cond_at (fun hc => ?_) (fun hc => ?_)) | ((with_reducible show guardC _ _ _ _ _ _ _ _); refine guard_at (fun hc => ?_) (fun hc => ?_)) | ((with_reducible show drwG _ _ _ _ _ _ _ _ _ _); refine drw_at (fun hc => ?_) (fun hc => ?_))) <;> (try simp only [hc]) <;> (try simp only [pgd] at hc)) | (with_reducible refine chk_at (by kernel_rfl) ?_)))
  (refine ret_at [] _ (by first | exact retV_one _ _ _ | exact retV_two _ _ _ _ | exact retV_three _ _ _ _ _ | exact retV_four _ _ _ _ _ _ | (simp (disch := first | assumption | omega | (simp only [Fits, maxLen, pgq] at *; omega)) only [pgr, pgo, tyf, simprocAttr]; rfl)) (by decide) (by simp only [pgo, simprocAttr]) ?_; (first | rfl | simp only [pgo, simprocAttr]))
/-- The lowest i digits of a number. -/
def lowd (u : Nat) : Nat → List Nat
  | 0 => []
  | i + 1 => hx (u / 16 ^ i % 16) :: lowd u i
theorem lowd_len (u i : Nat) : (lowd u i).length = i := by
  induction i with
  | zero => rfl
  | succ i ih => simp [lowd, ih]
theorem lowd_oct (u i : Nat) : oct (lowd u i) := by
  induction i with
  | zero => exact oct_nil
  | succ i ih => exact oct_cons (hx_lt _) ih
/-- How many digits a number has. -/
def nd (u : Nat) : Nat := if h : u < 16 then 1 else nd (u / 16) + 1
termination_by u
decreasing_by omega
theorem nd_small {u : Nat} (h : u < 16) : nd u = 1 := by rw [nd, dif_pos h]
theorem nd_big {u : Nat} (h : 16 ≤ u) : nd u = nd (u / 16) + 1 := by rw [nd, dif_neg (by omega)]
theorem nd_eq (i : Nat) : ∀ u, (i = 0 ∨ 16 ^ i ≤ u) → u < 16 ^ (i + 1) → nd u = i + 1 := by
  induction i with
  | zero => intro u _ h; exact nd_small (by simpa using h)
  | succ i ih =>
    intro u h1 h2
    have h3 : 16 ^ (i + 1) ≤ u := h1.resolve_left (by omega)
    have h4 : 16 ≤ u := by rw [Nat.pow_succ] at h3; have := Nat.one_le_pow i 16 (by omega); omega
    rw [nd_big h4, ih (u / 16) ?_ ?_]
    · right
      rw [Nat.pow_succ] at h3
      exact (Nat.le_div_iff_mul_le (by omega)).2 h3
    · rw [Nat.pow_succ] at h2
      exact (Nat.div_lt_iff_lt_mul (by omega)).2 h2
def hexU (u : Nat) : List Nat := lowd u (nd u)
theorem hexU_oct (u : Nat) : oct (hexU u) := lowd_oct _ _
/-- The digits' table. -/
def dig36 : List Nat := [48, 49, 50, 51, 52, 53, 54, 55, 56, 57, 97, 98, 99, 100, 101, 102, 103, 104, 105, 106, 107, 108, 109, 110, 111, 112, 113, 114, 115, 116, 117, 118, 119, 120, 121, 122]
theorem digs36 : (⟨#[48, 49, 50, 51, 52, 53, 54, 55, 56, 57, 97, 98, 99, 100, 101, 102, 103, 104, 105, 106, 107, 108, 109, 110, 111, 112, 113, 114, 115, 116, 117, 118, 119, 120, 121, 122]⟩ : ByteArray) = sB dig36 := by rfl
theorem dig36_oct : oct dig36 := by intro b hb; simp [dig36] at hb; omega
theorem dig36_hx : ∀ d, d < 16 → dig36.getD d 0 = hx d := by decide
theorem digix (d : Nat) (k : IntKind) (h : d < 16) : ixV Tryz.prog 9 (.c (.string (sB dig36))) (.c (.int k (d : Nat))) = some (.c (.int .u8 (hx d : Nat))) := by
  rw [ixV_sB _ _ _ _ _ dig36_oct (by omega) (by simp [dig36]; omega), if_pos is9]
  simp only [Int.toNat_natCast, dig36_hx d h]
theorem shr4u (a : Nat) : Int.fdiv (a : Int) (2 ^ min 4 IntKind.u64.bits) = ((a / 16 : Nat) : Int) := by
  have : (2 : Int) ^ min 4 IntKind.u64.bits = 16 := by decide
  rw [this, Int.fdiv_eq_ediv_of_nonneg _ (by omega)]
  rfl
theorem and15u (a : Nat) (h : a < 18446744073709551616) : bits .and .u64 (a : Int) 15 = ((a % 16 : Nat) : Int) := by
  have := bits_and_u64_nat a 15 h (by omega)
  rw [show ((15 : Nat) : Int) = 15 from rfl] at this
  rw [this, show (15 : Nat) = 2 ^ 4 - 1 from rfl, Nat.and_two_pow_sub_one_eq_mod]
/-- The array when i digits stand in it. -/
def arr65 (u i : Nat) : List Nat := List.replicate (65 - i) 0 ++ lowd u i
theorem arr_len (u i : Nat) (h : i ≤ 65) : (arr65 u i).length = 65 := by simp [arr65, lowd_len]; omega
theorem arr_store (u i x : Nat) (h : i < 65) (hx' : x = hx (u / 16 ^ i % 16)) : (bv (arr65 u i)).take (65 - (i : Int) - 1).toNat ++ [V.c (.int .u8 (x : Int))] ++ (bv (arr65 u i)).drop ((65 - (i : Int) - 1).toNat + 1) = bv (arr65 u (i + 1)) := by
  have e1 : (65 - (i : Int) - 1).toNat = 64 - i := by omega
  have e2 : 65 - i = (64 - i) + 1 := by omega
  have e3 : 65 - (i + 1) = 64 - i := by omega
  rw [e1, bv_take, bv_drop, show [V.c (.int .u8 (x : Int))] = bv [x] from rfl, bv_app, bv_app]
  congr 1
  have hr : (List.replicate (64 - i) 0 : List Nat).length = 64 - i := List.length_replicate
  have t1 : (arr65 u i).take (64 - i) = List.replicate (64 - i) 0 := by
    unfold arr65
    rw [e2, ← List.replicate_append_replicate, List.append_assoc, List.take_append_of_le_length (by rw [hr]; exact Nat.le_refl _), List.take_of_length_le (by rw [hr]; exact Nat.le_refl _)]
  have t2 : (arr65 u i).drop (64 - i + 1) = lowd u i := by
    unfold arr65
    rw [e2, List.drop_append_of_le_length (by simp), List.drop_of_length_le (by simp)]
    rfl
  rw [t1, t2, hx']
  unfold arr65
  rw [e3, List.append_assoc]
  rfl
theorem arr_cut (u i : Nat) (h : i ≤ 65) : ((bv (arr65 u i)).take 65).drop (65 - (i : Int)).toNat = bv (lowd u i) := by
  have e1 : (65 - (i : Int)).toNat = 65 - i := by omega
  rw [List.take_of_length_le (by rw [bv_len, arr_len u i h]; exact Nat.le_refl _), e1, bv_drop]
  congr 1
  unfold arr65
  rw [List.drop_append_of_le_length (by simp), List.drop_of_length_le (by simp)]
  rfl
theorem ones_bv (l : List Nat) : (bv l).all (fun v => v.free && v.one) = true := by
  induction l with
  | nil => rfl
  | cons a l ih => simp only [bv, List.map_cons, List.all_cons] at ih ⊢; rw [ih]; rfl
theorem genL_bv (l m : List Nat) (a b : List V) (c : List Nat) (h : a = bv c) (h2 : b = bv c) : GenL l m a b := by
  subst h; subst h2
  induction c with
  | nil => exact trivial
  | cons x c ih => exact ⟨by rw [gen_c]; trivial, ih⟩
theorem g_fbits (u : Nat) (hu : u < 18446744073709551616) : Pg.Good Tryz.prog 185 [nls, vu u, vi 16, vb false, vb false] (.tup [nls, vs (hexU u)]) := by
  refine good_intro (drawW_ok mix) Tryz.func185 rfl Tryz.results185 rfl (by kernel_rfl) (Nat.le_of_ble_eq_true (by kernel_rfl)) ?_
  (repeat' (first | (simp (disch := first | assumption | omega | (simp only [Fits, maxLen, pgq] at *; omega)) only [pgo, pgb, tyf, buildSliceV_w, simprocAttr, Tryz.f185, str_nil]) | ((with_reducible show callW _ _ _ _ _ _); first | refine callW_use _ (g_pow) rfl rfl rfl rfl ?_ | refine callW_use _ (g_tz) rfl rfl rfl rfl ?_) | ((first | ((with_reducible show condC _ _ _ _ _ _ _); refine cond_at (fun hc => ?_) (fun hc => ?_)) | ((with_reducible show guardC _ _ _ _ _ _ _ _); refine guard_at (fun hc => ?_) (fun hc => ?_)) | ((with_reducible show drwG _ _ _ _ _ _ _ _ _ _); refine drw_at (fun hc => ?_) (fun hc => ?_))) <;> (try simp only [hc]) <;> (try simp only [pgd] at hc)) | (with_reducible refine chk_at (by kernel_rfl) ?_)))
  refine loop_A (fun i : Nat => mkA [(1, vu ((u / 16 ^ i : Nat) : Int)), (3, vb false), (4, vb false), (10, nls), (11, vs []), (12, .ref 0 0), (13, vi (65 - (i : Int))), (14, vu 4), (15, vu 16), (16, vu 15)] [(0, (257, bv (arr65 u i)))] 1 (fun _ => .top)) (fun i => i ≤ 15 ∧ (i = 0 ∨ 16 ^ i ≤ u)) (fun i => 16 - i) 0 [] [0] ?_ ⟨by omega, .inl rfl⟩ ?_
  · (refine keep_mkA ?_ ?_ (top_hd _ _ _) (by decide) (by decide) (by decide) (by decide); (repeat' (first | exact trivial | refine genB_one _ _ rfl rfl ?_ ?_)); all_goals (try simp only [pgs, pgl, pgx, pgf, pgw, GenA_cons, GenA_nil, GenL_cons, GenL_nil, gen_top, gen_c, gen_fz, pgn, simprocAttr]); all_goals (try (repeat' (first | apply And.intro))); all_goals (try (first | exact trivial | exact gen_ii (by omega) | exact gen_cc rfl | exact gen_own rfl rfl | exact gen_ref rfl)))
  · rintro i ⟨h1, h2⟩
    have hlt : u / 16 ^ i < 18446744073709551616 := Nat.lt_of_le_of_lt (Nat.div_le_self _ _) hu
    have ha := and15u (u / 16 ^ i) hlt
    have hm : u / 16 ^ i % 16 < 16 := Nat.mod_lt _ (by omega)
    have hal := arr_len u i (by omega)
    have hlen : (bv (arr65 u i)).length = 65 := by rw [bv_len, hal]
    have hst := arr_store u i _ (by omega) rfl
    have hix : (0 ≤ 65 - (i : Int) - 1 ∧ 65 - (i : Int) - 1 < 65) = True := eq_true ⟨by omega, by omega⟩
    have hof : ((65 - (i : Int) - 1).toNat + 1 ≤ 65) = True := eq_true (by omega)
    have hdd : u / 16 ^ i / 16 = u / 16 ^ (i + 1) := by rw [Nat.pow_succ, Nat.div_div_eq_div_mul]
    rcases Nat.lt_or_ge (u / 16 ^ i) 16 with hs | hs
    · have hu2 : u < 16 ^ (i + 1) := by
        have := (Nat.div_lt_iff_lt_mul (Nat.pow_pos (by omega))).1 hs
        rw [Nat.pow_succ, Nat.mul_comm]; exact this
      have hn := nd_eq i u h2 hu2
      have hms : u / 16 ^ i % 16 = u / 16 ^ i := Nat.mod_eq_of_lt hs
      rw [hms] at hst
      have hl2 : (bv (arr65 u (i + 1))).length = 65 := by rw [bv_len, arr_len u (i + 1) (by omega)]
      have hcut := arr_cut u (i + 1) (by omega)
      rw [show (65 - ((i + 1 : Nat) : Int)) = 65 - (i : Int) - 1 from by omega] at hcut
      have hon := ones_bv (arr65 u (i + 1))
      have hres : hexU u = lowd u (i + 1) := by unfold hexU; rw [hn]
      generalize u / 16 ^ i = q at *
      (repeat' (first | (simp (disch := first | assumption | omega | (simp only [Fits, maxLen, pgq] at *; omega)) only [pgo, pgb, tyf, buildSliceV_w, simprocAttr, digs36, digix, hst, hlen, hix, hof, Nat.mul_one, hl2, hcut, convK_42]) | ((first | ((with_reducible show condC _ _ _ _ _ _ _); refine cond_at (fun hc => ?_) (fun hc => ?_)) | ((with_reducible show guardC _ _ _ _ _ _ _ _); refine guard_at (fun hc => ?_) (fun hc => ?_)) | ((with_reducible show drwG _ _ _ _ _ _ _ _ _ _); refine drw_at (fun hc => ?_) (fun hc => ?_))) <;> (try simp only [hc]) <;> (try simp only [pgd] at hc)) | (with_reducible refine chk_at (by kernel_rfl) ?_)))
      (refine ret_at [] _ (by first | exact retV_one _ _ _ | exact retV_two _ _ _ _ | exact retV_three _ _ _ _ _ | exact retV_four _ _ _ _ _ _ | (simp (disch := first | assumption | omega | (simp only [Fits, maxLen, pgq] at *; omega)) only [pgr, pgo, tyf, simprocAttr]; rfl)) (by decide) (by simp only [pgo, simprocAttr]) ?_; (first | rfl | simp only [pgo, simprocAttr]))
      all_goals rw [hres]
    · have hnx : 16 ^ (i + 1) ≤ u := by
        have := (Nat.le_div_iff_mul_le (Nat.pow_pos (by omega))).1 hs
        rw [Nat.pow_succ, Nat.mul_comm]; exact this
      have hi15 : i + 1 ≤ 15 := by
        rcases Nat.lt_or_ge i 15 with h | h
        · exact h
        · have : i = 15 := by omega
          subst this
          exact absurd (Nat.lt_of_le_of_lt hnx hu) (by decide)
      generalize hq : u / 16 ^ i = q at *
      (repeat' (first | (simp (disch := first | assumption | omega | (simp only [Fits, maxLen, pgq] at *; omega)) only [pgo, pgb, tyf, buildSliceV_w, simprocAttr, digs36, digix, ha, shr4u, hst, hlen, hix, hof, Nat.mul_one]) | ((first | ((with_reducible show condC _ _ _ _ _ _ _); refine cond_at (fun hc => ?_) (fun hc => ?_)) | ((with_reducible show guardC _ _ _ _ _ _ _ _); refine guard_at (fun hc => ?_) (fun hc => ?_)) | ((with_reducible show drwG _ _ _ _ _ _ _ _ _ _); refine drw_at (fun hc => ?_) (fun hc => ?_))) <;> (try simp only [hc]) <;> (try simp only [pgd] at hc)) | (with_reducible refine chk_at (by kernel_rfl) ?_)))
      (refine back_at (i + 1) [] [0] (⟨hi15, .inr hnx⟩) (by first | omega | (simp only [List.length_cons]; omega)) ?_; (refine keep_mkA ?_ ?_ (top_hd _ _ _) (by decide) (by decide) (by decide) (by decide); (repeat' (first | exact trivial | refine genB_one _ _ rfl rfl ?_ ?_)); all_goals (try simp only [pgs, pgl, pgx, pgf, pgw, GenA_cons, GenA_nil, GenL_cons, GenL_nil, gen_top, gen_c, gen_fz, pgn, simprocAttr]); all_goals (try (repeat' (first | apply And.intro))); all_goals (try (first | exact trivial | exact gen_ii (by omega) | exact gen_cc rfl | exact gen_own rfl rfl | exact gen_ref rfl))))
      all_goals first | exact gen_cc (by rw [← hdd]) | exact gen_ii (by omega) | exact genL_bv _ _ _ _ _ rfl rfl | skip
theorem g_fuI (u : Nat) (hu : u < 18446744073709551616) : Pg.Good Tryz.prog 132 [vu u, vi 16] (vs (hexU u)) := by
  refine good_intro (drawW_ok mix) Tryz.func132 rfl Tryz.results132 rfl (by kernel_rfl) (Nat.le_of_ble_eq_true (by kernel_rfl)) ?_
  (repeat' (first | (simp (disch := first | assumption | omega | (simp only [Fits, maxLen, pgq] at *; omega)) only [pgo, pgb, tyf, buildSliceV_w, simprocAttr, Tryz.f132, str_nil]) | ((with_reducible show callW _ _ _ _ _ _); first | refine callW_use _ (g_fbits u hu) rfl rfl rfl rfl ?_) | ((first | ((with_reducible show condC _ _ _ _ _ _ _); refine cond_at (fun hc => ?_) (fun hc => ?_)) | ((with_reducible show guardC _ _ _ _ _ _ _ _); refine guard_at (fun hc => ?_) (fun hc => ?_)) | ((with_reducible show drwG _ _ _ _ _ _ _ _ _ _); refine drw_at (fun hc => ?_) (fun hc => ?_))) <;> (try simp only [hc]) <;> (try simp only [pgd] at hc)) | (with_reducible refine chk_at (by kernel_rfl) ?_)))
  (refine ret_at [] _ (by first | exact retV_one _ _ _ | exact retV_two _ _ _ _ | exact retV_three _ _ _ _ _ | exact retV_four _ _ _ _ _ _ | (simp (disch := first | assumption | omega | (simp only [Fits, maxLen, pgq] at *; omega)) only [pgr, pgo, tyf, simprocAttr]; rfl)) (by decide) (by simp only [pgo, simprocAttr]) ?_; (first | rfl | simp only [pgo, simprocAttr]))
theorem g_FormatUint (u : Nat) (hu : u < 18446744073709551616) : Pg.Good Tryz.prog 77 [vu u, vi 16] (vs (hexU u)) := by
  refine good_intro (drawW_ok mix) Tryz.func77 rfl Tryz.results77 rfl (by kernel_rfl) (Nat.le_of_ble_eq_true (by kernel_rfl)) ?_
  (repeat' (first | (simp (disch := first | assumption | omega | (simp only [Fits, maxLen, pgq] at *; omega)) only [pgo, pgb, tyf, buildSliceV_w, simprocAttr, Tryz.f77, str_nil]) | ((with_reducible show callW _ _ _ _ _ _); first | refine callW_use _ (g_fuI u hu) rfl rfl rfl rfl ?_) | ((first | ((with_reducible show condC _ _ _ _ _ _ _); refine cond_at (fun hc => ?_) (fun hc => ?_)) | ((with_reducible show guardC _ _ _ _ _ _ _ _); refine guard_at (fun hc => ?_) (fun hc => ?_)) | ((with_reducible show drwG _ _ _ _ _ _ _ _ _ _); refine drw_at (fun hc => ?_) (fun hc => ?_))) <;> (try simp only [hc]) <;> (try simp only [pgd] at hc)) | (with_reducible refine chk_at (by kernel_rfl) ?_)))
  (refine ret_at [] _ (by first | exact retV_one _ _ _ | exact retV_two _ _ _ _ | exact retV_three _ _ _ _ _ | exact retV_four _ _ _ _ _ _ | (simp (disch := first | assumption | omega | (simp only [Fits, maxLen, pgq] at *; omega)) only [pgr, pgo, tyf, simprocAttr]; rfl)) (by decide) (by simp only [pgo, simprocAttr]) ?_; (first | rfl | simp only [pgo, simprocAttr]))
end Go.Proofs.YtjiolbcdfgclaaaGreatDoor
end

section
/-
  Library: strconv.ParseUint to the base sixteen, of a number written by FormatUint.
-/
namespace Go.Proofs.YtjiolbcdfgclaaaGreatDoor
open Go Go.Pg
set_option maxRecDepth 100000
set_option linter.unusedSimpArgs false
set_option linter.unusedVariables false

theorem byteVs_sB {l : List Nat} (ho : oct l) : byteVs (sB l) = bv l := by
  unfold byteVs sB bv
  simp only [List.map_map]
  apply List.map_congr_left
  intro b hb
  have := ho b hb
  simp only [Function.comp, UInt8.toNat_ofNat']
  congr 2
  omega
theorem or32 : ∀ c, c < 128 → bits .or .u8 ((c : Nat) : Int) 32 = ((c ||| 32 : Nat) : Int) := by decide
theorem g_lowerI (c : Nat) (h : 97 ≤ c ∧ c ≤ 102) : Pg.Good Tryz.prog 245 [.c (.int .u8 (c : Int))] (.c (.int .u8 (c : Int))) := by
  have h1 := or32 c (by omega)
  have h2 : ∀ c : Nat, c ≤ 102 → 97 ≤ c → c ||| 32 = c := by decide
  rw [h2 c h.2 h.1] at h1
  refine good_intro (drawW_ok mix) Tryz.func245 rfl Tryz.results245 rfl (by kernel_rfl) (Nat.le_of_ble_eq_true (by kernel_rfl)) ?_
  (repeat' (first | (simp (disch := first | assumption | omega | (simp only [Fits, maxLen, pgq] at *; omega)) only [pgo, pgb, tyf, buildSliceV_w, simprocAttr, Tryz.f245, h1]) | ((first | ((with_reducible show condC _ _ _ _ _ _ _); refine cond_at (fun hc => ?_) (fun hc => ?_)) | ((with_reducible show guardC _ _ _ _ _ _ _ _); refine guard_at (fun hc => ?_) (fun hc => ?_)) | ((with_reducible show drwG _ _ _ _ _ _ _ _ _ _); refine drw_at (fun hc => ?_) (fun hc => ?_))) <;> (try simp only [hc]) <;> (try simp only [pgd] at hc)) | (with_reducible refine chk_at (by kernel_rfl) ?_)))
  (refine ret_at [] _ (by first | exact retV_one _ _ _ | exact retV_two _ _ _ _ | exact retV_three _ _ _ _ _ | exact retV_four _ _ _ _ _ _ | (simp (disch := first | assumption | omega | (simp only [Fits, maxLen, pgq] at *; omega)) only [pgr, pgo, tyf, simprocAttr]; rfl)) (by decide) (by simp only [pgo, simprocAttr]) ?_; (first | rfl | simp only [pgo, simprocAttr]))
/-- A digit of a number, from the front. -/
def dgt (u i : Nat) : Nat := u / 16 ^ (nd u - 1 - i) % 16
theorem dgt_lt (u i : Nat) : dgt u i < 16 := Nat.mod_lt _ (by omega)
theorem lowd_get (u n i : Nat) (h : i < n) : (lowd u n).getD i 0 = hx (u / 16 ^ (n - 1 - i) % 16) := by
  induction n generalizing i with
  | zero => omega
  | succ n ih =>
    cases i with
    | zero => rfl
    | succ i =>
      have := ih i (by omega)
      have e : n + 1 - 1 - (i + 1) = n - 1 - i := by omega
      simp only [lowd, List.getD_cons_succ, this, e]
theorem hexU_get (u i : Nat) (h : i < nd u) : (hexU u).getD i 0 = hx (dgt u i) := lowd_get u (nd u) i h
theorem hexU_len (u : Nat) : (hexU u).length = nd u := lowd_len _ _
theorem nd_bd (n : Nat) : ∀ u, u < 16 ^ n → 1 ≤ n → 1 ≤ nd u ∧ nd u ≤ n ∧ u < 16 ^ nd u := by
  induction n with
  | zero => intro u _ h; omega
  | succ n ih =>
    intro u h _
    rcases Nat.lt_or_ge u 16 with h1 | h1
    · rw [nd_small h1]; omega
    · have h2 : u / 16 < 16 ^ n := by
        rw [Nat.pow_succ] at h
        exact (Nat.div_lt_iff_lt_mul (by omega)).2 h
      have hn : 1 ≤ n := by
        rcases Nat.eq_zero_or_pos n with h3 | h3
        · subst h3; omega
        · exact h3
      obtain ⟨h3, h4, h5⟩ := ih (u / 16) h2 hn
      rw [nd_big h1]
      refine ⟨by omega, by omega, ?_⟩
      rw [Nat.pow_succ]
      exact (Nat.div_lt_iff_lt_mul (by omega)).1 h5
/-- What has been read when i digits are. -/
def pre (u i : Nat) : Nat := u / 16 ^ (nd u - i)
theorem pre_0 (u : Nat) (h : u < 16 ^ nd u) : pre u 0 = 0 := Nat.div_eq_of_lt h
theorem pre_all (u : Nat) : pre u (nd u) = u := by simp [pre]
theorem pre_next (u i : Nat) (h : i < nd u) : pre u i * 16 + dgt u i = pre u (i + 1) := by
  unfold pre dgt
  have e1 : nd u - i = (nd u - 1 - i) + 1 := by omega
  have e2 : nd u - (i + 1) = nd u - 1 - i := by omega
  rw [e1, e2, Nat.pow_succ, ← Nat.div_div_eq_div_mul]
  omega
theorem pre_le (u i : Nat) (hu : u < 18446744073709551616) (h : i < nd u) : pre u i < 1152921504606846976 := by
  have h1 := pre_next u i h
  have h2 : pre u (i + 1) ≤ u := Nat.div_le_self _ _
  omega
theorem hx_cases : ∀ d, d < 16 → (48 ≤ hx d ∧ hx d ≤ 57 ∧ hx d - 48 = d) ∨ (97 ≤ hx d ∧ hx d ≤ 102 ∧ hx d - 97 + 10 = d) := by decide
theorem shl64 : IntKind.u64.wrap (1 * 2 ^ min 64 IntKind.u64.bits) = 0 := by kernel_rfl
theorem if_err : isIfT Tryz.prog 117 = true := by kernel_rfl
theorem wm1 : IntKind.u64.wrap (-1) = 18446744073709551615 := by kernel_rfl
theorem convK_sb (s : St) (d : Option Nat) (z : ByteArray) (K : Kd → St → Prop) : convK Tryz.prog s d 9 28 (.c (.string z)) K = K .x (s.put d (.sl .fz 1 (byteVs z))) := by
  rw [convK_at]
  have h0 : convV Tryz.prog 9 28 (.c (.string z)) = none := by rfl
  have h1 : strBytes Tryz.prog 9 28 (.c (.string z)) = some (.sl .fz 1 (byteVs z)) := by rfl
  have h3 : unsafeV Tryz.prog s 9 28 (.c (.string z)) = none := rfl
  have h2 : sameSl Tryz.prog s 9 28 (.c (.string z)) = none := rfl
  rw [h0, h1, h2, h3]
  simp only [optQ_none, optK_none, optR_none, or_false, false_or, Option.map_some, optK_some]
theorem sB_eqd {a b : List Nat} (ha : oct a) (hb : oct b) (h : a ≠ b) : decide (sB a = sB b) = false := by rw [sB_dec ha hb]; exact decide_eq_false h
theorem g_puI (u : Nat) (hu : u < 18446744073709551616) : Pg.Good Tryz.prog 225 [vs (hexU u), vi 16, vi 64] (.tup [vu u, .c .nilIface]) := by
  obtain ⟨n1, n2, n3⟩ := nd_bd 16 u (by simpa using hu) (by omega)
  have ho := hexU_oct u
  have hlen := hexU_len u
  have hbl : (bv (hexU u)).length = nd u := by rw [bv_len, hlen]
  have hne : hexU u ≠ [] := by intro h; rw [h] at hlen; simp at hlen; omega
  have hnil := sB_eqd ho oct_nil hne
  have hby := byteVs_sB ho
  refine good_intro (drawW_ok mix) Tryz.func225 rfl Tryz.results225 rfl (by kernel_rfl) (Nat.le_of_ble_eq_true (by kernel_rfl)) ?_
  (repeat' (first | (simp (disch := first | assumption | omega | (simp only [Fits, maxLen, pgq] at *; omega)) only [pgo, pgb, tyf, buildSliceV_w, simprocAttr, Tryz.f225, str_nil, hnil, hby, convK_sb, shl64, wm1]) | ((first | ((with_reducible show condC _ _ _ _ _ _ _); refine cond_at (fun hc => ?_) (fun hc => ?_)) | ((with_reducible show guardC _ _ _ _ _ _ _ _); refine guard_at (fun hc => ?_) (fun hc => ?_)) | ((with_reducible show drwG _ _ _ _ _ _ _ _ _ _); refine drw_at (fun hc => ?_) (fun hc => ?_))) <;> (try simp only [hc]) <;> (try simp only [pgd] at hc)) | (with_reducible refine chk_at (by kernel_rfl) ?_)))
  refine loop_A (fun i : Nat => mkA [(0, vs (hexU u)), (1, vi 16), (8, vb false), (9, vs (hexU u)), (10, vu 1152921504606846976), (11, vu 18446744073709551615), (12, vb false), (13, vu (pre u i : Nat)), (99, .sl .fz 1 (bv (hexU u))), (100, vi (nd u : Nat)), (101, vi i)] [] 0 (fun _ => .top)) (fun i => i ≤ nd u) (fun i => nd u - i) 0 [] [] ?_ (Nat.zero_le _) ?_
  · (refine keep_mkA ?_ ?_ (top_hd _ _ _) (by decide) (by decide) (by decide) (by decide); (repeat' (first | exact trivial | refine genB_one _ _ rfl rfl ?_ ?_)); all_goals (try simp only [pgs, pgl, pgx, pgf, pgw, GenA_cons, GenA_nil, GenL_cons, GenL_nil, gen_top, gen_c, gen_fz, pgn, simprocAttr]); all_goals (try (repeat' (first | apply And.intro))); all_goals (try (first | exact trivial | exact gen_ii (by omega) | exact gen_cc rfl | exact gen_own rfl rfl | exact gen_ref rfl)))
    all_goals exact gen_cc (by rw [pre_0 u n3]; rfl)
  · intro i hi
    replace hi : i ≤ nd u := hi
    rcases Nat.lt_or_ge i (nd u) with hlt | hge
    · have hg := bv_get (hexU u) i (by omega)
      have hd := hexU_get u i hlt
      have hdl := dgt_lt u i
      have hp := pre_next u i hlt
      have hpl := pre_le u i hu hlt
      have hps : pre u (i + 1) ≤ u := Nat.div_le_self _ _
      rw [hd] at hg
      rcases hx_cases (dgt u i) hdl with ⟨c1, c2, c3⟩ | ⟨c1, c2, c3⟩
      · generalize hx (dgt u i) = c at *
        (repeat' (first | (simp (disch := first | assumption | omega | (simp only [Fits, maxLen, pgq] at *; omega)) only [pgo, pgb, tyf, buildSliceV_w, simprocAttr, hg, hbl]) | ((first | ((with_reducible show condC _ _ _ _ _ _ _); refine cond_at (fun hc => ?_) (fun hc => ?_)) | ((with_reducible show guardC _ _ _ _ _ _ _ _); refine guard_at (fun hc => ?_) (fun hc => ?_)) | ((with_reducible show drwG _ _ _ _ _ _ _ _ _ _); refine drw_at (fun hc => ?_) (fun hc => ?_))) <;> (try simp only [hc]) <;> (try simp only [pgd] at hc)) | (with_reducible refine chk_at (by kernel_rfl) ?_)))
        (refine back_at (i + 1) [] [] (hlt) (by first | omega | (simp only [List.length_cons]; omega)) ?_; (refine keep_mkA ?_ ?_ (top_hd _ _ _) (by decide) (by decide) (by decide) (by decide); (repeat' (first | exact trivial | refine genB_one _ _ rfl rfl ?_ ?_)); all_goals (try simp only [pgs, pgl, pgx, pgf, pgw, GenA_cons, GenA_nil, GenL_cons, GenL_nil, gen_top, gen_c, gen_fz, pgn, simprocAttr]); all_goals (try (repeat' (first | apply And.intro))); all_goals (try (first | exact trivial | exact gen_ii (by omega) | exact gen_cc rfl | exact gen_own rfl rfl | exact gen_ref rfl))))
        all_goals exact gen_cc (by congr 1; omega)
      · have hlo := g_lowerI (hx (dgt u i)) ⟨c1, c2⟩
        generalize hx (dgt u i) = c at *
        (repeat' (first | (simp (disch := first | assumption | omega | (simp only [Fits, maxLen, pgq] at *; omega)) only [pgo, pgb, tyf, buildSliceV_w, simprocAttr, hg, hbl]) | ((with_reducible show callW _ _ _ _ _ _); first | refine callW_use _ (hlo) rfl rfl rfl rfl ?_) | ((first | ((with_reducible show condC _ _ _ _ _ _ _); refine cond_at (fun hc => ?_) (fun hc => ?_)) | ((with_reducible show guardC _ _ _ _ _ _ _ _); refine guard_at (fun hc => ?_) (fun hc => ?_)) | ((with_reducible show drwG _ _ _ _ _ _ _ _ _ _); refine drw_at (fun hc => ?_) (fun hc => ?_))) <;> (try simp only [hc]) <;> (try simp only [pgd] at hc)) | (with_reducible refine chk_at (by kernel_rfl) ?_)))
        (refine back_at (i + 1) [] [] (hlt) (by first | omega | (simp only [List.length_cons]; omega)) ?_; (refine keep_mkA ?_ ?_ (top_hd _ _ _) (by decide) (by decide) (by decide) (by decide); (repeat' (first | exact trivial | refine genB_one _ _ rfl rfl ?_ ?_)); all_goals (try simp only [pgs, pgl, pgx, pgf, pgw, GenA_cons, GenA_nil, GenL_cons, GenL_nil, gen_top, gen_c, gen_fz, pgn, simprocAttr]); all_goals (try (repeat' (first | apply And.intro))); all_goals (try (first | exact trivial | exact gen_ii (by omega) | exact gen_cc rfl | exact gen_own rfl rfl | exact gen_ref rfl))))
        all_goals exact gen_cc (by congr 1; omega)
    · have : i = nd u := by omega
      subst this
      (repeat' (first | (simp (disch := first | assumption | omega | (simp only [Fits, maxLen, pgq] at *; omega)) only [pgo, pgb, tyf, buildSliceV_w, simprocAttr, pre_all]) | ((first | ((with_reducible show condC _ _ _ _ _ _ _); refine cond_at (fun hc => ?_) (fun hc => ?_)) | ((with_reducible show guardC _ _ _ _ _ _ _ _); refine guard_at (fun hc => ?_) (fun hc => ?_)) | ((with_reducible show drwG _ _ _ _ _ _ _ _ _ _); refine drw_at (fun hc => ?_) (fun hc => ?_))) <;> (try simp only [hc]) <;> (try simp only [pgd] at hc)) | (with_reducible refine chk_at (by kernel_rfl) ?_)))
      (refine ret_at [] _ (by first | exact retV_one _ _ _ | exact retV_two _ _ _ _ | exact retV_three _ _ _ _ _ | exact retV_four _ _ _ _ _ _ | (simp (disch := first | assumption | omega | (simp only [Fits, maxLen, pgq] at *; omega)) only [pgr, pgo, tyf, simprocAttr]; rfl)) (by decide) (by simp only [pgo, simprocAttr]) ?_; (first | rfl | simp only [pgo, simprocAttr]))
theorem g_ParseUint (u : Nat) (hu : u < 18446744073709551616) : Pg.Good Tryz.prog 190 [vs (hexU u), vi 16, vi 64] (.tup [vu u, .c .nilIface]) := by
  have hif := if_err
  refine good_intro (drawW_ok mix) Tryz.func190 rfl Tryz.results190 rfl (by kernel_rfl) (Nat.le_of_ble_eq_true (by kernel_rfl)) ?_
  (repeat' (first | (simp (disch := first | assumption | omega | (simp only [Fits, maxLen, pgq] at *; omega)) only [pgo, pgb, tyf, buildSliceV_w, simprocAttr, Tryz.f190]) | ((with_reducible show callW _ _ _ _ _ _); first | refine callW_use _ (g_puI u hu) rfl rfl rfl rfl ?_) | ((first | ((with_reducible show condC _ _ _ _ _ _ _); refine cond_at (fun hc => ?_) (fun hc => ?_)) | ((with_reducible show guardC _ _ _ _ _ _ _ _); refine guard_at (fun hc => ?_) (fun hc => ?_)) | ((with_reducible show drwG _ _ _ _ _ _ _ _ _ _); refine drw_at (fun hc => ?_) (fun hc => ?_))) <;> (try simp only [hc]) <;> (try simp only [pgd] at hc)) | (with_reducible refine chk_at (by kernel_rfl) ?_)))
  (refine ret_at [] _ (by first | exact retV_one _ _ _ | exact retV_two _ _ _ _ | exact retV_three _ _ _ _ _ | exact retV_four _ _ _ _ _ _ | (simp (disch := first | assumption | omega | (simp only [Fits, maxLen, pgq] at *; omega)) only [pgr, pgo, tyf, simprocAttr]; rfl)) (by decide) (by simp only [pgo, simprocAttr]) ?_; (first | rfl | simp only [pgo, simprocAttr]))
end Go.Proofs.YtjiolbcdfgclaaaGreatDoor
end

section
/-
  The pure layer: loops of callees that write what the caller made: a state may forget temporaries and variables.
-/
namespace Go.Pg
open Go
set_option linter.unusedSectionVars false
theorem weak_le {e e' : Nat → V} {bx bx' : Nat → Option (TypeId × List V)} {n n' : Nat} {h : Nat → V} (he : ∀ t, e' t = e t ∨ e' t = .top) (hb : ∀ b, bx' b = bx b ∨ bx' b = none) (hn : n ≤ n') : Weak ⟨e, bx, n, h⟩ ⟨e', bx', n', h⟩ := by
  intro C L a w S
  refine ⟨L, S.defers, S.size, fun t => ?_, S.hid, fun b cs hc => ?_, S.wf.mono hn (Nat.le_refl _), S.kp⟩
  · show Rep L w (e' t) _
    rcases he t with h1 | h1
    · rw [h1]; exact S.env t
    · rw [h1]; trivial
  · have hc' : bx' b = some cs := hc
    rcases hb b with h1 | h1
    · rw [h1] at hc'; exact S.box b cs hc'
    · rw [h1] at hc'; cases hc'
/-- The temporaries that are to live on. -/
def EnvIs (e : Nat → V) : List (Nat × V) → Prop
  | [] => True
  | (k, v) :: r => e k = v ∧ EnvIs e r
theorem finE_le {e : Nat → V} : ∀ {X : List (Nat × V)}, EnvIs e X → ∀ t, finE X t = e t ∨ finE X t = .top := by
  intro X
  induction X with
  | nil => intro _ t; exact .inr rfl
  | cons p r ih =>
    obtain ⟨k, v⟩ := p
    rintro ⟨h1, h2⟩ t
    by_cases ht : t = k
    · subst ht; left; rw [finE_at, if_pos rfl, h1]
    · rw [finE_at, if_neg ht]; exact ih h2 t
section
variable {ι : Type} {D : Dw} {P : Program} [Tb P]
/-- A loop whose head keeps some temporaries, and variables by name. -/
theorem loop_E {x : Code} {Q : Exit → St → Prop} {e : Nat → V} {bx : Nat → Option (TypeId × List V)} {n : Nat} {h : Nat → V} (X : ι → List (Nat × V)) (B : ι → Nat → Option (TypeId × List V)) (N : ι → Nat) (Inv : ι → Prop) (μ : ι → Nat) (i0 : ι) (he : EnvIs e (X i0)) (hb : ∀ b, B i0 b = bx b ∨ B i0 b = none) (hn : n ≤ N i0) (h0 : Inv i0)
    (hr : ∀ i, Inv i → wpS D P x (headC (fun i => ⟨finE (X i), B i, N i, h⟩) Inv μ i Q) ⟨finE (X i), B i, N i, h⟩) : loopC D P x Q ⟨e, bx, n, h⟩ := by
  refine ⟨fun m s1 => ∃ i, Inv i ∧ μ i = m ∧ s1 = ⟨finE (X i), B i, N i, h⟩, μ i0, ⟨_, weak_le (finE_le he) hb hn, i0, h0, rfl, rfl⟩, ?_⟩
  rintro m s1 ⟨i, hi, rfl, rfl⟩
  exact hr i hi
theorem back_E {X : ι → List (Nat × V)} {B : ι → Nat → Option (TypeId × List V)} {N : ι → Nat} {Inv : ι → Prop} {μ : ι → Nat} {i : ι} {e : Nat → V} {bx : Nat → Option (TypeId × List V)} {n : Nat} {h : Nat → V} (j : ι) (h1 : Inv j) (h2 : μ j < μ i) (he : EnvIs e (X j)) (hb : ∀ b, B j b = bx b ∨ B j b = none) (hn : n ≤ N j) :
    backC (fun i => (⟨finE (X i), B i, N i, h⟩ : St)) Inv μ i ⟨e, bx, n, h⟩ := ⟨μ j, _, h2, weak_le (finE_le he) hb hn, j, h1, rfl, rfl⟩
theorem EnvIs_nil (e : Nat → V) : EnvIs e [] = True := rfl
theorem EnvIs_cons (e : Nat → V) (k : Nat) (v : V) (r : List (Nat × V)) : EnvIs e ((k, v) :: r) = (e k = v ∧ EnvIs e r) := rfl
end
/-- What lies beyond the names given is nothing. -/
theorem Sim.bxNone {C : Cx} {s : St} {L : Lay} {a : Act} {w : World} (S : Sim C s L a w) {b : Nat} (hb : s.nid ≤ b) : s.bx b = none := by
  cases h : s.bx b with
  | none => rfl
  | some x =>
    obtain ⟨g, arr, h1, _⟩ := S.box b x h
    have := S.wf.nidB b g h1
    omega
/-- A contract of states whose callee made variables that nobody needs. -/
theorem GoodZ.le {P : Program} [Tb P] {g : FuncId} {args : List V} {e e' : Nat → V} {bx bx' bx2 : Nat → Option (TypeId × List V)} {n n' n2 : Nat} {h h' : Nat → V} {r : V} (hg : GoodZ P g args ⟨e, bx, n, h⟩ ⟨e', bx', n', h'⟩ r) (hn : n' ≤ n2)
    (hb : ∀ b, bx2 b = bx' b ∨ bx2 b = none ∨ (n ≤ b ∧ bx2 b = bx b)) : GoodZ P g args ⟨e, bx, n, h⟩ ⟨e', bx2, n2, h'⟩ r := by
  intro C L a w cargs hT S hr
  have weak : ∀ L' w', Sim C ⟨e', bx', n', h'⟩ L' a w' → Sim C ⟨e', bx2, n2, h'⟩ L' a w' := by
    intro L' w' S'
    refine ⟨S'.defers, S'.size, S'.env, S'.hid, fun b cs hc => ?_, S'.wf.mono hn (Nat.le_refl _), S'.kp⟩
    have hc' : bx2 b = some cs := hc
    rcases hb b with h1 | h1 | ⟨h1, h2⟩
    · rw [h1] at hc'; exact S'.box b cs hc'
    · rw [h1] at hc'; cases hc'
    · rw [h2] at hc'
      have := S.bxNone (b := b) h1
      have h3 : bx b = none := this
      rw [h3] at hc'; cases hc'
  rcases hg C L a w cargs hT S hr with ⟨h1, h2⟩ | ⟨u, w', L', h1, h2, h3⟩
  · exact .inl ⟨h1, h2.mono fun e w' ⟨u, L', he, hs, hr⟩ => ⟨u, L', he, weak L' w' hs, hr⟩⟩
  · exact .inr ⟨u, w', L', h1, weak L' w' h2, h3⟩
end Go.Pg
end

section
/-
  Scripts: the reader: a word, a number, a word's index.
-/
namespace Go.Proofs.YtjiolbcdfgclaaaGreatDoor
open Go Go.Pg
set_option maxRecDepth 100000
set_option linter.unusedSimpArgs false
set_option linter.unusedVariables false

/-- A reader's cells. -/
abbrev rdC (l : List (List Nat)) (bad : Bool) : List V := [fzs l, vb bad]
theorem sv_cons (w : List Nat) (l : List (List Nat)) : sv (w :: l) = vs w :: sv l := rfl
theorem slV_tl (w : List Nat) (l : List (List Nat)) : slV Tryz.prog 23 (fzs (w :: l)) (some (vi 1)) none = some (fzs l) := by
  rw [slV_fz]
  simp only [bdV, Option.bind_some, ty_e23, ty_z9]
  rw [if_pos ⟨trivial, by omega, by rw [sv_len]; simp; omega, by omega⟩]
  simp [sv]
  exact List.take_of_length_le (by simp)
theorem g_wordS (e : Nat → V) (bx : Nat → Option (TypeId × List V)) (n : Nat) (h : Nat → V) (b : Nat) (w : List Nat) (l : List (List Nat)) (bad : Bool) (hb : bx b = some (108, rdC (w :: l) bad)) (hl : l.length ≤ 1000000000) :
    GoodZ Tryz.prog 93 [.ref b 0] ⟨e, bx, n, h⟩ ⟨e, upd bx b (some (108, rdC l bad)), n, h⟩ (vs w) := by
  have hx : (sv (w :: l)).length = l.length + 1 := sv_len _
  have hg : (sv (w :: l))[0]? = some (vs w) := rfl
  refine goodZ_intro (drawW_ok mix) Tryz.func93 rfl Tryz.results93 rfl (by kernel_rfl) (Nat.le_of_ble_eq_true (by kernel_rfl)) ?_
  (repeat' (first | (simp (disch := first | assumption | omega | (simp only [Fits, maxLen, pgq] at *; omega)) only [pgo, pgb, tyf, buildSliceV_w, simprocAttr, Tryz.f93, inlS_at, inlQ_ret, inlQ_normal, hb, hx, hg, slV_tl]) | ((first | ((with_reducible show condC _ _ _ _ _ _ _); refine cond_at (fun hc => ?_) (fun hc => ?_)) | ((with_reducible show guardC _ _ _ _ _ _ _ _); refine guard_at (fun hc => ?_) (fun hc => ?_)) | ((with_reducible show drwG _ _ _ _ _ _ _ _ _ _); refine drw_at (fun hc => ?_) (fun hc => ?_))) <;> (try simp only [hc]) <;> (try simp only [pgd] at hc)) | (with_reducible refine chk_at (by kernel_rfl) ?_)))
  refine inl_at (retV_one _ _ _) ?_
  rw [unE_pair, unH_pair]
theorem g_wordN (e : Nat → V) (bx : Nat → Option (TypeId × List V)) (n : Nat) (h : Nat → V) (b : Nat) (bad : Bool) (hb : bx b = some (108, rdC [] bad)) :
    GoodZ Tryz.prog 93 [.ref b 0] ⟨e, bx, n, h⟩ ⟨e, upd bx b (some (108, rdC [] true)), n, h⟩ (vs []) := by
  have hx : (sv []).length = 0 := sv_len _
  refine goodZ_intro (drawW_ok mix) Tryz.func93 rfl Tryz.results93 rfl (by kernel_rfl) (Nat.le_of_ble_eq_true (by kernel_rfl)) ?_
  (repeat' (first | (simp (disch := first | assumption | omega | (simp only [Fits, maxLen, pgq] at *; omega)) only [pgo, pgb, tyf, buildSliceV_w, simprocAttr, Tryz.f93, inlS_at, inlQ_ret, inlQ_normal, hb, hx, str_nil]) | ((first | ((with_reducible show condC _ _ _ _ _ _ _); refine cond_at (fun hc => ?_) (fun hc => ?_)) | ((with_reducible show guardC _ _ _ _ _ _ _ _); refine guard_at (fun hc => ?_) (fun hc => ?_)) | ((with_reducible show drwG _ _ _ _ _ _ _ _ _ _); refine drw_at (fun hc => ?_) (fun hc => ?_))) <;> (try simp only [hc]) <;> (try simp only [pgd] at hc)) | (with_reducible refine chk_at (by kernel_rfl) ?_)))
  refine inl_at (retV_one _ _ _) ?_
  rw [unE_pair, unH_pair]
theorem g_numberS (e : Nat → V) (bx : Nat → Option (TypeId × List V)) (n : Nat) (h : Nat → V) (b : Nat) (w : List Nat) (l : List (List Nat)) (hb : bx b = some (108, rdC (w :: l) false)) (hl : l.length ≤ 1000000000) (ho : oct w) (hw : w.length ≤ 1000000) (hp : (pint w).2 = 0) :
    GoodZ Tryz.prog 98 [.ref b 0] ⟨e, bx, n, h⟩ ⟨e, upd bx b (some (108, rdC l false)), n, h⟩ (vi (pint w).1) := by
  have hn := good21 w ho (by omega)
  unfold pintV at hn
  rw [hp] at hn
  refine goodZ_intro (drawW_ok mix) Tryz.func98 rfl Tryz.results98 rfl (by kernel_rfl) (Nat.le_of_ble_eq_true (by kernel_rfl)) ?_
  (repeat' (first | (simp (disch := first | assumption | omega | (simp only [Fits, maxLen, pgq] at *; omega)) only [pgo, pgb, tyf, buildSliceV_w, simprocAttr, Tryz.f98, inlS_at, inlQ_ret, inlQ_normal, hb]) | ((with_reducible show callW _ _ _ _ _ _); first | refine callW_use _ (hn) rfl rfl rfl rfl ?_ | refine callZ _ (g_wordS _ _ _ _ b w l false hb hl) rfl ?_) | ((first | ((with_reducible show condC _ _ _ _ _ _ _); refine cond_at (fun hc => ?_) (fun hc => ?_)) | ((with_reducible show guardC _ _ _ _ _ _ _ _); refine guard_at (fun hc => ?_) (fun hc => ?_)) | ((with_reducible show drwG _ _ _ _ _ _ _ _ _ _); refine drw_at (fun hc => ?_) (fun hc => ?_))) <;> (try simp only [hc]) <;> (try simp only [pgd] at hc)) | (with_reducible refine chk_at (by kernel_rfl) ?_)))
  refine inl_at (retV_one _ _ _) ?_
  rw [unE_pair, unH_pair, upd_upd]
theorem g_keyS (e : Nat → V) (bx : Nat → Option (TypeId × List V)) (n : Nat) (h : Nat → V) (b : Nat) (w : List Nat) (l : List (List Nat)) (hb : bx b = some (108, rdC (w :: l) false)) (hl : l.length ≤ 1000000000) (ho : oct w) (hw : w.length ≤ 1000000) (hp : (pk w).2 = 0) :
    GoodZ Tryz.prog 97 [.ref b 0] ⟨e, bx, n, h⟩ ⟨e, upd bx b (some (108, rdC l false)), n, h⟩ (vs (pk w).1) := by
  have hn := good13 w ho (by omega)
  unfold pkV at hn
  rw [hp] at hn
  refine goodZ_intro (drawW_ok mix) Tryz.func97 rfl Tryz.results97 rfl (by kernel_rfl) (Nat.le_of_ble_eq_true (by kernel_rfl)) ?_
  (repeat' (first | (simp (disch := first | assumption | omega | (simp only [Fits, maxLen, pgq] at *; omega)) only [pgo, pgb, tyf, buildSliceV_w, simprocAttr, Tryz.f97, inlS_at, inlQ_ret, inlQ_normal, hb]) | ((with_reducible show callW _ _ _ _ _ _); first | refine callW_use _ (hn) rfl rfl rfl rfl ?_ | refine callZ _ (g_wordS _ _ _ _ b w l false hb hl) rfl ?_) | ((first | ((with_reducible show condC _ _ _ _ _ _ _); refine cond_at (fun hc => ?_) (fun hc => ?_)) | ((with_reducible show guardC _ _ _ _ _ _ _ _); refine guard_at (fun hc => ?_) (fun hc => ?_)) | ((with_reducible show drwG _ _ _ _ _ _ _ _ _ _); refine drw_at (fun hc => ?_) (fun hc => ?_))) <;> (try simp only [hc]) <;> (try simp only [pgd] at hc)) | (with_reducible refine chk_at (by kernel_rfl) ?_)))
  refine inl_at (retV_one _ _ _) ?_
  rw [unE_pair, unH_pair, upd_upd]
theorem oct_dec (l : List Nat) (h : (l.all fun b => decide (b < 256)) = true) : oct l := fun b hb => by simpa using List.all_eq_true.1 h b hb
theorem veq_ne {a c : List Nat} (ha : oct a) (hc : oct c) (h : a ≠ c) : decide (sB a = sB c) = false := by rw [sB_dec ha hc]; exact decide_eq_false h
theorem veq_eq (a : ByteArray) : decide (a = a) = true := decide_eq_true rfl
theorem g_findS (e : Nat → V) (bx : Nat → Option (TypeId × List V)) (n : Nat) (h : Nat → V) (b : Nat) (w : List Nat) (l : List (List Nat)) (tg : Tag) (L : List (List Nat)) (k : Nat) (hb : bx b = some (108, rdC (w :: l) false)) (hl : l.length ≤ 1000000000) (ho : oct w) (hLo : ∀ x ∈ L, oct x) (hLl : L.length ≤ 1000)
    (hk : 1 ≤ k ∧ k < L.length) (hw : L.getD k [] = w) (hne : ∀ j, j < k → 1 ≤ j → L.getD j [] ≠ w) :
    GoodZ Tryz.prog 92 [.ref b 0, .sl tg 1 (sv L)] ⟨e, bx, n, h⟩ ⟨e, upd bx b (some (108, rdC l false)), n, h⟩ (vi k) := by
  have hx := sv_len L
  refine goodZ_intro (drawW_ok mix) Tryz.func92 rfl Tryz.results92 rfl (by kernel_rfl) (Nat.le_of_ble_eq_true (by kernel_rfl)) ?_
  (repeat' (first | (simp (disch := first | assumption | omega | (simp only [Fits, maxLen, pgq] at *; omega)) only [pgo, pgb, tyf, buildSliceV_w, simprocAttr, Tryz.f92, inlS_at, inlQ_ret, inlQ_normal, hb]) | ((with_reducible show callW _ _ _ _ _ _); first | refine callZ _ (g_wordS _ _ _ _ b w l false hb hl) rfl ?_) | ((first | ((with_reducible show condC _ _ _ _ _ _ _); refine cond_at (fun hc => ?_) (fun hc => ?_)) | ((with_reducible show guardC _ _ _ _ _ _ _ _); refine guard_at (fun hc => ?_) (fun hc => ?_)) | ((with_reducible show drwG _ _ _ _ _ _ _ _ _ _); refine drw_at (fun hc => ?_) (fun hc => ?_))) <;> (try simp only [hc]) <;> (try simp only [pgd] at hc)) | (with_reducible refine chk_at (by kernel_rfl) ?_)))
  refine loop_E (fun i : Nat => [(0, .ref b 0), (1, .sl tg 1 (sv L)), (5, vs w), (6, vi i)]) (fun _ => upd bx b (some (108, rdC l false))) (fun _ => n) (fun i => 1 ≤ i ∧ i ≤ k) (fun i => k - i) 1 ?_ (fun _ => .inl rfl) (Nat.le_refl _) ⟨Nat.le_refl _, hk.1⟩ ?_
  · ((try simp only [EnvIs_cons, EnvIs_nil, finE_at, finE_nil, pgo, simprocAttr, and_true, true_and]); try (repeat' (first | exact trivial | rfl | apply And.intro)))
  · rintro i ⟨h1, h2⟩
    have hlt : i < L.length := by omega
    have hg := sv_get L i hlt
    have hoi : oct (L.getD i []) := hLo _ (by rw [List.getD_eq_getElem?_getD, List.getElem?_eq_getElem hlt]; exact List.getElem_mem hlt)
    by_cases hik : i = k
    · subst hik
      rw [hw] at hg
      (repeat' (first | (simp (disch := first | assumption | omega | (simp only [Fits, maxLen, pgq] at *; omega)) only [pgo, pgb, tyf, buildSliceV_w, simprocAttr, hg, hx, veq_eq, inlQ_ret]) | ((first | ((with_reducible show condC _ _ _ _ _ _ _); refine cond_at (fun hc => ?_) (fun hc => ?_)) | ((with_reducible show guardC _ _ _ _ _ _ _ _); refine guard_at (fun hc => ?_) (fun hc => ?_)) | ((with_reducible show drwG _ _ _ _ _ _ _ _ _ _); refine drw_at (fun hc => ?_) (fun hc => ?_))) <;> (try simp only [hc]) <;> (try simp only [pgd] at hc)) | (with_reducible refine chk_at (by kernel_rfl) ?_)))
      refine inl_at (retV_one _ _ _) ?_
      rw [unE_pair, unH_pair]
    · have hni := veq_ne hoi ho (hne i (by omega) h1)
      generalize L.getD i [] = v at hg hoi hni
      (repeat' (first | (simp (disch := first | assumption | omega | (simp only [Fits, maxLen, pgq] at *; omega)) only [pgo, pgb, tyf, buildSliceV_w, simprocAttr, hg, hx, hni]) | ((first | ((with_reducible show condC _ _ _ _ _ _ _); refine cond_at (fun hc => ?_) (fun hc => ?_)) | ((with_reducible show guardC _ _ _ _ _ _ _ _); refine guard_at (fun hc => ?_) (fun hc => ?_)) | ((with_reducible show drwG _ _ _ _ _ _ _ _ _ _); refine drw_at (fun hc => ?_) (fun hc => ?_))) <;> (try simp only [hc]) <;> (try simp only [pgd] at hc)) | (with_reducible refine chk_at (by kernel_rfl) ?_)))
      refine back_E (i + 1) ⟨by omega, by omega⟩ (by omega) ?_ (fun _ => .inl rfl) (Nat.le_refl _)
      ((try simp only [EnvIs_cons, EnvIs_nil, finE_at, finE_nil, pgo, simprocAttr, and_true, true_and]); try (repeat' (first | exact trivial | rfl | apply And.intro)))
end Go.Proofs.YtjiolbcdfgclaaaGreatDoor
end

section
/-
  Scripts: the words of an operation without fields are read; ParseOp, event of such.
-/
namespace Go.Proofs.YtjiolbcdfgclaaaGreatDoor
open Go Go.Pg
set_option maxRecDepth 100000
set_option linter.unusedSimpArgs false
set_option linter.unusedVariables false

theorem pw {α : Type} {n : Nat} {f g bx : Nat → Option α} (h : ∀ c, c < n → f c = g c) (h2 : ∀ c, n ≤ c → f c = bx c) : ∀ c, f c = g c ∨ f c = none ∨ (n ≤ c ∧ f c = bx c) := by
  intro c
  rcases Nat.lt_or_ge c n with hc | hc
  · exact .inl (h c hc)
  · exact .inr (.inr ⟨hc, h2 c hc⟩)
/-- An operation without fields. -/
abbrev op0 (k : Int) : List V := [vi k, vs [], vs [], nls, vi 0, vi 0, vi 0, vu 0, nls, nls, vi 0, vi 0, vi 0, vi 0, vi 0, vi 0, vi 0, vs [], vi 0, vi 0, vi 0, nls]
theorem wl_oct : ∀ x ∈ wordsL, oct x := by
  intro x hx
  have : ∀ x ∈ wordsL, (x.all fun b => decide (b < 256)) = true := by decide
  intro b hb
  simpa using List.all_eq_true.1 (this x hx) b hb
theorem g_opList (e : Nat → V) (bx : Nat → Option (TypeId × List V)) (n : Nat) (h : Nat → V) (b : Nat) (hb : bx b = some (108, rdC [[108, 105, 115, 116]] false)) (hbn : b < n) :
    GoodZ Tryz.prog 54 [.ref b 0] ⟨e, bx, n, h⟩ ⟨e, upd bx b (some (108, rdC [] false)), n + 10, h⟩ (.agg (op0 4)) := by
  have hne : ∀ j, j < 4 → 1 ≤ j → wordsL.getD j [] ≠ [108, 105, 115, 116] := by decide
  have d1 : ¬ n = b := by omega
  have d2 : ¬ b = n := by omega
  have d3 : ¬ n = n + 1 + 1 := by omega
  have d4 : ¬ n + 1 + 1 = n := by omega
  have d5 : ¬ n + 1 + 1 = b := by omega
  have d6 : ¬ b = n + 1 + 1 := by omega
  have key : ∃ bx' n', GoodZ Tryz.prog 54 [.ref b 0] ⟨e, bx, n, h⟩ ⟨e, bx', n', h⟩ (.agg (op0 4)) ∧ n' ≤ n + 10 ∧ ∀ c, upd bx b (some (108, rdC [] false)) c = bx' c ∨ upd bx b (some (108, rdC [] false)) c = none ∨ (n ≤ c ∧ upd bx b (some (108, rdC [] false)) c = bx c) := by
    apply Exists.intro; apply Exists.intro
    refine ⟨?_, ?_⟩
    · refine goodZ_intro (drawW_ok mix) Tryz.func54 rfl Tryz.results54 rfl (by kernel_rfl) (Nat.le_of_ble_eq_true (by kernel_rfl)) ?_
      (repeat' (first | (simp (disch := first | assumption | omega | (simp only [Fits, maxLen, pgq] at *; omega)) only [pgo, pgb, tyf, buildSliceV_w, simprocAttr, Tryz.f54, inlS_at, inlQ_ret, inlQ_normal, hb, str_nil, d1, d2, d3, d4, d5, d6]) | ((with_reducible show callW _ _ _ _ _ _); first | refine callW_use _ (g_words) rfl rfl rfl rfl ?_ | refine callZ _ (g_findS _ _ _ _ b [108, 105, 115, 116] [] _ wordsL 4 (by simp only [upd]; rw [if_neg (by omega)]; exact hb) (by simp) (oct_dec _ rfl) wl_oct (by decide) (by decide) rfl hne) rfl ?_) | ((first | ((with_reducible show condC _ _ _ _ _ _ _); refine cond_at (fun hc => ?_) (fun hc => ?_)) | ((with_reducible show guardC _ _ _ _ _ _ _ _); refine guard_at (fun hc => ?_) (fun hc => ?_)) | ((with_reducible show drwG _ _ _ _ _ _ _ _ _ _); refine drw_at (fun hc => ?_) (fun hc => ?_))) <;> (try simp only [hc]) <;> (try simp only [pgd] at hc)) | (with_reducible refine chk_at (by kernel_rfl) ?_)))
      (refine inl_at (by first | exact retV_one _ _ _ | exact retV_two _ _ _ _ | (simp (disch := first | assumption | omega | (simp only [Fits, maxLen, pgq] at *; omega)) only [pgr, pgo, tyf, simprocAttr, d1, d2, d3, d4, d5, d6, hb]; done) | (simp (disch := first | assumption | omega | (simp only [Fits, maxLen, pgq] at *; omega)) only [pgr, pgo, tyf, simprocAttr, d1, d2, d3, d4, d5, d6, hb]; rfl)) ?_; rw [unE_pair, unH_pair])
    · refine ⟨by omega, ?_⟩
      exact pw (fun c hc => by simp only [upd]; (repeat' split) <;> first | rfl | omega) (fun c hc => by simp only [upd]; rw [if_neg (by omega)])
  obtain ⟨bx', n', h1, h2, h3⟩ := key
  exact h1.le h2 h3
end Go.Proofs.YtjiolbcdfgclaaaGreatDoor
end

section
/-
  Scripts: the reader, of any words: a word, a number, a key.
-/
namespace Go.Proofs.YtjiolbcdfgclaaaGreatDoor
open Go Go.Pg
set_option maxRecDepth 100000
set_option linter.unusedSimpArgs false
set_option linter.unusedVariables false

def hdW (l : List (List Nat)) : List Nat := l.headD []
theorem hdW_oct {l : List (List Nat)} (h : ∀ x ∈ l, oct x) : oct (hdW l) := by
  cases l with
  | nil => exact oct_nil
  | cons w l => exact h w (by simp)
theorem g_word (e : Nat → V) (bx : Nat → Option (TypeId × List V)) (n : Nat) (h : Nat → V) (b : Nat) (l : List (List Nat)) (bad : Bool) (hb : bx b = some (108, rdC l bad)) (hl : l.length ≤ 1000000) :
    GoodZ Tryz.prog 93 [.ref b 0] ⟨e, bx, n, h⟩ ⟨e, upd bx b (some (108, rdC l.tail (bad || l.isEmpty))), n, h⟩ (vs (hdW l)) := by
  cases l with
  | nil =>
    have := g_wordN e bx n h b bad hb
    simpa [hdW] using this
  | cons w l =>
    have := g_wordS e bx n h b w l bad hb (by simp at hl; omega)
    simpa [hdW] using this
/-- A number was not one. -/
def nbad (l : List (List Nat)) : Bool := l.isEmpty || !decide ((pint (hdW l)).2 = 0)
def kbad (l : List (List Nat)) : Bool := l.isEmpty || !decide ((pk (hdW l)).2 = 0)
theorem nb_t {a : Bool} {l : List (List Nat)} (h : (a || l.isEmpty) = true) : (a || nbad l) = true := by cases a <;> simp_all [nbad]
theorem nb_f {a : Bool} {l : List (List Nat)} (h : (a || l.isEmpty) = false) : (a || nbad l) = !decide ((pint (hdW l)).2 = 0) := by cases a <;> simp_all [nbad]
theorem kb_t {a : Bool} {l : List (List Nat)} (h : (a || l.isEmpty) = true) : (a || kbad l) = true := by cases a <;> simp_all [kbad]
theorem kb_f {a : Bool} {l : List (List Nat)} (h : (a || l.isEmpty) = false) : (a || kbad l) = !decide ((pk (hdW l)).2 = 0) := by cases a <;> simp_all [kbad]
theorem bne_dec (n : Nat) : ((n : Int) != 0) = !decide (n = 0) := by
  cases n <;> simp
  all_goals omega
theorem g_number (e : Nat → V) (bx : Nat → Option (TypeId × List V)) (n : Nat) (h : Nat → V) (b : Nat) (l : List (List Nat)) (bad : Bool) (hb : bx b = some (108, rdC l bad)) (hl : l.length ≤ 1000000) (ho : oct (hdW l)) (hw : (hdW l).length ≤ 1000000) :
    GoodZ Tryz.prog 98 [.ref b 0] ⟨e, bx, n, h⟩ ⟨e, upd bx b (some (108, rdC l.tail (bad || nbad l))), n, h⟩ (vi (pint (hdW l)).1) := by
  have hn := good21 (hdW l) ho (by omega)
  unfold pintV at hn
  refine goodZ_intro (drawW_ok mix) Tryz.func98 rfl Tryz.results98 rfl (by kernel_rfl) (Nat.le_of_ble_eq_true (by kernel_rfl)) ?_
  (repeat' (first | (simp (disch := first | assumption | omega | (simp only [Fits, maxLen, pgq] at *; omega)) only [pgo, pgb, tyf, buildSliceV_w, simprocAttr, Tryz.f98, inlS_at, inlQ_ret, inlQ_normal, hb]) | ((with_reducible show callW _ _ _ _ _ _); first | refine callW_use _ (hn) rfl rfl rfl rfl ?_ | refine callZ _ (g_word _ _ _ _ b l bad hb hl) rfl ?_) | ((first | ((with_reducible show condC _ _ _ _ _ _ _); refine cond_at (fun hc => ?_) (fun hc => ?_)) | ((with_reducible show guardC _ _ _ _ _ _ _ _); refine guard_at (fun hc => ?_) (fun hc => ?_)) | ((with_reducible show drwG _ _ _ _ _ _ _ _ _ _); refine drw_at (fun hc => ?_) (fun hc => ?_))) <;> (try simp only [hc]) <;> (try simp only [pgd] at hc)) | (with_reducible refine chk_at (by kernel_rfl) ?_)))
  all_goals (refine inl_at (retV_one _ _ _) ?_; rw [unE_pair, unH_pair, upd_upd]; first | rw [nb_t hc] | rw [nb_f hc, bne_dec])
theorem g_key (e : Nat → V) (bx : Nat → Option (TypeId × List V)) (n : Nat) (h : Nat → V) (b : Nat) (l : List (List Nat)) (bad : Bool) (hb : bx b = some (108, rdC l bad)) (hl : l.length ≤ 1000000) (ho : oct (hdW l)) (hw : (hdW l).length ≤ 1000000) :
    GoodZ Tryz.prog 97 [.ref b 0] ⟨e, bx, n, h⟩ ⟨e, upd bx b (some (108, rdC l.tail (bad || kbad l))), n, h⟩ (vs (pk (hdW l)).1) := by
  have hn := good13 (hdW l) ho (by omega)
  unfold pkV at hn
  refine goodZ_intro (drawW_ok mix) Tryz.func97 rfl Tryz.results97 rfl (by kernel_rfl) (Nat.le_of_ble_eq_true (by kernel_rfl)) ?_
  (repeat' (first | (simp (disch := first | assumption | omega | (simp only [Fits, maxLen, pgq] at *; omega)) only [pgo, pgb, tyf, buildSliceV_w, simprocAttr, Tryz.f97, inlS_at, inlQ_ret, inlQ_normal, hb]) | ((with_reducible show callW _ _ _ _ _ _); first | refine callW_use _ (hn) rfl rfl rfl rfl ?_ | refine callZ _ (g_word _ _ _ _ b l bad hb hl) rfl ?_) | ((first | ((with_reducible show condC _ _ _ _ _ _ _); refine cond_at (fun hc => ?_) (fun hc => ?_)) | ((with_reducible show guardC _ _ _ _ _ _ _ _); refine guard_at (fun hc => ?_) (fun hc => ?_)) | ((with_reducible show drwG _ _ _ _ _ _ _ _ _ _); refine drw_at (fun hc => ?_) (fun hc => ?_))) <;> (try simp only [hc]) <;> (try simp only [pgd] at hc)) | (with_reducible refine chk_at (by kernel_rfl) ?_)))
  all_goals (refine inl_at (retV_one _ _ _) ?_; rw [unE_pair, unH_pair, upd_upd]; first | rw [kb_t hc] | rw [kb_f hc, bne_dec])
/-- A number written by FormatUint is read. -/
theorem g_seedS (e : Nat → V) (bx : Nat → Option (TypeId × List V)) (n : Nat) (h : Nat → V) (b : Nat) (u : Nat) (hu : u < 18446744073709551616) (l : List (List Nat)) (bad : Bool) (hb : bx b = some (108, rdC (hexU u :: l) bad)) (hl : l.length ≤ 100000) :
    GoodZ Tryz.prog 143 [.ref b 0] ⟨e, bx, n, h⟩ ⟨e, upd bx b (some (108, rdC l bad)), n, h⟩ (vu u) := by
  have hif := if_err
  cases bad
  · refine goodZ_intro (drawW_ok mix) Tryz.func143 rfl Tryz.results143 rfl (by kernel_rfl) (Nat.le_of_ble_eq_true (by kernel_rfl)) ?_
    (repeat' (first | (simp (disch := first | assumption | omega | (simp only [Fits, maxLen, pgq] at *; omega)) only [pgo, pgb, tyf, buildSliceV_w, simprocAttr, Tryz.f143, inlS_at, inlQ_ret, inlQ_normal, hb, veq_eq]) | ((with_reducible show callW _ _ _ _ _ _); first | refine callW_use _ (g_ParseUint u hu) rfl rfl rfl rfl ?_ | refine callW_use _ (g_FormatUint u hu) rfl rfl rfl rfl ?_ | refine callZ _ (g_wordS _ _ _ _ b (hexU u) l false hb (by omega)) rfl ?_) | ((first | ((with_reducible show condC _ _ _ _ _ _ _); refine cond_at (fun hc => ?_) (fun hc => ?_)) | ((with_reducible show guardC _ _ _ _ _ _ _ _); refine guard_at (fun hc => ?_) (fun hc => ?_)) | ((with_reducible show drwG _ _ _ _ _ _ _ _ _ _); refine drw_at (fun hc => ?_) (fun hc => ?_))) <;> (try simp only [hc]) <;> (try simp only [pgd] at hc)) | (with_reducible refine chk_at (by kernel_rfl) ?_)))
    all_goals (refine inl_at (retV_one _ _ _) ?_; rw [unE_pair, unH_pair, upd_upd])
  · refine goodZ_intro (drawW_ok mix) Tryz.func143 rfl Tryz.results143 rfl (by kernel_rfl) (Nat.le_of_ble_eq_true (by kernel_rfl)) ?_
    (repeat' (first | (simp (disch := first | assumption | omega | (simp only [Fits, maxLen, pgq] at *; omega)) only [pgo, pgb, tyf, buildSliceV_w, simprocAttr, Tryz.f143, inlS_at, inlQ_ret, inlQ_normal, hb, veq_eq]) | ((with_reducible show callW _ _ _ _ _ _); first | refine callW_use _ (g_ParseUint u hu) rfl rfl rfl rfl ?_ | refine callW_use _ (g_FormatUint u hu) rfl rfl rfl rfl ?_ | refine callZ _ (g_wordS _ _ _ _ b (hexU u) l true hb (by omega)) rfl ?_) | ((first | ((with_reducible show condC _ _ _ _ _ _ _); refine cond_at (fun hc => ?_) (fun hc => ?_)) | ((with_reducible show guardC _ _ _ _ _ _ _ _); refine guard_at (fun hc => ?_) (fun hc => ?_)) | ((with_reducible show drwG _ _ _ _ _ _ _ _ _ _); refine drw_at (fun hc => ?_) (fun hc => ?_))) <;> (try simp only [hc]) <;> (try simp only [pgd] at hc)) | (with_reducible refine chk_at (by kernel_rfl) ?_)))
    all_goals (refine inl_at (retV_one _ _ _) ?_; rw [unE_pair, unH_pair, upd_upd])
end Go.Proofs.YtjiolbcdfgclaaaGreatDoor
end

section
/-
  The pure layer: a callee's caller holds nothing of the names that the callee will give: so what the callee makes turns nothing of the caller's.
-/
namespace Go.Pg
open Go
set_option linter.unusedSectionVars false

def Tag.gf (n : Nat) : Tag → Bool
  | .fz => false
  | .nn => false
  | .own i _ => decide (n ≤ i)
/-- No name from n on. -/
def Fr (n : Nat) (v : V) : Prop := v.any (Tag.gf n) (fun b => decide (n ≤ b)) false = false
def FrE (n : Nat) (e : Nat → V) : Prop := ∀ t, Fr n (e t)
def FrB (n : Nat) (b : Nat → Option (TypeId × List V)) : Prop := ∀ k x, b k = some x → ∀ v ∈ x.2, Fr n v

theorem any_imp {p p' : Tag → Bool} {q q' : Nat → Bool} (hp : ∀ t, p' t = true → p t = true) (hq : ∀ b, q' b = true → q b = true) : (∀ v : V, v.any p q false = false → v.any p' q' false = false) ∧ (∀ l, V.anyL p q false l = false → V.anyL p' q' false l = false) := by
  have hp' : ∀ t, p t = false → p' t = false := fun t h => by
    cases h' : p' t with
    | false => rfl
    | true => rw [hp t h'] at h; cases h
  have hq' : ∀ t, q t = false → q' t = false := fun t h => by
    cases h' : q' t with
    | false => rfl
    | true => rw [hq t h'] at h; cases h
  refine V.ind ?_ ?_ ?_ ?_ ?_ ?_ ?_ ?_ ?_ ?_ ?_
  · intro v _; rfl
  · intro _; rfl
  · intro t k xs _ h; exact hp' t h
  · intro cs ih h; exact ih h
  · intro cs ih h; exact ih h
  · intro b o h; exact hq' b h
  · intro t k xs i o _ h; exact hp' t h
  · intro f fs cs ih1 ih2 h
    simp only [V.any, Bool.or_eq_false_iff] at h ⊢
    exact ⟨ih1 h.1, ih2 h.2⟩
  · intro h; exact h
  · intro _; rfl
  · intro x xs ih1 ih2 h
    simp only [V.anyL, Bool.or_eq_false_iff] at h ⊢
    exact ⟨ih1 h.1, ih2 h.2⟩
theorem poison_fr {n id : Nat} {v : V} (h : Fr n v) (hi : n ≤ id) : poison id v = v := by
  unfold poison
  rw [if_neg]
  have := (any_imp (p := Tag.gf n) (p' := Tag.is id) (q := fun b => decide (n ≤ b)) (q' := fun _ => false) (fun t ht => by
    cases t with
    | own i e => simp [Tag.is] at ht; simp [Tag.gf]; omega
    | _ => simp [Tag.is] at ht) (fun b hb => by cases hb)).1 v h
  simp [V.has, this]
theorem mapE_fr {n id : Nat} {e : Nat → V} (h : FrE n e) (hi : n ≤ id) : mapE (poison id) e = e := funext fun t => poison_fr (h t) hi
theorem mapB_fr {n id : Nat} {b : Nat → Option (TypeId × List V)} (h : FrB n b) (hi : n ≤ id) : mapB (poison id) b = b := by
  funext k
  unfold mapB
  cases hb : b k with
  | none => rfl
  | some x =>
    simp only [Option.map_some, Option.some.injEq]
    refine Prod.ext rfl ?_
    show x.2.map (poison id) = x.2
    conv => rhs; rw [← List.map_id x.2]
    exact List.map_congr_left fun v hv => poison_fr (h k x hb v hv) hi
theorem FrB.upd {n : Nat} {b : Nat → Option (TypeId × List V)} (h : FrB n b) (k : Nat) (x : TypeId × List V) (hx : ∀ v ∈ x.2, Fr n v) : FrB n (upd b k (some x)) := by
  intro j y hy
  unfold Go.Pg.upd at hy
  split at hy
  · simp only [Option.some.injEq] at hy; subst hy; exact hx
  · exact h j y hy
theorem Fr.mono {n m : Nat} {v : V} (h : Fr n v) (hm : n ≤ m) : Fr m v :=
  (any_imp (p := Tag.gf n) (p' := Tag.gf m) (q := fun b => decide (n ≤ b)) (q' := fun b => decide (m ≤ b)) (fun t ht => by
    cases t with
    | own i e => simp [Tag.gf] at ht ⊢; omega
    | _ => simp [Tag.gf] at ht) (fun b hb => by simp at hb ⊢; omega)).1 v h

mutual
/-- Slices that are nil are called so. -/
def V.cl (n : Nat) : V → V
  | .c v => .c v
  | .sl (.own i e) k [] => if n ≤ i then .c (.slice none 0 0) else .sl (.own i e) k []
  | .sl t k xs => .sl t k xs
  | .agg cs => .agg (V.clL n cs)
  | .tup cs => .tup (V.clL n cs)
  | .ref b off => .ref b off
  | .el t k xs i off => .el t k xs i off
  | .fn f fs cs => .fn f (V.clL n fs) (V.clL n cs)
  | .top => .top
  | .nif => .nif
def V.clL (n : Nat) : List V → List V
  | [] => []
  | x :: xs => V.cl n x :: V.clL n xs
end
theorem clL_map (n : Nat) (l : List V) : V.clL n l = l.map (V.cl n) := by
  induction l with
  | nil => rfl
  | cons x xs ih => simp [V.clL, ih]

section
variable {L L' : Lay} {w w' : World} {n : Nat}
/-- They stand for the same, both ways; and then hold none of the names to come. -/
theorem cl_all (hO : ∀ id g, L.own id = some g → id < n) (hB : ∀ b g, L.box b = some g → b < n) :
    (∀ v u, Rep L w v u → (Rep L w (V.cl n v) u ∧ Fr n (V.cl n v)) ∧ ∀ L' w' u', Rep L' w' (V.cl n v) u' → Rep L' w' v u') ∧
    (∀ l, (∀ us, Reps L w l us → (Reps L w (V.clL n l) us ∧ V.anyL (Tag.gf n) (fun b => decide (n ≤ b)) false (V.clL n l) = false) ∧ ∀ L' w' us', Reps L' w' (V.clL n l) us' → Reps L' w' l us') ∧ True) := by
  refine V.ind ?_ ?_ ?_ ?_ ?_ ?_ ?_ ?_ ?_ ?_ ?_
  · intro v u h; exact ⟨⟨h, rfl⟩, fun _ _ _ h => h⟩
  · intro u h; exact ⟨⟨h, rfl⟩, fun _ _ _ h => h⟩
  · intro t k xs _ u h
    have key : ∀ (hfr : t.gf n = false), V.cl n (.sl t k xs) = .sl t k xs → (Rep L w (V.cl n (.sl t k xs)) u ∧ Fr n (V.cl n (.sl t k xs))) ∧ ∀ L' w' u', Rep L' w' (V.cl n (.sl t k xs)) u' → Rep L' w' (.sl t k xs) u' := by
      intro hfr e
      rw [e]
      exact ⟨⟨h, hfr⟩, fun _ _ _ h => h⟩
    cases t with
    | fz => exact key rfl (by cases xs <;> rfl)
    | nn => exact key rfl (by cases xs <;> rfl)
    | own i e =>
      by_cases hi : n ≤ i
      · obtain ⟨a, cap, cells, rfl, h2, h3⟩ := h
        rcases h3 with ⟨h3, rfl, rfl⟩ | ⟨g, arr, h3, _⟩
        · have hx : xs = [] := List.eq_nil_of_length_eq_zero h3
          subst hx
          have e1 : V.cl n (.sl (.own i e) k []) = .c (.slice none 0 0) := by simp [V.cl, hi]
          rw [e1]
          refine ⟨⟨rfl, rfl⟩, fun L' w' u' h' => ?_⟩
          exact ⟨none, 0, [], h', rfl, .inl ⟨rfl, rfl, rfl⟩⟩
        · have := hO i g h3; omega
      · refine key (by simp [Tag.gf]; omega) ?_
        cases xs with
        | nil => simp [V.cl, hi]
        | cons x xs => rfl
  · rintro cs ⟨ih, _⟩ u ⟨a, h1, h2⟩
    obtain ⟨⟨i1, i2⟩, i3⟩ := ih _ h2
    exact ⟨⟨⟨a, h1, i1⟩, i2⟩, fun L' w' u' ⟨a', h1', h2'⟩ => ⟨a', h1', i3 L' w' _ h2'⟩⟩
  · rintro cs ⟨ih, _⟩ u ⟨a, h1, h2⟩
    obtain ⟨⟨i1, i2⟩, i3⟩ := ih _ h2
    exact ⟨⟨⟨a, h1, i1⟩, i2⟩, fun L' w' u' ⟨a', h1', h2'⟩ => ⟨a', h1', i3 L' w' _ h2'⟩⟩
  · rintro b off u ⟨g, h1, h2⟩
    have := hB b g h1
    exact ⟨⟨⟨g, h1, h2⟩, by simp [Fr, V.cl, V.any]; omega⟩, fun _ _ _ h => h⟩
  · rintro t k xs i off _ u ⟨g, o, cells, h1, h2, h3⟩
    refine ⟨⟨⟨g, o, cells, h1, h2, h3⟩, ?_⟩, fun _ _ _ h => h⟩
    cases t with
    | fz => rfl
    | nn => exact h3.elim
    | own j e => have := hO j g h3.1; simp [Fr, V.cl, V.any, Tag.gf]; omega
  · rintro f fs cs ⟨ih1, _⟩ ⟨ih2, _⟩ u ⟨a, b, h1, h2, h3⟩
    obtain ⟨⟨i1, i2⟩, i3⟩ := ih1 _ h2
    obtain ⟨⟨j1, j2⟩, j3⟩ := ih2 _ h3
    refine ⟨⟨⟨a, b, h1, i1, j1⟩, by simp [Fr, V.cl, V.any, i2, j2]⟩, fun L' w' u' ⟨a', b', h1', h2', h3'⟩ => ?_⟩
    exact ⟨a', b', h1', i3 L' w' _ h2', j3 L' w' _ h3'⟩
  · intro u _; exact ⟨⟨trivial, rfl⟩, fun _ _ _ h => h⟩
  · exact ⟨fun us h => ⟨⟨h, rfl⟩, fun _ _ _ h => h⟩, trivial⟩
  · rintro x xs ihx ⟨ih, _⟩
    refine ⟨?_, trivial⟩
    rintro us ⟨u, r, h1, h2, h3⟩
    obtain ⟨⟨i1, i2⟩, i3⟩ := ihx u h2
    obtain ⟨⟨j1, j2⟩, j3⟩ := ih r h3
    refine ⟨⟨⟨u, r, h1, i1, j1⟩, by simp only [V.clL, V.anyL, Bool.or_eq_false_iff]; exact ⟨i2, j2⟩⟩, fun L' w' us' ⟨u', r', h1', h2', h3'⟩ => ?_⟩
    exact ⟨u', r', h1', i3 L' w' _ h2', j3 L' w' _ h3'⟩
end

theorem cl_fr (n : Nat) : (∀ v : V, v.any (Tag.gf n) (fun b => decide (n ≤ b)) false = false → V.cl n v = v) ∧ (∀ l, V.anyL (Tag.gf n) (fun b => decide (n ≤ b)) false l = false → V.clL n l = l) := by
  refine V.ind ?_ ?_ ?_ ?_ ?_ ?_ ?_ ?_ ?_ ?_ ?_
  · intro v _; rfl
  · intro _; rfl
  · intro t k xs _ h
    cases t with
    | own i e =>
      have hi : ¬ n ≤ i := by simpa [V.any, Tag.gf] using h
      cases xs with
      | nil => simp [V.cl, hi]
      | cons x xs => rfl
    | fz => cases xs <;> rfl
    | nn => cases xs <;> rfl
  · intro cs ih h; simp only [V.cl]; rw [ih h]
  · intro cs ih h; simp only [V.cl]; rw [ih h]
  · intro b o h; rfl
  · intro t k xs i o _ h; rfl
  · intro f fs cs ih1 ih2 h
    simp only [V.any, Bool.or_eq_false_iff] at h
    simp only [V.cl]; rw [ih1 h.1, ih2 h.2]
  · intro h; rfl
  · intro _; rfl
  · intro x xs ih1 ih2 h
    simp only [V.anyL, Bool.or_eq_false_iff] at h
    simp only [V.clL]; rw [ih1 h.1, ih2 h.2]

/-- It may be taken that the caller's state holds none of the names to come. -/
theorem GoodZ.fresh {P : Program} [Tb P] {g : FuncId} {args : List V} {n n' b : Nat} {x0 X : TypeId × List V} {r : V} (hx0 : ∀ v ∈ x0.2, Fr n v)
    (H : ∀ e bx h, FrE n e → FrB n bx → FrE n h → bx b = some x0 → GoodZ P g args ⟨e, bx, n, h⟩ ⟨e, upd bx b (some X), n', h⟩ r) (e : Nat → V) (bx : Nat → Option (TypeId × List V)) (h : Nat → V) (hb : bx b = some x0) :
    GoodZ P g args ⟨e, bx, n, h⟩ ⟨e, upd bx b (some X), n', h⟩ r := by
  intro C L a w cargs hT S hr
  have A := cl_all (L := L) (w := w) (n := n) S.wf.nidO S.wf.nidB
  have S1 : Sim C ⟨fun t => V.cl n (e t), fun k => (bx k).map fun x => (x.1, x.2.map (V.cl n)), n, fun t => V.cl n (h t)⟩ L a w := by
    refine ⟨S.defers, S.size, fun t => (A.1 _ _ (S.env t)).1.1, fun t => (A.1 _ _ (S.hid t)).1.1, ?_, S.wf, S.kp⟩
    intro k cs hk
    simp only [Option.map_eq_some_iff] at hk
    obtain ⟨y, hy, rfl⟩ := hk
    obtain ⟨g', arr, h1, h2, h3⟩ := S.box k y hy
    exact ⟨g', arr, h1, h2, by rw [← clL_map]; exact ((A.2 _).1 _ h3).1.1⟩
  have hl : ∀ l : List V, (∀ v ∈ l, Fr n v) → l.map (V.cl n) = l := fun l hl => by
    conv => rhs; rw [← List.map_id l]
    exact List.map_congr_left fun v hv => (cl_fr n).1 v (hl v hv)
  have hfrL : ∀ l : List V, V.anyL (Tag.gf n) (fun b => decide (n ≤ b)) false l = false → ∀ v ∈ l, Fr n v := by
    intro l
    induction l with
    | nil => intro _ v hv; cases hv
    | cons x xs ih =>
      intro h v hv
      simp only [V.anyL, Bool.or_eq_false_iff] at h
      rcases List.mem_cons.1 hv with rfl | hv
      · exact h.1
      · exact ih h.2 v hv
  have hb1 : (fun k => (bx k).map fun x => (x.1, x.2.map (V.cl n))) b = some x0 := by
    show (bx b).map _ = _
    rw [hb]
    show some (x0.1, x0.2.map (V.cl n)) = some x0
    rw [hl _ hx0]
  have G := H (fun t => V.cl n (e t)) (fun k => (bx k).map fun x => (x.1, x.2.map (V.cl n))) (fun t => V.cl n (h t)) (fun t => (A.1 _ _ (S.env t)).1.2) (by
    intro k x hk v hv
    simp only [Option.map_eq_some_iff] at hk
    obtain ⟨y, hy, rfl⟩ := hk
    obtain ⟨g', arr, h1, h2, h3⟩ := S.box k y hy
    have := ((A.2 _).1 _ h3).1.2
    rw [clL_map] at this
    exact hfrL _ this v hv) (fun t => (A.1 _ _ (S.hid t)).1.2) hb1
  have back : ∀ L' w', Sim C ⟨fun t => V.cl n (e t), upd (fun k => (bx k).map fun x => (x.1, x.2.map (V.cl n))) b (some X), n', fun t => V.cl n (h t)⟩ L' a w' → Sim C ⟨e, upd bx b (some X), n', h⟩ L' a w' := by
    intro L' w' S'
    refine ⟨S'.defers, S'.size, fun t => (A.1 _ _ (S.env t)).2 _ _ _ (S'.env t), fun t => (A.1 _ _ (S.hid t)).2 _ _ _ (S'.hid t), ?_, S'.wf, S'.kp⟩
    intro k cs hk
    by_cases hkb : k = b
    · subst hkb
      exact S'.box k cs (by simp only [upd, if_true] at hk ⊢; exact hk)
    · have hk : bx k = some cs := by simpa [upd, if_neg hkb] using hk
      obtain ⟨g0, arr0, h1, h2, h3⟩ := S.box k cs hk
      obtain ⟨g1, arr1, k1, k2, k3⟩ := S'.box k (cs.1, cs.2.map (V.cl n)) (by simp only [upd, if_neg hkb, hk, Option.map_some])
      exact ⟨g1, arr1, k1, k2, ((A.2 _).1 _ h3).2 _ _ _ (by rw [clL_map]; exact k3)⟩
  rcases G C L a w cargs hT S1 hr with ⟨h1, h2⟩ | ⟨u, w', L', h1, h2, h3⟩
  · exact .inl ⟨h1, h2.mono fun e w' ⟨u, L', he, hs, hr⟩ => ⟨u, L', he, back L' w' hs, hr⟩⟩
  · exact .inr ⟨u, w', L', h1, back L' w' h2, h3⟩
end Go.Pg
end

section
/-
  Scripts: the reader's bytes.
-/
namespace Go.Proofs.YtjiolbcdfgclaaaGreatDoor
open Go Go.Pg
set_option maxRecDepth 100000
set_option linter.unusedSimpArgs false
set_option linter.unusedVariables false

theorem frE_pair {n : Nat} {e h : Nat → V} (he : FrE n e) (hh : FrE n h) : FrE n (pair e h) := by
  intro t
  unfold pair
  split
  · exact he _
  · exact hh _
theorem fr_rd (n : Nat) (l : List (List Nat)) (bad : Bool) : ∀ v ∈ rdC l bad, Fr n v := by
  intro v hv
  simp only [List.mem_cons, List.not_mem_nil, or_false] at hv
  rcases hv with rfl | rfl <;> rfl
/-- What bytes' text gives. -/
def byV (w : List Nat) : List Nat := if w = [45] then [] else if okB w (w.length / 2) = true then prs w (w.length / 2) else []
def bbad (w : List Nat) : Bool := if w = [45] then false else if okB w (w.length / 2) = true then decide (w = []) || decide (w.length % 2 ≠ 0) else true
def byA (n : Nat) (l : List Nat) : Nat → V
  | 0 => nls
  | j + 1 => .sl (.own (n + 1) 5) 1 (bv (prs l (j + 1)))
/-- As a slice, of names from n on. -/
def byR (n : Nat) (w : List Nat) : V := if byV w = [] then nls else .sl (.own (n + 1) 5) 1 (bv (byV w))
set_option maxHeartbeats 1000000 in
theorem g_bytes0 (n b : Nat) (l : List (List Nat)) (bad : Bool) (hbn : b < n) (hl : l.length ≤ 1000000) (ho : oct (hdW l)) (hw : (hdW l).length ≤ 1000000) (e : Nat → V) (bx : Nat → Option (TypeId × List V)) (h : Nat → V) (hE : FrE n e) (hB : FrB n bx) (hH : FrE n h) (hb : bx b = some (108, rdC l bad)) :
    GoodZ Tryz.prog 96 [.ref b 0] ⟨e, bx, n, h⟩ ⟨e, upd bx b (some (108, rdC l.tail (bad || l.isEmpty || bbad (hdW l)))), n + 1000002, h⟩ (byR n (hdW l)) := by
  have hwd := fun e h => g_word e bx n h b l bad hb hl
  have hP := mapE_fr (id := n + 1) (frE_pair hE hH) (by omega)
  have hBx := fun d => mapB_fr (id := n + 1) (hB.upd b (108, rdC l.tail d) (fr_rd n _ _)) (by omega)
  generalize hd : (bad || l.isEmpty) = d
  simp only [hd] at hwd
  generalize hdW l = w at *
  have key : ∃ n', GoodZ Tryz.prog 96 [.ref b 0] ⟨e, bx, n, h⟩ ⟨e, upd bx b (some (108, rdC l.tail (d || bbad w))), n', h⟩ (byR n w) ∧ n' ≤ n + 1000002 := by
    by_cases h45 : w = [45]
    · subst h45
      refine ⟨n, ?_, by omega⟩
      have e1 : bbad [45] = false := rfl
      have e2 : byR n [45] = nls := rfl
      rw [e1, e2, Bool.or_false]
      refine goodZ_intro (drawW_ok mix) Tryz.func96 rfl Tryz.results96 rfl (by kernel_rfl) (Nat.le_of_ble_eq_true (by kernel_rfl)) ?_
      (repeat' (first | (simp (disch := first | assumption | omega | (simp only [Fits, maxLen, pgq] at *; omega)) only [pgo, pgb, tyf, buildSliceV_w, simprocAttr, Tryz.f96, inlS_at, inlQ_ret, inlQ_normal, k45, veq_eq]) | ((with_reducible show callW _ _ _ _ _ _); first | refine callZ _ (hwd _ _) rfl ?_) | ((first | ((with_reducible show condC _ _ _ _ _ _ _); refine cond_at (fun hc => ?_) (fun hc => ?_)) | ((with_reducible show guardC _ _ _ _ _ _ _ _); refine guard_at (fun hc => ?_) (fun hc => ?_)) | ((with_reducible show drwG _ _ _ _ _ _ _ _ _ _); refine drw_at (fun hc => ?_) (fun hc => ?_))) <;> (try simp only [hc]) <;> (try simp only [pgd] at hc)) | (with_reducible refine chk_at (by kernel_rfl) ?_)))
      all_goals (refine inl_at (retV_one _ _ _) ?_; rw [unE_pair, unH_pair])
    · have hn45 := sB_eqd ho (oct_dec [45] rfl) h45
      refine ⟨n + 2 * (w.length / 2), ?_, by omega⟩
      refine goodZ_intro (drawW_ok mix) Tryz.func96 rfl Tryz.results96 rfl (by kernel_rfl) (Nat.le_of_ble_eq_true (by kernel_rfl)) ?_
      (repeat' (first | (simp (disch := first | assumption | omega | (simp only [Fits, maxLen, pgq] at *; omega)) only [pgo, pgb, tyf, buildSliceV_w, simprocAttr, Tryz.f96, inlS_at, inlQ_ret, inlQ_normal, k45, hn45]) | ((with_reducible show callW _ _ _ _ _ _); first | refine callZ _ (hwd _ _) rfl ?_) | ((first | ((with_reducible show condC _ _ _ _ _ _ _); refine cond_at (fun hc => ?_) (fun hc => ?_)) | ((with_reducible show guardC _ _ _ _ _ _ _ _); refine guard_at (fun hc => ?_) (fun hc => ?_)) | ((with_reducible show drwG _ _ _ _ _ _ _ _ _ _); refine drw_at (fun hc => ?_) (fun hc => ?_))) <;> (try simp only [hc]) <;> (try simp only [pgd] at hc)) | (with_reducible refine chk_at (by kernel_rfl) ?_)))
      refine loop_E (fun j : Nat => [(0, .ref b 0), (3, vs w), (4, byA n w j), (5, vi (2 * (j : Int)))]) (fun _ => upd bx b (some (108, rdC l.tail d))) (fun j => n + 2 * j) (fun j => j ≤ w.length / 2 ∧ okB w j = true) (fun j => w.length / 2 - j) 0 ?_ (fun _ => .inl rfl) (Nat.le_refl _) ⟨Nat.zero_le _, rfl⟩ ?_
      · ((try simp only [EnvIs_cons, EnvIs_nil, finE_at, finE_nil, pgo, simprocAttr, and_true, true_and]); try (repeat' (first | exact trivial | rfl | apply And.intro)))
      · rintro j ⟨hj, hok⟩
        have en1 : (2 * (j : Int)).toNat = 2 * j := by omega
        have en2 : (2 * (j : Int) + 1).toNat = 2 * j + 1 := by omega
        rcases Nat.lt_or_ge j (w.length / 2) with hlt | hge
        · have q1 := good36 hexd (w.getD (2 * j) 0) hexd_oct (getD_lt ho _)
          have q2 := good36 hexd (w.getD (2 * j + 1) 0) hexd_oct (getD_lt ho _)
          rw [ixB_hexd _ (getD_lt ho _)] at q1 q2
          have hr1 := nib_rng (w.getD (2 * j) 0)
          have hr2 := nib_rng (w.getD (2 * j + 1) 0)
          have hv : 0 ≤ nib (w.getD (2 * j) 0) → 0 ≤ nib (w.getD (2 * j + 1) 0) → 16 * nib (w.getD (2 * j) 0) + nib (w.getD (2 * j + 1) 0) = ((prB w j : Nat) : Int) := by
            intro h1 h2
            unfold prB
            omega
          have hpl := prs_len w j
          cases hp : okP w j
          · have hno := okB_not hlt hp
            have hbb : bbad w = true := by unfold bbad; rw [if_neg h45, hno]; rfl
            have hbr : byR n w = nls := by unfold byR byV; rw [if_neg h45, hno]; rfl
            rw [hbb, hbr, Bool.or_true]
            unfold okP at hp
            have hp' : nib (w.getD (2 * j) 0) < 0 ∨ nib (w.getD (2 * j + 1) 0) < 0 := by
              rw [← Bool.not_eq_true, Bool.and_eq_true, decide_eq_true_eq, decide_eq_true_eq] at hp
              omega
            rcases hp' with hp' | hp'
            · (repeat' (first | (simp (disch := first | assumption | omega | (simp only [Fits, maxLen, pgq] at *; omega)) only [pgo, pgb, tyf, buildSliceV_w, simprocAttr, hexs, en1, en2, inlQ_ret, ofc_nil]) | ((with_reducible show callW _ _ _ _ _ _); first | refine callW_use _ (q1) rfl rfl rfl rfl ?_ | refine callW_use _ (q2) rfl rfl rfl rfl ?_) | ((first | ((with_reducible show condC _ _ _ _ _ _ _); refine cond_at (fun hc => ?_) (fun hc => ?_)) | ((with_reducible show guardC _ _ _ _ _ _ _ _); refine guard_at (fun hc => ?_) (fun hc => ?_)) | ((with_reducible show drwG _ _ _ _ _ _ _ _ _ _); refine drw_at (fun hc => ?_) (fun hc => ?_))) <;> (try simp only [hc]) <;> (try simp only [pgd] at hc)) | (with_reducible refine chk_at (by kernel_rfl) ?_)))
              all_goals exact inl_le (retV_one _ _ _) (unE_pair _ _) (unH_pair _ _) (upd_upd _ _ _ _) (by omega)
            · (repeat' (first | (simp (disch := first | assumption | omega | (simp only [Fits, maxLen, pgq] at *; omega)) only [pgo, pgb, tyf, buildSliceV_w, simprocAttr, hexs, en1, en2, inlQ_ret, ofc_nil]) | ((with_reducible show callW _ _ _ _ _ _); first | refine callW_use _ (q1) rfl rfl rfl rfl ?_ | refine callW_use _ (q2) rfl rfl rfl rfl ?_) | ((first | ((with_reducible show condC _ _ _ _ _ _ _); refine cond_at (fun hc => ?_) (fun hc => ?_)) | ((with_reducible show guardC _ _ _ _ _ _ _ _); refine guard_at (fun hc => ?_) (fun hc => ?_)) | ((with_reducible show drwG _ _ _ _ _ _ _ _ _ _); refine drw_at (fun hc => ?_) (fun hc => ?_))) <;> (try simp only [hc]) <;> (try simp only [pgd] at hc)) | (with_reducible refine chk_at (by kernel_rfl) ?_)))
              all_goals exact inl_le (retV_one _ _ _) (unE_pair _ _) (unH_pair _ _) (upd_upd _ _ _ _) (by omega)
          · have hp0 := hp
            unfold okP at hp
            rw [Bool.and_eq_true, decide_eq_true_eq, decide_eq_true_eq] at hp
            have hv := hv hp.1 hp.2
            have hnx := prs_next w j
            rcases Nat.eq_zero_or_pos j with h0 | h0
            · have eA : byA n w j = nls := by rw [h0]; rfl
              have eN : byA n w (j + 1) = .sl (.own (n + 2 * j + 1) 5) 1 [V.c (.int .u8 ((prB w j : Nat) : Int))] := by rw [h0]; rfl
              rw [eA]
              (repeat' (first | (simp (disch := first | assumption | omega | (simp only [Fits, maxLen, pgq] at *; omega)) only [pgo, pgb, tyf, buildSliceV_w, simprocAttr, hexs, en1, en2, hv, hP, hBx]) | ((with_reducible show callW _ _ _ _ _ _); first | refine callW_use _ (q1) rfl rfl rfl rfl ?_ | refine callW_use _ (q2) rfl rfl rfl rfl ?_) | ((first | ((with_reducible show condC _ _ _ _ _ _ _); refine cond_at (fun hc => ?_) (fun hc => ?_)) | ((with_reducible show guardC _ _ _ _ _ _ _ _); refine guard_at (fun hc => ?_) (fun hc => ?_)) | ((with_reducible show drwG _ _ _ _ _ _ _ _ _ _); refine drw_at (fun hc => ?_) (fun hc => ?_))) <;> (try simp only [hc]) <;> (try simp only [pgd] at hc)) | (with_reducible refine chk_at (by kernel_rfl) ?_)))
              refine back_E (j + 1) ⟨hlt, by rw [okB_next, hok, hp0]; rfl⟩ (by omega) ?_ (fun _ => .inl rfl) (by first | omega | (split <;> omega))
              ((try simp only [EnvIs_cons, EnvIs_nil, finE_at, finE_nil, pgo, simprocAttr, and_true, true_and, eN]); try (repeat' (first | exact trivial | rfl | apply And.intro)))
            · have eA : byA n w j = .sl (.own (n + 1) 5) 1 (bv (prs w j)) := by cases j with | zero => omega | succ j => rfl
              have eN : byA n w (j + 1) = .sl (.own (n + 1) 5) 1 (bv (prs w j) ++ [V.c (.int .u8 ((prB w j : Nat) : Int))]) := by show V.sl _ _ _ = _; rw [hnx, ← bv_app]; rfl
              rw [eA]
              (repeat' (first | (simp (disch := first | assumption | omega | (simp only [Fits, maxLen, pgq] at *; omega)) only [pgo, pgb, tyf, buildSliceV_w, simprocAttr, hexs, en1, en2, hv, hP, hBx]) | ((with_reducible show callW _ _ _ _ _ _); first | refine callW_use _ (q1) rfl rfl rfl rfl ?_ | refine callW_use _ (q2) rfl rfl rfl rfl ?_) | ((first | ((with_reducible show condC _ _ _ _ _ _ _); refine cond_at (fun hc => ?_) (fun hc => ?_)) | ((with_reducible show guardC _ _ _ _ _ _ _ _); refine guard_at (fun hc => ?_) (fun hc => ?_)) | ((with_reducible show drwG _ _ _ _ _ _ _ _ _ _); refine drw_at (fun hc => ?_) (fun hc => ?_))) <;> (try simp only [hc]) <;> (try simp only [pgd] at hc)) | (with_reducible refine chk_at (by kernel_rfl) ?_)))
              refine back_E (j + 1) ⟨hlt, by rw [okB_next, hok, hp0]; rfl⟩ (by omega) ?_ (fun _ => .inl rfl) (by first | omega | (split <;> omega))
              ((try simp only [EnvIs_cons, EnvIs_nil, finE_at, finE_nil, pgo, simprocAttr, and_true, true_and, eN]); try (repeat' (first | exact trivial | rfl | apply And.intro)))
        · have hjn : j = w.length / 2 := by omega
          have hbb : bbad w = (decide (w = []) || decide (w.length % 2 ≠ 0)) := by unfold bbad; rw [if_neg h45, ← hjn, hok, if_pos rfl]
          have hbr : byR n w = byA n w j := by
            unfold byR byV
            rw [if_neg h45, ← hjn, hok, if_pos rfl]
            cases j with
            | zero => rfl
            | succ j => rw [if_neg (by intro h; have := prs_len w (j + 1); rw [h] at this; simp at this)]; rfl
          have e5 : (w.length : Int).tmod 2 = ((w.length % 2 : Nat) : Int) := rfl
          have hsn : decide (sB w = sB []) = decide (w = []) := nilS w ho
          rw [hbb, hbr]
          cases d
          · by_cases hw0 : w = []
            · rw [decide_eq_true hw0] at hsn ⊢
              (repeat' (first | (simp (disch := first | assumption | omega | (simp only [Fits, maxLen, pgq] at *; omega)) only [pgo, pgb, tyf, buildSliceV_w, simprocAttr, str_nil, e5, hsn, inlQ_ret]) | ((first | ((with_reducible show condC _ _ _ _ _ _ _); refine cond_at (fun hc => ?_) (fun hc => ?_)) | ((with_reducible show guardC _ _ _ _ _ _ _ _); refine guard_at (fun hc => ?_) (fun hc => ?_)) | ((with_reducible show drwG _ _ _ _ _ _ _ _ _ _); refine drw_at (fun hc => ?_) (fun hc => ?_))) <;> (try simp only [hc]) <;> (try simp only [pgd] at hc)) | (with_reducible refine chk_at (by kernel_rfl) ?_)))
              all_goals exact inl_le (retV_one _ _ _) (unE_pair _ _) (unH_pair _ _) (upd_upd _ _ _ _) (by omega)
            · rw [decide_eq_false hw0] at hsn ⊢
              by_cases hodd : w.length % 2 = 0
              · rw [decide_eq_false (by omega : ¬ w.length % 2 ≠ 0)]
                (repeat' (first | (simp (disch := first | assumption | omega | (simp only [Fits, maxLen, pgq] at *; omega)) only [pgo, pgb, tyf, buildSliceV_w, simprocAttr, str_nil, e5, hsn, hodd, inlQ_ret]) | ((first | ((with_reducible show condC _ _ _ _ _ _ _); refine cond_at (fun hc => ?_) (fun hc => ?_)) | ((with_reducible show guardC _ _ _ _ _ _ _ _); refine guard_at (fun hc => ?_) (fun hc => ?_)) | ((with_reducible show drwG _ _ _ _ _ _ _ _ _ _); refine drw_at (fun hc => ?_) (fun hc => ?_))) <;> (try simp only [hc]) <;> (try simp only [pgd] at hc)) | (with_reducible refine chk_at (by kernel_rfl) ?_)))
                all_goals exact inl_le (retV_one _ _ _) (unE_pair _ _) (unH_pair _ _) (upd_upd _ _ _ _) (by omega)
              · rw [decide_eq_true (by omega : w.length % 2 ≠ 0)]
                have ho1 : w.length % 2 = 1 := by omega
                (repeat' (first | (simp (disch := first | assumption | omega | (simp only [Fits, maxLen, pgq] at *; omega)) only [pgo, pgb, tyf, buildSliceV_w, simprocAttr, str_nil, e5, hsn, ho1, inlQ_ret]) | ((first | ((with_reducible show condC _ _ _ _ _ _ _); refine cond_at (fun hc => ?_) (fun hc => ?_)) | ((with_reducible show guardC _ _ _ _ _ _ _ _); refine guard_at (fun hc => ?_) (fun hc => ?_)) | ((with_reducible show drwG _ _ _ _ _ _ _ _ _ _); refine drw_at (fun hc => ?_) (fun hc => ?_))) <;> (try simp only [hc]) <;> (try simp only [pgd] at hc)) | (with_reducible refine chk_at (by kernel_rfl) ?_)))
                all_goals exact inl_le (retV_one _ _ _) (unE_pair _ _) (unH_pair _ _) (upd_upd _ _ _ _) (by omega)
          · (repeat' (first | (simp (disch := first | assumption | omega | (simp only [Fits, maxLen, pgq] at *; omega)) only [pgo, pgb, tyf, buildSliceV_w, simprocAttr, str_nil, e5, hsn, inlQ_ret]) | ((first | ((with_reducible show condC _ _ _ _ _ _ _); refine cond_at (fun hc => ?_) (fun hc => ?_)) | ((with_reducible show guardC _ _ _ _ _ _ _ _); refine guard_at (fun hc => ?_) (fun hc => ?_)) | ((with_reducible show drwG _ _ _ _ _ _ _ _ _ _); refine drw_at (fun hc => ?_) (fun hc => ?_))) <;> (try simp only [hc]) <;> (try simp only [pgd] at hc)) | (with_reducible refine chk_at (by kernel_rfl) ?_)))
            all_goals exact inl_le (retV_one _ _ _) (unE_pair _ _) (unH_pair _ _) (upd_upd _ _ _ _) (by omega)
  obtain ⟨n', k1, k2⟩ := key
  exact k1.le k2 (fun _ => .inl rfl)
end Go.Proofs.YtjiolbcdfgclaaaGreatDoor
end

section
/-
  Scripts: ParseOp and event at the sanity check's lines.
-/
namespace Go.Proofs.YtjiolbcdfgclaaaGreatDoor
open Go Go.Pg
set_option maxRecDepth 100000
set_option linter.unusedSimpArgs false
set_option linter.unusedVariables false

/-- An operation of a kind, all fields zero. -/
def O0 (k : Int) : O := ⟨k, [], [], [], 0, 0, 0, 0, [], [], 0, 0, 0, 0, 0, 0, 0, [], 0, 0, 0, []⟩
theorem O0_oct (k : Int) : (O0 k).Oct := ⟨oct_nil, oct_nil, (fun _ h => by cases h), (fun _ h => by cases h), oct_nil, oct_nil, oct_nil⟩
theorem vop_list : vop (O0 4) = 0 := by decide
theorem g_ValList : Pg.Good Tryz.prog 38 [.agg (op0 4)] (vi 0) := by
  have h := g_Validate (O0 4) (O0_oct 4)
  rw [vop_list] at h
  refine h.wk ⟨.inr ⟨_, _, rfl, rfl, ?_⟩, trivial⟩
  (repeat' (first | exact trivial | refine wkL_cons (.inl rfl) ?_ | refine wkL_cons (wk_nil _ _) ?_))
theorem g_ParseList : Pg.Good Tryz.prog 15 [fzs [[108, 105, 115, 116]]] (.tup [.agg (op0 4), vi 0]) := by
  have hv := g_ValList
  refine good_intro (drawW_ok mix) Tryz.func15 rfl Tryz.results15 rfl (by kernel_rfl) (Nat.le_of_ble_eq_true (by kernel_rfl)) ?_
  (repeat' (first | (simp (disch := first | assumption | omega | (simp only [Fits, maxLen, pgq] at *; omega)) only [pgo, pgb, tyf, buildSliceV_w, simprocAttr, Tryz.f15, str_nil]) | ((with_reducible show callW _ _ _ _ _ _); first | refine callW_use _ (hv) rfl rfl rfl rfl ?_ | refine callZ _ (g_opList _ _ _ _ 1 rfl (by omega)) rfl ?_) | ((first | ((with_reducible show condC _ _ _ _ _ _ _); refine cond_at (fun hc => ?_) (fun hc => ?_)) | ((with_reducible show guardC _ _ _ _ _ _ _ _); refine guard_at (fun hc => ?_) (fun hc => ?_)) | ((with_reducible show drwG _ _ _ _ _ _ _ _ _ _); refine drw_at (fun hc => ?_) (fun hc => ?_))) <;> (try simp only [hc]) <;> (try simp only [pgd] at hc)) | (with_reducible refine chk_at (by kernel_rfl) ?_)))
  (refine ret_at [] _ (by first | exact retV_one _ _ _ | exact retV_two _ _ _ _ | exact retV_three _ _ _ _ _ | exact retV_four _ _ _ _ _ _ | (simp (disch := first | assumption | omega | (simp only [Fits, maxLen, pgq] at *; omega)) only [pgr, pgo, tyf, simprocAttr]; rfl)) (by decide) (by simp only [pgo, simprocAttr]) ?_; (first | rfl | simp only [pgo, simprocAttr]))
end Go.Proofs.YtjiolbcdfgclaaaGreatDoor
end
