/-
  Texts of this claim, merged; own names are short.
-/
import Derived.Test.YtiohdbjggmmjcaaGreatWAW
import Derived.Test.YtiohdbjggmmjcaaGreatWAX
import Derived.Test.YtiohdbjggmmjcaaGreatWBG
import Derived.Test.YtiohdbjggmmjcaaGreatWBJ
import Derived.Test.YtiohdbjggmmjcaaGreatWBF
import Derived.Test.YtiohdbjggmmjcaaGreatWBE
import Derived.ChangeSlices
import Derived.DataReads
import Derived.Test.YtiohdbjggmmjcaaGreatWAM
set_option linter.unusedVariables false
set_option linter.unusedSimpArgs false
set_option linter.unusedSectionVars false
set_option linter.defProp false
set_option maxRecDepth 100000
set_option maxHeartbeats 8000000
namespace Go.Proofs.YtiohdbjggmmjcaaGreat
open Go Go.Pg
theorem yx {s : Sk} (h : vSk s = 0) : aN s = s := by
 have h1 : fH s (aN s) = true := by
  unfold vSk at h
  split at h
  ·rename_i q; exact absurd h q
  ·split at h
   ·rename_i q; exact absurd h q
   ·split at h
    ·split at h
     ·rename_i q; exact q
     ·cases h
    ·cases h
 generalize aN s = o at *
 obtain ⟨⟨pk, pz, pd, ps⟩, ⟨t1, t2, t3⟩, ⟨c1, c2, c3, c4, c5⟩, ⟨l1, l2, l3⟩, ⟨e1, e2, e3, e4⟩, ⟨f1, f2, f3, f4, f5⟩, ⟨r1, r2, r3, r4, r5⟩⟩ := s
 obtain ⟨⟨_, _, _, _⟩, ⟨_, _, _⟩, ⟨_, _, _, _, _⟩, ⟨_, _, _⟩, ⟨_, _, _, _⟩, ⟨_, _, _, _, _⟩, ⟨_, _, _, _, _⟩⟩ := o
 unfold fH qM qN qO qP qQ at h1
 simp only [Bool.and_eq_true, decide_eq_true_eq] at h1
 simp only [samP, samT] at h1
 obtain ⟨⟨rfl, rfl, rfl, rfl⟩, ⟨rfl, rfl, rfl⟩, ⟨rfl, rfl, rfl, rfl, rfl⟩, ⟨rfl, rfl, rfl⟩, ⟨rfl, rfl, rfl, rfl⟩, ⟨rfl, rfl, rfl, rfl, rfl⟩, rfl, rfl, rfl, rfl, rfl⟩ := h1
 rfl
theorem lF (n : Int) : Pg.Good Tryz.prog 24 [vi n] (vb (decide (0 ≤ n ∧ n ≤ 1073741824))) := by
 by_cases h1 : 0 ≤ n
 ·by_cases h2 : n ≤ 1073741824
  ·rw [decide_eq_true ⟨h1, h2⟩]
   refine aK (dw mix) Tryz.func24 rfl Tryz.results24 rfl (by kernel_rfl) (Nat.le_of_ble_eq_true (by kernel_rfl)) ?_
   (repeat' (first | (simp (disch := first | assumption | omega | (simp only [Fits, maxLen, pgq] at *; omega)) only [pgo, pgb, tyf, ae, simprocAttr, Tryz.f24]) | ((first | ((with_reducible show aB _ _ _ _ _ _ _); refine aj (fun hc => ?_) (fun hc => ?_)) | ((with_reducible show ax _ _ _ _ _ _ _ _); refine ai (fun hc => ?_) (fun hc => ?_)) | ((with_reducible show aU _ _ _ _ _ _ _ _ _ _); refine ak (fun hc => ?_) (fun hc => ?_))) <;> (try simp only [hc]) <;> (try simp only [pgd] at hc)) | (with_reducible refine az (by kernel_rfl) ?_)))
   (refine bZ [] _ (by first | exact aW _ _ _ | exact bD _ _ _ _ | exact aS _ _ _ _ _ | exact aY _ _ _ _ _ _ | (simp (disch := first | assumption | omega | (simp only [Fits, maxLen, pgq] at *; omega)) only [pgr, pgo, tyf, simprocAttr]; rfl)) (by decide) (by simp only [pgo, simprocAttr]) ?_; (first | rfl | simp only [pgo, simprocAttr] | skip))
  ·rw [decide_eq_false (fun h => h2 h.2)]
   refine aK (dw mix) Tryz.func24 rfl Tryz.results24 rfl (by kernel_rfl) (Nat.le_of_ble_eq_true (by kernel_rfl)) ?_
   (repeat' (first | (simp (disch := first | assumption | omega | (simp only [Fits, maxLen, pgq] at *; omega)) only [pgo, pgb, tyf, ae, simprocAttr, Tryz.f24]) | ((first | ((with_reducible show aB _ _ _ _ _ _ _); refine aj (fun hc => ?_) (fun hc => ?_)) | ((with_reducible show ax _ _ _ _ _ _ _ _); refine ai (fun hc => ?_) (fun hc => ?_)) | ((with_reducible show aU _ _ _ _ _ _ _ _ _ _); refine ak (fun hc => ?_) (fun hc => ?_))) <;> (try simp only [hc]) <;> (try simp only [pgd] at hc)) | (with_reducible refine az (by kernel_rfl) ?_)))
   (refine bZ [] _ (by first | exact aW _ _ _ | exact bD _ _ _ _ | exact aS _ _ _ _ _ | exact aY _ _ _ _ _ _ | (simp (disch := first | assumption | omega | (simp only [Fits, maxLen, pgq] at *; omega)) only [pgr, pgo, tyf, simprocAttr]; rfl)) (by decide) (by simp only [pgo, simprocAttr]) ?_; (first | rfl | simp only [pgo, simprocAttr] | skip))
 ·rw [decide_eq_false (fun h => h1 h.1)]
  refine aK (dw mix) Tryz.func24 rfl Tryz.results24 rfl (by kernel_rfl) (Nat.le_of_ble_eq_true (by kernel_rfl)) ?_
  (repeat' (first | (simp (disch := first | assumption | omega | (simp only [Fits, maxLen, pgq] at *; omega)) only [pgo, pgb, tyf, ae, simprocAttr, Tryz.f24]) | ((first | ((with_reducible show aB _ _ _ _ _ _ _); refine aj (fun hc => ?_) (fun hc => ?_)) | ((with_reducible show ax _ _ _ _ _ _ _ _); refine ai (fun hc => ?_) (fun hc => ?_)) | ((with_reducible show aU _ _ _ _ _ _ _ _ _ _); refine ak (fun hc => ?_) (fun hc => ?_))) <;> (try simp only [hc]) <;> (try simp only [pgd] at hc)) | (with_reducible refine az (by kernel_rfl) ?_)))
  (refine bZ [] _ (by first | exact aW _ _ _ | exact bD _ _ _ _ | exact aS _ _ _ _ _ | exact aY _ _ _ _ _ _ | (simp (disch := first | assumption | omega | (simp only [Fits, maxLen, pgq] at *; omega)) only [pgr, pgo, tyf, simprocAttr]; rfl)) (by decide) (by simp only [pgo, simprocAttr]) ?_; (first | rfl | simp only [pgo, simprocAttr] | skip))
theorem GN (s : Sk) (ok : s.Ok) (k : List Nat) (w : Int) (co : List Nat) (at' : Int) (ho : oct k) (hco : oct co) (h : vSk s = 0) (hi : bT k w = 0) (ha : 0 ≤ at' ∧ at' ≤ 1073741824) (hk : s.p.k = 1) : Pg.Good Tryz.prog 10 [.agg (skF s), .agg [vs k, vi w], fzb co, vi at'] (.tup [.agg (skF (bg s k w co at').1), vi (bg s k w co at').2.1, vi (bg s k w co at').2.2]) := by
 have h1 := jo s ok
 rw [h] at h1
 have h2 := bz k w
 rw [hi] at h2
 have h3 := lF at'
 rw [decide_eq_true ha] at h3
 have h4 := O1 s.tl k w
 have e : bg s k w co at' = (⟨s.p, (rV s.tl k w).1, s.cm, s.ll, s.tp, s.fq, s.rk⟩, at', 0) := by
  unfold bg
  rw [if_neg (by omega), if_neg (by omega), if_neg (fun h => h ha)]
  simp [hk]
 have hs := yx h
 have e1 : s.cm = Cm.o := by have := congrArg Sk.cm hs; simp only [aN, hk] at this; exact this.symm
 have e2 : s.ll = Ll.o := by have := congrArg Sk.ll hs; simp only [aN, hk] at this; exact this.symm
 have e3 : s.tp = Tp.o := by have := congrArg Sk.tp hs; simp only [aN, hk] at this; exact this.symm
 have e4 : s.fq = Fq.o := by have := congrArg Sk.fq hs; simp only [aN, hk] at this; exact this.symm
 have e5 : s.rk = Rk.o := by have := congrArg Sk.rk hs; simp only [aN, hk] at this; exact this.symm
 rw [e]
 clear hs
 rw [e1, e2, e3, e4, e5]
 generalize rV s.tl k w = I at *
 refine Good.fzt (vs := [.agg (skC ⟨s.p, I.1, Cm.o, Ll.o, Tp.o, Fq.o, Rk.o⟩ nls nls nls nls nls), vi at', vi 0]) ?_ rfl ⟨iy ⟨s.p, I.1, Cm.o, Ll.o, Tp.o, Fq.o, Rk.o⟩ (aX _) (aX _) (aX _) (aX _) (aX _), aH _, aH _, trivial⟩
 clear ok e e1 e2 e3 e4 e5
 obtain ⟨⟨pk, pz, pd, ps⟩, ⟨t1, t2, t3⟩, ⟨c1, c2, c3, c4, c5⟩, ⟨l1, l2, l3⟩, ⟨e1, e2, e3, e4⟩, ⟨f1, f2, f3, f4, f5⟩, ⟨r1, r2, r3, r4, r5⟩⟩ := s
 obtain ⟨⟨i1, i2, i3⟩, i6⟩ := I
 simp only at *
 subst hk
 refine aK (dw mix) Tryz.func10 rfl Tryz.results10 rfl (by kernel_rfl) (Nat.le_of_ble_eq_true (by kernel_rfl)) ?_
 (repeat' (first | (simp (disch := first | assumption | omega | (simp only [Fits, maxLen, pgq] at *; omega)) only [pgo, pgb, tyf, ae, simprocAttr, Tryz.f10]) | ((with_reducible show bU _ _ _ _ _ _); first | refine ah _ (h1) rfl rfl rfl rfl ?_ | refine ah _ (h2) rfl rfl rfl rfl ?_ | refine ah _ (h3) rfl rfl rfl rfl ?_ | refine ah _ (h4) rfl rfl rfl rfl ?_) | ((first | ((with_reducible show aB _ _ _ _ _ _ _); refine aj (fun hc => ?_) (fun hc => ?_)) | ((with_reducible show ax _ _ _ _ _ _ _ _); refine ai (fun hc => ?_) (fun hc => ?_)) | ((with_reducible show aU _ _ _ _ _ _ _ _ _ _); refine ak (fun hc => ?_) (fun hc => ?_))) <;> (try simp only [hc]) <;> (try simp only [pgd] at hc)) | (with_reducible refine az (by kernel_rfl) ?_)))
 (refine bZ [] _ (by first | exact aW _ _ _ | exact bD _ _ _ _ | exact aS _ _ _ _ _ | exact aY _ _ _ _ _ _ | (simp (disch := first | assumption | omega | (simp only [Fits, maxLen, pgq] at *; omega)) only [pgr, pgo, tyf, simprocAttr]; rfl)) (by decide) (by simp only [pgo, simprocAttr]) ?_; (first | rfl | simp only [pgo, simprocAttr] | skip))
theorem GR (s : Sk) (ok : s.Ok) (k : List Nat) (w : Int) (co : List Nat) (at' : Int) (ho : oct k) (hco : oct co) (h : vSk s = 0) (hi : bT k w = 0) (ha : 0 ≤ at' ∧ at' ≤ 1073741824) (hk : s.p.k = 2) : Pg.Good Tryz.prog 10 [.agg (skF s), .agg [vs k, vi w], fzb co, vi at'] (.tup [.agg (skF (bg s k w co at').1), vi (bg s k w co at').2.1, vi (bg s k w co at').2.2]) := by
 have h1 := jo s ok
 rw [h] at h1
 have h2 := bz k w
 rw [hi] at h2
 have h3 := lF at'
 rw [decide_eq_true ha] at h3
 have h4 := abZ s.cm k w ho
 have e : bg s k w co at' = (⟨s.p, s.tl, (nH s.cm k w).1, s.ll, s.tp, s.fq, s.rk⟩, at', 0) := by
  unfold bg
  rw [if_neg (by omega), if_neg (by omega), if_neg (fun h => h ha)]
  simp [hk]
 have hs := yx h
 have e0 : s.tl = Tl.o := by have := congrArg Sk.tl hs; simp only [aN, hk] at this; exact this.symm
 have e2 : s.ll = Ll.o := by have := congrArg Sk.ll hs; simp only [aN, hk] at this; exact this.symm
 have e3 : s.tp = Tp.o := by have := congrArg Sk.tp hs; simp only [aN, hk] at this; exact this.symm
 have e4 : s.fq = Fq.o := by have := congrArg Sk.fq hs; simp only [aN, hk] at this; exact this.symm
 have e5 : s.rk = Rk.o := by have := congrArg Sk.rk hs; simp only [aN, hk] at this; exact this.symm
 rw [e]
 clear hs
 rw [e0, e2, e3, e4, e5]
 generalize nH s.cm k w = I at *
 refine Good.fzt (vs := [.agg (skC ⟨s.p, Tl.o, I.1, Ll.o, Tp.o, Fq.o, Rk.o⟩ (fzi I.1.c) nls nls nls nls), vi at', vi 0]) ?_ rfl ⟨iy ⟨s.p, Tl.o, I.1, Ll.o, Tp.o, Fq.o, Rk.o⟩ (nK _) (aX _) (aX _) (aX _) (aX _), aH _, aH _, trivial⟩
 clear ok e e0 e2 e3 e4 e5
 obtain ⟨⟨pk, pz, pd, ps⟩, ⟨t1, t2, t3⟩, ⟨c1, c2, c3, c4, c5⟩, ⟨l1, l2, l3⟩, ⟨e1, e2, e3, e4⟩, ⟨f1, f2, f3, f4, f5⟩, ⟨r1, r2, r3, r4, r5⟩⟩ := s
 obtain ⟨⟨i1, i2, i3, i4, i5⟩, i6⟩ := I
 simp only at *
 subst hk
 refine aK (dw mix) Tryz.func10 rfl Tryz.results10 rfl (by kernel_rfl) (Nat.le_of_ble_eq_true (by kernel_rfl)) ?_
 (repeat' (first | (simp (disch := first | assumption | omega | (simp only [Fits, maxLen, pgq] at *; omega)) only [pgo, pgb, tyf, ae, simprocAttr, Tryz.f10]) | ((with_reducible show bU _ _ _ _ _ _); first | refine ah _ (h1) rfl rfl rfl rfl ?_ | refine ah _ (h2) rfl rfl rfl rfl ?_ | refine ah _ (h3) rfl rfl rfl rfl ?_ | refine ah _ (h4) rfl rfl rfl rfl ?_) | ((first | ((with_reducible show aB _ _ _ _ _ _ _); refine aj (fun hc => ?_) (fun hc => ?_)) | ((with_reducible show ax _ _ _ _ _ _ _ _); refine ai (fun hc => ?_) (fun hc => ?_)) | ((with_reducible show aU _ _ _ _ _ _ _ _ _ _); refine ak (fun hc => ?_) (fun hc => ?_))) <;> (try simp only [hc]) <;> (try simp only [pgd] at hc)) | (with_reducible refine az (by kernel_rfl) ?_)))
 (refine bZ [] _ (by first | exact aW _ _ _ | exact bD _ _ _ _ | exact aS _ _ _ _ _ | exact aY _ _ _ _ _ _ | (simp (disch := first | assumption | omega | (simp only [Fits, maxLen, pgq] at *; omega)) only [pgr, pgo, tyf, simprocAttr]; rfl)) (by decide) (by simp only [pgo, simprocAttr]) ?_; (first | rfl | simp only [pgo, simprocAttr] | skip))
theorem GU (s : Sk) (ok : s.Ok) (k : List Nat) (w : Int) (co : List Nat) (at' : Int) (ho : oct k) (hco : oct co) (h : vSk s = 0) (hi : bT k w = 0) (ha : 0 ≤ at' ∧ at' ≤ 1073741824) (hk : s.p.k = 3) : Pg.Good Tryz.prog 10 [.agg (skF s), .agg [vs k, vi w], fzb co, vi at'] (.tup [.agg (skF (bg s k w co at').1), vi (bg s k w co at').2.1, vi (bg s k w co at').2.2]) := by
 have h1 := jo s ok
 rw [h] at h1
 have h2 := bz k w
 rw [hi] at h2
 have h3 := lF at'
 rw [decide_eq_true ha] at h3
 have h4 := abW s.ll k w ho ok.ln
 have e : bg s k w co at' = (⟨s.p, s.tl, s.cm, (lN s.ll k w).1, s.tp, s.fq, s.rk⟩, at', 0) := by
  unfold bg
  rw [if_neg (by omega), if_neg (by omega), if_neg (fun h => h ha)]
  simp [hk]
 have hs := yx h
 have e0 : s.tl = Tl.o := by have := congrArg Sk.tl hs; simp only [aN, hk] at this; exact this.symm
 have e1 : s.cm = Cm.o := by have := congrArg Sk.cm hs; simp only [aN, hk] at this; exact this.symm
 have e3 : s.tp = Tp.o := by have := congrArg Sk.tp hs; simp only [aN, hk] at this; exact this.symm
 have e4 : s.fq = Fq.o := by have := congrArg Sk.fq hs; simp only [aN, hk] at this; exact this.symm
 have e5 : s.rk = Rk.o := by have := congrArg Sk.rk hs; simp only [aN, hk] at this; exact this.symm
 rw [e]
 clear hs
 rw [e0, e1, e3, e4, e5]
 generalize lN s.ll k w = I at *
 refine Good.fzt (vs := [.agg (skC ⟨s.p, Tl.o, Cm.o, I.1, Tp.o, Fq.o, Rk.o⟩ nls (fzi I.1.r) nls nls nls), vi at', vi 0]) ?_ rfl ⟨iy ⟨s.p, Tl.o, Cm.o, I.1, Tp.o, Fq.o, Rk.o⟩ (aX _) (nK _) (aX _) (aX _) (aX _), aH _, aH _, trivial⟩
 clear ok e e0 e1 e3 e4 e5
 obtain ⟨⟨pk, pz, pd, ps⟩, ⟨t1, t2, t3⟩, ⟨c1, c2, c3, c4, c5⟩, ⟨l1, l2, l3⟩, ⟨e1, e2, e3, e4⟩, ⟨f1, f2, f3, f4, f5⟩, ⟨r1, r2, r3, r4, r5⟩⟩ := s
 obtain ⟨⟨i1, i2, i3⟩, i6⟩ := I
 simp only at *
 subst hk
 refine aK (dw mix) Tryz.func10 rfl Tryz.results10 rfl (by kernel_rfl) (Nat.le_of_ble_eq_true (by kernel_rfl)) ?_
 (repeat' (first | (simp (disch := first | assumption | omega | (simp only [Fits, maxLen, pgq] at *; omega)) only [pgo, pgb, tyf, ae, simprocAttr, Tryz.f10]) | ((with_reducible show bU _ _ _ _ _ _); first | refine ah _ (h1) rfl rfl rfl rfl ?_ | refine ah _ (h2) rfl rfl rfl rfl ?_ | refine ah _ (h3) rfl rfl rfl rfl ?_ | refine ah _ (h4) rfl rfl rfl rfl ?_) | ((first | ((with_reducible show aB _ _ _ _ _ _ _); refine aj (fun hc => ?_) (fun hc => ?_)) | ((with_reducible show ax _ _ _ _ _ _ _ _); refine ai (fun hc => ?_) (fun hc => ?_)) | ((with_reducible show aU _ _ _ _ _ _ _ _ _ _); refine ak (fun hc => ?_) (fun hc => ?_))) <;> (try simp only [hc]) <;> (try simp only [pgd] at hc)) | (with_reducible refine az (by kernel_rfl) ?_)))
 (refine bZ [] _ (by first | exact aW _ _ _ | exact bD _ _ _ _ | exact aS _ _ _ _ _ | exact aY _ _ _ _ _ _ | (simp (disch := first | assumption | omega | (simp only [Fits, maxLen, pgq] at *; omega)) only [pgr, pgo, tyf, simprocAttr]; rfl)) (by decide) (by simp only [pgo, simprocAttr]) ?_; (first | rfl | simp only [pgo, simprocAttr] | skip))
theorem GV (s : Sk) (ok : s.Ok) (k : List Nat) (w : Int) (co : List Nat) (at' : Int) (ho : oct k) (hco : oct co) (h : vSk s = 0) (hi : bT k w = 0) (ha : 0 ≤ at' ∧ at' ≤ 1073741824) (hk : s.p.k = 4) : Pg.Good Tryz.prog 10 [.agg (skF s), .agg [vs k, vi w], fzb co, vi at'] (.tup [.agg (skF (bg s k w co at').1), vi (bg s k w co at').2.1, vi (bg s k w co at').2.2]) := by
 have h1 := jo s ok
 rw [h] at h1
 have h2 := bz k w
 rw [hi] at h2
 have h3 := lF at'
 rw [decide_eq_true ha] at h3
 have h4 := acJ s.tp k w ho ok.to ok.tn
 have e : bg s k w co at' = (⟨s.p, s.tl, s.cm, s.ll, (oz s.tp k w).1, s.fq, s.rk⟩, at', 0) := by
  unfold bg
  rw [if_neg (by omega), if_neg (by omega), if_neg (fun h => h ha)]
  simp [hk]
 have hs := yx h
 have e0 : s.tl = Tl.o := by have := congrArg Sk.tl hs; simp only [aN, hk] at this; exact this.symm
 have e1 : s.cm = Cm.o := by have := congrArg Sk.cm hs; simp only [aN, hk] at this; exact this.symm
 have e2 : s.ll = Ll.o := by have := congrArg Sk.ll hs; simp only [aN, hk] at this; exact this.symm
 have e4 : s.fq = Fq.o := by have := congrArg Sk.fq hs; simp only [aN, hk] at this; exact this.symm
 have e5 : s.rk = Rk.o := by have := congrArg Sk.rk hs; simp only [aN, hk] at this; exact this.symm
 rw [e]
 clear hs
 rw [e0, e1, e2, e4, e5]
 generalize oz s.tp k w = I at *
 refine Good.fzt (vs := [.agg (skC ⟨s.p, Tl.o, Cm.o, Ll.o, I.1, Fq.o, Rk.o⟩ nls nls (fzv I.1.e) nls nls), vi at', vi 0]) ?_ rfl ⟨iy ⟨s.p, Tl.o, Cm.o, Ll.o, I.1, Fq.o, Rk.o⟩ (aX _) (aX _) (nK _) (aX _) (aX _), aH _, aH _, trivial⟩
 clear ok e e0 e1 e2 e4 e5
 obtain ⟨⟨pk, pz, pd, ps⟩, ⟨t1, t2, t3⟩, ⟨c1, c2, c3, c4, c5⟩, ⟨l1, l2, l3⟩, ⟨e1, e2, e3, e4⟩, ⟨f1, f2, f3, f4, f5⟩, ⟨r1, r2, r3, r4, r5⟩⟩ := s
 obtain ⟨⟨i1, i2, i3, i4⟩, i6⟩ := I
 simp only at *
 subst hk
 refine aK (dw mix) Tryz.func10 rfl Tryz.results10 rfl (by kernel_rfl) (Nat.le_of_ble_eq_true (by kernel_rfl)) ?_
 (repeat' (first | (simp (disch := first | assumption | omega | (simp only [Fits, maxLen, pgq] at *; omega)) only [pgo, pgb, tyf, ae, simprocAttr, Tryz.f10]) | ((with_reducible show bU _ _ _ _ _ _); first | refine ah _ (h1) rfl rfl rfl rfl ?_ | refine ah _ (h2) rfl rfl rfl rfl ?_ | refine ah _ (h3) rfl rfl rfl rfl ?_ | refine ah _ (h4) rfl rfl rfl rfl ?_) | ((first | ((with_reducible show aB _ _ _ _ _ _ _); refine aj (fun hc => ?_) (fun hc => ?_)) | ((with_reducible show ax _ _ _ _ _ _ _ _); refine ai (fun hc => ?_) (fun hc => ?_)) | ((with_reducible show aU _ _ _ _ _ _ _ _ _ _); refine ak (fun hc => ?_) (fun hc => ?_))) <;> (try simp only [hc]) <;> (try simp only [pgd] at hc)) | (with_reducible refine az (by kernel_rfl) ?_)))
 (refine bZ [] _ (by first | exact aW _ _ _ | exact bD _ _ _ _ | exact aS _ _ _ _ _ | exact aY _ _ _ _ _ _ | (simp (disch := first | assumption | omega | (simp only [Fits, maxLen, pgq] at *; omega)) only [pgr, pgo, tyf, simprocAttr]; rfl)) (by decide) (by simp only [pgo, simprocAttr]) ?_; (first | rfl | simp only [pgo, simprocAttr] | skip))
theorem GX (s : Sk) (ok : s.Ok) (k : List Nat) (w : Int) (co : List Nat) (at' : Int) (ho : oct k) (hco : oct co) (h : vSk s = 0) (hi : bT k w = 0) (ha : 0 ≤ at' ∧ at' ≤ 1073741824) (hk : s.p.k = 5) : Pg.Good Tryz.prog 10 [.agg (skF s), .agg [vs k, vi w], fzb co, vi at'] (.tup [.agg (skF (bg s k w co at').1), vi (bg s k w co at').2.1, vi (bg s k w co at').2.2]) := by
 have h1 := jo s ok
 rw [h] at h1
 have h2 := bz k w
 rw [hi] at h2
 have h3 := lF at'
 rw [decide_eq_true ha] at h3
 have h4 := acR s.fq k w ho ok.fo ok.fn
 have e : bg s k w co at' = (⟨s.p, s.tl, s.cm, s.ll, s.tp, (lU s.fq k w).1, s.rk⟩, at', 0) := by
  unfold bg
  rw [if_neg (by omega), if_neg (by omega), if_neg (fun h => h ha)]
  simp [hk]
 have hs := yx h
 have e0 : s.tl = Tl.o := by have := congrArg Sk.tl hs; simp only [aN, hk] at this; exact this.symm
 have e1 : s.cm = Cm.o := by have := congrArg Sk.cm hs; simp only [aN, hk] at this; exact this.symm
 have e2 : s.ll = Ll.o := by have := congrArg Sk.ll hs; simp only [aN, hk] at this; exact this.symm
 have e3 : s.tp = Tp.o := by have := congrArg Sk.tp hs; simp only [aN, hk] at this; exact this.symm
 have e5 : s.rk = Rk.o := by have := congrArg Sk.rk hs; simp only [aN, hk] at this; exact this.symm
 rw [e]
 clear hs
 rw [e0, e1, e2, e3, e5]
 generalize lU s.fq k w = I at *
 refine Good.fzt (vs := [.agg (skC ⟨s.p, Tl.o, Cm.o, Ll.o, Tp.o, I.1, Rk.o⟩ nls nls nls (fzv I.1.e) nls), vi at', vi 0]) ?_ rfl ⟨iy ⟨s.p, Tl.o, Cm.o, Ll.o, Tp.o, I.1, Rk.o⟩ (aX _) (aX _) (aX _) (nK _) (aX _), aH _, aH _, trivial⟩
 clear ok e e0 e1 e2 e3 e5
 obtain ⟨⟨pk, pz, pd, ps⟩, ⟨t1, t2, t3⟩, ⟨c1, c2, c3, c4, c5⟩, ⟨l1, l2, l3⟩, ⟨e1, e2, e3, e4⟩, ⟨f1, f2, f3, f4, f5⟩, ⟨r1, r2, r3, r4, r5⟩⟩ := s
 obtain ⟨⟨i1, i2, i3, i4, i5⟩, i6⟩ := I
 simp only at *
 subst hk
 refine aK (dw mix) Tryz.func10 rfl Tryz.results10 rfl (by kernel_rfl) (Nat.le_of_ble_eq_true (by kernel_rfl)) ?_
 (repeat' (first | (simp (disch := first | assumption | omega | (simp only [Fits, maxLen, pgq] at *; omega)) only [pgo, pgb, tyf, ae, simprocAttr, Tryz.f10]) | ((with_reducible show bU _ _ _ _ _ _); first | refine ah _ (h1) rfl rfl rfl rfl ?_ | refine ah _ (h2) rfl rfl rfl rfl ?_ | refine ah _ (h3) rfl rfl rfl rfl ?_ | refine ah _ (h4) rfl rfl rfl rfl ?_) | ((first | ((with_reducible show aB _ _ _ _ _ _ _); refine aj (fun hc => ?_) (fun hc => ?_)) | ((with_reducible show ax _ _ _ _ _ _ _ _); refine ai (fun hc => ?_) (fun hc => ?_)) | ((with_reducible show aU _ _ _ _ _ _ _ _ _ _); refine ak (fun hc => ?_) (fun hc => ?_))) <;> (try simp only [hc]) <;> (try simp only [pgd] at hc)) | (with_reducible refine az (by kernel_rfl) ?_)))
 (refine bZ [] _ (by first | exact aW _ _ _ | exact bD _ _ _ _ | exact aS _ _ _ _ _ | exact aY _ _ _ _ _ _ | (simp (disch := first | assumption | omega | (simp only [Fits, maxLen, pgq] at *; omega)) only [pgr, pgo, tyf, simprocAttr]; rfl)) (by decide) (by simp only [pgo, simprocAttr]) ?_; (first | rfl | simp only [pgo, simprocAttr] | skip))
theorem GY (s : Sk) (ok : s.Ok) (k : List Nat) (w : Int) (co : List Nat) (at' : Int) (ho : oct k) (hco : oct co) (h : vSk s = 0) (hi : bT k w = 0) (ha : 0 ≤ at' ∧ at' ≤ 1073741824) (hk : s.p.k = 6) : Pg.Good Tryz.prog 10 [.agg (skF s), .agg [vs k, vi w], fzb co, vi at'] (.tup [.agg (skF (bg s k w co at').1), vi (bg s k w co at').2.1, vi (bg s k w co at').2.2]) := by
 have h1 := jo s ok
 rw [h] at h1
 have h2 := bz k w
 rw [hi] at h2
 have h3 := lF at'
 rw [decide_eq_true ha] at h3
 have h4 := NS s.rk k w co at' ho hco ok.ro ok.rn ok.rm
 have e : bg s k w co at' = (⟨s.p, s.tl, s.cm, s.ll, s.tp, s.fq, (jm s.rk k w co at').1⟩, (jm s.rk k w co at').2.1, 0) := by
  unfold bg
  rw [if_neg (by omega), if_neg (by omega), if_neg (fun h => h ha)]
  simp [hk]
 have hs := yx h
 have e0 : s.tl = Tl.o := by have := congrArg Sk.tl hs; simp only [aN, hk] at this; exact this.symm
 have e1 : s.cm = Cm.o := by have := congrArg Sk.cm hs; simp only [aN, hk] at this; exact this.symm
 have e2 : s.ll = Ll.o := by have := congrArg Sk.ll hs; simp only [aN, hk] at this; exact this.symm
 have e3 : s.tp = Tp.o := by have := congrArg Sk.tp hs; simp only [aN, hk] at this; exact this.symm
 have e4 : s.fq = Fq.o := by have := congrArg Sk.fq hs; simp only [aN, hk] at this; exact this.symm
 rw [e]
 clear hs
 rw [e0, e1, e2, e3, e4]
 generalize jm s.rk k w co at' = I at *
 refine Good.fzt (vs := [.agg (skC ⟨s.p, Tl.o, Cm.o, Ll.o, Tp.o, Fq.o, I.1⟩ nls nls nls nls (fzl I.1.v)), vi I.2.1, vi 0]) ?_ rfl ⟨iy ⟨s.p, Tl.o, Cm.o, Ll.o, Tp.o, Fq.o, I.1⟩ (aX _) (aX _) (aX _) (aX _) (nK _), aH _, aH _, trivial⟩
 clear ok e e0 e1 e2 e3 e4
 obtain ⟨⟨pk, pz, pd, ps⟩, ⟨t1, t2, t3⟩, ⟨c1, c2, c3, c4, c5⟩, ⟨l1, l2, l3⟩, ⟨e1, e2, e3, e4⟩, ⟨f1, f2, f3, f4, f5⟩, ⟨r1, r2, r3, r4, r5⟩⟩ := s
 obtain ⟨⟨i1, i2, i3, i4, i5⟩, i6, i7⟩ := I
 simp only at *
 subst hk
 refine aK (dw mix) Tryz.func10 rfl Tryz.results10 rfl (by kernel_rfl) (Nat.le_of_ble_eq_true (by kernel_rfl)) ?_
 (repeat' (first | (simp (disch := first | assumption | omega | (simp only [Fits, maxLen, pgq] at *; omega)) only [pgo, pgb, tyf, ae, simprocAttr, Tryz.f10]) | ((with_reducible show bU _ _ _ _ _ _); first | refine ah _ (h1) rfl rfl rfl rfl ?_ | refine ah _ (h2) rfl rfl rfl rfl ?_ | refine ah _ (h3) rfl rfl rfl rfl ?_ | refine ah _ (h4) rfl rfl rfl rfl ?_) | ((first | ((with_reducible show aB _ _ _ _ _ _ _); refine aj (fun hc => ?_) (fun hc => ?_)) | ((with_reducible show ax _ _ _ _ _ _ _ _); refine ai (fun hc => ?_) (fun hc => ?_)) | ((with_reducible show aU _ _ _ _ _ _ _ _ _ _); refine ak (fun hc => ?_) (fun hc => ?_))) <;> (try simp only [hc]) <;> (try simp only [pgd] at hc)) | (with_reducible refine az (by kernel_rfl) ?_)))
 (refine bZ [] _ (by first | exact aW _ _ _ | exact bD _ _ _ _ | exact aS _ _ _ _ _ | exact aY _ _ _ _ _ _ | (simp (disch := first | assumption | omega | (simp only [Fits, maxLen, pgq] at *; omega)) only [pgr, pgo, tyf, simprocAttr]; rfl)) (by decide) (by simp only [pgo, simprocAttr]) ?_; (first | rfl | simp only [pgo, simprocAttr] | skip))
theorem qF (s : Sk) (ok : s.Ok) (k : List Nat) (w : Int) (co : List Nat) (at' : Int) (ho : oct k) (hco : oct co) : Pg.Good Tryz.prog 10 [.agg (skF s), .agg [vs k, vi w], fzb co, vi at'] (.tup [.agg (skF (bg s k w co at').1), vi (bg s k w co at').2.1, vi (bg s k w co at').2.2]) := by
 have h1 := jo s ok
 have h2 := bz k w
 have h3 := lF at'
 by_cases q1 : vSk s = 0
 ·by_cases q2 : bT k w = 0
  ·by_cases q3 : 0 ≤ at' ∧ at' ≤ 1073741824
   ·have q4 : vp s.p.k s.p.z s.p.d s.p.s = 0 := by
     unfold vSk at q1
     split at q1
     ·rename_i h; exact absurd q1 h
     ·rename_i h; exact Classical.byContradiction h
    rcases Jd q4 with hk | hk | hk | hk | hk | hk
    ·exact GN s ok k w co at' ho hco q1 q2 q3 hk
    ·exact GR s ok k w co at' ho hco q1 q2 q3 hk
    ·exact GU s ok k w co at' ho hco q1 q2 q3 hk
    ·exact GV s ok k w co at' ho hco q1 q2 q3 hk
    ·exact GX s ok k w co at' ho hco q1 q2 q3 hk
    ·exact GY s ok k w co at' ho hco q1 q2 q3 hk
   ·have e : bg s k w co at' = (Sk.o, 0, 5) := by unfold bg; rw [if_neg (by omega), if_neg (by omega), if_pos q3]
    rw [e]
    rw [decide_eq_false q3] at h3
    rw [q1] at h1
    rw [q2] at h2
    refine Good.fzt (vs := [.agg (skC Sk.o nls nls nls nls nls), vi 0, vi 5]) ?_ rfl ⟨uX, aH _, aH _, trivial⟩
    refine aK (dw mix) Tryz.func10 rfl Tryz.results10 rfl (by kernel_rfl) (Nat.le_of_ble_eq_true (by kernel_rfl)) ?_
    (repeat' (first | (simp (disch := first | assumption | omega | (simp only [Fits, maxLen, pgq] at *; omega)) only [pgo, pgb, tyf, ae, simprocAttr, Tryz.f10]) | ((with_reducible show bU _ _ _ _ _ _); first | refine ah _ (h1) rfl rfl rfl rfl ?_ | refine ah _ (h2) rfl rfl rfl rfl ?_ | refine ah _ (h3) rfl rfl rfl rfl ?_) | ((first | ((with_reducible show aB _ _ _ _ _ _ _); refine aj (fun hc => ?_) (fun hc => ?_)) | ((with_reducible show ax _ _ _ _ _ _ _ _); refine ai (fun hc => ?_) (fun hc => ?_)) | ((with_reducible show aU _ _ _ _ _ _ _ _ _ _); refine ak (fun hc => ?_) (fun hc => ?_))) <;> (try simp only [hc]) <;> (try simp only [pgd] at hc)) | (with_reducible refine az (by kernel_rfl) ?_)))
    (refine bZ [] _ (by first | exact aW _ _ _ | exact bD _ _ _ _ | exact aS _ _ _ _ _ | exact aY _ _ _ _ _ _ | (simp (disch := first | assumption | omega | (simp only [Fits, maxLen, pgq] at *; omega)) only [pgr, pgo, tyf, simprocAttr]; rfl)) (by decide) (by simp only [pgo, simprocAttr]) ?_; (first | rfl | simp only [pgo, simprocAttr] | skip))
  ·have e : bg s k w co at' = (Sk.o, 0, bT k w) := by unfold bg; rw [if_neg (by omega), if_pos q2]
   rw [e]
   rw [q1] at h1
   refine Good.fzt (vs := [.agg (skC Sk.o nls nls nls nls nls), vi 0, vi (bT k w)]) ?_ rfl ⟨uX, aH _, aH _, trivial⟩
   refine aK (dw mix) Tryz.func10 rfl Tryz.results10 rfl (by kernel_rfl) (Nat.le_of_ble_eq_true (by kernel_rfl)) ?_
   (repeat' (first | (simp (disch := first | assumption | omega | (simp only [Fits, maxLen, pgq] at *; omega)) only [pgo, pgb, tyf, ae, simprocAttr, Tryz.f10]) | ((with_reducible show bU _ _ _ _ _ _); first | refine ah _ (h1) rfl rfl rfl rfl ?_ | refine ah _ (h2) rfl rfl rfl rfl ?_) | ((first | ((with_reducible show aB _ _ _ _ _ _ _); refine aj (fun hc => ?_) (fun hc => ?_)) | ((with_reducible show ax _ _ _ _ _ _ _ _); refine ai (fun hc => ?_) (fun hc => ?_)) | ((with_reducible show aU _ _ _ _ _ _ _ _ _ _); refine ak (fun hc => ?_) (fun hc => ?_))) <;> (try simp only [hc]) <;> (try simp only [pgd] at hc)) | (with_reducible refine az (by kernel_rfl) ?_)))
   (refine bZ [] _ (by first | exact aW _ _ _ | exact bD _ _ _ _ | exact aS _ _ _ _ _ | exact aY _ _ _ _ _ _ | (simp (disch := first | assumption | omega | (simp only [Fits, maxLen, pgq] at *; omega)) only [pgr, pgo, tyf, simprocAttr]; rfl)) (by decide) (by simp only [pgo, simprocAttr]) ?_; (first | rfl | simp only [pgo, simprocAttr] | skip))
 ·have e : bg s k w co at' = (Sk.o, 0, vSk s) := by unfold bg; rw [if_pos q1]
  rw [e]
  refine Good.fzt (vs := [.agg (skC Sk.o nls nls nls nls nls), vi 0, vi (vSk s)]) ?_ rfl ⟨uX, aH _, aH _, trivial⟩
  refine aK (dw mix) Tryz.func10 rfl Tryz.results10 rfl (by kernel_rfl) (Nat.le_of_ble_eq_true (by kernel_rfl)) ?_
  (repeat' (first | (simp (disch := first | assumption | omega | (simp only [Fits, maxLen, pgq] at *; omega)) only [pgo, pgb, tyf, ae, simprocAttr, Tryz.f10]) | ((with_reducible show bU _ _ _ _ _ _); first | refine ah _ (h1) rfl rfl rfl rfl ?_) | ((first | ((with_reducible show aB _ _ _ _ _ _ _); refine aj (fun hc => ?_) (fun hc => ?_)) | ((with_reducible show ax _ _ _ _ _ _ _ _); refine ai (fun hc => ?_) (fun hc => ?_)) | ((with_reducible show aU _ _ _ _ _ _ _ _ _ _); refine ak (fun hc => ?_) (fun hc => ?_))) <;> (try simp only [hc]) <;> (try simp only [pgd] at hc)) | (with_reducible refine az (by kernel_rfl) ?_)))
  (refine bZ [] _ (by first | exact aW _ _ _ | exact bD _ _ _ _ | exact aS _ _ _ _ _ | exact aY _ _ _ _ _ _ | (simp (disch := first | assumption | omega | (simp only [Fits, maxLen, pgq] at *; omega)) only [pgr, pgo, tyf, simprocAttr]; rfl)) (by decide) (by simp only [pgo, simprocAttr]) ?_; (first | rfl | simp only [pgo, simprocAttr] | skip))
theorem qG (s : Sk) : fH s s = true := by unfold fH qM qN qO qP qQ samP samT; simp
theorem vk (l : List Int) (n p : Int) (hl : l.length ≤ 9223372036854775807) : Pg.Good Tryz.prog 3 [fzi l, vi n, vi p] (vb true) := by
 have h1 := TP l hl
 have l1 := NQ l
 have h2 := acE (oL l) n (by omega)
 have ok := afl (NP l) (by omega) n
 generalize spS (oL l) n = A at *
 generalize oL l = X at *
 clear l1
 obtain ⟨a, ha, hab⟩ : ∃ a : Nat, bits .and .i64 (n.fdiv (2 ^ min 8 IntKind.i64.bits)) 65535 = (a : Int) ∧ a < 65536 := ⟨_, ac8 _, by omega⟩
 have h3 := Y5 a (by omega)
 obtain ⟨c, hc⟩ : ∃ c, bits .and .i64 (n.fdiv (2 ^ min 4 IntKind.i64.bits)) 65535 = c := ⟨_, rfl⟩
 have h4 := OL c
 obtain ⟨v, hv⟩ : ∃ v, bits .and .i64 (n.fdiv (2 ^ min 24 IntKind.i64.bits)) 15 = v := ⟨_, rfl⟩
 obtain ⟨y, hy⟩ : ∃ y, bits .and .i64 p 7 = y := ⟨_, rfl⟩
 obtain ⟨x, hx⟩ : ∃ x, bits .and .i64 (p.fdiv (2 ^ min 3 IntKind.i64.bits)) 63 = x := ⟨_, rfl⟩
 have hk : oct (zi a).1 := (OJ _).1
 have hco := (D7 c).1
 generalize zi a = I at *
 generalize lD c = co at *
 obtain ⟨k, w⟩ := I
 simp only at h3 hk
 by_cases q1 : v = 0
 ·by_cases q2 : y = 7
  ·have d1 : (v = 0) = True := eq_true q1
   have d2 : (y = 7) = True := eq_true q2
   have k1 := qF A ok k 0 co p hk hco
   have k2 := nN A ok k 0 co p hk hco
   have ok2 := tq A ok k 0 co p hk
   have k3 := jM _ _ ok2 ok2
   rw [qG] at k3
   clear ok2 ok
   generalize bg A k 0 co p = R at *
   obtain ⟨R1, R2, R3⟩ := R
   simp only at k1 k2 k3
   obtain ⟨⟨pk, pz, pd, ps⟩, ⟨t1, t2, t3⟩, ⟨c1, c2, c3, c4, c5⟩, ⟨l1, l2, l3⟩, ⟨e1, e2, e3, e4⟩, ⟨f1, f2, f3, f4, f5⟩, ⟨q1, q2, q3, q4, q5⟩⟩ := A
   obtain ⟨⟨pk', pz', pd', ps'⟩, ⟨t1', t2', t3'⟩, ⟨c1', c2', c3', c4', c5'⟩, ⟨l1', l2', l3'⟩, ⟨e1', e2', e3', e4'⟩, ⟨f1', f2', f3', f4', f5'⟩, ⟨q1', q2', q3', q4', q5'⟩⟩ := R1
   (try simp only at *)
   refine aK (dw mix) Tryz.func3 rfl Tryz.results3 rfl (by kernel_rfl) (Nat.le_of_ble_eq_true (by kernel_rfl)) ?_
   (repeat' (first | (simp (disch := first | assumption | omega | (simp only [Fits, maxLen, pgq] at *; omega)) only [pgo, pgb, tyf, ae, simprocAttr, ha, hc, hv, hy, hx, d1, d2, beq_self_eq_true]) | ((with_reducible show bU _ _ _ _ _ _); first | refine ah _ (h1) rfl rfl rfl rfl ?_ | refine ah _ (h2) rfl rfl rfl rfl ?_ | refine ah _ (h3) rfl rfl rfl rfl ?_ | refine ah _ (h4) rfl rfl rfl rfl ?_ | refine ah _ (k1) rfl rfl rfl rfl ?_ | refine ah _ (k2) rfl rfl rfl rfl ?_ | refine ah _ (k3) rfl rfl rfl rfl ?_ | refine ah _ (Aj) rfl rfl rfl rfl ?_) | ((first | ((with_reducible show aB _ _ _ _ _ _ _); refine aj (fun hc => ?_) (fun hc => ?_)) | ((with_reducible show ax _ _ _ _ _ _ _ _); refine ai (fun hc => ?_) (fun hc => ?_)) | ((with_reducible show aU _ _ _ _ _ _ _ _ _ _); refine ak (fun hc => ?_) (fun hc => ?_))) <;> (try simp only [hc]) <;> (try simp only [pgd] at hc)) | (with_reducible refine az (by kernel_rfl) ?_)))
   (refine bZ [] _ (by first | exact aW _ _ _ | exact bD _ _ _ _ | exact aS _ _ _ _ _ | exact aY _ _ _ _ _ _ | (simp (disch := first | assumption | omega | (simp only [Fits, maxLen, pgq] at *; omega)) only [pgr, pgo, tyf, simprocAttr]; rfl)) (by decide) (by simp only [pgo, simprocAttr]) ?_; (first | rfl | simp only [pgo, simprocAttr] | skip))
  ·have d1 : (v = 0) = True := eq_true q1
   have d2 : (y = 7) = False := eq_false q2
   have k1 := qF A ok k 0 co x hk hco
   have k2 := nN A ok k 0 co x hk hco
   have ok2 := tq A ok k 0 co x hk
   have k3 := jM _ _ ok2 ok2
   rw [qG] at k3
   clear ok2 ok
   generalize bg A k 0 co x = R at *
   obtain ⟨R1, R2, R3⟩ := R
   simp only at k1 k2 k3
   obtain ⟨⟨pk, pz, pd, ps⟩, ⟨t1, t2, t3⟩, ⟨c1, c2, c3, c4, c5⟩, ⟨l1, l2, l3⟩, ⟨e1, e2, e3, e4⟩, ⟨f1, f2, f3, f4, f5⟩, ⟨q1, q2, q3, q4, q5⟩⟩ := A
   obtain ⟨⟨pk', pz', pd', ps'⟩, ⟨t1', t2', t3'⟩, ⟨c1', c2', c3', c4', c5'⟩, ⟨l1', l2', l3'⟩, ⟨e1', e2', e3', e4'⟩, ⟨f1', f2', f3', f4', f5'⟩, ⟨q1', q2', q3', q4', q5'⟩⟩ := R1
   (try simp only at *)
   refine aK (dw mix) Tryz.func3 rfl Tryz.results3 rfl (by kernel_rfl) (Nat.le_of_ble_eq_true (by kernel_rfl)) ?_
   (repeat' (first | (simp (disch := first | assumption | omega | (simp only [Fits, maxLen, pgq] at *; omega)) only [pgo, pgb, tyf, ae, simprocAttr, ha, hc, hv, hy, hx, d1, d2, beq_self_eq_true]) | ((with_reducible show bU _ _ _ _ _ _); first | refine ah _ (h1) rfl rfl rfl rfl ?_ | refine ah _ (h2) rfl rfl rfl rfl ?_ | refine ah _ (h3) rfl rfl rfl rfl ?_ | refine ah _ (h4) rfl rfl rfl rfl ?_ | refine ah _ (k1) rfl rfl rfl rfl ?_ | refine ah _ (k2) rfl rfl rfl rfl ?_ | refine ah _ (k3) rfl rfl rfl rfl ?_ | refine ah _ (Aj) rfl rfl rfl rfl ?_) | ((first | ((with_reducible show aB _ _ _ _ _ _ _); refine aj (fun hc => ?_) (fun hc => ?_)) | ((with_reducible show ax _ _ _ _ _ _ _ _); refine ai (fun hc => ?_) (fun hc => ?_)) | ((with_reducible show aU _ _ _ _ _ _ _ _ _ _); refine ak (fun hc => ?_) (fun hc => ?_))) <;> (try simp only [hc]) <;> (try simp only [pgd] at hc)) | (with_reducible refine az (by kernel_rfl) ?_)))
   (refine bZ [] _ (by first | exact aW _ _ _ | exact bD _ _ _ _ | exact aS _ _ _ _ _ | exact aY _ _ _ _ _ _ | (simp (disch := first | assumption | omega | (simp only [Fits, maxLen, pgq] at *; omega)) only [pgr, pgo, tyf, simprocAttr]; rfl)) (by decide) (by simp only [pgo, simprocAttr]) ?_; (first | rfl | simp only [pgo, simprocAttr] | skip))
 ·by_cases q2 : y = 7
  ·have d1 : (v = 0) = False := eq_false q1
   have d2 : (y = 7) = True := eq_true q2
   have k1 := qF A ok k w co p hk hco
   have k2 := nN A ok k w co p hk hco
   have ok2 := tq A ok k w co p hk
   have k3 := jM _ _ ok2 ok2
   rw [qG] at k3
   clear ok2 ok
   generalize bg A k w co p = R at *
   obtain ⟨R1, R2, R3⟩ := R
   simp only at k1 k2 k3
   obtain ⟨⟨pk, pz, pd, ps⟩, ⟨t1, t2, t3⟩, ⟨c1, c2, c3, c4, c5⟩, ⟨l1, l2, l3⟩, ⟨e1, e2, e3, e4⟩, ⟨f1, f2, f3, f4, f5⟩, ⟨q1, q2, q3, q4, q5⟩⟩ := A
   obtain ⟨⟨pk', pz', pd', ps'⟩, ⟨t1', t2', t3'⟩, ⟨c1', c2', c3', c4', c5'⟩, ⟨l1', l2', l3'⟩, ⟨e1', e2', e3', e4'⟩, ⟨f1', f2', f3', f4', f5'⟩, ⟨q1', q2', q3', q4', q5'⟩⟩ := R1
   (try simp only at *)
   refine aK (dw mix) Tryz.func3 rfl Tryz.results3 rfl (by kernel_rfl) (Nat.le_of_ble_eq_true (by kernel_rfl)) ?_
   (repeat' (first | (simp (disch := first | assumption | omega | (simp only [Fits, maxLen, pgq] at *; omega)) only [pgo, pgb, tyf, ae, simprocAttr, ha, hc, hv, hy, hx, d1, d2, beq_self_eq_true]) | ((with_reducible show bU _ _ _ _ _ _); first | refine ah _ (h1) rfl rfl rfl rfl ?_ | refine ah _ (h2) rfl rfl rfl rfl ?_ | refine ah _ (h3) rfl rfl rfl rfl ?_ | refine ah _ (h4) rfl rfl rfl rfl ?_ | refine ah _ (k1) rfl rfl rfl rfl ?_ | refine ah _ (k2) rfl rfl rfl rfl ?_ | refine ah _ (k3) rfl rfl rfl rfl ?_ | refine ah _ (Aj) rfl rfl rfl rfl ?_) | ((first | ((with_reducible show aB _ _ _ _ _ _ _); refine aj (fun hc => ?_) (fun hc => ?_)) | ((with_reducible show ax _ _ _ _ _ _ _ _); refine ai (fun hc => ?_) (fun hc => ?_)) | ((with_reducible show aU _ _ _ _ _ _ _ _ _ _); refine ak (fun hc => ?_) (fun hc => ?_))) <;> (try simp only [hc]) <;> (try simp only [pgd] at hc)) | (with_reducible refine az (by kernel_rfl) ?_)))
   (refine bZ [] _ (by first | exact aW _ _ _ | exact bD _ _ _ _ | exact aS _ _ _ _ _ | exact aY _ _ _ _ _ _ | (simp (disch := first | assumption | omega | (simp only [Fits, maxLen, pgq] at *; omega)) only [pgr, pgo, tyf, simprocAttr]; rfl)) (by decide) (by simp only [pgo, simprocAttr]) ?_; (first | rfl | simp only [pgo, simprocAttr] | skip))
  ·have d1 : (v = 0) = False := eq_false q1
   have d2 : (y = 7) = False := eq_false q2
   have k1 := qF A ok k w co x hk hco
   have k2 := nN A ok k w co x hk hco
   have ok2 := tq A ok k w co x hk
   have k3 := jM _ _ ok2 ok2
   rw [qG] at k3
   clear ok2 ok
   generalize bg A k w co x = R at *
   obtain ⟨R1, R2, R3⟩ := R
   simp only at k1 k2 k3
   obtain ⟨⟨pk, pz, pd, ps⟩, ⟨t1, t2, t3⟩, ⟨c1, c2, c3, c4, c5⟩, ⟨l1, l2, l3⟩, ⟨e1, e2, e3, e4⟩, ⟨f1, f2, f3, f4, f5⟩, ⟨q1, q2, q3, q4, q5⟩⟩ := A
   obtain ⟨⟨pk', pz', pd', ps'⟩, ⟨t1', t2', t3'⟩, ⟨c1', c2', c3', c4', c5'⟩, ⟨l1', l2', l3'⟩, ⟨e1', e2', e3', e4'⟩, ⟨f1', f2', f3', f4', f5'⟩, ⟨q1', q2', q3', q4', q5'⟩⟩ := R1
   (try simp only at *)
   refine aK (dw mix) Tryz.func3 rfl Tryz.results3 rfl (by kernel_rfl) (Nat.le_of_ble_eq_true (by kernel_rfl)) ?_
   (repeat' (first | (simp (disch := first | assumption | omega | (simp only [Fits, maxLen, pgq] at *; omega)) only [pgo, pgb, tyf, ae, simprocAttr, ha, hc, hv, hy, hx, d1, d2, beq_self_eq_true]) | ((with_reducible show bU _ _ _ _ _ _); first | refine ah _ (h1) rfl rfl rfl rfl ?_ | refine ah _ (h2) rfl rfl rfl rfl ?_ | refine ah _ (h3) rfl rfl rfl rfl ?_ | refine ah _ (h4) rfl rfl rfl rfl ?_ | refine ah _ (k1) rfl rfl rfl rfl ?_ | refine ah _ (k2) rfl rfl rfl rfl ?_ | refine ah _ (k3) rfl rfl rfl rfl ?_ | refine ah _ (Aj) rfl rfl rfl rfl ?_) | ((first | ((with_reducible show aB _ _ _ _ _ _ _); refine aj (fun hc => ?_) (fun hc => ?_)) | ((with_reducible show ax _ _ _ _ _ _ _ _); refine ai (fun hc => ?_) (fun hc => ?_)) | ((with_reducible show aU _ _ _ _ _ _ _ _ _ _); refine ak (fun hc => ?_) (fun hc => ?_))) <;> (try simp only [hc]) <;> (try simp only [pgd] at hc)) | (with_reducible refine az (by kernel_rfl) ?_)))
   (refine bZ [] _ (by first | exact aW _ _ _ | exact bD _ _ _ _ | exact aS _ _ _ _ _ | exact aY _ _ _ _ _ _ | (simp (disch := first | assumption | omega | (simp only [Fits, maxLen, pgq] at *; omega)) only [pgr, pgo, tyf, simprocAttr]; rfl)) (by decide) (by simp only [pgo, simprocAttr]) ?_; (first | rfl | simp only [pgo, simprocAttr] | skip))
end Go.Proofs.YtiohdbjggmmjcaaGreat
section
namespace Go.Pg
open Go Go.ChangeShapes Go.WideShapes
theorem PG {w : World} {g o : Nat} {vs : List Value} (hp : 0 < vs.length) (h : ∀ i, i < vs.length → w.cell? ⟨g, o + i, none⟩ = vs[i]?) : Pg.Row w g o vs := by
 have h0 := h 0 hp
 rw [List.getElem?_eq_getElem hp] at h0
 unfold World.cell? at h0
 split at h0
 ·rename_i arr e fr hg
  refine ⟨arr, e, fr, hg, ?_⟩
  apply List.ext_getElem?
  intro i
  rw [List.getElem?_take]
  split
  ·rename_i hi
   have hi' := h i hi
   unfold World.cell? at hi'
   simp only [hg] at hi'
   rw [List.getElem?_drop, Array.getElem?_toList]
   simpa using hi'
  ·rename_i hi
   rw [List.getElem?_eq_none (by omega)]
 ·cases h0
section
variable {H : Type} {enc : TypeId × Value → H} {P : Program} {w : World} {base : Nat} {spare : Nat → Bool} {held : Bool}
structure Elem (enc : TypeId × Value → H) (P : Program) (w : World) (base : Nat) (spare : Nat → Bool) (held : Bool) (e : TypeId) (k : Nat) {α : Type} (Ok : α → Prop) (el : α → V) (elc : α → List Value) : Prop where
 pos : 0 < k
 cells : P.cellsOf e = k
 len : ∀ a, (elc a).length = k
 get : ∀ n cs x, DataW.trod enc P w base spare held n e cs = some x → ∃ a, Ok a ∧ cs = elc a
 rep : ∀ a L w', ∃ u : Value, u.cells.toList = elc a ∧ u.cells.size = k ∧ ((el a).free = true ∧ u.cells.toList.all Value.oneCell' = true) ∧ Rep L w' (el a) u
theorem Elem.repE {e : TypeId} {k : Nat} {α : Type} {Ok : α → Prop} {el : α → V} {elc : α → List Value} (E : Elem enc P w base spare held e k Ok el elc) (L : Lay) (w' : World) : ∀ l : List α, RepE L w' k (l.map el) (l.map elc).flatten := by
 intro l
 induction l with
 | nil => rfl
 | cons a l ih =>
  obtain ⟨u, h1, h2, h3, h4⟩ := E.rep a L w'
  exact ⟨u, (l.map elc).flatten, by rw [h1]; rfl, h2, h3, h4, ih⟩
theorem ag1 {t e : TypeId} {k : Nat} {α : Type} {Ok : α → Prop} {el : α → V} {elc : α → List Value} (E : Elem enc P w base spare held e k Ok el elc) (ht : P.underlying t = some (.slice e)) {fuel : Nat} {cs : List Value} {x : DataW H × List MemPlace} (h : DataW.trod enc P w base spare held fuel t cs = some x) :
  ∃ l : List α, (∀ a ∈ l, Ok a) ∧ ∃ u, cs = [u] ∧ Rep ⟨fun g => g < w.heap.size, fun _ => none, fun _ => none⟩ w (.sl .fz k (l.map el)) u := by
 rcases DataW.trod_slice ht h with ⟨rfl, _⟩ | ⟨a, len, cap, elems, rest, n, _, rfl, rfl, hb, hl, hm, hlen, hel, _, _⟩
 ·exact ⟨[], (fun a h => by cases h), _, rfl, none, 0, [], rfl, rfl, Nat.le_refl _, .inl rfl⟩
 have each : ∀ i, i < len → ∃ y : α, Ok y ∧ w.cells? base (a.add (i * k)) k = some (elc y) := by
  intro i hi
  have h1 := hel i hi
  rw [E.cells, List.getElem?_eq_getElem (by omega), Option.bind_eq_some_iff] at h1
  obtain ⟨cs', h2, h3⟩ := h1
  obtain ⟨y, hy, rfl⟩ := E.get _ _ _ h3
  exact ⟨y, hy, h2⟩
 rcases Nat.eq_zero_or_pos len with hz | hz
 ·subst hz
  exact ⟨[], (fun a h => by cases h), _, rfl, some a, cap, [], rfl, rfl, Nat.zero_le _, .inl rfl⟩
 obtain ⟨g, o, spot⟩ := a
 have hspot : spot = none := by
  obtain ⟨y, hy, hc⟩ := each 0 hz
  obtain ⟨hcb, hcl, hcc⟩ := World.cells?_some hc
  have h5 := hcc 0 E.pos
  rw [List.getElem?_eq_getElem (by rw [hcl]; exact E.pos)] at h5
  have := World.cell?_spot h5
  simpa [Addr.add] using this
 subst hspot
 have main : ∀ m, m ≤ len → ∃ l : List α, l.length = m ∧ (∀ y ∈ l, Ok y) ∧ ((l.map elc).flatten).length = m * k ∧ ∀ j, j < m * k → w.cell? ((⟨g, o, none⟩ : Addr).add j) = ((l.map elc).flatten)[j]? := by
  intro m
  induction m with
  | zero => intro _; exact ⟨[], rfl, (fun y h => by cases h), by simp, fun j hj => by omega⟩
  | succ m ih =>
   intro hm'
   obtain ⟨l, h1, h2, h3, h4⟩ := ih (by omega)
   obtain ⟨y, hy, hc⟩ := each m (by omega)
   obtain ⟨hcb, hcl, hcc⟩ := World.cells?_some hc
   have hyl := E.len y
   refine ⟨l ++ [y], by simp [h1], ?_, ?_, ?_⟩
   ·intro z hz
    rcases List.mem_append.1 hz with hz | hz
    ·exact h2 z hz
    ·rw [List.mem_singleton.1 hz]; exact hy
   ·rw [List.map_append, List.flatten_append, List.length_append, h3, Nat.add_mul]
    simp [hyl]
   ·intro j hj
    rw [Nat.add_mul, Nat.one_mul] at hj
    rw [List.map_append, List.flatten_append]
    rcases Nat.lt_or_ge j (m * k) with hlt | hge
    ·rw [List.getElem?_append_left (by omega)]; exact h4 j hlt
    ·rw [List.getElem?_append_right (by omega), h3]
     have h5 := hcc (j - m * k) (by omega)
     have e1 : ((⟨g, o, none⟩ : Addr).add (m * k)).add (j - m * k) = (⟨g, o, none⟩ : Addr).add j := by
      rw [Pg.dS, Pg.dS, Pg.dS, Nat.add_assoc, Nat.add_sub_cancel' hge]
     rw [e1] at h5
     simpa using h5
 obtain ⟨l, h1, h2, h3, h4⟩ := main len (Nat.le_refl _)
 refine ⟨l, h2, _, rfl, some ⟨g, o, none⟩, cap, (l.map elc).flatten, by rw [List.length_map, h1], E.repE _ _ l, ?_⟩
 rw [List.length_map, h1]
 refine ⟨hl, ?_⟩
 rcases Nat.eq_zero_or_pos len with h0 | h0
 ·exact .inl h0
 ·right
  have hpos : 0 < len * k := Nat.mul_pos h0 E.pos
  have hrow : Pg.Row w g o (l.map elc).flatten := by
   refine PG (by omega) (fun i hi => ?_)
   have := h4 i (by omega)
   rw [Pg.dS] at this
   exact this
  refine ⟨g, o, rfl, ?_, hrow⟩
  obtain ⟨arr, e', fr, hg, _⟩ := hrow
  exact (Array.getElem?_eq_some_iff.1 hg).1
end
end Go.Pg
end
