/-
  Texts of this claim, merged; own names are short.
-/
import Derived.Test.YtaoejnjkmfkbeaaGreatWAY
import Derived.Test.YtaoejnjkmfkbeaaGreatWAP
set_option linter.unusedVariables false
set_option linter.unusedSimpArgs false
set_option linter.unusedSectionVars false
set_option linter.defProp false
set_option maxRecDepth 100000
set_option maxHeartbeats 8000000
namespace Go.Proofs.YtaoejnjkmfkbeaaGreat
open Go Go.Pg
abbrev skC (s : Sk) (a b c d e : V) : List V := [vi s.p.k, vi s.p.z, vi s.p.d, vu s.p.s, vi s.tl.t, vi s.tl.i, vb s.tl.b, vi s.cm.d, vi s.cm.z, vu s.cm.s, a, vb s.cm.b, vi s.ll.p, vu s.ll.s, b, vi s.tp.z, vi s.tp.t, c, vb s.tp.b, vi s.fq.z, vi s.fq.t, vi s.fq.l, d, vb s.fq.b, vi s.rk.z, vi s.rk.t, vi s.rk.l, e, vb s.rk.b]
def orN (x : V) (y : V) : Prop := x = y ∨ (x = nls ∧ ∃ k, y = .sl .fz k [])
theorem ag6 {x y : V} (h : orN x y) : wk1 x y := by
 rcases h with rfl | ⟨rfl, k, rfl⟩
 ·exact .inl rfl
 ·exact jM _ _
theorem dK (s : Sk) {a b c d e : V} (ha : orN a (fzi s.cm.c)) (hb : orN b (fzi s.ll.r)) (hc : orN c (fzv s.tp.e)) (hd : orN d (fzv s.fq.e)) (he : orN e (fzl s.rk.v)) : wkV (.agg (skC s a b c d e)) (.agg (skF s)) := by
 refine .inr ⟨_, _, rfl, rfl, ?_⟩
 (repeat' (first | exact trivial | refine pq (.inl rfl) ?_ | refine pq (ag6 ha) ?_ | refine pq (ag6 hb) ?_ | refine pq (ag6 hc) ?_ | refine pq (ag6 hd) ?_ | refine pq (ag6 he) ?_))
theorem iR (x : V) : orN x x := .inl rfl
theorem aA (k : Nat) : orN nls (.sl .fz k []) := .inr ⟨rfl, k, rfl⟩
structure Sk.Ok (s : Sk) : Prop where
 ps : 0 ≤ s.p.s ∧ s.p.s < 18446744073709551616
 cs : 0 ≤ s.cm.s ∧ s.cm.s < 18446744073709551616
 ls : 0 ≤ s.ll.s ∧ s.ll.s < 18446744073709551616
 cn : s.cm.c.length ≤ 1000000
 ln : s.ll.r.length ≤ 1000000
 to : octE s.tp.e
 tn : s.tp.e.length ≤ 1000000
 fo : octE s.fq.e
 fn : s.fq.e.length ≤ 1000000
 ro : ∀ l ∈ s.rk.v, octL l
 rn : s.rk.v.length ≤ 1000000
 rm : ∀ l ∈ s.rk.v, l.length ≤ 1000000
def aX (s : Sk) : Sk := ⟨s.p, if s.p.k = 1 then s.tl else Tl.o, if s.p.k = 2 then s.cm else Cm.o, if s.p.k = 3 then s.ll else Ll.o, if s.p.k = 4 then s.tp else Tp.o, if s.p.k = 5 then s.fq else Fq.o, if s.p.k = 6 then s.rk else Rk.o⟩
theorem kV {s : Sk} (h : s.Ok) : (aX s).Ok := by
 refine ⟨h.ps, ?_, ?_, ?_, ?_, ?_, ?_, ?_, ?_, ?_, ?_, ?_⟩
 all_goals (simp only [aX]; split)
 ·exact h.cs
 ·exact ⟨by decide, by decide⟩
 ·exact h.ls
 ·exact ⟨by decide, by decide⟩
 ·exact h.cn
 ·exact Nat.zero_le _
 ·exact h.ln
 ·exact Nat.zero_le _
 ·exact h.to
 ·intro e he; cases he
 ·exact h.tn
 ·exact Nat.zero_le _
 ·exact h.fo
 ·intro e he; cases he
 ·exact h.fn
 ·exact Nat.zero_le _
 ·exact h.ro
 ·intro e he; cases he
 ·exact h.rn
 ·exact Nat.zero_le _
 ·exact h.rm
 ·intro e he; cases he
theorem pX (s : Sk) : Pg.Good Tryz.prog 71 [.agg (skF s)] (.agg (skF (aX s))) := by
 by_cases q1 : s.p.k = 1
 ·have eo : aX s = ⟨s.p, s.tl, Cm.o, Ll.o, Tp.o, Fq.o, Rk.o⟩ := by simp [aX, q1]
  rw [eo]
  refine Good.fzr (r := .agg (skC ⟨s.p, s.tl, Cm.o, Ll.o, Tp.o, Fq.o, Rk.o⟩ nls nls nls nls nls)) ?_ rfl (dK ⟨s.p, s.tl, Cm.o, Ll.o, Tp.o, Fq.o, Rk.o⟩ (aA _) (aA _) (aA _) (aA _) (aA _))
  obtain ⟨⟨pk, pz, pd, ps⟩, ⟨t1, t2, t3⟩, ⟨c1, c2, c3, c4, c5⟩, ⟨l1, l2, l3⟩, ⟨e1, e2, e3, e4⟩, ⟨f1, f2, f3, f4, f5⟩, ⟨r1, r2, r3, r4, r5⟩⟩ := s
  simp only at q1
  subst q1
  refine gI oD Tryz.func71 Tryz.results71 ?_
  exact wRA trivial trivial ah
 by_cases q2 : s.p.k = 2
 ·have eo : aX s = ⟨s.p, Tl.o, s.cm, Ll.o, Tp.o, Fq.o, Rk.o⟩ := by simp [aX, q2]
  rw [eo]
  refine Good.fzr (r := .agg (skC ⟨s.p, Tl.o, s.cm, Ll.o, Tp.o, Fq.o, Rk.o⟩ (fzi s.cm.c) nls nls nls nls)) ?_ rfl (dK ⟨s.p, Tl.o, s.cm, Ll.o, Tp.o, Fq.o, Rk.o⟩ (iR _) (aA _) (aA _) (aA _) (aA _))
  obtain ⟨⟨pk, pz, pd, ps⟩, ⟨t1, t2, t3⟩, ⟨c1, c2, c3, c4, c5⟩, ⟨l1, l2, l3⟩, ⟨e1, e2, e3, e4⟩, ⟨f1, f2, f3, f4, f5⟩, ⟨r1, r2, r3, r4, r5⟩⟩ := s
  simp only at q2
  subst q2
  refine gI oD Tryz.func71 Tryz.results71 ?_
  exact wRA trivial trivial ah
 by_cases q3 : s.p.k = 3
 ·have eo : aX s = ⟨s.p, Tl.o, Cm.o, s.ll, Tp.o, Fq.o, Rk.o⟩ := by simp [aX, q3]
  rw [eo]
  refine Good.fzr (r := .agg (skC ⟨s.p, Tl.o, Cm.o, s.ll, Tp.o, Fq.o, Rk.o⟩ nls (fzi s.ll.r) nls nls nls)) ?_ rfl (dK ⟨s.p, Tl.o, Cm.o, s.ll, Tp.o, Fq.o, Rk.o⟩ (aA _) (iR _) (aA _) (aA _) (aA _))
  obtain ⟨⟨pk, pz, pd, ps⟩, ⟨t1, t2, t3⟩, ⟨c1, c2, c3, c4, c5⟩, ⟨l1, l2, l3⟩, ⟨e1, e2, e3, e4⟩, ⟨f1, f2, f3, f4, f5⟩, ⟨r1, r2, r3, r4, r5⟩⟩ := s
  simp only at q3
  subst q3
  refine gI oD Tryz.func71 Tryz.results71 ?_
  exact wRA trivial trivial ah
 by_cases q4 : s.p.k = 4
 ·have eo : aX s = ⟨s.p, Tl.o, Cm.o, Ll.o, s.tp, Fq.o, Rk.o⟩ := by simp [aX, q4]
  rw [eo]
  refine Good.fzr (r := .agg (skC ⟨s.p, Tl.o, Cm.o, Ll.o, s.tp, Fq.o, Rk.o⟩ nls nls (fzv s.tp.e) nls nls)) ?_ rfl (dK ⟨s.p, Tl.o, Cm.o, Ll.o, s.tp, Fq.o, Rk.o⟩ (aA _) (aA _) (iR _) (aA _) (aA _))
  obtain ⟨⟨pk, pz, pd, ps⟩, ⟨t1, t2, t3⟩, ⟨c1, c2, c3, c4, c5⟩, ⟨l1, l2, l3⟩, ⟨e1, e2, e3, e4⟩, ⟨f1, f2, f3, f4, f5⟩, ⟨r1, r2, r3, r4, r5⟩⟩ := s
  simp only at q4
  subst q4
  refine gI oD Tryz.func71 Tryz.results71 ?_
  exact wRA trivial trivial ah
 by_cases q5 : s.p.k = 5
 ·have eo : aX s = ⟨s.p, Tl.o, Cm.o, Ll.o, Tp.o, s.fq, Rk.o⟩ := by simp [aX, q5]
  rw [eo]
  refine Good.fzr (r := .agg (skC ⟨s.p, Tl.o, Cm.o, Ll.o, Tp.o, s.fq, Rk.o⟩ nls nls nls (fzv s.fq.e) nls)) ?_ rfl (dK ⟨s.p, Tl.o, Cm.o, Ll.o, Tp.o, s.fq, Rk.o⟩ (aA _) (aA _) (aA _) (iR _) (aA _))
  obtain ⟨⟨pk, pz, pd, ps⟩, ⟨t1, t2, t3⟩, ⟨c1, c2, c3, c4, c5⟩, ⟨l1, l2, l3⟩, ⟨e1, e2, e3, e4⟩, ⟨f1, f2, f3, f4, f5⟩, ⟨r1, r2, r3, r4, r5⟩⟩ := s
  simp only at q5
  subst q5
  refine gI oD Tryz.func71 Tryz.results71 ?_
  exact wRA trivial trivial ah
 by_cases q6 : s.p.k = 6
 ·have eo : aX s = ⟨s.p, Tl.o, Cm.o, Ll.o, Tp.o, Fq.o, s.rk⟩ := by simp [aX, q6]
  rw [eo]
  refine Good.fzr (r := .agg (skC ⟨s.p, Tl.o, Cm.o, Ll.o, Tp.o, Fq.o, s.rk⟩ nls nls nls nls (fzl s.rk.v))) ?_ rfl (dK ⟨s.p, Tl.o, Cm.o, Ll.o, Tp.o, Fq.o, s.rk⟩ (aA _) (aA _) (aA _) (aA _) (iR _))
  obtain ⟨⟨pk, pz, pd, ps⟩, ⟨t1, t2, t3⟩, ⟨c1, c2, c3, c4, c5⟩, ⟨l1, l2, l3⟩, ⟨e1, e2, e3, e4⟩, ⟨f1, f2, f3, f4, f5⟩, ⟨r1, r2, r3, r4, r5⟩⟩ := s
  simp only at q6
  subst q6
  refine gI oD Tryz.func71 Tryz.results71 ?_
  exact wRA trivial trivial ah
 have eo : aX s = ⟨s.p, Tl.o, Cm.o, Ll.o, Tp.o, Fq.o, Rk.o⟩ := by simp [aX, q1, q2, q3, q4, q5, q6]
 rw [eo]
 refine Good.fzr (r := .agg (skC ⟨s.p, Tl.o, Cm.o, Ll.o, Tp.o, Fq.o, Rk.o⟩ nls nls nls nls nls)) ?_ rfl (dK ⟨s.p, Tl.o, Cm.o, Ll.o, Tp.o, Fq.o, Rk.o⟩ (aA _) (aA _) (aA _) (aA _) (aA _))
 obtain ⟨⟨pk, pz, pd, ps⟩, ⟨t1, t2, t3⟩, ⟨c1, c2, c3, c4, c5⟩, ⟨l1, l2, l3⟩, ⟨e1, e2, e3, e4⟩, ⟨f1, f2, f3, f4, f5⟩, ⟨r1, r2, r3, r4, r5⟩⟩ := s
 simp only at q1 q2 q3 q4 q5 q6
 refine gI oD Tryz.func71 Tryz.results71 ?_
 exact wRA trivial trivial ah
def samP (a b : Pm) : Prop := a.k = b.k ∧ a.z = b.z ∧ a.d = b.d ∧ a.s = b.s
instance (a b : Pm) : Decidable (samP a b) := by unfold samP; infer_instance
def samT (a b : Tl) : Prop := a.t = b.t ∧ a.i = b.i ∧ a.b = b.b
instance (a b : Tl) : Decidable (samT a b) := by unfold samT; infer_instance
def eH (a b : Sk) : Bool := decide (samP a.p b.p) && (decide (samT a.tl b.tl) && (rM a.cm b.cm && (rO a.ll b.ll && (rP a.tp b.tp && (rQ a.fq b.fq && rU a.rk b.rk)))))
theorem abI (a b : Pm) : ((a.k == b.k) && ((a.z == b.z) && ((a.d == b.d) && (a.s == b.s)))) = decide (samP a b) := by
 rw [Bool.eq_iff_iff, decide_eq_true_eq]; simp [samP]
theorem aeH (a b : Tl) : ((a.t == b.t) && ((a.i == b.i) && (a.b == b.b))) = decide (samT a b) := by
 rw [Bool.eq_iff_iff, decide_eq_true_eq]; simp [samT]
theorem nD (a b : Sk) (ha : a.Ok) (hb : b.Ok) : Pg.Good Tryz.prog 15 [.agg (skF a), .agg (skF b)] (vb (eH a b)) := by
 have k1 := zi a.cm b.cm ha.cn hb.cn
 have k2 := CV a.ll b.ll ha.ln hb.ln
 have k3 := LH a.tp b.tp ha.to hb.to ha.tn hb.tn
 have k4 := zk a.fq b.fq ha.fo hb.fo ha.fn hb.fn
 have k5 := Fv a.rk b.rk ha.ro hb.ro ha.rn hb.rn ha.rm hb.rm
 have e1 := abI a.p b.p
 have e2 := aeH a.tl b.tl
 unfold eH
 generalize decide (samP a.p b.p) = x1 at *
 generalize decide (samT a.tl b.tl) = x2 at *
 generalize rM a.cm b.cm = x3 at *
 generalize rO a.ll b.ll = x4 at *
 generalize rP a.tp b.tp = x5 at *
 generalize rQ a.fq b.fq = x6 at *
 generalize rU a.rk b.rk = x7 at *
 clear ha hb
 obtain ⟨⟨pk, pz, pd, ps⟩, ⟨t1, t2, t3⟩, ⟨c1, c2, c3, c4, c5⟩, ⟨l1, l2, l3⟩, ⟨e11, e12, e13, e14⟩, ⟨f1, f2, f3, f4, f5⟩, ⟨r1, r2, r3, r4, r5⟩⟩ := a
 obtain ⟨⟨pk', pz', pd', ps'⟩, ⟨t1', t2', t3'⟩, ⟨c1', c2', c3', c4', c5'⟩, ⟨l1', l2', l3'⟩, ⟨e11', e12', e13', e14'⟩, ⟨f1', f2', f3', f4', f5'⟩, ⟨r1', r2', r3', r4', r5'⟩⟩ := b
 simp only at *
 cases x1
 ·refine gI oW Tryz.func15 Tryz.results15 ?_
  exact wR (aI @Bool.and_true (aI @Bool.true_and (aI @Bool.false_and (aI @Bool.and_false (aI @e1 @e2))))) trivial ah
 ·cases x2
  ·refine gI oW Tryz.func15 Tryz.results15 ?_
   exact wR (aI @Bool.and_true (aI @Bool.true_and (aI @Bool.false_and (aI @Bool.and_false (aI @e1 @e2))))) trivial ah
  ·cases x3
   ·refine gI oW Tryz.func15 Tryz.results15 ?_
    exact wR (aI @Bool.and_true (aI @Bool.true_and (aI @Bool.false_and (aI @Bool.and_false (aI @e1 @e2))))) k1 ah
   ·cases x4
    ·refine gI oW Tryz.func15 Tryz.results15 ?_
     exact wR (aI @Bool.and_true (aI @Bool.true_and (aI @Bool.false_and (aI @Bool.and_false (aI @e1 @e2))))) (aI k1 k2) ah
    ·cases x5
     ·refine gI oW Tryz.func15 Tryz.results15 ?_
      exact wR (aI @Bool.and_true (aI @Bool.true_and (aI @Bool.false_and (aI @Bool.and_false (aI @e1 @e2))))) (aI k1 (aI k2 k3)) ah
     ·cases x6
      ·refine gI oW Tryz.func15 Tryz.results15 ?_
       exact wR (aI @Bool.and_true (aI @Bool.true_and (aI @Bool.false_and (aI @Bool.and_false (aI @e1 @e2))))) (aI k1 (aI k2 (aI k3 k4))) ah
      ·cases x7
       ·refine gI oW Tryz.func15 Tryz.results15 ?_
        exact wR (aI @Bool.and_true (aI @Bool.true_and (aI @Bool.false_and (aI @Bool.and_false (aI @e1 @e2))))) (aI k1 (aI k2 (aI k3 (aI k4 k5)))) ah
       ·refine gI oW Tryz.func15 Tryz.results15 ?_
        exact wR (aI @Bool.and_true (aI @Bool.true_and (aI @Bool.false_and (aI @Bool.and_false (aI @e1 @e2))))) (aI k1 (aI k2 (aI k3 (aI k4 k5)))) ah
def fA (s : Sk) : Int := if s.p.k = 1 then vTl s.tl else if s.p.k = 2 then vCm s.cm else if s.p.k = 3 then vLl s.ll else if s.p.k = 4 then vTp s.tp else if s.p.k = 5 then vFq s.fq else vRk s.rk
def parP (s : Sk) : Prop := if s.p.k = 1 then True else if s.p.k = 2 then s.cm.d = s.p.d ∧ s.cm.z = s.p.z ∧ s.cm.s = s.p.s else if s.p.k = 3 then s.ll.p = s.p.z ∧ s.ll.s = s.p.s else if s.p.k = 4 then s.tp.z = s.p.z else if s.p.k = 5 then s.fq.z = s.p.z else s.rk.z = s.p.z
instance (s : Sk) : Decidable (parP s) := by unfold parP; infer_instance
def vSk (s : Sk) : Int := if vp s.p.k s.p.z s.p.d s.p.s ≠ 0 then vp s.p.k s.p.z s.p.d s.p.s else if fA s ≠ 0 then fA s else if parP s then (if eH s (aX s) = true then 0 else 18) else 18
theorem CW (s : Sk) (h : vp s.p.k s.p.z s.p.d s.p.s ≠ 0) : Pg.Good Tryz.prog 18 [.agg (skF s)] (vi (vSk s)) := by
 have h1 := bK s.p.k s.p.z s.p.d s.p.s
 unfold vSk
 rw [if_pos h]
 generalize vp s.p.k s.p.z s.p.d s.p.s = e at *
 obtain ⟨⟨pk, pz, pd, ps⟩, ⟨t1, t2, t3⟩, ⟨c1, c2, c3, c4, c5⟩, ⟨l1, l2, l3⟩, ⟨e1, e2, e3, e4⟩, ⟨f1, f2, f3, f4, f5⟩, ⟨r1, r2, r3, r4, r5⟩⟩ := s
 simp only at *
 refine gI oD Tryz.func18 Tryz.results18 ?_
 exact wRA trivial h1 ah
theorem BC (s : Sk) (ok : s.Ok) (hk : s.p.k = 1) (h : vp s.p.k s.p.z s.p.d s.p.s = 0) : Pg.Good Tryz.prog 18 [.agg (skF s)] (vi (vSk s)) := by
 have h1 := bK s.p.k s.p.z s.p.d s.p.s
 rw [h] at h1
 have h2 := kS s.tl
 have h3 := pX s
 have h4 := nD s (aX s) ok (kV ok)
 have e0 : vSk s = if vTl s.tl ≠ 0 then vTl s.tl else if True then (if eH s (aX s) = true then 0 else 18) else 18 := by
  unfold vSk fA parP
  rw [if_neg (fun h' => h' h)]
  simp [hk]
 rw [e0]
 generalize eH s (aX s) = sm at *
 generalize aX s = s' at *
 generalize vTl s.tl = ve at *
 clear ok
 obtain ⟨⟨pk, pz, pd, ps⟩, ⟨t1, t2, t3⟩, ⟨c1, c2, c3, c4, c5⟩, ⟨l1, l2, l3⟩, ⟨e1, e2, e3, e4⟩, ⟨f1, f2, f3, f4, f5⟩, ⟨r1, r2, r3, r4, r5⟩⟩ := s
 simp only at *
 subst hk
 by_cases q : ve = 0
 ·rw [if_neg (by omega)]
  subst q
  rw [if_pos trivial]
  cases sm
  ·rw [if_neg (by simp)]
   refine gI oG Tryz.func18 Tryz.results18 ?_
   exact wRG (aI @Bool.and_true (aI @Bool.true_and (aI @Bool.false_and (aI @Bool.and_false (aI @Bool.not_true @Bool.not_false))))) (aI h1 (aI h2 (aI h3 h4))) ah
  ·rw [if_pos rfl]
   refine gI oG Tryz.func18 Tryz.results18 ?_
   exact wRG (aI @Bool.and_true (aI @Bool.true_and (aI @Bool.false_and (aI @Bool.and_false (aI @Bool.not_true @Bool.not_false))))) (aI h1 (aI h2 (aI h3 h4))) ah
 ·rw [if_pos q]
  refine gI oG Tryz.func18 Tryz.results18 ?_
  exact wRG (aI @Bool.and_true (aI @Bool.true_and (aI @Bool.false_and (aI @Bool.and_false (aI @Bool.not_true @Bool.not_false))))) (aI h1 h2) ah
theorem BD (s : Sk) (ok : s.Ok) (hk : s.p.k = 2) (h : vp s.p.k s.p.z s.p.d s.p.s = 0) : Pg.Good Tryz.prog 18 [.agg (skF s)] (vi (vSk s)) := by
 have h1 := bK s.p.k s.p.z s.p.d s.p.s
 rw [h] at h1
 have h2 := jA s.cm
 have h3 := pX s
 have h4 := nD s (aX s) ok (kV ok)
 have e0 : vSk s = if vCm s.cm ≠ 0 then vCm s.cm else if s.cm.d = s.p.d ∧ s.cm.z = s.p.z ∧ s.cm.s = s.p.s then (if eH s (aX s) = true then 0 else 18) else 18 := by
  unfold vSk fA parP
  rw [if_neg (fun h' => h' h)]
  simp [hk]
 rw [e0]
 generalize eH s (aX s) = sm at *
 generalize aX s = s' at *
 generalize vCm s.cm = ve at *
 clear ok
 obtain ⟨⟨pk, pz, pd, ps⟩, ⟨t1, t2, t3⟩, ⟨c1, c2, c3, c4, c5⟩, ⟨l1, l2, l3⟩, ⟨e1, e2, e3, e4⟩, ⟨f1, f2, f3, f4, f5⟩, ⟨r1, r2, r3, r4, r5⟩⟩ := s
 simp only at *
 subst hk
 by_cases q : ve = 0
 ·rw [if_neg (by omega)]
  subst q
  by_cases w0 : c1 = pd
  ·by_cases w1 : c2 = pz
   ·by_cases w2 : c3 = ps
    ·rw [if_pos ⟨w0, w1, w2⟩]
     cases sm
     ·rw [if_neg (by simp)]
      refine gI oG Tryz.func18 Tryz.results18 ?_
      exact wRG (aI @Bool.and_true (aI @Bool.true_and (aI @Bool.false_and (aI @Bool.and_false (aI @Bool.not_true @Bool.not_false))))) (aI h1 (aI h2 (aI h3 h4))) ah
     ·rw [if_pos rfl]
      refine gI oG Tryz.func18 Tryz.results18 ?_
      exact wRG (aI @Bool.and_true (aI @Bool.true_and (aI @Bool.false_and (aI @Bool.and_false (aI @Bool.not_true @Bool.not_false))))) (aI h1 (aI h2 (aI h3 h4))) ah
    ·rw [if_neg (fun h => w2 h.2.2)]
     refine gI oG Tryz.func18 Tryz.results18 ?_
     exact wRG (aI @Bool.and_true (aI @Bool.true_and (aI @Bool.false_and (aI @Bool.and_false (aI @Bool.not_true @Bool.not_false))))) (aI h1 h2) ah
   ·rw [if_neg (fun h => w1 h.2.1)]
    refine gI oG Tryz.func18 Tryz.results18 ?_
    exact wRG (aI @Bool.and_true (aI @Bool.true_and (aI @Bool.false_and (aI @Bool.and_false (aI @Bool.not_true @Bool.not_false))))) (aI h1 h2) ah
  ·rw [if_neg (fun h => w0 h.1)]
   refine gI oG Tryz.func18 Tryz.results18 ?_
   exact wRG (aI @Bool.and_true (aI @Bool.true_and (aI @Bool.false_and (aI @Bool.and_false (aI @Bool.not_true @Bool.not_false))))) (aI h1 h2) ah
 ·rw [if_pos q]
  refine gI oG Tryz.func18 Tryz.results18 ?_
  exact wRG (aI @Bool.and_true (aI @Bool.true_and (aI @Bool.false_and (aI @Bool.and_false (aI @Bool.not_true @Bool.not_false))))) (aI h1 h2) ah
theorem BF (s : Sk) (ok : s.Ok) (hk : s.p.k = 3) (h : vp s.p.k s.p.z s.p.d s.p.s = 0) : Pg.Good Tryz.prog 18 [.agg (skF s)] (vi (vSk s)) := by
 have h1 := bK s.p.k s.p.z s.p.d s.p.s
 rw [h] at h1
 have h2 := jZ s.ll ok.ln
 have h3 := pX s
 have h4 := nD s (aX s) ok (kV ok)
 have e0 : vSk s = if vLl s.ll ≠ 0 then vLl s.ll else if s.ll.p = s.p.z ∧ s.ll.s = s.p.s then (if eH s (aX s) = true then 0 else 18) else 18 := by
  unfold vSk fA parP
  rw [if_neg (fun h' => h' h)]
  simp [hk]
 rw [e0]
 generalize eH s (aX s) = sm at *
 generalize aX s = s' at *
 generalize vLl s.ll = ve at *
 clear ok
 obtain ⟨⟨pk, pz, pd, ps⟩, ⟨t1, t2, t3⟩, ⟨c1, c2, c3, c4, c5⟩, ⟨l1, l2, l3⟩, ⟨e1, e2, e3, e4⟩, ⟨f1, f2, f3, f4, f5⟩, ⟨r1, r2, r3, r4, r5⟩⟩ := s
 simp only at *
 subst hk
 by_cases q : ve = 0
 ·rw [if_neg (by omega)]
  subst q
  by_cases w0 : l1 = pz
  ·by_cases w1 : l2 = ps
   ·rw [if_pos ⟨w0, w1⟩]
    cases sm
    ·rw [if_neg (by simp)]
     refine gI oG Tryz.func18 Tryz.results18 ?_
     exact wRG (aI @Bool.and_true (aI @Bool.true_and (aI @Bool.false_and (aI @Bool.and_false (aI @Bool.not_true @Bool.not_false))))) (aI h1 (aI h2 (aI h3 h4))) ah
    ·rw [if_pos rfl]
     refine gI oG Tryz.func18 Tryz.results18 ?_
     exact wRG (aI @Bool.and_true (aI @Bool.true_and (aI @Bool.false_and (aI @Bool.and_false (aI @Bool.not_true @Bool.not_false))))) (aI h1 (aI h2 (aI h3 h4))) ah
   ·rw [if_neg (fun h => w1 h.2)]
    refine gI oG Tryz.func18 Tryz.results18 ?_
    exact wRG (aI @Bool.and_true (aI @Bool.true_and (aI @Bool.false_and (aI @Bool.and_false (aI @Bool.not_true @Bool.not_false))))) (aI h1 h2) ah
  ·rw [if_neg (fun h => w0 h.1)]
   refine gI oG Tryz.func18 Tryz.results18 ?_
   exact wRG (aI @Bool.and_true (aI @Bool.true_and (aI @Bool.false_and (aI @Bool.and_false (aI @Bool.not_true @Bool.not_false))))) (aI h1 h2) ah
 ·rw [if_pos q]
  refine gI oG Tryz.func18 Tryz.results18 ?_
  exact wRG (aI @Bool.and_true (aI @Bool.true_and (aI @Bool.false_and (aI @Bool.and_false (aI @Bool.not_true @Bool.not_false))))) (aI h1 h2) ah
theorem BG (s : Sk) (ok : s.Ok) (hk : s.p.k = 4) (h : vp s.p.k s.p.z s.p.d s.p.s = 0) : Pg.Good Tryz.prog 18 [.agg (skF s)] (vi (vSk s)) := by
 have h1 := bK s.p.k s.p.z s.p.d s.p.s
 rw [h] at h1
 have h2 := ni s.tp ok.to ok.tn
 have h3 := pX s
 have h4 := nD s (aX s) ok (kV ok)
 have e0 : vSk s = if vTp s.tp ≠ 0 then vTp s.tp else if s.tp.z = s.p.z then (if eH s (aX s) = true then 0 else 18) else 18 := by
  unfold vSk fA parP
  rw [if_neg (fun h' => h' h)]
  simp [hk]
 rw [e0]
 generalize eH s (aX s) = sm at *
 generalize aX s = s' at *
 generalize vTp s.tp = ve at *
 clear ok
 obtain ⟨⟨pk, pz, pd, ps⟩, ⟨t1, t2, t3⟩, ⟨c1, c2, c3, c4, c5⟩, ⟨l1, l2, l3⟩, ⟨e1, e2, e3, e4⟩, ⟨f1, f2, f3, f4, f5⟩, ⟨r1, r2, r3, r4, r5⟩⟩ := s
 simp only at *
 subst hk
 by_cases q : ve = 0
 ·rw [if_neg (by omega)]
  subst q
  by_cases w0 : e1 = pz
  ·rw [if_pos w0]
   cases sm
   ·rw [if_neg (by simp)]
    refine gI oG Tryz.func18 Tryz.results18 ?_
    exact wRG (aI @Bool.and_true (aI @Bool.true_and (aI @Bool.false_and (aI @Bool.and_false (aI @Bool.not_true @Bool.not_false))))) (aI h1 (aI h2 (aI h3 h4))) ah
   ·rw [if_pos rfl]
    refine gI oG Tryz.func18 Tryz.results18 ?_
    exact wRG (aI @Bool.and_true (aI @Bool.true_and (aI @Bool.false_and (aI @Bool.and_false (aI @Bool.not_true @Bool.not_false))))) (aI h1 (aI h2 (aI h3 h4))) ah
  ·rw [if_neg (fun h => w0 h)]
   refine gI oG Tryz.func18 Tryz.results18 ?_
   exact wRG (aI @Bool.and_true (aI @Bool.true_and (aI @Bool.false_and (aI @Bool.and_false (aI @Bool.not_true @Bool.not_false))))) (aI h1 h2) ah
 ·rw [if_pos q]
  refine gI oG Tryz.func18 Tryz.results18 ?_
  exact wRG (aI @Bool.and_true (aI @Bool.true_and (aI @Bool.false_and (aI @Bool.and_false (aI @Bool.not_true @Bool.not_false))))) (aI h1 h2) ah
theorem BH (s : Sk) (ok : s.Ok) (hk : s.p.k = 5) (h : vp s.p.k s.p.z s.p.d s.p.s = 0) : Pg.Good Tryz.prog 18 [.agg (skF s)] (vi (vSk s)) := by
 have h1 := bK s.p.k s.p.z s.p.d s.p.s
 rw [h] at h1
 have h2 := jB s.fq ok.fo ok.fn
 have h3 := pX s
 have h4 := nD s (aX s) ok (kV ok)
 have e0 : vSk s = if vFq s.fq ≠ 0 then vFq s.fq else if s.fq.z = s.p.z then (if eH s (aX s) = true then 0 else 18) else 18 := by
  unfold vSk fA parP
  rw [if_neg (fun h' => h' h)]
  simp [hk]
 rw [e0]
 generalize eH s (aX s) = sm at *
 generalize aX s = s' at *
 generalize vFq s.fq = ve at *
 clear ok
 obtain ⟨⟨pk, pz, pd, ps⟩, ⟨t1, t2, t3⟩, ⟨c1, c2, c3, c4, c5⟩, ⟨l1, l2, l3⟩, ⟨e1, e2, e3, e4⟩, ⟨f1, f2, f3, f4, f5⟩, ⟨r1, r2, r3, r4, r5⟩⟩ := s
 simp only at *
 subst hk
 by_cases q : ve = 0
 ·rw [if_neg (by omega)]
  subst q
  by_cases w0 : f1 = pz
  ·rw [if_pos w0]
   cases sm
   ·rw [if_neg (by simp)]
    refine gI oG Tryz.func18 Tryz.results18 ?_
    exact wRG (aI @Bool.and_true (aI @Bool.true_and (aI @Bool.false_and (aI @Bool.and_false (aI @Bool.not_true @Bool.not_false))))) (aI h1 (aI h2 (aI h3 h4))) ah
   ·rw [if_pos rfl]
    refine gI oG Tryz.func18 Tryz.results18 ?_
    exact wRG (aI @Bool.and_true (aI @Bool.true_and (aI @Bool.false_and (aI @Bool.and_false (aI @Bool.not_true @Bool.not_false))))) (aI h1 (aI h2 (aI h3 h4))) ah
  ·rw [if_neg (fun h => w0 h)]
   refine gI oG Tryz.func18 Tryz.results18 ?_
   exact wRG (aI @Bool.and_true (aI @Bool.true_and (aI @Bool.false_and (aI @Bool.and_false (aI @Bool.not_true @Bool.not_false))))) (aI h1 h2) ah
 ·rw [if_pos q]
  refine gI oG Tryz.func18 Tryz.results18 ?_
  exact wRG (aI @Bool.and_true (aI @Bool.true_and (aI @Bool.false_and (aI @Bool.and_false (aI @Bool.not_true @Bool.not_false))))) (aI h1 h2) ah
theorem BI (s : Sk) (ok : s.Ok) (hk : s.p.k = 6) (h : vp s.p.k s.p.z s.p.d s.p.s = 0) : Pg.Good Tryz.prog 18 [.agg (skF s)] (vi (vSk s)) := by
 have h1 := bK s.p.k s.p.z s.p.d s.p.s
 rw [h] at h1
 have h2 := kU s.rk ok.ro ok.rn ok.rm
 have h3 := pX s
 have h4 := nD s (aX s) ok (kV ok)
 have e0 : vSk s = if vRk s.rk ≠ 0 then vRk s.rk else if s.rk.z = s.p.z then (if eH s (aX s) = true then 0 else 18) else 18 := by
  unfold vSk fA parP
  rw [if_neg (fun h' => h' h)]
  simp [hk]
 rw [e0]
 generalize eH s (aX s) = sm at *
 generalize aX s = s' at *
 generalize vRk s.rk = ve at *
 clear ok
 obtain ⟨⟨pk, pz, pd, ps⟩, ⟨t1, t2, t3⟩, ⟨c1, c2, c3, c4, c5⟩, ⟨l1, l2, l3⟩, ⟨e1, e2, e3, e4⟩, ⟨f1, f2, f3, f4, f5⟩, ⟨r1, r2, r3, r4, r5⟩⟩ := s
 simp only at *
 subst hk
 by_cases q : ve = 0
 ·rw [if_neg (by omega)]
  subst q
  by_cases w0 : r1 = pz
  ·rw [if_pos w0]
   cases sm
   ·rw [if_neg (by simp)]
    refine gI oG Tryz.func18 Tryz.results18 ?_
    exact wRG (aI @Bool.and_true (aI @Bool.true_and (aI @Bool.false_and (aI @Bool.and_false (aI @Bool.not_true @Bool.not_false))))) (aI h1 (aI h2 (aI h3 h4))) ah
   ·rw [if_pos rfl]
    refine gI oG Tryz.func18 Tryz.results18 ?_
    exact wRG (aI @Bool.and_true (aI @Bool.true_and (aI @Bool.false_and (aI @Bool.and_false (aI @Bool.not_true @Bool.not_false))))) (aI h1 (aI h2 (aI h3 h4))) ah
  ·rw [if_neg (fun h => w0 h)]
   refine gI oG Tryz.func18 Tryz.results18 ?_
   exact wRG (aI @Bool.and_true (aI @Bool.true_and (aI @Bool.false_and (aI @Bool.and_false (aI @Bool.not_true @Bool.not_false))))) (aI h1 h2) ah
 ·rw [if_pos q]
  refine gI oG Tryz.func18 Tryz.results18 ?_
  exact wRG (aI @Bool.and_true (aI @Bool.true_and (aI @Bool.false_and (aI @Bool.and_false (aI @Bool.not_true @Bool.not_false))))) (aI h1 h2) ah
theorem dw (s : Sk) (ok : s.Ok) : Pg.Good Tryz.prog 18 [.agg (skF s)] (vi (vSk s)) := by
 by_cases h : vp s.p.k s.p.z s.p.d s.p.s = 0
 ·have hk : s.p.k = 1 ∨ s.p.k = 2 ∨ s.p.k = 3 ∨ s.p.k = 4 ∨ s.p.k = 5 ∨ s.p.k = 6 := by unfold vp at h; repeat' split at h <;> omega
  rcases hk with hk | hk | hk | hk | hk | hk
  ·exact BC s ok hk h
  ·exact BD s ok hk h
  ·exact BF s ok hk h
  ·exact BG s ok hk h
  ·exact BH s ok hk h
  ·exact BI s ok hk h
 ·exact CW s h
end Go.Proofs.YtaoejnjkmfkbeaaGreat
