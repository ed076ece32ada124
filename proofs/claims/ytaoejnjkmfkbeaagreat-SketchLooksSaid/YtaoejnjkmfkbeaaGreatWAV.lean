/-
  Texts of this claim, merged; own names are short.
-/
import Derived.Test.YtaoejnjkmfkbeaaGreatWAU
import Derived.Test.YtaoejnjkmfkbeaaGreatWAO
import Derived.Test.YtaoejnjkmfkbeaaGreatWAS
import Derived.Test.YtaoejnjkmfkbeaaGreatWAM
import Derived.Lib.Bytealg
import Derived.Laws.Externs
import Derived.Test.YtaoejnjkmfkbeaaGreatWAR
set_option linter.unusedVariables false
set_option linter.unusedSimpArgs false
set_option linter.unusedSectionVars false
set_option linter.defProp false
set_option maxRecDepth 100000
set_option maxHeartbeats 8000000
namespace Go.Proofs.YtaoejnjkmfkbeaaGreat
open Go Go.Pg
abbrev skC (s : Sk) (a b c d e : V) : List V := [vi s.p.k, vi s.p.z, vi s.p.d, vu s.p.s, vi s.tl.t, vi s.tl.i, vb s.tl.b, vi s.cm.d, vi s.cm.z, vu s.cm.s, a, vb s.cm.b, vi s.ll.p, vu s.ll.s, b, vi s.tp.z, vi s.tp.t, c, vb s.tp.b, vi s.fq.z, vi s.fq.t, vi s.fq.l, d, vb s.fq.b, vi s.rk.z, vi s.rk.t, vi s.rk.l, e, vb s.rk.b]
def orN (x : V) (y : V) : Prop := x = y ∨ (x = nls ∧ ∃ k, y = .sl .fz k [])
theorem vN {x y : V} (h : orN x y) : wk1 x y := by
 rcases h with rfl | ⟨rfl, k, rfl⟩
 ·exact .inl rfl
 ·exact kY _ _
theorem fE (s : Sk) {a b c d e : V} (ha : orN a (fzi s.cm.c)) (hb : orN b (fzi s.ll.r)) (hc : orN c (fzv s.tp.e)) (hd : orN d (fzv s.fq.e)) (he : orN e (fzl s.rk.v)) : wkV (.agg (skC s a b c d e)) (.agg (skF s)) := by
 refine .inr ⟨_, _, rfl, rfl, ?_⟩
 (repeat' (first | exact trivial | refine kH (.inl rfl) ?_ | refine kH (vN ha) ?_ | refine kH (vN hb) ?_ | refine kH (vN hc) ?_ | refine kH (vN hd) ?_ | refine kH (vN he) ?_))
theorem nH (x : V) : orN x x := .inl rfl
theorem aG (k : Nat) : orN nls (.sl .fz k []) := .inr ⟨rfl, k, rfl⟩
structure Sk.Ok (s : Sk) : Prop where
 ps : 0 ≤ s.p.s ∧ s.p.s < 18446744073709551616
 cs : 0 ≤ s.cm.s ∧ s.cm.s < 18446744073709551616
 ls : 0 ≤ s.ll.s ∧ s.ll.s < 18446744073709551616
 cn : s.cm.c.length ≤ 1000000
 ln : s.ll.r.length ≤ 1000000
 to : octE s.tp.e
 tn : s.tp.e.length ≤ 1000000
 fo : octE s.fq.e
 fn : s.fq.e.length ≤ 1000000
 ro : ∀ l ∈ s.rk.v, octL l
 rn : s.rk.v.length ≤ 1000000
 rm : ∀ l ∈ s.rk.v, l.length ≤ 1000000
def az (s : Sk) : Sk := ⟨s.p, if s.p.k = 1 then s.tl else Tl.o, if s.p.k = 2 then s.cm else Cm.o, if s.p.k = 3 then s.ll else Ll.o, if s.p.k = 4 then s.tp else Tp.o, if s.p.k = 5 then s.fq else Fq.o, if s.p.k = 6 then s.rk else Rk.o⟩
theorem ja {s : Sk} (h : s.Ok) : (az s).Ok := by
 refine ⟨h.ps, ?_, ?_, ?_, ?_, ?_, ?_, ?_, ?_, ?_, ?_, ?_⟩
 all_goals (simp only [az]; split)
 ·exact h.cs
 ·exact ⟨by decide, by decide⟩
 ·exact h.ls
 ·exact ⟨by decide, by decide⟩
 ·exact h.cn
 ·exact Nat.zero_le _
 ·exact h.ln
 ·exact Nat.zero_le _
 ·exact h.to
 ·intro e he; cases he
 ·exact h.tn
 ·exact Nat.zero_le _
 ·exact h.fo
 ·intro e he; cases he
 ·exact h.fn
 ·exact Nat.zero_le _
 ·exact h.ro
 ·intro e he; cases he
 ·exact h.rn
 ·exact Nat.zero_le _
 ·exact h.rm
 ·intro e he; cases he
theorem kR (s : Sk) : Pg.Good Tryz.prog 71 [.agg (skF s)] (.agg (skF (az s))) := by
 by_cases q1 : s.p.k = 1
 ·have eo : az s = ⟨s.p, s.tl, Cm.o, Ll.o, Tp.o, Fq.o, Rk.o⟩ := by simp [az, q1]
  rw [eo]
  refine Good.fzr (r := .agg (skC ⟨s.p, s.tl, Cm.o, Ll.o, Tp.o, Fq.o, Rk.o⟩ nls nls nls nls nls)) ?_ rfl (fE ⟨s.p, s.tl, Cm.o, Ll.o, Tp.o, Fq.o, Rk.o⟩ (aG _) (aG _) (aG _) (aG _) (aG _))
  obtain ⟨⟨pk, pz, pd, ps⟩, ⟨t1, t2, t3⟩, ⟨c1, c2, c3, c4, c5⟩, ⟨l1, l2, l3⟩, ⟨e1, e2, e3, e4⟩, ⟨f1, f2, f3, f4, f5⟩, ⟨r1, r2, r3, r4, r5⟩⟩ := s
  simp only at q1
  subst q1
  refine gI oD Tryz.func71 Tryz.results71 ?_
  exact wRA trivial trivial ae
 by_cases q2 : s.p.k = 2
 ·have eo : az s = ⟨s.p, Tl.o, s.cm, Ll.o, Tp.o, Fq.o, Rk.o⟩ := by simp [az, q2]
  rw [eo]
  refine Good.fzr (r := .agg (skC ⟨s.p, Tl.o, s.cm, Ll.o, Tp.o, Fq.o, Rk.o⟩ (fzi s.cm.c) nls nls nls nls)) ?_ rfl (fE ⟨s.p, Tl.o, s.cm, Ll.o, Tp.o, Fq.o, Rk.o⟩ (nH _) (aG _) (aG _) (aG _) (aG _))
  obtain ⟨⟨pk, pz, pd, ps⟩, ⟨t1, t2, t3⟩, ⟨c1, c2, c3, c4, c5⟩, ⟨l1, l2, l3⟩, ⟨e1, e2, e3, e4⟩, ⟨f1, f2, f3, f4, f5⟩, ⟨r1, r2, r3, r4, r5⟩⟩ := s
  simp only at q2
  subst q2
  refine gI oD Tryz.func71 Tryz.results71 ?_
  exact wRA trivial trivial ae
 by_cases q3 : s.p.k = 3
 ·have eo : az s = ⟨s.p, Tl.o, Cm.o, s.ll, Tp.o, Fq.o, Rk.o⟩ := by simp [az, q3]
  rw [eo]
  refine Good.fzr (r := .agg (skC ⟨s.p, Tl.o, Cm.o, s.ll, Tp.o, Fq.o, Rk.o⟩ nls (fzi s.ll.r) nls nls nls)) ?_ rfl (fE ⟨s.p, Tl.o, Cm.o, s.ll, Tp.o, Fq.o, Rk.o⟩ (aG _) (nH _) (aG _) (aG _) (aG _))
  obtain ⟨⟨pk, pz, pd, ps⟩, ⟨t1, t2, t3⟩, ⟨c1, c2, c3, c4, c5⟩, ⟨l1, l2, l3⟩, ⟨e1, e2, e3, e4⟩, ⟨f1, f2, f3, f4, f5⟩, ⟨r1, r2, r3, r4, r5⟩⟩ := s
  simp only at q3
  subst q3
  refine gI oD Tryz.func71 Tryz.results71 ?_
  exact wRA trivial trivial ae
 by_cases q4 : s.p.k = 4
 ·have eo : az s = ⟨s.p, Tl.o, Cm.o, Ll.o, s.tp, Fq.o, Rk.o⟩ := by simp [az, q4]
  rw [eo]
  refine Good.fzr (r := .agg (skC ⟨s.p, Tl.o, Cm.o, Ll.o, s.tp, Fq.o, Rk.o⟩ nls nls (fzv s.tp.e) nls nls)) ?_ rfl (fE ⟨s.p, Tl.o, Cm.o, Ll.o, s.tp, Fq.o, Rk.o⟩ (aG _) (aG _) (nH _) (aG _) (aG _))
  obtain ⟨⟨pk, pz, pd, ps⟩, ⟨t1, t2, t3⟩, ⟨c1, c2, c3, c4, c5⟩, ⟨l1, l2, l3⟩, ⟨e1, e2, e3, e4⟩, ⟨f1, f2, f3, f4, f5⟩, ⟨r1, r2, r3, r4, r5⟩⟩ := s
  simp only at q4
  subst q4
  refine gI oD Tryz.func71 Tryz.results71 ?_
  exact wRA trivial trivial ae
 by_cases q5 : s.p.k = 5
 ·have eo : az s = ⟨s.p, Tl.o, Cm.o, Ll.o, Tp.o, s.fq, Rk.o⟩ := by simp [az, q5]
  rw [eo]
  refine Good.fzr (r := .agg (skC ⟨s.p, Tl.o, Cm.o, Ll.o, Tp.o, s.fq, Rk.o⟩ nls nls nls (fzv s.fq.e) nls)) ?_ rfl (fE ⟨s.p, Tl.o, Cm.o, Ll.o, Tp.o, s.fq, Rk.o⟩ (aG _) (aG _) (aG _) (nH _) (aG _))
  obtain ⟨⟨pk, pz, pd, ps⟩, ⟨t1, t2, t3⟩, ⟨c1, c2, c3, c4, c5⟩, ⟨l1, l2, l3⟩, ⟨e1, e2, e3, e4⟩, ⟨f1, f2, f3, f4, f5⟩, ⟨r1, r2, r3, r4, r5⟩⟩ := s
  simp only at q5
  subst q5
  refine gI oD Tryz.func71 Tryz.results71 ?_
  exact wRA trivial trivial ae
 by_cases q6 : s.p.k = 6
 ·have eo : az s = ⟨s.p, Tl.o, Cm.o, Ll.o, Tp.o, Fq.o, s.rk⟩ := by simp [az, q6]
  rw [eo]
  refine Good.fzr (r := .agg (skC ⟨s.p, Tl.o, Cm.o, Ll.o, Tp.o, Fq.o, s.rk⟩ nls nls nls nls (fzl s.rk.v))) ?_ rfl (fE ⟨s.p, Tl.o, Cm.o, Ll.o, Tp.o, Fq.o, s.rk⟩ (aG _) (aG _) (aG _) (aG _) (nH _))
  obtain ⟨⟨pk, pz, pd, ps⟩, ⟨t1, t2, t3⟩, ⟨c1, c2, c3, c4, c5⟩, ⟨l1, l2, l3⟩, ⟨e1, e2, e3, e4⟩, ⟨f1, f2, f3, f4, f5⟩, ⟨r1, r2, r3, r4, r5⟩⟩ := s
  simp only at q6
  subst q6
  refine gI oD Tryz.func71 Tryz.results71 ?_
  exact wRA trivial trivial ae
 have eo : az s = ⟨s.p, Tl.o, Cm.o, Ll.o, Tp.o, Fq.o, Rk.o⟩ := by simp [az, q1, q2, q3, q4, q5, q6]
 rw [eo]
 refine Good.fzr (r := .agg (skC ⟨s.p, Tl.o, Cm.o, Ll.o, Tp.o, Fq.o, Rk.o⟩ nls nls nls nls nls)) ?_ rfl (fE ⟨s.p, Tl.o, Cm.o, Ll.o, Tp.o, Fq.o, Rk.o⟩ (aG _) (aG _) (aG _) (aG _) (aG _))
 obtain ⟨⟨pk, pz, pd, ps⟩, ⟨t1, t2, t3⟩, ⟨c1, c2, c3, c4, c5⟩, ⟨l1, l2, l3⟩, ⟨e1, e2, e3, e4⟩, ⟨f1, f2, f3, f4, f5⟩, ⟨r1, r2, r3, r4, r5⟩⟩ := s
 simp only at q1 q2 q3 q4 q5 q6
 refine gI oD Tryz.func71 Tryz.results71 ?_
 exact wRA trivial trivial ae
def samP (a b : Pm) : Prop := a.k = b.k ∧ a.z = b.z ∧ a.d = b.d ∧ a.s = b.s
instance (a b : Pm) : Decidable (samP a b) := by unfold samP; infer_instance
def samT (a b : Tl) : Prop := a.t = b.t ∧ a.i = b.i ∧ a.b = b.b
instance (a b : Tl) : Decidable (samT a b) := by unfold samT; infer_instance
def bK (a b : Sk) : Bool := decide (samP a.p b.p) && (decide (samT a.tl b.tl) && (ny a.cm b.cm && (nz a.ll b.ll && (nC a.tp b.tp && (nD a.fq b.fq && nG a.rk b.rk)))))
theorem GZ (a b : Pm) : ((a.k == b.k) && ((a.z == b.z) && ((a.d == b.d) && (a.s == b.s)))) = decide (samP a b) := by
 rw [Bool.eq_iff_iff, decide_eq_true_eq]; simp [samP]
theorem Ye (a b : Tl) : ((a.t == b.t) && ((a.i == b.i) && (a.b == b.b))) = decide (samT a b) := by
 rw [Bool.eq_iff_iff, decide_eq_true_eq]; simp [samT]
theorem kS (a b : Sk) (ha : a.Ok) (hb : b.Ok) : Pg.Good Tryz.prog 15 [.agg (skF a), .agg (skF b)] (vb (bK a b)) := by
 have k1 := rW a.cm b.cm ha.cn hb.cn
 have k2 := wQ a.ll b.ll ha.ln hb.ln
 have k3 := FI a.tp b.tp ha.to hb.to ha.tn hb.tn
 have k4 := rX a.fq b.fq ha.fo hb.fo ha.fn hb.fn
 have k5 := zy a.rk b.rk ha.ro hb.ro ha.rn hb.rn ha.rm hb.rm
 have e1 := GZ a.p b.p
 have e2 := Ye a.tl b.tl
 unfold bK
 generalize decide (samP a.p b.p) = x1 at *
 generalize decide (samT a.tl b.tl) = x2 at *
 generalize ny a.cm b.cm = x3 at *
 generalize nz a.ll b.ll = x4 at *
 generalize nC a.tp b.tp = x5 at *
 generalize nD a.fq b.fq = x6 at *
 generalize nG a.rk b.rk = x7 at *
 clear ha hb
 obtain ⟨⟨pk, pz, pd, ps⟩, ⟨t1, t2, t3⟩, ⟨c1, c2, c3, c4, c5⟩, ⟨l1, l2, l3⟩, ⟨e11, e12, e13, e14⟩, ⟨f1, f2, f3, f4, f5⟩, ⟨r1, r2, r3, r4, r5⟩⟩ := a
 obtain ⟨⟨pk', pz', pd', ps'⟩, ⟨t1', t2', t3'⟩, ⟨c1', c2', c3', c4', c5'⟩, ⟨l1', l2', l3'⟩, ⟨e11', e12', e13', e14'⟩, ⟨f1', f2', f3', f4', f5'⟩, ⟨r1', r2', r3', r4', r5'⟩⟩ := b
 simp only at *
 cases x1
 ·refine gI oW Tryz.func15 Tryz.results15 ?_
  exact wR (aI @Bool.and_true (aI @Bool.true_and (aI @Bool.false_and (aI @Bool.and_false (aI @e1 @e2))))) trivial ae
 ·cases x2
  ·refine gI oW Tryz.func15 Tryz.results15 ?_
   exact wR (aI @Bool.and_true (aI @Bool.true_and (aI @Bool.false_and (aI @Bool.and_false (aI @e1 @e2))))) trivial ae
  ·cases x3
   ·refine gI oW Tryz.func15 Tryz.results15 ?_
    exact wR (aI @Bool.and_true (aI @Bool.true_and (aI @Bool.false_and (aI @Bool.and_false (aI @e1 @e2))))) k1 ae
   ·cases x4
    ·refine gI oW Tryz.func15 Tryz.results15 ?_
     exact wR (aI @Bool.and_true (aI @Bool.true_and (aI @Bool.false_and (aI @Bool.and_false (aI @e1 @e2))))) (aI k1 k2) ae
    ·cases x5
     ·refine gI oW Tryz.func15 Tryz.results15 ?_
      exact wR (aI @Bool.and_true (aI @Bool.true_and (aI @Bool.false_and (aI @Bool.and_false (aI @e1 @e2))))) (aI k1 (aI k2 k3)) ae
     ·cases x6
      ·refine gI oW Tryz.func15 Tryz.results15 ?_
       exact wR (aI @Bool.and_true (aI @Bool.true_and (aI @Bool.false_and (aI @Bool.and_false (aI @e1 @e2))))) (aI k1 (aI k2 (aI k3 k4))) ae
      ·cases x7
       ·refine gI oW Tryz.func15 Tryz.results15 ?_
        exact wR (aI @Bool.and_true (aI @Bool.true_and (aI @Bool.false_and (aI @Bool.and_false (aI @e1 @e2))))) (aI k1 (aI k2 (aI k3 (aI k4 k5)))) ae
       ·refine gI oW Tryz.func15 Tryz.results15 ?_
        exact wR (aI @Bool.and_true (aI @Bool.true_and (aI @Bool.false_and (aI @Bool.and_false (aI @e1 @e2))))) (aI k1 (aI k2 (aI k3 (aI k4 k5)))) ae
def jT (s : Sk) : Int := if s.p.k = 1 then vTl s.tl else if s.p.k = 2 then vCm s.cm else if s.p.k = 3 then vLl s.ll else if s.p.k = 4 then vTp s.tp else if s.p.k = 5 then vFq s.fq else vRk s.rk
def parP (s : Sk) : Prop := if s.p.k = 1 then True else if s.p.k = 2 then s.cm.d = s.p.d ∧ s.cm.z = s.p.z ∧ s.cm.s = s.p.s else if s.p.k = 3 then s.ll.p = s.p.z ∧ s.ll.s = s.p.s else if s.p.k = 4 then s.tp.z = s.p.z else if s.p.k = 5 then s.fq.z = s.p.z else s.rk.z = s.p.z
instance (s : Sk) : Decidable (parP s) := by unfold parP; infer_instance
def vSk (s : Sk) : Int := if vp s.p.k s.p.z s.p.d s.p.s ≠ 0 then vp s.p.k s.p.z s.p.d s.p.s else if jT s ≠ 0 then jT s else if parP s then (if bK s (az s) = true then 0 else 18) else 18
theorem wU (s : Sk) (h : vp s.p.k s.p.z s.p.d s.p.s ≠ 0) : Pg.Good Tryz.prog 18 [.agg (skF s)] (vi (vSk s)) := by
 have h1 := aF s.p.k s.p.z s.p.d s.p.s
 unfold vSk
 rw [if_pos h]
 generalize vp s.p.k s.p.z s.p.d s.p.s = e at *
 obtain ⟨⟨pk, pz, pd, ps⟩, ⟨t1, t2, t3⟩, ⟨c1, c2, c3, c4, c5⟩, ⟨l1, l2, l3⟩, ⟨e1, e2, e3, e4⟩, ⟨f1, f2, f3, f4, f5⟩, ⟨r1, r2, r3, r4, r5⟩⟩ := s
 simp only at *
 refine gI oD Tryz.func18 Tryz.results18 ?_
 exact wRA trivial h1 ae
theorem vO (s : Sk) (ok : s.Ok) (hk : s.p.k = 1) (h : vp s.p.k s.p.z s.p.d s.p.s = 0) : Pg.Good Tryz.prog 18 [.agg (skF s)] (vi (vSk s)) := by
 have h1 := aF s.p.k s.p.z s.p.d s.p.s
 rw [h] at h1
 have h2 := kJ s.tl
 have h3 := kR s
 have h4 := kS s (az s) ok (ja ok)
 have e0 : vSk s = if vTl s.tl ≠ 0 then vTl s.tl else if True then (if bK s (az s) = true then 0 else 18) else 18 := by
  unfold vSk jT parP
  rw [if_neg (fun h' => h' h)]
  simp [hk]
 rw [e0]
 generalize bK s (az s) = sm at *
 generalize az s = s' at *
 generalize vTl s.tl = ve at *
 clear ok
 obtain ⟨⟨pk, pz, pd, ps⟩, ⟨t1, t2, t3⟩, ⟨c1, c2, c3, c4, c5⟩, ⟨l1, l2, l3⟩, ⟨e1, e2, e3, e4⟩, ⟨f1, f2, f3, f4, f5⟩, ⟨r1, r2, r3, r4, r5⟩⟩ := s
 simp only at *
 subst hk
 by_cases q : ve = 0
 ·rw [if_neg (by omega)]
  subst q
  rw [if_pos trivial]
  cases sm
  ·rw [if_neg (by simp)]
   refine gI oG Tryz.func18 Tryz.results18 ?_
   exact wRG (aI @Bool.and_true (aI @Bool.true_and (aI @Bool.false_and (aI @Bool.and_false (aI @Bool.not_true @Bool.not_false))))) (aI h1 (aI h2 (aI h3 h4))) ae
  ·rw [if_pos rfl]
   refine gI oG Tryz.func18 Tryz.results18 ?_
   exact wRG (aI @Bool.and_true (aI @Bool.true_and (aI @Bool.false_and (aI @Bool.and_false (aI @Bool.not_true @Bool.not_false))))) (aI h1 (aI h2 (aI h3 h4))) ae
 ·rw [if_pos q]
  refine gI oG Tryz.func18 Tryz.results18 ?_
  exact wRG (aI @Bool.and_true (aI @Bool.true_and (aI @Bool.false_and (aI @Bool.and_false (aI @Bool.not_true @Bool.not_false))))) (aI h1 h2) ae
theorem vP (s : Sk) (ok : s.Ok) (hk : s.p.k = 2) (h : vp s.p.k s.p.z s.p.d s.p.s = 0) : Pg.Good Tryz.prog 18 [.agg (skF s)] (vi (vSk s)) := by
 have h1 := aF s.p.k s.p.z s.p.d s.p.s
 rw [h] at h1
 have h2 := iQ s.cm
 have h3 := kR s
 have h4 := kS s (az s) ok (ja ok)
 have e0 : vSk s = if vCm s.cm ≠ 0 then vCm s.cm else if s.cm.d = s.p.d ∧ s.cm.z = s.p.z ∧ s.cm.s = s.p.s then (if bK s (az s) = true then 0 else 18) else 18 := by
  unfold vSk jT parP
  rw [if_neg (fun h' => h' h)]
  simp [hk]
 rw [e0]
 generalize bK s (az s) = sm at *
 generalize az s = s' at *
 generalize vCm s.cm = ve at *
 clear ok
 obtain ⟨⟨pk, pz, pd, ps⟩, ⟨t1, t2, t3⟩, ⟨c1, c2, c3, c4, c5⟩, ⟨l1, l2, l3⟩, ⟨e1, e2, e3, e4⟩, ⟨f1, f2, f3, f4, f5⟩, ⟨r1, r2, r3, r4, r5⟩⟩ := s
 simp only at *
 subst hk
 by_cases q : ve = 0
 ·rw [if_neg (by omega)]
  subst q
  by_cases w0 : c1 = pd
  ·by_cases w1 : c2 = pz
   ·by_cases w2 : c3 = ps
    ·rw [if_pos ⟨w0, w1, w2⟩]
     cases sm
     ·rw [if_neg (by simp)]
      refine gI oG Tryz.func18 Tryz.results18 ?_
      exact wRG (aI @Bool.and_true (aI @Bool.true_and (aI @Bool.false_and (aI @Bool.and_false (aI @Bool.not_true @Bool.not_false))))) (aI h1 (aI h2 (aI h3 h4))) ae
     ·rw [if_pos rfl]
      refine gI oG Tryz.func18 Tryz.results18 ?_
      exact wRG (aI @Bool.and_true (aI @Bool.true_and (aI @Bool.false_and (aI @Bool.and_false (aI @Bool.not_true @Bool.not_false))))) (aI h1 (aI h2 (aI h3 h4))) ae
    ·rw [if_neg (fun h => w2 h.2.2)]
     refine gI oG Tryz.func18 Tryz.results18 ?_
     exact wRG (aI @Bool.and_true (aI @Bool.true_and (aI @Bool.false_and (aI @Bool.and_false (aI @Bool.not_true @Bool.not_false))))) (aI h1 h2) ae
   ·rw [if_neg (fun h => w1 h.2.1)]
    refine gI oG Tryz.func18 Tryz.results18 ?_
    exact wRG (aI @Bool.and_true (aI @Bool.true_and (aI @Bool.false_and (aI @Bool.and_false (aI @Bool.not_true @Bool.not_false))))) (aI h1 h2) ae
  ·rw [if_neg (fun h => w0 h.1)]
   refine gI oG Tryz.func18 Tryz.results18 ?_
   exact wRG (aI @Bool.and_true (aI @Bool.true_and (aI @Bool.false_and (aI @Bool.and_false (aI @Bool.not_true @Bool.not_false))))) (aI h1 h2) ae
 ·rw [if_pos q]
  refine gI oG Tryz.func18 Tryz.results18 ?_
  exact wRG (aI @Bool.and_true (aI @Bool.true_and (aI @Bool.false_and (aI @Bool.and_false (aI @Bool.not_true @Bool.not_false))))) (aI h1 h2) ae
theorem vS (s : Sk) (ok : s.Ok) (hk : s.p.k = 3) (h : vp s.p.k s.p.z s.p.d s.p.s = 0) : Pg.Good Tryz.prog 18 [.agg (skF s)] (vi (vSk s)) := by
 have h1 := aF s.p.k s.p.z s.p.d s.p.s
 rw [h] at h1
 have h2 := jS s.ll ok.ln
 have h3 := kR s
 have h4 := kS s (az s) ok (ja ok)
 have e0 : vSk s = if vLl s.ll ≠ 0 then vLl s.ll else if s.ll.p = s.p.z ∧ s.ll.s = s.p.s then (if bK s (az s) = true then 0 else 18) else 18 := by
  unfold vSk jT parP
  rw [if_neg (fun h' => h' h)]
  simp [hk]
 rw [e0]
 generalize bK s (az s) = sm at *
 generalize az s = s' at *
 generalize vLl s.ll = ve at *
 clear ok
 obtain ⟨⟨pk, pz, pd, ps⟩, ⟨t1, t2, t3⟩, ⟨c1, c2, c3, c4, c5⟩, ⟨l1, l2, l3⟩, ⟨e1, e2, e3, e4⟩, ⟨f1, f2, f3, f4, f5⟩, ⟨r1, r2, r3, r4, r5⟩⟩ := s
 simp only at *
 subst hk
 by_cases q : ve = 0
 ·rw [if_neg (by omega)]
  subst q
  by_cases w0 : l1 = pz
  ·by_cases w1 : l2 = ps
   ·rw [if_pos ⟨w0, w1⟩]
    cases sm
    ·rw [if_neg (by simp)]
     refine gI oG Tryz.func18 Tryz.results18 ?_
     exact wRG (aI @Bool.and_true (aI @Bool.true_and (aI @Bool.false_and (aI @Bool.and_false (aI @Bool.not_true @Bool.not_false))))) (aI h1 (aI h2 (aI h3 h4))) ae
    ·rw [if_pos rfl]
     refine gI oG Tryz.func18 Tryz.results18 ?_
     exact wRG (aI @Bool.and_true (aI @Bool.true_and (aI @Bool.false_and (aI @Bool.and_false (aI @Bool.not_true @Bool.not_false))))) (aI h1 (aI h2 (aI h3 h4))) ae
   ·rw [if_neg (fun h => w1 h.2)]
    refine gI oG Tryz.func18 Tryz.results18 ?_
    exact wRG (aI @Bool.and_true (aI @Bool.true_and (aI @Bool.false_and (aI @Bool.and_false (aI @Bool.not_true @Bool.not_false))))) (aI h1 h2) ae
  ·rw [if_neg (fun h => w0 h.1)]
   refine gI oG Tryz.func18 Tryz.results18 ?_
   exact wRG (aI @Bool.and_true (aI @Bool.true_and (aI @Bool.false_and (aI @Bool.and_false (aI @Bool.not_true @Bool.not_false))))) (aI h1 h2) ae
 ·rw [if_pos q]
  refine gI oG Tryz.func18 Tryz.results18 ?_
  exact wRG (aI @Bool.and_true (aI @Bool.true_and (aI @Bool.false_and (aI @Bool.and_false (aI @Bool.not_true @Bool.not_false))))) (aI h1 h2) ae
theorem vT (s : Sk) (ok : s.Ok) (hk : s.p.k = 4) (h : vp s.p.k s.p.z s.p.d s.p.s = 0) : Pg.Good Tryz.prog 18 [.agg (skF s)] (vi (vSk s)) := by
 have h1 := aF s.p.k s.p.z s.p.d s.p.s
 rw [h] at h1
 have h2 := lY s.tp ok.to ok.tn
 have h3 := kR s
 have h4 := kS s (az s) ok (ja ok)
 have e0 : vSk s = if vTp s.tp ≠ 0 then vTp s.tp else if s.tp.z = s.p.z then (if bK s (az s) = true then 0 else 18) else 18 := by
  unfold vSk jT parP
  rw [if_neg (fun h' => h' h)]
  simp [hk]
 rw [e0]
 generalize bK s (az s) = sm at *
 generalize az s = s' at *
 generalize vTp s.tp = ve at *
 clear ok
 obtain ⟨⟨pk, pz, pd, ps⟩, ⟨t1, t2, t3⟩, ⟨c1, c2, c3, c4, c5⟩, ⟨l1, l2, l3⟩, ⟨e1, e2, e3, e4⟩, ⟨f1, f2, f3, f4, f5⟩, ⟨r1, r2, r3, r4, r5⟩⟩ := s
 simp only at *
 subst hk
 by_cases q : ve = 0
 ·rw [if_neg (by omega)]
  subst q
  by_cases w0 : e1 = pz
  ·rw [if_pos w0]
   cases sm
   ·rw [if_neg (by simp)]
    refine gI oG Tryz.func18 Tryz.results18 ?_
    exact wRG (aI @Bool.and_true (aI @Bool.true_and (aI @Bool.false_and (aI @Bool.and_false (aI @Bool.not_true @Bool.not_false))))) (aI h1 (aI h2 (aI h3 h4))) ae
   ·rw [if_pos rfl]
    refine gI oG Tryz.func18 Tryz.results18 ?_
    exact wRG (aI @Bool.and_true (aI @Bool.true_and (aI @Bool.false_and (aI @Bool.and_false (aI @Bool.not_true @Bool.not_false))))) (aI h1 (aI h2 (aI h3 h4))) ae
  ·rw [if_neg (fun h => w0 h)]
   refine gI oG Tryz.func18 Tryz.results18 ?_
   exact wRG (aI @Bool.and_true (aI @Bool.true_and (aI @Bool.false_and (aI @Bool.and_false (aI @Bool.not_true @Bool.not_false))))) (aI h1 h2) ae
 ·rw [if_pos q]
  refine gI oG Tryz.func18 Tryz.results18 ?_
  exact wRG (aI @Bool.and_true (aI @Bool.true_and (aI @Bool.false_and (aI @Bool.and_false (aI @Bool.not_true @Bool.not_false))))) (aI h1 h2) ae
theorem vU (s : Sk) (ok : s.Ok) (hk : s.p.k = 5) (h : vp s.p.k s.p.z s.p.d s.p.s = 0) : Pg.Good Tryz.prog 18 [.agg (skF s)] (vi (vSk s)) := by
 have h1 := aF s.p.k s.p.z s.p.d s.p.s
 rw [h] at h1
 have h2 := iR s.fq ok.fo ok.fn
 have h3 := kR s
 have h4 := kS s (az s) ok (ja ok)
 have e0 : vSk s = if vFq s.fq ≠ 0 then vFq s.fq else if s.fq.z = s.p.z then (if bK s (az s) = true then 0 else 18) else 18 := by
  unfold vSk jT parP
  rw [if_neg (fun h' => h' h)]
  simp [hk]
 rw [e0]
 generalize bK s (az s) = sm at *
 generalize az s = s' at *
 generalize vFq s.fq = ve at *
 clear ok
 obtain ⟨⟨pk, pz, pd, ps⟩, ⟨t1, t2, t3⟩, ⟨c1, c2, c3, c4, c5⟩, ⟨l1, l2, l3⟩, ⟨e1, e2, e3, e4⟩, ⟨f1, f2, f3, f4, f5⟩, ⟨r1, r2, r3, r4, r5⟩⟩ := s
 simp only at *
 subst hk
 by_cases q : ve = 0
 ·rw [if_neg (by omega)]
  subst q
  by_cases w0 : f1 = pz
  ·rw [if_pos w0]
   cases sm
   ·rw [if_neg (by simp)]
    refine gI oG Tryz.func18 Tryz.results18 ?_
    exact wRG (aI @Bool.and_true (aI @Bool.true_and (aI @Bool.false_and (aI @Bool.and_false (aI @Bool.not_true @Bool.not_false))))) (aI h1 (aI h2 (aI h3 h4))) ae
   ·rw [if_pos rfl]
    refine gI oG Tryz.func18 Tryz.results18 ?_
    exact wRG (aI @Bool.and_true (aI @Bool.true_and (aI @Bool.false_and (aI @Bool.and_false (aI @Bool.not_true @Bool.not_false))))) (aI h1 (aI h2 (aI h3 h4))) ae
  ·rw [if_neg (fun h => w0 h)]
   refine gI oG Tryz.func18 Tryz.results18 ?_
   exact wRG (aI @Bool.and_true (aI @Bool.true_and (aI @Bool.false_and (aI @Bool.and_false (aI @Bool.not_true @Bool.not_false))))) (aI h1 h2) ae
 ·rw [if_pos q]
  refine gI oG Tryz.func18 Tryz.results18 ?_
  exact wRG (aI @Bool.and_true (aI @Bool.true_and (aI @Bool.false_and (aI @Bool.and_false (aI @Bool.not_true @Bool.not_false))))) (aI h1 h2) ae
theorem vV (s : Sk) (ok : s.Ok) (hk : s.p.k = 6) (h : vp s.p.k s.p.z s.p.d s.p.s = 0) : Pg.Good Tryz.prog 18 [.agg (skF s)] (vi (vSk s)) := by
 have h1 := aF s.p.k s.p.z s.p.d s.p.s
 rw [h] at h1
 have h2 := kP s.rk ok.ro ok.rn ok.rm
 have h3 := kR s
 have h4 := kS s (az s) ok (ja ok)
 have e0 : vSk s = if vRk s.rk ≠ 0 then vRk s.rk else if s.rk.z = s.p.z then (if bK s (az s) = true then 0 else 18) else 18 := by
  unfold vSk jT parP
  rw [if_neg (fun h' => h' h)]
  simp [hk]
 rw [e0]
 generalize bK s (az s) = sm at *
 generalize az s = s' at *
 generalize vRk s.rk = ve at *
 clear ok
 obtain ⟨⟨pk, pz, pd, ps⟩, ⟨t1, t2, t3⟩, ⟨c1, c2, c3, c4, c5⟩, ⟨l1, l2, l3⟩, ⟨e1, e2, e3, e4⟩, ⟨f1, f2, f3, f4, f5⟩, ⟨r1, r2, r3, r4, r5⟩⟩ := s
 simp only at *
 subst hk
 by_cases q : ve = 0
 ·rw [if_neg (by omega)]
  subst q
  by_cases w0 : r1 = pz
  ·rw [if_pos w0]
   cases sm
   ·rw [if_neg (by simp)]
    refine gI oG Tryz.func18 Tryz.results18 ?_
    exact wRG (aI @Bool.and_true (aI @Bool.true_and (aI @Bool.false_and (aI @Bool.and_false (aI @Bool.not_true @Bool.not_false))))) (aI h1 (aI h2 (aI h3 h4))) ae
   ·rw [if_pos rfl]
    refine gI oG Tryz.func18 Tryz.results18 ?_
    exact wRG (aI @Bool.and_true (aI @Bool.true_and (aI @Bool.false_and (aI @Bool.and_false (aI @Bool.not_true @Bool.not_false))))) (aI h1 (aI h2 (aI h3 h4))) ae
  ·rw [if_neg (fun h => w0 h)]
   refine gI oG Tryz.func18 Tryz.results18 ?_
   exact wRG (aI @Bool.and_true (aI @Bool.true_and (aI @Bool.false_and (aI @Bool.and_false (aI @Bool.not_true @Bool.not_false))))) (aI h1 h2) ae
 ·rw [if_pos q]
  refine gI oG Tryz.func18 Tryz.results18 ?_
  exact wRG (aI @Bool.and_true (aI @Bool.true_and (aI @Bool.false_and (aI @Bool.and_false (aI @Bool.not_true @Bool.not_false))))) (aI h1 h2) ae
theorem dH (s : Sk) (ok : s.Ok) : Pg.Good Tryz.prog 18 [.agg (skF s)] (vi (vSk s)) := by
 by_cases h : vp s.p.k s.p.z s.p.d s.p.s = 0
 ·have hk : s.p.k = 1 ∨ s.p.k = 2 ∨ s.p.k = 3 ∨ s.p.k = 4 ∨ s.p.k = 5 ∨ s.p.k = 6 := by unfold vp at h; repeat' split at h <;> omega
  rcases hk with hk | hk | hk | hk | hk | hk
  ·exact vO s ok hk h
  ·exact vP s ok hk h
  ·exact vS s ok hk h
  ·exact vT s ok hk h
  ·exact vU s ok hk h
  ·exact vV s ok hk h
 ·exact wU s h
theorem CV (z : Int) (h : 1 ≤ z ∧ z ≤ 32) : Pg.Good Tryz.prog 203 [vi z] (vb true) := by
 refine gI oW Tryz.func203 Tryz.results203 ?_
 exact wR trivial trivial ae
theorem JX (z : Int) (h : ¬ (1 ≤ z ∧ z ≤ 32)) : Pg.Good Tryz.prog 203 [vi z] (vb false) := by
 by_cases h1 : 1 ≤ z
 ·refine gI oW Tryz.func203 Tryz.results203 ?_
  exact wR trivial trivial ae
 ·refine gI oW Tryz.func203 Tryz.results203 ?_
  exact wR trivial trivial ae
theorem CW (z : Int) (h : 1 ≤ z ∧ z ≤ 32) : Pg.Good Tryz.prog 200 [vi z] (vb true) := by
 refine gI oW Tryz.func200 Tryz.results200 ?_
 exact wR trivial trivial ae
theorem JY (z : Int) (h : ¬ (1 ≤ z ∧ z ≤ 32)) : Pg.Good Tryz.prog 200 [vi z] (vb false) := by
 by_cases h1 : 1 ≤ z
 ·refine gI oW Tryz.func200 Tryz.results200 ?_
  exact wR trivial trivial ae
 ·refine gI oW Tryz.func200 Tryz.results200 ?_
  exact wR trivial trivial ae
theorem CX (z : Int) (h : 2 ≤ z ∧ z ≤ 32 ∧ z % 2 = 0) : Pg.Good Tryz.prog 206 [vi z] (vb true) := by
 refine gI oW Tryz.func206 Tryz.results206 ?_
 exact wR @sQ trivial ae
theorem JZ (z : Int) (h : ¬ (2 ≤ z ∧ z ≤ 32 ∧ z % 2 = 0)) : Pg.Good Tryz.prog 206 [vi z] (vb false) := by
 by_cases h1 : 2 ≤ z
 ·by_cases h2 : z ≤ 32
  ·have et : z.tmod 2 = z % 2 := sQ _ _ (by omega)
   refine gI oW Tryz.func206 Tryz.results206 ?_
   exact wR @et trivial ae
  ·refine gI oW Tryz.func206 Tryz.results206 ?_
   exact wR trivial trivial ae
 ·refine gI oW Tryz.func206 Tryz.results206 ?_
  exact wR trivial trivial ae
theorem Yf (x : Fq) (ho : octE x.e) (hn : x.e.length ≤ 1000000) : Pg.Good Tryz.prog 122 [.agg (fqF x)] (vi (vFq x)) := by
 obtain ⟨z, t, lo, l, b⟩ := x
 simp only at ho hn
 unfold vFq
 simp only
 have hel := aj l
 by_cases c1 : (1 ≤ z ∧ z ≤ 32) ∧ (0 ≤ t ∧ t ≤ 1099511627776) ∧ (0 ≤ lo ∧ lo ≤ 1099511627776)
 ·rw [if_neg (fun h => h c1)]
  have k1 := CV z c1.1
  by_cases c2 : (l.length : Int) > z
  ·rw [if_pos c2]
   refine gI oW Tryz.func122 Tryz.results122 ?_
   exact wR @aj k1 ae
  ·rw [if_neg c2]
   refine gI oW Tryz.func122 Tryz.results122 ?_
   refine wS @aj k1 ?_
   generalize hE : iG (kN l) l.length 0 = E
   refine aK (fun i : Nat => mkA [(1, .ref 0 0), (36, fzv l), (37, vi l.length), (38, vi i)] [(0, (36, fqF ⟨z, t, lo, l, b⟩))] 1 (fun _ => .top)) (fun i => i ≤ l.length ∧ iG (kN l) (l.length - i) i = E) (fun i => l.length - i) 0 [] [0] ?_ ⟨Nat.zero_le _, hE⟩ ?_
   ·exact kE
   ·rintro i ⟨hi, he⟩
    rcases Nat.lt_or_ge i l.length with hlt | hge
    ·have hg := dw l i hlt
     have hox := eu ho i
     have hoy := eu ho (i - 1)
     rw [show l.length - i = (l.length - (i + 1)) + 1 by omega] at he
     have k3 := zg (l.getD i eD).1
     have et : kN l i = if dS (l.getD i eD).1 = false then 7 else if ¬ ((1 ≤ (l.getD i eD).2.1 ∧ (l.getD i eD).2.1 ≤ 1099511627776) ∧ (l.getD i eD).2.2 = 0) then 5 else if 0 < i ∧ leK (l.getD i eD).1 (l.getD (i - 1) eD).1 = true then 19 else 0 := rfl
     generalize hxx : l.getD i eD = x at *
     obtain ⟨xk, xc, xe⟩ := x
     simp only at hox k3 et hg
     have ext : ∀ v : Int, v ≠ 0 → kN l i = v → v = E := fun v h0 h1 => by rw [lh _ _ _ (by omega)] at he; omega
     cases q1 : dS xk
     ·rw [q1] at k3 et
      have := ext 7 (by omega) (by rw [et]; rfl)
      subst this
      exact wR (aI @aj @hg) k3 ae
     ·rw [q1] at k3 et
      rw [if_neg (by simp)] at et
      by_cases q2 : (1 ≤ xc ∧ xc ≤ 1099511627776) ∧ xe = 0
      ·rw [if_neg (fun h => h q2)] at et
       have q0 := q2.2
       subst q0
       by_cases q4 : 0 < i
       ·have hg1 := dw l (i - 1) (by omega)
        have hi1 : ((i : Int) - 1).toNat = i - 1 := by omega
        generalize l.getD (i - 1) eD = y at *
        have hd := uQ hox hoy
        have hle : (kl xk y.1 || decide (sB xk = sB y.1)) = leK xk y.1 := by rw [hd]; rfl
        cases q5 : leK xk y.1
        ·rw [if_neg (by rw [q5]; simp)] at et
         rw [q5] at hle
         rw [fO _ _ _ et] at he
         refine wS (aI @pgv (aI @iE (aI @hle (aI @hg (aI @hi1 @hg1))))) k3 ?_
         exact bE (i + 1) [] [0] ⟨hlt, he⟩
        ·rw [if_pos ⟨q4, q5⟩] at et
         rw [q5] at hle
         have := ext 19 (by omega) et
         subst this
         exact wR (aI @pgv (aI @iE (aI @hle (aI @hg (aI @hi1 @hg1))))) k3 ae
       ·rw [if_neg (by omega)] at et
        rw [fO _ _ _ et] at he
        refine wS (aI @pgv @hg) k3 ?_
        exact bE (i + 1) [] [0] ⟨hlt, he⟩
      ·rw [if_pos q2] at et
       have := ext 5 (by omega) et
       subst this
       by_cases q6 : 1 ≤ xc
       ·by_cases q7 : xc ≤ 1099511627776
        ·have q8 : xe ≠ 0 := fun h => q2 ⟨⟨q6, q7⟩, h⟩
         exact wR (aI @aj @hg) k3 ae
        ·exact wR (aI @aj @hg) k3 ae
       ·exact wR (aI @aj @hg) k3 ae
    ·have : i = l.length := by omega
     subst this
     rw [Nat.sub_self] at he
     have he0 : 0 = E := he
     subst he0
     exact wR @aj trivial ae
 ·rw [if_pos c1]
  by_cases c2 : 1 ≤ z ∧ z ≤ 32
  ·have k1 := CV z c2
   by_cases a0 : 0 ≤ t
   ·by_cases a1 : t ≤ 1099511627776
    ·by_cases a2 : 0 ≤ lo
     ·refine gI oW Tryz.func122 Tryz.results122 ?_
      exact wR trivial k1 ae
     ·refine gI oW Tryz.func122 Tryz.results122 ?_
      exact wR trivial k1 ae
    ·refine gI oW Tryz.func122 Tryz.results122 ?_
     exact wR trivial k1 ae
   ·refine gI oW Tryz.func122 Tryz.results122 ?_
    exact wR trivial k1 ae
  ·have k1 := JX z c2
   refine gI oW Tryz.func122 Tryz.results122 ?_
   exact wR trivial k1 ae
theorem Yg (x : Rk) (hv : ∀ l ∈ x.v, octL l) (hn : x.v.length ≤ 1000000) (hn2 : ∀ l ∈ x.v, l.length ≤ 1000000) : Pg.Good Tryz.prog 127 [.agg (rkF x)] (vi (vRk x)) := by
 obtain ⟨z, t, lo, v, b⟩ := x
 simp only at hv hn hn2
 have hv' : ∀ i, octL (v.getD i []) := fun i => by
  rcases Nat.lt_or_ge i v.length with hi | hi
  ·have : v.getD i [] = v[i] := by simp [List.getD, hi]
   rw [this]; exact hv _ (List.getElem_mem hi)
  ·have : v.getD i [] = [] := by simp [List.getD, hi]
   rw [this]; intro e he; cases he
 unfold vRk
 simp only
 have hel := aS v
 by_cases c1 : ((2 ≤ z ∧ z ≤ 32) ∧ z % 2 = 0) ∧ (0 ≤ t ∧ t ≤ 1099511627776) ∧ (0 ≤ lo ∧ lo ≤ 1099511627776)
 ·rw [if_neg (fun h => h c1)]
  have k1 := CX z ⟨c1.1.1.1, c1.1.1.2, c1.1.2⟩
  by_cases c2 : v.length > 41
  ·rw [if_pos c2]
   refine gI oW Tryz.func127 Tryz.results127 ?_
   exact wR @aS k1 ae
  ·rw [if_neg c2]
   refine gI oW Tryz.func127 Tryz.results127 ?_
   refine wS @aS k1 ?_
   generalize hE : iG (jr z v) v.length 0 = E
   generalize hR : (if E ≠ 0 then E else CB t v) = R
   refine aK (fun i : Nat => mkA [(1, .ref 0 0), (3, vi (unR v i)), (38, fzl v), (39, vi v.length), (40, vi i)] [(0, (39, rkF ⟨z, t, lo, v, b⟩))] 1 (fun _ => .top)) (fun i => i ≤ v.length ∧ iG (jr z v) (v.length - i) i = E ∧ ∀ j, j < i → (v.getD j []).length < 32) (fun i => v.length - i) 0 [] [0] ?_ ⟨Nat.zero_le _, hE, fun j hj => by omega⟩ ?_
   ·exact kE
    all_goals first | exact aX rfl | skip
   ·rintro h ⟨hi, he, hlt32⟩
    rcases Nat.lt_or_ge h v.length with hlt | hge
    ·have hg := jo v h hlt
     have hoct := hv' h
     have hun := P7 v h (by omega) hlt32
     rw [show v.length - h = (v.length - (h + 1)) + 1 by omega] at he
     have eRk : jr z v h = if ((v.getD h []).length : Int) ≥ z then 11 else iG (pI (v.getD h [])) (v.getD h []).length 0 := rfl
     have eun : unR v (h + 1) = unR v h + (v.getD h []).length * 2 ^ h := rfl
     have ext : ∀ c : Int, c ≠ 0 → jr z v h = c → c = R := fun c h0 h1 => by
      rw [lh _ _ _ (by omega)] at he
      rw [← hR, ← he, h1, if_pos h0]
     have hlt32' : (v.getD h []).length < 32 → ∀ j, j < h + 1 → (v.getD j []).length < 32 := fun h0 j hj => by
      rcases Nat.lt_or_ge j h with h1 | h1
      ·exact hlt32 j h1
      ·have : j = h := by omega
       rw [this]; exact h0
     generalize hlev : v.getD h [] = lev at *
     have hsl := bU lev
     generalize hS : unR v h = S at *
     by_cases q1 : (lev.length : Int) ≥ z
     ·rw [if_pos q1] at eRk
      have := ext 11 (by omega) eRk
      subst this
      exact wR (aI @pgv (aI @hel (aI @hg @hsl))) trivial ae
     ·rw [if_neg q1] at eRk
      have hlt32'' := hlt32' (by omega)
      obtain ⟨hsh, hsh1, hsh2⟩ := P8 lev.length h (by omega) (by omega)
      refine wS (aI @pgv (aI @hel (aI @hg @hsl))) trivial ?_
      refine aK (fun i : Nat => mkA [(1, .ref 0 0), (3, vi S), (4, vi h), (5, fzs lev), (38, fzl v), (39, vi v.length), (40, vi h), (50, fzs lev), (51, vi lev.length), (52, vi i)] [(0, (39, rkF ⟨z, t, lo, v, b⟩))] 1 (fun _ => .top)) (fun i => i ≤ lev.length ∧ iG (pI lev) (lev.length - i) i = jr z v h) (fun i => lev.length - i) 0 [] [0] ?_ ⟨Nat.zero_le _, eRk.symm⟩ ?_
      ·exact kE
      ·rintro i ⟨hi2, he2⟩
       rcases Nat.lt_or_ge i lev.length with hlt2 | hge2
       ·have hg2 := iJ lev i hlt2
        rw [show lev.length - i = (lev.length - (i + 1)) + 1 by omega] at he2
        have k3 := zg (lev.getD i [])
        have eLv : pI lev i = if dS (lev.getD i []) = false then 7 else if 0 < i ∧ kl (lev.getD i []) (lev.getD (i - 1) []) = true then 19 else 0 := rfl
        have hox := l7 hoct i
        generalize lev.getD i [] = xk at *
        have ext2 : ∀ c : Int, c ≠ 0 → pI lev i = c → c = R := fun c h0 h1 => by
         rw [lh _ _ _ (by omega), h1] at he2
         exact ext c h0 he2.symm
        cases q2 : dS xk
        ·rw [q2] at k3 eLv
         have := ext2 7 (by omega) (by rw [eLv]; rfl)
         subst this
         exact wR (aI @pgv (aI @hel (aI @hg (aI @hsl @hg2)))) k3 ae
        ·rw [q2] at k3 eLv
         rw [if_neg (by simp)] at eLv
         by_cases q4 : 0 < i
         ·have hg3 := iJ lev (i - 1) (by omega)
          have hi1 : ((i : Int) - 1).toNat = i - 1 := by omega
          generalize lev.getD (i - 1) [] = yk at *
          cases q5 : kl xk yk
          ·rw [if_neg (by rw [q5]; simp)] at eLv
           rw [fO _ _ _ eLv] at he2
           refine wS (aI @pgv (aI @hel (aI @hg (aI @hsl (aI @hg2 (aI @hg3 (aI @hi1 (aI @iE @q5)))))))) k3 ?_
           exact bE (i + 1) [] [0] ⟨hlt2, he2⟩
          ·rw [if_pos ⟨q4, q5⟩] at eLv
           have := ext2 19 (by omega) eLv
           subst this
           exact wR (aI @pgv (aI @hel (aI @hg (aI @hsl (aI @hg2 (aI @hg3 (aI @hi1 (aI @iE @q5)))))))) k3 ae
         ·rw [if_neg (by omega)] at eLv
          rw [fO _ _ _ eLv] at he2
          refine wS (aI @pgv (aI @hel (aI @hg (aI @hsl @hg2)))) k3 ?_
          exact bE (i + 1) [] [0] ⟨hlt2, he2⟩
       ·have : i = lev.length := by omega
        subst this
        rw [Nat.sub_self] at he2
        have he3 : jr z v h = 0 := he2.symm
        rw [fO _ _ _ he3] at he
        refine wS (aI @pgv (aI @hel (aI @hg (aI @hsl @hsh)))) trivial ?_
        (refine aQ (h + 1) [] [0] (⟨hlt, he, hlt32''⟩) (by first | omega | (simp only [List.length_cons]; omega)) ?_; (refine bZ ?_ ?_ (fC _ _ _) (by decide) (by decide) (by decide) (by decide); (repeat' (first | exact trivial | refine bQ _ _ rfl rfl ?_ ?_)); all_goals (try simp only [pgs, pgl, pgx, pgf, pgw, bI, bV, bJ, bW, dJ, gK, eP, pgn, simprocAttr]); all_goals (try (repeat' (first | apply aI))); all_goals (try (first | exact trivial | exact aX (by omega) | exact dQ rfl | exact aP rfl rfl | exact dK rfl))))
        all_goals first | exact aX (by rw [eun]) | skip
    ·have : h = v.length := by omega
     subst this
     rw [Nat.sub_self] at he
     have he0 : 0 = E := he
     subst he0
     rw [if_neg (by omega)] at hR
     unfold CB at hR
     by_cases q6 : 0 < v.length
     ·have hg := jo v (v.length - 1) (by omega)
      have hi1 : ((v.length : Int) - 1).toNat = v.length - 1 := by omega
      generalize v.getD (v.length - 1) [] = lev at *
      have hsl := bU lev
      by_cases q7 : lev.length = 0
      ·rw [if_pos ⟨q6, q7⟩] at hR
       subst hR
       exact wR (aI @pgv (aI @hel (aI @hg (aI @hsl @hi1)))) trivial ae
      ·rw [if_neg (by omega)] at hR
       by_cases q8 : unR v v.length = t
       ·rw [if_neg (by omega)] at hR
        subst hR
        exact wR (aI @pgv (aI @hel (aI @hg (aI @hsl @hi1)))) trivial ae
       ·rw [if_pos q8] at hR
        subst hR
        exact wR (aI @pgv (aI @hel (aI @hg (aI @hsl @hi1)))) trivial ae
     ·rw [if_neg (by omega)] at hR
      by_cases q8 : unR v v.length = t
      ·rw [if_neg (by omega)] at hR
       subst hR
       exact wR (aI @pgv @hel) trivial ae
      ·rw [if_pos q8] at hR
       subst hR
       exact wR (aI @pgv @hel) trivial ae
 ·rw [if_pos c1]
  by_cases c2 : 2 ≤ z ∧ z ≤ 32 ∧ z % 2 = 0
  ·have k1 := CX z c2
   by_cases a0 : 0 ≤ t
   ·by_cases a1 : t ≤ 1099511627776
    ·by_cases a2 : 0 ≤ lo
     ·refine gI oW Tryz.func127 Tryz.results127 ?_
      exact wR trivial k1 ae
     ·refine gI oW Tryz.func127 Tryz.results127 ?_
      exact wR trivial k1 ae
    ·refine gI oW Tryz.func127 Tryz.results127 ?_
     exact wR trivial k1 ae
   ·refine gI oW Tryz.func127 Tryz.results127 ?_
    exact wR trivial k1 ae
  ·have k1 := JZ z c2
   refine gI oW Tryz.func127 Tryz.results127 ?_
   exact wR trivial k1 ae
end Go.Proofs.YtaoejnjkmfkbeaaGreat
section
namespace Go.Pg
open Go
section
variable {P : Program} [Tb P] {s : St} {d : Option Nat} {ty : TypeId} {pos : String} {af : Array Edge} {g : Option (Nat × Bool)} {K : Kd → St → Prop}
theorem wV (t : TypeId) : ai P s ⟨d, .makeMap t none, ty, pos, af, g⟩ K = eH (nN P s t) d .x K := by simp only [ai, kqo, aO, kx, qv, rv, xv, zv, Op.operands, aH, aC, au, or_false, false_or]
theorem zA (t : TypeId) (x i : Operand) (ok : Bool) : ai P s ⟨d, .lookup t x i ok, ty, pos, af, g⟩ K = iH (lkV P t (s.ev x) (s.ev i) ok) s d [s.ev x, s.ev i] K := by simp only [ai, kqo, aO, kx, qv, rv, xv, zv, Op.operands, List.map_toArray, List.map_cons, List.map_nil, aC, au, or_false]
theorem rY (t : TypeId) (m k x : Operand) : ai P s ⟨d, .mapUpdate t m k x, ty, pos, af, g⟩ K = eH (DF P s t (s.ev m) (s.ev k) (s.ev x)) d .x K := by simp only [ai, kqo, aO, kx, qv, rv, xv, zv, Op.operands, aH, aC, au, or_false, false_or]
end
section
variable (P : Program) (e : Nat → V) (b : Nat → Option (TypeId × List V)) (n : Nat) (h : Nat → V) (t tm : TypeId) (id : Nat) (es es' : List (ByteArray × Value)) (k : ByteArray) (v : Value)
theorem Qh : nN P ⟨e, b, n, h⟩ t = (ug P t).map fun _ => (.mp (.own n t) [], ⟨e, b, n + 1, h⟩) := rfl
theorem Yh : lkV P t (.mp (.own id tm) es) (.c (.string k)) false = (ug P t).bind fun p => if cO P p.1 = true then (iM P p.2).map fun z => .c ((pX es k).getD z) else none := rfl
theorem Yi : lkV P t (.mp (.own id tm) es) (.c (.string k)) true = (ug P t).bind fun p => if cO P p.1 = true then (iM P p.2).map fun z => .tup [.c ((pX es k).getD z), .c (.bool (pX es k).isSome)] else none := rfl
theorem Xc : DF P ⟨e, b, n, h⟩ t (.mp (.own id tm) es) (.c (.string k)) (.c v) = (ug P t).bind fun p => if cO P p.1 = true then some (.top, ⟨kG (fP id (jg es k v)) e, rP (fP id (jg es k v)) b, n, kG (fP id (jg es k v)) h⟩) else none := rfl
theorem J3 : fP id es' (.mp (.own id tm) es) = .mp (.own id tm) es' := if_pos rfl
theorem UN : fP id es' (.c v) = .c v := rfl
theorem Qi (j : Nat) (xs : List V) : fP id es' (.sl .fz j xs) = .sl .fz j xs := rfl
theorem Qj (j i : Nat) (xs : List V) : fP id es' (.sl (.own i t) j xs) = ak id (.sl (.own i t) j xs) := rfl
theorem J4 (c o : Nat) : fP id es' (.ref c o) = .ref c o := rfl
theorem J5 (l : List V) : fP id es' (.agg l) = ak id (.agg l) := rfl
theorem J6 (l : List V) : fP id es' (.tup l) = ak id (.tup l) := rfl
theorem Qk (f : FuncId) (l m : List V) : fP id es' (.fn f l m) = ak id (.fn f l m) := rfl
theorem J7 (j : Nat) (xs : List V) (i o : Nat) : fP id es' (.el .fz j xs i o) = .el .fz j xs i o := rfl
theorem J8 : fP id es' .top = .top := by show ak id .top = .top; unfold ak; split <;> rfl
theorem Xd (p : Tag → Bool) (q : Nat → Bool) (tp : Bool) (tg : Tag) : V.any p q tp (.mp tg es) = p tg := rfl
theorem Xe (τ : Tag → Tag) (ρ : Nat → Nat) (tg : Tag) : V.map τ ρ (.mp tg es) = .mp (τ tg) es := rfl
theorem J9 (i j : Nat) (hj : (j == i) = false) : ak i (.mp (.own j t) es) = .mp (.own j t) es := by
 show (if (j == i) = true then _ else _) = _
 rw [hj]; rfl
end
def pgp := aI @wV (aI @zA (aI @rY (aI Qh (aI Yh (aI Yi (aI Xc (aI J3 (aI UN (aI Qi (aI Qj (aI J4 (aI J5 (aI J6 (aI Qk (aI J7 (aI J8 (aI Xd (aI Xe J9))))))))))))))))))
end Go.Pg
end
namespace Go.Proofs.YtaoejnjkmfkbeaaGreat
open Go Go.Pg
theorem G5 : ∀ (a b : List UInt8), Lib.compareBytes a b = if Op.bytesLess a b = true then -1 else if Op.bytesLess b a = true then 1 else 0
 | [], [] => rfl
 | [], _ :: _ => rfl
 | _ :: _, [] => rfl
 | x :: a, y :: b => by
  have h := G5 a b
  unfold Lib.compareBytes
  simp only [Op.bytesLess, Bool.or_eq_true, decide_eq_true_eq, Bool.and_eq_true, beq_iff_eq]
  by_cases h1 : x < y
  ·simp [h1]
  ·by_cases h2 : y < x
   ·have hne : x ≠ y := fun e => by subst e; exact h1 h2
    simp [h1, h2, hne]
   ·have he : x = y := UInt8.le_antisymm (UInt8.not_lt.1 h2) (UInt8.not_lt.1 h1)
    subst he
    simp [h1, h]
def vW (a b : List Nat) : Int := if kl a b = true then -1 else if kl b a = true then 1 else 0
theorem Ql (a b : List Nat) : GoodX Tryz.prog 280 [vs a, vs b] (vi (vW a b)) := by
 rintro L w cargs ⟨_, _, rfl, rfl, _, _, rfl, rfl, rfl⟩
 refine ⟨_, ?_, rfl⟩
 rw [run_callFunc_extern Tryz.func280 (by kernel_rfl) (by kernel_rfl) (by kernel_rfl) (e := Extern.BytealgCompare.compare) (by kernel_rfl)]
 show ((Extern.BytealgCompare.compare #[.string (sB a), .string (sB b)]).run Tryz.prog w).andThen _ = _
 rw [Lib.run_compareString, G5, ← ByteArray.toList_eq, ← ByteArray.toList_eq]
 rfl
theorem CY (a b : List Nat) : Pg.Good Tryz.prog 256 [vs a, vs b] (vi (vW a b)) := by
 refine gI oW Tryz.func256 Tryz.results256 ?_
 (repeat' first | refine wP trivial trivial ?_ | refine cZ ((Ql a b).z _) ?_ | refine tS ?_ ?_ <;> intro hc | fail)
 exact rE []
theorem zB (a b : List Nat) : Pg.Good Tryz.prog 236 [vs a, vs b] (vi (vW a b)) := by
 refine gI oW Tryz.func236 Tryz.results236 ?_
 exact wR trivial (CY a b) ae
theorem mO (a : Int) : Pg.Good Tryz.prog 255 [vi a] (vb false) := by
 refine gI oW Tryz.func255 Tryz.results255 ?_
 exact wR trivial trivial ae
def Qm (a b : Int) : Int := if a < b then -1 else if b < a then 1 else 0
theorem Ko (a b : Int) : Pg.Good Tryz.prog 235 [vi a, vi b] (vi (Qm a b)) := by
 unfold Qm
 by_cases h1 : a < b
 ·rw [if_pos h1]
  refine gI oW Tryz.func235 Tryz.results235 ?_
  exact wR trivial (aI (mO a) (mO b)) ae
 ·rw [if_neg h1]
  by_cases h2 : b < a
  ·rw [if_pos h2]
   refine gI oW Tryz.func235 Tryz.results235 ?_
   exact wR trivial (aI (mO a) (mO b)) ae
  ·rw [if_neg h2]
   refine gI oW Tryz.func235 Tryz.results235 ?_
   exact wR trivial (aI (mO a) (mO b)) ae
def zC : List Int → Int
 | [] => 0
 | x :: l => if x = 0 then zC l else x
theorem ZC (l : List Int) (hn : l.length ≤ 1000000) : Pg.Good Tryz.prog 234 [fzi l] (vi (zC l)) := by
 have hil := ax l
 refine gI oW Tryz.func234 Tryz.results234 ?_
 refine wS @hil trivial ?_
 refine aK (fun i : Nat => mkA [(3, vi 0), (6, fzi l), (7, vi l.length), (8, vi i)] [] 0 (fun _ => .top)) (fun i => i ≤ l.length ∧ zC (l.drop i) = zC l) (fun i => l.length - i) 0 [] [] ?_ ⟨Nat.zero_le _, rfl⟩ ?_
 ·exact kE
 ·rintro i ⟨hi, he⟩
  rcases Nat.lt_or_ge i l.length with hlt | hge
  ·have hg := jm l i hlt
   rw [List.drop_eq_getElem_cons hlt] at he
   have hgd : l.getD i 0 = l[i] := by simp [List.getD, hlt]
   rw [hgd] at hg
   generalize l[i] = x at *
   by_cases h0 : x = 0
   ·subst h0
    have he2 : zC (l.drop (i + 1)) = zC l := he
    refine wS (aI @hil @hg) trivial ?_
    exact bE (i + 1) [] [] ⟨hlt, he2⟩
   ·have he2 : x = zC l := by rw [← he]; exact (if_neg h0).symm
    rw [← he2]
    exact wR (aI @hil @hg) trivial ae
  ·have : i = l.length := by omega
   subst this
   rw [List.drop_length] at he
   rw [← he]
   exact wR @hil trivial ae
def FK (a b : En) : Int := if b.2.1 < a.2.1 then -1 else if a.2.1 < b.2.1 then 1 else vW a.1 b.1
theorem UO (a b : En) : zC [Qm b.2.1 a.2.1, vW a.1 b.1] = FK a b := by
 unfold FK Qm
 by_cases h1 : b.2.1 < a.2.1
 ·rw [if_pos h1, if_pos h1]; rfl
 ·rw [if_neg h1, if_neg h1]
  by_cases h2 : a.2.1 < b.2.1
  ·rw [if_pos h2, if_pos h2]; rfl
  ·rw [if_neg h2, if_neg h2]
   show (if (0 : Int) = 0 then zC [vW a.1 b.1] else 0) = _
   rw [if_pos rfl]
   show (if vW a.1 b.1 = 0 then 0 else vW a.1 b.1) = _
   split
   ·rename_i h; rw [h]
   ·rfl
theorem UQ {a b : List Nat} : vW a b < 0 ↔ kl a b = true := by
 unfold vW
 by_cases h : kl a b = true
 ·simp [h]
 ·by_cases h2 : kl b a = true <;> simp [h, h2]
theorem UR (a b : En) : decide (FK a b < 0) = bfE a b := by
 unfold FK bfE
 by_cases h1 : b.2.1 < a.2.1
 ·simp [h1]
 ·by_cases h2 : a.2.1 < b.2.1
  ·have : ¬ a.2.1 = b.2.1 := by omega
   simp [h1, h2, this]
  ·have : a.2.1 = b.2.1 := by omega
   rw [if_neg h1, if_neg h2]
   simp only [this, Int.lt_irrefl, decide_false, Bool.false_or, decide_true, Bool.true_and]
   rw [Bool.eq_iff_iff, decide_eq_true_eq]
   exact UQ
theorem Kq (a b : En) : Pg.Good Tryz.prog 201 [.agg [vs a.1, vi a.2.1, vi a.2.2], .agg [vs b.1, vi b.2.1, vi b.2.2]] (vi (FK a b)) := by
 have h1 := Ko b.2.1 a.2.1
 have h2 := zB a.1 b.1
 have h3 := ZC [Qm b.2.1 a.2.1, vW a.1 b.1] (by simp)
 rw [UO] at h3
 refine gI oW Tryz.func201 Tryz.results201 ?_
 exact wR trivial (aI h1 (aI h2 h3)) ae
end Go.Proofs.YtaoejnjkmfkbeaaGreat
