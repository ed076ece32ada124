/-
  Merged texts.
-/
import Derived.Test.YtiohdbjggmmjcaaGreatWAU
import Derived.Test.YtiohdbjggmmjcaaGreatWAP
import Derived.Test.YtiohdbjggmmjcaaGreatWAT
import Derived.Test.YtiohdbjggmmjcaaGreatWAN
import Derived.Lib.Bytealg
import Derived.Laws.Externs
import Derived.Test.YtiohdbjggmmjcaaGreatWAS
set_option linter.unusedVariables false
set_option linter.unusedSimpArgs false
set_option linter.unusedSectionVars false
set_option linter.defProp false
set_option maxRecDepth 100000
set_option maxHeartbeats 8000000
namespace Go.Proofs.YtiohdbjggmmjcaaGreat
open Go Go.Pg
abbrev skC(s:Sk)(a b c d e:V):List V:=[vi s.p.k,vi s.p.z,vi s.p.d,vu s.p.s,vi s.tl.t,vi s.tl.i,vb s.tl.b,vi s.cm.d,vi s.cm.z,vu s.cm.s,a,vb s.cm.b,vi s.ll.p,vu s.ll.s,b,vi s.tp.z,vi s.tp.t,c,vb s.tp.b,vi s.fq.z,vi s.fq.t,vi s.fq.l,d,vb s.fq.b,vi s.rk.z,vi s.rk.t,vi s.rk.l,e,vb s.rk.b]
def orN(x:V)(y:V):Prop:=x=y∨(x=nls∧∃k,y = .sl .fz k [])
theorem BL{x y:V}(h:orN x y):wk1 x y:=by
 rcases h with rfl|⟨rfl,k,rfl⟩
 ·exact .inl rfl
 ·exact o5 _ _
theorem iy(s:Sk){a b c d e:V}(ha:orN a (fzi s.cm.c))(hb:orN b (fzi s.ll.r))(hc:orN c (fzv s.tp.e))(hd:orN d (fzv s.fq.e))(he:orN e (fzl s.rk.v)):wkV (.agg (skC s a b c d e)) (.agg (skF s)):=by
 refine .inr ⟨_,_,rfl,rfl, ?_⟩
 (repeat' (first|exact trivial|refine pJ (.inl rfl) ?_|refine pJ (BL ha) ?_|refine pJ (BL hb) ?_|refine pJ (BL hc) ?_|refine pJ (BL hd) ?_|refine pJ (BL he) ?_))
theorem nK(x:V):orN x x := .inl rfl
theorem aX(k:Nat):orN nls (.sl .fz k []) := .inr ⟨rfl,k,rfl⟩
structure Sk.Ok (s:Sk):Prop where
 ps:0≤s.p.s∧s.p.s<18446744073709551616
 cs:0≤s.cm.s∧s.cm.s<18446744073709551616
 ls:0≤s.ll.s∧s.ll.s<18446744073709551616
 cn:s.cm.c.length≤1000000
 ln:s.ll.r.length≤1000000
 to:octE s.tp.e
 tn:s.tp.e.length≤1000000
 fo:octE s.fq.e
 fn:s.fq.e.length≤1000000
 ro:∀l∈s.rk.v,octL l
 rn:s.rk.v.length≤1000000
 rm:∀l∈s.rk.v,l.length≤1000000
def aN(s:Sk):Sk:=⟨s.p,if s.p.k=1 then s.tl else Tl.o,if s.p.k=2 then s.cm else Cm.o,if s.p.k=3 then s.ll else Ll.o,if s.p.k=4 then s.tp else Tp.o,if s.p.k=5 then s.fq else Fq.o,if s.p.k=6 then s.rk else Rk.o⟩
theorem mP{s:Sk}(h:s.Ok):(aN s).Ok:=by
 refine⟨h.ps, ?_, ?_, ?_, ?_, ?_, ?_, ?_, ?_, ?_, ?_, ?_⟩
 all_goals (simp only[aN];split)
 ·exact h.cs
 ·exact⟨by decide,by decide⟩
 ·exact h.ls
 ·exact⟨by decide,by decide⟩
 ·exact h.cn
 ·exact Nat.zero_le _
 ·exact h.ln
 ·exact Nat.zero_le _
 ·exact h.to
 ·intro e he;cases he
 ·exact h.tn
 ·exact Nat.zero_le _
 ·exact h.fo
 ·intro e he;cases he
 ·exact h.fn
 ·exact Nat.zero_le _
 ·exact h.ro
 ·intro e he;cases he
 ·exact h.rn
 ·exact Nat.zero_le _
 ·exact h.rm
 ·intro e he;cases he
theorem pX(s:Sk):Gxx 99 [.agg (skF s)] (.agg (skF (aN s))):=by
 by_cases q1:s.p.k=1
 ·have eo:aN s=⟨s.p,s.tl,Cm.o,Ll.o,Tp.o,Fq.o,Rk.o⟩:=by simp [aN,q1]
  rw[eo]
  refine Good.fzr (r := .agg (skC ⟨s.p,s.tl,Cm.o,Ll.o,Tp.o,Fq.o,Rk.o⟩ nls nls nls nls nls)) ?_ rfl (iy ⟨s.p,s.tl,Cm.o,Ll.o,Tp.o,Fq.o,Rk.o⟩ (aX _) (aX _) (aX _) (aX _) (aX _))
  obtain⟨⟨pk,pz,pd,ps⟩,⟨t1,t2,t3⟩,⟨c1,c2,c3,c4,c5⟩,⟨l1,l2,l3⟩,⟨e1,e2,e3,e4⟩,⟨f1,f2,f3,f4,f5⟩,⟨r1,r2,r3,r4,r5⟩⟩:=s
  simp only at q1
  subst q1
  refine gI oD Tryz.func99 Tryz.results99 ?_
  exact wRA trivial trivial ay
 by_cases q2:s.p.k=2
 ·have eo:aN s=⟨s.p,Tl.o,s.cm,Ll.o,Tp.o,Fq.o,Rk.o⟩:=by simp [aN,q2]
  rw[eo]
  refine Good.fzr (r := .agg (skC ⟨s.p,Tl.o,s.cm,Ll.o,Tp.o,Fq.o,Rk.o⟩ (fzi s.cm.c) nls nls nls nls)) ?_ rfl (iy ⟨s.p,Tl.o,s.cm,Ll.o,Tp.o,Fq.o,Rk.o⟩ (nK _) (aX _) (aX _) (aX _) (aX _))
  obtain⟨⟨pk,pz,pd,ps⟩,⟨t1,t2,t3⟩,⟨c1,c2,c3,c4,c5⟩,⟨l1,l2,l3⟩,⟨e1,e2,e3,e4⟩,⟨f1,f2,f3,f4,f5⟩,⟨r1,r2,r3,r4,r5⟩⟩:=s
  simp only at q2
  subst q2
  refine gI oD Tryz.func99 Tryz.results99 ?_
  exact wRA trivial trivial ay
 by_cases q3:s.p.k=3
 ·have eo:aN s=⟨s.p,Tl.o,Cm.o,s.ll,Tp.o,Fq.o,Rk.o⟩:=by simp [aN,q3]
  rw[eo]
  refine Good.fzr (r := .agg (skC ⟨s.p,Tl.o,Cm.o,s.ll,Tp.o,Fq.o,Rk.o⟩ nls (fzi s.ll.r) nls nls nls)) ?_ rfl (iy ⟨s.p,Tl.o,Cm.o,s.ll,Tp.o,Fq.o,Rk.o⟩ (aX _) (nK _) (aX _) (aX _) (aX _))
  obtain⟨⟨pk,pz,pd,ps⟩,⟨t1,t2,t3⟩,⟨c1,c2,c3,c4,c5⟩,⟨l1,l2,l3⟩,⟨e1,e2,e3,e4⟩,⟨f1,f2,f3,f4,f5⟩,⟨r1,r2,r3,r4,r5⟩⟩:=s
  simp only at q3
  subst q3
  refine gI oD Tryz.func99 Tryz.results99 ?_
  exact wRA trivial trivial ay
 by_cases q4:s.p.k=4
 ·have eo:aN s=⟨s.p,Tl.o,Cm.o,Ll.o,s.tp,Fq.o,Rk.o⟩:=by simp [aN,q4]
  rw[eo]
  refine Good.fzr (r := .agg (skC ⟨s.p,Tl.o,Cm.o,Ll.o,s.tp,Fq.o,Rk.o⟩ nls nls (fzv s.tp.e) nls nls)) ?_ rfl (iy ⟨s.p,Tl.o,Cm.o,Ll.o,s.tp,Fq.o,Rk.o⟩ (aX _) (aX _) (nK _) (aX _) (aX _))
  obtain⟨⟨pk,pz,pd,ps⟩,⟨t1,t2,t3⟩,⟨c1,c2,c3,c4,c5⟩,⟨l1,l2,l3⟩,⟨e1,e2,e3,e4⟩,⟨f1,f2,f3,f4,f5⟩,⟨r1,r2,r3,r4,r5⟩⟩:=s
  simp only at q4
  subst q4
  refine gI oD Tryz.func99 Tryz.results99 ?_
  exact wRA trivial trivial ay
 by_cases q5:s.p.k=5
 ·have eo:aN s=⟨s.p,Tl.o,Cm.o,Ll.o,Tp.o,s.fq,Rk.o⟩:=by simp [aN,q5]
  rw[eo]
  refine Good.fzr (r := .agg (skC ⟨s.p,Tl.o,Cm.o,Ll.o,Tp.o,s.fq,Rk.o⟩ nls nls nls (fzv s.fq.e) nls)) ?_ rfl (iy ⟨s.p,Tl.o,Cm.o,Ll.o,Tp.o,s.fq,Rk.o⟩ (aX _) (aX _) (aX _) (nK _) (aX _))
  obtain⟨⟨pk,pz,pd,ps⟩,⟨t1,t2,t3⟩,⟨c1,c2,c3,c4,c5⟩,⟨l1,l2,l3⟩,⟨e1,e2,e3,e4⟩,⟨f1,f2,f3,f4,f5⟩,⟨r1,r2,r3,r4,r5⟩⟩:=s
  simp only at q5
  subst q5
  refine gI oD Tryz.func99 Tryz.results99 ?_
  exact wRA trivial trivial ay
 by_cases q6:s.p.k=6
 ·have eo:aN s=⟨s.p,Tl.o,Cm.o,Ll.o,Tp.o,Fq.o,s.rk⟩:=by simp [aN,q6]
  rw[eo]
  refine Good.fzr (r := .agg (skC ⟨s.p,Tl.o,Cm.o,Ll.o,Tp.o,Fq.o,s.rk⟩ nls nls nls nls (fzl s.rk.v))) ?_ rfl (iy ⟨s.p,Tl.o,Cm.o,Ll.o,Tp.o,Fq.o,s.rk⟩ (aX _) (aX _) (aX _) (aX _) (nK _))
  obtain⟨⟨pk,pz,pd,ps⟩,⟨t1,t2,t3⟩,⟨c1,c2,c3,c4,c5⟩,⟨l1,l2,l3⟩,⟨e1,e2,e3,e4⟩,⟨f1,f2,f3,f4,f5⟩,⟨r1,r2,r3,r4,r5⟩⟩:=s
  simp only at q6
  subst q6
  refine gI oD Tryz.func99 Tryz.results99 ?_
  exact wRA trivial trivial ay
 have eo:aN s=⟨s.p,Tl.o,Cm.o,Ll.o,Tp.o,Fq.o,Rk.o⟩:=by simp [aN,q1,q2,q3,q4,q5,q6]
 rw[eo]
 refine Good.fzr (r := .agg (skC ⟨s.p,Tl.o,Cm.o,Ll.o,Tp.o,Fq.o,Rk.o⟩ nls nls nls nls nls)) ?_ rfl (iy ⟨s.p,Tl.o,Cm.o,Ll.o,Tp.o,Fq.o,Rk.o⟩ (aX _) (aX _) (aX _) (aX _) (aX _))
 obtain⟨⟨pk,pz,pd,ps⟩,⟨t1,t2,t3⟩,⟨c1,c2,c3,c4,c5⟩,⟨l1,l2,l3⟩,⟨e1,e2,e3,e4⟩,⟨f1,f2,f3,f4,f5⟩,⟨r1,r2,r3,r4,r5⟩⟩:=s
 simp only at q1 q2 q3 q4 q5 q6
 refine gI oD Tryz.func99 Tryz.results99 ?_
 exact wRA trivial trivial ay
def samP(a b:Pm):Prop:=a.k=b.k∧a.z=b.z∧a.d=b.d∧a.s=b.s
instance (a b:Pm):Decidable (samP a b):=by unfold samP;infer_instance
def samT(a b:Tl):Prop:=a.t=b.t∧a.i=b.i∧a.b=b.b
instance (a b:Tl):Decidable (samT a b):=by unfold samT;infer_instance
def fH(a b:Sk):Bool:=decide (samP a.p b.p)&&(decide (samT a.tl b.tl)&&(qM a.cm b.cm&&(qN a.ll b.ll&&(qO a.tp b.tp&&(qP a.fq b.fq&&qQ a.rk b.rk)))))
theorem ac2(a b:Pm):((a.k == b.k)&&((a.z == b.z)&&((a.d == b.d)&&(a.s == b.s))))=decide (samP a b):=by
 rw[Bool.eq_iff_iff,decide_eq_true_eq];simp [samP]
theorem agp(a b:Tl):((a.t == b.t)&&((a.i == b.i)&&(a.b == b.b)))=decide (samT a b):=by
 rw[Bool.eq_iff_iff,decide_eq_true_eq];simp [samT]
theorem jM(a b:Sk)(ha:a.Ok)(hb:b.Ok):Gxx 12 [.agg (skF a),.agg (skF b)] (vb (fH a b)):=by
 have k1:=zB a.cm b.cm ha.cn hb.cn
 have k2:=Dq a.ll b.ll ha.ln hb.ln
 have k3:=Nb a.tp b.tp ha.to hb.to ha.tn hb.tn
 have k4:=zC a.fq b.fq ha.fo hb.fo ha.fn hb.fn
 have k5:=FQ a.rk b.rk ha.ro hb.ro ha.rn hb.rn ha.rm hb.rm
 have e1:=ac2 a.p b.p
 have e2:=agp a.tl b.tl
 unfold fH
 generalize decide (samP a.p b.p)=x1 at *
 generalize decide (samT a.tl b.tl)=x2 at *
 generalize qM a.cm b.cm=x3 at *
 generalize qN a.ll b.ll=x4 at *
 generalize qO a.tp b.tp=x5 at *
 generalize qP a.fq b.fq=x6 at *
 generalize qQ a.rk b.rk=x7 at *
 clear ha hb
 obtain⟨⟨pk,pz,pd,ps⟩,⟨t1,t2,t3⟩,⟨c1,c2,c3,c4,c5⟩,⟨l1,l2,l3⟩,⟨e11,e12,e13,e14⟩,⟨f1,f2,f3,f4,f5⟩,⟨r1,r2,r3,r4,r5⟩⟩:=a
 obtain⟨⟨pk',pz',pd',ps'⟩,⟨t1',t2',t3'⟩,⟨c1',c2',c3',c4',c5'⟩,⟨l1',l2',l3'⟩,⟨e11',e12',e13',e14'⟩,⟨f1',f2',f3',f4',f5'⟩,⟨r1',r2',r3',r4',r5'⟩⟩:=b
 simp only at *
 cases x1
 ·refine gI oW Tryz.func12 Tryz.results12 ?_
  exact wR (aI @Bool.and_true (aI @Bool.true_and (aI @Bool.false_and (aI @Bool.and_false (aI @e1 @e2))))) trivial ay
 ·cases x2
  ·refine gI oW Tryz.func12 Tryz.results12 ?_
   exact wR (aI @Bool.and_true (aI @Bool.true_and (aI @Bool.false_and (aI @Bool.and_false (aI @e1 @e2))))) trivial ay
  ·cases x3
   ·refine gI oW Tryz.func12 Tryz.results12 ?_
    exact wR (aI @Bool.and_true (aI @Bool.true_and (aI @Bool.false_and (aI @Bool.and_false (aI @e1 @e2))))) k1 ay
   ·cases x4
    ·refine gI oW Tryz.func12 Tryz.results12 ?_
     exact wR (aI @Bool.and_true (aI @Bool.true_and (aI @Bool.false_and (aI @Bool.and_false (aI @e1 @e2))))) (aI k1 k2) ay
    ·cases x5
     ·refine gI oW Tryz.func12 Tryz.results12 ?_
      exact wR (aI @Bool.and_true (aI @Bool.true_and (aI @Bool.false_and (aI @Bool.and_false (aI @e1 @e2))))) (aI k1 (aI k2 k3)) ay
     ·cases x6
      ·refine gI oW Tryz.func12 Tryz.results12 ?_
       exact wR (aI @Bool.and_true (aI @Bool.true_and (aI @Bool.false_and (aI @Bool.and_false (aI @e1 @e2))))) (aI k1 (aI k2 (aI k3 k4))) ay
      ·cases x7
       ·refine gI oW Tryz.func12 Tryz.results12 ?_
        exact wR (aI @Bool.and_true (aI @Bool.true_and (aI @Bool.false_and (aI @Bool.and_false (aI @e1 @e2))))) (aI k1 (aI k2 (aI k3 (aI k4 k5)))) ay
       ·refine gI oW Tryz.func12 Tryz.results12 ?_
        exact wR (aI @Bool.and_true (aI @Bool.true_and (aI @Bool.false_and (aI @Bool.and_false (aI @e1 @e2))))) (aI k1 (aI k2 (aI k3 (aI k4 k5)))) ay
def oI(s:Sk):Int:=if s.p.k=1 then vTl s.tl else if s.p.k=2 then vCm s.cm else if s.p.k=3 then vLl s.ll else if s.p.k=4 then vTp s.tp else if s.p.k=5 then vFq s.fq else vRk s.rk
def parP(s:Sk):Prop:=if s.p.k=1 then True else if s.p.k=2 then s.cm.d=s.p.d∧s.cm.z=s.p.z∧s.cm.s=s.p.s else if s.p.k=3 then s.ll.p=s.p.z∧s.ll.s=s.p.s else if s.p.k=4 then s.tp.z=s.p.z else if s.p.k=5 then s.fq.z=s.p.z else s.rk.z=s.p.z
instance (s:Sk):Decidable (parP s):=by unfold parP;infer_instance
def vSk(s:Sk):Int:=if vp s.p.k s.p.z s.p.d s.p.s≠0 then vp s.p.k s.p.z s.p.d s.p.s else if oI s≠0 then oI s else if parP s then (if fH s (aN s)=true then 0 else 18) else 18
theorem Dt(s:Sk)(h:vp s.p.k s.p.z s.p.d s.p.s≠0):Gxx 31 [.agg (skF s)] (vi (vSk s)):=by
 have h1:=bQ s.p.k s.p.z s.p.d s.p.s
 unfold vSk
 rw[if_pos h]
 generalize vp s.p.k s.p.z s.p.d s.p.s=e at *
 obtain⟨⟨pk,pz,pd,ps⟩,⟨t1,t2,t3⟩,⟨c1,c2,c3,c4,c5⟩,⟨l1,l2,l3⟩,⟨e1,e2,e3,e4⟩,⟨f1,f2,f3,f4,f5⟩,⟨r1,r2,r3,r4,r5⟩⟩:=s
 simp only at *
 refine gI oD Tryz.func31 Tryz.results31 ?_
 exact wRA trivial h1 ay
theorem BM(s:Sk)(ok:s.Ok)(hk:s.p.k=1)(h:vp s.p.k s.p.z s.p.d s.p.s=0):Gxx 31 [.agg (skF s)] (vi (vSk s)):=by
 have h1:=bQ s.p.k s.p.z s.p.d s.p.s
 rw[h] at h1
 have h2:=pK s.tl
 have h3:=pX s
 have h4:=jM s (aN s) ok (mP ok)
 have e0:vSk s=if vTl s.tl≠0 then vTl s.tl else if True then (if fH s (aN s)=true then 0 else 18) else 18:=by
  unfold vSk oI parP
  rw[if_neg (fun h'=>h' h)]
  simp [hk]
 rw[e0]
 generalize fH s (aN s)=sm at *
 generalize aN s=s' at *
 generalize vTl s.tl=ve at *
 clear ok
 obtain⟨⟨pk,pz,pd,ps⟩,⟨t1,t2,t3⟩,⟨c1,c2,c3,c4,c5⟩,⟨l1,l2,l3⟩,⟨e1,e2,e3,e4⟩,⟨f1,f2,f3,f4,f5⟩,⟨r1,r2,r3,r4,r5⟩⟩:=s
 simp only at *
 subst hk
 by_cases q:ve=0
 ·rw[if_neg (by omega)]
  subst q
  rw[if_pos trivial]
  cases sm
  ·rw[if_neg (by simp)]
   refine gI oG Tryz.func31 Tryz.results31 ?_
   exact wRG (aI @Bool.and_true (aI @Bool.true_and (aI @Bool.false_and (aI @Bool.and_false (aI @Bool.not_true @Bool.not_false))))) (aI h1 (aI h2 (aI h3 h4))) ay
  ·rw[if_pos rfl]
   refine gI oG Tryz.func31 Tryz.results31 ?_
   exact wRG (aI @Bool.and_true (aI @Bool.true_and (aI @Bool.false_and (aI @Bool.and_false (aI @Bool.not_true @Bool.not_false))))) (aI h1 (aI h2 (aI h3 h4))) ay
 ·rw[if_pos q]
  refine gI oG Tryz.func31 Tryz.results31 ?_
  exact wRG (aI @Bool.and_true (aI @Bool.true_and (aI @Bool.false_and (aI @Bool.and_false (aI @Bool.not_true @Bool.not_false))))) (aI h1 h2) ay
theorem BN(s:Sk)(ok:s.Ok)(hk:s.p.k=2)(h:vp s.p.k s.p.z s.p.d s.p.s=0):Gxx 31 [.agg (skF s)] (vi (vSk s)):=by
 have h1:=bQ s.p.k s.p.z s.p.d s.p.s
 rw[h] at h1
 have h2:=l9 s.cm
 have h3:=pX s
 have h4:=jM s (aN s) ok (mP ok)
 have e0:vSk s=if vCm s.cm≠0 then vCm s.cm else if s.cm.d=s.p.d∧s.cm.z=s.p.z∧s.cm.s=s.p.s then (if fH s (aN s)=true then 0 else 18) else 18:=by
  unfold vSk oI parP
  rw[if_neg (fun h'=>h' h)]
  simp [hk]
 rw[e0]
 generalize fH s (aN s)=sm at *
 generalize aN s=s' at *
 generalize vCm s.cm=ve at *
 clear ok
 obtain⟨⟨pk,pz,pd,ps⟩,⟨t1,t2,t3⟩,⟨c1,c2,c3,c4,c5⟩,⟨l1,l2,l3⟩,⟨e1,e2,e3,e4⟩,⟨f1,f2,f3,f4,f5⟩,⟨r1,r2,r3,r4,r5⟩⟩:=s
 simp only at *
 subst hk
 by_cases q:ve=0
 ·rw[if_neg (by omega)]
  subst q
  by_cases w0:c1=pd
  ·by_cases w1:c2=pz
   ·by_cases w2:c3=ps
    ·rw[if_pos ⟨w0,w1,w2⟩]
     cases sm
     ·rw[if_neg (by simp)]
      refine gI oG Tryz.func31 Tryz.results31 ?_
      exact wRG (aI @Bool.and_true (aI @Bool.true_and (aI @Bool.false_and (aI @Bool.and_false (aI @Bool.not_true @Bool.not_false))))) (aI h1 (aI h2 (aI h3 h4))) ay
     ·rw[if_pos rfl]
      refine gI oG Tryz.func31 Tryz.results31 ?_
      exact wRG (aI @Bool.and_true (aI @Bool.true_and (aI @Bool.false_and (aI @Bool.and_false (aI @Bool.not_true @Bool.not_false))))) (aI h1 (aI h2 (aI h3 h4))) ay
    ·rw[if_neg (fun h=>w2 h.2.2)]
     refine gI oG Tryz.func31 Tryz.results31 ?_
     exact wRG (aI @Bool.and_true (aI @Bool.true_and (aI @Bool.false_and (aI @Bool.and_false (aI @Bool.not_true @Bool.not_false))))) (aI h1 h2) ay
   ·rw[if_neg (fun h=>w1 h.2.1)]
    refine gI oG Tryz.func31 Tryz.results31 ?_
    exact wRG (aI @Bool.and_true (aI @Bool.true_and (aI @Bool.false_and (aI @Bool.and_false (aI @Bool.not_true @Bool.not_false))))) (aI h1 h2) ay
  ·rw[if_neg (fun h=>w0 h.1)]
   refine gI oG Tryz.func31 Tryz.results31 ?_
   exact wRG (aI @Bool.and_true (aI @Bool.true_and (aI @Bool.false_and (aI @Bool.and_false (aI @Bool.not_true @Bool.not_false))))) (aI h1 h2) ay
 ·rw[if_pos q]
  refine gI oG Tryz.func31 Tryz.results31 ?_
  exact wRG (aI @Bool.and_true (aI @Bool.true_and (aI @Bool.false_and (aI @Bool.and_false (aI @Bool.not_true @Bool.not_false))))) (aI h1 h2) ay
theorem BO(s:Sk)(ok:s.Ok)(hk:s.p.k=3)(h:vp s.p.k s.p.z s.p.d s.p.s=0):Gxx 31 [.agg (skF s)] (vi (vSk s)):=by
 have h1:=bQ s.p.k s.p.z s.p.d s.p.s
 rw[h] at h1
 have h2:=ou s.ll ok.ln
 have h3:=pX s
 have h4:=jM s (aN s) ok (mP ok)
 have e0:vSk s=if vLl s.ll≠0 then vLl s.ll else if s.ll.p=s.p.z∧s.ll.s=s.p.s then (if fH s (aN s)=true then 0 else 18) else 18:=by
  unfold vSk oI parP
  rw[if_neg (fun h'=>h' h)]
  simp [hk]
 rw[e0]
 generalize fH s (aN s)=sm at *
 generalize aN s=s' at *
 generalize vLl s.ll=ve at *
 clear ok
 obtain⟨⟨pk,pz,pd,ps⟩,⟨t1,t2,t3⟩,⟨c1,c2,c3,c4,c5⟩,⟨l1,l2,l3⟩,⟨e1,e2,e3,e4⟩,⟨f1,f2,f3,f4,f5⟩,⟨r1,r2,r3,r4,r5⟩⟩:=s
 simp only at *
 subst hk
 by_cases q:ve=0
 ·rw[if_neg (by omega)]
  subst q
  by_cases w0:l1=pz
  ·by_cases w1:l2=ps
   ·rw[if_pos ⟨w0,w1⟩]
    cases sm
    ·rw[if_neg (by simp)]
     refine gI oG Tryz.func31 Tryz.results31 ?_
     exact wRG (aI @Bool.and_true (aI @Bool.true_and (aI @Bool.false_and (aI @Bool.and_false (aI @Bool.not_true @Bool.not_false))))) (aI h1 (aI h2 (aI h3 h4))) ay
    ·rw[if_pos rfl]
     refine gI oG Tryz.func31 Tryz.results31 ?_
     exact wRG (aI @Bool.and_true (aI @Bool.true_and (aI @Bool.false_and (aI @Bool.and_false (aI @Bool.not_true @Bool.not_false))))) (aI h1 (aI h2 (aI h3 h4))) ay
   ·rw[if_neg (fun h=>w1 h.2)]
    refine gI oG Tryz.func31 Tryz.results31 ?_
    exact wRG (aI @Bool.and_true (aI @Bool.true_and (aI @Bool.false_and (aI @Bool.and_false (aI @Bool.not_true @Bool.not_false))))) (aI h1 h2) ay
  ·rw[if_neg (fun h=>w0 h.1)]
   refine gI oG Tryz.func31 Tryz.results31 ?_
   exact wRG (aI @Bool.and_true (aI @Bool.true_and (aI @Bool.false_and (aI @Bool.and_false (aI @Bool.not_true @Bool.not_false))))) (aI h1 h2) ay
 ·rw[if_pos q]
  refine gI oG Tryz.func31 Tryz.results31 ?_
  exact wRG (aI @Bool.and_true (aI @Bool.true_and (aI @Bool.false_and (aI @Bool.and_false (aI @Bool.not_true @Bool.not_false))))) (aI h1 h2) ay
theorem BP(s:Sk)(ok:s.Ok)(hk:s.p.k=4)(h:vp s.p.k s.p.z s.p.d s.p.s=0):Gxx 31 [.agg (skF s)] (vi (vSk s)):=by
 have h1:=bQ s.p.k s.p.z s.p.d s.p.s
 rw[h] at h1
 have h2:=rZ s.tp ok.to ok.tn
 have h3:=pX s
 have h4:=jM s (aN s) ok (mP ok)
 have e0:vSk s=if vTp s.tp≠0 then vTp s.tp else if s.tp.z=s.p.z then (if fH s (aN s)=true then 0 else 18) else 18:=by
  unfold vSk oI parP
  rw[if_neg (fun h'=>h' h)]
  simp [hk]
 rw[e0]
 generalize fH s (aN s)=sm at *
 generalize aN s=s' at *
 generalize vTp s.tp=ve at *
 clear ok
 obtain⟨⟨pk,pz,pd,ps⟩,⟨t1,t2,t3⟩,⟨c1,c2,c3,c4,c5⟩,⟨l1,l2,l3⟩,⟨e1,e2,e3,e4⟩,⟨f1,f2,f3,f4,f5⟩,⟨r1,r2,r3,r4,r5⟩⟩:=s
 simp only at *
 subst hk
 by_cases q:ve=0
 ·rw[if_neg (by omega)]
  subst q
  by_cases w0:e1=pz
  ·rw[if_pos w0]
   cases sm
   ·rw[if_neg (by simp)]
    refine gI oG Tryz.func31 Tryz.results31 ?_
    exact wRG (aI @Bool.and_true (aI @Bool.true_and (aI @Bool.false_and (aI @Bool.and_false (aI @Bool.not_true @Bool.not_false))))) (aI h1 (aI h2 (aI h3 h4))) ay
   ·rw[if_pos rfl]
    refine gI oG Tryz.func31 Tryz.results31 ?_
    exact wRG (aI @Bool.and_true (aI @Bool.true_and (aI @Bool.false_and (aI @Bool.and_false (aI @Bool.not_true @Bool.not_false))))) (aI h1 (aI h2 (aI h3 h4))) ay
  ·rw[if_neg (fun h=>w0 h)]
   refine gI oG Tryz.func31 Tryz.results31 ?_
   exact wRG (aI @Bool.and_true (aI @Bool.true_and (aI @Bool.false_and (aI @Bool.and_false (aI @Bool.not_true @Bool.not_false))))) (aI h1 h2) ay
 ·rw[if_pos q]
  refine gI oG Tryz.func31 Tryz.results31 ?_
  exact wRG (aI @Bool.and_true (aI @Bool.true_and (aI @Bool.false_and (aI @Bool.and_false (aI @Bool.not_true @Bool.not_false))))) (aI h1 h2) ay
theorem BQ(s:Sk)(ok:s.Ok)(hk:s.p.k=5)(h:vp s.p.k s.p.z s.p.d s.p.s=0):Gxx 31 [.agg (skF s)] (vi (vSk s)):=by
 have h1:=bQ s.p.k s.p.z s.p.d s.p.s
 rw[h] at h1
 have h2:=mf s.fq ok.fo ok.fn
 have h3:=pX s
 have h4:=jM s (aN s) ok (mP ok)
 have e0:vSk s=if vFq s.fq≠0 then vFq s.fq else if s.fq.z=s.p.z then (if fH s (aN s)=true then 0 else 18) else 18:=by
  unfold vSk oI parP
  rw[if_neg (fun h'=>h' h)]
  simp [hk]
 rw[e0]
 generalize fH s (aN s)=sm at *
 generalize aN s=s' at *
 generalize vFq s.fq=ve at *
 clear ok
 obtain⟨⟨pk,pz,pd,ps⟩,⟨t1,t2,t3⟩,⟨c1,c2,c3,c4,c5⟩,⟨l1,l2,l3⟩,⟨e1,e2,e3,e4⟩,⟨f1,f2,f3,f4,f5⟩,⟨r1,r2,r3,r4,r5⟩⟩:=s
 simp only at *
 subst hk
 by_cases q:ve=0
 ·rw[if_neg (by omega)]
  subst q
  by_cases w0:f1=pz
  ·rw[if_pos w0]
   cases sm
   ·rw[if_neg (by simp)]
    refine gI oG Tryz.func31 Tryz.results31 ?_
    exact wRG (aI @Bool.and_true (aI @Bool.true_and (aI @Bool.false_and (aI @Bool.and_false (aI @Bool.not_true @Bool.not_false))))) (aI h1 (aI h2 (aI h3 h4))) ay
   ·rw[if_pos rfl]
    refine gI oG Tryz.func31 Tryz.results31 ?_
    exact wRG (aI @Bool.and_true (aI @Bool.true_and (aI @Bool.false_and (aI @Bool.and_false (aI @Bool.not_true @Bool.not_false))))) (aI h1 (aI h2 (aI h3 h4))) ay
  ·rw[if_neg (fun h=>w0 h)]
   refine gI oG Tryz.func31 Tryz.results31 ?_
   exact wRG (aI @Bool.and_true (aI @Bool.true_and (aI @Bool.false_and (aI @Bool.and_false (aI @Bool.not_true @Bool.not_false))))) (aI h1 h2) ay
 ·rw[if_pos q]
  refine gI oG Tryz.func31 Tryz.results31 ?_
  exact wRG (aI @Bool.and_true (aI @Bool.true_and (aI @Bool.false_and (aI @Bool.and_false (aI @Bool.not_true @Bool.not_false))))) (aI h1 h2) ay
theorem BR(s:Sk)(ok:s.Ok)(hk:s.p.k=6)(h:vp s.p.k s.p.z s.p.d s.p.s=0):Gxx 31 [.agg (skF s)] (vi (vSk s)):=by
 have h1:=bQ s.p.k s.p.z s.p.d s.p.s
 rw[h] at h1
 have h2:=pW s.rk ok.ro ok.rn ok.rm
 have h3:=pX s
 have h4:=jM s (aN s) ok (mP ok)
 have e0:vSk s=if vRk s.rk≠0 then vRk s.rk else if s.rk.z=s.p.z then (if fH s (aN s)=true then 0 else 18) else 18:=by
  unfold vSk oI parP
  rw[if_neg (fun h'=>h' h)]
  simp [hk]
 rw[e0]
 generalize fH s (aN s)=sm at *
 generalize aN s=s' at *
 generalize vRk s.rk=ve at *
 clear ok
 obtain⟨⟨pk,pz,pd,ps⟩,⟨t1,t2,t3⟩,⟨c1,c2,c3,c4,c5⟩,⟨l1,l2,l3⟩,⟨e1,e2,e3,e4⟩,⟨f1,f2,f3,f4,f5⟩,⟨r1,r2,r3,r4,r5⟩⟩:=s
 simp only at *
 subst hk
 by_cases q:ve=0
 ·rw[if_neg (by omega)]
  subst q
  by_cases w0:r1=pz
  ·rw[if_pos w0]
   cases sm
   ·rw[if_neg (by simp)]
    refine gI oG Tryz.func31 Tryz.results31 ?_
    exact wRG (aI @Bool.and_true (aI @Bool.true_and (aI @Bool.false_and (aI @Bool.and_false (aI @Bool.not_true @Bool.not_false))))) (aI h1 (aI h2 (aI h3 h4))) ay
   ·rw[if_pos rfl]
    refine gI oG Tryz.func31 Tryz.results31 ?_
    exact wRG (aI @Bool.and_true (aI @Bool.true_and (aI @Bool.false_and (aI @Bool.and_false (aI @Bool.not_true @Bool.not_false))))) (aI h1 (aI h2 (aI h3 h4))) ay
  ·rw[if_neg (fun h=>w0 h)]
   refine gI oG Tryz.func31 Tryz.results31 ?_
   exact wRG (aI @Bool.and_true (aI @Bool.true_and (aI @Bool.false_and (aI @Bool.and_false (aI @Bool.not_true @Bool.not_false))))) (aI h1 h2) ay
 ·rw[if_pos q]
  refine gI oG Tryz.func31 Tryz.results31 ?_
  exact wRG (aI @Bool.and_true (aI @Bool.true_and (aI @Bool.false_and (aI @Bool.and_false (aI @Bool.not_true @Bool.not_false))))) (aI h1 h2) ay
theorem iW(s:Sk)(ok:s.Ok):Gxx 31 [.agg (skF s)] (vi (vSk s)):=by
 by_cases h:vp s.p.k s.p.z s.p.d s.p.s=0
 ·have hk:s.p.k=1∨s.p.k=2∨s.p.k=3∨s.p.k=4∨s.p.k=5∨s.p.k=6:=by unfold vp at h;repeat' split at h<;>omega
  rcases hk with hk|hk|hk|hk|hk|hk
  ·exact BM s ok hk h
  ·exact BN s ok hk h
  ·exact BO s ok hk h
  ·exact BP s ok hk h
  ·exact BQ s ok hk h
  ·exact BR s ok hk h
 ·exact Dt s h
theorem Jo(z:Int)(h:1≤z∧z≤32):Gxx 142 [vi z] (vb true):=by
 refine gI oW Tryz.func142 Tryz.results142 ?_
 exact wR trivial trivial ay
theorem RI(z:Int)(h:¬(1≤z∧z≤32)):Gxx 142 [vi z] (vb false):=by
 by_cases h1:1≤z
 ·refine gI oW Tryz.func142 Tryz.results142 ?_
  exact wR trivial trivial ay
 ·refine gI oW Tryz.func142 Tryz.results142 ?_
  exact wR trivial trivial ay
theorem Jp(z:Int)(h:1≤z∧z≤32):Gxx 139 [vi z] (vb true):=by
 refine gI oW Tryz.func139 Tryz.results139 ?_
 exact wR trivial trivial ay
theorem RJ(z:Int)(h:¬(1≤z∧z≤32)):Gxx 139 [vi z] (vb false):=by
 by_cases h1:1≤z
 ·refine gI oW Tryz.func139 Tryz.results139 ?_
  exact wR trivial trivial ay
 ·refine gI oW Tryz.func139 Tryz.results139 ?_
  exact wR trivial trivial ay
theorem Jq(z:Int)(h:2≤z∧z≤32∧z%2=0):Gxx 145 [vi z] (vb true):=by
 refine gI oW Tryz.func145 Tryz.results145 ?_
 exact wR @zU trivial ay
theorem RN(z:Int)(h:¬(2≤z∧z≤32∧z%2=0)):Gxx 145 [vi z] (vb false):=by
 by_cases h1:2≤z
 ·by_cases h2:z≤32
  ·have et:z.tmod 2=z%2:=zU _ _ (by omega)
   refine gI oW Tryz.func145 Tryz.results145 ?_
   exact wR @et trivial ay
  ·refine gI oW Tryz.func145 Tryz.results145 ?_
   exact wR trivial trivial ay
 ·refine gI oW Tryz.func145 Tryz.results145 ?_
  exact wR trivial trivial ay
theorem Ec(x:Fq)(ho:octE x.e)(hn:x.e.length≤1000000):Gxx 81 [.agg (fqF x)] (vi (vFq x)):=by
 obtain⟨z,t,lo,l,b⟩:=x
 simp only at ho hn
 unfold vFq
 simp only
 have hel:=aG l
 by_cases c1:(1≤z∧z≤32)∧(0≤t∧t≤1099511627776)∧(0≤lo∧lo≤1099511627776)
 ·rw[if_neg (fun h=>h c1)]
  have k1:=Jo z c1.1
  by_cases c2:(l.length:Int) > z
  ·rw[if_pos c2]
   refine gI oW Tryz.func81 Tryz.results81 ?_
   exact wR @aG k1 ay
  ·rw[if_neg c2]
   refine gI oW Tryz.func81 Tryz.results81 ?_
   refine wS @aG k1 ?_
   generalize hE:lT (oC l) l.length 0=E
   refine df (fun i:Nat=>mkA [(1,.ref 0 0),(36,fzv l),(37,vi l.length),(38,vi i)] [(0,(36,fqF ⟨z,t,lo,l,b⟩))] 1 (fun _ => .top)) (fun i=>i≤l.length∧lT (oC l) (l.length-i) i=E) (fun i=>l.length-i) 0 [] [0] ?_ ⟨Nat.zero_le _,hE⟩ ?_
   ·exact kE
   ·rintro i ⟨hi,he⟩
    rcases Nat.lt_or_ge i l.length with hlt|hge
    ·have hg:=eY l i hlt
     have hox:=fV ho i
     have hoy:=fV ho (i-1)
     rw[show l.length-i=(l.length-(i+1))+1 by omega] at he
     have k3:=xH (l.getD i eD).1
     have et:oC l i=if iQ (l.getD i eD).1=false then 7 else if ¬((1≤(l.getD i eD).2.1∧(l.getD i eD).2.1≤1099511627776)∧(l.getD i eD).2.2=0) then 5 else if 0<i∧leK (l.getD i eD).1 (l.getD (i-1) eD).1=true then 19 else 0:=rfl
     generalize hxx:l.getD i eD=x at *
     obtain⟨xk,xc,xe⟩:=x
     simp only at hox k3 et hg
     have ext:∀v:Int,v≠0→oC l i=v→v=E:=fun v h0 h1=>by rw[qp _ _ _ (by omega)] at he;omega
     cases q1:iQ xk
     ·rw[q1] at k3 et
      have:=ext 7 (by omega) (by rw[et];rfl)
      subst this
      exact wR (aI @aG @hg) k3 ay
     ·rw[q1] at k3 et
      rw[if_neg (by simp)] at et
      by_cases q2:(1≤xc∧xc≤1099511627776)∧xe=0
      ·rw[if_neg (fun h=>h q2)] at et
       have q0:=q2.2
       subst q0
       by_cases q4:0<i
       ·have hg1:=eY l (i-1) (by omega)
        have hi1:((i:Int)-1).toNat=i-1:=by omega
        generalize l.getD (i-1) eD=y at *
        have hd:=uO hox hoy
        have hle:(kl xk y.1||decide (sB xk=sB y.1))=leK xk y.1:=by rw[hd];rfl
        cases q5:leK xk y.1
        ·rw[if_neg (by rw[q5];simp)] at et
         rw[q5] at hle
         rw[jV _ _ _ et] at he
         refine wS (aI @pgv (aI @kH (aI @hle (aI @hg (aI @hi1 @hg1))))) k3 ?_
         exact bE (i+1) [] [0] ⟨hlt,he⟩
        ·rw[if_pos ⟨q4,q5⟩] at et
         rw[q5] at hle
         have:=ext 19 (by omega) et
         subst this
         exact wR (aI @pgv (aI @kH (aI @hle (aI @hg (aI @hi1 @hg1))))) k3 ay
       ·rw[if_neg (by omega)] at et
        rw[jV _ _ _ et] at he
        refine wS (aI @pgv @hg) k3 ?_
        exact bE (i+1) [] [0] ⟨hlt,he⟩
      ·rw[if_pos q2] at et
       have:=ext 5 (by omega) et
       subst this
       by_cases q6:1≤xc
       ·by_cases q7:xc≤1099511627776
        ·have q8:xe≠0:=fun h=>q2 ⟨⟨q6,q7⟩,h⟩
         exact wR (aI @aG @hg) k3 ay
        ·exact wR (aI @aG @hg) k3 ay
       ·exact wR (aI @aG @hg) k3 ay
    ·have:i=l.length:=by omega
     subst this
     rw[Nat.sub_self] at he
     have he0:0=E:=he
     subst he0
     exact wR @aG trivial ay
 ·rw[if_pos c1]
  by_cases c2:1≤z∧z≤32
  ·have k1:=Jo z c2
   by_cases a0:0≤t
   ·by_cases a1:t≤1099511627776
    ·by_cases a2:0≤lo
     ·refine gI oW Tryz.func81 Tryz.results81 ?_
      exact wR trivial k1 ay
     ·refine gI oW Tryz.func81 Tryz.results81 ?_
      exact wR trivial k1 ay
    ·refine gI oW Tryz.func81 Tryz.results81 ?_
     exact wR trivial k1 ay
   ·refine gI oW Tryz.func81 Tryz.results81 ?_
    exact wR trivial k1 ay
  ·have k1:=RI z c2
   refine gI oW Tryz.func81 Tryz.results81 ?_
   exact wR trivial k1 ay
theorem ac3(x:Rk)(hv:∀l∈x.v,octL l)(hn:x.v.length≤1000000)(hn2:∀l∈x.v,l.length≤1000000):Gxx 86 [.agg (rkF x)] (vi (vRk x)):=by
 obtain⟨z,t,lo,v,b⟩:=x
 simp only at hv hn hn2
 have hv':∀i,octL (v.getD i []):=fun i=>by
  rcases Nat.lt_or_ge i v.length with hi|hi
  ·have:v.getD i []=v[i]:=by simp [List.getD,hi]
   rw[this];exact hv _ (List.getElem_mem hi)
  ·have:v.getD i []=[]:=by simp [List.getD,hi]
   rw[this];intro e he;cases he
 unfold vRk
 simp only
 have hel:=fD v
 by_cases c1:((2≤z∧z≤32)∧z%2=0)∧(0≤t∧t≤1099511627776)∧(0≤lo∧lo≤1099511627776)
 ·rw[if_neg (fun h=>h c1)]
  have k1:=Jq z ⟨c1.1.1.1,c1.1.1.2,c1.1.2⟩
  by_cases c2:v.length > 41
  ·rw[if_pos c2]
   refine gI oW Tryz.func86 Tryz.results86 ?_
   exact wR @fD k1 ay
  ·rw[if_neg c2]
   refine gI oW Tryz.func86 Tryz.results86 ?_
   refine wS @fD k1 ?_
   generalize hE:lT (nI z v) v.length 0=E
   generalize hR:(if E≠0 then E else Jl t v)=R
   refine df (fun i:Nat=>mkA [(1,.ref 0 0),(3,vi (unR v i)),(38,fzl v),(39,vi v.length),(40,vi i)] [(0,(39,rkF ⟨z,t,lo,v,b⟩))] 1 (fun _ => .top)) (fun i=>i≤v.length∧lT (nI z v) (v.length-i) i=E∧∀j,j<i→(v.getD j []).length<32) (fun i=>v.length-i) 0 [] [0] ?_ ⟨Nat.zero_le _,hE,fun j hj=>by omega⟩ ?_
   ·exact kE
    all_goals first|exact dE rfl|skip
   ·rintro h ⟨hi,he,hlt32⟩
    rcases Nat.lt_or_ge h v.length with hlt|hge
    ·have hg:=nG v h hlt
     have hoct:=hv' h
     have hun:=XB v h (by omega) hlt32
     rw[show v.length-h=(v.length-(h+1))+1 by omega] at he
     have eRk:nI z v h=if ((v.getD h []).length:Int)≥z then 11 else lT (wK (v.getD h [])) (v.getD h []).length 0:=rfl
     have eun:unR v (h+1)=unR v h+(v.getD h []).length*2^h:=rfl
     have ext:∀c:Int,c≠0→nI z v h=c→c=R:=fun c h0 h1=>by
      rw[qp _ _ _ (by omega)] at he
      rw[←hR,←he,h1,if_pos h0]
     have hlt32':(v.getD h []).length<32→∀j,j<h+1→(v.getD j []).length<32:=fun h0 j hj=>by
      rcases Nat.lt_or_ge j h with h1|h1
      ·exact hlt32 j h1
      ·have:j=h:=by omega
       rw[this];exact h0
     generalize hlev:v.getD h []=lev at *
     have hsl:=eG lev
     generalize hS:unR v h=S at *
     by_cases q1:(lev.length:Int)≥z
     ·rw[if_pos q1] at eRk
      have:=ext 11 (by omega) eRk
      subst this
      exact wR (aI @pgv (aI @hel (aI @hg @hsl))) trivial ay
     ·rw[if_neg q1] at eRk
      have hlt32'':=hlt32' (by omega)
      obtain⟨hsh,hsh1,hsh2⟩:=XC lev.length h (by omega) (by omega)
      refine wS (aI @pgv (aI @hel (aI @hg @hsl))) trivial ?_
      refine df (fun i:Nat=>mkA [(1,.ref 0 0),(3,vi S),(4,vi h),(5,fzs lev),(38,fzl v),(39,vi v.length),(40,vi h),(50,fzs lev),(51,vi lev.length),(52,vi i)] [(0,(39,rkF ⟨z,t,lo,v,b⟩))] 1 (fun _ => .top)) (fun i=>i≤lev.length∧lT (wK lev) (lev.length-i) i=nI z v h) (fun i=>lev.length-i) 0 [] [0] ?_ ⟨Nat.zero_le _,eRk.symm⟩ ?_
      ·exact kE
      ·rintro i ⟨hi2,he2⟩
       rcases Nat.lt_or_ge i lev.length with hlt2|hge2
       ·have hg2:=lV lev i hlt2
        rw[show lev.length-i=(lev.length-(i+1))+1 by omega] at he2
        have k3:=xH (lev.getD i [])
        have eLv:wK lev i=if iQ (lev.getD i [])=false then 7 else if 0<i∧kl (lev.getD i []) (lev.getD (i-1) [])=true then 19 else 0:=rfl
        have hox:=sG hoct i
        generalize lev.getD i []=xk at *
        have ext2:∀c:Int,c≠0→wK lev i=c→c=R:=fun c h0 h1=>by
         rw[qp _ _ _ (by omega),h1] at he2
         exact ext c h0 he2.symm
        cases q2:iQ xk
        ·rw[q2] at k3 eLv
         have:=ext2 7 (by omega) (by rw[eLv];rfl)
         subst this
         exact wR (aI @pgv (aI @hel (aI @hg (aI @hsl @hg2)))) k3 ay
        ·rw[q2] at k3 eLv
         rw[if_neg (by simp)] at eLv
         by_cases q4:0<i
         ·have hg3:=lV lev (i-1) (by omega)
          have hi1:((i:Int)-1).toNat=i-1:=by omega
          generalize lev.getD (i-1) []=yk at *
          cases q5:kl xk yk
          ·rw[if_neg (by rw[q5];simp)] at eLv
           rw[jV _ _ _ eLv] at he2
           refine wS (aI @pgv (aI @hel (aI @hg (aI @hsl (aI @hg2 (aI @hg3 (aI @hi1 (aI @kH @q5)))))))) k3 ?_
           exact bE (i+1) [] [0] ⟨hlt2,he2⟩
          ·rw[if_pos ⟨q4,q5⟩] at eLv
           have:=ext2 19 (by omega) eLv
           subst this
           exact wR (aI @pgv (aI @hel (aI @hg (aI @hsl (aI @hg2 (aI @hg3 (aI @hi1 (aI @kH @q5)))))))) k3 ay
         ·rw[if_neg (by omega)] at eLv
          rw[jV _ _ _ eLv] at he2
          refine wS (aI @pgv (aI @hel (aI @hg (aI @hsl @hg2)))) k3 ?_
          exact bE (i+1) [] [0] ⟨hlt2,he2⟩
       ·have:i=lev.length:=by omega
        subst this
        rw[Nat.sub_self] at he2
        have he3:nI z v h=0:=he2.symm
        rw[jV _ _ _ he3] at he
        refine wS (aI @pgv (aI @hel (aI @hg (aI @hsl @hsh)))) trivial ?_
        (refine dh (h+1) [] [0] (⟨hlt,he,hlt32''⟩) (by first|omega|(simp only[List.length_cons];omega)) ?_;(refine dN ?_ ?_ (gu _ _ _) (by decide) (by decide) (by decide) (by decide);(repeat' (first|exact trivial|refine dI _ _ rfl rfl ?_ ?_));all_goals (try simp only[pgs,pgl,pgx,pgf,pgw,di,dL,dm,dM,qc,iO,fO,pgn,simprocAttr]);all_goals (try (repeat' (first|apply aI)));all_goals (try (first|exact trivial|exact dE (by omega)|exact eH rfl|exact bP rfl rfl|exact jq rfl))))
        all_goals first|exact dE (by rw[eun])|skip
    ·have:h=v.length:=by omega
     subst this
     rw[Nat.sub_self] at he
     have he0:0=E:=he
     subst he0
     rw[if_neg (by omega)] at hR
     unfold Jl at hR
     by_cases q6:0<v.length
     ·have hg:=nG v (v.length-1) (by omega)
      have hi1:((v.length:Int)-1).toNat=v.length-1:=by omega
      generalize v.getD (v.length-1) []=lev at *
      have hsl:=eG lev
      by_cases q7:lev.length=0
      ·rw[if_pos ⟨q6,q7⟩] at hR
       subst hR
       exact wR (aI @pgv (aI @hel (aI @hg (aI @hsl @hi1)))) trivial ay
      ·rw[if_neg (by omega)] at hR
       by_cases q8:unR v v.length=t
       ·rw[if_neg (by omega)] at hR
        subst hR
        exact wR (aI @pgv (aI @hel (aI @hg (aI @hsl @hi1)))) trivial ay
       ·rw[if_pos q8] at hR
        subst hR
        exact wR (aI @pgv (aI @hel (aI @hg (aI @hsl @hi1)))) trivial ay
     ·rw[if_neg (by omega)] at hR
      by_cases q8:unR v v.length=t
      ·rw[if_neg (by omega)] at hR
       subst hR
       exact wR (aI @pgv @hel) trivial ay
      ·rw[if_pos q8] at hR
       subst hR
       exact wR (aI @pgv @hel) trivial ay
 ·rw[if_pos c1]
  by_cases c2:2≤z∧z≤32∧z%2=0
  ·have k1:=Jq z c2
   by_cases a0:0≤t
   ·by_cases a1:t≤1099511627776
    ·by_cases a2:0≤lo
     ·refine gI oW Tryz.func86 Tryz.results86 ?_
      exact wR trivial k1 ay
     ·refine gI oW Tryz.func86 Tryz.results86 ?_
      exact wR trivial k1 ay
    ·refine gI oW Tryz.func86 Tryz.results86 ?_
     exact wR trivial k1 ay
   ·refine gI oW Tryz.func86 Tryz.results86 ?_
    exact wR trivial k1 ay
  ·have k1:=RN z c2
   refine gI oW Tryz.func86 Tryz.results86 ?_
   exact wR trivial k1 ay
end Go.Proofs.YtiohdbjggmmjcaaGreat
section
namespace Go.Pg
open Go
section
variable {P:Program} [Tb P] {s:St} {d:Option Nat} {ty:TypeId} {pos:String} {af:Array Edge} {g:Option (Nat × Bool)} {K:Kd→St→Prop}
theorem Du(t:TypeId):aA P s ⟨d,.makeMap t none,ty,pos,af,g⟩ K=iq (uD P s t) d .x K:=by simp only[aA,kqo,dA,kx,qv,rv,xv,zv,Op.operands,bK,bC,aP,or_false,false_or]
theorem FT(t:TypeId)(x i:Operand)(ok:Bool):aA P s ⟨d,.lookup t x i ok,ty,pos,af,g⟩ K=kz (lkV P t (s.ev x) (s.ev i) ok) s d [s.ev x,s.ev i] K:=by simp only[aA,kqo,dA,kx,qv,rv,xv,zv,Op.operands,List.map_toArray,List.map_cons,List.map_nil,bC,aP,or_false]
theorem zD(t:TypeId)(m k x:Operand):aA P s ⟨d,.mapUpdate t m k x,ty,pos,af,g⟩ K=iq (Kt P s t (s.ev m) (s.ev k) (s.ev x)) d .x K:=by simp only[aA,kqo,dA,kx,qv,rv,xv,zv,Op.operands,bK,bC,aP,or_false,false_or]
end
section
variable (P:Program) (e:Nat→V) (b:Bxx) (n:Nat) (h:Nat→V) (t tm:TypeId) (id:Nat) (es es':List (ByteArray × Value)) (k:ByteArray) (v:Value)
theorem XG:uD P ⟨e,b,n,h⟩ t=(AL P t).map fun _=>(.mp (.own n t) [],⟨e,b,n+1,h⟩):=rfl
theorem agq:lkV P t (.mp (.own id tm) es) (.c (.string k)) false=(AL P t).bind fun p=>if gy P p.1=true then (kV P p.2).map fun z => .c ((xh es k).getD z) else none:=rfl
theorem agr:lkV P t (.mp (.own id tm) es) (.c (.string k)) true=(AL P t).bind fun p=>if gy P p.1=true then (kV P p.2).map fun z => .tup [.c ((xh es k).getD z),.c (.bool (xh es k).isSome)] else none:=rfl
theorem aeI:Kt P ⟨e,b,n,h⟩ t (.mp (.own id tm) es) (.c (.string k)) (.c v)=(AL P t).bind fun p=>if gy P p.1=true then some (.top,⟨dX (jY id (ng es k v)) e,mapB (jY id (ng es k v)) b,n,dX (jY id (ng es k v)) h⟩) else none:=rfl
theorem RP:jY id es' (.mp (.own id tm) es) = .mp (.own id tm) es':=if_pos rfl
theorem abL:jY id es' (.c v) = .c v:=rfl
theorem XH(j:Nat)(xs:List V):jY id es' (.sl .fz j xs) = .sl .fz j xs:=rfl
theorem XI(j i:Nat)(xs:List V):jY id es' (.sl (.own i t) j xs)=aJ id (.sl (.own i t) j xs):=rfl
theorem RQ(c o:Nat):jY id es' (.ref c o) = .ref c o:=rfl
theorem RS(l:List V):jY id es' (.agg l)=aJ id (.agg l):=rfl
theorem RU(l:List V):jY id es' (.tup l)=aJ id (.tup l):=rfl
theorem XJ(f:FuncId)(l m:List V):jY id es' (.fn f l m)=aJ id (.fn f l m):=rfl
theorem RV(j:Nat)(xs:List V)(i o:Nat):jY id es' (.el .fz j xs i o) = .el .fz j xs i o:=rfl
theorem RX:jY id es' .top = .top:=by show aJ id .top = .top;unfold aJ;split<;>rfl
theorem aeJ(p:Tag→Bool)(q:Nat→Bool)(tp:Bool)(tg:Tag):V.any p q tp (.mp tg es)=p tg:=rfl
theorem aeK(τ:Tag→Tag)(ρ:Nat→Nat)(tg:Tag):V.map τ ρ (.mp tg es) = .mp (τ tg) es:=rfl
theorem RY(i j:Nat)(hj:(j == i)=false):aJ i (.mp (.own j t) es) = .mp (.own j t) es:=by
 show (if (j == i)=true then _ else _)=_
 rw[hj];rfl
end
def pgp:=aI @Du (aI @FT (aI @zD (aI XG (aI agq (aI agr (aI aeI (aI RP (aI abL (aI XH (aI XI (aI RQ (aI RS (aI RU (aI XJ (aI RV (aI RX (aI aeJ (aI aeK RY))))))))))))))))))
end Go.Pg
end
namespace Go.Proofs.YtiohdbjggmmjcaaGreat
open Go Go.Pg
theorem OY:∀(a b:List UInt8),Lib.compareBytes a b=if Op.bytesLess a b=true then -1 else if Op.bytesLess b a=true then 1 else 0
 | [],[]=>rfl
 | [],_::_=>rfl
 | _::_,[]=>rfl
 | x::a,y::b=>by
  have h:=OY a b
  unfold Lib.compareBytes
  simp only[Op.bytesLess,Bool.or_eq_true,decide_eq_true_eq,Bool.and_eq_true,beq_iff_eq]
  by_cases h1:x<y
  ·simp [h1]
  ·by_cases h2:y<x
   ·have hne:x≠y:=fun e=>by subst e;exact h1 h2
    simp [h1,h2,hne]
   ·have he:x=y:=UInt8.le_antisymm (UInt8.not_lt.1 h2) (UInt8.not_lt.1 h1)
    subst he
    simp [h1,h]
def BU(a b:List Nat):Int:=if kl a b=true then -1 else if kl b a=true then 1 else 0
theorem XK(a b:List Nat):GoodX Tryz.prog 208 [vs a,vs b] (vi (BU a b)):=by
 rintro L w cargs ⟨_,_,rfl,rfl,_,_,rfl,rfl,rfl⟩
 refine⟨_, ?_,rfl⟩
 rw[run_callFunc_extern Tryz.func208 (by kernel_rfl) (by kernel_rfl) (by kernel_rfl) (e:=Extern.BytealgCompare.compare) (by kernel_rfl)]
 show ((Extern.BytealgCompare.compare #[.string (sB a),.string (sB b)]).run Tryz.prog w).andThen _=_
 rw[Lib.run_compareString,OY,←ByteArray.toList_eq,←ByteArray.toList_eq]
 rfl
theorem Jr(a b:List Nat):Gxx 184 [vs a,vs b] (vi (BU a b)):=by
 refine gI oW Tryz.func184 Tryz.results184 ?_
 (repeat' first|refine wP trivial trivial ?_|refine cZ ((XK a b).z _) ?_|refine tS ?_ ?_<;>intro hc|fail)
 exact rE []
theorem FU(a b:List Nat):Gxx 166 [vs a,vs b] (vi (BU a b)):=by
 refine gI oW Tryz.func166 Tryz.results166 ?_
 exact wR trivial (Jr a b) ay
theorem uf(a:Int):Gxx 183 [vi a] (vb false):=by
 refine gI oW Tryz.func183 Tryz.results183 ?_
 exact wR trivial trivial ay
def XL(a b:Int):Int:=if a<b then -1 else if b<a then 1 else 0
theorem RZ(a b:Int):Gxx 165 [vi a,vi b] (vi (XL a b)):=by
 unfold XL
 by_cases h1:a<b
 ·rw[if_pos h1]
  refine gI oW Tryz.func165 Tryz.results165 ?_
  exact wR trivial (aI (uf a) (uf b)) ay
 ·rw[if_neg h1]
  by_cases h2:b<a
  ·rw[if_pos h2]
   refine gI oW Tryz.func165 Tryz.results165 ?_
   exact wR trivial (aI (uf a) (uf b)) ay
  ·rw[if_neg h2]
   refine gI oW Tryz.func165 Tryz.results165 ?_
   exact wR trivial (aI (uf a) (uf b)) ay
def FV:List Int→Int
 | []=>0
 | x::l=>if x=0 then FV l else x
theorem ahO(l:List Int)(hn:l.length≤1000000):Gxx 164 [fzi l] (vi (FV l)):=by
 have hil:=aZ l
 refine gI oW Tryz.func164 Tryz.results164 ?_
 refine wS @hil trivial ?_
 refine df (fun i:Nat=>mkA [(3,vi 0),(6,fzi l),(7,vi l.length),(8,vi i)] [] 0 (fun _ => .top)) (fun i=>i≤l.length∧FV (l.drop i)=FV l) (fun i=>l.length-i) 0 [] [] ?_ ⟨Nat.zero_le _,rfl⟩ ?_
 ·exact kE
 ·rintro i ⟨hi,he⟩
  rcases Nat.lt_or_ge i l.length with hlt|hge
  ·have hg:=kF l i hlt
   rw[List.drop_eq_getElem_cons hlt] at he
   have hgd:l.getD i 0=l[i]:=by simp [List.getD,hlt]
   rw[hgd] at hg
   generalize l[i]=x at *
   by_cases h0:x=0
   ·subst h0
    have he2:FV (l.drop (i+1))=FV l:=he
    refine wS (aI @hil @hg) trivial ?_
    exact bE (i+1) [] [] ⟨hlt,he2⟩
   ·have he2:x=FV l:=by rw[←he];exact (if_neg h0).symm
    rw[←he2]
    exact wR (aI @hil @hg) trivial ay
  ·have:i=l.length:=by omega
   subst this
   rw[List.drop_length] at he
   rw[←he]
   exact wR @hil trivial ay
def qV(a b:En):Int:=if b.2.1<a.2.1 then -1 else if a.2.1<b.2.1 then 1 else BU a.1 b.1
theorem abM(a b:En):FV [XL b.2.1 a.2.1,BU a.1 b.1]=qV a b:=by
 unfold qV XL
 by_cases h1:b.2.1<a.2.1
 ·rw[if_pos h1,if_pos h1];rfl
 ·rw[if_neg h1,if_neg h1]
  by_cases h2:a.2.1<b.2.1
  ·rw[if_pos h2,if_pos h2];rfl
  ·rw[if_neg h2,if_neg h2]
   show (if (0:Int)=0 then FV [BU a.1 b.1] else 0)=_
   rw[if_pos rfl]
   show (if BU a.1 b.1=0 then 0 else BU a.1 b.1)=_
   split
   ·rename_i h;rw[h]
   ·rfl
theorem abN{a b:List Nat}:BU a b<0↔kl a b=true:=by
 unfold BU
 by_cases h:kl a b=true
 ·simp [h]
 ·by_cases h2:kl b a=true<;>simp [h,h2]
theorem OZ(a b:En):decide (qV a b<0)=bfE a b:=by
 unfold qV bfE
 by_cases h1:b.2.1<a.2.1
 ·simp [h1]
 ·by_cases h2:a.2.1<b.2.1
  ·have:¬a.2.1=b.2.1:=by omega
   simp [h1,h2,this]
  ·have:a.2.1=b.2.1:=by omega
   rw[if_neg h1,if_neg h2]
   simp only[this,Int.lt_irrefl,decide_false,Bool.false_or,decide_true,Bool.true_and]
   rw[Bool.eq_iff_iff,decide_eq_true_eq]
   exact abN
theorem x8(a b:En):Gxx 140 [.agg [vs a.1,vi a.2.1,vi a.2.2],.agg [vs b.1,vi b.2.1,vi b.2.2]] (vi (qV a b)):=by
 have h1:=RZ b.2.1 a.2.1
 have h2:=FU a.1 b.1
 have h3:=ahO [XL b.2.1 a.2.1,BU a.1 b.1] (by simp)
 rw[abM] at h3
 refine gI oW Tryz.func140 Tryz.results140 ?_
 exact wR trivial (aI h1 (aI h2 h3)) ay
end Go.Proofs.YtiohdbjggmmjcaaGreat
