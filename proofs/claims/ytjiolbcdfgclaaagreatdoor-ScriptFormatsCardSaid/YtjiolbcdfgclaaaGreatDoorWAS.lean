/-
  Texts of this claim, merged; own names are short.
-/
import Derived.Test.YtjiolbcdfgclaaaGreatDoorWAR
import Derived.Test.YtjiolbcdfgclaaaGreatDoorWAJ
set_option linter.unusedVariables false
set_option linter.unusedSimpArgs false
set_option linter.unusedSectionVars false
set_option linter.defProp false
set_option maxRecDepth 100000
set_option maxHeartbeats 8000000
namespace Go.Proofs.YtjiolbcdfgclaaaGreatDoor
open Go Go.Pg
abbrev skC(s:Sk)(a b c d e:V):List V:=[vi s.p.k,vi s.p.z,vi s.p.d,vu s.p.s,vi s.tl.t,vi s.tl.i,vb s.tl.b,vi s.cm.d,vi s.cm.z,vu s.cm.s,a,vb s.cm.b,vi s.ll.p,vu s.ll.s,b,vi s.tp.z,vi s.tp.t,c,vb s.tp.b,vi s.fq.z,vi s.fq.t,vi s.fq.l,d,vb s.fq.b,vi s.rk.z,vi s.rk.t,vi s.rk.l,e,vb s.rk.b]
def orN(x:V)(y:V):Prop:=x=y∨(x=nls∧∃k,y = .sl .fz k [])
theorem tK{x y:V}(h:orN x y):wk1 x y:=by
 rcases h with rfl|⟨rfl,k,rfl⟩
 ·exact .inl rfl
 ·exact oq _ _
theorem mJ(s:Sk){a b c d e:V}(ha:orN a (fzi s.cm.c))(hb:orN b (fzi s.ll.r))(hc:orN c (fzv s.tp.e))(hd:orN d (fzv s.fq.e))(he:orN e (fzl s.rk.v)):wkV (.agg (skC s a b c d e)) (.agg (skF s)):=by
 refine .inr ⟨_,_,rfl,rfl, ?_⟩
 (repeat' (first|exact trivial|refine iV (.inl rfl) ?_|refine iV (tK ha) ?_|refine iV (tK hb) ?_|refine iV (tK hc) ?_|refine iV (tK hd) ?_|refine iV (tK he) ?_))
theorem cu(x:V):orN x x := .inl rfl
theorem aj(k:Nat):orN nls (.sl .fz k []) := .inr ⟨rfl,k,rfl⟩
structure Sk.Ok (s:Sk):Prop where
 ps:0≤s.p.s∧s.p.s<18446744073709551616
 cs:0≤s.cm.s∧s.cm.s<18446744073709551616
 ls:0≤s.ll.s∧s.ll.s<18446744073709551616
 cn:s.cm.c.length≤1000000
 ln:s.ll.r.length≤1000000
 to:octE s.tp.e
 tn:s.tp.e.length≤1000000
 fo:octE s.fq.e
 fn:s.fq.e.length≤1000000
 ro:∀l∈s.rk.v,octL l
 rn:s.rk.v.length≤1000000
 rm:∀l∈s.rk.v,l.length≤1000000
def dn(s:Sk):Sk:=⟨s.p,if s.p.k=1 then s.tl else Tl.o,if s.p.k=2 then s.cm else Cm.o,if s.p.k=3 then s.ll else Ll.o,if s.p.k=4 then s.tp else Tp.o,if s.p.k=5 then s.fq else Fq.o,if s.p.k=6 then s.rk else Rk.o⟩
theorem pF{s:Sk}(h:s.Ok):(dn s).Ok:=by
 refine⟨h.ps, ?_, ?_, ?_, ?_, ?_, ?_, ?_, ?_, ?_, ?_, ?_⟩
 all_goals (simp only[dn];split)
 ·exact h.cs
 ·exact⟨by decide,by decide⟩
 ·exact h.ls
 ·exact⟨by decide,by decide⟩
 ·exact h.cn
 ·exact Nat.zero_le _
 ·exact h.ln
 ·exact Nat.zero_le _
 ·exact h.to
 ·intro e he;cases he
 ·exact h.tn
 ·exact Nat.zero_le _
 ·exact h.fo
 ·intro e he;cases he
 ·exact h.fn
 ·exact Nat.zero_le _
 ·exact h.ro
 ·intro e he;cases he
 ·exact h.rn
 ·exact Nat.zero_le _
 ·exact h.rm
 ·intro e he;cases he
theorem rW(s:Sk):Gxx 162 [.agg (skF s)] (.agg (skF (dn s))):=by
 by_cases q1:s.p.k=1
 ·have eo:dn s=⟨s.p,s.tl,Cm.o,Ll.o,Tp.o,Fq.o,Rk.o⟩:=by simp [dn,q1]
  rw[eo]
  refine Good.fzr (r := .agg (skC ⟨s.p,s.tl,Cm.o,Ll.o,Tp.o,Fq.o,Rk.o⟩ nls nls nls nls nls)) ?_ rfl (mJ ⟨s.p,s.tl,Cm.o,Ll.o,Tp.o,Fq.o,Rk.o⟩ (aj _) (aj _) (aj _) (aj _) (aj _))
  obtain⟨⟨pk,pz,pd,ps⟩,⟨t1,t2,t3⟩,⟨c1,c2,c3,c4,c5⟩,⟨l1,l2,l3⟩,⟨e1,e2,e3,e4⟩,⟨f1,f2,f3,f4,f5⟩,⟨r1,r2,r3,r4,r5⟩⟩:=s
  simp only at q1
  subst q1
  refine gI oD Tryz.func162 Tryz.results162 ?_
  exact wRA trivial trivial ah
 by_cases q2:s.p.k=2
 ·have eo:dn s=⟨s.p,Tl.o,s.cm,Ll.o,Tp.o,Fq.o,Rk.o⟩:=by simp [dn,q2]
  rw[eo]
  refine Good.fzr (r := .agg (skC ⟨s.p,Tl.o,s.cm,Ll.o,Tp.o,Fq.o,Rk.o⟩ (fzi s.cm.c) nls nls nls nls)) ?_ rfl (mJ ⟨s.p,Tl.o,s.cm,Ll.o,Tp.o,Fq.o,Rk.o⟩ (cu _) (aj _) (aj _) (aj _) (aj _))
  obtain⟨⟨pk,pz,pd,ps⟩,⟨t1,t2,t3⟩,⟨c1,c2,c3,c4,c5⟩,⟨l1,l2,l3⟩,⟨e1,e2,e3,e4⟩,⟨f1,f2,f3,f4,f5⟩,⟨r1,r2,r3,r4,r5⟩⟩:=s
  simp only at q2
  subst q2
  refine gI oD Tryz.func162 Tryz.results162 ?_
  exact wRA trivial trivial ah
 by_cases q3:s.p.k=3
 ·have eo:dn s=⟨s.p,Tl.o,Cm.o,s.ll,Tp.o,Fq.o,Rk.o⟩:=by simp [dn,q3]
  rw[eo]
  refine Good.fzr (r := .agg (skC ⟨s.p,Tl.o,Cm.o,s.ll,Tp.o,Fq.o,Rk.o⟩ nls (fzi s.ll.r) nls nls nls)) ?_ rfl (mJ ⟨s.p,Tl.o,Cm.o,s.ll,Tp.o,Fq.o,Rk.o⟩ (aj _) (cu _) (aj _) (aj _) (aj _))
  obtain⟨⟨pk,pz,pd,ps⟩,⟨t1,t2,t3⟩,⟨c1,c2,c3,c4,c5⟩,⟨l1,l2,l3⟩,⟨e1,e2,e3,e4⟩,⟨f1,f2,f3,f4,f5⟩,⟨r1,r2,r3,r4,r5⟩⟩:=s
  simp only at q3
  subst q3
  refine gI oD Tryz.func162 Tryz.results162 ?_
  exact wRA trivial trivial ah
 by_cases q4:s.p.k=4
 ·have eo:dn s=⟨s.p,Tl.o,Cm.o,Ll.o,s.tp,Fq.o,Rk.o⟩:=by simp [dn,q4]
  rw[eo]
  refine Good.fzr (r := .agg (skC ⟨s.p,Tl.o,Cm.o,Ll.o,s.tp,Fq.o,Rk.o⟩ nls nls (fzv s.tp.e) nls nls)) ?_ rfl (mJ ⟨s.p,Tl.o,Cm.o,Ll.o,s.tp,Fq.o,Rk.o⟩ (aj _) (aj _) (cu _) (aj _) (aj _))
  obtain⟨⟨pk,pz,pd,ps⟩,⟨t1,t2,t3⟩,⟨c1,c2,c3,c4,c5⟩,⟨l1,l2,l3⟩,⟨e1,e2,e3,e4⟩,⟨f1,f2,f3,f4,f5⟩,⟨r1,r2,r3,r4,r5⟩⟩:=s
  simp only at q4
  subst q4
  refine gI oD Tryz.func162 Tryz.results162 ?_
  exact wRA trivial trivial ah
 by_cases q5:s.p.k=5
 ·have eo:dn s=⟨s.p,Tl.o,Cm.o,Ll.o,Tp.o,s.fq,Rk.o⟩:=by simp [dn,q5]
  rw[eo]
  refine Good.fzr (r := .agg (skC ⟨s.p,Tl.o,Cm.o,Ll.o,Tp.o,s.fq,Rk.o⟩ nls nls nls (fzv s.fq.e) nls)) ?_ rfl (mJ ⟨s.p,Tl.o,Cm.o,Ll.o,Tp.o,s.fq,Rk.o⟩ (aj _) (aj _) (aj _) (cu _) (aj _))
  obtain⟨⟨pk,pz,pd,ps⟩,⟨t1,t2,t3⟩,⟨c1,c2,c3,c4,c5⟩,⟨l1,l2,l3⟩,⟨e1,e2,e3,e4⟩,⟨f1,f2,f3,f4,f5⟩,⟨r1,r2,r3,r4,r5⟩⟩:=s
  simp only at q5
  subst q5
  refine gI oD Tryz.func162 Tryz.results162 ?_
  exact wRA trivial trivial ah
 by_cases q6:s.p.k=6
 ·have eo:dn s=⟨s.p,Tl.o,Cm.o,Ll.o,Tp.o,Fq.o,s.rk⟩:=by simp [dn,q6]
  rw[eo]
  refine Good.fzr (r := .agg (skC ⟨s.p,Tl.o,Cm.o,Ll.o,Tp.o,Fq.o,s.rk⟩ nls nls nls nls (fzl s.rk.v))) ?_ rfl (mJ ⟨s.p,Tl.o,Cm.o,Ll.o,Tp.o,Fq.o,s.rk⟩ (aj _) (aj _) (aj _) (aj _) (cu _))
  obtain⟨⟨pk,pz,pd,ps⟩,⟨t1,t2,t3⟩,⟨c1,c2,c3,c4,c5⟩,⟨l1,l2,l3⟩,⟨e1,e2,e3,e4⟩,⟨f1,f2,f3,f4,f5⟩,⟨r1,r2,r3,r4,r5⟩⟩:=s
  simp only at q6
  subst q6
  refine gI oD Tryz.func162 Tryz.results162 ?_
  exact wRA trivial trivial ah
 have eo:dn s=⟨s.p,Tl.o,Cm.o,Ll.o,Tp.o,Fq.o,Rk.o⟩:=by simp [dn,q1,q2,q3,q4,q5,q6]
 rw[eo]
 refine Good.fzr (r := .agg (skC ⟨s.p,Tl.o,Cm.o,Ll.o,Tp.o,Fq.o,Rk.o⟩ nls nls nls nls nls)) ?_ rfl (mJ ⟨s.p,Tl.o,Cm.o,Ll.o,Tp.o,Fq.o,Rk.o⟩ (aj _) (aj _) (aj _) (aj _) (aj _))
 obtain⟨⟨pk,pz,pd,ps⟩,⟨t1,t2,t3⟩,⟨c1,c2,c3,c4,c5⟩,⟨l1,l2,l3⟩,⟨e1,e2,e3,e4⟩,⟨f1,f2,f3,f4,f5⟩,⟨r1,r2,r3,r4,r5⟩⟩:=s
 simp only at q1 q2 q3 q4 q5 q6
 refine gI oD Tryz.func162 Tryz.results162 ?_
 exact wRA trivial trivial ah
def samP(a b:Pm):Prop:=a.k=b.k∧a.z=b.z∧a.d=b.d∧a.s=b.s
instance (a b:Pm):Decidable (samP a b):=by unfold samP;infer_instance
def samT(a b:Tl):Prop:=a.t=b.t∧a.i=b.i∧a.b=b.b
instance (a b:Tl):Decidable (samT a b):=by unfold samT;infer_instance
def qi(a b:Sk):Bool:=decide (samP a.p b.p)&&(decide (samT a.tl b.tl)&&(Sv a.cm b.cm&&(Sz a.ll b.ll&&(SA a.tp b.tp&&(SB a.fq b.fq&&SC a.rk b.rk)))))
theorem alY(a b:Pm):((a.k == b.k)&&((a.z == b.z)&&((a.d == b.d)&&(a.s == b.s))))=decide (samP a b):=by
 rw[Bool.eq_iff_iff,decide_eq_true_eq];simp [samP]
theorem alZ(a b:Tl):((a.t == b.t)&&((a.i == b.i)&&(a.b == b.b)))=decide (samT a b):=by
 rw[Bool.eq_iff_iff,decide_eq_true_eq];simp [samT]
theorem rX(a b:Sk)(ha:a.Ok)(hb:b.Ok):Gxx 161 [.agg (skF a),.agg (skF b)] (vb (qi a b)):=by
 have k1:=BD a.cm b.cm ha.cn hb.cn
 have k2:=EZ a.ll b.ll ha.ln hb.ln
 have k3:=PN a.tp b.tp ha.to hb.to ha.tn hb.tn
 have k4:=BF a.fq b.fq ha.fo hb.fo ha.fn hb.fn
 have k5:=IU a.rk b.rk ha.ro hb.ro ha.rn hb.rn ha.rm hb.rm
 have e1:=alY a.p b.p
 have e2:=alZ a.tl b.tl
 unfold qi
 generalize decide (samP a.p b.p)=x1 at *
 generalize decide (samT a.tl b.tl)=x2 at *
 generalize Sv a.cm b.cm=x3 at *
 generalize Sz a.ll b.ll=x4 at *
 generalize SA a.tp b.tp=x5 at *
 generalize SB a.fq b.fq=x6 at *
 generalize SC a.rk b.rk=x7 at *
 clear ha hb
 obtain⟨⟨pk,pz,pd,ps⟩,⟨t1,t2,t3⟩,⟨c1,c2,c3,c4,c5⟩,⟨l1,l2,l3⟩,⟨e11,e12,e13,e14⟩,⟨f1,f2,f3,f4,f5⟩,⟨r1,r2,r3,r4,r5⟩⟩:=a
 obtain⟨⟨pk',pz',pd',ps'⟩,⟨t1',t2',t3'⟩,⟨c1',c2',c3',c4',c5'⟩,⟨l1',l2',l3'⟩,⟨e11',e12',e13',e14'⟩,⟨f1',f2',f3',f4',f5'⟩,⟨r1',r2',r3',r4',r5'⟩⟩:=b
 simp only at *
 cases x1
 ·refine gI oW Tryz.func161 Tryz.results161 ?_
  exact wR (aI @Bool.and_true (aI @Bool.true_and (aI @Bool.false_and (aI @Bool.and_false (aI @e1 @e2))))) trivial ah
 ·cases x2
  ·refine gI oW Tryz.func161 Tryz.results161 ?_
   exact wR (aI @Bool.and_true (aI @Bool.true_and (aI @Bool.false_and (aI @Bool.and_false (aI @e1 @e2))))) trivial ah
  ·cases x3
   ·refine gI oW Tryz.func161 Tryz.results161 ?_
    exact wR (aI @Bool.and_true (aI @Bool.true_and (aI @Bool.false_and (aI @Bool.and_false (aI @e1 @e2))))) k1 ah
   ·cases x4
    ·refine gI oW Tryz.func161 Tryz.results161 ?_
     exact wR (aI @Bool.and_true (aI @Bool.true_and (aI @Bool.false_and (aI @Bool.and_false (aI @e1 @e2))))) (aI k1 k2) ah
    ·cases x5
     ·refine gI oW Tryz.func161 Tryz.results161 ?_
      exact wR (aI @Bool.and_true (aI @Bool.true_and (aI @Bool.false_and (aI @Bool.and_false (aI @e1 @e2))))) (aI k1 (aI k2 k3)) ah
     ·cases x6
      ·refine gI oW Tryz.func161 Tryz.results161 ?_
       exact wR (aI @Bool.and_true (aI @Bool.true_and (aI @Bool.false_and (aI @Bool.and_false (aI @e1 @e2))))) (aI k1 (aI k2 (aI k3 k4))) ah
      ·cases x7
       ·refine gI oW Tryz.func161 Tryz.results161 ?_
        exact wR (aI @Bool.and_true (aI @Bool.true_and (aI @Bool.false_and (aI @Bool.and_false (aI @e1 @e2))))) (aI k1 (aI k2 (aI k3 (aI k4 k5)))) ah
       ·refine gI oW Tryz.func161 Tryz.results161 ?_
        exact wR (aI @Bool.and_true (aI @Bool.true_and (aI @Bool.false_and (aI @Bool.and_false (aI @e1 @e2))))) (aI k1 (aI k2 (aI k3 (aI k4 k5)))) ah
def kY(s:Sk):Int:=if s.p.k=1 then vTl s.tl else if s.p.k=2 then vCm s.cm else if s.p.k=3 then vLl s.ll else if s.p.k=4 then vTp s.tp else if s.p.k=5 then vFq s.fq else vRk s.rk
def parP(s:Sk):Prop:=if s.p.k=1 then True else if s.p.k=2 then s.cm.d=s.p.d∧s.cm.z=s.p.z∧s.cm.s=s.p.s else if s.p.k=3 then s.ll.p=s.p.z∧s.ll.s=s.p.s else if s.p.k=4 then s.tp.z=s.p.z else if s.p.k=5 then s.fq.z=s.p.z else s.rk.z=s.p.z
instance (s:Sk):Decidable (parP s):=by unfold parP;infer_instance
def vSk(s:Sk):Int:=if vp s.p.k s.p.z s.p.d s.p.s≠0 then vp s.p.k s.p.z s.p.d s.p.s else if kY s≠0 then kY s else if parP s then (if qi s (dn s)=true then 0 else 18) else 18
theorem E5(s:Sk)(h:vp s.p.k s.p.z s.p.d s.p.s≠0):Gxx 113 [.agg (skF s)] (vi (vSk s)):=by
 have h1:=bg s.p.k s.p.z s.p.d s.p.s
 unfold vSk
 rw[if_pos h]
 generalize vp s.p.k s.p.z s.p.d s.p.s=e at *
 obtain⟨⟨pk,pz,pd,ps⟩,⟨t1,t2,t3⟩,⟨c1,c2,c3,c4,c5⟩,⟨l1,l2,l3⟩,⟨e1,e2,e3,e4⟩,⟨f1,f2,f3,f4,f5⟩,⟨r1,r2,r3,r4,r5⟩⟩:=s
 simp only at *
 refine gI oD Tryz.func113 Tryz.results113 ?_
 exact wRA trivial h1 ah
theorem Ew(s:Sk)(ok:s.Ok)(hk:s.p.k=1)(h:vp s.p.k s.p.z s.p.d s.p.s=0):Gxx 113 [.agg (skF s)] (vi (vSk s)):=by
 have h1:=bg s.p.k s.p.z s.p.d s.p.s
 rw[h] at h1
 have h2:=nC s.tl
 have h3:=rW s
 have h4:=rX s (dn s) ok (pF ok)
 have e0:vSk s=if vTl s.tl≠0 then vTl s.tl else if True then (if qi s (dn s)=true then 0 else 18) else 18:=by
  unfold vSk kY parP
  rw[if_neg (fun h'=>h' h)]
  simp [hk]
 rw[e0]
 generalize qi s (dn s)=sm at *
 generalize dn s=s' at *
 generalize vTl s.tl=ve at *
 clear ok
 obtain⟨⟨pk,pz,pd,ps⟩,⟨t1,t2,t3⟩,⟨c1,c2,c3,c4,c5⟩,⟨l1,l2,l3⟩,⟨e1,e2,e3,e4⟩,⟨f1,f2,f3,f4,f5⟩,⟨r1,r2,r3,r4,r5⟩⟩:=s
 simp only at *
 subst hk
 by_cases q:ve=0
 ·rw[if_neg (by omega)]
  subst q
  rw[if_pos trivial]
  cases sm
  ·rw[if_neg (by simp)]
   refine gI oG Tryz.func113 Tryz.results113 ?_
   exact wRG (aI @Bool.and_true (aI @Bool.true_and (aI @Bool.false_and (aI @Bool.and_false (aI @Bool.not_true @Bool.not_false))))) (aI h1 (aI h2 (aI h3 h4))) ah
  ·rw[if_pos rfl]
   refine gI oG Tryz.func113 Tryz.results113 ?_
   exact wRG (aI @Bool.and_true (aI @Bool.true_and (aI @Bool.false_and (aI @Bool.and_false (aI @Bool.not_true @Bool.not_false))))) (aI h1 (aI h2 (aI h3 h4))) ah
 ·rw[if_pos q]
  refine gI oG Tryz.func113 Tryz.results113 ?_
  exact wRG (aI @Bool.and_true (aI @Bool.true_and (aI @Bool.false_and (aI @Bool.and_false (aI @Bool.not_true @Bool.not_false))))) (aI h1 h2) ah
theorem Ey(s:Sk)(ok:s.Ok)(hk:s.p.k=2)(h:vp s.p.k s.p.z s.p.d s.p.s=0):Gxx 113 [.agg (skF s)] (vi (vSk s)):=by
 have h1:=bg s.p.k s.p.z s.p.d s.p.s
 rw[h] at h1
 have h2:=lg s.cm
 have h3:=rW s
 have h4:=rX s (dn s) ok (pF ok)
 have e0:vSk s=if vCm s.cm≠0 then vCm s.cm else if s.cm.d=s.p.d∧s.cm.z=s.p.z∧s.cm.s=s.p.s then (if qi s (dn s)=true then 0 else 18) else 18:=by
  unfold vSk kY parP
  rw[if_neg (fun h'=>h' h)]
  simp [hk]
 rw[e0]
 generalize qi s (dn s)=sm at *
 generalize dn s=s' at *
 generalize vCm s.cm=ve at *
 clear ok
 obtain⟨⟨pk,pz,pd,ps⟩,⟨t1,t2,t3⟩,⟨c1,c2,c3,c4,c5⟩,⟨l1,l2,l3⟩,⟨e1,e2,e3,e4⟩,⟨f1,f2,f3,f4,f5⟩,⟨r1,r2,r3,r4,r5⟩⟩:=s
 simp only at *
 subst hk
 by_cases q:ve=0
 ·rw[if_neg (by omega)]
  subst q
  by_cases w0:c1=pd
  ·by_cases w1:c2=pz
   ·by_cases w2:c3=ps
    ·rw[if_pos ⟨w0,w1,w2⟩]
     cases sm
     ·rw[if_neg (by simp)]
      refine gI oG Tryz.func113 Tryz.results113 ?_
      exact wRG (aI @Bool.and_true (aI @Bool.true_and (aI @Bool.false_and (aI @Bool.and_false (aI @Bool.not_true @Bool.not_false))))) (aI h1 (aI h2 (aI h3 h4))) ah
     ·rw[if_pos rfl]
      refine gI oG Tryz.func113 Tryz.results113 ?_
      exact wRG (aI @Bool.and_true (aI @Bool.true_and (aI @Bool.false_and (aI @Bool.and_false (aI @Bool.not_true @Bool.not_false))))) (aI h1 (aI h2 (aI h3 h4))) ah
    ·rw[if_neg (fun h=>w2 h.2.2)]
     refine gI oG Tryz.func113 Tryz.results113 ?_
     exact wRG (aI @Bool.and_true (aI @Bool.true_and (aI @Bool.false_and (aI @Bool.and_false (aI @Bool.not_true @Bool.not_false))))) (aI h1 h2) ah
   ·rw[if_neg (fun h=>w1 h.2.1)]
    refine gI oG Tryz.func113 Tryz.results113 ?_
    exact wRG (aI @Bool.and_true (aI @Bool.true_and (aI @Bool.false_and (aI @Bool.and_false (aI @Bool.not_true @Bool.not_false))))) (aI h1 h2) ah
  ·rw[if_neg (fun h=>w0 h.1)]
   refine gI oG Tryz.func113 Tryz.results113 ?_
   exact wRG (aI @Bool.and_true (aI @Bool.true_and (aI @Bool.false_and (aI @Bool.and_false (aI @Bool.not_true @Bool.not_false))))) (aI h1 h2) ah
 ·rw[if_pos q]
  refine gI oG Tryz.func113 Tryz.results113 ?_
  exact wRG (aI @Bool.and_true (aI @Bool.true_and (aI @Bool.false_and (aI @Bool.and_false (aI @Bool.not_true @Bool.not_false))))) (aI h1 h2) ah
theorem Ez(s:Sk)(ok:s.Ok)(hk:s.p.k=3)(h:vp s.p.k s.p.z s.p.d s.p.s=0):Gxx 113 [.agg (skF s)] (vi (vSk s)):=by
 have h1:=bg s.p.k s.p.z s.p.d s.p.s
 rw[h] at h1
 have h2:=mG s.ll ok.ln
 have h3:=rW s
 have h4:=rX s (dn s) ok (pF ok)
 have e0:vSk s=if vLl s.ll≠0 then vLl s.ll else if s.ll.p=s.p.z∧s.ll.s=s.p.s then (if qi s (dn s)=true then 0 else 18) else 18:=by
  unfold vSk kY parP
  rw[if_neg (fun h'=>h' h)]
  simp [hk]
 rw[e0]
 generalize qi s (dn s)=sm at *
 generalize dn s=s' at *
 generalize vLl s.ll=ve at *
 clear ok
 obtain⟨⟨pk,pz,pd,ps⟩,⟨t1,t2,t3⟩,⟨c1,c2,c3,c4,c5⟩,⟨l1,l2,l3⟩,⟨e1,e2,e3,e4⟩,⟨f1,f2,f3,f4,f5⟩,⟨r1,r2,r3,r4,r5⟩⟩:=s
 simp only at *
 subst hk
 by_cases q:ve=0
 ·rw[if_neg (by omega)]
  subst q
  by_cases w0:l1=pz
  ·by_cases w1:l2=ps
   ·rw[if_pos ⟨w0,w1⟩]
    cases sm
    ·rw[if_neg (by simp)]
     refine gI oG Tryz.func113 Tryz.results113 ?_
     exact wRG (aI @Bool.and_true (aI @Bool.true_and (aI @Bool.false_and (aI @Bool.and_false (aI @Bool.not_true @Bool.not_false))))) (aI h1 (aI h2 (aI h3 h4))) ah
    ·rw[if_pos rfl]
     refine gI oG Tryz.func113 Tryz.results113 ?_
     exact wRG (aI @Bool.and_true (aI @Bool.true_and (aI @Bool.false_and (aI @Bool.and_false (aI @Bool.not_true @Bool.not_false))))) (aI h1 (aI h2 (aI h3 h4))) ah
   ·rw[if_neg (fun h=>w1 h.2)]
    refine gI oG Tryz.func113 Tryz.results113 ?_
    exact wRG (aI @Bool.and_true (aI @Bool.true_and (aI @Bool.false_and (aI @Bool.and_false (aI @Bool.not_true @Bool.not_false))))) (aI h1 h2) ah
  ·rw[if_neg (fun h=>w0 h.1)]
   refine gI oG Tryz.func113 Tryz.results113 ?_
   exact wRG (aI @Bool.and_true (aI @Bool.true_and (aI @Bool.false_and (aI @Bool.and_false (aI @Bool.not_true @Bool.not_false))))) (aI h1 h2) ah
 ·rw[if_pos q]
  refine gI oG Tryz.func113 Tryz.results113 ?_
  exact wRG (aI @Bool.and_true (aI @Bool.true_and (aI @Bool.false_and (aI @Bool.and_false (aI @Bool.not_true @Bool.not_false))))) (aI h1 h2) ah
theorem EC(s:Sk)(ok:s.Ok)(hk:s.p.k=4)(h:vp s.p.k s.p.z s.p.d s.p.s=0):Gxx 113 [.agg (skF s)] (vi (vSk s)):=by
 have h1:=bg s.p.k s.p.z s.p.d s.p.s
 rw[h] at h1
 have h2:=pX s.tp ok.to ok.tn
 have h3:=rW s
 have h4:=rX s (dn s) ok (pF ok)
 have e0:vSk s=if vTp s.tp≠0 then vTp s.tp else if s.tp.z=s.p.z then (if qi s (dn s)=true then 0 else 18) else 18:=by
  unfold vSk kY parP
  rw[if_neg (fun h'=>h' h)]
  simp [hk]
 rw[e0]
 generalize qi s (dn s)=sm at *
 generalize dn s=s' at *
 generalize vTp s.tp=ve at *
 clear ok
 obtain⟨⟨pk,pz,pd,ps⟩,⟨t1,t2,t3⟩,⟨c1,c2,c3,c4,c5⟩,⟨l1,l2,l3⟩,⟨e1,e2,e3,e4⟩,⟨f1,f2,f3,f4,f5⟩,⟨r1,r2,r3,r4,r5⟩⟩:=s
 simp only at *
 subst hk
 by_cases q:ve=0
 ·rw[if_neg (by omega)]
  subst q
  by_cases w0:e1=pz
  ·rw[if_pos w0]
   cases sm
   ·rw[if_neg (by simp)]
    refine gI oG Tryz.func113 Tryz.results113 ?_
    exact wRG (aI @Bool.and_true (aI @Bool.true_and (aI @Bool.false_and (aI @Bool.and_false (aI @Bool.not_true @Bool.not_false))))) (aI h1 (aI h2 (aI h3 h4))) ah
   ·rw[if_pos rfl]
    refine gI oG Tryz.func113 Tryz.results113 ?_
    exact wRG (aI @Bool.and_true (aI @Bool.true_and (aI @Bool.false_and (aI @Bool.and_false (aI @Bool.not_true @Bool.not_false))))) (aI h1 (aI h2 (aI h3 h4))) ah
  ·rw[if_neg (fun h=>w0 h)]
   refine gI oG Tryz.func113 Tryz.results113 ?_
   exact wRG (aI @Bool.and_true (aI @Bool.true_and (aI @Bool.false_and (aI @Bool.and_false (aI @Bool.not_true @Bool.not_false))))) (aI h1 h2) ah
 ·rw[if_pos q]
  refine gI oG Tryz.func113 Tryz.results113 ?_
  exact wRG (aI @Bool.and_true (aI @Bool.true_and (aI @Bool.false_and (aI @Bool.and_false (aI @Bool.not_true @Bool.not_false))))) (aI h1 h2) ah
theorem ED(s:Sk)(ok:s.Ok)(hk:s.p.k=5)(h:vp s.p.k s.p.z s.p.d s.p.s=0):Gxx 113 [.agg (skF s)] (vi (vSk s)):=by
 have h1:=bg s.p.k s.p.z s.p.d s.p.s
 rw[h] at h1
 have h2:=lm s.fq ok.fo ok.fn
 have h3:=rW s
 have h4:=rX s (dn s) ok (pF ok)
 have e0:vSk s=if vFq s.fq≠0 then vFq s.fq else if s.fq.z=s.p.z then (if qi s (dn s)=true then 0 else 18) else 18:=by
  unfold vSk kY parP
  rw[if_neg (fun h'=>h' h)]
  simp [hk]
 rw[e0]
 generalize qi s (dn s)=sm at *
 generalize dn s=s' at *
 generalize vFq s.fq=ve at *
 clear ok
 obtain⟨⟨pk,pz,pd,ps⟩,⟨t1,t2,t3⟩,⟨c1,c2,c3,c4,c5⟩,⟨l1,l2,l3⟩,⟨e1,e2,e3,e4⟩,⟨f1,f2,f3,f4,f5⟩,⟨r1,r2,r3,r4,r5⟩⟩:=s
 simp only at *
 subst hk
 by_cases q:ve=0
 ·rw[if_neg (by omega)]
  subst q
  by_cases w0:f1=pz
  ·rw[if_pos w0]
   cases sm
   ·rw[if_neg (by simp)]
    refine gI oG Tryz.func113 Tryz.results113 ?_
    exact wRG (aI @Bool.and_true (aI @Bool.true_and (aI @Bool.false_and (aI @Bool.and_false (aI @Bool.not_true @Bool.not_false))))) (aI h1 (aI h2 (aI h3 h4))) ah
   ·rw[if_pos rfl]
    refine gI oG Tryz.func113 Tryz.results113 ?_
    exact wRG (aI @Bool.and_true (aI @Bool.true_and (aI @Bool.false_and (aI @Bool.and_false (aI @Bool.not_true @Bool.not_false))))) (aI h1 (aI h2 (aI h3 h4))) ah
  ·rw[if_neg (fun h=>w0 h)]
   refine gI oG Tryz.func113 Tryz.results113 ?_
   exact wRG (aI @Bool.and_true (aI @Bool.true_and (aI @Bool.false_and (aI @Bool.and_false (aI @Bool.not_true @Bool.not_false))))) (aI h1 h2) ah
 ·rw[if_pos q]
  refine gI oG Tryz.func113 Tryz.results113 ?_
  exact wRG (aI @Bool.and_true (aI @Bool.true_and (aI @Bool.false_and (aI @Bool.and_false (aI @Bool.not_true @Bool.not_false))))) (aI h1 h2) ah
theorem EE(s:Sk)(ok:s.Ok)(hk:s.p.k=6)(h:vp s.p.k s.p.z s.p.d s.p.s=0):Gxx 113 [.agg (skF s)] (vi (vSk s)):=by
 have h1:=bg s.p.k s.p.z s.p.d s.p.s
 rw[h] at h1
 have h2:=nG s.rk ok.ro ok.rn ok.rm
 have h3:=rW s
 have h4:=rX s (dn s) ok (pF ok)
 have e0:vSk s=if vRk s.rk≠0 then vRk s.rk else if s.rk.z=s.p.z then (if qi s (dn s)=true then 0 else 18) else 18:=by
  unfold vSk kY parP
  rw[if_neg (fun h'=>h' h)]
  simp [hk]
 rw[e0]
 generalize qi s (dn s)=sm at *
 generalize dn s=s' at *
 generalize vRk s.rk=ve at *
 clear ok
 obtain⟨⟨pk,pz,pd,ps⟩,⟨t1,t2,t3⟩,⟨c1,c2,c3,c4,c5⟩,⟨l1,l2,l3⟩,⟨e1,e2,e3,e4⟩,⟨f1,f2,f3,f4,f5⟩,⟨r1,r2,r3,r4,r5⟩⟩:=s
 simp only at *
 subst hk
 by_cases q:ve=0
 ·rw[if_neg (by omega)]
  subst q
  by_cases w0:r1=pz
  ·rw[if_pos w0]
   cases sm
   ·rw[if_neg (by simp)]
    refine gI oG Tryz.func113 Tryz.results113 ?_
    exact wRG (aI @Bool.and_true (aI @Bool.true_and (aI @Bool.false_and (aI @Bool.and_false (aI @Bool.not_true @Bool.not_false))))) (aI h1 (aI h2 (aI h3 h4))) ah
   ·rw[if_pos rfl]
    refine gI oG Tryz.func113 Tryz.results113 ?_
    exact wRG (aI @Bool.and_true (aI @Bool.true_and (aI @Bool.false_and (aI @Bool.and_false (aI @Bool.not_true @Bool.not_false))))) (aI h1 (aI h2 (aI h3 h4))) ah
  ·rw[if_neg (fun h=>w0 h)]
   refine gI oG Tryz.func113 Tryz.results113 ?_
   exact wRG (aI @Bool.and_true (aI @Bool.true_and (aI @Bool.false_and (aI @Bool.and_false (aI @Bool.not_true @Bool.not_false))))) (aI h1 h2) ah
 ·rw[if_pos q]
  refine gI oG Tryz.func113 Tryz.results113 ?_
  exact wRG (aI @Bool.and_true (aI @Bool.true_and (aI @Bool.false_and (aI @Bool.and_false (aI @Bool.not_true @Bool.not_false))))) (aI h1 h2) ah
theorem dW(s:Sk)(ok:s.Ok):Gxx 113 [.agg (skF s)] (vi (vSk s)):=by
 by_cases h:vp s.p.k s.p.z s.p.d s.p.s=0
 ·have hk:s.p.k=1∨s.p.k=2∨s.p.k=3∨s.p.k=4∨s.p.k=5∨s.p.k=6:=by unfold vp at h;repeat' split at h<;>omega
  rcases hk with hk|hk|hk|hk|hk|hk
  ·exact Ew s ok hk h
  ·exact Ey s ok hk h
  ·exact Ez s ok hk h
  ·exact EC s ok hk h
  ·exact ED s ok hk h
  ·exact EE s ok hk h
 ·exact E5 s h
theorem EF{l:List En}(h:octE l)(i:Nat)(e:En)(he:oct e.1):octE (l.set i e):=by
 intro x hx
 rcases List.mem_or_eq_of_mem_set hx with h1|rfl
 ·exact h x h1
 ·exact he
theorem abA{l:List En}(h:octE l)(e:En)(he:oct e.1):octE (l++[e]):=by
 intro x hx
 rcases List.mem_append.1 hx with h1|h1
 ·exact h x h1
 ·rw[List.mem_singleton.1 h1];exact he
theorem abB(t:Tp)(k:List Nat)(w:Int)(ho:octE t.e)(hk:oct k)(hn:t.e.length≤1000000):octE (yU t k w).1.e∧(yU t k w).1.e.length≤1000000:=by
 unfold yU
 split
 ·exact⟨(fun e he=>by cases he),Nat.zero_le _⟩
 ·rename_i h1
  have h1:=Classical.byContradiction h1
  split
  ·exact⟨(fun e he=>by cases he),Nat.zero_le _⟩
  ·have h2:=IA h1
   have key:octE (Ae t k w).1∧(Ae t k w).1.length≤t.e.length+1:=by
    unfold Ae
    split
    ·exact⟨EF ho _ _ (lu ho _),by simp⟩
    ·split
     ·exact⟨abA ho _ hk,by simp⟩
     ·exact⟨EF ho _ _ hk,by simp⟩
   refine⟨fun e he=>key.1 e ((RH _ _ _).1 he), ?_⟩
   show (srt bfE (Ae t k w).1).length≤_
   rw[RG];omega
theorem MB(d:Int){l:List En}(h:octE l):octE (qw d l):=by
 induction l with
 | nil=>exact h
 | cons y l ih =>
  have h2:octE l:=fun e he=>h e (by simp [he])
  rw[Gq]
  split
  ·intro e he
   rcases List.mem_cons.1 he with rfl|he
   ·exact h y (by simp)
   ·exact ih h2 e he
  ·exact ih h2
theorem MC(x:En){l:List En}(hx:oct x.1)(h:octE l):octE (o9 x l):=by
 intro e he
 rcases (aa0 x e l).1 he with rfl|he
 ·exact hx
 ·exact h e he
theorem abC(t:Fq)(k:List Nat)(w:Int)(ho:octE t.e)(hk:oct k)(hn:t.e.length≤1000000):octE (yY t k w).1.e∧(yY t k w).1.e.length≤1000000:=by
 unfold yY
 split
 ·exact⟨(fun e he=>by cases he),Nat.zero_le _⟩
 ·rename_i h1
  have h1:=Classical.byContradiction h1
  split
  ·exact⟨(fun e he=>by cases he),Nat.zero_le _⟩
  ·have h2:=IC h1
   show octE (mF t k w).1∧(mF t k w).1.length≤_
   have hl:=Lm (jB w t.e) t.e
   unfold mF
   split
   ·exact⟨EF ho _ _ (lu ho _),by simp;omega⟩
   ·split
    ·exact⟨MC _ hk ho,by simp only[Lj];omega⟩
    ·simp only
     split
     ·exact⟨MC _ hk (MB _ ho),by simp only[Lj];omega⟩
     ·exact⟨MB _ ho,by omega⟩
def Ar(v:List (List (List Nat))):Prop:=∀l∈v,octL l
theorem MF{v:List (List (List Nat))}(h:Ar v)(i:Nat):octL (v.getD i []):=by
 rcases Nat.lt_or_ge i v.length with hi|hi
 ·exact h _ (jS _ _ _ hi)
 ·rw[List.getD,List.getElem?_eq_none hi];intro e he;cases he
theorem abD{v:List (List (List Nat))}(h:Ar v)(i:Nat)(l:List (List Nat))(hl:octL l):Ar (v.set i l):=by
 intro x hx
 rcases List.mem_or_eq_of_mem_set hx with h1|rfl
 ·exact h x h1
 ·exact hl
theorem VD(k:List Nat)(hk:oct k)(ps:List Int)(v:List (List (List Nat)))(hv:Ar v)(i:Nat):Ar (qL k ps v i):=by
 induction i with
 | zero=>exact hv
 | succ i ih =>
  show Ar (EW k (qL k ps v i) (ps.getD i 0).toNat)
  unfold EW
  refine abD ?_ _ _ ?_
  ·intro l hl
   unfold lU at hl
   rcases List.mem_append.1 hl with h1|h1
   ·exact ih l h1
   ·rw[List.eq_of_mem_replicate h1];intro e he;cases he
  ·intro e he
   rcases List.mem_append.1 he with h1|h1
   ·exact MF ih _ e h1
   ·rw[List.mem_singleton.1 h1];exact hk
def abE(s:Stl):Prop:=octL s.2.1∧∀l∈s.2.2.2.2,octL l∧l.length≤32
theorem PO(v:List (List (List Nat)))(z:Int)(hz:z≤32)(co:List Nat)(s:Stl)(hv:Ar v)(h:abE s):abE (jZ v z co s):=by
 obtain⟨h1,h2⟩:=h
 have hc:octL (iD v s):=by
  intro e he
  unfold iD at he
  rw[RH] at he
  split at he
  ·rcases List.mem_append.1 he with he|he
   ·exact MF hv _ e he
   ·exact h1 e he
  ·exact h1 e he
 unfold jZ
 split
 ·rename_i hlt
  refine⟨(fun e he=>by cases he),fun l hl => ?_⟩
  rcases List.mem_append.1 hl with hl|hl
  ·exact h2 l hl
  ·rw[List.mem_singleton.1 hl];exact⟨hc,by omega⟩
 ·refine⟨?_,fun l hl => ?_⟩
  ·intro e he
   unfold evN at he
   obtain⟨j,_,rfl⟩:=List.mem_map.1 he
   exact uZ hc _
  ·rcases List.mem_append.1 hl with hl|hl
   ·exact h2 l hl
   ·rw[List.mem_singleton.1 hl]
    exact⟨fun e he=>hc e (List.mem_of_mem_drop he),by rw[List.length_drop];omega⟩
theorem abG(v:List (List (List Nat)))(z:Int)(hz:z≤32)(co:List Nat)(hv:Ar v):∀(f:Nat) (s:Stl),abE s→abE (vg v z co f s):=by
 intro f
 induction f with
 | zero=>intro s h;exact h
 | succ f ih =>
  intro s h
  unfold vg
  split
  ·exact ih _ (PO v z hz co s hv h)
  ·exact h
theorem VE:∀(f:Nat) (l:List (List (List Nat))),(∀x∈qf f l,x∈l)∧(qf f l).length≤l.length:=by
 intro f
 induction f with
 | zero=>intro l;exact⟨fun x h=>h,Nat.le_refl _⟩
 | succ f ih =>
  intro l
  unfold qf
  split
  ·obtain⟨h1,h2⟩:=ih (l.take (l.length-1))
   exact⟨fun x hx=>List.mem_of_mem_take (h1 x hx),by rw[List.length_take] at h2;omega⟩
  ·exact⟨fun x h=>h,Nat.le_refl _⟩
theorem abH(x:Rk)(k:List Nat)(w:Int)(co:List Nat)(at':Int)(hk:oct k)(hv:Ar x.v)(hn:x.v.length≤1000000)(hm:∀l∈x.v,l.length≤1000000) :
  Ar (rU x k w co at').1.v∧(rU x k w co at').1.v.length≤1000000∧∀l∈(rU x k w co at').1.v,l.length≤1000000:=by
 have h0:Ar []∧([]:List (List (List Nat))).length≤1000000∧∀l∈([]:List (List (List Nat))),l.length≤1000000:=⟨(fun l hl=>by cases hl),Nat.zero_le _,fun l hl=>by cases hl⟩
 unfold rU
 split
 ·exact h0
 ·rename_i h1
  have h1:=Classical.byContradiction h1
  split
  ·exact h0
  ·rename_i h2
   have h2:=Classical.byContradiction h2
   split
   ·exact h0
   ·split
    ·exact⟨hv,hn,hm⟩
    ·obtain⟨i1,i2,i3,i4,i5⟩:=IG h1
     have hin:=LC k (kZ w 63) x.v (fun i=>by have:=LD w 63 i (by decide);omega) 31 i5 (by omega) (kZ w 63).length
     have hpo:=VD k hk (kZ w 63) x.v hv (kZ w 63).length
     have hgo:=abG (Af x k w) x.z (by omega) co hpo ((Af x k w).length*(100+1)) (0,[],x.l,at',[]) ⟨(fun e he=>by cases he),(fun l hl=>by cases hl)⟩
     have hle:=afw (Af x k w) x.z co ((Af x k w).length*(100+1)) (0,[],x.l,at',[])
     have hpl:(Af x k w).length≤63:=hin.1
     have hml:(Af x k w).length*(100+1)≤63*101:=Nat.mul_le_mul_right 101 hpl
     obtain⟨t1,t2⟩:=VE (EX x k w co at').2.2.2.2.length (EX x k w co at').2.2.2.2
     have hsl:(EX x k w co at').2.2.2.2.length≤0+(Af x k w).length*(100+1):=hle
     have hsg:abE (EX x k w co at'):=hgo
     show Ar (qf _ _)∧(qf _ _).length≤_∧∀l∈qf _ _,_
     exact⟨fun l hl=>(hsg.2 l (t1 l hl)).1,by omega,fun l hl=>by have:=(hsg.2 l (t1 l hl)).2;omega⟩
abbrev zer(n:Nat):List Int:=List.replicate n 0
theorem abI(d z s:Int)(h:1≤d∧d≤8∧1≤z∧z≤64):Gxx 166 [vi d,vi z,vu s] (.tup [.agg (cmF ⟨d,z,s,zer (d*z).toNat,false⟩),vi 0]):=by
 refine Good.fzt (vs:=[.agg [vi d,vi z,vu s,.sl (.own 0 3) 1 (iv (zer (d*z).toNat)),vb false],vi 0]) ?_ rfl ⟨aA _,aA _,trivial⟩
 have k1:=aU d 1 8 ⟨h.1,h.2.1⟩
 have k2:=aU z 1 64 h.2.2
 have hm:=zY (d:=d) (z:=z) ⟨h.1,h.2.1⟩ h.2.2
 have hrep:∀n:Nat,List.replicate n (V.c (.int .i64 0))=iv (zer n):=fun n=>by simp [iv]
 refine gI oW Tryz.func166 Tryz.results166 ?_
 exact wR @hrep (aI k1 k2) (ids [1])
theorem abJ(p s:Int)(h:2≤p∧p≤8):Gxx 167 [vi p,vu s] (.tup [.agg (llF ⟨p,s,zer (2^p.toNat)⟩),vi 0]):=by
 refine Good.fzt (vs:=[.agg [vi p,vu s,.sl (.own 0 3) 1 (iv (zer (2^p.toNat)))],vi 0]) ?_ rfl ⟨aA _,aA _,trivial⟩
 have k1:=aU p 2 8 h
 obtain⟨hm,hm2,_⟩:=Aj h
 have hrep:∀n:Nat,List.replicate n (V.c (.int .i64 0))=iv (zer n):=fun n=>by simp [iv]
 generalize 2^p.toNat=q at hm hm2 ⊢
 refine gI oW Tryz.func167 Tryz.results167 ?_
 exact wR (aI @hrep @hm) k1 (ids [1])
theorem abK(p:Int)(h:1≤p∧p≤32):Gxx 168 [vi p] (.tup [.agg (tpF ⟨p,0,[],false⟩),vi 0]):=by
 refine Good.fzt (vs:=[.agg [vi p,vi 0,nls,vb false],vi 0]) ?_ rfl ⟨.inr ⟨_,_,rfl,rfl,⟨.inl rfl,.inl rfl,oq _ _,.inl rfl,trivial⟩⟩,aA _,trivial⟩
 have k1:=aU p 1 32 h
 refine gI oW Tryz.func168 Tryz.results168 ?_
 exact wR trivial k1 ah
theorem abL(p:Int)(h:1≤p∧p≤32):Gxx 169 [vi p] (.tup [.agg (fqF ⟨p,0,0,[],false⟩),vi 0]):=by
 refine Good.fzt (vs:=[.agg [vi p,vi 0,vi 0,nls,vb false],vi 0]) ?_ rfl ⟨.inr ⟨_,_,rfl,rfl,⟨.inl rfl,.inl rfl,.inl rfl,oq _ _,.inl rfl,trivial⟩⟩,aA _,trivial⟩
 have k1:=aU p 1 32 h
 refine gI oW Tryz.func169 Tryz.results169 ?_
 exact wR trivial k1 ah
theorem abM(p:Int)(h:2≤p∧p≤32∧p%2=0):Gxx 170 [vi p] (.tup [.agg (rkF ⟨p,0,0,[],false⟩),vi 0]):=by
 refine Good.fzt (vs:=[.agg [vi p,vi 0,vi 0,nls,vb false],vi 0]) ?_ rfl ⟨.inr ⟨_,_,rfl,rfl,⟨.inl rfl,.inl rfl,.inl rfl,oq _ _,.inl rfl,trivial⟩⟩,aA _,trivial⟩
 have k1:=aU p 2 32 ⟨h.1,h.2.1⟩
 have et:p.tmod 2=p%2:=Int.tmod_eq_emod_of_nonneg (by omega)
 refine gI oW Tryz.func170 Tryz.results170 ?_
 exact wR @et k1 ah
def nX(p:Pm):Sk :=
 if p.k=1 then ⟨p,Tl.o,Cm.o,Ll.o,Tp.o,Fq.o,Rk.o⟩
 else if p.k=2 then ⟨p,Tl.o,⟨p.d,p.z,p.s,zer (p.d*p.z).toNat,false⟩,Ll.o,Tp.o,Fq.o,Rk.o⟩
 else if p.k=3 then ⟨p,Tl.o,Cm.o,⟨p.z,p.s,zer (2^p.z.toNat)⟩,Tp.o,Fq.o,Rk.o⟩
 else if p.k=4 then ⟨p,Tl.o,Cm.o,Ll.o,⟨p.z,0,[],false⟩,Fq.o,Rk.o⟩
 else if p.k=5 then ⟨p,Tl.o,Cm.o,Ll.o,Tp.o,⟨p.z,0,0,[],false⟩,Rk.o⟩
 else ⟨p,Tl.o,Cm.o,Ll.o,Tp.o,Fq.o,⟨p.z,0,0,[],false⟩⟩
theorem al0{z d s:Int}(h:vp 2 z d s=0):1≤d∧d≤8∧1≤z∧z≤64:=by unfold vp at h;simp at h;omega
theorem al1{z d s:Int}(h:vp 3 z d s=0):2≤z∧z≤8:=by unfold vp at h;simp at h;omega
theorem an7{z d s:Int}(h:vp 4 z d s=0):1≤z∧z≤32:=by unfold vp at h;simp at h;omega
theorem an8{z d s:Int}(h:vp 5 z d s=0):1≤z∧z≤32:=by unfold vp at h;simp at h;omega
theorem an9{z d s:Int}(h:vp 6 z d s=0):2≤z∧z≤32∧z%2=0:=by unfold vp at h;simp at h;omega
theorem abN(p:Pm)(hs:0≤p.s∧p.s<18446744073709551616)(h:vp p.k p.z p.d p.s=0):(nX p).Ok:=by
 have h0:(0:Int)≤0∧(0:Int)<18446744073709551616:=⟨by decide,by decide⟩
 have e0:octE []:=fun e he=>by cases he
 have v0:Ar []:=fun e he=>by cases he
 have m0:∀l∈([]:List (List (List Nat))),l.length≤1000000:=fun e he=>by cases he
 obtain⟨k,z,d,s⟩:=p
 simp only at hs h
 unfold nX
 simp only
 split
 ·exact⟨hs,h0,h0,Nat.zero_le _,Nat.zero_le _,e0,Nat.zero_le _,e0,Nat.zero_le _,v0,Nat.zero_le _,m0⟩
 ·split
  ·rename_i hk;subst hk
   have h2:=al0 h
   have hm:=zY (d:=d) (z:=z) ⟨h2.1,h2.2.1⟩ h2.2.2
   exact⟨hs,hs,h0,by simp;omega,Nat.zero_le _,e0,Nat.zero_le _,e0,Nat.zero_le _,v0,Nat.zero_le _,m0⟩
  ·split
   ·rename_i hk;subst hk
    have h2:=(Aj (al1 h)).2.1
    exact⟨hs,h0,hs,Nat.zero_le _,by simp only[List.length_replicate];omega,e0,Nat.zero_le _,e0,Nat.zero_le _,v0,Nat.zero_le _,m0⟩
   ·split
    ·exact⟨hs,h0,h0,Nat.zero_le _,Nat.zero_le _,e0,Nat.zero_le _,e0,Nat.zero_le _,v0,Nat.zero_le _,m0⟩
    ·split
     ·exact⟨hs,h0,h0,Nat.zero_le _,Nat.zero_le _,e0,Nat.zero_le _,e0,Nat.zero_le _,v0,Nat.zero_le _,m0⟩
     ·exact⟨hs,h0,h0,Nat.zero_le _,Nat.zero_le _,e0,Nat.zero_le _,e0,Nat.zero_le _,v0,Nat.zero_le _,m0⟩
theorem VF(z d s:Int)(h:vp 1 z d s=0):Gxx 122 [.agg [vi 1,vi z,vi d,vu s]] (.tup [.agg (skF (nX ⟨1,z,d,s⟩)),vi 0]):=by
 have eo:nX ⟨1,z,d,s⟩=⟨⟨1,z,d,s⟩,Tl.o,Cm.o,Ll.o,Tp.o,Fq.o,Rk.o⟩:=rfl
 rw[eo]
 refine Good.fzt (vs:=[.agg (skC ⟨⟨1,z,d,s⟩,Tl.o,Cm.o,Ll.o,Tp.o,Fq.o,Rk.o⟩ nls nls nls nls nls),vi 0]) ?_ rfl ⟨mJ ⟨⟨1,z,d,s⟩,Tl.o,Cm.o,Ll.o,Tp.o,Fq.o,Rk.o⟩ (aj _) (aj _) (aj _) (aj _) (aj _),aA _,trivial⟩
 have hv:=bg 1 z d s
 rw[h] at hv
 refine gI oD Tryz.func122 Tryz.results122 ?_
 exact wRA trivial hv ah
theorem VG(z d s:Int)(h:vp 2 z d s=0):Gxx 122 [.agg [vi 2,vi z,vi d,vu s]] (.tup [.agg (skF (nX ⟨2,z,d,s⟩)),vi 0]):=by
 have eo:nX ⟨2,z,d,s⟩=⟨⟨2,z,d,s⟩,Tl.o,⟨d,z,s,zer (d*z).toNat,false⟩,Ll.o,Tp.o,Fq.o,Rk.o⟩:=rfl
 rw[eo]
 refine Good.fzt (vs:=[.agg (skC ⟨⟨2,z,d,s⟩,Tl.o,⟨d,z,s,zer (d*z).toNat,false⟩,Ll.o,Tp.o,Fq.o,Rk.o⟩ (fzi (zer (d*z).toNat)) nls nls nls nls),vi 0]) ?_ rfl ⟨mJ ⟨⟨2,z,d,s⟩,Tl.o,⟨d,z,s,zer (d*z).toNat,false⟩,Ll.o,Tp.o,Fq.o,Rk.o⟩ (cu _) (aj _) (aj _) (aj _) (aj _),aA _,trivial⟩
 have hv:=bg 2 z d s
 rw[h] at hv
 have hc:=abI d z s (al0 h)
 generalize zer (d*z).toNat=Z at *
 refine gI oD Tryz.func122 Tryz.results122 ?_
 exact wRA trivial (aI hv hc) ah
theorem VH(z d s:Int)(h:vp 3 z d s=0):Gxx 122 [.agg [vi 3,vi z,vi d,vu s]] (.tup [.agg (skF (nX ⟨3,z,d,s⟩)),vi 0]):=by
 have eo:nX ⟨3,z,d,s⟩=⟨⟨3,z,d,s⟩,Tl.o,Cm.o,⟨z,s,zer (2^z.toNat)⟩,Tp.o,Fq.o,Rk.o⟩:=rfl
 rw[eo]
 refine Good.fzt (vs:=[.agg (skC ⟨⟨3,z,d,s⟩,Tl.o,Cm.o,⟨z,s,zer (2^z.toNat)⟩,Tp.o,Fq.o,Rk.o⟩ nls (fzi (zer (2^z.toNat))) nls nls nls),vi 0]) ?_ rfl ⟨mJ ⟨⟨3,z,d,s⟩,Tl.o,Cm.o,⟨z,s,zer (2^z.toNat)⟩,Tp.o,Fq.o,Rk.o⟩ (aj _) (cu _) (aj _) (aj _) (aj _),aA _,trivial⟩
 have hv:=bg 3 z d s
 rw[h] at hv
 have hc:=abJ z s (al1 h)
 generalize zer (2^z.toNat)=Z at *
 refine gI oD Tryz.func122 Tryz.results122 ?_
 exact wRA trivial (aI hv hc) ah
theorem VI(z d s:Int)(h:vp 4 z d s=0):Gxx 122 [.agg [vi 4,vi z,vi d,vu s]] (.tup [.agg (skF (nX ⟨4,z,d,s⟩)),vi 0]):=by
 have eo:nX ⟨4,z,d,s⟩=⟨⟨4,z,d,s⟩,Tl.o,Cm.o,Ll.o,⟨z,0,[],false⟩,Fq.o,Rk.o⟩:=rfl
 rw[eo]
 refine Good.fzt (vs:=[.agg (skC ⟨⟨4,z,d,s⟩,Tl.o,Cm.o,Ll.o,⟨z,0,[],false⟩,Fq.o,Rk.o⟩ nls nls (fzv []) nls nls),vi 0]) ?_ rfl ⟨mJ ⟨⟨4,z,d,s⟩,Tl.o,Cm.o,Ll.o,⟨z,0,[],false⟩,Fq.o,Rk.o⟩ (aj _) (aj _) (cu _) (aj _) (aj _),aA _,trivial⟩
 have hv:=bg 4 z d s
 rw[h] at hv
 have hc:=abK z (an7 h)
 refine gI oD Tryz.func122 Tryz.results122 ?_
 exact wRA trivial (aI hv hc) ah
theorem VJ(z d s:Int)(h:vp 5 z d s=0):Gxx 122 [.agg [vi 5,vi z,vi d,vu s]] (.tup [.agg (skF (nX ⟨5,z,d,s⟩)),vi 0]):=by
 have eo:nX ⟨5,z,d,s⟩=⟨⟨5,z,d,s⟩,Tl.o,Cm.o,Ll.o,Tp.o,⟨z,0,0,[],false⟩,Rk.o⟩:=rfl
 rw[eo]
 refine Good.fzt (vs:=[.agg (skC ⟨⟨5,z,d,s⟩,Tl.o,Cm.o,Ll.o,Tp.o,⟨z,0,0,[],false⟩,Rk.o⟩ nls nls nls (fzv []) nls),vi 0]) ?_ rfl ⟨mJ ⟨⟨5,z,d,s⟩,Tl.o,Cm.o,Ll.o,Tp.o,⟨z,0,0,[],false⟩,Rk.o⟩ (aj _) (aj _) (aj _) (cu _) (aj _),aA _,trivial⟩
 have hv:=bg 5 z d s
 rw[h] at hv
 have hc:=abL z (an8 h)
 refine gI oD Tryz.func122 Tryz.results122 ?_
 exact wRA trivial (aI hv hc) ah
theorem VK(z d s:Int)(h:vp 6 z d s=0):Gxx 122 [.agg [vi 6,vi z,vi d,vu s]] (.tup [.agg (skF (nX ⟨6,z,d,s⟩)),vi 0]):=by
 have eo:nX ⟨6,z,d,s⟩=⟨⟨6,z,d,s⟩,Tl.o,Cm.o,Ll.o,Tp.o,Fq.o,⟨z,0,0,[],false⟩⟩:=rfl
 rw[eo]
 refine Good.fzt (vs:=[.agg (skC ⟨⟨6,z,d,s⟩,Tl.o,Cm.o,Ll.o,Tp.o,Fq.o,⟨z,0,0,[],false⟩⟩ nls nls nls nls (fzl [])),vi 0]) ?_ rfl ⟨mJ ⟨⟨6,z,d,s⟩,Tl.o,Cm.o,Ll.o,Tp.o,Fq.o,⟨z,0,0,[],false⟩⟩ (aj _) (aj _) (aj _) (aj _) (cu _),aA _,trivial⟩
 have hv:=bg 6 z d s
 rw[h] at hv
 have hc:=abM z (an9 h)
 refine gI oD Tryz.func122 Tryz.results122 ?_
 exact wRA trivial (aI hv hc) ah
theorem afX(p:Pm)(h:vp p.k p.z p.d p.s=0):Gxx 122 [.agg (pmF p)] (.tup [.agg (skF (nX p)),vi 0]):=by
 obtain⟨k,z,d,s⟩:=p
 simp only at h
 rcases FY h with rfl|rfl|rfl|rfl|rfl|rfl
 ·exact VF z d s h
 ·exact VG z d s h
 ·exact VH z d s h
 ·exact VI z d s h
 ·exact VJ z d s h
 ·exact VK z d s h
def fA(s:Sk)(k:List Nat)(w:Int)(co:List Nat)(at':Int):Sk × Int × Int :=
 if vSk s≠0 then (Sk.o,0,vSk s) else if eF k w≠0 then (Sk.o,0,eF k w) else if ¬(0≤at'∧at'≤1073741824) then (Sk.o,0,5)
 else if s.p.k=1 then (⟨s.p,(FZ s.tl k w).1,s.cm,s.ll,s.tp,s.fq,s.rk⟩,at',0)
 else if s.p.k=2 then (⟨s.p,s.tl,(wI s.cm k w).1,s.ll,s.tp,s.fq,s.rk⟩,at',0)
 else if s.p.k=3 then (⟨s.p,s.tl,s.cm,(wJ s.ll k w).1,s.tp,s.fq,s.rk⟩,at',0)
 else if s.p.k=4 then (⟨s.p,s.tl,s.cm,s.ll,(yU s.tp k w).1,s.fq,s.rk⟩,at',0)
 else if s.p.k=5 then (⟨s.p,s.tl,s.cm,s.ll,s.tp,(yY s.fq k w).1,s.rk⟩,at',0)
 else (⟨s.p,s.tl,s.cm,s.ll,s.tp,s.fq,(rU s.rk k w co at').1⟩,(rU s.rk k w co at').2.1,0)
theorem PP:Sk.o.Ok:=⟨⟨by decide,by decide⟩,⟨by decide,by decide⟩,⟨by decide,by decide⟩,Nat.zero_le _,Nat.zero_le _,(fun e he=>by cases he),Nat.zero_le _,(fun e he=>by cases he),Nat.zero_le _,(fun e he=>by cases he),Nat.zero_le _,(fun e he=>by cases he)⟩
theorem abO(s:Sk)(ok:s.Ok)(k:List Nat)(w:Int)(co:List Nat)(at':Int)(hk:oct k):(fA s k w co at').1.Ok:=by
 have z0:(0:Int)≤0∧(0:Int)<18446744073709551616:=⟨by decide,by decide⟩
 unfold fA
 split
 ·exact PP
 ·split
  ·exact PP
  ·split
   ·exact PP
   ·split
    ·exact⟨ok.ps,ok.cs,ok.ls,ok.cn,ok.ln,ok.to,ok.tn,ok.fo,ok.fn,ok.ro,ok.rn,ok.rm⟩
    ·split
     ·have h:(0≤(wI s.cm k w).1.s∧(wI s.cm k w).1.s<18446744073709551616)∧(wI s.cm k w).1.c.length≤1000000:=by
       unfold wI
       split
       ·exact⟨z0,Nat.zero_le _⟩
       ·have:=LY s.cm k w s.cm.d.toNat
        show (0≤(iY s.cm k w s.cm.d.toNat).s∧_)∧(iY s.cm k w s.cm.d.toNat).c.length≤_
        rw[this.2.2.1,this.2.2.2]
        exact⟨ok.cs,ok.cn⟩
      exact⟨ok.ps,h.1,ok.ls,h.2,ok.ln,ok.to,ok.tn,ok.fo,ok.fn,ok.ro,ok.rn,ok.rm⟩
     ·split
      ·have h:(0≤(wJ s.ll k w).1.s∧(wJ s.ll k w).1.s<18446744073709551616)∧(wJ s.ll k w).1.r.length≤1000000:=by
        unfold wJ
        split
        ·exact⟨z0,Nat.zero_le _⟩
        ·exact⟨ok.ls,by simp only[List.length_set];exact ok.ln⟩
       exact⟨ok.ps,ok.cs,h.1,ok.cn,h.2,ok.to,ok.tn,ok.fo,ok.fn,ok.ro,ok.rn,ok.rm⟩
      ·split
       ·have h:=abB s.tp k w ok.to hk ok.tn
        exact⟨ok.ps,ok.cs,ok.ls,ok.cn,ok.ln,h.1,h.2,ok.fo,ok.fn,ok.ro,ok.rn,ok.rm⟩
       ·split
        ·have h:=abC s.fq k w ok.fo hk ok.fn
         exact⟨ok.ps,ok.cs,ok.ls,ok.cn,ok.ln,ok.to,ok.tn,h.1,h.2,ok.ro,ok.rn,ok.rm⟩
        ·have h:=abH s.rk k w co at' hk ok.ro ok.rn ok.rm
         exact⟨ok.ps,ok.cs,ok.ls,ok.cn,ok.ln,ok.to,ok.tn,ok.fo,ok.fn,h.1,h.2.1,h.2.2⟩
theorem PQ:wkV (.agg (skC Sk.o nls nls nls nls nls)) (.agg (skF Sk.o)):=mJ Sk.o (aj _) (aj _) (aj _) (aj _) (aj _)
theorem jJ(n:Int):Gxx 171 [vi n] (vb (decide (0≤n∧n≤1073741824))):=by
 by_cases h1:0≤n
 ·by_cases h2:n≤1073741824
  ·rw[decide_eq_true ⟨h1,h2⟩]
   refine gI oW Tryz.func171 Tryz.results171 ?_
   exact wR trivial trivial ah
  ·rw[decide_eq_false (fun h=>h2 h.2)]
   refine gI oW Tryz.func171 Tryz.results171 ?_
   exact wR trivial trivial ah
 ·rw[decide_eq_false (fun h=>h1 h.1)]
  refine gI oW Tryz.func171 Tryz.results171 ?_
  exact wR trivial trivial ah
theorem IV(s:Sk)(ok:s.Ok)(k:List Nat)(w:Int)(co:List Nat)(at':Int)(ho:oct k)(hco:oct co)(h:vSk s=0)(hi:eF k w=0)(ha:0≤at'∧at'≤1073741824)(hk:s.p.k=1):Gxx 123 [.agg (skF s),.agg [vs k,vi w],fzb co,vi at'] (.tup [.agg (skF (fA s k w co at').1),vi (fA s k w co at').2.1,vi (fA s k w co at').2.2]):=by
 have h1:=dW s ok
 rw[h] at h1
 have h2:=bZ k w
 rw[hi] at h2
 have h3:=jJ at'
 rw[decide_eq_true ha] at h3
 have h4:=DR s.tl k w
 have e:fA s k w co at'=(⟨s.p,(FZ s.tl k w).1,s.cm,s.ll,s.tp,s.fq,s.rk⟩,at',0):=by
  unfold fA
  rw[if_neg (by omega),if_neg (by omega),if_neg (fun h=>h ha)]
  simp [hk]
 rw[e]
 generalize FZ s.tl k w=I at *
 clear ok e
 obtain⟨⟨pk,pz,pd,ps⟩,⟨t1,t2,t3⟩,⟨c1,c2,c3,c4,c5⟩,⟨l1,l2,l3⟩,⟨e1,e2,e3,e4⟩,⟨f1,f2,f3,f4,f5⟩,⟨r1,r2,r3,r4,r5⟩⟩:=s
 obtain⟨⟨i1,i2,i3⟩,i6⟩:=I
 simp only at *
 subst hk
 refine gI oD Tryz.func123 Tryz.results123 ?_
 exact wRA trivial (aI h1 (aI h2 (aI h3 h4))) ah
theorem IW(s:Sk)(ok:s.Ok)(k:List Nat)(w:Int)(co:List Nat)(at':Int)(ho:oct k)(hco:oct co)(h:vSk s=0)(hi:eF k w=0)(ha:0≤at'∧at'≤1073741824)(hk:s.p.k=2):Gxx 123 [.agg (skF s),.agg [vs k,vi w],fzb co,vi at'] (.tup [.agg (skF (fA s k w co at').1),vi (fA s k w co at').2.1,vi (fA s k w co at').2.2]):=by
 have h1:=dW s ok
 rw[h] at h1
 have h2:=bZ k w
 rw[hi] at h2
 have h3:=jJ at'
 rw[decide_eq_true ha] at h3
 have h4:=zi s.cm k w ho
 have e:fA s k w co at'=(⟨s.p,s.tl,(wI s.cm k w).1,s.ll,s.tp,s.fq,s.rk⟩,at',0):=by
  unfold fA
  rw[if_neg (by omega),if_neg (by omega),if_neg (fun h=>h ha)]
  simp [hk]
 rw[e]
 generalize wI s.cm k w=I at *
 clear ok e
 obtain⟨⟨pk,pz,pd,ps⟩,⟨t1,t2,t3⟩,⟨c1,c2,c3,c4,c5⟩,⟨l1,l2,l3⟩,⟨e1,e2,e3,e4⟩,⟨f1,f2,f3,f4,f5⟩,⟨r1,r2,r3,r4,r5⟩⟩:=s
 obtain⟨⟨i1,i2,i3,i4,i5⟩,i6⟩:=I
 simp only at *
 subst hk
 refine gI oD Tryz.func123 Tryz.results123 ?_
 exact wRA trivial (aI h1 (aI h2 (aI h3 h4))) ah
theorem IX(s:Sk)(ok:s.Ok)(k:List Nat)(w:Int)(co:List Nat)(at':Int)(ho:oct k)(hco:oct co)(h:vSk s=0)(hi:eF k w=0)(ha:0≤at'∧at'≤1073741824)(hk:s.p.k=3):Gxx 123 [.agg (skF s),.agg [vs k,vi w],fzb co,vi at'] (.tup [.agg (skF (fA s k w co at').1),vi (fA s k w co at').2.1,vi (fA s k w co at').2.2]):=by
 have h1:=dW s ok
 rw[h] at h1
 have h2:=bZ k w
 rw[hi] at h2
 have h3:=jJ at'
 rw[decide_eq_true ha] at h3
 have h4:=BB s.ll k w ho ok.ln
 have e:fA s k w co at'=(⟨s.p,s.tl,s.cm,(wJ s.ll k w).1,s.tp,s.fq,s.rk⟩,at',0):=by
  unfold fA
  rw[if_neg (by omega),if_neg (by omega),if_neg (fun h=>h ha)]
  simp [hk]
 rw[e]
 generalize wJ s.ll k w=I at *
 clear ok e
 obtain⟨⟨pk,pz,pd,ps⟩,⟨t1,t2,t3⟩,⟨c1,c2,c3,c4,c5⟩,⟨l1,l2,l3⟩,⟨e1,e2,e3,e4⟩,⟨f1,f2,f3,f4,f5⟩,⟨r1,r2,r3,r4,r5⟩⟩:=s
 obtain⟨⟨i1,i2,i3⟩,i6⟩:=I
 simp only at *
 subst hk
 refine gI oD Tryz.func123 Tryz.results123 ?_
 exact wRA trivial (aI h1 (aI h2 (aI h3 h4))) ah
theorem IY(s:Sk)(ok:s.Ok)(k:List Nat)(w:Int)(co:List Nat)(at':Int)(ho:oct k)(hco:oct co)(h:vSk s=0)(hi:eF k w=0)(ha:0≤at'∧at'≤1073741824)(hk:s.p.k=4):Gxx 123 [.agg (skF s),.agg [vs k,vi w],fzb co,vi at'] (.tup [.agg (skF (fA s k w co at').1),vi (fA s k w co at').2.1,vi (fA s k w co at').2.2]):=by
 have h1:=dW s ok
 rw[h] at h1
 have h2:=bZ k w
 rw[hi] at h2
 have h3:=jJ at'
 rw[decide_eq_true ha] at h3
 have h4:=IB s.tp k w ho ok.to ok.tn
 have e:fA s k w co at'=(⟨s.p,s.tl,s.cm,s.ll,(yU s.tp k w).1,s.fq,s.rk⟩,at',0):=by
  unfold fA
  rw[if_neg (by omega),if_neg (by omega),if_neg (fun h=>h ha)]
  simp [hk]
 rw[e]
 generalize yU s.tp k w=I at *
 clear ok e
 obtain⟨⟨pk,pz,pd,ps⟩,⟨t1,t2,t3⟩,⟨c1,c2,c3,c4,c5⟩,⟨l1,l2,l3⟩,⟨e1,e2,e3,e4⟩,⟨f1,f2,f3,f4,f5⟩,⟨r1,r2,r3,r4,r5⟩⟩:=s
 obtain⟨⟨i1,i2,i3,i4⟩,i6⟩:=I
 simp only at *
 subst hk
 refine gI oD Tryz.func123 Tryz.results123 ?_
 exact wRA trivial (aI h1 (aI h2 (aI h3 h4))) ah
theorem IZ(s:Sk)(ok:s.Ok)(k:List Nat)(w:Int)(co:List Nat)(at':Int)(ho:oct k)(hco:oct co)(h:vSk s=0)(hi:eF k w=0)(ha:0≤at'∧at'≤1073741824)(hk:s.p.k=5):Gxx 123 [.agg (skF s),.agg [vs k,vi w],fzb co,vi at'] (.tup [.agg (skF (fA s k w co at').1),vi (fA s k w co at').2.1,vi (fA s k w co at').2.2]):=by
 have h1:=dW s ok
 rw[h] at h1
 have h2:=bZ k w
 rw[hi] at h2
 have h3:=jJ at'
 rw[decide_eq_true ha] at h3
 have h4:=zf s.fq k w ho ok.fo ok.fn
 have e:fA s k w co at'=(⟨s.p,s.tl,s.cm,s.ll,s.tp,(yY s.fq k w).1,s.rk⟩,at',0):=by
  unfold fA
  rw[if_neg (by omega),if_neg (by omega),if_neg (fun h=>h ha)]
  simp [hk]
 rw[e]
 generalize yY s.fq k w=I at *
 clear ok e
 obtain⟨⟨pk,pz,pd,ps⟩,⟨t1,t2,t3⟩,⟨c1,c2,c3,c4,c5⟩,⟨l1,l2,l3⟩,⟨e1,e2,e3,e4⟩,⟨f1,f2,f3,f4,f5⟩,⟨r1,r2,r3,r4,r5⟩⟩:=s
 obtain⟨⟨i1,i2,i3,i4,i5⟩,i6⟩:=I
 simp only at *
 subst hk
 refine gI oD Tryz.func123 Tryz.results123 ?_
 exact wRA trivial (aI h1 (aI h2 (aI h3 h4))) ah
theorem I4(s:Sk)(ok:s.Ok)(k:List Nat)(w:Int)(co:List Nat)(at':Int)(ho:oct k)(hco:oct co)(h:vSk s=0)(hi:eF k w=0)(ha:0≤at'∧at'≤1073741824)(hk:s.p.k=6):Gxx 123 [.agg (skF s),.agg [vs k,vi w],fzb co,vi at'] (.tup [.agg (skF (fA s k w co at').1),vi (fA s k w co at').2.1,vi (fA s k w co at').2.2]):=by
 have h1:=dW s ok
 rw[h] at h1
 have h2:=bZ k w
 rw[hi] at h2
 have h3:=jJ at'
 rw[decide_eq_true ha] at h3
 have h4:=Eb s.rk k w co at' ho hco ok.ro ok.rn ok.rm
 have e:fA s k w co at'=(⟨s.p,s.tl,s.cm,s.ll,s.tp,s.fq,(rU s.rk k w co at').1⟩,(rU s.rk k w co at').2.1,0):=by
  unfold fA
  rw[if_neg (by omega),if_neg (by omega),if_neg (fun h=>h ha)]
  simp [hk]
 rw[e]
 generalize rU s.rk k w co at'=I at *
 clear ok e
 obtain⟨⟨pk,pz,pd,ps⟩,⟨t1,t2,t3⟩,⟨c1,c2,c3,c4,c5⟩,⟨l1,l2,l3⟩,⟨e1,e2,e3,e4⟩,⟨f1,f2,f3,f4,f5⟩,⟨r1,r2,r3,r4,r5⟩⟩:=s
 obtain⟨⟨i1,i2,i3,i4,i5⟩,i6,i7⟩:=I
 simp only at *
 subst hk
 refine gI oD Tryz.func123 Tryz.results123 ?_
 exact wRA trivial (aI h1 (aI h2 (aI h3 h4))) ah
theorem PR(s:Sk)(ok:s.Ok)(k:List Nat)(w:Int)(co:List Nat)(at':Int)(ho:oct k)(hco:oct co):Gxx 123 [.agg (skF s),.agg [vs k,vi w],fzb co,vi at'] (.tup [.agg (skF (fA s k w co at').1),vi (fA s k w co at').2.1,vi (fA s k w co at').2.2]):=by
 have h1:=dW s ok
 have h2:=bZ k w
 have h3:=jJ at'
 by_cases q1:vSk s=0
 ·by_cases q2:eF k w=0
  ·by_cases q3:0≤at'∧at'≤1073741824
   ·have q4:vp s.p.k s.p.z s.p.d s.p.s=0:=by
     unfold vSk at q1
     split at q1
     ·rename_i h;exact absurd q1 h
     ·rename_i h;exact Classical.byContradiction h
    rcases FY q4 with hk|hk|hk|hk|hk|hk
    ·exact IV s ok k w co at' ho hco q1 q2 q3 hk
    ·exact IW s ok k w co at' ho hco q1 q2 q3 hk
    ·exact IX s ok k w co at' ho hco q1 q2 q3 hk
    ·exact IY s ok k w co at' ho hco q1 q2 q3 hk
    ·exact IZ s ok k w co at' ho hco q1 q2 q3 hk
    ·exact I4 s ok k w co at' ho hco q1 q2 q3 hk
   ·have e:fA s k w co at'=(Sk.o,0,5):=by unfold fA;rw[if_neg (by omega),if_neg (by omega),if_pos q3]
    rw[e]
    rw[decide_eq_false q3] at h3
    rw[q1] at h1
    rw[q2] at h2
    refine Good.fzt (vs:=[.agg (skC Sk.o nls nls nls nls nls),vi 0,vi 5]) ?_ rfl ⟨PQ,aA _,aA _,trivial⟩
    refine gI oD Tryz.func123 Tryz.results123 ?_
    exact wRA trivial (aI h1 (aI h2 h3)) ah
  ·have e:fA s k w co at'=(Sk.o,0,eF k w):=by unfold fA;rw[if_neg (by omega),if_pos q2]
   rw[e]
   rw[q1] at h1
   refine Good.fzt (vs:=[.agg (skC Sk.o nls nls nls nls nls),vi 0,vi (eF k w)]) ?_ rfl ⟨PQ,aA _,aA _,trivial⟩
   refine gI oD Tryz.func123 Tryz.results123 ?_
   exact wRA trivial (aI h1 h2) ah
 ·have e:fA s k w co at'=(Sk.o,0,vSk s):=by unfold fA;rw[if_pos q1]
  rw[e]
  refine Good.fzt (vs:=[.agg (skC Sk.o nls nls nls nls nls),vi 0,vi (vSk s)]) ?_ rfl ⟨PQ,aA _,aA _,trivial⟩
  refine gI oD Tryz.func123 Tryz.results123 ?_
  exact wRA trivial h1 ah
end Go.Proofs.YtjiolbcdfgclaaaGreatDoor
