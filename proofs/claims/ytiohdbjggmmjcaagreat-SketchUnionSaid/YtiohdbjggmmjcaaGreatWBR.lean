/-
  Merged texts.
-/
import Derived.Test.YtiohdbjggmmjcaaGreatWBQ
import Derived.Test.YtiohdbjggmmjcaaGreatWAW
import Derived.Test.YtiohdbjggmmjcaaGreatWBD
set_option linter.unusedVariables false
set_option linter.unusedSimpArgs false
set_option linter.unusedSectionVars false
set_option linter.defProp false
set_option maxRecDepth 100000
set_option maxHeartbeats 8000000
namespace Go.Proofs.YtiohdbjggmmjcaaGreat
open Go Go.Pg
def CU(x y:Tl):Tl × Int:=if vTl x≠0 then (Tl.o,vTl x) else if vTl y≠0 then (Tl.o,vTl y) else (⟨(Bz x ⟨y.t,y.i,false⟩).t,(Bz x ⟨y.t,y.i,false⟩).i,(Bz x ⟨y.t,y.i,false⟩).b||y.b⟩,0)
theorem aiO(x y:Tl):Gxx 48 [.agg (tlF x),.agg (tlF y)] (.tup [.agg (tlF (CU x y).1),vi (CU x y).2]):=by
 have h1:=Ju x
 have h2:=Ju y
 unfold CU
 by_cases c1:vTl x=0
 ·rw[if_neg (by omega)]
  rw[c1] at h1
  by_cases c2:vTl y=0
  ·rw[if_neg (by omega)]
   rw[c2] at h2
   have h3:=aeL x y.t y.i (FB c1).1 (FB c1).2 (FB c2).1 (FB c2).2
   obtain⟨y1,y2,y3⟩:=y
   simp only at h2 h3 ⊢
   generalize Bz x ⟨y1,y2,false⟩=r at *
   obtain⟨r1,r2,r3⟩:=r
   simp only at h3 ⊢
   cases r3
   all_goals
    refine gI oW Tryz.func48 Tryz.results48 ?_
    (repeat' (first|(simp (disch:=first|exact dqz|fail) only[pgz,simprocAttr])|((with_reducible show bU _ _ _ _ _ _);first|refine cU h1 ?_|refine cU h2 ?_|refine cU h3 ?_)|(refine tS ?_ ?_<;>intro hc)|(with_reducible refine cK ?_)))
    (refine rT [] ?_;first|rfl|simp only[pgo,simprocAttr]|skip)
  ·rw[if_pos (by omega)]
   refine gI oW Tryz.func48 Tryz.results48 ?_
   (repeat' (first|(simp (disch:=first|exact dqz|fail) only[pgz,simprocAttr])|((with_reducible show bU _ _ _ _ _ _);first|refine cU h1 ?_|refine cU h2 ?_)|(refine tS ?_ ?_<;>intro hc)|(with_reducible refine cK ?_)))
   (refine rT [] ?_;first|rfl|simp only[pgo,simprocAttr]|skip)
 ·rw[if_pos (by omega)]
  refine gI oW Tryz.func48 Tryz.results48 ?_
  (repeat' (first|(simp (disch:=first|exact dqz|fail) only[pgz,simprocAttr])|((with_reducible show bU _ _ _ _ _ _);refine cU h1 ?_)|(refine tS ?_ ?_<;>intro hc)|(with_reducible refine cK ?_)))
  (refine rT [] ?_;first|rfl|simp only[pgo,simprocAttr]|skip)
def zmx(l m:List Int):Nat→List Int
 | 0=>l
 | i+1=>(zmx l m i).set i (max ((zmx l m i).getD i 0) (m.getD i 0))
theorem GK(l m:List Int):∀i,(zmx l m i).length=l.length
 | 0=>rfl
 | i+1=>by show ((zmx l m i).set _ _).length=_;rw[List.length_set];exact GK l m i
def vk(x y:Ll):Ll × Int:=if vLl x≠0 then (Ll.o,vLl x) else if vLl y≠0 then (Ll.o,vLl y) else if x.p≠y.p∨x.s≠y.s then (Ll.o,10) else (⟨x.p,x.s,zmx x.r y.r y.r.length⟩,0)
theorem aiP(x y:Ll)(hx:x.r.length≤1000000)(hy:y.r.length≤1000000):Gxx 50 [.agg (llF x),.agg (llF y)] (.tup [.agg (llF (vk x y).1),vi (vk x y).2]):=by
 have h1:=ac5 x hx
 have h2:=ac5 y hy
 unfold vk
 by_cases c1:vLl x=0
 ·rw[if_neg (by omega)]
  rw[c1] at h1
  by_cases c2:vLl y=0
  ·rw[if_neg (by omega)]
   rw[c2] at h2
   by_cases c3:x.p≠y.p∨x.s≠y.s
   ·rw[if_pos c3]
    refine Good.fzt (vs:=[.agg [vi 0,vu 0,nls],vi 10]) ?_ rfl ⟨FH,aH _,trivial⟩
    obtain⟨p,s,l⟩:=x
    obtain⟨p2,s2,l2⟩:=y
    simp only at c3
    by_cases c4:p=p2
    ·have c5:(s=s2)=False:=eq_false (by rcases c3 with h|h;exact absurd c4 h;exact h)
     subst c4
     refine gI oW Tryz.func50 Tryz.results50 ?_
     (repeat' (first|(simp (disch:=first|exact dqz|fail) only[pgz,simprocAttr,c5])|((with_reducible show bU _ _ _ _ _ _);first|refine cU h1 ?_|refine cU h2 ?_)|(refine tS ?_ ?_<;>intro hc)|(with_reducible refine cK ?_)))
     (refine rT [] ?_;first|rfl|simp only[pgo,simprocAttr]|skip)
    ·have c4':(p=p2)=False:=eq_false c4
     refine gI oW Tryz.func50 Tryz.results50 ?_
     (repeat' (first|(simp (disch:=first|exact dqz|fail) only[pgz,simprocAttr,c4'])|((with_reducible show bU _ _ _ _ _ _);first|refine cU h1 ?_|refine cU h2 ?_)|(refine tS ?_ ?_<;>intro hc)|(with_reducible refine cK ?_)))
     (refine rT [] ?_;first|rfl|simp only[pgo,simprocAttr]|skip)
   ·rw[if_neg c3]
    obtain⟨i1,i2,i3⟩:=Xt c1
    obtain⟨j1,j2,j3⟩:=Xt c2
    obtain⟨p,s,l⟩:=x
    obtain⟨p2,s2,l2⟩:=y
    simp only at *
    obtain⟨rfl,rfl⟩:p=p2∧s=s2:=by
     constructor
     ·exact Classical.byContradiction fun h=>c3 (.inl h)
     ·exact Classical.byContradiction fun h=>c3 (.inr h)
    have hp:=(qo i1).2
    have hl2:l2.length=l.length:=by omega
    have hl0:0<l.length:=by have:=(qo i1).1;omega
    have hil:=aZ l2
    have hil1:=aZ l
    refine Good.fzt (vs:=[.agg [vi p,vu s,.sl (.own 0 3) 1 (iv (zmx l l2 l2.length))],vi 0]) ?_ rfl ⟨aH _,aH _,trivial⟩
    have z0:zmx l l2 0=l:=rfl
    have zs:∀i,zmx l l2 (i+1)=(zmx l l2 i).set i (max ((zmx l l2 i).getD i 0) (l2.getD i 0)):=fun _=>rfl
    have zl:=GK l l2
    generalize zmx l l2=Z at *
    refine gI oW Tryz.func50 Tryz.results50 ?_
    (repeat' (first|(simp (disch:=first|exact dqz|fail) only[pgz,simprocAttr,aZ,hil,hil1])|((with_reducible show bU _ _ _ _ _ _);first|refine cU h1 ?_|refine cU h2 ?_)|(refine tS ?_ ?_<;>intro hc)|(with_reducible refine cK ?_)))
    refine df (fun i:Nat=>mkA [(2,.ref 0 0),(4,.ref 2 0),(41,fzi l2),(42,vi l2.length),(43,vi i)] [(0,(31,[vi p,vu s,.sl (.own 0 3) 1 (iv (Z i))])),(1,(31,llF ⟨p,s,l2⟩)),(2,(31,[vi 0,vu 0,nls]))] 3 (fun _ => .top)) (fun i=>i≤l2.length) (fun i=>l2.length-i) 0 [4] [0,1,2] ?_ (Nat.zero_le _) ?_
    ·(refine dN ?_ ?_ (gu _ _ _) (by decide) (by decide) (by decide) (by decide);(repeat' (first|exact trivial|refine dI _ _ rfl rfl ?_ ?_));all_goals (try simp only[pgs,pgl,pgx,pgf,pgw,di,dL,dm,dM,qc,iO,fO,pgn,simprocAttr]);all_goals (try (repeat' (first|apply aI)));all_goals (try (first|exact trivial|exact dE (by omega)|exact eH rfl|exact bP rfl rfl|exact jq rfl)))
     all_goals first|(exact bP rfl (by rw[z0]))|skip
    ·intro i hi
     replace hi:i≤l2.length:=hi
     have hzl:=zl i
     have hizl:=aZ (Z i)
     rcases Nat.lt_or_ge i l2.length with hlt|hge
     ·have hg2:=kF l2 i hlt
      have hg:=kF (Z i) i (by omega)
      have hzs:=zs i
      have hlt2:((i:Int)<(l2.length:Int))=True:=eq_true (by omega)
      generalize (Z i).getD i 0=g at *
      generalize l2.getD i 0=g2 at *
      (repeat' (first|(simp (disch:=first|exact dqz|fail) only[pgz,simprocAttr,mmT,aZ,hil,hlt2,hg2,hg,rP])|(refine tS ?_ ?_<;>intro hc)|(with_reducible refine cK ?_)))
      (refine dh (i+1) [0] [0,1,2] (hlt) (by first|omega|(simp only[List.length_cons];omega)) ?_;(refine dN ?_ ?_ (gu _ _ _) (by decide) (by decide) (by decide) (by decide);(repeat' (first|exact trivial|refine dI _ _ rfl rfl ?_ ?_));all_goals (try simp only[pgs,pgl,pgx,pgf,pgw,di,dL,dm,dM,qc,iO,fO,pgn,simprocAttr]);all_goals (try (repeat' (first|apply aI)));all_goals (try (first|exact trivial|exact dE (by omega)|exact eH rfl|exact bP rfl rfl|exact jq rfl))))
      all_goals first|(exact bP rfl (by rw[hzs,rP]))|skip
     ·have:i=l2.length:=by omega
      subst this
      (repeat' (first|(simp (disch:=first|exact dqz|fail) only[pgz,simprocAttr,aZ,hil])|(refine tS ?_ ?_<;>intro hc)|(with_reducible refine cK ?_)))
      (refine rT [0] ?_;first|rfl|simp only[pgo,simprocAttr]|skip)
  ·rw[if_pos (by omega)]
   refine Good.fzt (vs:=[.agg [vi 0,vu 0,nls],vi (vLl y)]) ?_ rfl ⟨FH,aH _,trivial⟩
   refine gI oW Tryz.func50 Tryz.results50 ?_
   (repeat' (first|(simp (disch:=first|exact dqz|fail) only[pgz,simprocAttr])|((with_reducible show bU _ _ _ _ _ _);first|refine cU h1 ?_|refine cU h2 ?_)|(refine tS ?_ ?_<;>intro hc)|(with_reducible refine cK ?_)))
   (refine rT [] ?_;first|rfl|simp only[pgo,simprocAttr]|skip)
 ·rw[if_pos (by omega)]
  refine Good.fzt (vs:=[.agg [vi 0,vu 0,nls],vi (vLl x)]) ?_ rfl ⟨FH,aH _,trivial⟩
  refine gI oW Tryz.func50 Tryz.results50 ?_
  (repeat' (first|(simp (disch:=first|exact dqz|fail) only[pgz,simprocAttr])|((with_reducible show bU _ _ _ _ _ _);refine cU h1 ?_)|(refine tS ?_ ?_<;>intro hc)|(with_reducible refine cK ?_)))
  (refine rT [] ?_;first|rfl|simp only[pgo,simprocAttr]|skip)
def zcm(l m:List Int)(b:Bool):Nat→List Int × Bool
 | 0=>(l,b)
 | i+1=>((zcm l m b i).1.set i (lw ((zcm l m b i).1.getD i 0) (m.getD i 0) 4294967295).1,(zcm l m b i).2||(lw ((zcm l m b i).1.getD i 0) (m.getD i 0) 4294967295).2)
theorem GL(l m:List Int)(b:Bool):∀i,(zcm l m b i).1.length=l.length
 | 0=>rfl
 | i+1=>by show ((zcm l m b i).1.set _ _).length=_;rw[List.length_set];exact GL l m b i
theorem agy(l m:List Int)(b:Bool)(hl:ku 0 4294967295 l=true):∀i,ku 0 4294967295 (zcm l m b i).1=true
 | 0=>hl
 | i+1=>RD (agy l m b hl i) _ _ (by have:=Xq ((zcm l m b i).1.getD i 0) (m.getD i 0) 4294967295 (by decide);omega)
def wM(x y:Cm):Cm × Int:=if vCm x≠0 then (Cm.o,vCm x) else if vCm y≠0 then (Cm.o,vCm y) else if x.d≠y.d∨x.z≠y.z∨x.s≠y.s then (Cm.o,10) else (⟨x.d,x.z,x.s,(zcm x.c y.c (x.b||y.b) y.c.length).1,(zcm x.c y.c (x.b||y.b) y.c.length).2⟩,0)
theorem aiQ(x y:Cm):Gxx 49 [.agg (cmF x),.agg (cmF y)] (.tup [.agg (cmF (wM x y).1),vi (wM x y).2]):=by
 have h1:=ac4 x
 have h2:=ac4 y
 unfold wM
 by_cases c1:vCm x=0
 ·rw[if_neg (by omega)]
  rw[c1] at h1
  by_cases c2:vCm y=0
  ·rw[if_neg (by omega)]
   rw[c2] at h2
   by_cases c3:x.d≠y.d∨x.z≠y.z∨x.s≠y.s
   ·rw[if_pos c3]
    refine Good.fzt (vs:=[.agg [vi 0,vi 0,vu 0,nls,vb false],vi 10]) ?_ rfl ⟨FC,aH _,trivial⟩
    obtain⟨d,z,s,l,b⟩:=x
    obtain⟨d2,z2,s2,l2,b2⟩:=y
    simp only at c3
    by_cases c4:d=d2
    ·subst c4
     by_cases c5:z=z2
     ·subst c5
      have c6:(s=s2)=False:=eq_false (by rcases c3 with h|h|h;exact absurd rfl h;exact absurd rfl h;exact h)
      refine gI oW Tryz.func49 Tryz.results49 ?_
      (repeat' (first|(simp (disch:=first|exact dqz|fail) only[pgz,simprocAttr,c6])|((with_reducible show bU _ _ _ _ _ _);first|refine cU h1 ?_|refine cU h2 ?_)|(refine tS ?_ ?_<;>intro hc)|(with_reducible refine cK ?_)))
      (refine rT [] ?_;first|rfl|simp only[pgo,simprocAttr]|skip)
     ·have c5':(z=z2)=False:=eq_false c5
      refine gI oW Tryz.func49 Tryz.results49 ?_
      (repeat' (first|(simp (disch:=first|exact dqz|fail) only[pgz,simprocAttr,c5'])|((with_reducible show bU _ _ _ _ _ _);first|refine cU h1 ?_|refine cU h2 ?_)|(refine tS ?_ ?_<;>intro hc)|(with_reducible refine cK ?_)))
      (refine rT [] ?_;first|rfl|simp only[pgo,simprocAttr]|skip)
    ·have c4':(d=d2)=False:=eq_false c4
     refine gI oW Tryz.func49 Tryz.results49 ?_
     (repeat' (first|(simp (disch:=first|exact dqz|fail) only[pgz,simprocAttr,c4'])|((with_reducible show bU _ _ _ _ _ _);first|refine cU h1 ?_|refine cU h2 ?_)|(refine tS ?_ ?_<;>intro hc)|(with_reducible refine cK ?_)))
     (refine rT [] ?_;first|rfl|simp only[pgo,simprocAttr]|skip)
   ·rw[if_neg c3]
    obtain⟨i1,i2,i3,i4⟩:=Xr c1
    obtain⟨j1,j2,j3,j4⟩:=Xr c2
    have hm:=xN i1 i2
    have hmp:0<x.d*x.z:=Int.mul_pos (by omega) (by omega)
    have k1:=Np x (by omega) (by omega)
    obtain⟨d,z,s,l,b⟩:=x
    obtain⟨d2,z2,s2,l2,b2⟩:=y
    simp only at *
    obtain⟨rfl,rfl,rfl⟩:d=d2∧z=z2∧s=s2:=by
     refine⟨Classical.byContradiction fun h=>c3 (.inl h),Classical.byContradiction fun h=>c3 (.inr (.inl h)),Classical.byContradiction fun h=>c3 (.inr (.inr h))⟩
    have hl2:l2.length=l.length:=by omega
    have hll:l.length≤512:=by omega
    have hil:=aZ l2
    have hil1:=aZ l
    refine Good.fzt (vs:=[.agg [vi d,vi z,vu s,.sl (.own 0 3) 1 (iv (zcm l l2 (b||b2) l2.length).1),vb (zcm l l2 (b||b2) l2.length).2],vi 0]) ?_ rfl ⟨aH _,aH _,trivial⟩
    have z0:(zcm l l2 (b||b2) 0)=(l,b||b2):=rfl
    have zs:∀i,zcm l l2 (b||b2) (i+1)=((zcm l l2 (b||b2) i).1.set i (lw ((zcm l l2 (b||b2) i).1.getD i 0) (l2.getD i 0) 4294967295).1,(zcm l l2 (b||b2) i).2||(lw ((zcm l l2 (b||b2) i).1.getD i 0) (l2.getD i 0) 4294967295).2):=fun _=>rfl
    have zl:=GL l l2 (b||b2)
    have zr:=agy l l2 (b||b2) i4
    generalize zcm l l2 (b||b2)=Z at *
    obtain⟨bv,hbv⟩:∃bv,bv=b:=⟨_,rfl⟩
    cases b
    all_goals
     refine gI oW Tryz.func49 Tryz.results49 ?_
     (repeat' (first|(simp (disch:=first|exact dqz|fail) only[pgz,simprocAttr,aZ,hil,hil1])|((with_reducible show bU _ _ _ _ _ _);first|refine cU h1 ?_|refine cU h2 ?_|refine cU k1 ?_)|(refine tS ?_ ?_<;>intro hc)|(with_reducible refine cK ?_)))
     refine df (fun i:Nat=>mkA [(4,.ref 2 0),(8,.ref 3 0),(55,fzi l2),(56,vi l2.length),(57,vi i)] [(0,(29,cmF ⟨d,z,s,l,bv⟩)),(1,(29,cmF ⟨d,z,s,l2,b2⟩)),(2,(29,[vi 0,vi 0,vu 0,nls,vb false])),(3,(29,[vi d,vi z,vu s,.sl (.own 0 3) 1 (iv (Z i).1),vb (Z i).2]))] 4 (fun _ => .top)) (fun i=>i≤l2.length) (fun i=>l2.length-i) 0 [3] [0,1,2,4] ?_ (Nat.zero_le _) ?_
     ·(refine dN ?_ ?_ (gu _ _ _) (by decide) (by decide) (by decide) (by decide);(repeat' (first|exact trivial|refine dI _ _ rfl rfl ?_ ?_));all_goals (try simp only[pgs,pgl,pgx,pgf,pgw,di,dL,dm,dM,qc,iO,fO,pgn,simprocAttr]);all_goals (try (repeat' (first|apply aI)));all_goals (try (first|exact trivial|exact dE (by omega)|exact eH rfl|exact bP rfl rfl|exact jq rfl)))
      all_goals first|(exact bP rfl (by rw[z0]))|(exact eH (by rw[z0];rfl))|(exact eH (by rw[hbv]))|skip
     ·intro i hi
      replace hi:i≤l2.length:=hi
      have hzl:=zl i
      have hizl:=aZ (Z i).1
      rcases Nat.lt_or_ge i l2.length with hlt|hge
      ·have hg2:=kF l2 i hlt
       have hg:=kF (Z i).1 i (by omega)
       have hzs:=zs i
       have hgr:=D8 (zr i) (i:=i) (by omega)
       have hgr2:=D8 j4 hlt
       have hlt2:((i:Int)<(l2.length:Int))=True:=eq_true (by omega)
       have hzi:Z i=((Z i).1,(Z i).2):=rfl
       generalize (Z i).1=zc at *
       generalize (Z i).2=zb at *
       generalize zc.getD i 0=g at *
       generalize l2.getD i 0=g2 at *
       have hadd:=BV g g2 4294967295 (by decide) (by unfold W64;omega) (by unfold W64;omega)
       generalize lw g g2 4294967295=a at *
       obtain⟨a1,a2⟩:=a
       simp only at hadd hzs
       cases zb<;>cases a2
       all_goals
        (repeat' (first|(simp (disch:=first|exact dqz|fail) only[pgz,simprocAttr,aZ,hil,hlt2,hg2,hg,rP])|((with_reducible show bU _ _ _ _ _ _);refine cU hadd ?_)|(refine tS ?_ ?_<;>intro hc)|(with_reducible refine cK ?_)))
        (refine dh (i+1) [0] [0,1,2,3] (hlt) (by first|omega|(simp only[List.length_cons];omega)) ?_;(refine dN ?_ ?_ (gu _ _ _) (by decide) (by decide) (by decide) (by decide);(repeat' (first|exact trivial|refine dI _ _ rfl rfl ?_ ?_));all_goals (try simp only[pgs,pgl,pgx,pgf,pgw,di,dL,dm,dM,qc,iO,fO,pgn,simprocAttr]);all_goals (try (repeat' (first|apply aI)));all_goals (try (first|exact trivial|exact dE (by omega)|exact eH rfl|exact bP rfl rfl|exact jq rfl))))
        all_goals first|(exact bP rfl (by rw[hzs]))|(exact eH (by rw[hzs];rfl))|skip
      ·have:i=l2.length:=by omega
       subst this
       (repeat' (first|(simp (disch:=first|exact dqz|fail) only[pgz,simprocAttr,aZ,hil])|(refine tS ?_ ?_<;>intro hc)|(with_reducible refine cK ?_)))
       (refine rT [0] ?_;first|rfl|simp only[pgo,simprocAttr]|skip)
  ·rw[if_pos (by omega)]
   refine Good.fzt (vs:=[.agg [vi 0,vi 0,vu 0,nls,vb false],vi (vCm y)]) ?_ rfl ⟨FC,aH _,trivial⟩
   refine gI oW Tryz.func49 Tryz.results49 ?_
   (repeat' (first|(simp (disch:=first|exact dqz|fail) only[pgz,simprocAttr])|((with_reducible show bU _ _ _ _ _ _);first|refine cU h1 ?_|refine cU h2 ?_)|(refine tS ?_ ?_<;>intro hc)|(with_reducible refine cK ?_)))
   (refine rT [] ?_;first|rfl|simp only[pgo,simprocAttr]|skip)
 ·rw[if_pos (by omega)]
  refine Good.fzt (vs:=[.agg [vi 0,vi 0,vu 0,nls,vb false],vi (vCm x)]) ?_ rfl ⟨FC,aH _,trivial⟩
  refine gI oW Tryz.func49 Tryz.results49 ?_
  (repeat' (first|(simp (disch:=first|exact dqz|fail) only[pgz,simprocAttr])|((with_reducible show bU _ _ _ _ _ _);refine cU h1 ?_)|(refine tS ?_ ?_<;>intro hc)|(with_reducible refine cK ?_)))
  (refine rT [] ?_;first|rfl|simp only[pgo,simprocAttr]|skip)
theorem XU(l:List Int)(i:Nat)(x:Int)(h:i<l.length):(l.set i x).getD i 0=x:=by simp [List.getD,h]
theorem Nk(l:List Int)(i j:Nat)(x:Int)(h:j≠i):(l.set j x).getD i 0=l.getD i 0:=by simp [List.getD,List.getElem?_set_ne h]
theorem agz(l m:List Int)(hl:m.length=l.length):∀n i,n≤l.length→i<n→(zmx l m n).getD i 0=max (l.getD i 0) (m.getD i 0)
 | 0,i,_,h=>by omega
 | n+1,i,hn,h=>by
  have hz:=GK l m n
  show ((zmx l m n).set n _).getD i 0=_
  by_cases e:i=n
  ·subst e
   rw[XU _ _ _ (by omega)]
   have key:∀k,k≤i→(zmx l m k).getD i 0=l.getD i 0:=by
    intro k
    induction k with
    | zero=>intro _;rfl
    | succ k ih =>
     intro hk
     show ((zmx l m k).set k _).getD i 0=_
     rw[Nk _ _ _ _ (by omega)]
     exact ih (by omega)
   rw[key i (Nat.le_refl _)]
  ·rw[Nk _ _ _ _ (by omega)]
   exact agz l m hl n i (by omega) (by omega)
theorem ajJ(l m:List Int)(b:Bool)(i:Nat):∀k,k≤i→(zcm l m b k).1.getD i 0=l.getD i 0
 | 0,_=>rfl
 | k+1,h=>by
  show ((zcm l m b k).1.set k _).getD i 0=_
  rw[Nk _ _ _ _ (by omega)]
  exact ajJ l m b i k (by omega)
theorem agJ(l m:List Int)(b:Bool):∀n i,n≤l.length→i<n→(zcm l m b n).1.getD i 0=(lw (l.getD i 0) (m.getD i 0) 4294967295).1
 | 0,i,_,h=>by omega
 | n+1,i,hn,h=>by
  have hz:=GL l m b n
  show ((zcm l m b n).1.set n _).getD i 0=_
  by_cases e:i=n
  ·subst e
   rw[XU _ _ _ (by omega),ajJ l m b i i (Nat.le_refl _)]
  ·rw[Nk _ _ _ _ (by omega)]
   exact agJ l m b n i (by omega) (by omega)
theorem aiB(l m:List Int)(b:Bool)(i:Nat):(zcm l m b (i+1)).2=((zcm l m b i).2||(lw (l.getD i 0) (m.getD i 0) 4294967295).2):=by
 show ((zcm l m b i).2||(lw ((zcm l m b i).1.getD i 0) (m.getD i 0) 4294967295).2)=_
 rw[ajJ l m b i i (Nat.le_refl _)]
theorem yx{s:Sk}(h:vSk s=0):aN s=s:=by
 have h1:fH s (aN s)=true:=by
  unfold vSk at h
  split at h
  ·rename_i q;exact absurd h q
  ·split at h
   ·rename_i q;exact absurd h q
   ·split at h
    ·split at h
     ·rename_i q;exact q
     ·cases h
    ·cases h
 generalize aN s=o at *
 obtain⟨⟨pk,pz,pd,ps⟩,⟨t1,t2,t3⟩,⟨c1,c2,c3,c4,c5⟩,⟨l1,l2,l3⟩,⟨e1,e2,e3,e4⟩,⟨f1,f2,f3,f4,f5⟩,⟨r1,r2,r3,r4,r5⟩⟩:=s
 obtain⟨⟨_,_,_,_⟩,⟨_,_,_⟩,⟨_,_,_,_,_⟩,⟨_,_,_⟩,⟨_,_,_,_⟩,⟨_,_,_,_,_⟩,⟨_,_,_,_,_⟩⟩:=o
 unfold fH qM qN qO qP qQ at h1
 simp only[Bool.and_eq_true,decide_eq_true_eq] at h1
 simp only[samP,samT] at h1
 obtain⟨⟨rfl,rfl,rfl,rfl⟩,⟨rfl,rfl,rfl⟩,⟨rfl,rfl,rfl,rfl,rfl⟩,⟨rfl,rfl,rfl⟩,⟨rfl,rfl,rfl,rfl⟩,⟨rfl,rfl,rfl,rfl,rfl⟩,rfl,rfl,rfl,rfl,rfl⟩:=h1
 rfl
theorem qG(s:Sk):fH s s=true:=by unfold fH qM qN qO qP qQ samP samT;simp
end Go.Proofs.YtiohdbjggmmjcaaGreat
