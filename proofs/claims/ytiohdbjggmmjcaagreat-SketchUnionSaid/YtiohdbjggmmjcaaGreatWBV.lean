/-
  Merged texts.
-/
import Derived.Test.YtiohdbjggmmjcaaGreatWBU
import Derived.Test.YtiohdbjggmmjcaaGreatWBS
import Derived.Test.YtiohdbjggmmjcaaGreatWBR
import Derived.Test.YtiohdbjggmmjcaaGreatWAW
import Derived.Test.YtiohdbjggmmjcaaGreatWBQ
import Derived.Test.YtiohdbjggmmjcaaGreatWBF
import Derived.Test.YtiohdbjggmmjcaaGreatWBH
import Derived.Test.YtiohdbjggmmjcaaGreatWBE
import Derived.Test.YtiohdbjggmmjcaaGreatWBD
set_option linter.unusedVariables false
set_option linter.unusedSimpArgs false
set_option linter.unusedSectionVars false
set_option linter.defProp false
set_option maxRecDepth 100000
set_option maxHeartbeats 8000000
namespace Go.Proofs.YtiohdbjggmmjcaaGreat
open Go Go.Pg
theorem X3{s:Sk}(h:vSk s=0):vp s.p.k s.p.z s.p.d s.p.s=0∧oI s=0∧parP s∧aN s=s:=by
 have h4:=yx h
 unfold vSk at h
 split at h
 ·rename_i q;exact absurd h q
 ·rename_i q1
  split at h
  ·rename_i q;exact absurd h q
  ·rename_i q2
   split at h
   ·rename_i q3;exact⟨Classical.byContradiction q1,Classical.byContradiction q2,q3,h4⟩
   ·cases h
theorem Zf{s:Sk}(h1:vp s.p.k s.p.z s.p.d s.p.s=0)(h2:oI s=0)(h3:parP s)(h4:aN s=s):vSk s=0:=by
 unfold vSk
 rw[if_neg (fun q=>q h1),if_neg (fun q=>q h2),if_pos h3,h4,if_pos (qG s)]
def K1(p:Pm)(x:Tl):Sk:=⟨p,x,Cm.o,Ll.o,Tp.o,Fq.o,Rk.o⟩
def K2(p:Pm)(x:Cm):Sk:=⟨p,Tl.o,x,Ll.o,Tp.o,Fq.o,Rk.o⟩
def K3(p:Pm)(x:Ll):Sk:=⟨p,Tl.o,Cm.o,x,Tp.o,Fq.o,Rk.o⟩
def K4(p:Pm)(x:Tp):Sk:=⟨p,Tl.o,Cm.o,Ll.o,x,Fq.o,Rk.o⟩
def K5(p:Pm)(x:Fq):Sk:=⟨p,Tl.o,Cm.o,Ll.o,Tp.o,x,Rk.o⟩
def K6(p:Pm)(x:Rk):Sk:=⟨p,Tl.o,Cm.o,Ll.o,Tp.o,Fq.o,x⟩
def Kd6(p:Pm)(s:Sk):Prop:=(∃x,p.k=1∧s=K1 p x∧vTl x=0)∨(∃x,p.k=2∧s=K2 p x∧vCm x=0∧x.d=p.d∧x.z=p.z∧x.s=p.s)∨(∃x,p.k=3∧s=K3 p x∧vLl x=0∧x.p=p.z∧x.s=p.s) ∨
 (∃x,p.k=4∧s=K4 p x∧vTp x=0∧x.z=p.z)∨(∃x,p.k=5∧s=K5 p x∧vFq x=0∧x.z=p.z)∨(∃x,p.k=6∧s=K6 p x∧vRk x=0∧x.z=p.z)
theorem NP{s:Sk}{p:Pm}(hp:s.p=p)(h:vSk s=0):Kd6 p s:=by
 obtain⟨h1,h2,h3,h4⟩:=X3 h
 subst hp
 unfold oI at h2
 unfold parP at h3
 rcases Jd h1 with q|q|q|q|q|q<;>simp [q] at h2 h3
 ·exact .inl ⟨s.tl,q,h4.symm.trans (by simp [aN,q,K1]),h2⟩
 ·exact .inr (.inl ⟨s.cm,q,h4.symm.trans (by simp [aN,q,K2]),h2,h3⟩)
 ·exact .inr (.inr (.inl ⟨s.ll,q,h4.symm.trans (by simp [aN,q,K3]),h2,h3⟩))
 ·exact .inr (.inr (.inr (.inl ⟨s.tp,q,h4.symm.trans (by simp [aN,q,K4]),h2,h3⟩)))
 ·exact .inr (.inr (.inr (.inr (.inl ⟨s.fq,q,h4.symm.trans (by simp [aN,q,K5]),h2,h3⟩))))
 ·exact .inr (.inr (.inr (.inr (.inr ⟨s.rk,q,h4.symm.trans (by simp [aN,q,K6]),h2,h3⟩))))
theorem zf{s:Sk}{p:Pm}(hv:vp p.k p.z p.d p.s=0)(h:Kd6 p s):vSk s=0∧s.p=p:=by
 rcases h with ⟨x,q,rfl,h⟩|⟨x,q,rfl,h⟩|⟨x,q,rfl,h⟩|⟨x,q,rfl,h⟩|⟨x,q,rfl,h⟩|⟨x,q,rfl,h⟩
 ·exact⟨Zf hv (by simp [oI,K1,q,h]) (by simp [parP,K1,q]) (by simp [aN,K1,q]),rfl⟩
 ·exact⟨Zf hv (by simp [oI,K2,q,h]) (by simp [parP,K2,q,h]) (by simp [aN,K2,q]),rfl⟩
 ·exact⟨Zf hv (by simp [oI,K3,q,h]) (by simp [parP,K3,q,h]) (by simp [aN,K3,q]),rfl⟩
 ·exact⟨Zf hv (by simp [oI,K4,q,h]) (by simp [parP,K4,q,h]) (by simp [aN,K4,q]),rfl⟩
 ·exact⟨Zf hv (by simp [oI,K5,q,h]) (by simp [parP,K5,q,h]) (by simp [aN,K5,q]),rfl⟩
 ·exact⟨Zf hv (by simp [oI,K6,q,h]) (by simp [parP,K6,q,h]) (by simp [aN,K6,q]),rfl⟩
theorem akM{s:Sk}{p:Pm}(hp:s.p=p)(h:vSk s=0){k:List Nat}{w:Int}(hi:bT k w=0)(co:List Nat){at':Int}(ha:0≤at'∧at'≤1073741824) :
  (∀x,p.k=1→s=K1 p x→bg s k w co at'=(K1 p (rV x k w).1,at',0))∧(∀x,p.k=2→s=K2 p x→bg s k w co at'=(K2 p (nH x k w).1,at',0))∧(∀x,p.k=3→s=K3 p x→bg s k w co at'=(K3 p (lN x k w).1,at',0)) ∧
  (∀x,p.k=4→s=K4 p x→bg s k w co at'=(K4 p (oz x k w).1,at',0))∧(∀x,p.k=5→s=K5 p x→bg s k w co at'=(K5 p (lU x k w).1,at',0))∧(∀x,p.k=6→s=K6 p x→bg s k w co at'=(K6 p (yl x k w co at').1,(yl x k w co at').2.1,0)):=by
 unfold bg
 rw[if_neg (by omega),if_neg (by omega),if_neg (fun q=>q ha),hp]
 refine⟨?_, ?_, ?_, ?_, ?_, ?_⟩<;>(intro x q e;subst e;simp [q,K1,K2,K3,K4,K5,K6])
theorem aj6{s u:Sk}{p:Pm}(hp:s.p=p)(hp2:u.p=p)(h:vSk s=0)(h2:vSk u=0)(co:List Nat) :
  (∀x y,p.k=1→s=K1 p x→u=K1 p y→oL s u co 0=(K1 p (CU x y).1,0,0))∧(∀x y,p.k=2→s=K2 p x→u=K2 p y→oL s u co 0=(K2 p (wM x y).1,0,0))∧(∀x y,p.k=3→s=K3 p x→u=K3 p y→oL s u co 0=(K3 p (vk x y).1,0,0)) ∧
  (∀x y,p.k=4→s=K4 p x→u=K4 p y→oL s u co 0=(K4 p (sZ x y).1,0,0))∧(∀x y,p.k=5→s=K5 p x→u=K5 p y→oL s u co 0=(K5 p (qF x y).1,0,0))∧(∀x y,p.k=6→s=K6 p x→u=K6 p y→oL s u co 0=(K6 p (qE x y co 0).1,(qE x y co 0).2.1,0)):=by
 unfold oL
 rw[if_neg (by omega),if_neg (by omega),if_neg (fun q=>q (by rw[hp,hp2];exact⟨rfl,rfl,rfl,rfl⟩)),if_neg (by decide),hp]
 refine⟨?_, ?_, ?_, ?_, ?_, ?_⟩<;>(intro x y q e e2;subst e;subst e2;simp [q,K1,K2,K3,K4,K5,K6])
def tot(s:Sk):Int:=if s.p.k=4 then s.tp.t else if s.p.k=5 then s.fq.t else s.rk.t
theorem O5{a b:Int}(ha:0≤a)(hb:0≤b)(h:a+b≤1099511627776):aO a b=(a+b,false):=by
 have e:aO a b=(min (a+b) 1099511627776,decide (a+b > 1099511627776)):=zg ⟨ha,by omega⟩ hb
 rw[e,decide_eq_false (by omega)]
 exact Prod.ext (by simp only;omega) rfl
theorem afl{x:Ll}(h:vLl x=0){k:List Nat}{w:Int}(hi:bT k w=0):(lN x k w).1=akd x k:=by
 unfold lN
 rw[if_neg (by omega),if_neg (by omega)]
 rfl
theorem ags{x:Tl}(h:vTl x=0){k:List Nat}{w:Int}(hi:bT k w=0):(rV x k w).1=Bz x ⟨w,1,false⟩:=by
 unfold rV
 rw[if_neg (by omega),if_neg (by omega)]
theorem agu{x:Cm}(h:vCm x=0){k:List Nat}{w:Int}(hi:bT k w=0):(nH x k w).1=dW x k w x.d.toNat:=by
 unfold nH
 rw[if_neg (by omega),if_neg (by omega)]
theorem ajz{s:Sk}{p:Pm}(ok:s.Ok)(hp:s.p=p)(h:vSk s=0){k:List Nat}{w:Int}(hk:oct k)(hi:bT k w=0)(co:List Nat){at':Int}(ha:0≤at'∧at'≤1073741824) :
  (vSk (bg s k w co at').1=0∧(bg s k w co at').1.p=p)∧(bg s k w co at').2.2=0∧(at'≤(bg s k w co at').2.1∧(bg s k w co at').2.1≤at'+6363)∧(4≤p.k→0≤tot s∧(tot s+w≤1099511627776→tot (bg s k w co at').1=tot s+w)):=by
 have hv:=(X3 h).1
 rw[hp] at hv
 obtain⟨k1,k2,k3,k4,k5,k6⟩:=akM hp h hi co ha
 obtain⟨w1,w2⟩:=fU hi
 have ha':at'≤at'∧at'≤at'+6363:=⟨Int.le_refl _,by omega⟩
 rcases NP hp h with ⟨x,q,e,v⟩|⟨x,q,e,v⟩|⟨x,q,e,v⟩|⟨x,q,e,v⟩|⟨x,q,e,v⟩|⟨x,q,e,v⟩
 ·rw[k1 x q e]
  exact⟨zf hv (.inl ⟨_,q,rfl,by rw[ags v hi];exact ajV v w1.1⟩),rfl,ha',fun h4=>by omega⟩
 ·rw[k2 x q e]
  obtain⟨d1,d2,d3,d4⟩:=BB x k w x.d.toNat
  exact⟨zf hv (.inr (.inl ⟨_,q,rfl,by rw[agu v.1 hi,d1,d2,d3];exact⟨acE v.1 _ _ _,v.2⟩⟩)),rfl,ha',fun h4=>by omega⟩
 ·rw[k3 x q e]
  exact⟨zf hv (.inr (.inr (.inl ⟨_,q,rfl,by rw[afl v.1 hi];exact⟨ajX v.1 k,v.2⟩⟩))),rfl,ha',fun h4=>by omega⟩
 ·rw[k4 x q e]
  have ho:octE x.e:=by have:=ok.to;rw[e] at this;exact this
  have hz:(oz x k w).1.z=x.z∧(oz x k w).1.t=(aO x.t w).1:=by
   unfold oz;rw[if_neg (by omega),if_neg (by omega)];exact⟨rfl,rfl⟩
  refine⟨zf hv (.inr (.inr (.inr (.inl ⟨_,q,rfl,ak6 v.1 ho hk hi,by rw[hz.1];exact v.2⟩)))),rfl,ha',fun _ => ?_⟩
  have e1:tot s=x.t:=by rw[e];simp [tot,K4,q]
  have e2:tot (K4 p (oz x k w).1)=(aO x.t w).1:=by simp [tot,K4,q,hz.2]
  have ht:=(kK v.1).2.1
  simp only[e1,e2]
  exact⟨ht.1,fun hb=>by rw[O5 ht.1 (by omega) hb]⟩
 ·rw[k5 x q e]
  have ho:octE x.e:=by have:=ok.fo;rw[e] at this;exact this
  have hz:(lU x k w).1.z=x.z∧(lU x k w).1.t=(aO x.t w).1:=by
   unfold lU;rw[if_neg (by omega),if_neg (by omega)];exact⟨rfl,rfl⟩
  refine⟨zf hv (.inr (.inr (.inr (.inr (.inl ⟨_,q,rfl,(ak9 v.1 ho hk hi).1,by rw[hz.1];exact v.2⟩))))),rfl,ha',fun _ => ?_⟩
  have e1:tot s=x.t:=by rw[e];simp [tot,K5,q]
  have e2:tot (K5 p (lU x k w).1)=(aO x.t w).1:=by simp [tot,K5,q,hz.2]
  have ht:=(jW v.1).2.1
  simp only[e1,e2]
  exact⟨ht.1,fun hb=>by rw[O5 ht.1 (by omega) hb]⟩
 ·rw[k6 x q e]
  obtain⟨r1,r2,r3,r4⟩:=ald v.1 co hi ha
  have hz:(yl x k w co at').1.z=x.z:=by
   unfold yl;rw[if_neg (by omega),if_neg (by omega),if_neg (fun q=>q ha)];split<;>rfl
  refine⟨zf hv (.inr (.inr (.inr (.inr (.inr ⟨_,q,rfl,r1,by rw[hz];exact v.2⟩))))),rfl,⟨r3,r4⟩,fun _ => ?_⟩
  have e1:tot s=x.t:=by rw[e];simp [tot,K6,q]
  have e2:tot (K6 p (yl x k w co at').1)=(yl x k w co at').1.t:=by simp [tot,K6,q]
  have ht:=(Na v.1).2.1
  simp only[e1,e2]
  refine⟨ht.1,fun hb => ?_⟩
  have hA:=O5 ht.1 (show 0≤w by omega) hb
  unfold yl
  rw[if_neg (by omega),if_neg (by omega),if_neg (fun q=>q ha),hA]
  rfl
theorem akN{s u:Sk}{p:Pm}(ok:s.Ok)(ok2:u.Ok)(hp:s.p=p)(hp2:u.p=p)(h:vSk s=0)(h2:vSk u=0)(co:List Nat) :
  (oL s u co 0).2.2=0∧(4≤p.k→(vSk (oL s u co 0).1=0∧(oL s u co 0).1.p=p)∧(tot s+tot u≤1099511627776→tot (oL s u co 0).1=tot s+tot u)):=by
 have hv:=(X3 h).1
 rw[hp] at hv
 obtain⟨k1,k2,k3,k4,k5,k6⟩:=aj6 hp hp2 h h2 co
 have hu:=NP hp2 h2
 rcases NP hp h with ⟨x,q,e,v⟩|⟨x,q,e,v⟩|⟨x,q,e,v⟩|⟨x,q,e,v⟩|⟨x,q,e,v⟩|⟨x,q,e,v⟩<;>rcases hu with ⟨y,q2,e2,v2⟩|⟨y,q2,e2,v2⟩|⟨y,q2,e2,v2⟩|⟨y,q2,e2,v2⟩|⟨y,q2,e2,v2⟩|⟨y,q2,e2,v2⟩<;>first|(exfalso;omega)|skip
 ·rw[k1 x y q e e2];exact⟨rfl,fun h4=>by omega⟩
 ·rw[k2 x y q e e2];exact⟨rfl,fun h4=>by omega⟩
 ·rw[k3 x y q e e2];exact⟨rfl,fun h4=>by omega⟩
 ·rw[k4 x y q e e2]
  have ho:octE x.e:=by have:=ok.to;rw[e] at this;exact this
  have ho2:octE y.e:=by have:=ok2.to;rw[e2] at this;exact this
  have hzz:x.z=y.z:=by rw[v.2,v2.2]
  have hm:(sZ x y).1.z=x.z∧(sZ x y).1.t=(aO x.t y.t).1:=by
   unfold sZ;rw[if_neg (by omega),if_neg (by omega),if_neg (fun q=>q hzz)];exact⟨rfl,rfl⟩
  refine⟨rfl,fun _=>⟨zf hv (.inr (.inr (.inr (.inl ⟨_,q,rfl,ak7 v.1 v2.1 hzz ho ho2,by rw[hm.1];exact v.2⟩)))),fun hb => ?_⟩⟩
  have e1:tot s=x.t:=by rw[e];simp [tot,K4,q]
  have e3:tot u=y.t:=by rw[e2];simp [tot,K4,q]
  rw[e1,e3] at hb ⊢
  simp only[tot,K4,q,if_true,hm.2]
  rw[O5 (kK v.1).2.1.1 (kK v2.1).2.1.1 hb]
 ·rw[k5 x y q e e2]
  have ho:octE x.e:=by have:=ok.fo;rw[e] at this;exact this
  have ho2:octE y.e:=by have:=ok2.fo;rw[e2] at this;exact this
  have hzz:x.z=y.z:=by rw[v.2,v2.2]
  have hm:(qF x y).1.z=x.z∧(qF x y).1.t=(aO x.t y.t).1:=by
   unfold qF;rw[if_neg (by omega),if_neg (by omega),if_neg (fun q=>q hzz)];split<;>exact⟨rfl,rfl⟩
  refine⟨rfl,fun _=>⟨zf hv (.inr (.inr (.inr (.inr (.inl ⟨_,q,rfl,alb v.1 v2.1 hzz ho ho2,by rw[hm.1];exact v.2⟩))))),fun hb => ?_⟩⟩
  have e1:tot s=x.t:=by rw[e];simp [tot,K5,q]
  have e3:tot u=y.t:=by rw[e2];simp [tot,K5,q]
  rw[e1,e3] at hb ⊢
  have e4:tot (K5 p (qF x y).1)=(aO x.t y.t).1:=by simp [tot,K5,q,hm.2]
  rw[e4,O5 (jW v.1).2.1.1 (jW v2.1).2.1.1 hb]
 ·rw[k6 x y q e e2]
  have hzz:x.z=y.z:=by rw[v.2,v2.2]
  have hm:(qE x y co 0).1.z=x.z:=by
   unfold qE;rw[if_neg (by omega),if_neg (by omega),if_neg (fun q=>q hzz),if_neg (by decide)];split<;>rfl
  refine⟨rfl,fun _=>⟨zf hv (.inr (.inr (.inr (.inr (.inr ⟨_,q,rfl,ale v.1 v2.1 hzz co ⟨by decide,by decide⟩,by rw[hm];exact v.2⟩))))),fun hb => ?_⟩⟩
  have e1:tot s=x.t:=by rw[e];simp [tot,K6,q]
  have e3:tot u=y.t:=by rw[e2];simp [tot,K6,q]
  rw[e1,e3] at hb ⊢
  have e4:tot (K6 p (qE x y co 0).1)=(qE x y co 0).1.t:=by simp [tot,K6,q]
  have hA:=O5 (Na v.1).2.1.1 (Na v2.1).2.1.1 hb
  rw[e4]
  unfold qE
  rw[if_neg (by omega),if_neg (by omega),if_neg (fun q=>q hzz),if_neg (by decide),hA]
  rfl
theorem ahP{x y:Tl}(h:vTl x=0)(h2:vTl y=0):(CU x y).1=ajd x y:=by
 unfold CU;rw[if_neg (by omega),if_neg (by omega)];rfl
theorem ahR{x y:Cm}(h:vCm x=0)(h2:vCm y=0)(e1:y.d=x.d)(e2:y.z=x.z)(e3:y.s=x.s):(wM x y).1=TT x y:=by
 unfold wM;rw[if_neg (by omega),if_neg (by omega),if_neg (by simp [e1,e2,e3])];rfl
theorem ahS{x y:Ll}(h:vLl x=0)(h2:vLl y=0)(e1:y.p=x.p)(e2:y.s=x.s):(vk x y).1=ajf x y:=by
 unfold vk;rw[if_neg (by omega),if_neg (by omega),if_neg (by simp [e1,e2])];rfl
theorem alf{s u m:Sk}{p:Pm}(hp:s.p=p)(hp2:u.p=p)(hp3:m.p=p)(h:vSk s=0)(h2:vSk u=0)(h3:vSk m=0)(hk:p.k<4){co c2 c3:List Nat}{k:List Nat}{w:Int}(hok:oct k)(hi:bT k w=0){a1 a2:Int}(ha1:0≤a1∧a1≤1073741824)(ha2:0≤a2∧a2≤1073741824)
  (ok2:u.Ok) (hm:(oL s u co 0).1=m):(oL s (bg u k w c2 a1).1 co 0).1=(bg m k w c3 a2).1:=by
 have hv:=(X3 h).1
 rw[hp] at hv
 have h4:=(ajz ok2 hp2 h2 hok hi c2 ha1).1
 obtain⟨k1,k2,k3,_⟩:=aj6 hp hp2 h h2 co
 obtain⟨l1,l2,l3,_⟩:=aj6 hp h4.2 h h4.1 co
 obtain⟨i1,i2,i3,_⟩:=akM hp2 h2 hi c2 ha1
 obtain⟨j1,j2,j3,_⟩:=akM hp3 h3 hi c3 ha2
 obtain⟨w1,w2⟩:=fU hi
 have hu:=NP hp2 h2
 rcases NP hp h with ⟨x,q,e,v⟩|⟨x,q,e,v⟩|⟨x,q,e,v⟩|⟨x,q,e,v⟩|⟨x,q,e,v⟩|⟨x,q,e,v⟩<;>rcases hu with ⟨y,q2,e2,v2⟩|⟨y,q2,e2,v2⟩|⟨y,q2,e2,v2⟩|⟨y,q2,e2,v2⟩|⟨y,q2,e2,v2⟩|⟨y,q2,e2,v2⟩<;>first|(exfalso;omega)|skip
 ·have em:m=K1 p (ajd x y):=by rw[←hm,k1 x y q e e2,ahP v v2]
  have vm:vTl (ajd x y)=0:=by
   rcases NP hp3 h3 with ⟨z,_,ez,vz⟩|⟨z,qz,_⟩|⟨z,qz,_⟩|⟨z,qz,_⟩|⟨z,qz,_⟩|⟨z,qz,_⟩<;>first|(exfalso;omega)|skip
   rw[em] at ez
   have:ajd x y=z:=congrArg Sk.tl ez
   rw[this];exact vz
  rw[l1 x _ q e (by rw[i1 y q2 e2]),j1 _ q em,ags v2 hi,ags vm hi,ahP v (ajV v2 w1.1),akD x y w v v2 (by omega)]
 ·obtain⟨d1,d2,d3,d4⟩:=BB y k w y.d.toNat
  have ed:y.d=x.d:=by rw[v.2.1,v2.2.1]
  have ez:y.z=x.z:=by rw[v.2.2.1,v2.2.2.1]
  have es:y.s=x.s:=by rw[v.2.2.2,v2.2.2.2]
  have em:m=K2 p (TT x y):=by rw[←hm,k2 x y q e e2,ahR v.1 v2.1 ed ez es]
  have vm:vCm (TT x y)=0:=by
   rcases NP hp3 h3 with ⟨z,qz,_⟩|⟨z,_,ez,vz⟩|⟨z,qz,_⟩|⟨z,qz,_⟩|⟨z,qz,_⟩|⟨z,qz,_⟩<;>first|(exfalso;omega)|skip
   rw[em] at ez
   have:TT x y=z:=congrArg Sk.cm ez
   rw[this];exact vz.1
  rw[l2 x _ q e (by rw[i2 y q2 e2]),j2 _ q em,agu v2.1 hi,agu vm hi,ahR v.1 (acE v2.1 _ _ _) (by rw[d1,ed]) (by rw[d2,ez]) (by rw[d3,es]),aiC x y v.1 v2.1 ed ez es k w (by omega) _ (by rw[ed];exact Nat.le_refl _)]
  have:(TT x y).d=y.d:=ed.symm
  rw[this]
 ·have ep:y.p=x.p:=by rw[v.2.1,v2.2.1]
  have es:y.s=x.s:=by rw[v.2.2,v2.2.2]
  have em:m=K3 p (ajf x y):=by rw[←hm,k3 x y q e e2,ahS v.1 v2.1 ep es]
  have vm:vLl (ajf x y)=0:=by
   rcases NP hp3 h3 with ⟨z,qz,_⟩|⟨z,qz,_⟩|⟨z,_,ez,vz⟩|⟨z,qz,_⟩|⟨z,qz,_⟩|⟨z,qz,_⟩<;>first|(exfalso;omega)|skip
   rw[em] at ez
   have:ajf x y=z:=congrArg Sk.ll ez
   rw[this];exact vz.1
  rw[l3 x _ q e (by rw[i3 y q2 e2]),j3 _ q em,afl v2.1 hi,afl vm hi,ahS v.1 (ajX v2.1 k) ep es,akE x y v.1 v2.1 ep es k]
theorem z40:(0:Int)≤0∧(0:Int)≤1099511627776:=⟨by decide,by decide⟩
theorem ajA(p:Pm)(hv:vp p.k p.z p.d p.s=0):Kd6 p (kT p):=by
 unfold kT
 rcases Jd hv with q|q|q|q|q|q
 ·rw[if_pos q];exact .inl ⟨_,q,rfl,rfl⟩
 ·rw[if_neg (by omega),if_pos q]
  exact .inr (.inl ⟨_,q,rfl,ajW (agS (by rw[q] at hv;exact hv)),rfl,rfl,rfl⟩)
 ·rw[if_neg (by omega),if_neg (by omega),if_pos q]
  exact .inr (.inr (.inl ⟨_,q,rfl,ajY (afj (by rw[q] at hv;exact hv)),rfl,rfl⟩))
 ·rw[if_neg (by omega),if_neg (by omega),if_neg (by omega),if_pos q]
  have h:=ahW (by rw[q] at hv;exact hv)
  exact .inr (.inr (.inr (.inl ⟨_,q,rfl,ajK h z40 (by simp only[List.length_nil];omega) (fun y hy=>by cases hy) List.Pairwise.nil List.Pairwise.nil,rfl⟩)))
 ·rw[if_neg (by omega),if_neg (by omega),if_neg (by omega),if_neg (by omega),if_pos q]
  have h:=ahX (by rw[q] at hv;exact hv)
  exact .inr (.inr (.inr (.inr (.inl ⟨_,q,rfl,ajg h z40 z40 (by simp only[List.length_nil];omega) (fun y hy=>by cases hy) List.Pairwise.nil,rfl⟩))))
 ·rw[if_neg (by omega),if_neg (by omega),if_neg (by omega),if_neg (by omega),if_neg (by omega)]
  have h:=ahY (by rw[q] at hv;exact hv)
  exact .inr (.inr (.inr (.inr (.inr ⟨_,q,rfl,akL ⟨⟨h.1,h.2.1⟩,h.2.2⟩ z40 z40 (fun l hl=>by cases hl) (fun h=>by cases h) rfl,rfl⟩))))
theorem alg{s:Sk}{p:Pm}(hp:s.p=p)(h:vSk s=0)(hk:p.k<4)(co:List Nat):(oL s (kT p) co 0).1=s:=by
 have hv:=(X3 h).1
 rw[hp] at hv
 obtain⟨n1,n2⟩:=zf hv (ajA p hv)
 obtain⟨k1,k2,k3,_⟩:=aj6 hp n2 h n1 co
 have hn:kT p=if p.k=1 then K1 p Tl.o else if p.k=2 then K2 p ⟨p.d,p.z,p.s,zer (p.d*p.z).toNat,false⟩ else K3 p ⟨p.z,p.s,zer (2^p.z.toNat)⟩:=by
  unfold kT
  rcases Jd hv with q|q|q|q|q|q<;>first|(exfalso;omega)|(simp [q];rfl)
 rcases NP hp h with ⟨x,q,e,v⟩|⟨x,q,e,v⟩|⟨x,q,e,v⟩|⟨x,q,e,v⟩|⟨x,q,e,v⟩|⟨x,q,e,v⟩<;>first|(exfalso;omega)|skip
 ·rw[if_pos q] at hn
  rw[k1 x _ q e hn,ahP v rfl,als x v];exact e.symm
 ·rw[if_neg (by omega),if_pos q] at hn
  rw[k2 x _ q e hn,ahR v.1 (ajW (agS (by rw[q] at hv;exact hv))) v.2.1.symm v.2.2.1.symm v.2.2.2.symm,alu x v.1 _ _ _ v.2.1.symm v.2.2.1.symm];exact e.symm
 ·rw[if_neg (by omega),if_neg (by omega)] at hn
  rw[k3 x _ q e hn,ahS v.1 (ajY (afj (by rw[q] at hv;exact hv))) v.2.1.symm v.2.2.symm,alv x v.1 _ _ v.2.1.symm];exact e.symm
abbrev Its:=List (List Nat × Int)
def NQ(a:Sk)(its:Its):Nat→Sk × Int
 | 0=>(a,0)
 | i+1=>((bg (NQ a its i).1 (its.getD i ([],0)).1 (its.getD i ([],0)).2 [] (NQ a its i).2).1,(bg (NQ a its i).1 (its.getD i ([],0)).1 (its.getD i ([],0)).2 [] (NQ a its i).2).2.1)
def PE(its:Its):Nat→Int
 | 0=>0
 | i+1=>PE its i+(its.getD i ([],0)).2
def aih(its:Its):Prop:=∀i,i<its.length→oct (its.getD i ([],0)).1∧bT (its.getD i ([],0)).1 (its.getD i ([],0)).2=0
theorem GH{its:Its}(h:aih its):∀i,i≤its.length→0≤PE its i∧PE its i≤4294967295*i
 | 0,_=>⟨Int.le_refl _,Int.le_refl _⟩
 | i+1,hi=>by
  have h1:=GH h i (by omega)
  have h2:=(fU (h i (by omega)).2).1
  show 0≤PE its i+_∧PE its i+_≤_
  omega
structure Vk (p:Pm) (T:Int) (i:Nat) (x:Sk × Int):Prop where
 ok:x.1.Ok
 q:x.1.p=p
 v:vSk x.1=0
 a:0≤x.2∧x.2≤6363*i
 t:4≤p.k→tot x.1=T
theorem Vk.step{p:Pm}{T:Int}{i:Nat}{x:Sk × Int}(h:Vk p T i x){k:List Nat}{w:Int}(hk:oct k)(hi:bT k w=0)(co:List Nat)(hi2:i≤100)(hT:T+w≤1099511627776):Vk p (T+w) (i+1) ((bg x.1 k w co x.2).1,(bg x.1 k w co x.2).2.1)∧(bg x.1 k w co x.2).2.2=0:=by
 have ha:=h.a
 obtain⟨⟨h1,h2⟩,h3,h4,h5⟩:=ajz h.ok h.q h.v hk hi co (show 0≤x.2∧x.2≤1073741824 by omega)
 exact⟨⟨tq _ h.ok _ _ _ _ hk,h2,h1,⟨by simp only;omega,by simp only;omega⟩,fun q=>by
  have e:=h.t q
  have:=(h5 q).2 (by rw[e];exact hT)
  rw[e] at this;exact this⟩,h3⟩
theorem FX{p:Pm}(hs:0≤p.s∧p.s<18446744073709551616)(hv:vp p.k p.z p.d p.s=0){its:Its}(hi:aih its)(co:List Nat)(hn:its.length≤100):∀i,i≤its.length→Vk p (PE its i) i (mg p its co i)
 | 0,_=>by
  obtain⟨h1,h2⟩:=zf hv (ajA p hv)
  refine⟨Y4 p hs hv,h2,h1,⟨Int.le_refl _,Int.le_refl _⟩,fun q => ?_⟩
  show tot (kT p)=0
  unfold kT tot
  rcases Jd hv with q1|q1|q1|q1|q1|q1<;>first|(exfalso;omega)|(simp [q1];done)|(simp [q1];rfl)
 | i+1,h=>by
  have ih:=FX hs hv hi co hn i (by omega)
  have h1:=hi i (by omega)
  have h2:=GH hi (i+1) h
  have h3:PE its (i+1)=PE its i+(its.getD i ([],0)).2:=rfl
  exact (ih.step h1.1 h1.2 co (by omega) (by omega)).1
theorem Y8{p:Pm}{a:Sk}{T:Int}(ha:a.Ok)(hp:a.p=p)(hv:vSk a=0)(ht:4≤p.k→tot a=T)(hT:0≤T∧T≤429496729500){its:Its}(hi:aih its)(hn:its.length≤100):∀i,i≤its.length→Vk p (T+PE its i) i (NQ a its i)
 | 0,_=>⟨ha,hp,hv,⟨Int.le_refl _,Int.le_refl _⟩,fun q=>by rw[show T+PE its 0=T from Int.add_zero T];exact ht q⟩
 | i+1,h=>by
  have ih:=Y8 ha hp hv ht hT hi hn i (by omega)
  have h1:=hi i (by omega)
  have h2:=GH hi (i+1) h
  have h3:PE its (i+1)=PE its i+(its.getD i ([],0)).2:=rfl
  have:=(ih.step h1.1 h1.2 [] (by omega) (by omega)).1
  rw[h3,←Int.add_assoc]
  exact this
theorem ajB{p:Pm}{a:Sk}(ha:a.Ok)(hp:a.p=p)(hva:vSk a=0)(hs:0≤p.s∧p.s<18446744073709551616)(hv:vp p.k p.z p.d p.s=0)(hk:p.k<4){its:Its}(hi:aih its)(co c2:List Nat)(hn:its.length≤100):∀i,i≤its.length→(oL a (mg p its co i).1 c2 0).1=(NQ a its i).1
 | 0,_=>alg hp hva hk c2
 | i+1,h=>by
  have ih:=ajB ha hp hva hs hv hk hi co c2 hn i (by omega)
  have h1:=hi i (by omega)
  have f:=FX hs hv hi co hn i (by omega)
  have g:=Y8 (T:=0) ha hp hva (fun q=>by omega) ⟨by decide,by decide⟩ hi hn i (by omega)
  have fa:=f.a
  have ga:=g.a
  exact alf hp f.q g.q hva f.v g.v hk h1.1 h1.2 ⟨fa.1,by omega⟩ ⟨ga.1,by omega⟩ f.ok ih
theorem alA{c d:Sk}{p:Pm}(hc:c.p=p)(hd:d.p=p)(vc:vSk c=0)(vd:vSk d=0)(hk:4≤p.k)(h:tot c=tot d):c.tp.t=d.tp.t∧c.fq.t=d.fq.t∧c.rk.t=d.rk.t:=by
 have hdk:=NP hd vd
 rcases NP hc vc with ⟨x,q,e,v⟩|⟨x,q,e,v⟩|⟨x,q,e,v⟩|⟨x,q,e,v⟩|⟨x,q,e,v⟩|⟨x,q,e,v⟩<;>rcases hdk with ⟨y,q2,e2,v2⟩|⟨y,q2,e2,v2⟩|⟨y,q2,e2,v2⟩|⟨y,q2,e2,v2⟩|⟨y,q2,e2,v2⟩|⟨y,q2,e2,v2⟩<;>first|(exfalso;omega)|skip
 all_goals
  rw[e,e2] at h ⊢
  simp [tot,K4,K5,K6,q] at h ⊢
  exact h
theorem ake{p:Pm}(hs:0≤p.s∧p.s<18446744073709551616)(hv:vp p.k p.z p.d p.s=0){i1 i2:Its}(h1:aih i1)(h2:aih i2)(n1:i1.length≤100)(n2:i2.length≤100)(c1 c2:List Nat) :
  (oL (mg p i1 c1 i1.length).1 (mg p i2 c2 i2.length).1 [] 0).2.2=0 ∧
  (p.k<4→(oL (mg p i1 c1 i1.length).1 (mg p i2 c2 i2.length).1 [] 0).1=(NQ (mg p i1 c1 i1.length).1 i2 i2.length).1) ∧
  (4≤p.k→vSk (oL (mg p i1 c1 i1.length).1 (mg p i2 c2 i2.length).1 [] 0).1=0∧(oL (mg p i1 c1 i1.length).1 (mg p i2 c2 i2.length).1 [] 0).1.tp.t=(NQ (mg p i1 c1 i1.length).1 i2 i2.length).1.tp.t ∧
   (oL (mg p i1 c1 i1.length).1 (mg p i2 c2 i2.length).1 [] 0).1.fq.t=(NQ (mg p i1 c1 i1.length).1 i2 i2.length).1.fq.t∧(oL (mg p i1 c1 i1.length).1 (mg p i2 c2 i2.length).1 [] 0).1.rk.t=(NQ (mg p i1 c1 i1.length).1 i2 i2.length).1.rk.t):=by
 have fa:=FX hs hv h1 c1 n1 _ (Nat.le_refl _)
 have fb:=FX hs hv h2 c2 n2 _ (Nat.le_refl _)
 have s1:=GH h1 _ (Nat.le_refl _)
 have s2:=GH h2 _ (Nat.le_refl _)
 obtain⟨m1,m2⟩:=akN fa.ok fb.ok fa.q fb.q fa.v fb.v []
 refine⟨m1,fun hk=>ajB fa.ok fa.q fa.v hs hv hk h2 c2 [] n2 _ (Nat.le_refl _),fun hk => ?_⟩
 obtain⟨⟨m3,m4⟩,m5⟩:=m2 hk
 have g:=Y8 fa.ok fa.q fa.v (fun q=>fa.t q) ⟨by omega,by omega⟩ h2 n2 _ (Nat.le_refl _)
 refine⟨m3,alA m4 g.q m3 g.v hk ?_⟩
 rw[m5 (by rw[fa.t hk,fb.t hk];omega),g.t hk,fa.t hk,fb.t hk]
theorem zk(n:Int):Gxx 24 [vi n] (vb (decide (0≤n∧n≤1073741824))):=by
 by_cases h1:0≤n
 ·by_cases h2:n≤1073741824
  ·rw[decide_eq_true ⟨h1,h2⟩]
   refine gI oW Tryz.func24 Tryz.results24 ?_
   (repeat' (first|(simp (disch:=first|exact dqz|fail) only[pgz,simprocAttr,Tryz.f24])|(refine tS ?_ ?_<;>intro hc)|(with_reducible refine cK ?_)))
   (refine rT [] ?_;first|rfl|simp only[pgo,simprocAttr]|skip)
  ·rw[decide_eq_false (fun h=>h2 h.2)]
   refine gI oW Tryz.func24 Tryz.results24 ?_
   (repeat' (first|(simp (disch:=first|exact dqz|fail) only[pgz,simprocAttr,Tryz.f24])|(refine tS ?_ ?_<;>intro hc)|(with_reducible refine cK ?_)))
   (refine rT [] ?_;first|rfl|simp only[pgo,simprocAttr]|skip)
 ·rw[decide_eq_false (fun h=>h1 h.1)]
  refine gI oW Tryz.func24 Tryz.results24 ?_
  (repeat' (first|(simp (disch:=first|exact dqz|fail) only[pgz,simprocAttr,Tryz.f24])|(refine tS ?_ ?_<;>intro hc)|(with_reducible refine cK ?_)))
  (refine rT [] ?_;first|rfl|simp only[pgo,simprocAttr]|skip)
theorem ajk(s:Sk)(ok:s.Ok)(k:List Nat)(w:Int)(co:List Nat)(at':Int)(ho:oct k)(hco:oct co)(h:vSk s=0)(hi:bT k w=0)(ha:0≤at'∧at'≤1073741824)(hk:s.p.k=1):Gxx 10 [.agg (skF s),.agg [vs k,vi w],fzb co,vi at'] (.tup [.agg (skF (bg s k w co at').1),vi (bg s k w co at').2.1,vi (bg s k w co at').2.2]):=by
 have h1:=jo s ok
 rw[h] at h1
 have h2:=bz k w
 rw[hi] at h2
 have h3:=zk at'
 rw[decide_eq_true ha] at h3
 have h4:=O1 s.tl k w
 have e:bg s k w co at'=(⟨s.p,(rV s.tl k w).1,s.cm,s.ll,s.tp,s.fq,s.rk⟩,at',0):=by
  unfold bg
  rw[if_neg (by omega),if_neg (by omega),if_neg (fun h=>h ha)]
  simp [hk]
 have hs:=yx h
 have e1:s.cm=Cm.o:=by have:=congrArg Sk.cm hs;simp only[aN,hk] at this;exact this.symm
 have e2:s.ll=Ll.o:=by have:=congrArg Sk.ll hs;simp only[aN,hk] at this;exact this.symm
 have e3:s.tp=Tp.o:=by have:=congrArg Sk.tp hs;simp only[aN,hk] at this;exact this.symm
 have e4:s.fq=Fq.o:=by have:=congrArg Sk.fq hs;simp only[aN,hk] at this;exact this.symm
 have e5:s.rk=Rk.o:=by have:=congrArg Sk.rk hs;simp only[aN,hk] at this;exact this.symm
 rw[e]
 clear hs
 rw[e1,e2,e3,e4,e5]
 generalize rV s.tl k w=I at *
 refine Good.fzt (vs:=[.agg (skC ⟨s.p,I.1,Cm.o,Ll.o,Tp.o,Fq.o,Rk.o⟩ nls nls nls nls nls),vi at',vi 0]) ?_ rfl ⟨iy ⟨s.p,I.1,Cm.o,Ll.o,Tp.o,Fq.o,Rk.o⟩ (aX _) (aX _) (aX _) (aX _) (aX _),aH _,aH _,trivial⟩
 clear ok e e1 e2 e3 e4 e5
 obtain⟨⟨pk,pz,pd,ps⟩,⟨t1,t2,t3⟩,⟨c1,c2,c3,c4,c5⟩,⟨l1,l2,l3⟩,⟨e1,e2,e3,e4⟩,⟨f1,f2,f3,f4,f5⟩,⟨r1,r2,r3,r4,r5⟩⟩:=s
 obtain⟨⟨i1,i2,i3⟩,i6⟩:=I
 simp only at *
 subst hk
 refine gI oW Tryz.func10 Tryz.results10 ?_
 (repeat' (first|(simp (disch:=first|exact dqz|fail) only[pgz,simprocAttr,Tryz.f10])|((with_reducible show bU _ _ _ _ _ _);first|refine cU h1 ?_|refine cU h2 ?_|refine cU h3 ?_|refine cU h4 ?_)|(refine tS ?_ ?_<;>intro hc)|(with_reducible refine cK ?_)))
 (refine rT [] ?_;first|rfl|simp only[pgo,simprocAttr]|skip)
theorem ajl(s:Sk)(ok:s.Ok)(k:List Nat)(w:Int)(co:List Nat)(at':Int)(ho:oct k)(hco:oct co)(h:vSk s=0)(hi:bT k w=0)(ha:0≤at'∧at'≤1073741824)(hk:s.p.k=2):Gxx 10 [.agg (skF s),.agg [vs k,vi w],fzb co,vi at'] (.tup [.agg (skF (bg s k w co at').1),vi (bg s k w co at').2.1,vi (bg s k w co at').2.2]):=by
 have h1:=jo s ok
 rw[h] at h1
 have h2:=bz k w
 rw[hi] at h2
 have h3:=zk at'
 rw[decide_eq_true ha] at h3
 have h4:=ak3 s.cm k w ho
 have e:bg s k w co at'=(⟨s.p,s.tl,(nH s.cm k w).1,s.ll,s.tp,s.fq,s.rk⟩,at',0):=by
  unfold bg
  rw[if_neg (by omega),if_neg (by omega),if_neg (fun h=>h ha)]
  simp [hk]
 have hs:=yx h
 have e0:s.tl=Tl.o:=by have:=congrArg Sk.tl hs;simp only[aN,hk] at this;exact this.symm
 have e2:s.ll=Ll.o:=by have:=congrArg Sk.ll hs;simp only[aN,hk] at this;exact this.symm
 have e3:s.tp=Tp.o:=by have:=congrArg Sk.tp hs;simp only[aN,hk] at this;exact this.symm
 have e4:s.fq=Fq.o:=by have:=congrArg Sk.fq hs;simp only[aN,hk] at this;exact this.symm
 have e5:s.rk=Rk.o:=by have:=congrArg Sk.rk hs;simp only[aN,hk] at this;exact this.symm
 rw[e]
 clear hs
 rw[e0,e2,e3,e4,e5]
 generalize nH s.cm k w=I at *
 refine Good.fzt (vs:=[.agg (skC ⟨s.p,Tl.o,I.1,Ll.o,Tp.o,Fq.o,Rk.o⟩ (fzi I.1.c) nls nls nls nls),vi at',vi 0]) ?_ rfl ⟨iy ⟨s.p,Tl.o,I.1,Ll.o,Tp.o,Fq.o,Rk.o⟩ (nK _) (aX _) (aX _) (aX _) (aX _),aH _,aH _,trivial⟩
 clear ok e e0 e2 e3 e4 e5
 obtain⟨⟨pk,pz,pd,ps⟩,⟨t1,t2,t3⟩,⟨c1,c2,c3,c4,c5⟩,⟨l1,l2,l3⟩,⟨e1,e2,e3,e4⟩,⟨f1,f2,f3,f4,f5⟩,⟨r1,r2,r3,r4,r5⟩⟩:=s
 obtain⟨⟨i1,i2,i3,i4,i5⟩,i6⟩:=I
 simp only at *
 subst hk
 refine gI oW Tryz.func10 Tryz.results10 ?_
 (repeat' (first|(simp (disch:=first|exact dqz|fail) only[pgz,simprocAttr,Tryz.f10])|((with_reducible show bU _ _ _ _ _ _);first|refine cU h1 ?_|refine cU h2 ?_|refine cU h3 ?_|refine cU h4 ?_)|(refine tS ?_ ?_<;>intro hc)|(with_reducible refine cK ?_)))
 (refine rT [] ?_;first|rfl|simp only[pgo,simprocAttr]|skip)
theorem ajm(s:Sk)(ok:s.Ok)(k:List Nat)(w:Int)(co:List Nat)(at':Int)(ho:oct k)(hco:oct co)(h:vSk s=0)(hi:bT k w=0)(ha:0≤at'∧at'≤1073741824)(hk:s.p.k=3):Gxx 10 [.agg (skF s),.agg [vs k,vi w],fzb co,vi at'] (.tup [.agg (skF (bg s k w co at').1),vi (bg s k w co at').2.1,vi (bg s k w co at').2.2]):=by
 have h1:=jo s ok
 rw[h] at h1
 have h2:=bz k w
 rw[hi] at h2
 have h3:=zk at'
 rw[decide_eq_true ha] at h3
 have h4:=ak0 s.ll k w ho ok.ln
 have e:bg s k w co at'=(⟨s.p,s.tl,s.cm,(lN s.ll k w).1,s.tp,s.fq,s.rk⟩,at',0):=by
  unfold bg
  rw[if_neg (by omega),if_neg (by omega),if_neg (fun h=>h ha)]
  simp [hk]
 have hs:=yx h
 have e0:s.tl=Tl.o:=by have:=congrArg Sk.tl hs;simp only[aN,hk] at this;exact this.symm
 have e1:s.cm=Cm.o:=by have:=congrArg Sk.cm hs;simp only[aN,hk] at this;exact this.symm
 have e3:s.tp=Tp.o:=by have:=congrArg Sk.tp hs;simp only[aN,hk] at this;exact this.symm
 have e4:s.fq=Fq.o:=by have:=congrArg Sk.fq hs;simp only[aN,hk] at this;exact this.symm
 have e5:s.rk=Rk.o:=by have:=congrArg Sk.rk hs;simp only[aN,hk] at this;exact this.symm
 rw[e]
 clear hs
 rw[e0,e1,e3,e4,e5]
 generalize lN s.ll k w=I at *
 refine Good.fzt (vs:=[.agg (skC ⟨s.p,Tl.o,Cm.o,I.1,Tp.o,Fq.o,Rk.o⟩ nls (fzi I.1.r) nls nls nls),vi at',vi 0]) ?_ rfl ⟨iy ⟨s.p,Tl.o,Cm.o,I.1,Tp.o,Fq.o,Rk.o⟩ (aX _) (nK _) (aX _) (aX _) (aX _),aH _,aH _,trivial⟩
 clear ok e e0 e1 e3 e4 e5
 obtain⟨⟨pk,pz,pd,ps⟩,⟨t1,t2,t3⟩,⟨c1,c2,c3,c4,c5⟩,⟨l1,l2,l3⟩,⟨e1,e2,e3,e4⟩,⟨f1,f2,f3,f4,f5⟩,⟨r1,r2,r3,r4,r5⟩⟩:=s
 obtain⟨⟨i1,i2,i3⟩,i6⟩:=I
 simp only at *
 subst hk
 refine gI oW Tryz.func10 Tryz.results10 ?_
 (repeat' (first|(simp (disch:=first|exact dqz|fail) only[pgz,simprocAttr,Tryz.f10])|((with_reducible show bU _ _ _ _ _ _);first|refine cU h1 ?_|refine cU h2 ?_|refine cU h3 ?_|refine cU h4 ?_)|(refine tS ?_ ?_<;>intro hc)|(with_reducible refine cK ?_)))
 (refine rT [] ?_;first|rfl|simp only[pgo,simprocAttr]|skip)
theorem ajn(s:Sk)(ok:s.Ok)(k:List Nat)(w:Int)(co:List Nat)(at':Int)(ho:oct k)(hco:oct co)(h:vSk s=0)(hi:bT k w=0)(ha:0≤at'∧at'≤1073741824)(hk:s.p.k=4):Gxx 10 [.agg (skF s),.agg [vs k,vi w],fzb co,vi at'] (.tup [.agg (skF (bg s k w co at').1),vi (bg s k w co at').2.1,vi (bg s k w co at').2.2]):=by
 have h1:=jo s ok
 rw[h] at h1
 have h2:=bz k w
 rw[hi] at h2
 have h3:=zk at'
 rw[decide_eq_true ha] at h3
 have h4:=akP s.tp k w ho ok.to ok.tn
 have e:bg s k w co at'=(⟨s.p,s.tl,s.cm,s.ll,(oz s.tp k w).1,s.fq,s.rk⟩,at',0):=by
  unfold bg
  rw[if_neg (by omega),if_neg (by omega),if_neg (fun h=>h ha)]
  simp [hk]
 have hs:=yx h
 have e0:s.tl=Tl.o:=by have:=congrArg Sk.tl hs;simp only[aN,hk] at this;exact this.symm
 have e1:s.cm=Cm.o:=by have:=congrArg Sk.cm hs;simp only[aN,hk] at this;exact this.symm
 have e2:s.ll=Ll.o:=by have:=congrArg Sk.ll hs;simp only[aN,hk] at this;exact this.symm
 have e4:s.fq=Fq.o:=by have:=congrArg Sk.fq hs;simp only[aN,hk] at this;exact this.symm
 have e5:s.rk=Rk.o:=by have:=congrArg Sk.rk hs;simp only[aN,hk] at this;exact this.symm
 rw[e]
 clear hs
 rw[e0,e1,e2,e4,e5]
 generalize oz s.tp k w=I at *
 refine Good.fzt (vs:=[.agg (skC ⟨s.p,Tl.o,Cm.o,Ll.o,I.1,Fq.o,Rk.o⟩ nls nls (fzv I.1.e) nls nls),vi at',vi 0]) ?_ rfl ⟨iy ⟨s.p,Tl.o,Cm.o,Ll.o,I.1,Fq.o,Rk.o⟩ (aX _) (aX _) (nK _) (aX _) (aX _),aH _,aH _,trivial⟩
 clear ok e e0 e1 e2 e4 e5
 obtain⟨⟨pk,pz,pd,ps⟩,⟨t1,t2,t3⟩,⟨c1,c2,c3,c4,c5⟩,⟨l1,l2,l3⟩,⟨e1,e2,e3,e4⟩,⟨f1,f2,f3,f4,f5⟩,⟨r1,r2,r3,r4,r5⟩⟩:=s
 obtain⟨⟨i1,i2,i3,i4⟩,i6⟩:=I
 simp only at *
 subst hk
 refine gI oW Tryz.func10 Tryz.results10 ?_
 (repeat' (first|(simp (disch:=first|exact dqz|fail) only[pgz,simprocAttr,Tryz.f10])|((with_reducible show bU _ _ _ _ _ _);first|refine cU h1 ?_|refine cU h2 ?_|refine cU h3 ?_|refine cU h4 ?_)|(refine tS ?_ ?_<;>intro hc)|(with_reducible refine cK ?_)))
 (refine rT [] ?_;first|rfl|simp only[pgo,simprocAttr]|skip)
theorem ajo(s:Sk)(ok:s.Ok)(k:List Nat)(w:Int)(co:List Nat)(at':Int)(ho:oct k)(hco:oct co)(h:vSk s=0)(hi:bT k w=0)(ha:0≤at'∧at'≤1073741824)(hk:s.p.k=5):Gxx 10 [.agg (skF s),.agg [vs k,vi w],fzb co,vi at'] (.tup [.agg (skF (bg s k w co at').1),vi (bg s k w co at').2.1,vi (bg s k w co at').2.2]):=by
 have h1:=jo s ok
 rw[h] at h1
 have h2:=bz k w
 rw[hi] at h2
 have h3:=zk at'
 rw[decide_eq_true ha] at h3
 have h4:=akW s.fq k w ho ok.fo ok.fn
 have e:bg s k w co at'=(⟨s.p,s.tl,s.cm,s.ll,s.tp,(lU s.fq k w).1,s.rk⟩,at',0):=by
  unfold bg
  rw[if_neg (by omega),if_neg (by omega),if_neg (fun h=>h ha)]
  simp [hk]
 have hs:=yx h
 have e0:s.tl=Tl.o:=by have:=congrArg Sk.tl hs;simp only[aN,hk] at this;exact this.symm
 have e1:s.cm=Cm.o:=by have:=congrArg Sk.cm hs;simp only[aN,hk] at this;exact this.symm
 have e2:s.ll=Ll.o:=by have:=congrArg Sk.ll hs;simp only[aN,hk] at this;exact this.symm
 have e3:s.tp=Tp.o:=by have:=congrArg Sk.tp hs;simp only[aN,hk] at this;exact this.symm
 have e5:s.rk=Rk.o:=by have:=congrArg Sk.rk hs;simp only[aN,hk] at this;exact this.symm
 rw[e]
 clear hs
 rw[e0,e1,e2,e3,e5]
 generalize lU s.fq k w=I at *
 refine Good.fzt (vs:=[.agg (skC ⟨s.p,Tl.o,Cm.o,Ll.o,Tp.o,I.1,Rk.o⟩ nls nls nls (fzv I.1.e) nls),vi at',vi 0]) ?_ rfl ⟨iy ⟨s.p,Tl.o,Cm.o,Ll.o,Tp.o,I.1,Rk.o⟩ (aX _) (aX _) (aX _) (nK _) (aX _),aH _,aH _,trivial⟩
 clear ok e e0 e1 e2 e3 e5
 obtain⟨⟨pk,pz,pd,ps⟩,⟨t1,t2,t3⟩,⟨c1,c2,c3,c4,c5⟩,⟨l1,l2,l3⟩,⟨e1,e2,e3,e4⟩,⟨f1,f2,f3,f4,f5⟩,⟨r1,r2,r3,r4,r5⟩⟩:=s
 obtain⟨⟨i1,i2,i3,i4,i5⟩,i6⟩:=I
 simp only at *
 subst hk
 refine gI oW Tryz.func10 Tryz.results10 ?_
 (repeat' (first|(simp (disch:=first|exact dqz|fail) only[pgz,simprocAttr,Tryz.f10])|((with_reducible show bU _ _ _ _ _ _);first|refine cU h1 ?_|refine cU h2 ?_|refine cU h3 ?_|refine cU h4 ?_)|(refine tS ?_ ?_<;>intro hc)|(with_reducible refine cK ?_)))
 (refine rT [] ?_;first|rfl|simp only[pgo,simprocAttr]|skip)
theorem ajp(s:Sk)(ok:s.Ok)(k:List Nat)(w:Int)(co:List Nat)(at':Int)(ho:oct k)(hco:oct co)(h:vSk s=0)(hi:bT k w=0)(ha:0≤at'∧at'≤1073741824)(hk:s.p.k=6):Gxx 10 [.agg (skF s),.agg [vs k,vi w],fzb co,vi at'] (.tup [.agg (skF (bg s k w co at').1),vi (bg s k w co at').2.1,vi (bg s k w co at').2.2]):=by
 have h1:=jo s ok
 rw[h] at h1
 have h2:=bz k w
 rw[hi] at h2
 have h3:=zk at'
 rw[decide_eq_true ha] at h3
 have h4:=ajC s.rk k w co at' ho hco ok.ro ok.rn ok.rm
 have e:bg s k w co at'=(⟨s.p,s.tl,s.cm,s.ll,s.tp,s.fq,(yl s.rk k w co at').1⟩,(yl s.rk k w co at').2.1,0):=by
  unfold bg
  rw[if_neg (by omega),if_neg (by omega),if_neg (fun h=>h ha)]
  simp [hk]
 have hs:=yx h
 have e0:s.tl=Tl.o:=by have:=congrArg Sk.tl hs;simp only[aN,hk] at this;exact this.symm
 have e1:s.cm=Cm.o:=by have:=congrArg Sk.cm hs;simp only[aN,hk] at this;exact this.symm
 have e2:s.ll=Ll.o:=by have:=congrArg Sk.ll hs;simp only[aN,hk] at this;exact this.symm
 have e3:s.tp=Tp.o:=by have:=congrArg Sk.tp hs;simp only[aN,hk] at this;exact this.symm
 have e4:s.fq=Fq.o:=by have:=congrArg Sk.fq hs;simp only[aN,hk] at this;exact this.symm
 rw[e]
 clear hs
 rw[e0,e1,e2,e3,e4]
 generalize yl s.rk k w co at'=I at *
 refine Good.fzt (vs:=[.agg (skC ⟨s.p,Tl.o,Cm.o,Ll.o,Tp.o,Fq.o,I.1⟩ nls nls nls nls (fzl I.1.v)),vi I.2.1,vi 0]) ?_ rfl ⟨iy ⟨s.p,Tl.o,Cm.o,Ll.o,Tp.o,Fq.o,I.1⟩ (aX _) (aX _) (aX _) (aX _) (nK _),aH _,aH _,trivial⟩
 clear ok e e0 e1 e2 e3 e4
 obtain⟨⟨pk,pz,pd,ps⟩,⟨t1,t2,t3⟩,⟨c1,c2,c3,c4,c5⟩,⟨l1,l2,l3⟩,⟨e1,e2,e3,e4⟩,⟨f1,f2,f3,f4,f5⟩,⟨r1,r2,r3,r4,r5⟩⟩:=s
 obtain⟨⟨i1,i2,i3,i4,i5⟩,i6,i7⟩:=I
 simp only at *
 subst hk
 refine gI oW Tryz.func10 Tryz.results10 ?_
 (repeat' (first|(simp (disch:=first|exact dqz|fail) only[pgz,simprocAttr,Tryz.f10])|((with_reducible show bU _ _ _ _ _ _);first|refine cU h1 ?_|refine cU h2 ?_|refine cU h3 ?_|refine cU h4 ?_)|(refine tS ?_ ?_<;>intro hc)|(with_reducible refine cK ?_)))
 (refine rT [] ?_;first|rfl|simp only[pgo,simprocAttr]|skip)
theorem ajN(s:Sk)(ok:s.Ok)(k:List Nat)(w:Int)(co:List Nat)(at':Int)(ho:oct k)(hco:oct co):Gxx 10 [.agg (skF s),.agg [vs k,vi w],fzb co,vi at'] (.tup [.agg (skF (bg s k w co at').1),vi (bg s k w co at').2.1,vi (bg s k w co at').2.2]):=by
 have h1:=jo s ok
 have h2:=bz k w
 have h3:=zk at'
 by_cases q1:vSk s=0
 ·by_cases q2:bT k w=0
  ·by_cases q3:0≤at'∧at'≤1073741824
   ·have q4:vp s.p.k s.p.z s.p.d s.p.s=0:=by
     unfold vSk at q1
     split at q1
     ·rename_i h;exact absurd q1 h
     ·rename_i h;exact Classical.byContradiction h
    rcases Jd q4 with hk|hk|hk|hk|hk|hk
    ·exact ajk s ok k w co at' ho hco q1 q2 q3 hk
    ·exact ajl s ok k w co at' ho hco q1 q2 q3 hk
    ·exact ajm s ok k w co at' ho hco q1 q2 q3 hk
    ·exact ajn s ok k w co at' ho hco q1 q2 q3 hk
    ·exact ajo s ok k w co at' ho hco q1 q2 q3 hk
    ·exact ajp s ok k w co at' ho hco q1 q2 q3 hk
   ·have e:bg s k w co at'=(Sk.o,0,5):=by unfold bg;rw[if_neg (by omega),if_neg (by omega),if_pos q3]
    rw[e]
    rw[decide_eq_false q3] at h3
    rw[q1] at h1
    rw[q2] at h2
    refine Good.fzt (vs:=[.agg (skC Sk.o nls nls nls nls nls),vi 0,vi 5]) ?_ rfl ⟨uX,aH _,aH _,trivial⟩
    refine gI oW Tryz.func10 Tryz.results10 ?_
    (repeat' (first|(simp (disch:=first|exact dqz|fail) only[pgz,simprocAttr,Tryz.f10])|((with_reducible show bU _ _ _ _ _ _);first|refine cU h1 ?_|refine cU h2 ?_|refine cU h3 ?_)|(refine tS ?_ ?_<;>intro hc)|(with_reducible refine cK ?_)))
    (refine rT [] ?_;first|rfl|simp only[pgo,simprocAttr]|skip)
  ·have e:bg s k w co at'=(Sk.o,0,bT k w):=by unfold bg;rw[if_neg (by omega),if_pos q2]
   rw[e]
   rw[q1] at h1
   refine Good.fzt (vs:=[.agg (skC Sk.o nls nls nls nls nls),vi 0,vi (bT k w)]) ?_ rfl ⟨uX,aH _,aH _,trivial⟩
   refine gI oW Tryz.func10 Tryz.results10 ?_
   (repeat' (first|(simp (disch:=first|exact dqz|fail) only[pgz,simprocAttr,Tryz.f10])|((with_reducible show bU _ _ _ _ _ _);first|refine cU h1 ?_|refine cU h2 ?_)|(refine tS ?_ ?_<;>intro hc)|(with_reducible refine cK ?_)))
   (refine rT [] ?_;first|rfl|simp only[pgo,simprocAttr]|skip)
 ·have e:bg s k w co at'=(Sk.o,0,vSk s):=by unfold bg;rw[if_pos q1]
  rw[e]
  refine Good.fzt (vs:=[.agg (skC Sk.o nls nls nls nls nls),vi 0,vi (vSk s)]) ?_ rfl ⟨uX,aH _,aH _,trivial⟩
  refine gI oW Tryz.func10 Tryz.results10 ?_
  (repeat' (first|(simp (disch:=first|exact dqz|fail) only[pgz,simprocAttr,Tryz.f10])|((with_reducible show bU _ _ _ _ _ _);refine cU h1 ?_)|(refine tS ?_ ?_<;>intro hc)|(with_reducible refine cK ?_)))
  (refine rT [] ?_;first|rfl|simp only[pgo,simprocAttr]|skip)
end Go.Proofs.YtiohdbjggmmjcaaGreat
