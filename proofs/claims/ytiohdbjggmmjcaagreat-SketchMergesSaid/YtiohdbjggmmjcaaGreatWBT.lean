/-
  Texts of this claim, merged; own names are short.
-/
import Derived.Test.YtiohdbjggmmjcaaGreatWBS
set_option linter.unusedVariables false
set_option linter.unusedSimpArgs false
set_option linter.unusedSectionVars false
set_option linter.defProp false
set_option maxRecDepth 100000
set_option maxHeartbeats 8000000
namespace Go.Proofs.YtiohdbjggmmjcaaGreat
open Go Go.Pg
theorem GN(l m:List Int)(n p:Int)(hl:l.length≤9223372036854775807)(hm:m.length≤9223372036854775807):Pg.Good Tryz.prog 4 [fzi l,fzi m,vi n,vi p] (vb true):=by
 have h1:=TP l hl
 have l1:=NQ l
 have h2:=acE (oL l) n (by omega)
 have ok:=afl (NP l) (by omega) n
 have a0:=acB l 0 hl (by omega)
 have b0:=Gx l 0
 have hp:=Y7 (atN l 0) (by omega)
 have h5:=aeM (wW (atN l 0)) (Y6 _) (Gy _) m hm
 have ok5:=aiG (wW (atN l 0)) (Y6 _) (Gy _) m
 have h6:=TP m hm
 have l6:=NQ m
 obtain⟨r,hr⟩:∃r,n.fdiv (2^min 10 IntKind.i64.bits)=r:=⟨_,rfl⟩
 have h7:=acE (oL m) r (by omega)
 have ok7:=afl (NP m) (by omega) r
 generalize spS (oL l) n=A at *
 generalize oL l=X at *
 generalize spS (oL m) r=B7 at *
 generalize oL m=Y at *
 generalize acO (wW (atN l 0)) m=B5 at *
 generalize wW (atN l 0)=pm at *
 generalize atN l 0=n0 at *
 clear l1 l6
 obtain⟨c,hc⟩:∃c,bits .and .i64 (n.fdiv (2^min 4 IntKind.i64.bits)) 65535=c:=⟨_,rfl⟩
 have h4:=OL c
 obtain⟨v,hv⟩:∃v,bits .and .i64 (n.fdiv (2^min 8 IntKind.i64.bits)) 3=v:=⟨_,rfl⟩
 obtain⟨y,hy⟩:∃y,bits .and .i64 p 7=y:=⟨_,rfl⟩
 obtain⟨x,hx⟩:∃x,bits .and .i64 (p.fdiv (2^min 3 IntKind.i64.bits)) 63=x:=⟨_,rfl⟩
 have hco:=(D7 c).1
 generalize lD c=co at *
 obtain⟨qk,qz,qd,qs⟩:=pm
 by_cases q1:v=0
 ·by_cases q2:y=7
  ·have d1:(v=0)=True:=eq_true q1
   have d2:(y=7)=True:=eq_true q2
   have k1:=Dv A B7 ok ok7 co p hco
   have k2:=CV A B7 ok ok7 co p hco
   have okM:=GM A B7 ok ok7 co p
   have k3:=jM _ _ okM okM
   rw[qG] at k3
   clear okM ok ok5 ok7
   generalize gX A B7 co p=R at *
   obtain⟨R1,R2,R3⟩:=R
   simp only at k1 k2 k3
   obtain⟨⟨pk,pz,pd,ps⟩,⟨t1,t2,t3⟩,⟨c1,c2,c3,c4,c5⟩,⟨l1,l2,l3⟩,⟨e1,e2,e3,e4⟩,⟨f1,f2,f3,f4,f5⟩,⟨q1,q2,q3,q4,q5⟩⟩:=A
   obtain⟨⟨pk',pz',pd',ps'⟩,⟨t1',t2',t3'⟩,⟨c1',c2',c3',c4',c5'⟩,⟨l1',l2',l3'⟩,⟨e1',e2',e3',e4'⟩,⟨f1',f2',f3',f4',f5'⟩,⟨q1',q2',q3',q4',q5'⟩⟩:=R1
   obtain⟨⟨pk5,pz5,pd5,ps5⟩,⟨t15,t25,t35⟩,⟨c15,c25,c35,c45,c55⟩,⟨l15,l25,l35⟩,⟨e15,e25,e35,e45⟩,⟨f15,f25,f35,f45,f55⟩,⟨q15,q25,q35,q45,q55⟩⟩:=B5
   obtain⟨⟨pk7,pz7,pd7,ps7⟩,⟨t17,t27,t37⟩,⟨c17,c27,c37,c47,c57⟩,⟨l17,l27,l37⟩,⟨e17,e27,e37,e47⟩,⟨f17,f27,f37,f47,f57⟩,⟨q17,q27,q37,q47,q57⟩⟩:=B7
   (try simp only at *)
   refine gI oW Tryz.func4 Tryz.results4 ?_
   (repeat' (first|(simp (disch:=first|exact dqz|fail) only[pgz,simprocAttr,hc,hv,hy,hx,hr,d1,d2,beq_self_eq_true])|((with_reducible show bU _ _ _ _ _ _);first|refine cU h1 ?_|refine cU h2 ?_|refine cU a0 ?_|refine cU hp ?_|refine cU h5 ?_|refine cU h6 ?_|refine cU h7 ?_|refine cU h4 ?_|refine cU k1 ?_|refine cU k2 ?_|refine cU k3 ?_|refine cU Aj ?_)|(refine tS ?_ ?_<;>intro hc)|(with_reducible refine cK ?_)))
   (refine rT [] ?_;first|rfl|simp only[pgo,simprocAttr]|skip)
  ·have d1:(v=0)=True:=eq_true q1
   have d2:(y=7)=False:=eq_false q2
   have k1:=Dv A B7 ok ok7 co x hco
   have k2:=CV A B7 ok ok7 co x hco
   have okM:=GM A B7 ok ok7 co x
   have k3:=jM _ _ okM okM
   rw[qG] at k3
   clear okM ok ok5 ok7
   generalize gX A B7 co x=R at *
   obtain⟨R1,R2,R3⟩:=R
   simp only at k1 k2 k3
   obtain⟨⟨pk,pz,pd,ps⟩,⟨t1,t2,t3⟩,⟨c1,c2,c3,c4,c5⟩,⟨l1,l2,l3⟩,⟨e1,e2,e3,e4⟩,⟨f1,f2,f3,f4,f5⟩,⟨q1,q2,q3,q4,q5⟩⟩:=A
   obtain⟨⟨pk',pz',pd',ps'⟩,⟨t1',t2',t3'⟩,⟨c1',c2',c3',c4',c5'⟩,⟨l1',l2',l3'⟩,⟨e1',e2',e3',e4'⟩,⟨f1',f2',f3',f4',f5'⟩,⟨q1',q2',q3',q4',q5'⟩⟩:=R1
   obtain⟨⟨pk5,pz5,pd5,ps5⟩,⟨t15,t25,t35⟩,⟨c15,c25,c35,c45,c55⟩,⟨l15,l25,l35⟩,⟨e15,e25,e35,e45⟩,⟨f15,f25,f35,f45,f55⟩,⟨q15,q25,q35,q45,q55⟩⟩:=B5
   obtain⟨⟨pk7,pz7,pd7,ps7⟩,⟨t17,t27,t37⟩,⟨c17,c27,c37,c47,c57⟩,⟨l17,l27,l37⟩,⟨e17,e27,e37,e47⟩,⟨f17,f27,f37,f47,f57⟩,⟨q17,q27,q37,q47,q57⟩⟩:=B7
   (try simp only at *)
   refine gI oW Tryz.func4 Tryz.results4 ?_
   (repeat' (first|(simp (disch:=first|exact dqz|fail) only[pgz,simprocAttr,hc,hv,hy,hx,hr,d1,d2,beq_self_eq_true])|((with_reducible show bU _ _ _ _ _ _);first|refine cU h1 ?_|refine cU h2 ?_|refine cU a0 ?_|refine cU hp ?_|refine cU h5 ?_|refine cU h6 ?_|refine cU h7 ?_|refine cU h4 ?_|refine cU k1 ?_|refine cU k2 ?_|refine cU k3 ?_|refine cU Aj ?_)|(refine tS ?_ ?_<;>intro hc)|(with_reducible refine cK ?_)))
   (refine rT [] ?_;first|rfl|simp only[pgo,simprocAttr]|skip)
 ·by_cases q2:y=7
  ·have d1:(v=0)=False:=eq_false q1
   have d2:(y=7)=True:=eq_true q2
   have k1:=Dv A B5 ok ok5 co p hco
   have k2:=CV A B5 ok ok5 co p hco
   have okM:=GM A B5 ok ok5 co p
   have k3:=jM _ _ okM okM
   rw[qG] at k3
   clear okM ok ok5 ok7
   generalize gX A B5 co p=R at *
   obtain⟨R1,R2,R3⟩:=R
   simp only at k1 k2 k3
   obtain⟨⟨pk,pz,pd,ps⟩,⟨t1,t2,t3⟩,⟨c1,c2,c3,c4,c5⟩,⟨l1,l2,l3⟩,⟨e1,e2,e3,e4⟩,⟨f1,f2,f3,f4,f5⟩,⟨q1,q2,q3,q4,q5⟩⟩:=A
   obtain⟨⟨pk',pz',pd',ps'⟩,⟨t1',t2',t3'⟩,⟨c1',c2',c3',c4',c5'⟩,⟨l1',l2',l3'⟩,⟨e1',e2',e3',e4'⟩,⟨f1',f2',f3',f4',f5'⟩,⟨q1',q2',q3',q4',q5'⟩⟩:=R1
   obtain⟨⟨pk5,pz5,pd5,ps5⟩,⟨t15,t25,t35⟩,⟨c15,c25,c35,c45,c55⟩,⟨l15,l25,l35⟩,⟨e15,e25,e35,e45⟩,⟨f15,f25,f35,f45,f55⟩,⟨q15,q25,q35,q45,q55⟩⟩:=B5
   (try simp only at *)
   refine gI oW Tryz.func4 Tryz.results4 ?_
   (repeat' (first|(simp (disch:=first|exact dqz|fail) only[pgz,simprocAttr,hc,hv,hy,hx,hr,d1,d2,beq_self_eq_true])|((with_reducible show bU _ _ _ _ _ _);first|refine cU h1 ?_|refine cU h2 ?_|refine cU a0 ?_|refine cU hp ?_|refine cU h5 ?_|refine cU h6 ?_|refine cU h7 ?_|refine cU h4 ?_|refine cU k1 ?_|refine cU k2 ?_|refine cU k3 ?_|refine cU Aj ?_)|(refine tS ?_ ?_<;>intro hc)|(with_reducible refine cK ?_)))
   (refine rT [] ?_;first|rfl|simp only[pgo,simprocAttr]|skip)
  ·have d1:(v=0)=False:=eq_false q1
   have d2:(y=7)=False:=eq_false q2
   have k1:=Dv A B5 ok ok5 co x hco
   have k2:=CV A B5 ok ok5 co x hco
   have okM:=GM A B5 ok ok5 co x
   have k3:=jM _ _ okM okM
   rw[qG] at k3
   clear okM ok ok5 ok7
   generalize gX A B5 co x=R at *
   obtain⟨R1,R2,R3⟩:=R
   simp only at k1 k2 k3
   obtain⟨⟨pk,pz,pd,ps⟩,⟨t1,t2,t3⟩,⟨c1,c2,c3,c4,c5⟩,⟨l1,l2,l3⟩,⟨e1,e2,e3,e4⟩,⟨f1,f2,f3,f4,f5⟩,⟨q1,q2,q3,q4,q5⟩⟩:=A
   obtain⟨⟨pk',pz',pd',ps'⟩,⟨t1',t2',t3'⟩,⟨c1',c2',c3',c4',c5'⟩,⟨l1',l2',l3'⟩,⟨e1',e2',e3',e4'⟩,⟨f1',f2',f3',f4',f5'⟩,⟨q1',q2',q3',q4',q5'⟩⟩:=R1
   obtain⟨⟨pk5,pz5,pd5,ps5⟩,⟨t15,t25,t35⟩,⟨c15,c25,c35,c45,c55⟩,⟨l15,l25,l35⟩,⟨e15,e25,e35,e45⟩,⟨f15,f25,f35,f45,f55⟩,⟨q15,q25,q35,q45,q55⟩⟩:=B5
   (try simp only at *)
   refine gI oW Tryz.func4 Tryz.results4 ?_
   (repeat' (first|(simp (disch:=first|exact dqz|fail) only[pgz,simprocAttr,hc,hv,hy,hx,hr,d1,d2,beq_self_eq_true])|((with_reducible show bU _ _ _ _ _ _);first|refine cU h1 ?_|refine cU h2 ?_|refine cU a0 ?_|refine cU hp ?_|refine cU h5 ?_|refine cU h6 ?_|refine cU h7 ?_|refine cU h4 ?_|refine cU k1 ?_|refine cU k2 ?_|refine cU k3 ?_|refine cU Aj ?_)|(refine tS ?_ ?_<;>intro hc)|(with_reducible refine cK ?_)))
   (refine rT [] ?_;first|rfl|simp only[pgo,simprocAttr]|skip)
end Go.Proofs.YtiohdbjggmmjcaaGreat
