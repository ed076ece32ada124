/-
  Merged texts.
-/
import Derived.Test.YtopbmdnbdpjheaaGreatKAA
import Derived.Test.YtopbmdnbdpjheaaGreatWAK
import Derived.Test.YtopbmdnbdpjheaaGreatWAL
import Derived.Test.YtopbmdnbdpjheaaGreatWAF
set_option linter.all false
set_option linter.unusedVariables false
set_option linter.unusedSimpArgs false
set_option linter.unusedSectionVars false
set_option linter.defProp false
set_option maxRecDepth 100000
set_option maxHeartbeats 8000000
namespace Go.Proofs.YtopbmdnbdpjheaaGreat
open Go Go.Pg
def oV{α:Type}(F:α->List V)(z:α):Option α->V
 |some x=>.tup [.agg (F x),vi 0]
 |none=>.tup [.agg (F z),vi 2]
def AQ{α:Type}{F:α->List V}{z:α}{o:Option α}{x:α}(h:o=some x):oV F z o = .tup [.agg (F x),vi 0]:=by rw[h];rfl
def vg{α:Type}{F:α->List V}{z:α}{o:Option α}(h:o=none):oV F z o = .tup [.agg (F z),vi 2]:=by rw[h];rfl
def tr(l:List Nat):Nat->List Nat
 |0=>l
 |i+1=>(tr l i).drop (ak (tr l i)).2.1
def DN{l:List Nat}(ho:oct l):∀i,oct (tr l i)
 |0=>ho
 |i+1=>eG (DN ho i) _
def LC(l:List Nat):∀i,(tr l i).length<=l.length
 |0=>az _
 |i+1=>by have:=LC l i;show((tr l i).drop _).length<=_;rw[eH];omega
def ED(l:List Nat)(x:Tl):Option Tl:=if vTl x=0/\gX x=l then some x else none
def uK(l:List Nat):Option Tl :=
 if(ak (tr l 0)).2.2=0/\(ak (tr l 1)).2.2=0/\(ak (tr l 2)).2.2=0 then ED l ⟨(ak (tr l 0)).1,(ak (tr l 1)).1,decide (((ak (tr l 2)).1:Int)=1)⟩else none
def aoa(t:Tl)(h:vTl t≠0):Gxx 156 [.agg (tlF t)] (.tup [.c (.slice none 0 0),vi (vTl t)]):=by have h1:=PN t;generalize vTl t=v at *;refine gI oW ?_;exact wR ae h1 ay
def II(l:List Nat):Nat->List V
 |0=>[vi 0,vi 0,vi 0]
 |1=>[vi ((ak (tr l 0)).1:Nat),vi 0,vi 0]
 |2=>[vi ((ak (tr l 0)).1:Nat),vi ((ak (tr l 1)).1:Nat),vi 0]
 |_=>[vi ((ak (tr l 0)).1:Nat),vi ((ak (tr l 1)).1:Nat),vi ((ak (tr l 2)).1:Nat)]
def afq(t:Tl):oct (gX t):=bT (bT (dI _) (dI _)) (by cases t.b<;>exact yT Om)
def anX(l:List Nat)(ho:oct l)(hl:l.length<=2147483648):Gxx 73 [fzb l] (oV tlF Tl.o (uK l)):=by
 have c:=fun(l:List Nat) s d K=>x8 (P:=Tryz.prog) s d 60 9 .fz l K Za Za Za Za
 have k:=oP (tr l 0) (DN ho 0) (iZ (LC l 0) hl);have g:=oP (tr l 1) (DN ho 1) (iZ (LC l 1) hl);have k2:=oP (tr l 2) (DN ho 2) (iZ (LC l 2) hl);obtain⟨m0,y0,L⟩:=lS (tr l 0) (DN ho 0);obtain⟨G,J,M⟩:=lS (tr l 1) (DN ho 1);obtain⟨H,y2,N⟩:=lS (tr l 2) (DN ho 2);unfold lU at k g k2;have x:(bv (tr l 0)).drop (ak (tr l 0)).2.1=bv (tr l 1):=by rw[iR];rfl
 have x1:(bv (tr l 1)).drop (ak (tr l 1)).2.1=bv (tr l 2):=by rw[iR];rfl
 have x2:(bv (tr l 2)).drop (ak (tr l 2)).2.1=bv (tr l 3):=by rw[iR];rfl
 have b0:=aA (tr l 0);have r:=aA (tr l 1);have t:=aA (tr l 2);have j:¬((ak (tr l 0)).2.2=0/\(ak (tr l 1)).2.2=0/\(ak (tr l 2)).2.2=0)->oV tlF Tl.o (uK l) = .tup [.agg [vi 0,vi 0,vb false],vi 2]:=fun h=>vg (ag h)
 have m:((ak (tr l 0)).2.2=0/\(ak (tr l 1)).2.2=0/\(ak (tr l 2)).2.2=0)->uK l=ED l ⟨(ak (tr l 0)).1,(ak (tr l 1)).1,decide (((ak (tr l 2)).1:Int)=1)⟩:=fun h=>ah h
 have u:II l 0=[vi 0,vi 0,vi 0]:=rfl;have c1:II l 1=[vi ((ak (tr l 0)).1:Nat),vi 0,vi 0]:=rfl;have y:II l 2=[vi ((ak (tr l 0)).1:Nat),vi ((ak (tr l 1)).1:Nat),vi 0]:=rfl;have A:II l 3=[vi ((ak (tr l 0)).1:Nat),vi ((ak (tr l 1)).1:Nat),vi ((ak (tr l 2)).1:Nat)]:=rfl;have I:fzb l=fzb (tr l 0):=rfl;refine gI oW ?_;refine wT ae ?_;refine aJ (fun i:Nat=>mkA [(0,fzb l),(2,.ref 0 0),(4,.ref 1 0),(5,fzb (tr l i)),(14,vi i)] [(0,(43,[vi 0,vi 0,vb false])),(1,(233,II l i))] 2 (fun _=>.top)) (fun i=>i<=3/\(0<i->(ak (tr l 0)).2.2=0)/\(1<i->(ak (tr l 1)).2.2=0)/\(2<i->(ak (tr l 2)).2.2=0)) (fun i=>3-i) 0 [] [0,1] ?_ ⟨ax _,by omega,by omega,by omega⟩ ?_
 .refine kN ?_;all_goals first|exact eF Om|(have e:tr l 0=l:=rfl;rw[e];simp only[jS])|skip
 .rintro i ⟨hi,q,C,F⟩;have p:i=0\/i=1\/i=2\/i=3:=Om;rcases p with rfl|rfl|rfl|rfl
  .rw[u];by_cases he:(ak (tr l 0)).2.2=0
   .rw[he]at k;refine wS (Ac @pgv @b0 x) k ?_;refine dn 1 [] [0,1] ⟨by omega,fun _=>he,by omega,by omega⟩ (by show(3:Nat)-1<3-0;omega) ?_;exact kY
   .rw[j (fun h=>he h.1)];exact wR (Ac @pgv @b0 x) k ay
  .rw[c1];by_cases he:(ak (tr l 1)).2.2=0
   .rw[he]at g;refine wS (Ac @pgv r @x1) g ?_;refine dn 2 [] [0,1] ⟨by omega,fun _=>q Om,fun _=>he,by omega⟩ (by show(3:Nat)-2<3-1;omega) ?_;exact kY
   .rw[j (fun h=>he h.2.1)];exact wR (Ac @pgv r @x1) g ay
  .rw[y];by_cases he:(ak (tr l 2)).2.2=0
   .rw[he]at k2;refine wS (Ac @pgv t @x2) k2 ?_;refine dn 3 [] [0,1] ⟨by omega,fun _=>q Om,fun _=>C Om,fun _=>he⟩ (by show(3:Nat)-3<3-2;omega) ?_;exact kY
   .rw[j (fun h=>he h.2.2)];exact wR (Ac @pgv t @x2) k2 ay
  .have m:=m ⟨q Om,C Om,F Om⟩;rw[m];rw[A];clear j m k g k2 x x1 x2 u c1 y A;generalize(ak (tr l 0)).1=n0 at *;generalize(ak (tr l 1)).1=n at *;generalize(ak (tr l 2)).1=a at *;by_cases hv:vTl ⟨n0,n,decide ((a:Int)=1)⟩=0
   .have f:=XF ⟨n0,n,decide ((a:Int)=1)⟩ hv;have hd:=vF (afq ⟨n0,n,decide ((a:Int)=1)⟩) ho;by_cases he:gX ⟨n0,n,decide ((a:Int)=1)⟩=l
    .have b:oV tlF Tl.o (ED l ⟨n0,n,decide ((a:Int)=1)⟩) = .tup [.agg [vi (n0:Nat),vi (n:Nat),vb (decide ((a:Int)=1))],vi 0]:=AQ (ah ⟨hv,he⟩);rw[b];rw[he]at f;clear hd b he hv;(repeat' first|refine wQ c ?_|refine cU f ?_|refine tS ?_ ?_<;>intro p|fail);all_goals exact rE []
    .have b:oV tlF Tl.o (ED l ⟨n0,n,decide ((a:Int)=1)⟩) = .tup [.agg [vi 0,vi 0,vb false],vi 2]:=vg (ag fun h=>he h.2);rw[b];rw[dK he]at hd;clear b he hv;generalize gX ⟨n0,n,decide ((a:Int)=1)⟩=E at *;(repeat' first|refine wQ (aI c @hd) ?_|refine cU f ?_|refine tS ?_ ?_<;>intro p|fail);all_goals exact rE []
   .have f:=aoa ⟨n0,n,decide ((a:Int)=1)⟩ hv;have b:oV tlF Tl.o (ED l ⟨n0,n,decide ((a:Int)=1)⟩) = .tup [.agg [vi 0,vi 0,vb false],vi 2]:=vg (ag fun h=>hv h.1);rw[b];clear b;generalize vTl ⟨n0,n,decide ((a:Int)=1)⟩=v at *;(repeat' first|refine wQ c ?_|refine cU f ?_|refine tS ?_ ?_<;>intro p|fail);all_goals exact rE []
def oOw{α:Type}(F:α->List V)(zs:List V):Option α->V
 |some x=>.tup [.agg (F x),vi 0]
 |none=>.tup [.agg zs,vi 2]
def xA{α:Type}{F:α->List V}{zs:List V}{o:Option α}{x:α}(h:o=some x):oOw F zs o = .tup [.agg (F x),vi 0]:=by rw[h];rfl
def jc{α:Type}{F:α->List V}{zs:List V}{o:Option α}(h:o=none):oOw F zs o = .tup [.agg zs,vi 2]:=by rw[h];rfl
def wZ{α:Type}{F F':α->List V}{z:α}{zs args:List V}{f:FuncId}{o:Option α}(h:Gxx f args (oOw F' zs o))(h1:∀x,(V.tup [.agg (F' x),vi 0]).noRef=true)(h2:∀x,wkA (V.mapL (fun _=>.fz) id [.agg (F' x),vi 0]) [.agg (F x),vi 0])
  (h3:(V.tup [.agg zs,vi 2]).noRef=true) (h4:wkA (V.mapL (fun _=>.fz) id [.agg zs,vi 2]) [.agg (F z),vi 2]):Gxx f args (oV F z o):=by
 cases o with
 |none=>exact Good.fzt h h3 h4
 |some x=>exact Good.fzt h (h1 x) (h2 x)
def sS(l:List Nat):Nat->List Nat×Bool
 |0=>(l,false)
 |i+1=>(nuL (sS l i).1 (sS l i).2,nuB (sS l i).1 (sS l i).2)
def sx(l:List Nat)(i:Nat):Nat:=nuX (sS l i).1 (sS l i).2
theorem vG{l:List Nat}(ho:oct l):∀i,oct (sS l i).1
 |0=>ho
 |i+1=>E8 _ (vG ho i)
def yZ(l:List Nat):∀i,(sS l i).1.length<=l.length
 |0=>az _
 |i+1=>iZ (E5 _ _) (yZ l i)
theorem o6{l:List Nat}(ho:oct l)(i:Nat):sx l i<=4611686018427387904:=Kt _ _ (vG ho i)
def Kv{l:List En}(h:octE l)(k:List Nat)(c a:Int)(hk:oct k):octE (l++[(k,c,a)]):=by
 intro x hx;rcases iG.1 hx with hx|hx
 .exact h x hx
 .grind
def aam(e:Nat->V)(bx:BX)(n:Nat)(h:Nat->V)(b:Nat)(l:List Nat)(i:Nat)(ho:oct l)(hl:l.length<=2147483648)(hb:bx b=some (236,[fzb (sS l i).1,vb (sS l i).2]))(a:b<n) :
  Gxz 157 [.ref b 0] ⟨e,bx,n,h⟩ ⟨e,upd bx b (some (236,[fzb (sS l (i+1)).1,vb (sS l (i+1)).2])),n,h⟩ (vi (sx l i:Nat)) :=
 Q9 e bx n h b (sS l i).1 (sS l i).2 (vG ho i) (iZ (yZ l i) hl) hb a
def LP(e:Nat->V)(bx:BX)(n:Nat)(h:Nat->V)(b:Nat)(l:List Nat)(i:Nat)(ho:oct l)(hl:l.length<=2147483648)(hb:bx b=some (244,[fzb (sS l i).1,vb (sS l i).2]))(a:b<n) :
  Gxz 164 [.ref b 0] ⟨e,bx,n,h⟩ ⟨e,upd bx b (some (244,[fzb (sS l (i+1)).1,vb (sS l (i+1)).2])),n,h⟩ (vi (sx l i:Nat)) :=
 Rf e bx n h b (sS l i).1 (sS l i).2 (vG ho i) (iZ (yZ l i) hl) hb a
def IP(e:Nat->V)(bx:BX)(n:Nat)(h:Nat->V)(b:Nat)(l:List Nat)(i:Nat)(ho:oct l)(hl:l.length<=2147483648)(hb:bx b=some (248,[fzb (sS l i).1,vb (sS l i).2]))(a:b<n) :
  Gxz 167 [.ref b 0] ⟨e,bx,n,h⟩ ⟨e,upd bx b (some (248,[fzb (sS l (i+1)).1,vb (sS l (i+1)).2])),n,h⟩ (vi (sx l i:Nat)) :=
 aak e bx n h b (sS l i).1 (sS l i).2 (vG ho i) (iZ (yZ l i) hl) hb a
def IQ(e:Nat->V)(bx:BX)(n:Nat)(h:Nat->V)(b:Nat)(l:List Nat)(i:Nat)(ho:oct l)(hl:l.length<=2147483648)(hb:bx b=some (251,[fzb (sS l i).1,vb (sS l i).2]))(a:b<n) :
  Gxz 170 [.ref b 0] ⟨e,bx,n,h⟩ ⟨e,upd bx b (some (251,[fzb (sS l (i+1)).1,vb (sS l (i+1)).2])),n,h⟩ (vi (sx l i:Nat)) :=
 aal e bx n h b (sS l i).1 (sS l i).2 (vG ho i) (iZ (yZ l i) hl) hb a
def an2(c:Cm)(h:vCm c≠0):Gxx 160 [.agg (cmF c)] (.tup [.c (.slice none 0 0),vi (vCm c)]):=by have h1:=PI c;generalize vCm c=v at *;refine gI oW ?_;exact wR ae h1 ay
def xG:Nat->List Int->List Nat->Bool->List Int×List Nat×Bool
 |0,c,l,b=>(c,l,b)
 |k+1,c,l,b=>xG k (c++[((nuX l b:Nat):Int)]) (nuL l b) (nuB l b)
def aqu{k:Nat}{c:List Int}{l:List Nat}{b:Bool}(h:k≠0):xG k c l b=xG (k-1) (c++[((nuX l b:Nat):Int)]) (nuL l b) (nuB l b):=by
 cases k with
 |zero=>exact absurd rfl h
 |succ k=>rfl
def fCm(l:List Nat)(x:Cm)(b:Bool):Option Cm:=if b=true then none else if vCm x=0/\jD x=l then some x else none
def eCm(l:List Nat)(d z s:Nat)(q:List Int×List Nat×Bool):Option Cm:=fCm l ⟨d,z,s,q.1,decide ((nuX q.2.1 q.2.2:Int)=1)⟩ (nuB q.2.1 q.2.2)
def dCm(l:List Nat)(d z s:Nat)(a:List Nat)(b:Bool):Option Cm:=if b=true\/¬(1<=(d:Int)/\(d:Int)<=8/\1<=(z:Int)/\(z:Int)<=64)then none else eCm l d z s (xG (d*z) [] a b)
def wC(l:List Nat):Option Cm:=dCm l (sx l 0) (sx l 1) (woX (sS l 2).1 (sS l 2).2) (woL (sS l 2).1 (sS l 2).2) (woB (sS l 2).1 (sS l 2).2)
def afl(t:Cm):oct (jD t):=by unfold jD;exact bT (bT (bT (bT (dI _) (dI _)) (Q7 _)) (wW _ _ fun _ _=>dI _)) (by cases t.b<;>exact yT Om)
theorem OL(c:List Int)(n:Int):iv c++[vi n]=iv (c++[n]):=OJ c n
def anT(a:List Nat)(ho:oct a)(hl:a.length<=2147483648):Gxx 74 [fzb a] (oV cmF Cm.o (wC a)):=by
 refine wZ (F':=cmF) (zs:=[vi 0,vi 0,vu 0,.c (.slice none 0 0),vb false]) ?_ (fun _=>rfl) (fun _=>⟨aC _,aC _,trivial⟩) rfl ⟨.inr ⟨_,_,rfl,rfl,⟨.inl rfl,.inl rfl,.inl rfl,jB _ _,.inl rfl,trivial⟩⟩,aC _,trivial⟩;have j:=fun(l:List Nat) s d K=>x8 (P:=Tryz.prog) s d 60 9 .fz l K Za Za Za Za
 have z1:=fun e bx n' h hb g=>aam e bx n' h 1 a 0 ho hl hb g
 have z2:=fun e bx n' h hb g=>aam e bx n' h 1 a 1 ho hl hb g
 have o2:=vG ho 2;have n2:=iZ (yZ a 2) hl;have z3:=fun e bx n' h hb g=>awN e bx n' h 1 (sS a 2).1 (sS a 2).2 o2 n2 hb g
 have m0:=o6 ho 0;have m1:=o6 ho 1;have m2:=Z8 (sS a 2).1 (sS a 2).2 o2;have o3:=au9 (sS a 2).2 o2;have n3:=iZ (au8 (sS a 2).1 (sS a 2).2) n2;unfold wC;generalize sx a 0=d,sx a 1=z,woX (sS a 2).1 (sS a 2).2=s,woL (sS a 2).1 (sS a 2).2=U,woB (sS a 2).1 (sS a 2).2=b3 at *;cases b3
 case true =>
  rw[jc (o:=dCm a d z s U true) (ah (.inl rfl))]
  refine gI (zN mix) ?_
  (repeat' first|refine wQ (aI @iq j) ?_|refine aU _ (z1 _ _ _ _ rfl Om) rfl ?_|refine aU _ (z2 _ _ _ _ rfl Om) rfl ?_|refine aU _ (z3 _ _ _ _ rfl Om) rfl ?_|refine tS ?_ ?_<;>intro q|fail)
  all_goals exact rE []
 case false =>
  by_cases m:1<=(d:Int)/\(d:Int)<=8/\1<=(z:Int)/\(z:Int)<=64
  case neg =>
   rw[jc (o:=dCm a d z s U false) (ah (.inr m))]
   have kB:=X0 d z m
   refine gI (zN mix) ?_
   (repeat' first|refine wQ (aI @iq j) ?_|refine aU _ (z1 _ _ _ _ rfl Om) rfl ?_|refine aU _ (z2 _ _ _ _ rfl Om) rfl ?_|refine aU _ (z3 _ _ _ _ rfl Om) rfl ?_|refine cU kB ?_|refine tS ?_ ?_<;>intro q|fail)
   all_goals exact rE []
  case pos =>
   have hdC:dCm a d z s U false=eCm a d z s (xG (d*z) [] U false):=ag (by rintro(h|h);cases h;exact h m)
   rw[hdC]
   have kB:=XZ d z m
   obtain⟨F,hF⟩:∃F,F=xG (d*z) [] U false:=⟨_,rfl⟩
   rw[<-hF]
   have hm:=xx (d:=(d:Int)) (z:=(z:Int)) ⟨m.1,m.2.1⟩ m.2.2
   obtain⟨M,hM⟩:∃M,M=d*z:=⟨_,rfl⟩
   have hdz:(d:Int)*(z:Int)=(M:Nat):=by rw[hM];simp
   rw[hdz]at hm
   rw[<-hM]at hF
   refine gI (zN mix) ?_
   (repeat' first|refine wQ (Ac @iq j @hdz) ?_|refine aU _ (z1 _ _ _ _ rfl Om) rfl ?_|refine aU _ (z2 _ _ _ _ rfl Om) rfl ?_|refine aU _ (z3 _ _ _ _ rfl Om) rfl ?_|refine cU kB ?_|refine tS ?_ ?_<;>intro q|fail)
   refine aJ (fun x:List Int×List Nat×Bool=>mkA [(0,fzb a),(2,.ref 0 0),(4,.ref 1 0),(5,.ref 2 0),(36,vi M),(37,vi x.1.length)] [(0,(45,[vi 0,vi 0,vu 0,.c (.slice none 0 0),vb false])),(1,(236,[fzb x.2.1,vb x.2.2])),(2,(45,[vi d,vi z,vu s,.sl (.own 0 3) 1 (iv x.1),vb false]))] 3 (fun _=>.top))
    (fun x=>xG (M-x.1.length) x.1 x.2.1 x.2.2=F/\x.1.length<=M/\oct x.2.1/\x.2.1.length<=2147483648) (fun x=>M-x.1.length) ([],U,false) [] [0,1,2] ?_ ⟨hF.symm,ax _,o3,n3⟩ ?_
   .exact kY
   .rintro⟨c,l,b⟩ ⟨Q,i2,R,i4⟩
    simp only at Q i2 R i4
    have k:=bV c
    by_cases hgo:c.length<M
    .rw[aqu Om]at Q
     have H:=fun e bx n' h hb g=>Q9 e bx n' h 1 l b R i4 hb g
     have q1:=E8 b R
     have q2:=iZ (E5 l b) i4
     have q3:=Kt l b R
     generalize nuX l b=x at *
     generalize nuL l b=l' at *
     generalize nuB l b=I at *
     have hln:(c++[(x:Int)]).length=c.length+1:=Aa
     rw[show M-c.length-1=M-(c++[(x:Int)]).length by rw[hln];omega]at Q
     have hap:=OL c (x:Int)
     (repeat' first|refine wQ (aI @iq k) ?_|refine tS ?_ ?_<;>intro q|fail)
     obtain⟨B0,r⟩:∃f,f=yh [(0,(45,[vi 0,vi 0,vu 0,.c (.slice none 0 0),vb false])),(1,(236,[fzb l,vb b])),(2,(45,[vi d,vi z,vu s,.sl (.own 0 3) 1 (iv c),vb false]))]:=⟨_,rfl⟩
     obtain⟨B1,G⟩:∃f,f=upd B0 1 (some (236,[fzb l',vb I])):=⟨_,rfl⟩
     obtain⟨C,n⟩:∃f:(Nat->Bool)->BX,f=fun S=>if S 3=true then B1 else B0:=⟨_,rfl⟩
     obtain⟨N,p⟩:∃f:(Nat->Bool)->Nat,f=fun S=>if S 4=true then 4 else 3:=⟨_,rfl⟩
     have b0:B0 1=some (236,[fzb l,vb b]):=by rw[r];rfl
     have X:∀S i,i≠3->C S=C (ins S i):=fun S i h3=>by rw[n];simp only[iy (jY h3)]
     have Y:∀S i,i≠4->N S=N (ins S i):=fun S i h7=>by rw[p];simp only[iy (jY h7)]
     have hb2:∀S,C S 2=some (45,[vi d,vi z,vu s,.sl (.own 0 3) 1 (iv c),vb false]):=fun S=>by
      rw[n]
      show(if S 3=true then B1 else B0) 2=_
      cases S 3
      .rw[ag gy,r];exact rfl
      .rw[ah rfl,G,r];exact rfl
     have hnd:([39,40,41,42,43]:List Nat).Nodup:=dX
     refine Ir mix 5 [(39,.ref 2 3),(40,.sl (.own 0 3) 1 (iv c)),(41,.ref 1 0),(42,vi (x:Nat)),(43,.sl (.own 3 3) 1 [vi (x:Nat)])] C N (by rw[n];show B0=_;exact r) (by rw[p];rfl) dX dX dX ?_ ?_
     .intro S i o ho hi Z he hcl
      rcases(Om:i=0\/i=1\/i=2\/i=3\/i=4)with rfl|rfl|rfl|rfl|rfl
      all_goals(simp only[vX,zy,aO]at ho;subst ho)
      all_goals(have sf:=he;simp[edgesOf,Region.binds]at sf)
      all_goals try((repeat' first|refine wQ (Ae Z @sf @bH @dA @hb2) ?_|refine tS ?_ ?_<;>intro q|fail);exact ig _ rfl hnd (X S _ dX) (Y S _ dX))
      .have s2:=he 2 dX
       have J:C S=B0:=by rw[n];simp only[Z];rfl
       have W:C (ins S 3)=B1:=by rw[n];simp only[ni];rfl
       (repeat' first|refine wQ (Ae Z @s2 J @bH @dA) ?_|refine tS ?_ ?_<;>intro q|fail)
       refine cZ (H _ _ _ _ b0 (by rw[p];simp only;split<;>omega)) ?_ (by simp only[dm,dS,pgo,simprocAttr,s2,bH])
       exact ig 3 (T:=[(39,.ref 2 3),(40,.sl (.own 0 3) 1 (iv c)),(41,.ref 1 0),(42,vi (x:Nat)),(43,.sl (.own 3 3) 1 [vi (x:Nat)])]) rfl hnd (by rw[W,G]) (Y S 3 dX)
      .have s3:=he 3 dX
       have J:N S=3:=by rw[p];simp only[Z];rfl
       have W:N (ins S 4)=4:=by rw[p];simp only[ni];rfl
       (repeat' first|refine wQ (Ae Z @s3 J @bH @dA) ?_|refine tS ?_ ?_<;>intro q|fail)
       exact ig 4 rfl hnd (X S 4 dX) W.symm
     .intro S t
      have s1:=t 1 dX dX
      have s4:=t 4 dX dX
      have J:C S=B1:=by rw[n];simp only[t 3 dX dX];rfl
      have W:N S=4:=by rw[p];simp only[s4];rfl
      have y:=hb2 S
      rw[J]at y
      rw[J,W,G,r]
      simp only[IV,lX,dm,dS]
      (repeat' first|refine wQ (Ah @iq k @hap @s1 @s4 @bH @dA y) ?_|refine tS ?_ ?_<;>intro q|fail)
      refine dn (c++[(x:Int)],l',I) [0] [0,1,2] ⟨Q,by show(c++[(x:Int)]).length<=M;omega,q1,q2⟩ (by show M-(c++[(x:Int)]).length<M-c.length;omega) ?_
      refine kN ?_
      all_goals(try simp only[bH,dA,pgo,simprocAttr,ku,jS,nS])
      all_goals first|done|exact fE rfl rfl|exact eF (by rw[hln];omega)|exact eF Om|exact kZ rfl|skip
    .have hMc:M-c.length=0:=Om
     rw[hMc]at Q
     have hF2:F=(c,l,b):=Q.symm
     subst hF2
     have H:=fun e bx n' h hb g=>Q9 e bx n' h 1 l b R i4 hb g
     have q3:=Kt l b R
     have hfC:eCm a d z s (c,l,b)=fCm a ⟨d,z,s,c,decide ((nuX l b:Int)=1)⟩ (nuB l b):=rfl
     rw[hfC]
     have A:=XC ⟨d,z,s,c,decide ((nuX l b:Int)=1)⟩
     have L:=an2 ⟨d,z,s,c,decide ((nuX l b:Int)=1)⟩
     have hd:=vF (afl ⟨d,z,s,c,decide ((nuX l b:Int)=1)⟩) ho
     generalize nuX l b=x at *
     generalize nuL l b=l' at *
     generalize nuB l b=I at *
     have u:((x:Int) == 1)=decide ((x:Int)=1):=rfl
     generalize decide ((x:Int)=1)=f at *
     have v:fCm a ⟨d,z,s,c,f⟩ I=if I=true then none else if vCm ⟨d,z,s,c,f⟩=0/\jD ⟨d,z,s,c,f⟩=a then some ⟨d,z,s,c,f⟩else none:=rfl
     clear z1 z2 z3 hF
     cases I with
     |false =>
      by_cases hv:vCm ⟨d,z,s,c,f⟩=0
      .have A:=A hv ⟨by show(0:Int)<=(s:Int);omega,by show(s:Int)<_;omega⟩
       by_cases he:jD ⟨d,z,s,c,f⟩=a
       .rw[xA (x:=⟨d,z,s,c,f⟩) (v.trans (by rw[ag gy];exact ah ⟨hv,he⟩))]
        rw[he]at A
        (repeat' first|refine wQ (Ae @iq k j u @iE) ?_|refine aU _ (H _ _ _ _ rfl Om) rfl ?_|refine cG [0] A ?_|refine tS ?_ ?_<;>intro q|fail)
        all_goals exact rE []
       .rw[jc (v.trans (by rw[ag gy];exact ag fun h=>he h.2))]
        rw[dK he]at hd
        generalize jD ⟨d,z,s,c,f⟩=E at *
        (repeat' first|refine wQ (Af @iq k j @hd u @iE) ?_|refine aU _ (H _ _ _ _ rfl Om) rfl ?_|refine cG [0] A ?_|refine tS ?_ ?_<;>intro q|fail)
        all_goals exact rE []
      .have L:=L hv
       rw[jc (v.trans (by rw[ag gy];exact ag fun h=>hv h.1))]
       generalize vCm ⟨d,z,s,c,f⟩=vv at *
       (repeat' first|refine wQ (Ae @iq k j u @iE) ?_|refine aU _ (H _ _ _ _ rfl Om) rfl ?_|refine cG [0] L ?_|refine tS ?_ ?_<;>intro q|fail)
       all_goals exact rE []
     |true =>
      rw[jc (v.trans (ah rfl))]
      by_cases hv:vCm ⟨d,z,s,c,f⟩=0
      .have A:=A hv ⟨by show(0:Int)<=(s:Int);omega,by show(s:Int)<_;omega⟩
       generalize jD ⟨d,z,s,c,f⟩=E at *
       (repeat' first|refine wQ (Ae @iq k j u @iE) ?_|refine aU _ (H _ _ _ _ rfl Om) rfl ?_|refine cG [0] A ?_|refine tS ?_ ?_<;>intro q|fail)
       all_goals exact rE []
      .have L:=L hv
       generalize vCm ⟨d,z,s,c,f⟩=vv at *
       (repeat' first|refine wQ (Ae @iq k j u @iE) ?_|refine aU _ (H _ _ _ _ rfl Om) rfl ?_|refine cG [0] L ?_|refine tS ?_ ?_<;>intro q|fail)
       all_goals exact rE []
def ivU(l:List Nat):List Int:=l.map fun(n:Nat)=>(n:Int)
def akv(l:List Nat)(n:Nat):iv (ivU l)++[vi n]=iv (ivU (l++[n])):=by rw[OJ];simp[ivU]
def aku(l:List Nat):(iv (ivU l)).length=l.length:=by rw[bV];simp[ivU]
def Jw(x:Ll):Option Ll:=if vLl x=0 then some x else none
def dLl(p:Nat)(l:List Nat):Option Ll:=if(dV l).2.2=0/\(l.drop 8).length=2^p then Jw ⟨p,((dV l).1:Nat),ivU (l.drop 8)⟩else none
def sO(l:List Nat):Option Ll:=if(ak l).2.2=0/\(2<=(ak l).1/\(ak l).1<=8)then dLl (ak l).1 (l.drop (ak l).2.1)else none
abbrev llO(x:Ll):List V:=[vi x.p,vu x.s,.sl (.own 0 3) 1 (iv x.r)]
def anV(l:List Nat)(ho:oct l)(hl:l.length<=2147483648):Gxx 75 [fzb l] (oV llF Ll.o (sO l)):=by
 refine wZ (F':=llO) (zs:=[vi 0,vu 0,.c (.slice none 0 0)]) ?_ (fun _=>rfl) (fun _=>⟨aC _,aC _,trivial⟩) rfl ⟨.inr ⟨_,_,rfl,rfl,⟨.inl rfl,.inl rfl,jB _ _,trivial⟩⟩,aC _,trivial⟩;have c:=oP l ho hl;obtain⟨m0,y0,_⟩:=lS l ho;unfold lU at c;have b0:=aA l;unfold sO;generalize ak l=q at *;obtain⟨p,u,J⟩:=q;simp only at *;have F:=iR l u;by_cases he:J=0
 case neg =>
  rw[jc (ag fun h=>he h.1)]
  refine gI oW ?_
  exact wR @b0 c ay
 case pos =>
  subst he
  by_cases hp:2<=p/\p<=8
  case neg =>
   rw[jc (ag fun h=>hp h.2)]
   have n:=XQ (p:Int) Om
   refine gI oW ?_
   exact wR @b0 (aI c n) ay
  case pos =>
   rw[ah ⟨rfl,hp⟩]
   have n:=XP (p:Int) Om
   obtain⟨r,g,j⟩:=yX (p:=(p:Int)) Om
   rw[fC]at r g j
   have E:=eG ho u
   have k:=Px (l.drop u) E (by rw[eH];omega)
   have t:(l.drop u).length=l.length-u:=eH
   unfold dLl
   rcases au (l.drop u).length 8 with H|H
   .have x:dV (l.drop u)=(0,0,3):=ah H
    rw[x]at k⊢
    rw[jc (ag fun h=>nomatch h.1)]
    unfold DR at k
    simp only at k
    refine gI oW ?_
    exact wR (Ad @pgv @b0 F t) (Ac c k n) ay
   .have x:dV (l.drop u)=(acc ((l.drop u).take 8),8,0):=ag Om
    rw[x]at k⊢
    unfold DR at k
    simp only at k⊢
    have ha:=D7 E (i:=8) Om
    have I:Int.toNat ((u:Int)+8)=u+8:=Om
    have x1:(bv l).drop (u+8)=bv ((l.drop u).drop 8):=by rw[iR,su]
    have d:=aA ((l.drop u).drop 8)
    have M:((l.drop u).drop 8).length=l.length-u-8:=by rw[eH,t]
    have L:=eG E 8
    generalize acc ((l.drop u).take 8)=s at *
    by_cases y:((l.drop u).drop 8).length=2^p
    case neg =>
     rw[jc (ag fun h=>y h.2)]
     generalize(l.drop u).drop 8=R at *
     refine gI oW ?_
     exact wR (Ah @pgv @b0 F t I @x1 d r) (Ac c k n) ay
    case pos =>
     rw[ah ⟨trivial,y⟩]
     rw[<-y]at r g j
     have C:=fun i (hi:i<((l.drop u).drop 8).length)=>lY ((l.drop u).drop 8) i hi
     generalize(l.drop u).drop 8=R at *
     have A:=PL ⟨p,(s:Nat),ivU R⟩ (by show(ivU R).length<=_;unfold ivU;rw[aj];omega)
     refine gI oW ?_
     refine wS (Ah @pgv @b0 d F t @x1 I r) (Ac c k n) ?_
     refine aJ (fun i:Nat=>mkA [(2,.ref 0 0),(10,.ref 1 0),(53,fzb R),(54,vi R.length),(55,vi i)] [(0,(47,[vi 0,vu 0,.c (.slice none 0 0)])),(1,(47,[vi p,vu (s:Nat),.sl (.own 0 3) 1 (iv (ivU (R.take i)))]))] 2 (fun _=>.top)) (fun i=>i<=R.length) (fun i=>R.length-i) 0 [] [0,1] ?_ (ax _) ?_
     .exact kY
     .intro i hi
      replace hi:i<=R.length:=hi
      have a:=aku (R.take i)
      rw[bI,qj hi]at a
      rcases au i R.length with b|K
      .have hg:=C i b
       have G:R.take (i+1)=R.take i++[R.getD i 0]:=by rw[mP b];simp[List.getD,b]
       have f:=akv (R.take i) (R.getD i 0)
       rw[<-G]at f
       clear G
       have hb:=kw L i
       generalize R.getD i 0=m at *
       refine wT (Ad d @hg a f) ?_
       exact bY (i+1) [0] [0,1] b
      .have:i=R.length:=Om
       subst this
       rw[gB]at *
       have hf:Jw ⟨p,(s:Nat),ivU R⟩=if vLl ⟨p,(s:Nat),ivU R⟩=0 then some ⟨p,(s:Nat),ivU R⟩else none:=rfl
       by_cases hv:vLl ⟨p,(s:Nat),ivU R⟩=0
       .rw[xA (hf.trans (ah hv))]
        rw[hv]at A
        exact wR (aI d a) A (ids [0])
       .rw[jc (hf.trans (ag hv))]
        generalize vLl ⟨p,(s:Nat),ivU R⟩=v at *
        exact wR (aI d a) A ay
def aob(t:Tp)(h:vTp t≠0)(ho:octE t.e)(a:t.e.length<=1000000):Gxx 166 [.agg (tpF t)] (.tup [.c (.slice none 0 0),vi (vTp t)]):=by have h1:=PO t ho a;generalize vTp t=v at *;refine pR (zM (fun d=>bif d == 48 then true else false) [] mix) Tryz.func166 rfl Tryz.results166 rfl Za (fP Za) ?_;(repeat' first|refine wQ @pgF ?_|refine cU h1 ?_|refine tS ?_ ?_<;>intro b|fail);exact rE []
def rdE(l:List Nat)(b:Bool):En:=(teX l b,(nuX (teL l b) (teB l b):Nat),(nuX (nuL (teL l b) (teB l b)) (nuB (teL l b) (teB l b)):Nat))
def Dy(l:List Nat)(b:Bool):List Nat:=nuL (nuL (teL l b) (teB l b)) (nuB (teL l b) (teB l b))
def Iq(l:List Nat)(b:Bool):Bool:=nuB (nuL (teL l b) (teB l b)) (nuB (teL l b) (teB l b))
def Bi:Nat->Nat->List En->List Nat->Bool->List En×List Nat×Bool
 |0,_,e,l,b=>(e,l,b)
 |k+1,n,e,l,b=>if n=0\/b=true then(e,l,b)else Bi k (n-1) (e++[rdE l b]) (Dy l b) (Iq l b)
def Us(l:List Nat)(x:Tp):Option Tp:=if vTp x=0/\jG x=l then some x else none
def dTp(l:List Nat)(z t:Nat)(f:Bool)(q:List En×List Nat×Bool):Option Tp:=if q.2.2=true then none else Us l ⟨z,t,q.1,f⟩
def wH(l:List Nat):Option Tp:=dTp l (sx l 0) (sx l 1) (decide ((sx l 2:Int)=1)) (Bi 32 (sx l 3) [] (sS l 4).1 (sS l 4).2)
def YJ{k n:Nat}{e:List En}{l:List Nat}{b:Bool}(h:k=0\/n=0\/b=true):Bi k n e l b=(e,l,b):=by
 cases k with
 |zero=>rfl
 |succ k=>exact ah (by rcases h with h|h|h;omega;exact .inl h;exact .inr h)
def YK{k n:Nat}{e:List En}{l:List Nat}{b:Bool}(h1:k≠0)(h2:n≠0)(h3:b=false):Bi k n e l b=Bi (k-1) (n-1) (e++[rdE l b]) (Dy l b) (Iq l b):=by
 cases k with
 |zero=>exact absurd rfl h1
 |succ k=>exact ag (by rintro(h|h);exact h2 h;rw[h3]at h;cases h)
def afs{t:Tp}(ho:octE t.e):oct (jG t):=by refine bT (bT (bT (bT (dI _) (dI _)) (by cases t.b<;>exact yT Om)) (dI _)) ?_;exact wW _ _ fun e he=>bT (bT (FV (ho e he)) (dI _)) (dI _)
def anY(g:List Nat)(ho:oct g)(hl:g.length<=2147483648):Gxx 76 [fzb g] (oV tpF Tp.o (wH g)):=by
 refine wZ (F':=tpF) (zs:=[vi 0,vi 0,.c (.slice none 0 0),vb false]) ?_ (fun _=>rfl) (fun _=>⟨aC _,aC _,trivial⟩) rfl ⟨.inr ⟨_,_,rfl,rfl,⟨.inl rfl,.inl rfl,jB _ _,.inl rfl,trivial⟩⟩,aC _,trivial⟩;have j:=fun(l:List Nat) s d K=>x8 (P:=Tryz.prog) s d 60 9 .fz l K Za Za Za Za
 have S:=fun e bx n' h hb a=>LP e bx n' h 1 g 0 ho hl hb a
 have T:=fun e bx n' h hb a=>LP e bx n' h 1 g 1 ho hl hb a
 have U:=fun e bx n' h hb a=>LP e bx n' h 1 g 2 ho hl hb a
 have W:=fun e bx n' h hb a=>LP e bx n' h 1 g 3 ho hl hb a
 have m0:=o6 ho 0;have m1:=o6 ho 1;have m2:=o6 ho 2;have m3:=o6 ho 3;have o4:=vG ho 4;have Z:=yZ g 4;unfold wH;generalize sx g 0=z at *;generalize sx g 1=i at *;generalize sx g 2=fl at *;generalize sx g 3=N at *;obtain⟨f,hf⟩:∃f,f=decide ((fl:Int)=1):=⟨_,rfl⟩;rw[<-hf];obtain⟨F,J⟩:∃F,F=Bi 32 N [] (sS g 4).1 (sS g 4).2:=⟨_,rfl⟩;rw[<-J];refine gI oW ?_;(repeat' first|refine wQ j ?_|refine aU _ (S _ _ _ _ rfl Om) rfl ?_|refine aU _ (T _ _ _ _ rfl Om) rfl ?_|refine aU _ (U _ _ _ _ rfl Om) rfl ?_|refine aU _ (W _ _ _ _ rfl Om) rfl ?_|refine tS ?_ ?_<;>intro y|fail)
 refine aJ (fun x:List En×List Nat×Bool=>mkA [(0,fzb g),(2,.ref 0 0),(4,.ref 1 0),(5,.ref 2 0),(6,vi N),(7,vi x.1.length)] [(0,(50,[vi 0,vi 0,.c (.slice none 0 0),vb false])),(1,(244,[fzb x.2.1,vb x.2.2])),(2,(50,[vi z,vi i,.sl (.own 0 215) 3 (ev x.1),vb f]))] 3 (fun _=>.top))
  (fun x=>Bi (32-x.1.length) (N-x.1.length) x.1 x.2.1 x.2.2=F/\x.1.length<=32/\x.1.length<=N/\oct x.2.1/\x.2.1.length<=2147483648/\octE x.1) (fun x=>32-x.1.length) ([],(sS g 4).1,(sS g 4).2) [] [0,1,2] ?_ ⟨J.symm,by simp,by simp,o4,iZ Z hl,fun x hx=>by cases hx⟩ ?_
 ·(refine kM ?_ ?_;(repeat'(first|exact ae|refine dQ _ _ rfl rfl ?_ ?_));all_goals(try simp only[pgm,simprocAttr]);all_goals(try(repeat' apply aI));all_goals(try exact gz));all_goals first|exact iT rfl|exact eF Om|exact kZ rfl|exact kZ (by rw[hf];rfl)|skip
 .rintro⟨e,l,b⟩ ⟨A,i2,Y,G,I,r⟩;simp only at A i2 Y G I r;have k:=bJ e;by_cases p:e.length<N/\e.length<32/\b=false
  .obtain⟨g1,g2,rfl⟩:=p;rw[YK Om Om rfl]at A;have w1:=fun e bx n' h hb a=>awM e bx n' h 1 l false G I hb a
   have L:=QO false G;have M:=iZ (QN l false) I;have w2:=fun e bx n' h hb a=>Rf e bx n' h 1 (teL l false) (teB l false) L M hb a
   have Q:=E8 (teB l false) L;have R:=iZ (E5 (teL l false) (teB l false)) M;have w3:=fun e bx n' h hb a=>Rf e bx n' h 1 (nuL (teL l false) (teB l false)) (nuB (teL l false) (teB l false)) Q R hb a
   have q5:oct (Dy l false):=E8 _ Q;have q6:(Dy l false).length<=2147483648:=iZ (E5 _ _) R;obtain⟨q7,_⟩:=QP l false G;have C:=uO e (teX l false) (nuX (teL l false) (teB l false):Nat) (nuX (nuL (teL l false) (teB l false)) (nuB (teL l false) (teB l false)):Nat);have H:rdE l false=(teX l false,((nuX (teL l false) (teB l false):Nat):Int),((nuX (nuL (teL l false) (teB l false)) (nuB (teL l false) (teB l false)):Nat):Int)):=rfl;have q:(e++[rdE l false]).length=e.length+1:=Aa;have q8:octE (e++[rdE l false]):=Kv r _ _ _ q7;rw[<-H]at C;rw[show 32-e.length-1=32-(e++[rdE l false]).length by rw[q];omega,show N-e.length-1=N-(e++[rdE l false]).length by rw[q];omega]at A;(repeat' first|refine wQ (aI k C) ?_|refine aU _ (w1 _ _ _ _ rfl Om) rfl ?_|refine aU _ (w2 _ _ _ _ rfl Om) rfl ?_|refine aU _ (w3 _ _ _ _ rfl Om) rfl ?_|refine tS ?_ ?_<;>intro y|fail);refine dn (e++[rdE l false],Dy l false,Iq l false) [0] [0,1,2] ⟨A,by show(e++[rdE l false]).length<=32;omega,by show(e++[rdE l false]).length<=N;omega,q5,q6,q8⟩ (by show 32-(e++[rdE l false]).length<32-e.length;omega) ?_;(refine kM ?_ ?_;(repeat'(first|exact ae|refine dQ _ _ rfl rfl ?_ ?_));all_goals(try simp only[pgm,simprocAttr]);all_goals(try(repeat' apply aI));all_goals(try exact gz));all_goals first|exact fE rfl rfl|exact eF Om|exact kZ rfl|exact eF (by rw[q];omega)|exact Vs rfl|skip
  .rw[YJ (by
    by_cases c1:e.length<N
    .by_cases X:e.length<32
     .cases b with
      |false=>exact absurd ⟨c1,X,rfl⟩ p
      |true=>exact .inr (.inr rfl)
     .exact .inl Om
    .exact .inr (.inl Om))]at A
   subst A;have n:=XG ⟨z,i,e,f⟩;have u:=aob ⟨z,i,e,f⟩;have hd:=vF (afs (t:=⟨z,i,e,f⟩) r) ho;have m:dTp g z i f (e,l,b)=if b=true then none else if vTp ⟨z,i,e,f⟩=0/\jG ⟨z,i,e,f⟩=g then some ⟨z,i,e,f⟩else none:=rfl
   clear S T U W hf;cases b with
   |false =>
    rcases(by
     rcases au e.length N with h1|h1
     .rcases au e.length 32 with h2|h2
      .exact absurd ⟨h1,h2,rfl⟩ p
      .exact .inr ⟨h1,h2⟩
     .exact .inl h1:(N<=e.length)\/(e.length<N/\32<=e.length))with c|c
    all_goals
     by_cases hv:vTp ⟨z,i,e,f⟩=0
     .have n:=n hv r (by show e.length<=_;omega)
      by_cases he:jG ⟨z,i,e,f⟩=g
      .rw[xA (x:=⟨z,i,e,f⟩) (m.trans (by rw[ag gy];exact ah ⟨hv,he⟩))]
       rw[he]at n
       (repeat' first|refine wQ (Ac k j @id_eq.{1}) ?_|refine cG [0] n ?_|refine tS ?_ ?_<;>intro y|fail)
       all_goals exact rE []
      .rw[jc (m.trans (by rw[ag gy];exact ag fun h=>he h.2))]
       rw[dK he]at hd
       generalize jG ⟨z,i,e,f⟩=E at *
       (repeat' first|refine wQ (Ad k j @hd @id_eq.{1}) ?_|refine cG [0] n ?_|refine tS ?_ ?_<;>intro y|fail)
       all_goals exact rE []
     .have u:=u hv r (by show e.length<=_;omega)
      rw[jc (m.trans (by rw[ag gy];exact ag fun h=>hv h.1))]
      generalize vTp ⟨z,i,e,f⟩=v at *
      (repeat' first|refine wQ (Ac k j @id_eq.{1}) ?_|refine cG [0] u ?_|refine tS ?_ ?_<;>intro y|fail)
      all_goals exact rE []
   |true =>
    rw[jc (m.trans (ah rfl))];rcases(Om:(N<=e.length)\/(e.length<N/\32<=e.length)\/(e.length<N/\e.length<32))with c|c|c
    all_goals
     by_cases hv:vTp ⟨z,i,e,f⟩=0
     .have n:=n hv r (by show e.length<=_;omega)
      generalize jG ⟨z,i,e,f⟩=E at *
      (repeat' first|refine wQ (Ac k j @id_eq.{1}) ?_|refine cG [0] n ?_|refine tS ?_ ?_<;>intro y|fail)
      all_goals exact rE []
     .have u:=u hv r (by show e.length<=_;omega)
      generalize vTp ⟨z,i,e,f⟩=v at *
      (repeat' first|refine wQ (Ac k j @id_eq.{1}) ?_|refine cG [0] u ?_|refine tS ?_ ?_<;>intro y|fail)
      all_goals exact rE []
def an3(t:Fq)(h:vFq t≠0)(ho:octE t.e)(a:t.e.length<=1000000):Gxx 169 [.agg (fqF t)] (.tup [.c (.slice none 0 0),vi (vFq t)]):=by have h1:=PK t ho a;generalize vFq t=v at *;refine pR (zM (fun d=>bif d == 48 then true else false) [] mix) Tryz.func169 rfl Tryz.results169 rfl Za (fP Za) ?_;(repeat' first|refine wQ @pgF ?_|refine cU h1 ?_|refine tS ?_ ?_<;>intro b|fail);exact rE []
def rfE(l:List Nat)(b:Bool):En:=(teX l b,(nuX (teL l b) (teB l b):Nat),0)
def DD(l:List Nat)(b:Bool):List Nat:=nuL (teL l b) (teB l b)
def Iz(l:List Nat)(b:Bool):Bool:=nuB (teL l b) (teB l b)
def Bg:Nat->Nat->List En->List Nat->Bool->List En×List Nat×Bool
 |0,_,e,l,b=>(e,l,b)
 |k+1,n,e,l,b=>if n=0\/b=true then(e,l,b)else Bg k (n-1) (e++[rfE l b]) (DD l b) (Iz l b)
def Un(l:List Nat)(x:Fq):Option Fq:=if vFq x=0/\jE x=l then some x else none
def dFq(l:List Nat)(z t lo:Nat)(f:Bool)(q:List En×List Nat×Bool):Option Fq:=if q.2.2=true then none else Un l ⟨z,t,lo,q.1,f⟩
def wE(l:List Nat):Option Fq:=dFq l (sx l 0) (sx l 1) (sx l 2) (decide ((sx l 3:Int)=1)) (Bg 32 (sx l 4) [] (sS l 5).1 (sS l 5).2)
def YE{k n:Nat}{e:List En}{l:List Nat}{b:Bool}(h:k=0\/n=0\/b=true):Bg k n e l b=(e,l,b):=by
 cases k with
 |zero=>rfl
 |succ k=>exact ah (by rcases h with h|h|h;omega;exact .inl h;exact .inr h)
def YF{k n:Nat}{e:List En}{l:List Nat}{b:Bool}(h1:k≠0)(h2:n≠0)(h3:b=false):Bg k n e l b=Bg (k-1) (n-1) (e++[rfE l b]) (DD l b) (Iz l b):=by
 cases k with
 |zero=>exact absurd rfl h1
 |succ k=>exact ag (by rintro(h|h);exact h2 h;rw[h3]at h;cases h)
def afn{t:Fq}(ho:octE t.e):oct (jE t):=by refine bT (bT (bT (bT (bT (dI _) (dI _)) (dI _)) (by cases t.b<;>exact yT Om)) (dI _)) ?_;exact wW _ _ fun e he=>bT (FV (ho e he)) (dI _)
def anU(g:List Nat)(ho:oct g)(hl:g.length<=2147483648):Gxx 77 [fzb g] (oV fqF Fq.o (wE g)):=by
 refine wZ (F':=fqF) (zs:=[vi 0,vi 0,vi 0,.c (.slice none 0 0),vb false]) ?_ (fun _=>rfl) (fun _=>⟨aC _,aC _,trivial⟩) rfl ⟨.inr ⟨_,_,rfl,rfl,⟨.inl rfl,.inl rfl,.inl rfl,jB _ _,.inl rfl,trivial⟩⟩,aC _,trivial⟩;have j:=fun(l:List Nat) s d K=>x8 (P:=Tryz.prog) s d 60 9 .fz l K Za Za Za Za
 have Q:=fun e bx n' h hb a=>IP e bx n' h 1 g 0 ho hl hb a
 have R:=fun e bx n' h hb a=>IP e bx n' h 1 g 1 ho hl hb a
 have S:=fun e bx n' h hb a=>IP e bx n' h 1 g 2 ho hl hb a
 have T:=fun e bx n' h hb a=>IP e bx n' h 1 g 3 ho hl hb a
 have U:=fun e bx n' h hb a=>IP e bx n' h 1 g 4 ho hl hb a
 have m0:=o6 ho 0;have m1:=o6 ho 1;have m2:=o6 ho 2;have m3:=o6 ho 3;have m4:=o6 ho 4;have Z:=vG ho 5;have Y:=yZ g 5;unfold wE;generalize sx g 0=z at *;generalize sx g 1=i at *;generalize sx g 2=lo at *;generalize sx g 3=fl at *;generalize sx g 4=N at *;obtain⟨f,hf⟩:∃f,f=decide ((fl:Int)=1):=⟨_,rfl⟩;rw[<-hf];obtain⟨F,J⟩:∃F,F=Bg 32 N [] (sS g 5).1 (sS g 5).2:=⟨_,rfl⟩;rw[<-J];refine gI oW ?_;(repeat' first|refine wQ j ?_|refine aU _ (Q _ _ _ _ rfl Om) rfl ?_|refine aU _ (R _ _ _ _ rfl Om) rfl ?_|refine aU _ (S _ _ _ _ rfl Om) rfl ?_|refine aU _ (T _ _ _ _ rfl Om) rfl ?_|refine aU _ (U _ _ _ _ rfl Om) rfl ?_|refine tS ?_ ?_<;>intro y|fail)
 refine aJ (fun x:List En×List Nat×Bool=>mkA [(0,fzb g),(2,.ref 0 0),(4,.ref 1 0),(5,.ref 2 0),(6,vi N),(7,vi x.1.length)] [(0,(52,[vi 0,vi 0,vi 0,.c (.slice none 0 0),vb false])),(1,(248,[fzb x.2.1,vb x.2.2])),(2,(52,[vi z,vi i,vi lo,.sl (.own 0 215) 3 (ev x.1),vb f]))] 3 (fun _=>.top))
  (fun x=>Bg (32-x.1.length) (N-x.1.length) x.1 x.2.1 x.2.2=F/\x.1.length<=32/\x.1.length<=N/\oct x.2.1/\x.2.1.length<=2147483648/\octE x.1) (fun x=>32-x.1.length) ([],(sS g 5).1,(sS g 5).2) [] [0,1,2] ?_ ⟨J.symm,by simp,by simp,Z,iZ Y hl,fun x hx=>by cases hx⟩ ?_
 ·(refine kM ?_ ?_;(repeat'(first|exact ae|refine dQ _ _ rfl rfl ?_ ?_));all_goals(try simp only[pgm,simprocAttr]);all_goals(try(repeat' apply aI));all_goals(try exact gz));all_goals first|exact iT rfl|exact eF Om|exact kZ rfl|exact kZ (by rw[hf];rfl)|skip
 .rintro⟨e,l,b⟩ ⟨A,i2,X,G,I,r⟩;simp only at A i2 X G I r;have k:=bJ e;by_cases p:e.length<N/\e.length<32/\b=false
  .obtain⟨g1,g2,rfl⟩:=p;rw[YF Om Om rfl]at A;have w1:=fun e bx n' h hb a=>awK e bx n' h 1 l false G I hb a
   have L:=QO false G;have M:=iZ (QN l false) I;have w2:=fun e bx n' h hb a=>aak e bx n' h 1 (teL l false) (teB l false) L M hb a
   have q3:=E8 (teB l false) L;have q4:=iZ (E5 (teL l false) (teB l false)) M;have q5:oct (DD l false):=q3;have q6:(DD l false).length<=2147483648:=q4;obtain⟨q7,_⟩:=QP l false G;have C:=uO e (teX l false) (nuX (teL l false) (teB l false):Nat) 0;have H:rfE l false=(teX l false,((nuX (teL l false) (teB l false):Nat):Int),0):=rfl;have q:(e++[rfE l false]).length=e.length+1:=Aa;have q8:octE (e++[rfE l false]):=Kv r _ _ _ q7;rw[<-H]at C;rw[show 32-e.length-1=32-(e++[rfE l false]).length by rw[q];omega,show N-e.length-1=N-(e++[rfE l false]).length by rw[q];omega]at A;(repeat' first|refine wQ (aI k C) ?_|refine aU _ (w1 _ _ _ _ rfl Om) rfl ?_|refine aU _ (w2 _ _ _ _ rfl Om) rfl ?_|refine tS ?_ ?_<;>intro y|fail);refine dn (e++[rfE l false],DD l false,Iz l false) [0] [0,1,2] ⟨A,by show(e++[rfE l false]).length<=32;omega,by show(e++[rfE l false]).length<=N;omega,q5,q6,q8⟩ (by show 32-(e++[rfE l false]).length<32-e.length;omega) ?_;(refine kM ?_ ?_;(repeat'(first|exact ae|refine dQ _ _ rfl rfl ?_ ?_));all_goals(try simp only[pgm,simprocAttr]);all_goals(try(repeat' apply aI));all_goals(try exact gz));all_goals first|exact fE rfl rfl|exact eF Om|exact kZ rfl|exact eF (by rw[q];omega)|exact Vs rfl|skip
  .rw[YE (by
    by_cases c1:e.length<N
    .by_cases W:e.length<32
     .cases b with
      |false=>exact absurd ⟨c1,W,rfl⟩ p
      |true=>exact .inr (.inr rfl)
     .exact .inl Om
    .exact .inr (.inl Om))]at A
   subst A;have n:=XD ⟨z,i,lo,e,f⟩;have u:=an3 ⟨z,i,lo,e,f⟩;have hd:=vF (afn (t:=⟨z,i,lo,e,f⟩) r) ho;have m:dFq g z i lo f (e,l,b)=if b=true then none else if vFq ⟨z,i,lo,e,f⟩=0/\jE ⟨z,i,lo,e,f⟩=g then some ⟨z,i,lo,e,f⟩else none:=rfl
   clear Q R S T U hf;cases b with
   |false =>
    rcases(by
     rcases au e.length N with h1|h1
     .rcases au e.length 32 with h2|h2
      .exact absurd ⟨h1,h2,rfl⟩ p
      .exact .inr ⟨h1,h2⟩
     .exact .inl h1:(N<=e.length)\/(e.length<N/\32<=e.length))with c|c
    all_goals
     by_cases hv:vFq ⟨z,i,lo,e,f⟩=0
     .have n:=n hv r (by show e.length<=_;omega)
      by_cases he:jE ⟨z,i,lo,e,f⟩=g
      .rw[xA (x:=⟨z,i,lo,e,f⟩) (m.trans (by rw[ag gy];exact ah ⟨hv,he⟩))]
       rw[he]at n
       (repeat' first|refine wQ (Ac k j @id_eq.{1}) ?_|refine cG [0] n ?_|refine tS ?_ ?_<;>intro y|fail)
       all_goals exact rE []
      .rw[jc (m.trans (by rw[ag gy];exact ag fun h=>he h.2))]
       rw[dK he]at hd
       generalize jE ⟨z,i,lo,e,f⟩=E at *
       (repeat' first|refine wQ (Ad k j @hd @id_eq.{1}) ?_|refine cG [0] n ?_|refine tS ?_ ?_<;>intro y|fail)
       all_goals exact rE []
     .have u:=u hv r (by show e.length<=_;omega)
      rw[jc (m.trans (by rw[ag gy];exact ag fun h=>hv h.1))]
      generalize vFq ⟨z,i,lo,e,f⟩=v at *
      (repeat' first|refine wQ (Ac k j @id_eq.{1}) ?_|refine cG [0] u ?_|refine tS ?_ ?_<;>intro y|fail)
      all_goals exact rE []
   |true =>
    rw[jc (m.trans (ah rfl))];rcases(Om:(N<=e.length)\/(e.length<N/\32<=e.length)\/(e.length<N/\e.length<32))with c|c|c
    all_goals
     by_cases hv:vFq ⟨z,i,lo,e,f⟩=0
     .have n:=n hv r (by show e.length<=_;omega)
      generalize jE ⟨z,i,lo,e,f⟩=E at *
      (repeat' first|refine wQ (Ac k j @id_eq.{1}) ?_|refine cG [0] n ?_|refine tS ?_ ?_<;>intro y|fail)
      all_goals exact rE []
     .have u:=u hv r (by show e.length<=_;omega)
      generalize vFq ⟨z,i,lo,e,f⟩=v at *
      (repeat' first|refine wQ (Ac k j @id_eq.{1}) ?_|refine cG [0] u ?_|refine tS ?_ ?_<;>intro y|fail)
      all_goals exact rE []
end Go.Proofs.YtopbmdnbdpjheaaGreat
