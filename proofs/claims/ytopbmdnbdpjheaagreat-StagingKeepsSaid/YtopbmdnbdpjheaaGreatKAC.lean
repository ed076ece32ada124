/-
  Merged texts.
-/
import Derived.Test.YtopbmdnbdpjheaaGreatWAL
import Derived.Test.YtopbmdnbdpjheaaGreatKAB
import Derived.Test.YtopbmdnbdpjheaaGreatWAK
import Derived.Test.YtopbmdnbdpjheaaGreatKAA
set_option linter.all false
set_option linter.unusedVariables false
set_option linter.unusedSimpArgs false
set_option linter.unusedSectionVars false
set_option linter.defProp false
set_option maxRecDepth 100000
set_option maxHeartbeats 8000000
namespace Go.Proofs.YtopbmdnbdpjheaaGreat
open Go Go.Pg
def an5(t:Rk)(h:vRk t≠0)(hv:∀l∈t.v,octL l)(b:t.v.length<=1000000)(a:∀l∈t.v,l.length<=1000000):Gxx 172 [.agg (rkF t)] (.tup [.c (.slice none 0 0),vi (vRk t)]):=by have h1:=PM t hv b a;generalize vRk t=v at *;refine gI oW ?_;(repeat' first|refine wO ?_|refine cU h1 ?_|refine tS ?_ ?_<;>intro c|fail);exact rE []
def qI:Nat->List (List Nat)->List Nat->Bool->List (List Nat)×List Nat×Bool
 |0,a,l,b=>(a,l,b)
 |k+1,a,l,b=>if b=true then(a,l,b)else qI k (a++[teX l b]) (teL l b) (teB l b)
def Bh:Nat->Nat->List (List (List Nat))->List Nat->Bool->List (List (List Nat))×List Nat×Bool
 |0,_,v,l,b=>(v,l,b)
 |f+1,n,v,l,b=>if n=0\/b=true then(v,l,b)else
  Bh f (n-1) (v++[(qI (nuX l b) [] (nuL l b) (nuB l b)).1]) (qI (nuX l b) [] (nuL l b) (nuB l b)).2.1 (qI (nuX l b) [] (nuL l b) (nuB l b)).2.2
def Ur(l:List Nat)(x:Rk):Option Rk:=if vRk x=0/\jF x=l then some x else none
def dRk(l:List Nat)(z t lo:Nat)(f:Bool)(q:List (List (List Nat))×List Nat×Bool):Option Rk:=if q.2.2=true then none else Ur l ⟨z,t,lo,q.1,f⟩
def wF(l:List Nat):Option Rk:=dRk l (sx l 0) (sx l 1) (sx l 2) (decide ((sx l 3:Int)=1)) (Bh 41 (sx l 4) [] (sS l 5).1 (sS l 5).2)
def aqD{k:Nat}{a:List (List Nat)}{l:List Nat}{b:Bool}(h:k=0\/b=true):qI k a l b=(a,l,b):=by
 cases k with
 |zero=>rfl
 |succ k=>exact ah (by rcases h with h|h;omega;exact h)
def YG{k:Nat}{a:List (List Nat)}{l:List Nat}(h1:k≠0):qI k a l false=qI (k-1) (a++[teX l false]) (teL l false) (teB l false):=by
 cases k with
 |zero=>exact absurd rfl h1
 |succ k=>exact ag gy
def YH{k n:Nat}{e:List (List (List Nat))}{l:List Nat}{b:Bool}(h:k=0\/n=0\/b=true):Bh k n e l b=(e,l,b):=by
 cases k with
 |zero=>rfl
 |succ k=>exact ah (by rcases h with h|h|h;omega;exact .inl h;exact .inr h)
def YI{k n:Nat}{e:List (List (List Nat))}{l:List Nat}(h1:k≠0)(h2:n≠0):Bh k n e l false=Bh (k-1) (n-1) (e++[(qI (nuX l false) [] (nuL l false) (nuB l false)).1]) (qI (nuX l false) [] (nuL l false) (nuB l false)).2.1 (qI (nuX l false) [] (nuL l false) (nuB l false)).2.2:=by
 cases k with
 |zero=>exact absurd rfl h1
 |succ k=>exact ag (by rintro(h|h);exact h2 h;cases h)
def afp{t:Rk}(ho:∀l∈t.v,octL l):oct (jF t):=by refine bT (bT (bT (bT (bT (dI _) (dI _)) (dI _)) (by cases t.b<;>exact yT Om)) (dI _)) ?_;exact wW _ _ fun e he=>bT (dI _) (wW _ _ fun k hk=>FV (ho e he k hk))
def aul(l:List Nat):(teL l false).length+1<=l.length\/teB l false=true:=by grind[teL,teB,bQ,ak]
def Xm{v:List (List (List Nat))}{k:List (List Nat)}(h:∀l∈v,octL l)(hk:octL k):∀l∈v++[k],octL l:=by grind
def Xl{a:List (List Nat)}{k:List Nat}(h:octL a)(hk:oct k):octL (a++[k]):=by
 intro x hx;rcases iG.1 hx with hx|hx
 .exact h x hx
 .grind
def anW(g:List Nat)(ho:oct g)(hl0:g.length<=900000):Gxx 78 [fzb g] (oV rkF Rk.o (wF g)):=by
 refine wZ (F':=rkF) (zs:=[vi 0,vi 0,vi 0,.c (.slice none 0 0),vb false]) ?_ (fun _=>rfl) (fun _=>⟨aC _,aC _,trivial⟩) rfl ⟨.inr ⟨_,_,rfl,rfl,⟨.inl rfl,.inl rfl,.inl rfl,jB _ _,.inl rfl,trivial⟩⟩,aC _,trivial⟩;have hl:g.length<=2147483648:=Om;have p:=fun(l:List Nat) s d K=>x8 (P:=Tryz.prog) s d 60 9 .fz l K Za Za Za Za
 have z1:=fun e bx n' h hb a=>IQ e bx n' h 1 g 0 ho hl hb a
 have z2:=fun e bx n' h hb a=>IQ e bx n' h 1 g 1 ho hl hb a
 have z3:=fun e bx n' h hb a=>IQ e bx n' h 1 g 2 ho hl hb a
 have z4:=fun e bx n' h hb a=>IQ e bx n' h 1 g 3 ho hl hb a
 have z5:=fun e bx n' h hb a=>IQ e bx n' h 1 g 4 ho hl hb a
 have m0:=o6 ho 0;have m1:=o6 ho 1;have m2:=o6 ho 2;have m3:=o6 ho 3;have m4:=o6 ho 4;have o5:=vG ho 5;have n5:=yZ g 5;unfold wF;generalize sx g 0=z at *;generalize sx g 1=m at *;generalize sx g 2=lo at *;generalize sx g 3=fl at *;generalize sx g 4=N at *;obtain⟨f,hf⟩:∃f,f=decide ((fl:Int)=1):=⟨_,rfl⟩;rw[<-hf];obtain⟨F,hF⟩:∃F,F=Bh 41 N [] (sS g 5).1 (sS g 5).2:=⟨_,rfl⟩;rw[<-hF];refine gI oW ?_;(repeat' first|refine wQ p ?_|refine aU _ (z1 _ _ _ _ rfl Om) rfl ?_|refine aU _ (z2 _ _ _ _ rfl Om) rfl ?_|refine aU _ (z3 _ _ _ _ rfl Om) rfl ?_|refine aU _ (z4 _ _ _ _ rfl Om) rfl ?_|refine aU _ (z5 _ _ _ _ rfl Om) rfl ?_|refine tS ?_ ?_<;>intro A|fail)
 refine aJ (fun x:List (List (List Nat))×List Nat×Bool=>mkA [(0,fzb g),(2,.ref 0 0),(4,.ref 1 0),(5,.ref 2 0),(6,vi N),(7,vi x.1.length)] [(0,(55,[vi 0,vi 0,vi 0,.c (.slice none 0 0),vb false])),(1,(251,[fzb x.2.1,vb x.2.2])),(2,(55,[vi z,vi m,vi lo,.sl (.own 0 66) 1 (lv x.1),vb f]))] 3 (fun _=>.top))
  (fun x=>Bh (41-x.1.length) (N-x.1.length) x.1 x.2.1 x.2.2=F/\x.1.length<=41/\x.1.length<=N/\oct x.2.1/\x.2.1.length<=900000/\(∀l∈x.1,octL l)/\∀l∈x.1,l.length<=1000000) (fun x=>41-x.1.length) ([],(sS g 5).1,(sS g 5).2) [] [0,1,2] ?_ ⟨hF.symm,by simp,by simp,o5,iZ n5 hl0,fun x hx=>(by cases hx),fun x hx=>by cases hx⟩ ?_
 ·(refine kM ?_ ?_;(repeat'(first|exact ae|refine dQ _ _ rfl rfl ?_ ?_));all_goals(try simp only[pgm,simprocAttr]);all_goals(try(repeat' apply aI));all_goals(try exact gz));all_goals first|exact iT rfl|exact eF Om|exact kZ rfl|exact kZ (by rw[hf];rfl)|skip
 .rintro⟨v,l,b⟩ ⟨u,i2,i3,U,i5,J,M⟩;simp only at u i2 i3 U i5 J M;have j:=kF v;by_cases H:v.length<N/\v.length<41/\b=false
  .obtain⟨g1,g2,rfl⟩:=H;rw[YI Om Om]at u;have w1:=fun e bx n' h hb a=>aal e bx n' h 1 l false U Om hb a
   have q1:=E8 false U;have q2:=iZ (E5 l false) i5;have q3:=Kt l false U;obtain⟨G,hG⟩:∃G,G=qI (nuX l false) [] (nuL l false) (nuB l false):=⟨_,rfl⟩;rw[<-hG]at u;(repeat' first|refine wQ j ?_|refine aU _ (w1 _ _ _ _ rfl Om) rfl ?_|refine tS ?_ ?_<;>intro A|fail);generalize nuX l false=K0 at *;generalize nuL l false=l1 at *;generalize nuB l false=b1 at *
   refine aJ (fun x:Nat×List (List Nat)×List Nat×Bool=>mkA [(0,fzb g),(2,.ref 0 0),(4,.ref 1 0),(5,.ref 2 0),(6,vi N),(7,vi v.length),(8,.sl (.own 1 9) 1 (sv x.2.1)),(9,vi x.1)] [(0,(55,[vi 0,vi 0,vi 0,.c (.slice none 0 0),vb false])),(1,(251,[fzb x.2.2.1,vb x.2.2.2])),(2,(55,[vi z,vi m,vi lo,.sl (.own 0 66) 1 (lv v),vb f]))] 3 (fun _=>.top))
    (fun x=>qI x.1 x.2.1 x.2.2.1 x.2.2.2=G/\x.1<=4611686018427387904/\oct x.2.2.1/\x.2.1.length+x.2.2.1.length+(if x.2.2.2=true then 0 else 1)<=900001/\octL x.2.1/\x.2.2.1.length<=900000) (fun x=>x.1) (K0,[],l1,b1) [0] [0,1,2] ?_ ⟨hG.symm,q3,q1,by show 0+l1.length+_<=_;split<;>omega,fun x hx=>(by cases hx),q2⟩ ?_
   .exact kY
   .rintro⟨k,i,n,R⟩ ⟨T,j2,Q,j4,j5,j6⟩;simp only at T j2 Q j4 j5 j6;have S:=jA i;by_cases hk:0<k/\R=false
    .obtain⟨hk1,rfl⟩:=hk;rw[YG Om]at T;rw[ag gy]at j4;have w2:=fun e bx n' h hb a=>awL e bx n' h 1 n false Q Om hb a
     have r1:=QO false Q;have r2:=QN n false;have W:=aul n;obtain⟨r4,_⟩:=QP n false Q;have q:=Zm i [teX n false];have hs1:sv [teX n false]=[vs (teX n false)]:=rfl;rw[hs1]at q;have Y:=Xl j5 r4;have r6:(i++[teX n false]).length=i.length+1:=Aa;generalize teX n false=X at *;generalize teL n false=Z at *;generalize teB n false=B3 at *;(repeat' first|refine wQ (Ac j S q) ?_|refine aU _ (w2 _ _ _ _ rfl Om) rfl ?_|refine tS ?_ ?_<;>intro A|fail);refine dn (k-1,i++[X],Z,B3) [0,1] [0,1,2] ⟨T,by show k-1<=_;omega,r1,by show(i++[X]).length+Z.length+(if B3=true then 0 else 1)<=_;rcases W with W|W;(split<;>omega);(rw[ah W];omega),Y,by show Z.length<=_;omega⟩ (by show k-1<k;omega) ?_;exact kY
    .have C:k=0\/R=true:=by
      rcases gG k with h|h
      .exact .inl h
      .cases R with
       |false=>exact absurd ⟨h,rfl⟩ hk
       |true=>exact .inr rfl
     rw[aqD C]at T;subst T;simp only at u;have I:(v++[i]).length=v.length+1:=Aa;rw[show 41-v.length-1=41-(v++[i]).length by rw[I];omega,show N-v.length-1=N-(v++[i]).length by rw[I];omega]at u;have q:=CY v i;have Y:=Xm J j5
     have r6:∀l∈v++[i],l.length<=1000000:=by
      intro x hx;rcases iG.1 hx with hx|hx
      .exact M x hx
      .simp only[jX]at hx;subst hx;omega
     rcases(by
      rcases gG k with h|h
      .exact .inl h
      .rcases C with h1|h1
       .exact .inl h1
       .exact .inr ⟨h,h1⟩:k=0\/(0<k/\R=true))with c|⟨c,rfl⟩
     all_goals
      (repeat' first|refine wQ (A8 j S q @id_eq.{1} @yl @dM @uF @oq @zD.{0,0}) ?_|refine tS ?_ ?_<;>intro A|fail)
      first
       |refine dn (v++[i],n,R) [0] [0,1,2] ⟨u,by show(v++[i]).length<=41;omega,by show(v++[i]).length<=N;omega,Q,by show n.length<=_;omega,Y,r6⟩ (by show 41-(v++[i]).length<41-v.length;omega) ?_
       |refine dn (v++[i],n,true) [0] [0,1,2] ⟨u,by show(v++[i]).length<=41;omega,by show(v++[i]).length<=N;omega,Q,by show n.length<=_;omega,Y,r6⟩ (by show 41-(v++[i]).length<41-v.length;omega) ?_
      (refine kM ?_ ?_;(repeat'(first|exact ae|refine dQ _ _ rfl rfl ?_ ?_));all_goals(try simp only[pgm,simprocAttr]);all_goals(try(repeat' apply aI));all_goals(try exact gz))
      all_goals first|exact fE rfl rfl|exact eF (by rw[I];omega)|exact eF Om|exact kZ rfl|skip
  .rw[YH (by
    by_cases c1:v.length<N
    .by_cases c2:v.length<41
     .cases b with
      |false=>exact absurd ⟨c1,c2,rfl⟩ H
      |true=>exact .inr (.inr rfl)
     .exact .inl Om
    .exact .inr (.inl Om))]at u
   subst u;have y:=XE ⟨z,m,lo,v,f⟩;have L:=an5 ⟨z,m,lo,v,f⟩;have hd:=vF (afp (t:=⟨z,m,lo,v,f⟩) J) ho;have r:dRk g z m lo f (v,l,b)=if b=true then none else if vRk ⟨z,m,lo,v,f⟩=0/\jF ⟨z,m,lo,v,f⟩=g then some ⟨z,m,lo,v,f⟩else none:=rfl
   clear z1 z2 z3 z4 z5 hf;cases b with
   |false =>
    rcases(by
     rcases au v.length N with h1|h1
     .rcases au v.length 41 with h2|h2
      .exact absurd ⟨h1,h2,rfl⟩ H
      .exact .inr ⟨h1,h2⟩
     .exact .inl h1:(N<=v.length)\/(v.length<N/\41<=v.length))with c|c
    all_goals
     by_cases hv:vRk ⟨z,m,lo,v,f⟩=0
     .have y:=y hv J (by show v.length<=_;omega) M
      by_cases he:jF ⟨z,m,lo,v,f⟩=g
      .rw[xA (x:=⟨z,m,lo,v,f⟩) (r.trans (by rw[ag gy];exact ah ⟨hv,he⟩))]
       rw[he]at y
       (repeat' first|refine wQ (Ac j p @id_eq.{1}) ?_|refine cG [0] y ?_|refine tS ?_ ?_<;>intro A|fail)
       all_goals exact rE []
      .rw[jc (r.trans (by rw[ag gy];exact ag fun h=>he h.2))]
       rw[dK he]at hd
       generalize jF ⟨z,m,lo,v,f⟩=E at *
       (repeat' first|refine wQ (Ad j p @hd @id_eq.{1}) ?_|refine cG [0] y ?_|refine tS ?_ ?_<;>intro A|fail)
       all_goals exact rE []
     .have L:=L hv J (by show v.length<=_;omega) M
      rw[jc (r.trans (by rw[ag gy];exact ag fun h=>hv h.1))]
      generalize vRk ⟨z,m,lo,v,f⟩=vv at *
      (repeat' first|refine wQ (Ac j p @id_eq.{1}) ?_|refine cG [0] L ?_|refine tS ?_ ?_<;>intro A|fail)
      all_goals exact rE []
   |true =>
    rw[jc (r.trans (ah rfl))];rcases(Om:(N<=v.length)\/(v.length<N/\41<=v.length)\/(v.length<N/\v.length<41))with c|c|c
    all_goals
     by_cases hv:vRk ⟨z,m,lo,v,f⟩=0
     .have y:=y hv J (by show v.length<=_;omega) M
      generalize jF ⟨z,m,lo,v,f⟩=E at *
      (repeat' first|refine wQ (Ac j p @id_eq.{1}) ?_|refine cG [0] y ?_|refine tS ?_ ?_<;>intro A|fail)
      all_goals exact rE []
     .have L:=L hv J (by show v.length<=_;omega) M
      generalize vRk ⟨z,m,lo,v,f⟩=vv at *
      (repeat' first|refine wQ (Ac j p @id_eq.{1}) ?_|refine cG [0] L ?_|refine tS ?_ ?_<;>intro A|fail)
      all_goals exact rE []
def unZ(l:List Nat):V :=
 if l.length=0 then nO 3 else
 if(ak (l.drop 1)).2.2≠0 then nO (ak (l.drop 1)).2.2 else
 if 1048576<(ak (l.drop 1)).1 then nO 2 else
 if l.length<1+(ak (l.drop 1)).2.1+(ak (l.drop 1)).1+4 then nO 3 else
 if acc (ft l (1+(ak (l.drop 1)).2.1+(ak (l.drop 1)).1))≠ckN (l.take (1+(ak (l.drop 1)).2.1+(ak (l.drop 1)).1))then nO 4 else
 .tup [.c (.int .u8 (l.getD 0 0:Nat)),.sl .nn 1 [],vi (1+(ak (l.drop 1)).2.1+(ak (l.drop 1)).1+4:Nat),vi 0]
def unE(l:List Nat):Nat :=
 if l.length=0 then 3 else
 if(ak (l.drop 1)).2.2≠0 then(ak (l.drop 1)).2.2 else
 if 1048576<(ak (l.drop 1)).1 then 2 else
 if l.length<1+(ak (l.drop 1)).2.1+(ak (l.drop 1)).1+4 then 3 else
 if acc (ft l (1+(ak (l.drop 1)).2.1+(ak (l.drop 1)).1))≠ckN (l.take (1+(ak (l.drop 1)).2.1+(ak (l.drop 1)).1))then 4 else 0
def unU(l:List Nat):Nat:=1+(ak (l.drop 1)).2.1+(ak (l.drop 1)).1
def unB(l:List Nat):List Nat:=(l.take (unU l)).drop (1+(ak (l.drop 1)).2.1)
def unV(l:List Nat):V:=if unE l≠0 then nO (unE l)else .tup [.c (.int .u8 (l.getD 0 0:Nat)),fzb (unB l),vi (unU l+4:Nat),vi 0]
def aoC(l:List Nat)(ho:oct l)(hl:l.length<=2147483648)(H:(ak (l.drop 1)).1=0):Gxx 71 [fzb l] (unZ l):=by
 have a:=aA l
 unfold unZ
 rcases gG l.length with m|m
 .rw[ah m]
  refine gI oW ?_
  exact wR a ae ay
 rw[ag Om]
 have g:=oP (l.drop 1) (eG ho 1) (by simp;omega)
 obtain⟨x1,x2⟩:=Nq (l.drop 1) (eG ho 1)
 unfold lU at g
 have k:=iR l 1
 have y:=lY l 0 m
 generalize ak (l.drop 1)=q at *
 obtain⟨x,u,e⟩:=q
 simp only at *
 by_cases he:e=0
 .subst he
  rw[ag Aa]
  rcases au 1048576 x with h1|h1
  .exact absurd h1 Om
  rw[ag (show ¬1048576<x by omega)]
  rcases au l.length (1+u+x+4)with h2|h2
  .rw[ah h2]
   refine gI oW ?_
   exact wR (Ac @pgv a k) g ay
  rw[ag (show ¬l.length<1+u+x+4 by omega)]
  have t:=Jy (l:=l) (e:=1+u+x) Om
  have f:=NU ho (1+u+x)
  have v:((bv l).take (1+u+x+4)).drop (1+u+x)=bv (ft l (1+u+x)):=by rw[xX,iR];rfl
  have b:=aA (ft l (1+u+x))
  rw[t]at b
  have c:=xX l (1+u+x)
  have j:=iR (l.take (1+u+x)) (1+u)
  have P:Int.toNat (1+(u:Int)+(x:Int)+4)=1+u+x+4:=Om
  have t2:Int.toNat (1+(u:Int)+(x:Int))=1+u+x:=Om
  have I:Int.toNat (1+(u:Int))=1+u:=Om
  have G:(l.take (1+u+x)).length=1+u+x:=by rw[bI];omega
  have r:((l.take (1+u+x)).drop (1+u)).length=x:=by rw[eH,G];omega
  have d:=aA ((l.take (1+u+x)).drop (1+u))
  rw[r]at d
  have p:bv ((l.take (1+u+x)).drop (1+u))=[]:=List.length_eq_zero_iff.1 (d.trans H)
  have K:=Pq (l.take (1+u+x)) (vw ho _) Om
  have M:=Ec (l.take (1+u+x))
  refine gI oW ?_
  refine wS (Ah @pgv a k P @t2 I v b) g ?_
  refine axo 4 (fun i=>[(0,fzb l),(7,vi (u:Nat)),(8,vi (1+(u:Int)+(x:Int))),(9,.c (.int .u32 (acc ((ft l (1+u+x)).take i):Nat))),(46,fzb (ft l (1+u+x))),(47,vi 4),(48,vi i)]) [] 0 [] [] ?_ ?_
  .exact kY
  .intro i hi
   replace hi:i<=4:=hi
   have hb:=kw f i
   have ha:=D7 f (i:=i) Om
   rcases au i 4 with E|N
   .have hp:256^i<=256^3:=qL Om Om
    have A:=lY (ft l (1+u+x)) i Om
    have L:=I4 (s:=ft l (1+u+x)) (i:=i) Om
    have J:=Xt (acc ((ft l (1+u+x)).take i)) ((ft l (1+u+x)).getD i 0) Om hb
    rw[L]at J
    refine wT (Ac b A J) ?_
    exact bY (i+1) [] [] E
   .have C:i=4:=Om
    subst C
    have e:(ft l (1+u+x)).take 4=ft l (1+u+x):=oz Om
    rw[e]at *
    generalize ft l (1+u+x)=F at *
    by_cases n:acc F=ckN (l.take (1+u+x))
    .rw[ag (fun h=>h n)]
     rw[n]
     exact wR (A8 @pgv b a @t2 I c j p (aI y @abp)) K ay
    .rw[ah n]
     exact wR (Af @pgv b a @t2 I c) K ay
 .rw[ah he]
  refine gI oW ?_
  exact wR (Ac @pgv a k) g ay
def aoB(l:List Nat)(ho:oct l)(hl:l.length<=2147483648):Gxx 71 [fzb l] (unV l):=by
 by_cases a:(ak (l.drop 1)).1=0
 .have h:=aoC l ho hl a;have e:unB l=[]:=by unfold unB unU;rw[a];exact List.drop_eq_nil_iff.2 (by rw[bI];omega)
  refine h.fzr ?_ ?_
  .unfold unZ;(repeat' split)<;>rfl
  .have:(unZ l).erase=unV l:=by unfold unV unZ unE;rw[e];(repeat' split)<;>first|rfl|(exfalso;omega)|(exfalso;simp_all;done)|skip
   rw[this];exact aC _
 .have h:=aoA l ho hl a;refine h.fzr ?_ ?_
  .unfold unF;(repeat' split)<;>rfl
  .have:(unF l).erase=unV l:=by unfold unV unF unE unB unU;(repeat' split)<;>first|rfl|(exfalso;omega)|(exfalso;simp_all;done)|skip
   rw[this];exact aC _
def O8{a b:List Nat}(h:oct (a++b)):oct a:=fun x hx=>h x (iG.2 (.inl hx))
def Dk{a b:List Nat}(h:oct (a++b)):oct b:=fun x hx=>h x (iG.2 (.inr hx))
def Kw{α:Type}{f:α->List Nat}{l:List α}(h:oct (l.flatMap f)):∀x∈l,oct (f x):=fun x hx b hb=>h b (List.mem_flatMap.2 ⟨x,hx,hb⟩)
def Nu{l:List Nat}{x:Tp}(h:wH l=some x):vTp x=0/\jG x=l:=by grind[wH,dTp,Us]
def Nl{l:List Nat}{x:Fq}(h:wE l=some x):vFq x=0/\jE x=l:=by grind[wE,dFq,Un]
def Ns{l:List Nat}{x:Rk}(h:wF l=some x):vRk x=0/\jF x=l:=by grind[wF,dRk,Ur]
def TK{l:List Nat}{x:Tl}(h:uK l=some x):vTl x=0/\gX x=l:=by grind[uK,ED]
def Nk{l:List Nat}{x:Cm}(ho:oct l)(h:wC l=some x):(vCm x=0/\jD x=l)/\0<=x.s/\x.s<18446744073709551616:=by grind[wC,dCm,eCm,fCm,Z8,vG]
def Np{l:List Nat}{x:Ll}(ho:oct l)(h:sO l=some x):vLl x=0/\0<=x.s/\x.s<18446744073709551616:=by grind[sO,dLl,Jw,Ep,eG]
def afr{x:Tp}(h:oct (jG x)):octE x.e:=fun e he=>Dk (O8 (O8 (Kw (Dk h) e he)))
def afm{x:Fq}(h:oct (jE x)):octE x.e:=fun e he=>Dk (O8 (Kw (Dk h) e he))
def afo{x:Rk}(h:oct (jF x)):∀l∈x.v,octL l:=fun l hl k hk=>Dk (Kw (Dk (Kw (Dk h) l hl)) k hk)
def skK(k:Int)(a:Tl)(b:Cm)(c:Ll)(d:Tp)(e:Fq)(f:Rk):Sk:=⟨⟨k,0,0,0⟩,a,b,c,d,e,f⟩
def iD(s:Sk):Sk:=⟨oQ s,s.tl,s.cm,s.ll,s.tp,s.fq,s.rk⟩
def jC(k:Nat)(l:List Nat):Option Sk :=
 if k=1 then(uK l).map fun x=>skK 1 x Cm.o Ll.o Tp.o Fq.o Rk.o else
 if k=2 then(wC l).map fun x=>skK 2 Tl.o x Ll.o Tp.o Fq.o Rk.o else
 if k=3 then(sO l).map fun x=>skK 3 Tl.o Cm.o x Tp.o Fq.o Rk.o else
 if k=4 then(wH l).map fun x=>skK 4 Tl.o Cm.o Ll.o x Fq.o Rk.o else
 if k=5 then(wE l).map fun x=>skK 5 Tl.o Cm.o Ll.o Tp.o x Rk.o else
 if k=6 then(wF l).map fun x=>skK 6 Tl.o Cm.o Ll.o Tp.o Fq.o x else none
def NK(l:List Nat):Option Sk->Sk×Nat
 |none=>(Sk.o,2)
 |some s=>if vSk (iD s)=0/\dw (iD s)=l then(iD s,0)else(Sk.o,2)
def fA(l:List Nat):Sk×Nat :=
 if unE l≠0 then(Sk.o,unE l)else
 if ¬(l.getD 0 0=83/\unU l+4=l.length/\(ak (unB l)).2.2=0)then(Sk.o,2)else
 NK l (jC (ak (unB l)).1 ((unB l).drop (ak (unB l)).2.1))
def rSk(r:Sk×Nat):V:=.tup [.agg (skF r.1),vi (r.2:Nat)]
def ru{f:FuncId}{args:List V}{n:Nat}{r:Sk×Nat}(a:r=(Sk.o,n))(h:Gxx f args (.tup [.agg (skC Sk.o nls nls nls nls nls),vi (n:Nat)])):Gxx f args (rSk r):=by rw[a];exact Good.wkt h ⟨Lc,aC _,trivial⟩
def aaD:(0:Int)<=0/\(0:Int)<18446744073709551616:=Om
theorem tK:octE []:=fun _ h=>nomatch h
def fnK(k:Nat):Nat:=if k=1 then 73 else if k=2 then 74 else if k=3 then 75 else if k=4 then 76 else if k=5 then 77 else 78
def CG(k:Nat)(s:Sk):V:=if k=1 then .agg (tlF s.tl)else if k=2 then .agg (cmF s.cm)else if k=3 then .agg (llF s.ll)else if k=4 then .agg (tpF s.tp)else if k=5 then .agg (fqF s.fq)else .agg (rkF s.rk)
def Uy{F:Nat->FuncId}{R:List Nat}(h1:Gxx (F 1) [fzb R] (oV tlF Tl.o (uK R)))(h2:Gxx (F 2) [fzb R] (oV cmF Cm.o (wC R)))(h3:Gxx (F 3) [fzb R] (oV llF Ll.o (sO R)))(h4:Gxx (F 4) [fzb R] (oV tpF Tp.o (wH R)))
  (h5:Gxx (F 5) [fzb R] (oV fqF Fq.o (wE R))) (h6:Gxx (F 6) [fzb R] (oV rkF Rk.o (wF R))) (oR:oct R) (k:Nat) (hk:k=1\/k=2\/k=3\/k=4\/k=5\/k=6):(jC k R=none/\Gxx (F k) [fzb R] (.tup [CG k Sk.o,vi 2])) \/
  ∃s:Sk,jC k R=some s/\s.p=⟨k,0,0,0⟩/\skU s/\(iD s).Ok/\Gxx (F k) [fzb R] (.tup [CG k s,vi 0]):=by
 have z:=aaD
 have n:=fun l (h:l∈([]:List (List (List Nat))))=>(nomatch h:octL l)
 have m:=fun l (h:l∈([]:List (List (List Nat))))=>(nomatch h:l.length<=1000000)
 rcases hk with rfl|rfl|rfl|rfl|rfl|rfl
 .cases hd:uK R with
  |none=>rw[vg hd]at h1;exact .inl ⟨by simp[jC,hd],h1⟩
  |some x =>rw[AQ hd]at h1;exact .inr ⟨skK 1 x Cm.o Ll.o Tp.o Fq.o Rk.o,by simp[jC,hd],rfl,by simp[skU,skK],⟨z,z,z,ax _,ax _,tK,ax _,tK,ax _,n,ax _,m⟩,h1⟩
 .cases hd:wC R with
  |none=>rw[vg hd]at h2;exact .inl ⟨by simp[jC,hd],h2⟩
  |some x =>rw[AQ hd]at h2;obtain⟨⟨g1,_⟩,hs⟩:=Nk oR hd;obtain⟨j1,j2,j3,_⟩:=Bv g1;have hm:=xx j1 j2;exact .inr ⟨skK 2 Tl.o x Ll.o Tp.o Fq.o Rk.o,by simp[jC,hd],rfl,by simp[skU,skK],⟨hs,hs,z,by show x.c.length<=_;omega,ax _,tK,ax _,tK,ax _,n,ax _,m⟩,h2⟩
 .cases hd:sO R with
  |none=>rw[vg hd]at h3;exact .inl ⟨by simp[jC,hd],h3⟩
  |some x =>rw[AQ hd]at h3;obtain⟨g1,hs⟩:=Np oR hd;obtain⟨j1,j2,_⟩:=Bz g1;obtain⟨_,hm,_⟩:=yX j1;exact .inr ⟨skK 3 Tl.o Cm.o x Tp.o Fq.o Rk.o,by simp[jC,hd],rfl,by simp[skU,skK],⟨hs,z,hs,ax _,by show x.r.length<=_;omega,tK,ax _,tK,ax _,n,ax _,m⟩,h3⟩
 .cases hd:wH R with
  |none=>rw[vg hd]at h4;exact .inl ⟨by simp[jC,hd],h4⟩
  |some x =>rw[AQ hd]at h4;obtain⟨g1,he⟩:=Nu hd;obtain⟨j1,_,j2,_⟩:=zo g1;exact .inr ⟨skK 4 Tl.o Cm.o Ll.o x Fq.o Rk.o,by simp[jC,hd],rfl,by simp[skU,skK],⟨z,z,z,ax _,ax _,afr (x:=x) (by rw[he];exact oR),by show x.e.length<=_;omega,tK,ax _,n,ax _,m⟩,h4⟩
 .cases hd:wE R with
  |none=>rw[vg hd]at h5;exact .inl ⟨by simp[jC,hd],h5⟩
  |some x =>rw[AQ hd]at h5;obtain⟨g1,he⟩:=Nl hd;obtain⟨j1,_,_,j2,_⟩:=zl g1;exact .inr ⟨skK 5 Tl.o Cm.o Ll.o Tp.o x Rk.o,by simp[jC,hd],rfl,by simp[skU,skK],⟨z,z,z,ax _,ax _,tK,ax _,afm (x:=x) (by rw[he];exact oR),by show x.e.length<=_;omega,n,ax _,m⟩,h5⟩
 .cases hd:wF R with
  |none=>rw[vg hd]at h6;exact .inl ⟨by simp[jC,hd],h6⟩
  |some x =>rw[AQ hd]at h6;obtain⟨g1,he⟩:=Ns hd;obtain⟨_,_,_,j2,j3⟩:=zn g1;exact .inr ⟨skK 6 Tl.o Cm.o Ll.o Tp.o Fq.o x,by simp[jC,hd],rfl,by simp[skU,skK],⟨z,z,z,ax _,ax _,tK,ax _,tK,ax _,afo (x:=x) (by rw[he];exact oR),by show x.v.length<=_;omega,fun l hl=>by obtain⟨i,hi,he⟩:=nz [] hl;rw[<-he];exact iZ (j3 i) dX⟩,h6⟩
def anS(l B:List Nat)(u k:Nat)(hk:k=1\/k=2\/k=3\/k=4\/k=5\/k=6)(C:Gxx 71 [fzb l] (.tup [.c (.int .u8 83),fzb B,vi (l.length:Nat),vi 0]))(A:Gxx 72 [fzb B] (.tup [vi k,vi (u:Nat),vi 0]))(M:u<=B.length)(L:oct B)(N:B.length<=900000)(ol:oct l) :
  Gxx 28 [fzb l] (rSk (NK l (jC k (B.drop u)))):=by
 have m:=fun(l:List Nat) s d K=>x8 (P:=Tryz.prog) s d 60 9 .fz l K Za Za Za Za
 have b0:=aA B
 have bL:=aA l
 have I:=iR B u
 have r:=eG L u
 have Q:(B.drop u).length<=900000:=by rw[eH];omega
 generalize B.drop u=R at *
 rcases Uy (F:=fnK) (anX R r Om) (anT R r Om) (anV R r Om) (anY R r Om) (anU R r Om) (anW R r Om) r k hk with⟨t,j⟩|⟨s,t,hp,i,ok,j⟩
 .rw[t];refine ru (n:=2) rfl ?_;rcases hk with rfl|rfl|rfl|rfl|rfl|rfl
  all_goals
   simp only[fnK,CG,Nat.reduceEqDiff,reduceIte]at j
   refine gI oW ?_
   exact wR (Ae @pgv @b0 @bL I m) (Ac C A j) ay
 .rw[t];have q:s.p.k=1\/s.p.k=2\/s.p.k=3\/s.p.k=4\/s.p.k=5\/s.p.k=6:=by rw[hp];simp only;omega
  have g:skU (iD s):=i;have y:=Good.wk (args':=[.agg (skN s)]) (XX s q) ⟨FP i,trivial⟩;have x:=Good.wk (args':=[.agg (skN (iD s))]) (an6 (iD s) ok) ⟨FP g,trivial⟩;have G:=FP g;have H:=vF (Ny (iD s) ok).1 ol;show Pg.Good _ _ _ (rSk (if vSk (iD s)=0/\dw (iD s)=l then(iD s,0)else(Sk.o,2)));by_cases hv:vSk (iD s)=0/\dw (iD s)=l
  .rw[ah hv];rw[hv.1,hv.2]at x;refine Good.wkt (vs:=[.agg (skN (iD s)),vi 0]) ?_ ⟨G,aC _,trivial⟩;clear hv H G ok g q t;obtain⟨p,a,b,c,d,e,f⟩:=s;simp only at hp;subst hp;unfold skU at i;rcases hk with rfl|rfl|rfl|rfl|rfl|rfl
   all_goals
    simp[skN,skC,iD,oQ,fnK,CG]at j y x i⊢
    obtain⟨rfl,rfl,rfl,rfl,rfl⟩:=i
    refine gI oW ?_
    exact wR (Ae @pgv @b0 @bL I m) (Ae C A j y x) ay
  .rw[ag hv];refine ru (n:=2) rfl ?_;have J:vSk (iD s)=0->decide (sB (dw (iD s))=sB l)=false:=fun h=>by rw[H];exact dK fun h2=>hv ⟨h,h2⟩
   generalize vSk (iD s)=v,dw (iD s)=E at *;clear hv H G ok g q t;obtain⟨p,a,b,c,d,e,f⟩:=s;simp only at hp;subst hp;unfold skU at i;rcases hk with rfl|rfl|rfl|rfl|rfl|rfl
   all_goals
    simp[skN,skC,iD,oQ,fnK,CG]at j y x i
    obtain⟨rfl,rfl,rfl,rfl,rfl⟩:=i
    refine gI oW ?_
    exact wR (Af @pgv @b0 @bL I m J) (Ae C A j y x) ay
def Pv(l:List Nat)(ho:oct l)(hl:l.length<=900000):Gxx 28 [fzb l] (rSk (fA l)):=by
 have a:=aoB l ho Om;unfold unV at a;have d:oct (unB l):=eG (vw ho _) _;have r:(unB l).length<=l.length:=by unfold unB;rw[eH,bI];omega
 have b:=oP (unB l) d Om;obtain⟨g,m,i⟩:=lS (unB l) d;unfold lU at b;unfold fA;have b0:=aA (unB l);have bL:=aA l;have x:=fun u=>iR (unB l) u
 have p:=kw ho 0;generalize unB l=B,l.getD 0 0=t,unU l=us,unE l=e at *;by_cases c:e=0
 case neg =>
  rw[ah c]
  rw[ah c]at a
  refine ru (n:=e) rfl ?_
  unfold nO at a
  refine gI oW ?_
  exact wR ae a ay
 case pos =>
  rw[ag (fun h=>h c)]
  rw[ag (fun h=>h c)]at a
  by_cases h1:t=83
  case neg =>
   rw[ah (fun h=>h1 h.1)]
   refine ru (n:=2) rfl ?_
   refine gI oW ?_
   exact wR (aI @bL @b0) (aI a b) ay
  case pos =>
   subst h1
   by_cases h2:us+4=l.length
   case neg =>
    rw[ah (fun h=>h2 h.2.1)]
    refine ru (n:=2) rfl ?_
    refine gI oW ?_
    exact wR (aI @bL @b0) (aI a b) ay
   case pos =>
    rw[h2]at a
    generalize j:ak B=q at *
    obtain⟨k,u,f⟩:=q
    simp only at b g m i⊢
    by_cases h3:f=0
    case neg =>
     rw[ah (fun h=>h3 h.2.2)]
     refine ru (n:=2) rfl ?_
     refine gI oW ?_
     exact wR (aI @bL @b0) (aI a b) ay
    case pos =>
     subst h3
     rw[ag (fun h=>h ⟨trivial,h2,rfl⟩)]
     by_cases hk:k=1\/k=2\/k=3\/k=4\/k=5\/k=6
     case pos =>
      exact anS l B u k hk a b m d Om ho
     case neg =>
      have e:jC k (B.drop u)=none:=by
       unfold jC
       rw[ag Om,ag Om,ag Om,ag Om,ag Om,ag Om]
      rw[e]
      refine ru (n:=2) rfl ?_
      refine gI oW ?_
      exact wR (Ad @pgv @bL @b0 x) (aI a b) ay
abbrev skZ:List V:=[y0,y0,y0,yu,y0,y0,yf,y0,y0,yu,yn,yf,y0,yu,yn,y0,y0,yn,yf,y0,y0,y0,yn,yf,y0,y0,y0,yn,yf]
abbrev mcF(base:Int)(pin:Bool)(fs:List Int)(X Y:List V):List V:=vi 0::vi base::vb pin :: .sl .fz 1 (fs.map vi)::vi 0::(X++(Y++[vi 0,vi 0,vi 0,vi 0,vi 0,vi 0,nls,vb false]))
abbrev mcZ:List V:=[y0,y0,yf,yn,y0,y0,y0,y0,yu,y0,y0,yf,y0,y0,yu,yn,yf,y0,yu,yn,y0,y0,yn,yf,y0,y0,y0,yn,yf,y0,y0,y0,yn,yf,y0,y0,y0,yu,y0,y0,yf,y0,y0,yu,yn,yf,y0,yu,yn,y0,y0,yn,yf,y0,y0,y0,yn,yf,y0,y0,y0,yn,yf,y0,y0,y0,y0,y0,y0,yn,yf]
def OkS.see{Q:List Nat->Prop}{s:Sto}(H:OkS Q s){k:List Nat}(hk:(lkA k s.m s.bi).2=true):∃i x d,AtV s k s.m i x/\Q d/\VcP s.pa (verOf s i x).p d/\(verOf s i x).p.length<=65536:=by obtain⟨i,x,j,h,_⟩:=H.at hk;obtain⟨_,_,h3,d,h4,h5⟩:=H.ov _ (iI (0,[]) h.il) _ (iI vr0 h.xl);grind
def Po{Q:List Nat->Prop}{s:Sto}(H:OkS Q s)(hQ:∀d,Q d->oct d/\d.length<=65536){k:List Nat}{i x:Nat}{d:List Nat}(ha:AtV s k s.m i x)(hd:Q d)(hv:VcP s.pa (verOf s i x).p d)(hp:(verOf s i x).p.length<=65536)(u:Sto)(z:Int)(kP:Pgm 29 [vi s.m] s u (vi z)) :
  Pgm 9 [.sl .fz 1 (ssV [k])] s u (.tup [.agg (if z=0 then mcF s.m true [(verOf s i x).f] (skF (fA d).1) skZ else mcZ),vi z]):=by
 intro e bx n h b N f
 refine GoodE.fr (only (N.D b) bx) f.fr (N.D b) _ SMod.st ?_ e bx h (fun b x hb=>(iC hb).2)
 clear e h
 intro e bx' h hE hB hH hx
 replace f:=f.on hx
 clear hx
 have hm:=H.m
 have hs:=H.sml
 have G:=ut s hm.1
 have F:=BV H.pn hv
 have S:∀B,(∀k,k<n->B k=bx' k)->StAt B n b s N:=fun B h2=>f.of (az _) fun k hk=>h2 k (f.ltD k hk)
 have q1:=fun B h2=>(S B h2).look fun e m h A=>KF e B m h A hs H.on k s.m i x G ha
 have q2:=fun B h2=>(S B h2).look fun e m h A=>PG e B m h A hs H.on H.pn k s.m i x G ha (jsO s.pa (verOf s i x).p) (AX hv.num fun q hq=>(H.pp q hq).1) Om
 rw[F]at q2
 have q3:Gxx 28 [fzb d] (.tup [.agg (skF (fA d).1),vi ((fA d).2:Nat)]):=Pv d (hQ d hd).1 (by have:=(hQ d hd).2;omega)
 generalize(fA d).1=X at *
 generalize(fA d).2=w at *
 generalize(verOf s i x).f=vf at *
 have q4:=fun B h2=>(S B h2).look fun e m h A=>KC e B m h A
 have hbn:=f.lt.1
 have g:(n=n+1)=False:=eq_false Om
 have j:(n+1=n)=False:=eq_false Om
 have l:(n=n+1+1)=False:=eq_false Om
 have p:(n+1+1=n)=False:=eq_false Om
 have t:(n+1=n+1+1)=False:=eq_false Om
 have v:(n+1+1=n+1)=False:=eq_false Om
 have R:df (Go.Pg.frz (n+4)) bx'=bx':=uZ hB Om
 refine lg (fJ [15] mix) Tryz.func9 rfl Tryz.results9 rfl Za (fP Za) ?_
 (repeat' first|refine wU (A8 @pgE @aX @aK @bu @bz g j l (Ac p t v)) ?_|(refine tC ?_;refine oC _ ((q4 _ (by intro k hk;simp only[upd];repeat rw[ag Om]))) rfl ?_)|refine tE ?_ ?_<;>intro y|fail)
 refine tu 2 ?_
 (repeat' first|refine wED (A8 @pgE @aX @pgu @bu @bz g j l (Ac p t v)) q3 ?_|(refine tC ?_;first|refine oC _ ((q1 _ (by intro k hk;simp only[upd];repeat rw[ag Om]))) rfl ?_|refine oC _ ((q2 _ (by intro k hk;simp only[upd];repeat rw[ag Om]))) rfl ?_)|refine tE ?_ ?_<;>intro y|fail)
 refine vT ?_
 (repeat' first|refine wED (A8 @pgE @aX @pgu @bu @bz g j l (Ac p t v)) q3 ?_|refine tE ?_ ?_<;>intro y|fail)
 obtain⟨P,C⟩:∃P:List Int,P=[vf]:=⟨_,rfl⟩
 obtain⟨Y,E⟩:∃Y:List V,Y=skZ:=⟨_,rfl⟩
 refine Jg ⟨ja [(0,.ref b 0),(4,.ref n 0),(6,.ref (n+1) 0),(7,.ref (n+1+1) 0),(69,.ref b 0),(71,vi s.m)],upd (upd (upd bx' n (some (62,mcZ))) (n+1) (some (62,mcF s.m true P skZ skZ))) (n+1+1) (some (93,skF X++Y)),n+6,bM e h⟩ ((DW (id:=n+4) (kT (jl hE hH) Om)).trans (Gg ?_ (fun c x' a => ?_) (by first|omega|(split<;>omega)))) rfl (kP _ _ _ _ b N (f.of Om fun k hk => ?_)) rfl ?_
 .simp only[zF,zG,pgo,simprocAttr,jb,yt,if_true,ql];exact⟨dJ _,dJ _,dJ _,dJ _,dJ _,dJ _⟩
 ·(try simp only[fV,J3 hB (show n<=n+1+1+1+1 by omega),R]);subst C;subst E;simp only[upd]at a⊢;by_cases h2:c=n+1+1
  .simp only[ah h2]at a⊢;cases a
   exact⟨_,rfl,rfl,rY _⟩
  .simp only[ag h2]at a⊢;by_cases h1:c=n+1
   .simp only[ah h1]at a⊢;cases a
    simp only[dm,dS,zX];exact⟨_,rfl,rfl,rY _⟩
   .simp only[ag h1]at a⊢;by_cases Z:c=n
    .simp only[ah Z]at a⊢;cases a
     exact⟨_,rfl,rfl,rY _⟩
    .simp only[ag Z]at a⊢;exact⟨_,a,rfl,rY _⟩
 .have:=f.ltD k hk;simp only[upd];repeat rw[ag Om]
 rintro s' r ⟨B1,m1,rfl,c1,rfl,c2,N',L,M⟩
 subst C
 subst E
 have I:=c1 n Om fun hm=>by have:=f.ltD n hm;omega
 have J:=c1 (n+1) Om fun hm=>by have:=f.ltD (n+1) hm;omega
 have K:=c1 (n+1+1) Om fun hm=>by have:=f.ltD (n+1+1) hm;omega
 simp only[upd,g,j,l,p,t,v,if_true,if_false]at I J K
 by_cases T:z=0
 .subst T;rw[ah rfl];(repeat' first|refine wV (A8 @pgE @aX @bu @bz g j l p (Ae t v I J K)) ?_|refine tE ?_ ?_<;>intro y|fail);refine oh mix ?_;(repeat'(first|(simp(disch:=first|exact dqz|fail) only[pgz,simprocAttr,pgE,alF,xB,bu,bz,g,j,l,p,t,v,I,J,K])|(refine tE ?_ ?_<;>intro y)|refine xK ?_|fail));refine Jh [n+1+1,n+1] [.q,.rb 0,.q,.rb 0,.q,.xb 1,.q,.xb 1] Aa ?_ rfl Za;(repeat' first|refine wV (A8 @pgE @bu @bz g j l p t (Ad v I J K)) ?_|refine tE ?_ ?_<;>intro y|fail);refine kz (SMod.here (B:=_) (m:=m1+8) (N':=N') Om (fun k hk => ?_) (M.of Om fun k hk => ?_) fun k k1 W => ?_) (ng ?_ (aP _ _) (aQ _ _) rfl (az _))
  .rcases L k hk with h|h
   .exact .inl h
   .exact .inr Om
  .have h1:=M.ltD k hk;have h2:k<n\/n+6<=k:=(L k hk).imp (f.ltD k) id;simp only[upd];repeat rw[ag Om]
  .simp only[upd];repeat rw[ag Om]
   rw[c1 k Om W];simp only[upd];repeat rw[ag Om]
  .simp(disch:=first|exact dqz|fail) only[pgz,simprocAttr,pgr];rfl
 .rw[ag T];have U:(z=0)=False:=eq_false T;(repeat' first|refine wV (A8 @pgE @aX @bu @bz g j l p (Af t v I J K U)) ?_|refine tE ?_ ?_<;>intro y|fail);refine kz (SMod.here (B:=_) (m:=m1) (N':=N') Om (fun k hk => ?_) (M.of Om fun k hk => ?_) fun k k1 W => ?_) (ng ?_ (aP _ _) (aQ _ _) rfl (az _))
  .rcases L k hk with h|h
   .exact .inl h
   .exact .inr Om
  .have h1:=M.ltD k hk;have h2:k<n\/n+6<=k:=(L k hk).imp (f.ltD k) id;simp only[upd];repeat rw[ag Om]
  .simp only[upd];repeat rw[ag Om]
   rw[c1 k Om W];simp only[upd];repeat rw[ag Om]
  .simp(disch:=first|exact dqz|fail) only[pgz,simprocAttr,pgr]
def JA(l:List Nat)(ho:oct l)(hl:l.length<=2147483648):Gxx 88 [fzb l] (lU (ak l)):=by
 have h:=aA l
 unfold ak
 rcases gG l.length with g|g
 .rw[ah g]
  refine gI oW ?_
  exact wR h ae ay
 rw[ag Om]
 have A:=kw ho 0
 have b:=lY l 0 g
 generalize C:l.getD 0 0=c at *
 rcases au c 248 with h1|h1
 .rw[ah h1]
  refine gI oW ?_
  exact wR (aI h b) ae ay
 rw[ag Om]
 obtain⟨k,rfl⟩:∃k,c=k+247:=⟨c-247,by omega⟩
 have t:(k:Int)+247-247=(k:Int):=Om
 have f:k+247-246=k+1:=Om
 rw[f]
 rcases au l.length (k+1)with h2|h2
 .rw[ah h2]
  refine gI oW ?_
  exact wR (Ac h b t) ae ay
 rw[ag Om]
 have a:=lY l 1 Om
 have j:acc (mid l 1)=0:=by
  have:=I5 (l:=l) (i:=1) ho Om
  simpa using this
 refine gI oW ?_
 refine wT (Ac h b t) ?_
 refine aJ (fun i:Nat=>mkA [(0,fzb l),(5,vi k),(6,.c (.int .u64 (acc (mid l i):Nat))),(7,vi i)] [] 0 (fun _=>.top)) (fun i=>1<=i/\i<=k+1) (fun i=>k+1-i) 1 [] [] ?_ ⟨az 1,by omega⟩ ?_
 ·(refine kM ?_ ?_;(repeat'(first|exact ae|refine dQ _ _ rfl rfl ?_ ?_));all_goals(try simp only[pgm,simprocAttr]);all_goals(try(repeat' apply aI));all_goals(try exact gz))
  all_goals first|exact kZ (by rw[j];rfl)|exact eF Om|skip
 .rintro i ⟨n,hi⟩
  have hb:=kw ho i
  have ha:=I5 (l:=l) (i:=i) ho Om
  rcases au i (k+1)with q|E
  .have hp:256^(i-1)<=256^7:=qL Om Om
   have m:=lY l i Om
   have u:acc (mid l i)*256+l.getD i 0=acc (mid l (i+1)):=by rw[WQ (l:=l) (i:=i) Om Om,zI]
   have s:=KA (acc (mid l i)) (l.getD i 0) Om hb
   rw[u]at s
   refine wT (Ac h m s) ?_
   exact bY (i+1) [] [] ⟨Nat.le_succ_of_le n,q⟩
  .have p:i=k+1:=Om
   subst p
   have hp:256^(k+1-1)<=256^8:=qL Om Om
   have v:=kw ho 1
   generalize acc (mid l (k+1))=x at *
   generalize l.getD 1 0=y at *
   rcases gG y with r|r
   .rw[ah (.inl r)]
    subst r
    exact wR (aI h a) ae ay
   .rcases au x 248 with hx|hx
    .rw[ah (.inr (.inl hx))]
     exact wR (aI h a) ae ay
    .rcases au 4611686018427387904 x with d|d
     .rw[ah (.inr (.inr d))]
      exact wR (aI h a) ae ay
     .rw[ag Om]
      (repeat' first|refine wQ (aI h a) ?_|refine tS ?_ ?_<;>intro A|fail)
      all_goals exact rE []
def ahe(l:List Nat)(ho:oct l)(hl:l.length<=2147483648):Gxx 263 [fzb l] (DR (dV l)):=by
 have h:=aA l
 unfold dV
 rcases au l.length 8 with h1|h1
 .rw[ah h1]
  refine gI oW ?_
  exact wR h ae ay
 rw[ag Om]
 refine gI oW ?_
 refine wT h ?_
 refine axo 8 (fun i=>[(0,fzb l),(5,.c (.int .u64 (acc (l.take i):Nat))),(6,vi i)]) [] 0 [] [] ?_ ?_
 .exact kY
 .intro i hi
  replace hi:i<=8:=hi
  have hb:=kw ho i
  have ha:=D7 ho (i:=i) Om
  rcases au i 8 with c|g
  .have hp:256^i<=256^7:=qL Om Om
   have a:=lY l i Om
   have f:=I4 (s:=l) (i:=i) Om
   have d:=KA (acc (l.take i)) (l.getD i 0) Om hb
   rw[f]at d
   refine wT (Ac h a d) ?_
   exact bY (i+1) [] [] c
  .have b:i=8:=Om
   subst b
   exact wR h ae ay
def ahb(l:List Nat)(ho:oct l)(hl:l.length<=2147483648):Gxx 264 [fzb l] (zi (bQ l)):=by
 have h:=aA l;have h1:=JA l ho hl;obtain⟨g,i,j⟩:=lS l ho;unfold lU at h1;unfold bQ;generalize ak l=q at *;obtain⟨n,k,e⟩:=q;simp only at *;by_cases he:e=0
 .subst he;rw[ag Aa];rcases au 65536 n with h2|h2
  .rw[ah h2];refine gI oW ?_;exact wR h h1 ay
  .rw[ag Om];rcases au (l.length-k) n with h3|h3
   .rw[ah h3];refine gI oW ?_;exact wR h h1 ay
   .rw[ag Om];have c:((bv l).take (k+n)).drop k=bv ((l.drop k).take n):=by rw[xX,iR,sD];congr 2;omega
    have a:Int.toNat ((k:Int)+(n:Int))=k+n:=Om;have b:=fun s d K=>x8 (P:=Tryz.prog) s d 60 9 .fz ((l.drop k).take n) K Za Za Za Za
    refine gI oW ?_;(repeat' first|refine wP (Ae @pgv h a c b) h1 ?_|refine tS ?_ ?_<;>intro f|fail);all_goals exact rE []
 .rw[ah he];refine gI oW ?_;exact wR h h1 ay
def aaE:∀(n:Nat) (m:List Nat),m.length=n->m.getD 0 0≠0->1<=acc m:=by
 intro n
 induction n with
 |zero=>intro m h a;rw[List.length_eq_zero_iff.1 h]at a;exact absurd rfl a
 |succ n i =>
  intro m h a;rcases Ro m with rfl|⟨L,b,rfl⟩
  .simp at h
  .grind[zI]
def ab6:∀(f:Nat) (m:List Nat),m.length<=f->oct m->(m≠[]->m.getD 0 0≠0)->beF f (acc m)=m:=by
 intro f
 induction f with
 |zero=>intro m h _ _;rw[List.length_eq_zero_iff.1 (Nat.le_zero.1 h)];rfl
 |succ f i =>
  intro m h ho a;rcases Ro m with rfl|⟨L,b,rfl⟩
  .rfl
  .rw[List.concat_eq_append]at *;have hb:=ho b Aa;have hp:=aaE _ (L++[b]) rfl (a Aa);have c:=zI L b;unfold beF
   rw[ag Om,c,show(acc L*256+b) / 256=acc L by omega,show(acc L*256+b)%256=b by omega,i L (by simpa using h) (fun x hx=>ho x (by simp[hx])) (fun d=>by
    have:=a Aa
    cases L with
    |nil=>exact absurd rfl d
    |cons x y=>simpa using this)]
theorem BZ(l:List Nat)(ho:oct l)(h:(ak l).2.2=0):l=ai (ak l).1++l.drop (ak l).2.1:=by
 unfold ak at h⊢;have m:=kw ho 0;split
 .grind
 .rename_i h1;rw[ag h1]at h
  have el:l=l.getD 0 0::l.drop 1:=by
   cases l with
   |nil=>exact absurd rfl h1
   |cons a r=>rfl
  split
  .rename_i h2;simp only;grind[ai]
  .rename_i h2;rw[ag h2]at h;split
   .grind
   .rename_i h3;rw[ag h3]at h;split
    .grind
    .rename_i h4;simp only[not_or,Nat.not_lt]at h4;obtain⟨h4,h5,i⟩:=h4;simp only;generalize j:l.getD 0 0=c at *;obtain⟨k,rfl⟩:∃k,c=k+248:=⟨c-248,by omega⟩;have b:k+248-246=k+2:=Om;have d:k+2<=l.length:=Om;simp only[b]at h5 i⊢;have g:(mid l (k+2)).length=k+1:=by rw[O1 d];omega
     have f:=ab6 8 (mid l (k+2)) Om (WR ho _) (fun _=>by rw[WP Om];exact h4);have hB:beB (acc (mid l (k+2)))=mid l (k+2):=f;unfold ai;rw[ag Om,hB,g];rw[show 247+(k+1)=k+248 by omega];refine el.trans ?_;rw[mO];congr 1;have:mid l (k+2)=(l.drop 1).take (k+1):=by unfold mid;rw[sD];rfl
     rw[this,show l.drop (k+2)=(l.drop 1).drop (k+1) by rw[su];congr 1;omega,Mc]
def Nr(l:List Nat)(ho:oct l)(h:(ak l).2.2=0):(ak l).2.1=(ai (ak l).1).length:=by grind[BZ,lS]
theorem aeH(l:List Nat)(ho:oct l)(h:(bQ l).2.2=0):l=bG (bQ l).1++l.drop (bQ l).2.1:=by
 have a:(ak l).2.2=0:=by grind[bQ]
 have h1:=BZ l ho a;have h2:=Nr l ho a;unfold bQ at h⊢;rw[ag (fun e=>e a)]at h⊢;split
 .grind
 .rename_i h3;rw[ag h3]at h;split
  .grind
  .rename_i h4;simp only;unfold bG;have hl:=(lS l ho).2.1;rw[show((l.drop (ak l).2.1).take (ak l).1).length=(ak l).1 by rw[bI,eH];omega,bZ,<-su,Mc];exact h1
theorem MF(m:List Nat)(ho:oct m):∀n,m.length=n->be n (acc m)=m:=by
 intro n
 induction n generalizing m with
 |zero=>intro h;rw[List.length_eq_zero_iff.1 h];rfl
 |succ n i =>
  intro h;rcases Ro m with rfl|⟨L,b,rfl⟩
  .simp at h
  .rw[List.concat_eq_append]at *;have hb:=ho b Aa;have a:=zI L b;unfold be;rw[a,show(acc L*256+b) / 256=acc L by omega,show(acc L*256+b)%256=b by omega,i L (fun x hx=>ho x (by simp[hx])) (by simpa using h)]
theorem TL(l:List Nat)(ho:oct l)(h:(dV l).2.2=0):l=eY ((dV l).1:Nat)++l.drop 8:=by
 unfold dV at h⊢;split
 .grind
 .simp_all[Z9,MF,vw]
end Go.Proofs.YtopbmdnbdpjheaaGreat
