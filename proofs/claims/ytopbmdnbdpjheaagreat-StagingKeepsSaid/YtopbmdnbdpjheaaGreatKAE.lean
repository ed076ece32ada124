/-
  Merged texts.
-/
import Derived.Test.YtopbmdnbdpjheaaGreatWAF
import Derived.Test.YtopbmdnbdpjheaaGreatKAD
import Derived.Test.YtopbmdnbdpjheaaGreatWAK
set_option linter.all false
set_option linter.unusedVariables false
set_option linter.unusedSimpArgs false
set_option linter.unusedSectionVars false
set_option linter.defProp false
set_option maxRecDepth 100000
set_option maxHeartbeats 8000000
namespace Go.Proofs.YtopbmdnbdpjheaaGreat
open Go Go.Pg
def uj(B:List Nat):Nat->List Int->Nat->Bool->List Int×Nat×Bool
 |0,c,a,b=>(c,a,b)
 |k+1,c,a,b=>if b=true then(c,a,b)else uj B k (c++[((qX B a b 4294967295:Nat):Int)]) (qA B a b 4294967295) (qB B a b 4294967295)
def aqr{B:List Nat}{k:Nat}{c:List Int}{a:Nat}{b:Bool}(h:k=0\/b=true):uj B k c a b=(c,a,b):=by
 cases k with
 |zero=>rfl
 |succ k=>exact ah (by rcases h with h|h;omega;exact h)
def Qn{B:List Nat}{k:Nat}{c:List Int}{a:Nat}(h:k≠0):uj B k c a false=uj B (k-1) (c++[((qX B a false 4294967295:Nat):Int)]) (qA B a false 4294967295) (qB B a false 4294967295):=by
 cases k with
 |zero=>exact absurd rfl h
 |succ k=>exact ag gy
def GZ(B:List Nat)(x:Cm)(a:Nat)(b:Bool):Option Cm:=if qD B a b=true/\vCm x=0 then some x else none
def Jm(B:List Nat)(d z s:Nat)(q:List Int×Nat×Bool):Option Cm:=fF B q.2.1 q.2.2 1 fun f a b=>GZ B ⟨d,z,s,q.1,decide ((f:Int)=1)⟩ a b
def Eg(B:List Nat):Option Cm:=fF B 0 false 8 fun d a b=>fF B a b 64 fun z a b=>BC B a b fun s a b=>Jm B d z s (uj B (d*z) [] a b)
abbrev cmO(x:Cm):List V:=[vi x.d,vi x.z,vu x.s,.sl (.own 0 3) 1 (iv x.c),vb x.b]
def ag7(B:List Nat)(ho:oct B)(hl:B.length<=2147483648):Gxx 90 [fzb B] (oV cmF Cm.o (Eg B)):=by
 refine wZ (F':=cmO) (zs:=[vi 0,vi 0,vu 0,.c (.slice none 0 0),vb false]) ?_ (fun _=>rfl) (fun _=>⟨aC _,aC _,trivial⟩) rfl ⟨.inr ⟨_,_,rfl,rfl,⟨.inl rfl,.inl rfl,.inl rfl,jB _ _,.inl rfl,trivial⟩⟩,aC _,trivial⟩;simp only[Eg,fF,BC];obtain⟨d,A1,b1,u,z1,a1,m1,k1⟩:=rdN B 0 false 8 ho hl (ax _);simp only[u];obtain⟨z,H,I,u,z2,a2,m2,k2⟩:=rdN B A1 b1 64 ho hl a1;simp only[u];have z3:=fun e bx n' h hb A=>zQW e bx n' h 1 B H I ho hl a2 hb A
 have a3:=LK (B:=B) (a:=H) (bad:=I) ho a2;have m3:=LM (B:=B) (a:=H) (bad:=I) ho;generalize wqX B H I=s,wqA B H I=A3,wqB B H I=b3 at *;obtain⟨F,hF⟩:∃F,F=uj B (d*z) [] A3 b3:=⟨_,rfl⟩;rw[<-hF];obtain⟨M,hM⟩:∃M,M=d*z:=⟨_,rfl⟩;have hM5:M<=512:=by rw[hM];exact iZ (Nat.mul_le_mul (show d<=8 by omega) (show z<=64 by omega)) dX
 have n:(d:Int)*(z:Int)=(M:Nat):=by rw[hM];simp
 rw[<-hM]at hF;refine gI (zN mix) ?_;(repeat' first|refine wQ @iq ?_|refine aU _ (z1 _ _ _ _ rfl Om) rfl ?_|refine aU _ (z2 _ _ _ _ rfl Om) rfl ?_|refine aU _ (z3 _ _ _ _ rfl Om) rfl ?_|refine tS ?_ ?_<;>intro m|fail)
 refine aJ (fun x:List Int×Nat×Bool=>mkA [(2,.ref 0 0),(4,.ref 1 0),(5,.ref 2 0),(6,vi x.1.length)] [(0,(45,[vi 0,vi 0,vu 0,.c (.slice none 0 0),vb false])),(1,(261,[fzb B,vi x.2.1,vb x.2.2])),(2,(45,[vi d,vi z,vu s,.sl (.own 0 3) 1 (iv x.1),vb false]))] 3 (fun _=>.top))
  (fun x=>uj B (M-x.1.length) x.1 x.2.1 x.2.2=F/\x.1.length<=M/\x.2.1<=B.length) (fun x=>M-x.1.length) ([],A3,b3) [] [0,1,2] ?_ ⟨hF.symm,ax _,a3⟩ ?_
 .exact kY
 .rintro⟨c,a,b⟩ ⟨G,i2,i3⟩;simp only at G i2 i3;have l:=bV c;clear z1 z2 z3;by_cases E:c.length<M/\b=false
  .obtain⟨E,rfl⟩:=E;rw[Qn Om]at G;obtain⟨x,t,y,u,X,q2,q3,_⟩:=rdN B a false 4294967295 ho hl i3;simp only[u]at G;have W:(c++[(x:Int)]).length=c.length+1:=Aa;rw[show M-c.length-1=M-(c++[(x:Int)]).length by rw[W];omega]at G;have hap:=OL c (x:Int);(repeat' first|refine wQ (Ac @iq l n) ?_|refine tS ?_ ?_<;>intro m|fail);obtain⟨B0,L,c0,d0⟩:=bx0 (45,[vi 0,vi 0,vu 0,.c (.slice none 0 0),vb false]) (261,[fzb B,vi a,vb false]) (45,[vi d,vi z,vu s,.sl (.own 0 3) 1 (iv c),vb false]);obtain⟨Y,P,c1,d1⟩:=bxs B t y d0;obtain⟨r,g⟩:∃Z:(Nat->Bool)->BX,Z=fun S=>if S 3=true then Y else B0:=⟨_,rfl⟩;obtain⟨N,j⟩:∃Z:(Nat->Bool)->Nat,Z=fun S=>if S 4=true then 4 else 3:=⟨_,rfl⟩;have Q:∀S i,i≠3->r S=r (ins S i):=fun S i h3=>by rw[g];simp only[iy (jY h3)]
   have R:∀S i,i≠4->N S=N (ins S i):=fun S i h7=>by rw[j];simp only[iy (jY h7)]
   have U:∀S,r S 2=some (45,[vi d,vi z,vu s,.sl (.own 0 3) 1 (iv c),vb false]):=fun S=>by rw[g];show(if S 3=true then Y else B0) 2=_;(repeat' split)<;>assumption
   have hnl:∀S,1<N S:=fun S=>by rw[j];simp only;split<;>omega
   have hnd:([33,34,35,36,37]:List Nat).Nodup:=dX;refine Ir mix 5 [(33,.ref 2 3),(34,.sl (.own 0 3) 1 (iv c)),(35,.ref 1 0),(36,vi (x:Nat)),(37,.sl (.own 3 3) 1 [vi (x:Nat)])] r N (by rw[g];show B0=_;exact L) (by rw[j];rfl) dX dX dX ?_ ?_
   .intro S i o ho hi T he hcl;rcases(Om:i=0\/i=1\/i=2\/i=3\/i=4)with rfl|rfl|rfl|rfl|rfl;all_goals(simp only[vX,zy,aO]at ho;subst ho)
    all_goals(have sf:=he;simp[edgesOf,Region.binds]at sf)
    all_goals try((repeat' first|refine wQ (Ae T @sf @bH @dA U) ?_|refine tS ?_ ?_<;>intro m|fail);exact ig _ rfl hnd (Q S _ dX) (R S _ dX))
    .have s2:=he 2 dX;have J:r S=B0:=by rw[g];simp only[T];rfl
     have K:r (ins S 3)=Y:=by rw[g];simp only[ni];rfl
     (repeat' first|refine wQ (Ae T @s2 J @bH @dA) ?_|refine tS ?_ ?_<;>intro m|fail);refine cZ (X _ _ _ _ c0 (hnl S)) ?_ (by simp only[dm,dS,pgo,simprocAttr,s2,bH]);exact ig 3 rfl hnd (by rw[K,P]) (R S 3 dX)
    .have s3:=he 3 dX;have J:N S=3:=by rw[j];simp only[T];rfl
     have K:N (ins S 4)=4:=by rw[j];simp only[ni];rfl
     (repeat' first|refine wQ (Ae T @s3 J @bH @dA) ?_|refine tS ?_ ?_<;>intro m|fail);exact ig 4 rfl hnd (Q S 4 dX) K.symm
   .intro S k;have s1:=k 1 dX dX;have s4:=k 4 dX dX;have J:r S=Y:=by rw[g];simp only[k 3 dX dX];rfl
    have K:N S=4:=by rw[j];simp only[s4];rfl
    have p:=U S;rw[J]at p;rw[J,K,P,L];simp only[IV,lX,dm,dS];(repeat' first|refine wQ (Ah @iq l @hap @s1 @s4 @bH @dA p) ?_|refine tS ?_ ?_<;>intro m|fail);refine dn (c++[(x:Int)],t,y) [0] [0,1,2] ⟨G,by show(c++[(x:Int)]).length<=M;omega,q2⟩ (by show M-(c++[(x:Int)]).length<M-c.length;omega) ?_;(refine kM ?_ ?_;(repeat'(first|exact ae|refine dQ _ _ rfl rfl ?_ ?_));all_goals(try simp only[pgm,simprocAttr]);all_goals(try(repeat' apply aI));all_goals(try exact gz));all_goals(try simp only[bH,dA,pgo,simprocAttr,ku,jS,nS])
    all_goals first|done|exact fE rfl rfl|exact eF (by rw[W];omega)|exact eF Om|exact kZ rfl|skip
  .have q:M-c.length=0\/b=true:=by
    rcases au c.length M with h|h
    .cases b with
     |false=>exact absurd ⟨h,rfl⟩ E
     |true=>exact .inr rfl
    .exact .inl Om
   rw[aqr q]at G;subst G;have hfC:Jm B d z s (c,a,b)=GZ B ⟨d,z,s,c,decide ((qX B a b 1:Int)=1)⟩ (qA B a b 1) (qB B a b 1):=rfl;rw[hfC];have X:=fun e bx n' h hb A=>zQN e bx n' h 1 B a b 1 ho hl i3 hb A
   generalize qX B a b 1=x,qA B a b 1=t,qB B a b 1=y at *;have w2:=fun e bx n' h hb=>zQD e bx n' h 1 B t y hb
   have C:((x:Int) == 1)=decide ((x:Int)=1):=rfl;generalize decide ((x:Int)=1)=f at *;have hv:=JF ⟨d,z,s,c,f⟩;have hf:GZ B ⟨d,z,s,c,f⟩ t y=if qD B t y=true/\vCm ⟨d,z,s,c,f⟩=0 then some ⟨d,z,s,c,f⟩else none:=rfl
   generalize qD B t y=D at *
   rcases(by
    rcases au c.length M with h|h
    .rcases q with h1|h1
     .omega
     .exact .inr ⟨h,h1⟩
    .exact .inl h:M<=c.length\/(c.length<M/\b=true))with m|⟨m,rfl⟩
   all_goals
    cases D
    .rw[jc (hf.trans (ag fun h=>nomatch h.1))]
     (repeat' first|refine wQ (Ad @iq l n C) ?_|refine aU _ (X _ _ _ _ rfl Om) rfl ?_|refine cZ (w2 _ _ _ _ rfl) ?_|refine tS ?_ ?_<;>intro m|fail)
     all_goals exact rE []
    .by_cases h0:vCm ⟨d,z,s,c,f⟩=0
     .rw[xA (hf.trans (ah ⟨rfl,h0⟩))]
      rw[h0]at hv
      (repeat' first|refine wQ (Ad @iq l n C) ?_|refine aU _ (X _ _ _ _ rfl Om) rfl ?_|refine cZ (w2 _ _ _ _ rfl) ?_|refine cU hv ?_|refine tS ?_ ?_<;>intro m|fail)
      all_goals exact rE [0]
     .rw[jc (hf.trans (ag fun h=>h0 h.2))]
      generalize vCm ⟨d,z,s,c,f⟩=v at *
      (repeat' first|refine wQ (Ad @iq l n C) ?_|refine aU _ (X _ _ _ _ rfl Om) rfl ?_|refine cZ (w2 _ _ _ _ rfl) ?_|refine cU hv ?_|refine tS ?_ ?_<;>intro m|fail)
      all_goals exact rE []
def aqs{B:List Nat}(ho:oct B):∀(k:Nat) (c:List Int) (a:Nat) (b:Bool),(uj B k c a b).2.2=false->b=false/\∃xs:List Int,xs.length=k/\(uj B k c a b).1=c++xs/\B.drop a=aZ xs++B.drop (uj B k c a b).2.1:=by
 intro k
 induction k with
 |zero=>intro c a b h;exact⟨h,[],rfl,(gV _).symm,rfl⟩
 |succ k i =>
  intro c a b h
  cases b with
  |true=>cases h
  |false =>rw[Qn Om,uC]at h⊢;grind[jw,qX,aZ]
def aqp{B:List Nat}(ho:oct B):∀(c acc:List Int) (a:Nat) (r:List Nat),B.drop a=aZ c++r->a<=B.length->(∀i,i<c.length->0<=c.getD i 0/\c.getD i 0<=4294967295)->∃b,uj B c.length acc a false=(acc++c,b,false)/\B.drop b=r/\b<=B.length:=by
 intro c
 induction c with
 |nil=>intro acc a r h ha _;exact⟨a,by simp[uj],h,ha⟩
 |cons x c g =>
  intro acc a r h ha hx;have d:=hx 0 Aa;simp only[List.getD,vX,Gv]at d;have e:B.drop a=ai x.toNat++(aZ c++r):=by rw[h];simp[aZ,bZ]
  obtain⟨x1,y,f⟩:=jv (m:=4294967295) e Om Om;obtain⟨b,h1,h2,h3⟩:=g (acc++[x]) (qA B a false 4294967295) r y (jf ho ha) (fun i hi=>by have:=hx (i+1) (by simp;omega);simpa[List.getD]using this);refine⟨b,?_,h2,h3⟩;rw[dB,Qn Om,uC,x1,f,fO d.1,h1];simp[bZ]
def aev{B:List Nat}{t:Cm}(ho:oct B)(h:Eg B=some t):(vCm t=0/\jD t=B)/\0<=t.s/\t.s<18446744073709551616:=by
 simp only[Eg,fF,BC,Jm]at h;unfold GZ at h;split at h
 .rename_i f;obtain⟨h1,h2⟩:=f;simp only[aO]at h;subst h;obtain⟨d,d2⟩:=FH h1;obtain⟨n,c⟩:=jw ho d;obtain⟨m,xs,g,b,k⟩:=aqs ho _ _ _ _ n;obtain⟨l,j⟩:=aaf ho m;obtain⟨q,i⟩:=jw ho l;obtain⟨r,p⟩:=jw ho q;refine⟨⟨h2,?_⟩,axi _,by have:=LM (B:=B) (a:=qA B (qA B 0 false 8) (qB B 0 false 8) 64) (bad:=qB B (qA B 0 false 8) (qB B 0 false 8) 64) ho;simp only;omega⟩;rw[d2,jM]at c;rw[i,j,k,c,lX]at p;unfold jD;simp only;rw[G6 (A7 dX),b];simp only[fC,iY];exact(p.trans (by simp only[bZ,gV])).symm
 .cases h
def aeu(B:List Nat)(ho:oct B):Eg B=wC B:=by
 refine Ff (fun t h => ?_) (fun t h => ?_)
 .obtain⟨⟨h1,h2⟩,a⟩:=aev ho h;grind[aew]
 .obtain⟨⟨h1,h2⟩,a⟩:=Nk ho h;obtain⟨q,i2,r,g⟩:=Bv h1;obtain⟨d,z,s,c,b⟩:=t;simp only at q i2 r g a;have j:B.drop 0=ai d.toNat++(ai z.toNat++(eY s++(aZ c++(ai (if b=true then 1 else 0:Nat)++[])))):=by rw[<-h2];unfold jD;rw[wK];simp only[bZ,gV,lX]
  obtain⟨x1,C,k⟩:=jv (m:=8) j Om Om;obtain⟨x2,y2,l⟩:=jv (m:=64) C Om Om;obtain⟨x,y3,n⟩:=aae a y2;have u:=LK (bad:=false) ho (jf (bad:=false) (m:=64) ho (jf (bad:=false) (m:=8) ho (ax B.length)));obtain⟨E,y,y4,v⟩:=aqp ho c [] _ _ y3 u (fun i hi=>BM g hi);obtain⟨A,y5,p⟩:=jv (m:=1) y4 (wM b) (by cases b<;>decide);have f:d.toNat*z.toNat=c.length:=by grind
  simp only[Eg,fF,BC];rw[k,l,x1,x2,x,n,f,y];simp only[Jm,fF];rw[A,p,wL,fO Om,fO Om,fO a.1,iY];unfold GZ;exact ah ⟨FD y5 (jf ho v),h1⟩
def ul(B:List Nat):Nat->List Int->Nat->Bool->List Int×Nat×Bool
 |0,c,a,b=>(c,a,b)
 |k+1,c,a,b=>if b=true then(c,a,b)else ul B k (c++[((qX B a b 65:Nat):Int)]) (qA B a b 65) (qB B a b 65)
def aqF{B:List Nat}{k:Nat}{c:List Int}{a:Nat}{b:Bool}(h:k=0\/b=true):ul B k c a b=(c,a,b):=by
 cases k with
 |zero=>rfl
 |succ k=>exact ah (by rcases h with h|h;omega;exact h)
theorem Qq{B:List Nat}{k:Nat}{c:List Int}{a:Nat}(h:k≠0):ul B k c a false=ul B (k-1) (c++[((qX B a false 65:Nat):Int)]) (qA B a false 65) (qB B a false 65):=by
 cases k with
 |zero=>exact absurd rfl h
 |succ k=>exact ag gy
def NJ(B:List Nat)(x:Ll)(a:Nat)(b:Bool):Option Ll:=if qD B a b=true/\vLl x=0 then some x else none
def Jo(B:List Nat)(p s:Nat)(q:List Int×Nat×Bool):Option Ll:=NJ B ⟨p,s,q.1⟩ q.2.1 q.2.2
def Ei(B:List Nat):Option Ll:=fF B 0 false 8 fun p a b=>BC B a b fun s a b=>Jo B p s (ul B (2^p) [] a b)
def apk{p:Nat}(h:p<=8):IntKind.i64.wrap (1*2^min p IntKind.i64.bits)=((2^p:Nat):Int)/\2^p<=256:=by have:p=0\/p=1\/p=2\/p=3\/p=4\/p=5\/p=6\/p=7\/p=8:=Om;rcases this with rfl|rfl|rfl|rfl|rfl|rfl|rfl|rfl|rfl<;>exact⟨by decide,by decide⟩
def ag9(B:List Nat)(ho:oct B)(hl:B.length<=2147483648):Gxx 91 [fzb B] (oV llF Ll.o (Ei B)):=by
 refine wZ (F':=llO) (zs:=[vi 0,vu 0,.c (.slice none 0 0)]) ?_ (fun _=>rfl) (fun _=>⟨aC _,aC _,trivial⟩) rfl ⟨.inr ⟨_,_,rfl,rfl,⟨.inl rfl,.inl rfl,jB _ _,trivial⟩⟩,aC _,trivial⟩;simp only[Ei,fF,BC];obtain⟨p,A,t,u,z1,a1,m1,k1⟩:=rdN B 0 false 8 ho hl (ax _);simp only[u];have z2:=fun e bx n' h hb Y=>zQW e bx n' h 1 B A t ho hl a1 hb Y
 have a2:=LK (B:=B) (a:=A) (bad:=t) ho a1;have m2:=LM (B:=B) (a:=A) (bad:=t) ho;generalize wqX B A t=s,wqA B A t=A2,wqB B A t=b2 at *;obtain⟨F,U⟩:∃F,F=ul B (2^p) [] A2 b2:=⟨_,rfl⟩;rw[<-U];obtain⟨P,W⟩:=apk (p:=p) Om;obtain⟨M,hM⟩:∃M,M=2^p:=⟨_,rfl⟩;rw[<-hM]at U P W;refine gI (zN mix) ?_;(repeat' first|refine wQ @iq ?_|refine aU _ (z1 _ _ _ _ rfl Om) rfl ?_|refine aU _ (z2 _ _ _ _ rfl Om) rfl ?_|refine tS ?_ ?_<;>intro k|fail)
 refine aJ (fun x:List Int×Nat×Bool=>mkA [(2,.ref 0 0),(4,.ref 1 0),(5,.ref 2 0),(6,vi x.1.length)] [(0,(47,[vi 0,vu 0,.c (.slice none 0 0)])),(1,(261,[fzb B,vi x.2.1,vb x.2.2])),(2,(47,[vi p,vu s,.sl (.own 0 3) 1 (iv x.1)]))] 3 (fun _=>.top))
  (fun x=>ul B (M-x.1.length) x.1 x.2.1 x.2.2=F/\x.1.length<=M/\x.2.1<=B.length) (fun x=>M-x.1.length) ([],A2,b2) [] [0,1,2] ?_ ⟨U.symm,ax _,a2⟩ ?_
 .exact kY
 .rintro⟨c,a,b⟩ ⟨r,i2,i3⟩;simp only at r i2 i3;have j:=bV c;clear z1 z2;by_cases q:c.length<M/\b=false
  .obtain⟨q,rfl⟩:=q;rw[Qq Om]at r;obtain⟨x,a',b',u,w1,q2,q3,_⟩:=rdN B a false 65 ho hl i3;simp only[u]at r;have L:(c++[(x:Int)]).length=c.length+1:=Aa;rw[show M-c.length-1=M-(c++[(x:Int)]).length by rw[L];omega]at r;have X:=OL c (x:Int);(repeat' first|refine wQ (Ac @iq j P) ?_|refine tS ?_ ?_<;>intro k|fail);obtain⟨B0,E,c0,d0⟩:=bx0 (47,[vi 0,vu 0,.c (.slice none 0 0)]) (261,[fzb B,vi a,vb false]) (47,[vi p,vu s,.sl (.own 0 3) 1 (iv c)]);obtain⟨Q,G,c1,d1⟩:=bxs B a' b' d0;obtain⟨n,d⟩:∃R:(Nat->Bool)->BX,R=fun S=>if S 3=true then Q else B0:=⟨_,rfl⟩;obtain⟨N,f⟩:∃R:(Nat->Bool)->Nat,R=fun S=>if S 4=true then 4 else 3:=⟨_,rfl⟩;have H:∀S i,i≠3->n S=n (ins S i):=fun S i h3=>by rw[d];simp only[iy (jY h3)]
   have I:∀S i,i≠4->N S=N (ins S i):=fun S i h7=>by rw[f];simp only[iy (jY h7)]
   have K:∀S,n S 2=some (47,[vi p,vu s,.sl (.own 0 3) 1 (iv c)]):=fun S=>by rw[d];show(if S 3=true then Q else B0) 2=_;(repeat' split)<;>assumption
   have Z:∀S,1<N S:=fun S=>by rw[f];simp only;split<;>omega
   have hnd:([30,31,32,33,34]:List Nat).Nodup:=dX;refine Ir mix 5 [(30,.ref 2 2),(31,.sl (.own 0 3) 1 (iv c)),(32,.ref 1 0),(33,vi (x:Nat)),(34,.sl (.own 3 3) 1 [vi (x:Nat)])] n N (by rw[d];show B0=_;exact E) (by rw[f];rfl) dX dX dX ?_ ?_
   .intro S i o ho hi J he hcl;rcases(Om:i=0\/i=1\/i=2\/i=3\/i=4)with rfl|rfl|rfl|rfl|rfl;all_goals(simp only[vX,zy,aO]at ho;subst ho)
    all_goals(have sf:=he;simp[edgesOf,Region.binds]at sf)
    all_goals try((repeat' first|refine wQ (Ae J @sf @bH @dA K) ?_|refine tS ?_ ?_<;>intro k|fail);exact ig _ rfl hnd (H S _ dX) (I S _ dX))
    .have s2:=he 2 dX;have y:n S=B0:=by rw[d];simp only[J];rfl
     have C:n (ins S 3)=Q:=by rw[d];simp only[ni];rfl
     (repeat' first|refine wQ (Ae J @s2 y @bH @dA) ?_|refine tS ?_ ?_<;>intro k|fail);refine cZ (w1 _ _ _ _ c0 (Z S)) ?_ (by simp only[dm,dS,pgo,simprocAttr,s2,bH]);exact ig 3 rfl hnd (by rw[C,G]) (I S 3 dX)
    .have s3:=he 3 dX;have y:N S=3:=by rw[f];simp only[J];rfl
     have C:N (ins S 4)=4:=by rw[f];simp only[ni];rfl
     (repeat' first|refine wQ (Ae J @s3 y @bH @dA) ?_|refine tS ?_ ?_<;>intro k|fail);exact ig 4 rfl hnd (H S 4 dX) C.symm
   .intro S g;have s1:=g 1 dX dX;have s4:=g 4 dX dX;have y:n S=Q:=by rw[d];simp only[g 3 dX dX];rfl
    have C:N S=4:=by rw[f];simp only[s4];rfl
    have l:=K S;rw[y]at l;rw[y,C,G,E];simp only[IV,lX,dm,dS];(repeat' first|refine wQ (Ah @iq j X @s1 @s4 @bH @dA l) ?_|refine tS ?_ ?_<;>intro k|fail);refine dn (c++[(x:Int)],a',b') [0] [0,1,2] ⟨r,by show(c++[(x:Int)]).length<=M;omega,q2⟩ (by show M-(c++[(x:Int)]).length<M-c.length;omega) ?_;(refine kM ?_ ?_;(repeat'(first|exact ae|refine dQ _ _ rfl rfl ?_ ?_));all_goals(try simp only[pgm,simprocAttr]);all_goals(try(repeat' apply aI));all_goals(try exact gz));all_goals(try simp only[bH,dA,pgo,simprocAttr,ku,jS,nS])
    all_goals first|done|exact fE rfl rfl|exact eF (by rw[L];omega)|exact eF Om|exact kZ rfl|skip
  .have m:M-c.length=0\/b=true:=by
    rcases au c.length M with h|h
    .cases b with
     |false=>exact absurd ⟨h,rfl⟩ q
     |true=>exact .inr rfl
    .exact .inl Om
   rw[aqF m]at r;subst r;have w2:=fun e bx n' h hb=>zQD e bx n' h 1 B a b hb
   have hv:=JH ⟨p,s,c⟩ (by show c.length<=_;omega);have hf:Jo B p s (c,a,b)=if qD B a b=true/\vLl ⟨p,s,c⟩=0 then some ⟨p,s,c⟩else none:=rfl
   generalize qD B a b=D at *
   rcases(by
    rcases au c.length M with h|h
    .rcases m with h1|h1
     .omega
     .exact .inr ⟨h,h1⟩
    .exact .inl h:M<=c.length\/(c.length<M/\b=true))with k|⟨k,rfl⟩
   all_goals
    cases D
    .rw[jc (hf.trans (ag fun h=>nomatch h.1))]
     (repeat' first|refine wQ (Ac @iq j P) ?_|refine cZ (w2 _ _ _ _ rfl) ?_|refine tS ?_ ?_<;>intro k|fail)
     all_goals exact rE []
    .by_cases T:vLl ⟨p,s,c⟩=0
     .rw[xA (hf.trans (ah ⟨rfl,T⟩))]
      rw[T]at hv
      (repeat' first|refine wQ (Ac @iq j P) ?_|refine cZ (w2 _ _ _ _ rfl) ?_|refine cU hv ?_|refine tS ?_ ?_<;>intro k|fail)
      all_goals exact rE [0]
     .rw[jc (hf.trans (ag fun h=>T h.2))]
      generalize vLl ⟨p,s,c⟩=v at *
      (repeat' first|refine wQ (Ac @iq j P) ?_|refine cZ (w2 _ _ _ _ rfl) ?_|refine cU hv ?_|refine tS ?_ ?_<;>intro k|fail)
      all_goals exact rE []
theorem aqG{B:List Nat}(ho:oct B):∀(k:Nat) (c:List Int) (a:Nat) (b:Bool),(ul B k c a b).2.2=false->b=false/\∃xs:List Int,xs.length=k/\(ul B k c a b).1=c++xs/\B.drop a=xs.map u8i++B.drop (ul B k c a b).2.1:=by
 intro k
 induction k with
 |zero=>intro c a b h;exact⟨h,[],rfl,(gV _).symm,rfl⟩
 |succ k i =>
  intro c a b h
  cases b with
  |true=>cases h
  |false =>rw[Qq Om]at h⊢;obtain⟨h1,xs,h2,h3,h4⟩:=i _ _ _ h;obtain⟨_,h5⟩:=jw ho h1;have d:=A7 (B:=B) (a:=a) (bad:=false) (m:=65) dX;grind[ai,u8i]
def aqE{B:List Nat}(ho:oct B):∀(c acc:List Int) (a:Nat) (r:List Nat),B.drop a=c.map u8i++r->a<=B.length->(∀i,i<c.length->0<=c.getD i 0/\c.getD i 0<=65)->∃b,ul B c.length acc a false=(acc++c,b,false)/\B.drop b=r/\b<=B.length:=by
 intro c
 induction c with
 |nil=>intro acc a r h ha _;exact⟨a,by simp[ul],h,ha⟩
 |cons x c f =>
  intro acc a r h ha hx;have d:=hx 0 Aa;simp only[List.getD,vX,Gv]at d;have e:B.drop a=ai x.toNat++(c.map u8i++r):=by grind[ai,u8i]
  obtain⟨x1,y,g⟩:=jv (m:=65) e Om Om;obtain⟨b,h1,h2,h3⟩:=f (acc++[x]) (qA B a false 65) r y (jf ho ha) (fun i hi=>by have:=hx (i+1) (by simp;omega);simpa[List.getD]using this);grind[Qq,fO,Nat.add_sub_cancel,List.append_assoc]
def TI{l:List Nat}{x:Ll}(ho:oct l)(h:sO l=some x):l7 x=l:=by
 unfold sO at h;split at h
 .rename_i h1;unfold dLl at h;split at h
  .rename_i h2;unfold Jw at h;split at h
   .simp only[aO]at h;subst h;have c1:=BZ l ho h1.1;have c:=TL _ (eG ho (ak l).2.1) h2.1;unfold l7;simp only[fC];have b:(ivU ((l.drop (ak l).2.1).drop 8)).map u8i=(l.drop (ak l).2.1).drop 8:=by have a:=eG (eG ho (ak l).2.1) 8;generalize(l.drop (ak l).2.1).drop 8=R at *;unfold ivU;rw[zA];refine(List.map_congr_left (g:=id) fun y d => ?_).trans (List.map_id _);have:=a y d;show u8i ((y:Nat):Int)=y;unfold u8i;omega
    rw[b,bZ,<-c];exact c1.symm
   .cases h
  .cases h
 .cases h
def aeB{B:List Nat}{t:Ll}(ho:oct B)(h:Ei B=some t):(vLl t=0/\l7 t=B)/\0<=t.s/\t.s<18446744073709551616:=by
 simp only[Ei,fF,BC]at h;unfold Jo NJ at h;split at h
 .rename_i d;obtain⟨h1,h2⟩:=d;simp only[aO]at h;subst h;obtain⟨j,d2⟩:=FH h1;obtain⟨i,xs,f,b,c⟩:=aqG ho _ _ _ _ j;obtain⟨q,g⟩:=aaf ho i;obtain⟨k,p⟩:=jw ho q;refine⟨⟨h2,?_⟩,axi _,by have:=LM (B:=B) (a:=qA B 0 false 8) (bad:=qB B 0 false 8) ho;simp only;omega⟩;rw[d2,jM]at c;rw[g,c,lX]at p;unfold l7;simp only;rw[b];simp only[fC,iY];exact(p.trans (by simp only[bZ,gV])).symm
 .cases h
def aeA(B:List Nat)(ho:oct B):Ei B=sO B:=by
 refine Ff (fun t h => ?_) (fun t h => ?_)
 .obtain⟨⟨h1,h2⟩,a⟩:=aeB ho h;grind[aeC]
 .obtain⟨h1,a⟩:=Np ho h;have h2:=TI ho h;obtain⟨g,i2,b⟩:=Bz h1;obtain⟨p,s,r⟩:=t;simp only at g i2 b a;have c:B.drop 0=ai p.toNat++(eY s++(r.map u8i++[])):=by rw[<-h2];unfold l7;simp only[bZ,gV,lX]
  obtain⟨x1,y,f⟩:=jv (m:=8) c Om Om;obtain⟨x,y3,d⟩:=aae a y;have l:=LK (bad:=false) ho (jf (bad:=false) (m:=8) ho (ax B.length));obtain⟨n,k,y4,j⟩:=aqE ho r [] _ _ y3 l (fun i hi=>by have:=BM b hi;omega);simp only[Ei,fF,BC];rw[f,x1,x,d,<-i2,k];unfold Jo NJ;simp only[iY];rw[fO Om,fO a.1];exact ah ⟨FD y4 j,h1⟩
def Bc(B:List Nat)(a:Nat)(b:Bool):En:=(tqX B a b,((qX B (tqA B a b) (tqB B a b) 1099511627776:Nat):Int),((qX B (qA B (tqA B a b) (tqB B a b) 1099511627776) (qB B (tqA B a b) (tqB B a b) 1099511627776) 1099511627776:Nat):Int))
def Dx(B:List Nat)(a:Nat)(b:Bool):Nat:=qA B (qA B (tqA B a b) (tqB B a b) 1099511627776) (qB B (tqA B a b) (tqB B a b) 1099511627776) 1099511627776
def FK(B:List Nat)(a:Nat)(b:Bool):Bool:=qB B (qA B (tqA B a b) (tqB B a b) 1099511627776) (qB B (tqA B a b) (tqB B a b) 1099511627776) 1099511627776
def uo(B:List Nat):Nat->List En->Nat->Bool->List En×Nat×Bool
 |0,e,a,b=>(e,a,b)
 |k+1,e,a,b=>if b=true then(e,a,b)else uo B k (e++[Bc B a b]) (Dx B a b) (FK B a b)
def aqM{B:List Nat}{k:Nat}{e:List En}{a:Nat}{b:Bool}(h:k=0\/b=true):uo B k e a b=(e,a,b):=by
 cases k with
 |zero=>rfl
 |succ k=>exact ah (by rcases h with h|h;omega;exact h)
def Qs{B:List Nat}{k:Nat}{e:List En}{a:Nat}(h:k≠0):uo B k e a false=uo B (k-1) (e++[Bc B a false]) (Dx B a false) (FK B a false):=by
 cases k with
 |zero=>exact absurd rfl h
 |succ k=>exact ag gy
def Jq(B:List Nat)(z t:Nat)(f:Bool)(q:List En×Nat×Bool):Option Tp:=if qD B q.2.1 q.2.2=true/\vTp ⟨z,t,q.1,f⟩=0 then some ⟨z,t,q.1,f⟩else none
def Eo(B:List Nat):Option Tp:=fF B 0 false 32 fun z a b=>fF B a b 1099511627776 fun t a b=>fF B a b 1 fun f a b=>fF B a b 32 fun n a b=>Jq B z t (decide ((f:Int)=1)) (uo B n [] a b)
abbrev oTp(x:Tp):List V:=[vi x.z,vi x.t,.sl (.own 0 215) 3 (ev x.e),vb x.b]
def ahd(B:List Nat)(ho:oct B)(hl:B.length<=2147483648):Gxx 92 [fzb B] (oV tpF Tp.o (Eo B)):=by
 refine wZ (F':=oTp) (zs:=[vi 0,vi 0,.c (.slice none 0 0),vb false]) ?_ (fun _=>rfl) (fun _=>⟨aC _,aC _,trivial⟩) rfl ⟨.inr ⟨_,_,rfl,rfl,⟨.inl rfl,.inl rfl,jB _ _,.inl rfl,trivial⟩⟩,aC _,trivial⟩;simp only[Eo,fF];obtain⟨z,A1,b1,u,z1,a1,m1,k1⟩:=rdN B 0 false 32 ho hl (ax _);simp only[u];obtain⟨t,A2,b2,u,z2,a2,m2,k2⟩:=rdN B A1 b1 1099511627776 ho hl a1;simp only[u];obtain⟨fl,A3,b3,u,z3,a3,m3,k3⟩:=rdN B A2 b2 1 ho hl a2;simp only[u];obtain⟨N,A4,b4,u,z4,a4,m4,k4⟩:=rdN B A3 b3 32 ho hl a3;simp only[u];have G:((fl:Int) == 1)=decide ((fl:Int)=1):=rfl;obtain⟨f,hf⟩:∃f,f=decide ((fl:Int)=1):=⟨_,rfl⟩;rw[<-hf]at G⊢;obtain⟨F,hF⟩:∃F,F=uo B N [] A4 b4:=⟨_,rfl⟩;rw[<-hF];refine gI (zN mix) ?_;(repeat' first|refine wQ (aI @iq G) ?_|refine aU _ (z1 _ _ _ _ rfl Om) rfl ?_|refine aU _ (z2 _ _ _ _ rfl Om) rfl ?_|refine aU _ (z3 _ _ _ _ rfl Om) rfl ?_|refine aU _ (z4 _ _ _ _ rfl Om) rfl ?_|refine tS ?_ ?_<;>intro g|fail)
 refine aJ (fun x:List En×Nat×Bool=>mkA [(2,.ref 0 0),(4,.ref 1 0),(5,.ref 2 0),(6,vi N),(7,vi x.1.length)] [(0,(50,[vi 0,vi 0,.c (.slice none 0 0),vb false])),(1,(261,[fzb B,vi x.2.1,vb x.2.2])),(2,(50,[vi z,vi t,.sl (.own 0 215) 3 (ev x.1),vb f]))] 3 (fun _=>.top))
  (fun x=>uo B (N-x.1.length) x.1 x.2.1 x.2.2=F/\x.1.length<=N/\x.2.1<=B.length/\octE x.1) (fun x=>N-x.1.length) ([],A4,b4) [] [0,1,2] ?_ ⟨hF.symm,ax _,a4,tK⟩ ?_
 .exact kY
 .rintro⟨e,a,b⟩ ⟨n,i2,i3,i4⟩;simp only at n i2 i3 i4;have m:=bJ e;clear z1 z2 z3 z4;by_cases I:e.length<N/\b=false
  .obtain⟨I,rfl⟩:=I;rw[Qs Om]at n;unfold Bc Dx FK at n;obtain⟨x1,p1,c1,u,w1,r1,t1⟩:=rdT B a false ho hl i3;simp only[u]at n;obtain⟨x2,p2,c2,u,w2,r2,m2,_⟩:=rdN B p1 c1 1099511627776 ho hl r1;simp only[u]at n;obtain⟨K,Y,c3,u,w3,r3,m3,_⟩:=rdN B p2 c2 1099511627776 ho hl r2;simp only[u]at n;have T:=uO e x1 (x2:Nat) (K:Nat);have q8:=Kv i4 x1 (x2:Nat) (K:Nat) t1;obtain⟨y,hy⟩:∃y:En,y=(x1,((x2:Nat):Int),((K:Nat):Int)):=⟨_,rfl⟩;rw[<-hy]at T q8 n;have W:(e++[y]).length=e.length+1:=Aa;rw[show N-e.length-1=N-(e++[y]).length by rw[W];omega]at n;(repeat' first|refine wQ (aI @iq m) ?_|refine tS ?_ ?_<;>intro g|fail);obtain⟨B0,L,cc0,d0⟩:=bx0 (50,[vi 0,vi 0,.c (.slice none 0 0),vb false]) (261,[fzb B,vi a,vb false]) (50,[vi z,vi t,.sl (.own 0 215) 3 (ev e),vb f]);obtain⟨B1,M,cc1,d1⟩:=bxs B p1 c1 d0;obtain⟨B2,P,cc2,d2⟩:=bxs B p2 c2 d1;obtain⟨B3,Q,cc3,d3⟩:=bxs B Y c3 d2;obtain⟨j,c⟩:∃fB:(Nat->Bool)->BX,fB=fun S=>if S 7=true then B3 else if S 5=true then B2 else if S 3=true then B1 else B0:=⟨_,rfl⟩;obtain⟨C,d⟩:∃fB:(Nat->Bool)->Nat,fB=fun S=>if S 9=true then 4 else 3:=⟨_,rfl⟩;have R:∀S i,i≠3->i≠5->i≠7->j S=j (ins S i):=fun S i h3 h5 h7=>by rw[c];simp only[iy (jY h3),iy (jY h5),iy (jY h7)]
   have r:∀S i,i≠9->C S=C (ins S i):=fun S i h7=>by rw[d];simp only[iy (jY h7)]
   have U:∀S,j S 2=some (50,[vi z,vi t,.sl (.own 0 215) 3 (ev e),vb f]):=fun S=>by rw[c];show(if S 7=true then B3 else if S 5=true then B2 else if S 3=true then B1 else B0) 2=_;(repeat' split)<;>assumption
   have J:∀S,1<C S:=fun S=>by rw[d];simp only;split<;>omega
   have hnd:([33,34,35,36,37,38,39,40,41,42]:List Nat).Nodup:=dX;refine Ir mix 10 [(33,.ref 2 2),(34,.sl (.own 0 215) 3 (ev e)),(35,.ref 1 0),(36,vs x1),(37,.ref 1 0),(38,vi (x2:Nat)),(39,.ref 1 0),(40,vi (K:Nat)),(41,.agg [vs x1,vi (x2:Nat),vi (K:Nat)]),(42,.sl (.own 3 215) 3 [.agg [vs x1,vi (x2:Nat),vi (K:Nat)]])] j C (by rw[c];show B0=_;exact L) (by rw[d];rfl) dX dX dX ?_ ?_
   .intro S i o ho hi k he E;rcases(Om:i=0\/i=1\/i=2\/i=3\/i=4\/i=5\/i=6\/i=7\/i=8\/i=9)with rfl|rfl|rfl|rfl|rfl|rfl|rfl|rfl|rfl|rfl;all_goals(simp only[vX,zy,aO]at ho;subst ho)
    all_goals(have sf:=he;simp[edgesOf,Region.binds]at sf)
    all_goals try((repeat' first|refine wQ (Ae k @sf @bH @dA U) ?_|refine tS ?_ ?_<;>intro g|fail);exact ig _ rfl hnd (R S _ dX dX dX) (r S _ dX))
    .have s2:=he 2 dX
     have n5:S 5=false:=by
      cases h5:S 5 with
      |false=>rfl
      |true=>have:=E 5 _ rfl h5 3 dX;rw[k]at this;cases this
     have X:S 7=false:=by
      cases h5:S 7 with
      |false=>rfl
      |true=>have:=E 7 _ rfl h5 5 dX;rw[n5]at this;cases this
     have p:j S=B0:=by rw[c];simp only[k,n5,X];rfl
     have q:j (ins S 3)=B1:=by rw[c];simp only[ni,iy (show 5≠3 by decide),n5,iy (show 7≠3 by decide),X];rfl
     (repeat' first|refine wQ (Ae k @s2 p @bH @dA) ?_|refine tS ?_ ?_<;>intro g|fail);refine cZ (w1 _ _ _ _ cc0 (J S)) ?_ (by simp only[dm,dS,pgo,simprocAttr,s2,bH]);exact ig 3 rfl hnd (by rw[q,M]) (r S 3 dX)
    .have Z:=he 4 dX;have p2:=he 3 dX
     have X:S 7=false:=by
      cases h5:S 7 with
      |false=>rfl
      |true=>have:=E 7 _ rfl h5 5 dX;rw[k]at this;cases this
     have p:j S=B1:=by rw[c];simp only[k,X,p2];rfl
     have q:j (ins S 5)=B2:=by rw[c];simp only[ni,iy (show 7≠5 by decide),X];rfl
     (repeat' first|refine wQ (Ae k Z p @bH @dA) ?_|refine tS ?_ ?_<;>intro g|fail);refine cZ (w2 _ _ _ _ cc1 (J S)) ?_ (by simp only[dm,dS,pgo,simprocAttr,Z,bH]);exact ig 5 rfl hnd (by rw[q,P]) (r S 5 dX)
    .have s6:=he 6 dX;have Y:=he 5 dX;have p:j S=B2:=by rw[c];simp only[k,Y];rfl
     have q:j (ins S 7)=B3:=by rw[c];simp only[ni];rfl
     (repeat' first|refine wQ (Ae k @s6 p @bH @dA) ?_|refine tS ?_ ?_<;>intro g|fail);refine cZ (w3 _ _ _ _ cc2 (J S)) ?_ (by simp only[dm,dS,pgo,simprocAttr,s6,bH]);exact ig 7 rfl hnd (by rw[q,Q]) (r S 7 dX)
    .have s8:=he 8 dX;have p:C S=3:=by rw[d];simp only[k];rfl
     have q:C (ins S 9)=4:=by rw[d];simp only[ni];rfl
     (repeat' first|refine wQ (Ae k @s8 p @bH @dA) ?_|refine tS ?_ ?_<;>intro g|fail);exact ig 9 rfl hnd (R S 9 dX dX dX) q.symm
   .intro S l;have s1:=l 1 dX dX;have Z:=l 9 dX dX;have p:j S=B3:=by rw[c];simp only[l 7 dX dX];rfl
    have q:C S=4:=by rw[d];simp only[Z];rfl
    have s:=U S;rw[p]at s;rw[p,q,Q,P,M,L];simp only[IV,lX,dm,dS];(repeat' first|refine wQ (Ah @iq m T @s1 Z @bH @dA s) ?_|refine tS ?_ ?_<;>intro g|fail);refine dn (e++[y],Y,c3) [0] [0,1,2] ⟨n,by show(e++[y]).length<=N;omega,by show Y<=B.length;omega,q8⟩ (by show N-(e++[y]).length<N-e.length;omega) ?_;refine kN ?_;all_goals(try simp only[bH,dA,pgo,simprocAttr,ku,jS,nS])
    all_goals first|done|exact fE rfl rfl|exact eF (by rw[W];omega)|exact eF Om|exact kZ rfl|skip
  .have A:N-e.length=0\/b=true:=by
    rcases au e.length N with h|h
    .cases b with
     |false=>exact absurd ⟨h,rfl⟩ I
     |true=>exact .inr rfl
    .exact .inl Om
   rw[aqM A]at n;subst n;have w2:=fun e bx n' h hb=>zQD e bx n' h 1 B a b hb
   have hv:=JK ⟨z,t,e,f⟩ i4 (by show e.length<=_;omega);have H:Jq B z t f (e,a,b)=if qD B a b=true/\vTp ⟨z,t,e,f⟩=0 then some ⟨z,t,e,f⟩else none:=rfl
   clear hf G;generalize qD B a b=D at *
   rcases(by
    rcases au e.length N with h|h
    .rcases A with h1|h1
     .omega
     .exact .inr ⟨h,h1⟩
    .exact .inl h:N<=e.length\/(e.length<N/\b=true))with g|⟨g,rfl⟩
   all_goals
    cases D
    .rw[jc (H.trans (ag fun h=>nomatch h.1))]
     (repeat' first|refine wQ (aI @iq m) ?_|refine cZ (w2 _ _ _ _ rfl) ?_|refine tS ?_ ?_<;>intro g|fail)
     all_goals exact rE []
    .by_cases h0:vTp ⟨z,t,e,f⟩=0
     .rw[xA (H.trans (ah ⟨rfl,h0⟩))]
      rw[h0]at hv
      (repeat' first|refine wQ (aI @iq m) ?_|refine cZ (w2 _ _ _ _ rfl) ?_|refine cU hv ?_|refine tS ?_ ?_<;>intro g|fail)
      all_goals exact rE [0]
     .rw[jc (H.trans (ag fun h=>h0 h.2))]
      generalize vTp ⟨z,t,e,f⟩=v at *
      (repeat' first|refine wQ (aI @iq m) ?_|refine cZ (w2 _ _ _ _ rfl) ?_|refine cU hv ?_|refine tS ?_ ?_<;>intro g|fail)
      all_goals exact rE []
def aqN{B:List Nat}(ho:oct B):∀(k:Nat) (e:List En) (a:Nat) (b:Bool),(uo B k e a b).2.2=false->b=false/\∃xs:List En,xs.length=k/\(uo B k e a b).1=e++xs/\B.drop a=xs.flatMap eu++B.drop (uo B k e a b).2.1:=by
 intro k
 induction k with
 |zero=>intro e a b h;exact⟨h,[],rfl,(gV _).symm,rfl⟩
 |succ k i =>
  intro e a b h
  cases b with
  |true=>cases h
  |false =>
   rw[Qs Om,uC]at h⊢;obtain⟨h1,xs,h2,h3,h4⟩:=i _ _ _ h;have h5:B.drop a=eu (Bc B a false)++B.drop (Dx B a false):=by unfold FK at h1;unfold Bc Dx eu;simp only[fC,bZ];obtain⟨g,d⟩:=jw ho h1;obtain⟨f,c⟩:=jw ho g;grind[QS]
   refine⟨rfl,Bc B a false::xs,by simp[h2],by rw[h3];simp,?_⟩;simp_all
def aqL{B:List Nat}(ho:oct B):∀(l acc:List En) (a:Nat) (r:List Nat),B.drop a=l.flatMap eu++r->a<=B.length->(∀y∈l,y.1.length<=65536/\(0<=y.2.1/\y.2.1<=1099511627776)/\(0<=y.2.2/\y.2.2<=1099511627776))->∃b,uo B l.length acc a false=(acc++l,b,false)/\B.drop b=r/\b<=B.length:=by
 intro l
 induction l with
 |nil=>intro acc a r h ha _;exact⟨a,by simp[uo],h,ha⟩
 |cons y l q =>
  intro acc a r h ha hx;obtain⟨key,c,d⟩:=y;obtain⟨h1,h2,h3⟩:=hx _ (Aa:(key,c,d)∈(key,c,d)::l);simp only at h1 h2 h3;have e:B.drop a=bG key++(ai c.toNat++(ai d.toNat++(l.flatMap eu++r))):=by rw[h];simp[eu,bZ]
  obtain⟨x1,E,f⟩:=QR h1 e;obtain⟨x2,y2,g⟩:=jv (m:=1099511627776) E Om Om;obtain⟨C,y3,i⟩:=jv (m:=1099511627776) y2 Om Om;have v:=IJ (bad:=false) ho ha;have x:=jf (bad:=false) (m:=1099511627776) ho v;have A:=jf (bad:=false) (m:=1099511627776) ho x;have j:Bc B a false=(key,c,d):=by unfold Bc;rw[x1,f,x2,g,C,fO h2.1,fO h3.1]
  have k:Dx B a false=qA B (qA B (tqA B a false) false 1099511627776) false 1099511627776:=by unfold Dx;rw[f,g]
  have n:FK B a false=false:=by unfold FK;rw[f,g,i]
  obtain⟨b,s,t,u⟩:=q (acc++[(key,c,d)]) _ r y3 A (fun y p=>hx y (by simp[p]));refine⟨b,?_,t,u⟩;rw[dB,Qs Om,uC,j,k,n,s];simp[bZ]
def aeM{B:List Nat}{x:Tp}(ho:oct B)(h:Eo B=some x):vTp x=0/\jG x=B:=by
 simp only[Eo,fF]at h;unfold Jq at h;split at h
 .rename_i f;obtain⟨h1,h2⟩:=f;simp only[aO]at h;subst h;refine⟨h2,?_⟩;obtain⟨d,d2⟩:=FH h1;obtain⟨m,xs,a,b,c⟩:=aqN ho _ _ _ _ d;obtain⟨l,j⟩:=jw ho m;obtain⟨k,i⟩:=jw ho l;obtain⟨q,g⟩:=jw ho k;obtain⟨n,p⟩:=jw ho q;rw[d2,jM]at c;rw[g,i,j,c,lX]at p;unfold jG;simp only;rw[G6 (A7 dX),b];simp only[fC,iY,a];exact(p.trans (by simp only[bZ,gV])).symm
 .cases h
def aeL(B:List Nat)(ho:oct B):Eo B=wH B:=by
 refine Ff (fun x h => ?_) (fun x h => ?_)
 .obtain⟨h1,h2⟩:=aeM ho h;grind[aeN]
 .obtain⟨h1,h2⟩:=Nu h;obtain⟨n,i2,p,b⟩:=zo h1;obtain⟨z,t,e,f⟩:=x;simp only at n i2 p b;have a:=fun i (hi:i<e.length)=>CB (b i hi)
  have c:B.drop 0=ai z.toNat++(ai t.toNat++(ai (if f=true then 1 else 0:Nat)++(ai e.length++(e.flatMap eu++[])))):=by rw[<-h2];unfold jG;rw[wK];simp only[bZ,gV,lX]
  obtain⟨x1,A,d⟩:=jv (m:=32) c Om Om;obtain⟨x2,y2,g⟩:=jv (m:=1099511627776) A Om Om;obtain⟨s,y3,j⟩:=jv (m:=1) y2 (wM f) (by cases f<;>decide);obtain⟨u,y4,k⟩:=jv (m:=32) y3 Om Om;obtain⟨C,v,y9,r⟩:=aqL ho e [] _ _ y4 (jf (bad:=false) (m:=32) ho (jf (bad:=false) (m:=1) ho (jf (bad:=false) (m:=1099511627776) ho (jf (bad:=false) (m:=32) ho (ax B.length))))) (fun y l=>by obtain⟨i,hi,rfl⟩:=nz eD l;obtain⟨q,k2,E⟩:=a i hi;rw[ry]at q;exact⟨by omega,⟨by omega,by omega⟩,⟨by omega,by omega⟩⟩);simp only[Eo,fF];rw[d,g,j,x1,x2,s,u,k,v,wL];unfold Jq;simp only[iY];rw[fO Om,fO Om];exact ah ⟨FD y9 r,h1⟩
end Go.Proofs.YtopbmdnbdpjheaaGreat
