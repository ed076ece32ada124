/-
  Merged texts.
-/
import Derived.Test.YtopbmdnbdpjheaaGreatKAE
import Derived.Test.YtopbmdnbdpjheaaGreatWAK
import Derived.Test.YtopbmdnbdpjheaaGreatKAC
import Derived.Test.YtopbmdnbdpjheaaGreatWAI
import Derived.Test.YtopbmdnbdpjheaaGreatWAJ
set_option linter.all false
set_option linter.unusedVariables false
set_option linter.unusedSimpArgs false
set_option linter.unusedSectionVars false
set_option linter.defProp false
set_option maxRecDepth 100000
set_option maxHeartbeats 8000000
namespace Go.Proofs.YtopbmdnbdpjheaaGreat
open Go Go.Pg
def Ba(B:List Nat)(a:Nat)(b:Bool):En:=(tqX B a b,((qX B (tqA B a b) (tqB B a b) 1099511627776:Nat):Int),0)
def Dv(B:List Nat)(a:Nat)(b:Bool):Nat:=qA B (tqA B a b) (tqB B a b) 1099511627776
def FI(B:List Nat)(a:Nat)(b:Bool):Bool:=qB B (tqA B a b) (tqB B a b) 1099511627776
def uk(B:List Nat):Nat->List En->Nat->Bool->List En×Nat×Bool
 |0,e,a,b=>(e,a,b)
 |k+1,e,a,b=>if b=true then(e,a,b)else uk B k (e++[Ba B a b]) (Dv B a b) (FI B a b)
def aqw{B:List Nat}{k:Nat}{e:List En}{a:Nat}{b:Bool}(h:k=0\/b=true):uk B k e a b=(e,a,b):=by
 cases k with
 |zero=>rfl
 |succ k=>exact ah (by rcases h with h|h;omega;exact h)
def Qo{B:List Nat}{k:Nat}{e:List En}{a:Nat}(h:k≠0):uk B k e a false=uk B (k-1) (e++[Ba B a false]) (Dv B a false) (FI B a false):=by
 cases k with
 |zero=>exact absurd rfl h
 |succ k=>exact ag gy
def Jn(B:List Nat)(z t lo:Nat)(f:Bool)(q:List En×Nat×Bool):Option Fq:=if qD B q.2.1 q.2.2=true/\vFq ⟨z,t,lo,q.1,f⟩=0 then some ⟨z,t,lo,q.1,f⟩else none
def Eh(B:List Nat):Option Fq:=fF B 0 false 32 fun z a b=>fF B a b 1099511627776 fun t a b=>fF B a b 1099511627776 fun lo a b=>fF B a b 1 fun f a b=>fF B a b 32 fun n a b=>Jn B z t lo (decide ((f:Int)=1)) (uk B n [] a b)
abbrev oFq(x:Fq):List V:=[vi x.z,vi x.t,vi x.l,.sl (.own 0 215) 3 (ev x.e),vb x.b]
def ag8(B:List Nat)(ho:oct B)(hl:B.length<=2147483648):Gxx 93 [fzb B] (oV fqF Fq.o (Eh B)):=by
 refine wZ (F':=oFq) (zs:=[vi 0,vi 0,vi 0,.c (.slice none 0 0),vb false]) ?_ (fun _=>rfl) (fun _=>⟨aC _,aC _,trivial⟩) rfl ⟨.inr ⟨_,_,rfl,rfl,⟨.inl rfl,.inl rfl,.inl rfl,jB _ _,.inl rfl,trivial⟩⟩,aC _,trivial⟩;simp only[Eh,fF];obtain⟨z,A1,b1,u,z1,a1,m1,k1⟩:=rdN B 0 false 32 ho hl (ax _);simp only[u];obtain⟨t,A2,b2,u,z2,a2,m2,k2⟩:=rdN B A1 b1 1099511627776 ho hl a1;simp only[u];obtain⟨lo,A3,b3,u,z3,a3,m3,k3⟩:=rdN B A2 b2 1099511627776 ho hl a2;simp only[u];obtain⟨fl,A4,b4,u,z4,a4,m4,k4⟩:=rdN B A3 b3 1 ho hl a3;simp only[u];obtain⟨N,A5,b5,u,z5,a5,m5,k5⟩:=rdN B A4 b4 32 ho hl a4;simp only[u];have E:((fl:Int) == 1)=decide ((fl:Int)=1):=rfl;obtain⟨f,hf⟩:∃f,f=decide ((fl:Int)=1):=⟨_,rfl⟩;rw[<-hf]at E⊢;obtain⟨F,hF⟩:∃F,F=uk B N [] A5 b5:=⟨_,rfl⟩;rw[<-hF];refine gI (zN mix) ?_;(repeat' first|refine wQ (aI @iq E) ?_|refine aU _ (z1 _ _ _ _ rfl Om) rfl ?_|refine aU _ (z2 _ _ _ _ rfl Om) rfl ?_|refine aU _ (z3 _ _ _ _ rfl Om) rfl ?_|refine aU _ (z4 _ _ _ _ rfl Om) rfl ?_|refine aU _ (z5 _ _ _ _ rfl Om) rfl ?_|refine tS ?_ ?_<;>intro j|fail)
 refine aJ (fun x:List En×Nat×Bool=>mkA [(2,.ref 0 0),(4,.ref 1 0),(5,.ref 2 0),(6,vi N),(7,vi x.1.length)] [(0,(52,[vi 0,vi 0,vi 0,.c (.slice none 0 0),vb false])),(1,(261,[fzb B,vi x.2.1,vb x.2.2])),(2,(52,[vi z,vi t,vi lo,.sl (.own 0 215) 3 (ev x.1),vb f]))] 3 (fun _=>.top))
  (fun x=>uk B (N-x.1.length) x.1 x.2.1 x.2.2=F/\x.1.length<=N/\x.2.1<=B.length/\octE x.1) (fun x=>N-x.1.length) ([],A5,b5) [] [0,1,2] ?_ ⟨hF.symm,ax _,a5,tK⟩ ?_
 .exact kY
 .rintro⟨e,a,b⟩ ⟨l,i2,i3,i4⟩;simp only at l i2 i3 i4;have k:=bJ e;clear z1 z2 z3 z4 z5;by_cases H:e.length<N/\b=false
  .obtain⟨H,rfl⟩:=H;rw[Qo Om]at l;unfold Ba Dv FI at l;obtain⟨x1,p1,c1,u,w1,r1,t1⟩:=rdT B a false ho hl i3;simp only[u]at l;obtain⟨x2,T,c2,u,W,r2,m2,_⟩:=rdN B p1 c1 1099511627776 ho hl r1;simp only[u]at l;have M:=uO e x1 (x2:Nat) 0;have q8:=Kv i4 x1 (x2:Nat) 0 t1;obtain⟨y,hy⟩:∃y:En,y=(x1,((x2:Nat):Int),0):=⟨_,rfl⟩;rw[<-hy]at M q8 l;have Q:(e++[y]).length=e.length+1:=Aa;rw[show N-e.length-1=N-(e++[y]).length by rw[Q];omega]at l;(repeat' first|refine wQ (aI @iq k) ?_|refine tS ?_ ?_<;>intro j|fail);obtain⟨B0,I,Z,d0⟩:=bx0 (52,[vi 0,vi 0,vi 0,.c (.slice none 0 0),vb false]) (261,[fzb B,vi a,vb false]) (52,[vi z,vi t,vi lo,.sl (.own 0 215) 3 (ev e),vb f]);obtain⟨X,J,cc1,d1⟩:=bxs B p1 c1 d0;obtain⟨Y,K,cc2,d2⟩:=bxs B T c2 d1;obtain⟨m,c⟩:∃fB:(Nat->Bool)->BX,fB=fun S=>if S 5=true then Y else if S 3=true then X else B0:=⟨_,rfl⟩;obtain⟨s,d⟩:∃fB:(Nat->Bool)->Nat,fB=fun S=>if S 7=true then 4 else 3:=⟨_,rfl⟩;have L:∀S i,i≠3->i≠5->m S=m (ins S i):=fun S i h3 h5=>by rw[c];simp only[iy (jY h3),iy (jY h5)]
   have C:∀S i,i≠7->s S=s (ins S i):=fun S i h7=>by rw[d];simp only[iy (jY h7)]
   have P:∀S,m S 2=some (52,[vi z,vi t,vi lo,.sl (.own 0 215) 3 (ev e),vb f]):=fun S=>by rw[c];show(if S 5=true then Y else if S 3=true then X else B0) 2=_;(repeat' split)<;>assumption
   have R:∀S,1<s S:=fun S=>by rw[d];simp only;split<;>omega
   have hnd:([35,36,37,38,39,40,41,42]:List Nat).Nodup:=dX;refine Ir mix 8 [(35,.ref 2 3),(36,.sl (.own 0 215) 3 (ev e)),(37,.ref 1 0),(38,vs x1),(39,.ref 1 0),(40,vi (x2:Nat)),(41,.agg [vs x1,vi (x2:Nat),vi 0]),(42,.sl (.own 3 215) 3 [.agg [vs x1,vi (x2:Nat),vi 0]])] m s (by rw[c];show B0=_;exact I) (by rw[d];rfl) dX dX dX ?_ ?_
   .intro S i o ho hi q he hcl;rcases(Om:i=0\/i=1\/i=2\/i=3\/i=4\/i=5\/i=6\/i=7)with rfl|rfl|rfl|rfl|rfl|rfl|rfl|rfl;all_goals(simp only[vX,zy,aO]at ho;subst ho)
    all_goals(have sf:=he;simp[edgesOf,Region.binds]at sf)
    all_goals try((repeat' first|refine wQ (Ae q @sf @bH @dA P) ?_|refine tS ?_ ?_<;>intro j|fail);exact ig _ rfl hnd (L S _ dX dX) (C S _ dX))
    .have s2:=he 2 dX
     have n5:S 5=false:=by
      cases h5:S 5 with
      |false=>rfl
      |true=>have:=hcl 5 _ rfl h5 3 dX;rw[q]at this;cases this
     have n:m S=B0:=by rw[c];simp only[q,n5];rfl
     have A:m (ins S 3)=X:=by rw[c];simp only[ni,iy (show 5≠3 by decide),n5];rfl
     (repeat' first|refine wQ (Ae q @s2 n @bH @dA) ?_|refine tS ?_ ?_<;>intro j|fail);refine cZ (w1 _ _ _ _ Z (R S)) ?_ (by simp only[dm,dS,pgo,simprocAttr,s2,bH]);exact ig 3 rfl hnd (by rw[A,J]) (C S 3 dX)
    .have U:=he 4 dX;have T:=he 3 dX;have n:m S=X:=by rw[c];simp only[q,T];rfl
     have A:m (ins S 5)=Y:=by rw[c];simp only[ni];rfl
     (repeat' first|refine wQ (Ae q U n @bH @dA) ?_|refine tS ?_ ?_<;>intro j|fail);refine cZ (W _ _ _ _ cc1 (R S)) ?_ (by simp only[dm,dS,pgo,simprocAttr,U,bH]);exact ig 5 rfl hnd (by rw[A,K]) (C S 5 dX)
    .have s6:=he 6 dX;have n:s S=3:=by rw[d];simp only[q];rfl
     have A:s (ins S 7)=4:=by rw[d];simp only[ni];rfl
     (repeat' first|refine wQ (Ae q @s6 n @bH @dA) ?_|refine tS ?_ ?_<;>intro j|fail);exact ig 7 rfl hnd (L S 7 dX dX) A.symm
   .intro S g;have s1:=g 1 dX dX;have U:=g 7 dX dX;have n:m S=Y:=by rw[c];simp only[g 5 dX dX];rfl
    have A:s S=4:=by rw[d];simp only[U];rfl
    have p:=P S;rw[n]at p;rw[n,A,K,J,I];simp only[IV,lX,dm,dS];(repeat' first|refine wQ (Ah @iq k M @s1 U @bH @dA p) ?_|refine tS ?_ ?_<;>intro j|fail);refine dn (e++[y],T,c2) [0] [0,1,2] ⟨l,by show(e++[y]).length<=N;omega,by show T<=B.length;omega,q8⟩ (by show N-(e++[y]).length<N-e.length;omega) ?_;refine kN ?_;all_goals(try simp only[bH,dA,pgo,simprocAttr,ku,jS,nS])
    all_goals first|done|exact fE rfl rfl|exact eF (by rw[Q];omega)|exact eF Om|exact kZ rfl|skip
  .have r:N-e.length=0\/b=true:=by
    rcases au e.length N with h|h
    .cases b with
     |false=>exact absurd ⟨h,rfl⟩ H
     |true=>exact .inr rfl
    .exact .inl Om
   rw[aqw r]at l;subst l;have W:=fun e bx n' h hb=>zQD e bx n' h 1 B a b hb
   have hv:=JG ⟨z,t,lo,e,f⟩ i4 (by show e.length<=_;omega);have G:Jn B z t lo f (e,a,b)=if qD B a b=true/\vFq ⟨z,t,lo,e,f⟩=0 then some ⟨z,t,lo,e,f⟩else none:=rfl
   clear hf E;generalize qD B a b=D at *
   rcases(by
    rcases au e.length N with h|h
    .rcases r with h1|h1
     .omega
     .exact .inr ⟨h,h1⟩
    .exact .inl h:N<=e.length\/(e.length<N/\b=true))with j|⟨j,rfl⟩
   all_goals
    cases D
    .rw[jc (G.trans (ag fun h=>nomatch h.1))]
     (repeat' first|refine wQ (aI @iq k) ?_|refine cZ (W _ _ _ _ rfl) ?_|refine tS ?_ ?_<;>intro j|fail)
     all_goals exact rE []
    .by_cases h0:vFq ⟨z,t,lo,e,f⟩=0
     .rw[xA (G.trans (ah ⟨rfl,h0⟩))]
      rw[h0]at hv
      (repeat' first|refine wQ (aI @iq k) ?_|refine cZ (W _ _ _ _ rfl) ?_|refine cU hv ?_|refine tS ?_ ?_<;>intro j|fail)
      all_goals exact rE [0]
     .rw[jc (G.trans (ag fun h=>h0 h.2))]
      generalize vFq ⟨z,t,lo,e,f⟩=v at *
      (repeat' first|refine wQ (aI @iq k) ?_|refine cZ (W _ _ _ _ rfl) ?_|refine cU hv ?_|refine tS ?_ ?_<;>intro j|fail)
      all_goals exact rE []
def aqx{B:List Nat}(ho:oct B):∀(k:Nat) (e:List En) (a:Nat) (b:Bool),(uk B k e a b).2.2=false->b=false/\∃xs:List En,xs.length=k/\(uk B k e a b).1=e++xs/\B.drop a=xs.flatMap eP++B.drop (uk B k e a b).2.1:=by
 intro k
 induction k with
 |zero=>intro e a b h;exact⟨h,[],rfl,(gV _).symm,rfl⟩
 |succ k i =>
  intro e a b h
  cases b with
  |true=>cases h
  |false =>
   rw[Qo Om,uC]at h⊢;obtain⟨h1,xs,h2,h3,h4⟩:=i _ _ _ h;have h5:B.drop a=eP (Ba B a false)++B.drop (Dv B a false):=by unfold FI at h1;unfold Ba Dv eP;grind[jw,QS]
   refine⟨rfl,Ba B a false::xs,by simp[h2],by rw[h3];simp,?_⟩;simp_all
def aqv{B:List Nat}(ho:oct B):∀(l acc:List En) (a:Nat) (r:List Nat),B.drop a=l.flatMap eP++r->a<=B.length->(∀y∈l,y.1.length<=65536/\(0<=y.2.1/\y.2.1<=1099511627776)/\y.2.2=0)->∃b,uk B l.length acc a false=(acc++l,b,false)/\B.drop b=r/\b<=B.length:=by
 intro l
 induction l with
 |nil=>intro acc a r h ha _;exact⟨a,by simp[uk],h,ha⟩
 |cons y l p =>
  intro acc a r h ha hx;obtain⟨key,c,d⟩:=y;obtain⟨h1,h2,h3⟩:=hx _ (Aa:(key,c,d)∈(key,c,d)::l);simp only at h1 h2 h3;subst h3;have e:B.drop a=bG key++(ai c.toNat++(l.flatMap eP++r)):=by rw[h];simp[eP,bZ]
  obtain⟨x1,x,f⟩:=QR h1 e;obtain⟨x2,y2,g⟩:=jv (m:=1099511627776) x Om Om;have u:=IJ (bad:=false) ho ha;have v:=jf (bad:=false) (m:=1099511627776) ho u;have i:Ba B a false=(key,c,0):=by unfold Ba;rw[x1,f,x2,fO h2.1]
  have j:Dv B a false=qA B (tqA B a false) false 1099511627776:=by unfold Dv;rw[f]
  have k:FI B a false=false:=by unfold FI;rw[f,g]
  obtain⟨b,q,s,t⟩:=p (acc++[(key,c,0)]) _ r y2 v (fun y n=>hx y (by simp[n]));refine⟨b,?_,s,t⟩;rw[dB,Qo Om,uC,i,j,k,q];simp[bZ]
def aey{B:List Nat}{x:Fq}(ho:oct B)(h:Eh B=some x):vFq x=0/\jE x=B:=by
 simp only[Eh,fF]at h;unfold Jn at h;split at h
 .rename_i f;obtain⟨h1,h2⟩:=f;simp only[aO]at h;subst h;refine⟨h2,?_⟩;obtain⟨d,d2⟩:=FH h1;obtain⟨r,xs,a,b,c⟩:=aqx ho _ _ _ _ d;obtain⟨n,k⟩:=jw ho r;obtain⟨m,j⟩:=jw ho n;obtain⟨l,i⟩:=jw ho m;obtain⟨q,g⟩:=jw ho l;obtain⟨s,p⟩:=jw ho q;rw[d2,jM]at c;rw[g,i,j,k,c,lX]at p;unfold jE;simp only;rw[G6 (A7 dX),b];simp only[fC,iY,a];exact(p.trans (by simp only[bZ,gV])).symm
 .cases h
def aex(B:List Nat)(ho:oct B):Eh B=wE B:=by
 refine Ff (fun x h => ?_) (fun x h => ?_)
 .obtain⟨h1,h2⟩:=aey ho h;grind[aez]
 .obtain⟨h1,h2⟩:=Nl h;obtain⟨q,i2,b,r,c⟩:=zl h1;obtain⟨z,t,lo,e,f⟩:=x;simp only at q i2 r c b;have a:=fun i (hi:i<e.length)=>Cj (c i hi)
  have d:B.drop 0=ai z.toNat++(ai t.toNat++(ai lo.toNat++(ai (if f=true then 1 else 0:Nat)++(ai e.length++(e.flatMap eP++[]))))):=by rw[<-h2];unfold jE;rw[wK];simp only[bZ,gV,lX]
  obtain⟨x1,G,g⟩:=jv (m:=32) d Om Om;obtain⟨x2,y2,j⟩:=jv (m:=1099511627776) G Om Om;obtain⟨A,y3,k⟩:=jv (m:=1099511627776) y2 Om Om;obtain⟨C,y4,l⟩:=jv (m:=1) y3 (wM f) (by cases f<;>decide);obtain⟨E,y5,n⟩:=jv (m:=32) y4 Om Om;obtain⟨H,F,y9,v⟩:=aqv ho e [] _ _ y5 (jf (bad:=false) (m:=32) ho (jf (bad:=false) (m:=1) ho (jf (bad:=false) (m:=1099511627776) ho (jf (bad:=false) (m:=1099511627776) ho (jf (bad:=false) (m:=32) ho (ax B.length)))))) (fun y p=>by obtain⟨i,hi,rfl⟩:=nz eD p;obtain⟨s,k2,u⟩:=a i hi;rw[ry]at s;exact⟨by omega,⟨by omega,by omega⟩,u⟩);simp only[Eh,fF];rw[g,j,k,l,x1,x2,A,C,E,n,F,wL];unfold Jn;simp only[iY];rw[fO Om,fO Om,fO Om];exact ah ⟨FD y9 v,h1⟩
def vC(B:List Nat):Nat->List (List Nat)->Nat->Bool->List (List Nat)×Nat×Bool
 |0,c,a,b=>(c,a,b)
 |k+1,c,a,b=>if b=true then(c,a,b)else vC B k (c++[tqX B a b]) (tqA B a b) (tqB B a b)
def aqA{B:List Nat}{k:Nat}{c:List (List Nat)}{a:Nat}{b:Bool}(h:k=0\/b=true):vC B k c a b=(c,a,b):=by
 cases k with
 |zero=>rfl
 |succ k=>exact ah (by rcases h with h|h;omega;exact h)
def Qp{B:List Nat}{k:Nat}{b:List (List Nat)}{a:Nat}(h:k≠0):vC B k b a false=vC B (k-1) (b++[tqX B a false]) (tqA B a false) (tqB B a false):=by
 cases k with
 |zero=>exact absurd rfl h
 |succ k=>exact ag gy
def rD(B:List Nat)(a:Nat)(b:Bool):List (List Nat)×Nat×Bool:=vC B (qX B a b 32) [] (qA B a b 32) (qB B a b 32)
def um(B:List Nat):Nat->List (List (List Nat))->Nat->Bool->List (List (List Nat))×Nat×Bool
 |0,v,a,b=>(v,a,b)
 |k+1,v,a,b=>if b=true then(v,a,b)else um B k (v++[(rD B a b).1]) (rD B a b).2.1 (rD B a b).2.2
def aqI{B:List Nat}{k:Nat}{v:List (List (List Nat))}{a:Nat}{b:Bool}(h:k=0\/b=true):um B k v a b=(v,a,b):=by
 cases k with
 |zero=>rfl
 |succ k=>exact ah (by rcases h with h|h;omega;exact h)
def Qr{B:List Nat}{k:Nat}{v:List (List (List Nat))}{a:Nat}(h:k≠0):um B k v a false=um B (k-1) (v++[(rD B a false).1]) (rD B a false).2.1 (rD B a false).2.2:=by
 cases k with
 |zero=>exact absurd rfl h
 |succ k=>exact ag gy
def Jp(B:List Nat)(z t lo:Nat)(f:Bool)(q:List (List (List Nat))×Nat×Bool):Option Rk:=if qD B q.2.1 q.2.2=true/\vRk ⟨z,t,lo,q.1,f⟩=0 then some ⟨z,t,lo,q.1,f⟩else none
def Ej(B:List Nat):Option Rk:=fF B 0 false 32 fun z a b=>fF B a b 1099511627776 fun t a b=>fF B a b 1099511627776 fun lo a b=>fF B a b 1 fun f a b=>fF B a b 41 fun n a b=>Jp B z t lo (decide ((f:Int)=1)) (um B n [] a b)
abbrev oRk(x:Rk):List V:=[vi x.z,vi x.t,vi x.l,.sl (.own 0 66) 1 (lv x.v),vb x.b]
def aha(B:List Nat)(ho:oct B)(hl:B.length<=2147483648):Gxx 94 [fzb B] (oV rkF Rk.o (Ej B)):=by
 refine wZ (F':=oRk) (zs:=[vi 0,vi 0,vi 0,.c (.slice none 0 0),vb false]) ?_ (fun _=>rfl) (fun _=>⟨aC _,aC _,trivial⟩) rfl ⟨.inr ⟨_,_,rfl,rfl,⟨.inl rfl,.inl rfl,.inl rfl,jB _ _,.inl rfl,trivial⟩⟩,aC _,trivial⟩;simp only[Ej,fF];obtain⟨z,A1,b1,u,z1,a1,m1,k1⟩:=rdN B 0 false 32 ho hl (ax _);simp only[u];obtain⟨t,A2,q,u,z2,g,m2,k2⟩:=rdN B A1 b1 1099511627776 ho hl a1;simp only[u];obtain⟨lo,A3,b3,u,z3,a3,m3,k3⟩:=rdN B A2 q 1099511627776 ho hl g;simp only[u];obtain⟨fl,A4,b4,u,z4,a4,m4,k4⟩:=rdN B A3 b3 1 ho hl a3;simp only[u];obtain⟨N,A5,b5,u,z5,a5,m5,k5⟩:=rdN B A4 b4 41 ho hl a4;simp only[u];have s:((fl:Int) == 1)=decide ((fl:Int)=1):=rfl;obtain⟨f,hf⟩:∃f,f=decide ((fl:Int)=1):=⟨_,rfl⟩;rw[<-hf]at s⊢;obtain⟨F,hF⟩:∃F,F=um B N [] A5 b5:=⟨_,rfl⟩;rw[<-hF];refine gI oW ?_;(repeat' first|refine wQ s ?_|refine aU _ (z1 _ _ _ _ rfl Om) rfl ?_|refine aU _ (z2 _ _ _ _ rfl Om) rfl ?_|refine aU _ (z3 _ _ _ _ rfl Om) rfl ?_|refine aU _ (z4 _ _ _ _ rfl Om) rfl ?_|refine aU _ (z5 _ _ _ _ rfl Om) rfl ?_|refine tS ?_ ?_<;>intro p|fail)
 refine aJ (fun x:List (List (List Nat))×Nat×Bool=>mkA [(2,.ref 0 0),(4,.ref 1 0),(5,.ref 2 0),(6,vi N),(7,vi x.1.length)] [(0,(55,[vi 0,vi 0,vi 0,.c (.slice none 0 0),vb false])),(1,(261,[fzb B,vi x.2.1,vb x.2.2])),(2,(55,[vi z,vi t,vi lo,.sl (.own 0 66) 1 (lv x.1),vb f]))] 3 (fun _=>.top))
  (fun x=>um B (N-x.1.length) x.1 x.2.1 x.2.2=F/\x.1.length<=N/\x.2.1<=B.length/\(∀l∈x.1,octL l)/\∀l∈x.1,l.length<=1000000) (fun x=>N-x.1.length) ([],A5,b5) [] [0,1,2] ?_ ⟨hF.symm,ax _,a5,fun x hx=>(by cases hx),fun x hx=>by cases hx⟩ ?_
 .exact kY
 .rintro⟨v,a,b⟩ ⟨n,i2,U,W,Y⟩;simp only at n i2 U W Y;have i:=kF v;clear z1 z2 z3 z4 z5;by_cases C:v.length<N/\b=false
  .obtain⟨g1,rfl⟩:=C;rw[Qr Om]at n;have w1:=fun e bx n' h hb r=>zQN e bx n' h 1 B a false 32 ho hl U hb r
   have q2:=jf (B:=B) (a:=a) (bad:=false) (m:=32) ho U;have q3:=A7 (B:=B) (a:=a) (bad:=false) (m:=32) dX;obtain⟨G,S⟩:∃G,G=rD B a false:=⟨_,rfl⟩;rw[<-S]at n;unfold rD at S;(repeat' first|refine wQ i ?_|refine aU _ (w1 _ _ _ _ rfl Om) rfl ?_|refine tS ?_ ?_<;>intro p|fail);generalize qX B a false 32=K at *;generalize qA B a false 32=p1 at *;generalize qB B a false 32=c1 at *
   refine aJ (fun x:List (List Nat)×Nat×Bool=>mkA [(2,.ref 0 0),(4,.ref 1 0),(5,.ref 2 0),(6,vi N),(7,vi v.length),(8,vi K),(9,.sl (.own 1 9) 1 (sv x.1)),(10,vi x.1.length)] [(0,(55,[vi 0,vi 0,vi 0,.c (.slice none 0 0),vb false])),(1,(261,[fzb B,vi x.2.1,vb x.2.2])),(2,(55,[vi z,vi t,vi lo,.sl (.own 0 66) 1 (lv v),vb f]))] 3 (fun _=>.top))
    (fun x=>vC B (K-x.1.length) x.1 x.2.1 x.2.2=G/\x.1.length<=K/\x.2.1<=B.length/\octL x.1) (fun x=>K-x.1.length) ([],p1,c1) [0] [0,1,2] ?_ ⟨S.symm,ax _,q2,fun x hx=>by cases hx⟩ ?_
   .exact kY
   .rintro⟨k,g,q⟩ ⟨A,j2,I,Z⟩;simp only at A j2 I Z;have E:=jA k;by_cases hk:k.length<K/\q=false
    .obtain⟨hk1,rfl⟩:=hk;rw[Qp Om]at A;have L:=fun e bx n' h hb r=>zQT e bx n' h 1 B g false ho hl I hb r
     have r1:=IJ (B:=B) (a:=g) (bad:=false) ho I;obtain⟨r4,_⟩:=Zw (B:=B) (a:=g) (bad:=false) ho;have j:=Zm k [tqX B g false];have T:sv [tqX B g false]=[vs (tqX B g false)]:=rfl;rw[T]at j;have M:=Xl Z r4;have J:(k++[tqX B g false]).length=k.length+1:=Aa;generalize tqX B g false=X at *;generalize tqA B g false=P at *;generalize tqB B g false=Q at *;rw[show K-k.length-1=K-(k++[X]).length by rw[J];omega]at A;(repeat' first|refine wQ (Ac i E j) ?_|refine aU _ (L _ _ _ _ rfl Om) rfl ?_|refine tS ?_ ?_<;>intro p|fail);refine dn (k++[X],P,Q) [0,1] [0,1,2] ⟨A,by show(k++[X]).length<=K;omega,r1,M⟩ (by show K-(k++[X]).length<K-k.length;omega) ?_;(refine kM ?_ ?_;(repeat'(first|exact ae|refine dQ _ _ rfl rfl ?_ ?_));all_goals(try simp only[pgm,simprocAttr]);all_goals(try(repeat' apply aI));all_goals(try exact gz));all_goals first|exact fE rfl rfl|exact eF (by rw[J];omega)|exact eF Om|exact kZ rfl|skip
    .have d:K-k.length=0\/q=true:=by
      rcases au k.length K with h|h
      .cases q with
       |false=>exact absurd ⟨h,rfl⟩ hk
       |true=>exact .inr rfl
      .exact .inl Om
     rw[aqA d]at A;subst A;simp only at n;have H:(v++[k]).length=v.length+1:=Aa;rw[show N-v.length-1=N-(v++[k]).length by rw[H];omega]at n;have j:=CY v k;have M:=Xm W Z
     have J:∀l∈v++[k],l.length<=1000000:=by
      intro x hx;rcases iG.1 hx with hx|hx
      .exact Y x hx
      .simp only[jX]at hx;subst hx;omega
     rcases(by
      rcases au k.length K with h|h
      .rcases d with h1|h1
       .omega
       .exact .inr ⟨h,h1⟩
      .exact .inl h:K<=k.length\/(k.length<K/\q=true))with c|⟨c,rfl⟩
     all_goals
      (repeat' first|refine wQ (A8 i E j @id_eq.{1} @yl @dM @uF @oq @zD.{0,0}) ?_|refine tS ?_ ?_<;>intro p|fail)
      first
       |refine dn (v++[k],g,q) [0] [0,1,2] ⟨n,by show(v++[k]).length<=N;omega,I,M,J⟩ (by show N-(v++[k]).length<N-v.length;omega) ?_
       |refine dn (v++[k],g,true) [0] [0,1,2] ⟨n,by show(v++[k]).length<=N;omega,I,M,J⟩ (by show N-(v++[k]).length<N-v.length;omega) ?_
      (refine kM ?_ ?_;(repeat'(first|exact ae|refine dQ _ _ rfl rfl ?_ ?_));all_goals(try simp only[pgm,simprocAttr]);all_goals(try(repeat' apply aI));all_goals(try exact gz))
      all_goals first|exact fE rfl rfl|exact eF (by rw[H];omega)|exact eF Om|exact kZ rfl|skip
  .have d:N-v.length=0\/b=true:=by
    rcases au v.length N with h|h
    .cases b with
     |false=>exact absurd ⟨h,rfl⟩ C
     |true=>exact .inr rfl
    .exact .inl Om
   rw[aqI d]at n;subst n;have L:=fun e bx n' h hb=>zQD e bx n' h 1 B a b hb
   have hv:=JI ⟨z,t,lo,v,f⟩ W (by show v.length<=_;omega) Y;have y:Jp B z t lo f (v,a,b)=if qD B a b=true/\vRk ⟨z,t,lo,v,f⟩=0 then some ⟨z,t,lo,v,f⟩else none:=rfl
   clear hf s;generalize qD B a b=D at *
   rcases(by
    rcases au v.length N with h|h
    .rcases d with h1|h1
     .omega
     .exact .inr ⟨h,h1⟩
    .exact .inl h:N<=v.length\/(v.length<N/\b=true))with p|⟨p,rfl⟩
   all_goals
    cases D
    .rw[jc (y.trans (ag fun h=>nomatch h.1))]
     (repeat' first|refine wQ i ?_|refine cZ (L _ _ _ _ rfl) ?_|refine tS ?_ ?_<;>intro p|fail)
     all_goals exact rE []
    .by_cases R:vRk ⟨z,t,lo,v,f⟩=0
     .rw[xA (y.trans (ah ⟨rfl,R⟩))]
      rw[R]at hv
      (repeat' first|refine wQ i ?_|refine cZ (L _ _ _ _ rfl) ?_|refine cU hv ?_|refine tS ?_ ?_<;>intro p|fail)
      all_goals exact rE [0]
     .rw[jc (y.trans (ag fun h=>R h.2))]
      generalize vRk ⟨z,t,lo,v,f⟩=vv at *
      (repeat' first|refine wQ i ?_|refine cZ (L _ _ _ _ rfl) ?_|refine cU hv ?_|refine tS ?_ ?_<;>intro p|fail)
      all_goals exact rE []
theorem aqB{B:List Nat}(ho:oct B):∀(k:Nat) (c:List (List Nat)) (a:Nat) (b:Bool),(vC B k c a b).2.2=false->b=false/\∃xs:List (List Nat),xs.length=k/\(vC B k c a b).1=c++xs/\B.drop a=xs.flatMap bG++B.drop (vC B k c a b).2.1:=by
 intro k
 induction k with
 |zero=>intro c a b h;exact⟨h,[],rfl,(gV _).symm,rfl⟩
 |succ k i =>
  intro c a b h
  cases b with
  |true=>cases h
  |false =>rw[Qp Om]at h⊢;obtain⟨h1,xs,h2,h3,h4⟩:=i _ _ _ h;grind[QS]
theorem aqJ{B:List Nat}(ho:oct B):∀(k:Nat) (v:List (List (List Nat))) (a:Nat) (b:Bool),(um B k v a b).2.2=false->b=false/\∃xs:List (List (List Nat)),xs.length=k/\(um B k v a b).1=v++xs/\B.drop a=xs.flatMap dW++B.drop (um B k v a b).2.1:=by
 intro k
 induction k with
 |zero=>intro v a b h;exact⟨h,[],rfl,(gV _).symm,rfl⟩
 |succ k i =>
  intro v a b h
  cases b with
  |true=>cases h
  |false =>
   rw[Qr Om]at h⊢;obtain⟨h1,xs,h2,h3,h4⟩:=i _ _ _ h;have h5:B.drop a=dW (rD B a false).1++B.drop (rD B a false).2.1:=by unfold rD at h1⊢;obtain⟨g,ys,c,d,g4⟩:=aqB ho _ _ _ _ h1;obtain⟨_,f⟩:=jw ho g;simp_all[dW]
   grind
def aqz{B:List Nat}(ho:oct B):∀(l acc:List (List Nat)) (a:Nat) (r:List Nat),B.drop a=l.flatMap bG++r->a<=B.length->(∀k∈l,k.length<=65536)->∃b,vC B l.length acc a false=(acc++l,b,false)/\B.drop b=r/\b<=B.length:=by
 intro l
 induction l with
 |nil=>intro acc a r h ha _;exact⟨a,by simp[vC],h,ha⟩
 |cons y l i =>
  intro acc a r h ha hx;have e:B.drop a=bG y++(l.flatMap bG++r):=by rw[h];simp[bZ]
  obtain⟨x1,m,f⟩:=QR (hx y Aa) e;obtain⟨b,j,d,g⟩:=i (acc++[y]) _ r m (IJ ho ha) (fun y c=>hx y (by simp[c]));refine⟨b,?_,d,g⟩;rw[dB,Qp Om,uC,x1,f,j];simp[bZ]
def aqH{B:List Nat}(ho:oct B):∀(v acc:List (List (List Nat))) (a:Nat) (r:List Nat),B.drop a=v.flatMap dW++r->a<=B.length->(∀l∈v,l.length<=32/\∀x∈l,x.length<=65536)->∃b,um B v.length acc a false=(acc++v,b,false)/\B.drop b=r/\b<=B.length:=by
 intro v
 induction v with
 |nil=>intro acc a r h ha _;exact⟨a,by simp[um],h,ha⟩
 |cons y v i =>
  intro acc a r h ha hx;obtain⟨h1,h2⟩:=hx y Aa;have e:B.drop a=ai y.length++(y.flatMap bG++(v.flatMap dW++r)):=by rw[h];simp[dW]
  obtain⟨x1,n,f⟩:=jv (m:=32) e Om Om;obtain⟨c,k,k2,j⟩:=aqz ho y [] _ _ n (jf ho ha) h2;have g:rD B a false=(y,c,false):=by unfold rD;rw[x1,f,k];rfl
  obtain⟨b,p,q,s⟩:=i (acc++[y]) _ r k2 j (fun y d=>hx y (by simp[d]));simp_all[Qr]
def aeF{B:List Nat}{x:Rk}(ho:oct B)(h:Ej B=some x):vRk x=0/\jF x=B:=by
 simp only[Ej,fF]at h;unfold Jp at h;split at h
 .rename_i f;obtain⟨h1,h2⟩:=f;simp only[aO]at h;subst h;refine⟨h2,?_⟩;obtain⟨d,d2⟩:=FH h1;obtain⟨r,xs,a,b,c⟩:=aqJ ho _ _ _ _ d;obtain⟨n,k⟩:=jw ho r;obtain⟨m,j⟩:=jw ho n;obtain⟨l,i⟩:=jw ho m;obtain⟨q,g⟩:=jw ho l;obtain⟨s,p⟩:=jw ho q;rw[d2,jM]at c;rw[g,i,j,k,c,lX]at p;unfold jF;simp only;rw[G6 (A7 dX),b];simp only[fC,iY,a];exact(p.trans (by simp only[bZ,gV])).symm
 .cases h
def aeE(B:List Nat)(ho:oct B):Ej B=wF B:=by
 refine Ff (fun x h => ?_) (fun x h => ?_)
 .obtain⟨h1,h2⟩:=aeF ho h;grind[aeG]
 .obtain⟨h1,h2⟩:=Ns h;have a:=IK h1;obtain⟨u,i2,b,A,c⟩:=zn h1;obtain⟨z,t,lo,v,f⟩:=x;simp only at u i2 A c b a;have d:B.drop 0=ai z.toNat++(ai t.toNat++(ai lo.toNat++(ai (if f=true then 1 else 0:Nat)++(ai v.length++(v.flatMap dW++[]))))):=by rw[<-h2];unfold jF;rw[wK];simp only[bZ,gV,lX]
  obtain⟨x1,I,j⟩:=jv (m:=32) d Om Om;obtain⟨x2,y2,l⟩:=jv (m:=1099511627776) I Om Om;obtain⟨E,y3,n⟩:=jv (m:=1099511627776) y2 Om Om;obtain⟨F,y4,p⟩:=jv (m:=1) y3 (wM f) (by cases f<;>decide);obtain⟨G,y5,q⟩:=jv (m:=41) y4 Om Om;obtain⟨J,H,y9,C⟩:=aqH ho v [] _ _ y5 (jf (bad:=false) (m:=41) ho (jf (bad:=false) (m:=1) ho (jf (bad:=false) (m:=1099511627776) ho (jf (bad:=false) (m:=1099511627776) ho (jf (bad:=false) (m:=32) ho (ax B.length)))))) (fun y s=>by obtain⟨i,hi,he⟩:=nz [] s;have r:=c i;have g:=a i hi;rw[he]at r g;exact⟨by omega,fun k hk=>by have:=g k hk;omega⟩);simp only[Ej,fF];rw[j,l,n,p,x1,x2,E,F,G,q,H,wL];unfold Jp;simp only[iY];rw[fO Om,fO Om,fO Om];exact ah ⟨FD y9 C,h1⟩
def ah9(l:List Nat)(ho:oct l)(hl:l.length<=2147483648):Gxx 87 [fzb l] (unV l):=by
 refine(aia l ho hl).fzr ?_ ?_
 .unfold unO;split<;>rfl
 .have:(unO l).erase=unV l:=by unfold unO unV;split<;>rfl
  rw[this];exact aC _
def agE(l:List Nat)(ho:oct l)(h:unE l=0)(h2:unU l+4=l.length):l=jR (l.getD 0 0) (unB l):=by
 unfold unE at h;split at h
 .cases h
 .rename_i p;split at h
  .omega
  .rename_i h1;have h1:(ak (l.drop 1)).2.2=0:=o8 h1;split at h
   .cases h
   .rename_i h3;split at h
    .cases h
    .rename_i h4;split at h
     .cases h
     .rename_i h5;have h5:=o8 h5;have f:=BZ (l.drop 1) (eG ho 1) h1;have g:=Nr (l.drop 1) (eG ho 1) h1;have c:unU l=1+(ak (l.drop 1)).2.1+(ak (l.drop 1)).1:=rfl;have d:unB l=(l.take (unU l)).drop (1+(ak (l.drop 1)).2.1):=rfl;rw[<-c]at h5;have s:=(Tn l (unU l) ho Om).1 h5;generalize unB l=i,unU l=U,ak (l.drop 1)=q at *;obtain⟨x,u,e⟩:=q;simp only at *;have j:i.length=x:=by rw[d,eH,bI];omega
      have b:bK (l.getD 0 0) i=l.take U:=by
       unfold bK;rw[j]
       have k:l=l.getD 0 0::l.drop 1:=by
        cases l with
        |nil=>exact absurd rfl p
        |cons a r=>rfl
       have m:l.take U=l.getD 0 0::(ai x++((l.drop 1).drop u).take x):=by
        conv=>lhs;rw[k,f]
        rw[c,show 1+u+x=(u+x)+1 by omega,aaw,Gt,g];rw[oz Om,show(ai x).length+x-(ai x).length=x by omega]
       have n:i=((l.drop 1).drop u).take x:=by rw[d,c,sD,su];congr 1;omega
       rw[m,<-n,mO]
      unfold jR;rw[b,<-s];unfold ft;rw[h2,gB,Mc]
def aeD{k:Nat}{l:List Nat}{s:Sk}(ho:oct l)(h:jC k l=some s):vSk (iD s)=0/\(iD s).p.k=k/\fK (iD s)=l:=by
 have refl:∀s:Sk,jy s s=true:=fun s=>by unfold jy vH vJ vM vI vK samP samT;simp
 unfold jC at h;(repeat' split at h)<;>first|(cases h;done)|skip
 all_goals
  rename_i hk
  subst hk
  simp only[bF]at h
  obtain⟨x,hd,rfl⟩:=h
 .obtain⟨h1,h2⟩:=TK hd;exact⟨by simp[vSk,gU,gu,iD,oQ,skK,vp,parP,refl,h1],rfl,h2⟩
 .obtain⟨⟨h1,h2⟩,_⟩:=Nk ho hd;have i:=Bv h1;exact⟨by simp[vSk,gU,gu,iD,oQ,skK,vp,parP,refl,h1];omega,rfl,h2⟩
 .have h1:=(Np ho hd).1;have i:=Bz h1;exact⟨by simp[vSk,gU,gu,iD,oQ,skK,vp,parP,refl,h1];omega,rfl,TI ho hd⟩
 .obtain⟨h1,h2⟩:=Nu hd;have i:=zo h1;exact⟨by simp[vSk,gU,gu,iD,oQ,skK,vp,parP,refl,h1];omega,rfl,h2⟩
 .obtain⟨h1,h2⟩:=Nl hd;have i:=zl h1;exact⟨by simp[vSk,gU,gu,iD,oQ,skK,vp,parP,refl,h1];omega,rfl,h2⟩
 .obtain⟨h1,h2⟩:=Ns hd;have i:=zn h1;exact⟨by simp[vSk,gU,gu,iD,oQ,skK,vp,parP,refl,h1];omega,rfl,h2⟩
def Uo:Option Sk->Sk×Nat
 |none=>(Sk.o,2)
 |some s=>(iD s,0)
def af0(l:List Nat)(ho:oct l)(h:unE l=0)(b:l.getD 0 0=83)(h2:unU l+4=l.length)(h3:(ak (unB l)).2.2=0) :
  NK l (jC (ak (unB l)).1 ((unB l).drop (ak (unB l)).2.1))=Uo (jC (ak (unB l)).1 ((unB l).drop (ak (unB l)).2.1)):=by
 have a:oct (unB l):=eG (vw ho _) _
 cases hd:jC (ak (unB l)).1 ((unB l).drop (ak (unB l)).2.1)with
 |none=>rfl
 |some s =>obtain⟨h4,h5,c⟩:=aeD (eG a _) hd;refine ah ⟨h4,?_⟩;unfold dw;rw[ag (fun e=>e h4),h5,c,fC,<-BZ (unB l) a h3];have:=agE l ho h h2;rw[b]at this;exact this.symm
def fnR(k:Nat):Nat:=if k=1 then 89 else if k=2 then 90 else if k=3 then 91 else if k=4 then 92 else if k=5 then 93 else 94
def ag5(l B:List Nat)(u k:Nat)(hk:k=1\/k=2\/k=3\/k=4\/k=5\/k=6)(q:Gxx 87 [fzb l] (.tup [.c (.int .u8 83),fzb B,vi (l.length:Nat),vi 0]))(m:Gxx 88 [fzb B] (.tup [vi k,vi (u:Nat),vi 0]))(t:u<=B.length)(r:oct B)(v:B.length<=900000) :
  Gxx 32 [fzb l] (rSk (Uo (jC k (B.drop u)))):=by
 have b0:=aA B
 have bL:=aA l
 have x:=iR B u
 have g:=eG r u
 have y:(B.drop u).length<=900000:=by rw[eH];omega
 generalize B.drop u=R at *
 rcases Uy (F:=fnR) (aeI R g▸ahc R g Om) (aeu R g▸ag7 R g Om) (aeA R g▸ag9 R g Om) (aeL R g▸ahd R g Om) (aex R g▸ag8 R g Om) (aeE R g▸aha R g Om) g k hk with⟨i,h⟩|⟨s,i,hp,j,ok,h⟩
 .rw[i];refine ru (n:=2) rfl ?_;rcases hk with rfl|rfl|rfl|rfl|rfl|rfl
  all_goals
   simp only[fnR,CG,Nat.reduceEqDiff,reduceIte]at h
   refine gI oW ?_
   exact wR (Ad @pgv @b0 @bL x) (Ac q m h) ay
 .rw[i];refine Good.wkt (vs:=[.agg (skN (iD s)),vi 0]) ?_ ⟨FP (s:=iD s) j,aC _,trivial⟩;clear ok i;obtain⟨p,a,b,c,d,e,f⟩:=s;simp only at hp;subst hp;unfold skU at j;rcases hk with rfl|rfl|rfl|rfl|rfl|rfl
  all_goals
   simp[skN,skC,iD,oQ,fnR,CG]at h j⊢
   obtain⟨rfl,rfl,rfl,rfl,rfl⟩:=j
   refine gI oW ?_
   exact wR (Ad @pgv @b0 @bL x) (Ac q m h) ay
def JB(l:List Nat)(ho:oct l)(hl:l.length<=900000):Gxx 32 [fzb l] (rSk (fA l)):=by
 have b:=ah9 l ho Om;unfold unV at b;have f:oct (unB l):=eG (vw ho _) _;have s:(unB l).length<=l.length:=by unfold unB;rw[eH,bI];omega
 have c:=JA (unB l) f Om;obtain⟨i,m,j⟩:=lS (unB l) f;have a:=af0 l ho;unfold lU at c;unfold fA;have b0:=aA (unB l);have bL:=aA l;have x:=fun u=>iR (unB l) u
 have r:=kw ho 0;generalize unB l=B,l.getD 0 0=t,unU l=us,unE l=e at *;by_cases d:e=0
 case neg =>
  rw[ah d]
  rw[ah d]at b
  refine ru (n:=e) rfl ?_
  unfold nO at b
  refine gI oW ?_
  exact wR ae b ay
 case pos =>
  rw[ag (fun h=>h d)]
  rw[ag (fun h=>h d)]at b
  by_cases h1:t=83
  case neg =>
   rw[ah (fun h=>h1 h.1)]
   refine ru (n:=2) rfl ?_
   refine gI oW ?_
   exact wR (aI @bL @b0) (aI b c) ay
  case pos =>
   subst h1
   by_cases h2:us+4=l.length
   case neg =>
    rw[ah (fun h=>h2 h.2.1)]
    refine ru (n:=2) rfl ?_
    refine gI oW ?_
    exact wR (aI @bL @b0) (aI b c) ay
   case pos =>
    have a:=a d rfl h2
    rw[h2]at b
    generalize p:ak B=q at *
    obtain⟨k,u,g⟩:=q
    simp only at c i m j a⊢
    by_cases h3:g=0
    case neg =>
     rw[ah (fun h=>h3 h.2.2)]
     refine ru (n:=2) rfl ?_
     refine gI oW ?_
     exact wR (aI @bL @b0) (aI b c) ay
    case pos =>
     subst h3
     rw[ag (fun h=>h ⟨trivial,h2,rfl⟩),a rfl]
     by_cases hk:k=1\/k=2\/k=3\/k=4\/k=5\/k=6
     case pos =>
      exact ag5 l B u k hk b c m f Om
     case neg =>
      have e:jC k (B.drop u)=none:=by
       unfold jC
       rw[ag Om,ag Om,ag Om,ag Om,ag Om,ag Om]
      rw[e]
      refine ru (n:=2) rfl ?_
      refine gI oW ?_
      exact wR (Ad @pgv @bL @b0 x) (aI b c) ay
def UY{Q:List Nat->Prop}{s:Sto}(H:OkS Q s)(g:∀d,Q d->oct d/\d.length<=65536){k:List Nat}{i x:Nat}{d:List Nat}(ha:AtV s k s.m i x)(hd:Q d)(hv:VcP s.pa (verOf s i x).p d)(hp:(verOf s i x).p.length<=65536)(u:Sto)(z:Int)(m:Gxx 33 [.agg (stF s),vi s.m] (.tup [.agg (stF u),vi z]))(t:z≠0->u=s) :
  Gxx 11 [.agg (stF s),.sl .fz 1 (ssV [k])] (.tup [.agg (stF u),.agg (if z=0 then mcF s.m true [(verOf s i x).f] (skF (fA d).1) skZ else mcZ),vi z]):=by
 have hm:=H.m
 have j:=H.sml
 have a:=ut s hm.1
 have h:=BV H.pn hv
 have f:=Hg s j k s.m i x ha a
 have n:=JD s j k s.m i x ha a (jsO s.pa (verOf s i x).p) (AX hv.num fun q r=>(H.pp q r).1) Om
 rw[h]at n
 have p:Gxx 32 [fzb d] (.tup [.agg (skF (fA d).1),vi ((fA d).2:Nat)]):=JB d (g d hd).1 (by have:=(g d hd).2;omega)
 generalize(fA d).1=X at *
 generalize(fA d).2=w at *
 generalize(verOf s i x).f=v at *
 generalize(s.ob.getD i (0,[])).1=y at *
 clear j H g ha hd hv hp a h
 by_cases c:z=0
 .subst c;rw[ah rfl];refine Good.fzt (vs:=[.agg (stF u),.agg (vi 0::vi s.m::vb true :: .sl (.own 0 3) 1 [vi v]::vi 0::(skF X++(skZ++[vi 0,vi 0,vi 0,vi 0,vi 0,vi 0,nls,vb false]))),vi 0]) ?_ rfl ⟨aC _,aC _,aC _,trivial⟩;refine gI (fJ [] mix) ?_;(repeat' first|refine wED (aI @pgE @aX) f ?_|refine tE ?_ ?_<;>intro b|fail);refine tu 2 ?_;(repeat' first|refine wED (Ac @pgE @aX @pgu) (Ac f n p) ?_|refine tE ?_ ?_<;>intro b|fail);refine vT ?_;(repeat' first|refine wEX (Ac @pgE @aX @pgu) m ?_|refine tE ?_ ?_<;>intro b|fail);refine oh mix ?_;(repeat'(first|(simp(disch:=first|exact dqz|fail) only[pgz,simprocAttr,pgE,pga])|(refine tE ?_ ?_<;>intro b)|(with_reducible refine cKA ?_)|((with_reducible show gJ _ _ _ _ _);first|refine lG (by decide +kernel) ?_|refine lF (by decide +kernel) ?_)|refine xK ?_|fail));exact rE [6]
 .rw[ag c];have l:(z=0)=False:=eq_false c;rw[t c]at m⊢;refine gI (fJ [] mix) ?_;(repeat' first|refine wED (aI @pgE @aX) f ?_|refine tE ?_ ?_<;>intro b|fail);refine tu 2 ?_;(repeat' first|refine wED (Ac @pgE @aX @pgu) (Ac f n p) ?_|refine tE ?_ ?_<;>intro b|fail);refine vT ?_;(repeat' first|refine wEX (Ad @pgE @aX @pgu l) m ?_|refine tE ?_ ?_<;>intro b|fail);exact rE []
def U1{Q:List Nat->Prop}{s:Sto}(H:OkS Q s){k:List Nat}{r:List (List Nat)}(b:r=[]\/∃a,r=[a])(hk:(lkA k s.m s.bi).2=false):Gxx 11 [.agg (stF s),.sl .fz 1 (ssV (k::r))] (.tup [.agg (stF s),.agg mcZ,vi 8]):=by
 have q:=Oa s H.sml k s.m hk (ut s H.m.1);clear H hk;rcases b with rfl|⟨k2,rfl⟩
 all_goals
  refine gI (fJ [] mix) ?_
  (repeat' first|refine wU (aI @pgE @aX) ?_|refine tE ?_ ?_<;>intro h|fail)
  refine tu 1 ?_
  (repeat' first|refine wED (Ac @pgE @aX @pgu) q ?_|refine tE ?_ ?_<;>intro h|fail)
  exact rE []
def aes:(dw (jJ [0])).length<=480:=by decide +kernel
def XB{Q:List Nat->Prop}{s:Sto}(H:OkS Q s){k:List Nat}{r:List (List Nat)}(v:r=[]\/∃a,r=[a])(hk:(lkA k s.m s.bi).2=false):Pgm 9 [.sl .fz 1 (ssV (k::r))] s s (.tup [.agg mcZ,vi 8]):=by
 intro e bx n h b N c;have hm:=H.m;have x:=H.sml;have f:=ut s hm.1;have S:∀B,(∀k,k<n->B k=bx k)->StAt B n b s N:=fun B h2=>c.of (az _) fun k hk=>h2 k (c.ltD k hk)
 have y:=fun B h2=>(S B h2).look fun e m h d=>PQ e B m h d x k s.m f hk
 have A:=fun B h2=>(S B h2).look fun e m h d=>KC e B m h d
 have t:=c.lt.1;have g:(n=n+1)=False:=eq_false Om;have i:(n+1=n)=False:=eq_false Om;have j:(n=n+1+1)=False:=eq_false Om;have l:(n+1+1=n)=False:=eq_false Om;have p:(n+1=n+1+1)=False:=eq_false Om;have q:(n+1+1=n+1)=False:=eq_false Om;rcases v with rfl|⟨k2,rfl⟩
 all_goals
  refine lg (fJ [] mix) Tryz.func9 rfl Tryz.results9 rfl Za (fP Za) ?_
  (repeat' first|refine wU (A8 @pgE @aX @aK @bu @bz g i j (Ac l p q)) ?_|(refine tC ?_;refine oC _ ((A _ (by intro k hk;simp only[upd];repeat rw[ag Om]))) rfl ?_)|refine tE ?_ ?_<;>intro u|fail)
  refine tu 1 ?_
  (repeat' first|refine wU (A8 @pgE @aX @pgu @bu @bz g i j (Ac l p q)) ?_|(refine tC ?_;refine oC _ ((y _ (by intro k hk;simp only[upd];repeat rw[ag Om]))) rfl ?_)|refine tE ?_ ?_<;>intro u|fail)
  refine kz (SMod.here (B:=_) (m:=n+3) (N':=N) Om (fun k hk=>.inl hk) (c.of Om fun k hk => ?_) fun k C k2 => ?_) (ng ?_ (aP _ _) (aQ _ _) rfl (az _))
  .have:=c.ltD k hk
   simp only[upd]
   repeat rw[ag Om]
  .simp only[upd]
   repeat rw[ag Om]
  .simp(disch:=first|exact dqz|fail) only[pgz,simprocAttr,pgr]
def cur(s:Sto)(k:List Nat):Option Int:=if(lkA k s.m s.bi).2=true then some (verOf s (ixA (lkA k s.m s.bi).1 s.ob 0).toNat (fvA s.m (s.ob.getD (ixA (lkA k s.m s.bi).1 s.ob 0).toNat (0,[])).2 0).1.toNat).f else none
def TE{s:Sto}{k:List Nat}{i x:Nat}(h:AtV s k s.m i x):cur s k=some (verOf s i x).f:=by unfold cur;rw[h.lk];rw[h.ix,fC,h.fv];rfl
def aee{s:Sto}{k:List Nat}(h:(lkA k s.m s.bi).2=false):cur s k=none:=by grind[cur]
theorem OkS.cur{Q:List Nat->Prop}{s:Sto}(H:OkS Q s)(k:List Nat):∃o f z:Int,(∀e bx n h b N,StAt bx n b s N->Gxz 27 [.ref b 0,vs k,vi s.m] ⟨e,bx,n,h⟩ ⟨e,bx,n,h⟩ (.tup [vi o,vi f,vi z])) /\
  Gxx 30 [.agg (stF s),vs k,vi s.m] (.tup [vi o,vi f,vi z])/\Go.Proofs.YtopbmdnbdpjheaaGreat.cur s k=if z=0 then some f else none:=by
 have a:=ut s H.m.1
 cases hk:(lkA k s.m s.bi).2
 .exact⟨0,0,8,fun e bx n h b N c=>PQ e bx n h c H.sml k s.m a hk,Oa s H.sml k s.m hk a,by rw[aee hk];rfl⟩
 .obtain⟨i,x,_,h,_⟩:=H.at hk;exact⟨_,_,0,fun e bx n d b N c=>KF e bx n d c H.sml H.on k s.m i x a h,Hg s H.sml k s.m i x h a,by rw[TE h];rfl⟩
end Go.Proofs.YtopbmdnbdpjheaaGreat
