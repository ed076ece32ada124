/-
  Merged texts.
-/
import Derived.Test.YtopbmdnbdpjheaaGreatWAG
import Derived.Test.YtopbmdnbdpjheaaGreatWAI
import Derived.Test.YtopbmdnbdpjheaaGreatWAL
import Derived.Test.YtopbmdnbdpjheaaGreatKAF
import Derived.Test.YtopbmdnbdpjheaaGreatWAJ
import Derived.Test.YtopbmdnbdpjheaaGreatKAD
import Derived.Test.YtopbmdnbdpjheaaGreatKAH
import Derived.ChangeSlices
import Derived.DataReads
import Derived.Test.YtopbmdnbdpjheaaGreatWAE
import Derived.Test.YtopbmdnbdpjheaaGreatRows
import Derived.ProofKit
import Derived.Test.YtopbmdnbdpjheaaGreatWAF
import Derived.Test.YtopbmdnbdpjheaaGreatKAA
set_option linter.all false
set_option linter.unusedVariables false
set_option linter.unusedSimpArgs false
set_option linter.unusedSectionVars false
set_option linter.defProp false
set_option maxRecDepth 100000
set_option maxHeartbeats 8000000
namespace Go.Proofs.YtopbmdnbdpjheaaGreat
open Go Go.Pg
def Jz(a b c d:Int)(k:Nat):g4 [a,b,c,d] k=a\/g4 [a,b,c,d] k=b\/g4 [a,b,c,d] k=c\/g4 [a,b,c,d] k=d:=by grind[g4]
def MV(a:Nat):vCf (cfB a)/\(cfB a).na<=12/\(cfB a).pg<=16384/\(cfB a).pn<=1000/\(cfB a).cm<=1000/\(8<=(cfB a).z/\(cfB a).z<=1024):=by have h1:=Jz 60 12 6 30 (a / 4);have h2:=Jz 8 16 40 200 (a / 16);have h3:=Jz 8 3 2 5 (a / 64);have h4:=Jz 100 6 30 12 (a / 256);unfold vCf cfB;simp only;omega
abbrev st0(c:Cf):Sto:=⟨c,0,0,[],[],[],[]⟩
def OkS.new(Q:List Nat->Prop)(a:Nat):OkS Q (st0 (cfB a)):=by obtain⟨⟨_,h1,h2,h3,h4,h5,_⟩,d,f,g,j,c⟩:=MV a;exact⟨c,f,j,d,g,⟨rZ _,by show 0<=(cfB a).cm;omega⟩,⟨rZ _,rZ _⟩,rZ _,fun i h=>(by cases h),fun b h=>(by cases h),fun b h=>(by cases h),by show(0:Int)<=(cfB a).na;omega,by simp,rZ _,fun o h=>(by cases h),fun o h=>(by cases h),by simp,by show(0:Int)<=(cfB a).pg;omega,fun p h=>(by cases h),fun i h=>(by cases h),fun p h=>(by cases h),by show(0:Int)<=(cfB a).pn;omega⟩
structure PrAt (lo hi hj p b:Nat) (B0:Bx) (s:Sto) (N:SN) (B:Bx) (m:Nat):Prop where
 pj:p<hj
 pn:p<lo\/hi<=p
 jm:hj<=m
 ij:hi<=hj
 hp:B p=some (35,prF b s)
 st:StAt B m b s N
 D:∀k∈N.D b,(lo<=k/\k<hi)\/hj<=k
 fr:∀k,k<hj->(k<lo\/hi<=k)->k≠p->B k=B0 k
theorem PrAt.no{lo hi hj p b:Nat}{B0:Bx}{s:Sto}{N:SN}{B:Bx}{m:Nat}(H:PrAt lo hi hj p b B0 s N B m){k:Nat}(h1:k<hj)(h2:k<lo\/hi<=k):k∉N.D b:=fun h=>by have:=H.D k h;omega
theorem PrAt.step{lo hi hj p b:Nat}{B0:Bx}{s u:Sto}{N a:SN}{B c:Bx}{m d:Nat}(H:PrAt lo hi hj p b B0 s N B m)(c1:∀k,k<m->k∉N.D b->c k=B k)(r:m<=d)(j:∀k∈a.D b,k∈N.D b\/m<=k)(l:StAt c d b u a) :
  PrAt lo hi hj p b B0 u a (upd c p (some (35,prF b u))) d:=by
 obtain⟨h1,h2,h3,h4,h5,t,f,n⟩:=H
 have g:∀k∈a.D b,(lo<=k/\k<hi)\/hj<=k:=fun k hk=>by
  rcases j k hk with h|h
  .exact f k h
  .omega
 refine⟨h1,h2,by omega,h4,bW _ _ _,l.of (az _) fun k hk=>aV _ _ _ _ (by have:=g k hk;omega),g,fun k q k2 i => ?_⟩
 rw[aV _ _ _ _ i,c1 k Om (fun h=>by have:=f k h;omega)]
 exact n k q k2 i
def aaq{Q:List Nat->Prop}(hQ:∀l,(dw (jJ l)).length<=65536->Q (dw (jJ l)))(a:Nat){l:List Int}(hl:l.length<=9223372036854775807)(e:Nat->V)(bx:Bx)(n:Nat)(h:Nat->V) :
  GoodE Tryz.prog 7 [.agg (cfF (cfB a)),fzi l] ⟨e,bx,n,h⟩ (Chg e bx n h [] (fun bx' n' r=>∃(b:Nat) (N:SN) (s:Sto),OkS Q s/\s.c=cfB a /\
   (l.length=1->atN l 0%8<=2->OkC (st0 (cfB a)) (nmB (atN l 0 / 8)) (dw (jJ l))->s=fD (st0 (cfB a)) (nmB (atN l 0 / 8)) (dw (jJ l)))/\r = .tup [.agg (prF b s),vb true]/\n<=n'/\(∀k∈N.D b,n<=k)/\StAt bx' n' b s N)):=by
 have Z:=ahN (cfB a) (MV a).1
 have hO:=OkS.new Q a
 have j:=bV l
 generalize g:cfB a=c at *
 have hv:vCf c:=by rw[<-g];exact(MV a).1
 have G:(n=n+1)=False:=eq_false Om
 have I:(n+1=n)=False:=eq_false Om
 refine lg (fJ [1,10] mix) Tryz.func7 rfl Tryz.results7 rfl Za (fP Za) ?_
 (repeat' first|refine wU (Ag @pgE @aX @aK @bu @bz G I) ?_|refine tE ?_ ?_<;>intro g|fail)
 refine qR rfl (aok _ _ _ _ c hv) rfl ?_
 rintro s' r ⟨B1,d,rfl,c1,b,N,rfl,c2,S,F⟩
 have z0:=c1 n Om Aa
 have R:=c1 (n+1) Om Aa
 simp only[upd,G,I,if_true,if_false]at z0 R
 have hbn:=F.lt.1
 have hbl:=S b (by simp[SN.D])
 have e3:(d=n)=False:=eq_false Om
 have e4:(d=n+1)=False:=eq_false Om
 have e5:(n=d)=False:=eq_false Om
 have e6:(n+1=d)=False:=eq_false Om
 have e7:(d=d+1)=False:=eq_false Om
 have e8:(d+1=d)=False:=eq_false Om
 (repeat' first|refine wED (A8 @pgE @aX @bu @bz G I @e3 @e4 (Af @e5 @e6 @e7 @e8 @z0 R)) Z ?_|refine tE ?_ ?_<;>intro g|fail)
 obtain⟨B0,f⟩:∃B0:Bx,B0=upd B1 d (some (33,stF (st0 c))):=⟨_,rfl⟩
 refine CX (ι:=Sto×SN×Bx×Nat×Nat) (fun y=>⟨ja [(1,fzi l),(4,.ref (n+1) 0),(10,.ref (d+1) 0),(11,vi y.2.2.2.2)],y.2.2.1,y.2.2.2.1,bM e h⟩) (fun y=>(OkS Q y.1/\y.1.c=c/\y.2.2.2.2<=8/\y.2.2.2.2<=l.length/\(y.2.2.2.2=0->y.1=st0 c)/\(y.2.2.2.2=1->atN l 0%8<=2->OkC (st0 c) (nmB (atN l 0 / 8)) (dw (jJ l))->y.1=fD (st0 c) (nmB (atN l 0 / 8)) (dw (jJ l))))/\PrAt (n+2) d (d+2) (d+1) b B0 y.1 y.2.1 y.2.2.1 y.2.2.2.1) (fun y=>l.length-y.2.2.2.2) (st0 c,N,upd B0 (d+1) (some (35,prF b (st0 c))),d+2,0) (mJ (lI ?_) (fun k=>.inl ?_) (az _)) ⟨⟨hO,rfl,ax _,ax _,fun _=>rfl,fun h=>by cases h⟩,?_⟩ ?_
 .exact eE
 .rw[f];simp only[upd];(repeat' split)<;>first|rfl|omega
 .show PrAt (n+2) d (d+2) (d+1) b B0 (st0 c) N (upd B0 (d+1) (some (35,prF b (st0 c)))) (d+2);refine⟨by omega,.inr Om,az _,by omega,bW _ _ _,F.of Om fun k hk => ?_,fun k hk=>.inl ⟨S k hk,F.ltD k hk⟩,fun k Z k2 k3=>aV _ _ _ _ k3⟩;have:=F.ltD k hk;rw[aV _ _ _ _ Om,f,aV _ _ _ _ Om]
 rintro⟨s,N2,B2,m2,i⟩ ⟨⟨J,m,L,A,v,x⟩,H⟩
 simp only at J m L A v x H
 have hp:=H.hp
 by_cases K:i<8/\i<l.length
 .obtain⟨W,X⟩:=K;have C:((i:Int)<8)=True:=eq_true Om;have P:((i:Int)<(l.length:Int))=True:=eq_true Om;obtain⟨u,Y,t,kC⟩:=aao J hl X Om (hQ _);(repeat' first|refine wU (Ah @pgE @aX @bu @bz j C P @hp) ?_|refine tE ?_ ?_<;>intro g|fail);refine qR rfl (kC _ _ _ _ _ _ H.st) rfl ?_;rintro s' r ⟨B3,m3,rfl,T,rfl,d2,N3,d3,d4⟩;have M:=(T (d+1) (by have:=H.jm;omega) (H.no Om (.inr Om))).trans hp;(repeat' first|refine wU (Ae @pgE @aX @bu @bz M) ?_|refine tE ?_ ?_<;>intro g|fail);refine wz (u,N3,upd B3 (d+1) (some (35,prF b u)),m3,i+1) ⟨⟨Y.ok,Y.c.trans m,W,X,fun h=>absurd h (Nat.succ_ne_zero i),fun h q1 q2 => ?_⟩,H.step T d2 d3 d4⟩ (by show l.length-(i+1)<l.length-i;omega) (mJ (lI ?_) (fun k=>.inl rfl) (az _))
  .have:i=0:=by have h:i+1=1:=h;omega
   subst this;rw[v rfl]at t;exact t q1 q2
  .exact eE
 .have p:=H.fr (n+1) Om (.inl Om) Om;rw[f,aV _ _ _ _ Om,R]at p;have U:(n+1=d+1)=False:=eq_false Om
  have fin:∀(E:Bx),(∀k,k≠n+1->E k=B2 k)->Chg e bx n h [] (fun bx' n' r=>∃(b:Nat) (N:SN) (s:Sto),OkS Q s/\s.c=c/\(l.length=1->atN l 0%8<=2->OkC (st0 c) (nmB (atN l 0 / 8)) (dw (jJ l))->s=fD (st0 c) (nmB (atN l 0 / 8)) (dw (jJ l)))/\r = .tup [.agg (prF b s),vb true]/\n<=n'/\(∀k∈N.D b,n<=k)/\StAt bx' n' b s N) ⟨e,E,m2,h⟩ (.tup [.agg (prF b s),vb true]):=fun E q=>by
   have:=H.jm;refine⟨E,m2,rfl,fun k hk _ => ?_,b,N2,s,J,m,fun h1=>x Om,rfl,by omega,fun k hk => ?_,H.st.of (az _) fun k hk=>q k ?_⟩
   .rw[q k Om,H.fr k Om (.inl Om) Om,f,aV _ _ _ _ Om,c1 k Om Aa];simp only[upd];repeat rw[ag Om]
   .have:=H.D k hk;omega
   .have:=H.D k hk;omega
  by_cases W:i<8
  .have C:((i:Int)<8)=True:=eq_true Om;have P:((i:Int)<(l.length:Int))=False:=eq_false Om;(repeat' first|refine wU (A8 @pgE @aX @bu @bz j C P @hp (aI p U)) ?_|refine tE ?_ ?_<;>intro g|fail);refine kz (fin _ fun k hk=>aV _ _ _ _ hk) (ng ?_ (aP _ _) (aQ _ _) rfl (az _));simp(disch:=first|exact dqz|fail) only[pgz,simprocAttr,pgr]
  .have C:((i:Int)<8)=False:=eq_false Om;(repeat' first|refine wU (A8 @pgE @aX @bu @bz j C @hp p U) ?_|refine tE ?_ ?_<;>intro g|fail);refine kz (fin _ fun k hk=>aV _ _ _ _ hk) (ng ?_ (aP _ _) (aQ _ _) rfl (az _));simp(disch:=first|exact dqz|fail) only[pgz,simprocAttr,pgr]
def aod{s:Sto}(u:Sml s)(c:Int)(hp:vPn s.pi)(hl:plP c s.pi<s.pi.length)(hk:(s.pi.getD (plP c s.pi) (0,0)).1=c)(fs:List Int)(X Y:Sk)(a:List V)(p:a=skZ\/a=skF Y) :
  Pgm 23 [.agg (mcF c true fs (skF X) a)] s {s with pi:=uh c s.pi} (.agg (mcF c false fs (skF X) a)):=by
 intro e bx n h b N H
 have d:(n=n+1)=False:=eq_false Om
 have f:(n+1=n)=False:=eq_false Om
 have q:=H.lt.1
 rcases p with rfl|rfl
 all_goals
  refine lg (fJ [2] mix) Tryz.func23 rfl Tryz.results23 rfl Za (fP Za) ?_
  (repeat' first|refine wU (Ag @pgE @aX @aK @bu @bz d f) ?_|refine tE ?_ ?_<;>intro t|fail)
  refine qR rfl (aoD _ _ _ _ (H.of (n':=n+1+1) Om fun k hk => ?_) u c hp hl hk) rfl ?_
  .have:=H.ltD k hk
   simp only[upd]
   repeat rw[ag Om]
  rintro s' r ⟨x,v,rfl,c1,rfl,y,N',g,i⟩
  have j:=c1 n Om fun hm=>by have:=H.ltD n hm;omega
  have l:=c1 (n+1) Om fun hm=>by have:=H.ltD (n+1) hm;omega
  simp only[upd,d,f,if_true,if_false]at j l
  (repeat' first|refine wU (Ah @pgE @aX @bu @bz d f j l) ?_|refine tE ?_ ?_<;>intro t|fail)
  refine kz (SMod.here (B:=_) (m:=v) (N':=N') Om (fun k hk => ?_) (i.of Om fun k hk => ?_) fun k A k2 => ?_) (ng ?_ (aP _ _) (aQ _ _) rfl (az _))
  .rcases g k hk with h|h
   .exact .inl h
   .exact .inr Om
  .have h1:=i.ltD k hk
   have h2:k<n\/n+2<=k:=(g k hk).imp (H.ltD k) id
   simp only[upd]
   repeat rw[ag Om]
  .simp only[upd]
   repeat rw[ag Om]
   rw[c1 k Om k2]
   simp only[upd]
   repeat rw[ag Om]
  .simp(disch:=first|exact dqz|fail) only[pgz,simprocAttr,pgr]
   first|done|rfl
def ayD{Q:List Nat->Prop}{s:Sto}(H:OkS Q s){k:List Nat}{i x:Nat}(ha:AtV s k s.m i x){f:Int}(hf:(verOf s i x).f=f)(M:List V)(g:M[3]?=some (.sl .fz 1 [vi f]))(e:Nat->V)(bx:Bx)(n:Nat)(h:Nat->V){b:Nat}{N:SN}(a:StAt bx n b s N) :
  Gxz 13 [.ref b 0,.agg M,.sl .fz 1 (ssV [k])] ⟨e,bx,n,h⟩ ⟨e,bx,n,h⟩ (vb true):=by
 refine GoodZ.rd (r:=vb true) (only (N.D b) bx) a.fr rfl ?_ e bx h (fun b x hb=>(iC hb).2)
 intro e bx' h p hB t hb
 have a:=a.on hb
 refine⟨n+1,upd bx' n (some (62,M)),fun k hk=>aV _ _ _ _ Om,?_⟩
 have d:=a.up (az n) (some (62,M))
 have l:=d.look fun e m h c=>KC e _ m h c
 have q:=d.look fun e m h c=>KF e _ m h c H.sml H.on k s.m i x (ut s H.m.1) ha
 rw[hf]at q
 refine gZ oW ?_
 (repeat' first|refine wQ (Ad @aK @aH @aG g) ?_|refine tS ?_ ?_<;>intro j|fail)
 refine tu 1 ?_
 (repeat' first|refine wEX (Ae @pgu @aH @aG @bW g) (aI l q) ?_|refine tE ?_ ?_<;>intro j|fail)
 refine vT ?_
 (repeat' first|refine wQ (Ac @pgu @aH @aG) ?_|refine tS ?_ ?_<;>intro j|fail)
 (refine iL (by first|rfl|skip) (by first|omega|skip))
def UL{id:Nat}{l:List V}(h:∀w∈l,w.ownless=true):l.map (Go.Pg.frz id)=l:=by
 conv=>rhs;rw[<-List.map_id l]
 grind[UM,List.map_congr_left]
theorem StAt.ownless{bx:Bx}{n b:Nat}{s:Sto}{N:SN}(H:StAt bx n b s N):∀k∈N.D b,∀x,bx k=some x->∀w∈x.2,w.ownless=true:=by
 intro k hk x hx w a;simp[SN.D,fG]at hk;rcases hk with rfl|rfl|hk
 .rw[H.hb]at hx;cases hx
  simp at a;rcases a with rfl|rfl|rfl|rfl|rfl|rfl|rfl|rfl|rfl|rfl|rfl|rfl|rfl<;>rfl
 .rw[H.ho]at hx;cases hx
  simp[mpC,fG]at a;rcases a with rfl|rfl|a
  .rfl
  .rfl
  .have:∀l:List (Int×V×Nat),(∀x∈l,x.2.1.ownless=true)->∀w∈mpF (iM l),w.ownless=true:=by
    intro l
    induction l with
    |nil=>intro _ w a;cases a
    |cons y r i =>
     intro h w a;simp[iM,dm,mpF,fG]at a;rcases a with rfl|rfl|rfl|a
     .rfl
     .grind
     .rfl
     .exact i (fun x hx=>h x (by simp[hx])) w a
   refine this _ (fun x hx => ?_) w a;simp only[oM,dP]at hx;obtain⟨z,_,rfl⟩:=hx;rfl
 .exact H.hA.ownless k hk x hx w a
def Q3{env:Nat->V}{B:Bx}{m:Nat}{X:List (Nat×V)}(D:List Nat)(id:Nat)(b:∀k∈D,∀x,B k=some x->x.2.map (Go.Pg.frz id)=x.2)(he:BL (bD (Go.Pg.frz id) env) X):Weak ⟨env,B,m,bM (fun _=>.top) (fun _=>.top)⟩ ⟨ja X,only D B,m,bM (fun _=>.top) (fun _=>.top)⟩:=by
 have d:bD (Go.Pg.frz id) (bM (fun _=>.top) (fun _=>.top))=bM (fun _=>.top) (fun _=>.top):=by funext t;simp only[bD,bM];split<;>rfl
 refine(DW (id:=id) d).trans (Gg he (fun c a h => ?_) (az _));obtain⟨h1,h2⟩:=iC h;refine⟨a,?_,rfl,rY _⟩;show(B c).map (fun x=>(x.1,x.2.map (Go.Pg.frz id)))=some a;rw[h2];exact mV some (Prod.ext rfl (b c h1 a h2))
theorem Fe{D:List Nat}{B:Bx}{k:Nat}(h:k∈D):only D B k=B k:=ah h
def anG(s:Sto):Pgm 9 [nls] s s (.tup [.agg mcZ,vi 5]):=by
 intro e bx n h b N H;refine lg (fJ [] mix) Tryz.func9 rfl Tryz.results9 rfl Za (fP Za) ?_;(repeat' first|refine wU (Ae @pgE @aX @aK @bu @bz) ?_|refine tE ?_ ?_<;>intro a|fail);refine kz (SMod.here (B:=_) (m:=n+1) (N':=N) Om (fun k hk=>.inl hk) (H.of Om fun k hk => ?_) fun k c d => ?_) (ng ?_ (aP _ _) (aQ _ _) rfl (az _))
 .have:=H.ltD k hk;simp only[upd];repeat rw[ag Om]
 .simp only[upd];repeat rw[ag Om]
 .simp(disch:=first|exact dqz|fail) only[pgz,simprocAttr,pgr]
def ail{Q:List Nat->Prop}(hQ:∀l,(dw (jJ l)).length<=65536->Q (dw (jJ l)))(hQ2:∀d,Q d->oct d/\d.length<=65536):Gxx 15 [] (vb true):=by
 refine GoodE.good ?_
 have k1:=U4 0
 have hml:∀e bx n h,GoodE Tryz.prog 7 [.agg (cfF (cfB 0)),fzi [0]] ⟨e,bx,n,h⟩ _:=aaq hQ 0 (l:=[0]) dX
 have d0:=aes
 have C:OkC (st0 (cfB 0)) (nmB (atN [0] 0 / 8)) (dw (jJ [0])):=⟨by omega,rfl,by decide,by decide,by
  have:nPg 8 (dw (jJ [0]))<=60:=by unfold nPg;omega
  show((0:Nat):Int)+(nPg 8 _:Nat)<=60
  omega⟩
 refine lg (fJ [1,4,5,6] mix) Tryz.func15 rfl Tryz.results15 rfl Za (fP Za) ?_
 (repeat' first|refine wED (Ae @pgE @aX @aK @bu @bz) k1 ?_|refine tE ?_ ?_<;>intro H|fail)
 refine Jg ⟨ja [(8,.agg (cfF (cfB 0))),(9,fzi [0])],only ([]) _,1,bM (fun _=>.top) (fun _=>.top)⟩ (Q3 [] 0 (fun k h=>by cases h) ?_) rfl (hml _ _ _ _) rfl ?_
 .simp only[zF,zG,pgo,simprocAttr,jb,yt,if_true,ql]
  exact⟨dJ _,dJ _⟩
 rintro s' r ⟨B1,a,rfl,c1,b,N,s,P,hsc,I,rfl,c2,c3,G⟩
 have R:=I rfl dX C
 have a1:(lkA [97] s.m s.bi).2=true:=by rw[R];decide +kernel
 have L:s.pi=[]:=by rw[R];rfl
 have a3:s.c.pn=8:=by rw[R];rfl
 clear R I C d0 c1
 obtain⟨u,z,Z,_,S,_,E,hz⟩:=ML P
 have hz:=hz (by rw[L,a3];decide)
 subst hz
 have E:=E rfl
 obtain⟨i,x,d,ha,hd,hv,hp⟩:=P.see a1
 have kB:=Po P hQ2 ha hd hv hp u 0 S
 rw[ah rfl]at kB
 have hau:AtV u [97] u.m i x:=by rw[E];exact⟨ha.lk,ha.ix,ha.il,ha.fv,ha.xl⟩
 have kU:=fun e B m h N W=>ayD (f:=(verOf s i x).f) Z.ok hau (by rw[E]) (mcF s.m true [(verOf s i x).f] (skF (fA d).1) skZ) rfl e B m h (b:=b) (N:=N) W
 have hE:∀X:Sk,Pgm 23 [.agg (mcF s.m true [(verOf s i x).f] (skF X) skZ)] u s (.agg (mcF s.m false [(verOf s i x).f] (skF X) skZ)):=fun X=>by
  have hge:∀p∈s.pi,1<=p.2:=fun p h=>by rw[L]at h;cases h
  obtain⟨p1,p2,p3⟩:=X8 (c:=s.m) hge
  have:=aod Z.ok.sml s.m Z.ok.iv (by rw[E];exact p1) (by rw[E];exact p2) [(verOf s i x).f] X X skZ (.inl rfl)
  rw[E]at this⊢
  simp only[p3]at this
  exact this
 have hP:sumP s.pi s.pi.length=0:=by rw[L];rfl
 generalize(verOf s i x).f=f at *
 generalize(fA d).1=X at *
 have hbn:=G.lt.1
 have e1:(a=a+1)=False:=eq_false Om
 (repeat' first|refine wU (Ad @pgE @aX @bu @bz) ?_|refine tE ?_ ?_<;>intro H|fail)
 refine qR rfl (anG s _ _ _ _ b N (G.of (n':=a+1) Om fun k hk => ?_)) rfl ?_
 .have:=G.ltD k hk
  simp only[upd]
  repeat rw[ag Om]
 rintro s' r ⟨B2,T,rfl,d1,rfl,d2,K,d3,Y⟩
 have U:=d1 a Om fun hm=>by have:=G.ltD a hm;omega
 simp only[upd,if_true]at U
 have e2:(a=T)=False:=eq_false Om
 have t:∀k∈K.D b,k<T/\k≠a:=fun k hk=>⟨Y.ltD k hk,by
  rcases d3 k hk with h|h
  .have:=G.ltD k h;omega
  .omega⟩
 (repeat' first|refine wU (Af @pgE @aX @bu @bz U @e2) ?_|refine tE ?_ ?_<;>intro H|fail)
 refine Jg ⟨ja [(1,.ref a 0),(4,vi 5),(23,.ref b 0),(24,.sl .fz 1 (ssV [[97]]))],only (a::K.D b) _,T+1+1,bM (fun _=>.top) (fun _=>.top)⟩ (Q3 (a::K.D b) (T+1) (fun k hk y g => ?_) ?_) rfl (kB _ _ _ _ b K (Y.of Om fun k hk => ?_)) rfl ?_
 .simp only[upd]at g
  rcases fG.1 hk with rfl|hk
  .repeat rw[ag Om]at g
   rw[U]at g
   cases g
   rfl
  .have:=t k hk
   repeat rw[ag Om]at g
   exact UL (Y.ownless k hk y g)
 .simp only[zF,zG,pgo,simprocAttr,jb,yt,if_true,ql]
  exact⟨dJ _,dJ _,dJ _,dJ _⟩
 .have:=t k hk
  rw[Fe (DZ _ hk)]
  simp only[upd]
  repeat rw[ag Om]
 rintro s' r ⟨B3,j,rfl,f1,rfl,f2,A,f3,M⟩
 have J:=(f1 a Om fun hm=>(t a hm).2 rfl).trans (Fe (List.mem_cons_self ..))
 simp only[upd,e2,if_false]at J
 rw[U]at J
 have e3:(a=j)=False:=eq_false Om
 have v:∀k∈A.D b,k<j/\k≠a:=fun k hk=>⟨M.ltD k hk,by
  rcases f3 k hk with h|h
  .exact(t k h).2
  .omega⟩
 (repeat' first|refine wU (Af @pgE @aX @bu @bz J @e3) ?_|refine tE ?_ ?_<;>intro H|fail)
 refine Jg (φ:=fun s2 r2=>s2=_/\r2=vb true) ⟨ja [(1,.ref a 0),(5,.ref j 0),(44,.c (.bool true)),(46,.ref b 0),(47,.agg (mcF s.m true [f] (skF X) skZ)),(48,.sl .fz 1 (ssV [[97]]))],only (a::j::A.D b) _,j+1+1,bM (fun _=>.top) (fun _=>.top)⟩ (Q3 (a::j::A.D b) (j+1) (fun k hk y g => ?_) ?_) rfl (GoodZ.e' Za (kU _ (only (a::j::A.D b) (upd (upd B3 j (some (62,mcZ))) j (some (62,mcF s.m true [f] (skF X) skZ)))) _ _ A (M.of Om fun k hk=>by
  have:=v k hk
  rw[Fe (DZ _ (DZ _ hk))]
  simp only[upd]
  repeat rw[ag Om]))) rfl ?_
 .simp only[upd]at g
  rcases fG.1 hk with rfl|hk
  .repeat rw[ag Om]at g
   rw[J]at g
   cases g
   rfl
  rcases fG.1 hk with rfl|hk
  .rw[ah rfl]at g
   cases g
   rfl
  .have:=v k hk
   repeat rw[ag Om]at g
   exact UL (M.ownless k hk y g)
 .simp only[zF,zG,pgo,simprocAttr,jb,yt,if_true,ql]
  exact⟨dJ _,dJ _,dJ _,dJ _,dJ _,dJ _⟩
 rintro s' r ⟨rfl,rfl⟩
 obtain⟨F,q⟩:∃F:Bx,F=only (a::j::A.D b) (upd (upd B3 j (some (62,mcZ))) j (some (62,mcF s.m true [f] (skF X) skZ))):=⟨_,rfl⟩
 rw[<-q]
 have g1:F a=some (35,prF b s):=by
  rw[q,Fe (List.mem_cons_self ..)]
  simp only[upd,e3,if_false]
  exact J
 have g2:F j=some (62,mcF s.m true [f] (skF X) skZ):=by
  rw[q,Fe (DZ _ (List.mem_cons_self ..))]
  simp only[upd,if_true]
 have g3:StAt F (j+1+1) b u A:=M.of Om fun k hk=>by
  have:=v k hk
  rw[q,Fe (DZ _ (DZ _ hk))]
  simp only[upd]
  repeat rw[ag Om]
 (repeat' first|refine wU (Af @pgE @aX @bu @bz @g1 @g2) ?_|refine tE ?_ ?_<;>intro H|fail)
 refine qR rfl (hE X _ _ _ _ b A g3) rfl ?_
 rintro s' r ⟨B5,n5,rfl,h1,rfl,h2,N5,h3,h4⟩
 have g5:=(h1 a Om fun hm=>(v a hm).2 rfl).trans g1
 have S:=fun B m (HB:StAt B m b s N5)=>HB.look fun e m h W=>PE e B m h W (by rw[L];decide) P.iv
 rw[hP]at S
 (repeat' first|refine wU (Ae @pgE @aX @bu @bz @g5) ?_|(refine tC ?_;refine oC _ ((S _ _ h4)) rfl ?_)|refine tE ?_ ?_<;>intro H|fail)
 exact kz (s':=⟨fun _=>.top,B5,n5,fun _=>.top⟩) (r:=vb true) rfl (ng (aW _ _ _) (aP _ _) (aQ _ _) rfl (az _))
structure McV (M:List V) (fs:List Int):Prop where
 len:M.length=71
 v:M[3]?=some (.sl .fz 1 (fs.map vi))\/(M[3]?=some nls/\fs=[])
 fl:fs.length<=3
 one:M.all V.one=true
 form:M=mcZ\/(∃(m:Int) (b:Bool) (X:Sk),M=mcF m b fs (skF X) skZ)\/∃(m:Int) (b:Bool) (X Y:Sk),M=mcF m b fs (skF X) (skF Y)
structure KpAt (P:List (Nat × TypeId × List V)) (p b:Nat) (s:Sto) (N:SN) (B:Bx) (m:Nat):Prop where
 pm:p<m
 pD:p ∉ N.D b
 hp:B p=some (35,prF b s)
 st:StAt B m b s N
 kp:∀x∈P,x.1≠p/\x.1<m/\x.1 ∉ N.D b/\B x.1=some x.2
def KpAt.step{P:List (Nat×TypeId×List V)}{p b:Nat}{s u:Sto}{N c:SN}{B a:Bx}{m f:Nat}(H:KpAt P p b s N B m)(c1:∀k,k<m->k∉N.D b->a k=B k)(q:m<=f)(l:∀k∈c.D b,k∈N.D b\/m<=k)(n:StAt a f b u c) :
  a p=some (35,prF b s)/\KpAt P p b u c (upd a p (some (35,prF b u))) f:=by
 obtain⟨h1,h2,h3,h4,h5⟩:=H
 have d:∀k,k<m->k∉N.D b->k∉c.D b:=fun k r k2 hk=>by
  rcases l k hk with h|h
  .exact k2 h
  .omega
 refine⟨(c1 p h1 h2).trans h3,by omega,d p h1 h2,bW _ _ _,n.of (az _) fun k hk=>aV _ _ _ _ (fun e=>d p h1 h2 (e▸hk)),fun x hx => ?_⟩
 obtain⟨g,i,j,g4⟩:=h5 x hx
 exact⟨g,by omega,d _ i j,by rw[aV _ _ _ _ g,c1 _ i j];exact g4⟩
theorem aya(n:Int):bits .and .i64 n 3=n%4:=qm n 2 dX
def Good.e{g:FuncId}{args:List V}{r:V}{s:St}(hg:Gxx g args r)(l:args.map V.erase=args)(b:noRefs args=true)(i:r.noRef=true)(d:(ownFree args||r.flat)=true):GoodE Tryz.prog g args s (fun s' r'=>s'={s with nid:=s.nid+r.idb}/\r'=r.shift s.nid):=by intro C L a w c m S h;refine⟨hg.1,(adu m S h (by rw[l];exact hg) b i d).mono ?_⟩;rintro e w' ⟨u,j,rfl,k,f⟩;exact⟨u,j,_,_,⟨rfl,rfl⟩,rfl,k,f⟩
def ayb{Q:List Nat->Prop}{s:Sto}(H:OkS Q s)(m:∀d,Q d->oct d/\d.length<=65536)(k:List Nat):∃(u:Sto) (z:Int) (M:List V),Nx Q s u/\(M.length=71/\M.all V.one=true/\(∀id,M.map (Go.Pg.frz id)=M)/\∀(u:Sto) (z:Int),(V.tup [.agg (stF u),.agg M,vi z]).noRef=true/\(V.tup [.agg (stF u),.agg M,vi z]).idb=0/\∀n,(V.tup [.agg (stF u),.agg M,vi z]).shift n = .tup [.agg (stF u),.agg M,vi z]) /\
  Pgm 9 [.sl .fz 1 (ssV [k])] s u (.tup [.agg M,vi z])/\Gxx 11 [.agg (stF s),.sl .fz 1 (ssV [k])] (.tup [.agg (stF u),.agg M,vi z]) /\
  (z=0->∃(f:Int) (d:List Nat) (v:Vr),M=mcF s.m true [f] (skF (fA d).1) skZ/\Q d/\axp u k s.m v/\VcP u.pa v.p d/\v.p.length<=65536/\pnB s.m u.pi=true):=by
 cases h1:(lkA k s.m s.bi).2
 .exact⟨s,8,mcZ,.same H,⟨rfl,rfl,fun _=>rfl,fun _ _=>⟨rfl,rfl,fun _=>rfl⟩⟩,XB H (.inl rfl) h1,U1 H (.inl rfl) h1,fun h=>absurd h dX⟩
 .obtain⟨u,z,c,q,r,A,j,_⟩:=ML H;have t:z≠0->u=s:=fun h=>A.resolve_left h
  obtain⟨i,x,d,ha,hd,hv,hp⟩:=H.see h1;have p:=Po H m ha hd hv hp u z r;have g:=UY H m ha hd hv hp u z q t;by_cases b:z=0
  .rw[ah b]at p g;refine⟨u,z,_,c,⟨rfl,rfl,fun _=>rfl,fun _ _=>⟨rfl,rfl,fun _=>rfl⟩⟩,p,g,fun _ => ?_⟩;have G:=c.g s.m (rZ _);obtain⟨w,l,y,a⟩:=G.sees c.ok ⟨i,x,ha,rfl⟩;exact⟨_,d,w,rfl,hd,l,by rw[a];exact hv.mono G.hp,by rw[a];exact hp,by rw[j b];exact X9 _ _ _ (.inr rfl)⟩
  .rw[ag b]at p g;exact⟨u,z,mcZ,c,⟨rfl,rfl,fun _=>rfl,fun _ _=>⟨rfl,rfl,fun _=>rfl⟩⟩,p,g,fun h=>absurd h b⟩
def ayw{Q:List Nat->Prop}{u t:Sto}(T:OkS Q t){c:Int}(g:0<=c)(G:Grow c u t)(hm:c<=t.m)(hp:pnB c u.pi=true){k:List Nat}{v:Vr}{d:List Nat}(l:axp u k c v)(hv:VcP u.pa v.p d)(hl:v.p.length<=65536)(e:Nat->V)(bx:Bx)(n:Nat)(h:Nat->V){b:Nat}{N:SN}(H:StAt bx n b t N) :
  Gxz 17 [.ref b 0,vs k,vi c] ⟨e,bx,n,h⟩ ⟨e,bx,n,h⟩ (.tup [fzb d,vi 0]):=by
 obtain⟨w,⟨i,x,ha,rfl⟩,_,f⟩:=G.sees T l
 have a:VcP t.pa (verOf t i x).p d:=by rw[f];exact hv.mono G.hp
 have:=PG e bx n h H T.sml T.on T.pn k c i x (by unfold nG;rw[ah ⟨g,hm⟩,ah (.inr (G.pb hp))]) ha (jsO t.pa (verOf t i x).p) (AX a.num fun q j=>(T.pp q j).1) (by rw[f];omega)
 rw[BV T.pn a]at this
 exact this
def ayp(c:Int)(l mm:List Int)(n:Int)(hl:l.length<=9223372036854775807)(hm:mm.length<=9223372036854775807):Gxx 4 [vi c,fzi l,fzi mm,vi n] (vb true):=by
 refine GoodE.good ?_
 obtain⟨Q,hQ⟩:∃Q:List Nat->Prop,Q=fun d=>(oct d/\d.length<=65536)/\∃y:Sk,y.Ok/\vSk y=0/\d=dw y:=⟨_,rfl⟩
 have hQ1:∀l,(dw (jJ l)).length<=65536->Q (dw (jJ l)):=fun l h=>by rw[hQ];exact⟨⟨(Ny _ (Y0 l)).1,h⟩,_,Y0 l,ayN l,rfl⟩
 have hQ2:∀d,Q d->oct d/\d.length<=65536:=fun d h=>by rw[hQ]at h;exact h.1
 have hQ3:∀d,Q d->∃y:Sk,y.Ok/\vSk y=0/\d=dw y/\(fA d).1=y:=fun d h=>by
  rw[hQ]at h
  obtain⟨_,y,h1,h2,rfl⟩:=h
  exact⟨y,h1,h2,rfl,by rw[ayi y h1 h2];exact axW h2⟩
 clear hQ
 have kK:=ail hQ1 hQ2
 obtain⟨a0,ha0,hb0⟩:∃a:Nat,bits .and .i64 c 65535=(a:Int)/\a<65536:=⟨_,Sj _,by omega⟩
 obtain⟨a1,hn,hb1⟩:∃a:Nat,bits .and .i64 n 3=(a:Int)/\a<4:=⟨(n%4).toNat,by rw[aya];omega,by omega⟩
 have k1:=U4 a0
 have kn:=JC a1 (by omega)
 have kM:=fun e bx n h=>aaq hQ1 a0 hl e bx n h
 generalize cfB a0=cf at *
 refine lg (fJ [1,5,6,13] mix) Tryz.func4 rfl Tryz.results4 rfl (by kernel_rfl) (fP (by kernel_rfl)) ?_
 (repeat' first|refine wED (Af @pgE @aX @aK @bu @bz @ha0) k1 ?_|refine tE ?_ ?_<;>intro hc|fail)
 refine qR rfl (kM _ _ _ _) rfl ?_
 rintro s' r ⟨B1,n1,rfl,c1,b,N,s,hS,hsc,_,rfl,c2,c3,c4⟩
 clear c1 kM
 obtain⟨u,z,M,hN,⟨hML,hMo,hMw,hMi⟩,kB,kG,hz⟩:=ayb hS hQ2 (nmB a1)
 have hbn:=c4.lt.1
 generalize nmB a1=k at *
 (repeat' first|refine wED (Ae @pgE @aX @bu @bz @hn) kn ?_|refine tE ?_ ?_<;>intro hc|fail)
 have hn1:∀i∈N.D b,i<n1:=fun i hi=>c4.ltD i hi
 refine Jg ⟨ja [(2,fzi mm),(9,.ref n1 0),(11,vs k),(37,.ref b 0),(39,.sl .fz 1 (ssV [k]))],only (n1::N.D b) _,n1+1+1,bM (fun _=>.top) (fun _=>.top)⟩ (Q3 (n1::N.D b) (n1+1) (fun i hi y hy => ?_) ?_) rfl (kB _ _ _ _ b N (c4.of (by omega) fun i hi => ?_)) rfl ?_
 .simp only[upd]at hy
  rcases fG.1 hi with rfl|hi
  .rw[ah rfl]at hy
   cases hy
   rfl
  .have:=hn1 i hi
   repeat rw[ag (by omega)]at hy
   exact UL (c4.ownless i hi y hy)
 .simp only[zF,zG,pgo,simprocAttr,jb,yt,if_true,ql]
  exact⟨dJ _,dJ _,dJ _,dJ _,dJ _⟩
 .have:=hn1 i hi
  rw[Fe (DZ _ hi)]
  simp only[upd]
  repeat rw[ag (by omega)]
 rintro s' r ⟨B3,n3,rfl,f1,rfl,f2,N3,f3,f4⟩
 have z2:B3 n1=some (35,prF b s):=(f1 n1 (by omega) fun h=>by have:=hn1 n1 h;omega).trans ((Fe (List.mem_cons_self ..)).trans (bW _ _ _))
 have e3:(n1=n3)=False:=eq_false (by omega)
 have hn3:∀i∈N3.D b,i<n3/\i≠n1:=fun i hi=>⟨f4.ltD i hi,by
  rcases f3 i hi with h|h
  .have:=hn1 i h;omega
  .omega⟩
 clear f1 f3 hn1
 (repeat' first|refine wU (Ah @pgE @aX @bu @bz @z2 @e3 @hML @hMo) ?_|refine tE ?_ ?_<;>intro hc|fail)
 refine Jg ⟨ja [(2,fzi mm),(9,.ref n1 0),(11,vs k),(12,.ref n3 0),(13,vi z),(45,.agg (stF s)),(47,.sl .fz 1 (ssV [k]))],only (n1::n3::N3.D b) _,n3+1+1,bM (fun _=>.top) (fun _=>.top)⟩ (Q3 (n1::n3::N3.D b) (n3+1) (fun i hi y hy => ?_) ?_) rfl (Good.e kG rfl rfl (hMi u z).1 rfl) rfl ?_
 .simp only[upd]at hy
  rcases fG.1 hi with rfl|hi
  .repeat rw[ag (by omega)]at hy
   rw[z2]at hy
   cases hy
   rfl
  rcases fG.1 hi with rfl|hi
  .rw[ah rfl]at hy
   cases hy
   exact hMw _
  .have:=hn3 i hi
   repeat rw[ag (by omega)]at hy
   exact UL (f4.ownless i hi y hy)
 .simp only[zF,zG,pgo,simprocAttr,jb,yt,if_true,ql]
  exact⟨dJ _,dJ _,dJ _,dJ _,dJ _,dJ _,dJ _⟩
 rintro s' r ⟨q1,q2⟩
 rw[(hMi u z).2.1]at q1
 rw[(hMi u z).2.2]at q2
 subst q1 q2
 have g4:StAt (only (n1::n3::N3.D b) (upd (upd B3 n3 (some (62,mcZ))) n3 (some (62,M)))) (n3+1+1) b u N3:=f4.of (by omega) fun i hi=>by
  have:=hn3 i hi
  rw[Fe (DZ _ (DZ _ hi))]
  simp only[upd]
  repeat rw[ag (by omega)]
 have g1:only (n1::n3::N3.D b) (upd (upd B3 n3 (some (62,mcZ))) n3 (some (62,M))) n1=some (35,prF b s):=by
  rw[Fe (List.mem_cons_self ..)]
  simp only[upd,e3,if_false]
  exact z2
 have g2:only (n1::n3::N3.D b) (upd (upd B3 n3 (some (62,mcZ))) n3 (some (62,M))) n3=some (62,M):=by
  rw[Fe (DZ _ (List.mem_cons_self ..))]
  exact bW _ _ _
 generalize only (n1::n3::N3.D b) (upd (upd B3 n3 (some (62,mcZ))) n3 (some (62,M)))=B4 at *
 clear z2 f4
 obtain⟨m,hmm⟩:∃m,m=n3+1+1:=⟨_,rfl⟩
 rw[<-hmm]at g4⊢
 have o1:(n1=m)=False:=eq_false (by omega)
 have o2:(n3=m)=False:=eq_false (by omega)
 have o3:(n1=m+1)=False:=eq_false (by omega)
 have o4:(n3=m+1)=False:=eq_false (by omega)
 have o5:(m=m+1)=False:=eq_false (by omega)
 have o6:(m+1=m)=False:=eq_false (by omega)
 (repeat' first|refine wU (A8 @pgE @aX @bu @bz @g1 @g2 @hML @hMo (Af @o1 @o2 @o3 @o4 @o5 @o6)) ?_|refine tE ?_ ?_<;>intro hc|fail)
 by_cases h0:z=0
 case neg =>
  have hb:(z != 0)=true:=by simp[h0]
  (repeat' first|refine wED (Ae @pgE @aX @bu @bz @hb) kK ?_|refine tE ?_ ?_<;>intro hc|fail)
  exact kz (s':=⟨fun _=>.top,_,_,fun _=>.top⟩) (r:=vb true) rfl (ng (aW _ _ _) (aP _ _) (aQ _ _) rfl (az _))
 obtain⟨f,d,v,rfl,hd,hv1,hv2,hv3,hv4⟩:=hz h0
 obtain⟨y,hy1,hy2,hy3,hy4⟩:=hQ3 d hd
 subst h0
 rw[hy4]at g2⊢
 have kE:=ahi y hy1
 rw[hy2,<-hy3]at kE
 have hc0:=hS.m
 have hcv:=fun s d' K=>x8 (P:=Tryz.prog) s d' 60 9 .fz d K (by kernel_rfl) (by kernel_rfl) (by kernel_rfl) (by kernel_rfl)
 have hcm:=hN.m
 clear kB kG hz hML hMo hMw hMi hy4 kn
 (repeat' first|refine wU (Ad @pgE @aX @bu @bz) ?_|refine tE ?_ ?_<;>intro hc|fail)
 refine CX (ι:=Sto×SN×Bx×Nat×Nat) (fun q=>⟨ja [(2,fzi mm),(9,.ref n1 0),(11,vs k),(12,.ref n3 0),(17,vi q.2.2.2.2)],q.2.2.1,q.2.2.2.1,bM (fun _=>.top) (fun _=>.top)⟩) (fun q=>(OkS Q q.1/\Grow s.m u q.1/\s.m<=q.1.m/\q.2.2.2.2<=5/\q.2.2.2.2<=mm.length)/\KpAt [(n3,62,mcF s.m true [f] (skF y) skZ)] n1 b q.1 q.2.1 q.2.2.1 q.2.2.2.1) (fun q=>mm.length-q.2.2.2.2) (u,N3,upd (upd (upd B4 m (some (33,stF u))) (m+1) (some (62,mcF s.m true [f] (skF y) skZ))) n1 (some (35,prF b u)),m+1+1,0) (mJ (lI ?_) (fun k=>.inl ?_) (az _)) ⟨⟨hN.ok,Grow.rfl',hcm,ax _,ax _⟩,⟨?_,?_,?_,?_,?_⟩⟩ ?_
 .exact eE
 .simp only[upd]
  (repeat' split)<;>first|rfl|(exfalso;omega)
 .show n1<m+1+1;omega
 .exact fun h=>(hn3 _ h).2 rfl
 .exact bW _ _ _
 .refine g4.of (by show m<=m+1+1;omega) fun i hi => ?_
  have h1:=hn3 i hi
  simp only[upd]
  repeat rw[ag (by omega)]
 .intro x hx
  cases jX.1 hx
  refine⟨by show n3≠n1;omega,by show n3<m+1+1;omega,fun h=>by have:=(hn3 n3 h).1;omega,?_⟩
  simp only[upd]
  repeat rw[ag (by omega)]
  exact g2
 rintro⟨s1,N4,B6,m6,i⟩ ⟨⟨hS1,hG,hm1,hi5,hil⟩,HK⟩
 simp only at hS1 hG hm1 hi5 hil HK
 have hp3:=HK.hp
 have hil':=bV mm
 by_cases hgo:i<5/\i<mm.length
 .obtain⟨g1,g2⟩:=hgo
  have l1:((i:Int)<5)=True:=eq_true (by omega)
  have l2:((i:Int)<(mm.length:Int))=True:=eq_true (by omega)
  obtain⟨u1,hN1,_,kC⟩:=aao hS1 hm g2 (by omega) (hQ1 _)
  (repeat' first|refine wU (Ah @pgE @aX @bu @bz @hil' @l1 @l2 @hp3) ?_|refine tE ?_ ?_<;>intro hc|fail)
  refine qR rfl (kC _ _ _ _ _ _ HK.st) rfl ?_
  rintro s' r ⟨B7,m7,rfl,d1,rfl,d2,N7,d3,d4⟩
  obtain⟨hp4,HK4⟩:=HK.step d1 d2 d3 d4
  have hm4:=hN1.m
  (repeat' first|refine wU (Ae @pgE @aX @bu @bz @hp4) ?_|refine tE ?_ ?_<;>intro hc|fail)
  refine wz (u1,N7,upd B7 n1 (some (35,prF b u1)),m7,i+1) ⟨⟨hN1.ok,hG.tr (hN1.g _ hm1),Int.le_trans hm1 hm4,g1,g2⟩,HK4⟩ (by show mm.length-(i+1)<mm.length-i;omega) (mJ (lI ?_) (fun k=>.inl rfl) (az _))
  exact eE
 .obtain⟨_,_,_,hq4⟩:=HK.kp (n3,62,mcF s.m true [f] (skF y) skZ) (by simp)
  have kR:=HK.st.look fun e m h H'=>ayw hS1 hc0.1 hG hm1 hv4 hv1 hv2 hv3 e B6 m h H'
  by_cases g2:i<mm.length
  .have l1:((i:Int)<5)=False:=eq_false (by omega)
   have l2:((i:Int)<(mm.length:Int))=True:=eq_true (by omega)
   (repeat' first|refine wED (A8 @pgE @aX @bu @bz @hil' @l1 @l2 @hp3 (Ad @hq4 @hcv @ql.{0} @vW)) (Ac kR kE kK) ?_|refine tE ?_ ?_<;>intro hc|fail)
   exact kz (s':=⟨fun _=>.top,B6,m6,fun _=>.top⟩) (r:=vb true) rfl (ng (aW _ _ _) (aP _ _) (aQ _ _) rfl (az _))
  .have l2:((i:Int)<(mm.length:Int))=False:=eq_false (by omega)
   (repeat' first|refine wED (A8 @pgE @aX @bu @bz @hil' @l2 @hp3 @hq4 (Ac @hcv @ql.{0} @vW)) (Ac kR kE kK) ?_|refine tE ?_ ?_<;>intro hc|fail)
   exact kz (s':=⟨fun _=>.top,B6,m6,fun _=>.top⟩) (r:=vb true) rfl (ng (aW _ _ _) (aP _ _) (aQ _ _) rfl (az _))
end Go.Proofs.YtopbmdnbdpjheaaGreat
section
namespace Go.Pg
open Go Go.ChangeShapes Go.WideShapes
def aqm{w:World}{g o:Nat}{vs:List Value}(hp:0<vs.length)(h:∀i,i<vs.length->w.cell? ⟨g,o+i,none⟩=vs[i]?):Pg.Row w g o vs:=by
 have a:=h 0 hp;rw[dY hp]at a;unfold World.cell? at a;split at a
 .rename_i arr e fr hg;refine⟨arr,e,fr,hg,?_⟩;apply IW;intro i;rw[aat];split
  .rename_i hi;have b:=h i hi;unfold World.cell? at b;grind
  .grind
 .cases a
section
variable {H:Type} {enc:TypeId × Value->H} {P:Program} {w:World} {base:Nat} {spare:Nat->Bool} {held:Bool}
structure Elem (enc:TypeId × Value->H) (P:Program) (w:World) (base:Nat) (spare:Nat->Bool) (held:Bool) (e:TypeId) (k:Nat) {α:Type} (Ok:α->Prop) (el:α->V) (elc:α->List Value):Prop where
 pos:0<k
 cells:P.cellsOf e=k
 len:∀a,(elc a).length=k
 get:∀n cs x,DataW.trod enc P w base spare held n e cs=some x->∃a,Ok a/\cs=elc a
 rep:∀a L w',∃u:Value,u.cells.toList=elc a/\u.cells.size=k/\((el a).free=true/\u.cells.toList.all Value.oneCell'=true)/\Rep L w' (el a) u
theorem Elem.repE{e:TypeId}{k:Nat}{α:Type}{Ok:α->Prop}{el:α->V}{elc:α->List Value}(E:Elem enc P w base spare held e k Ok el elc)(L:Lay)(w':World):∀l:List α,RepE L w' k (l.map el) (l.map elc).flatten:=by
 intro l
 induction l with
 |nil=>rfl
 |cons a l i =>obtain⟨u,h1,h2,h3,h4⟩:=E.rep a L w';exact⟨u,(l.map elc).flatten,by rw[h1];rfl,h2,h3,h4,i⟩
theorem axn{t e:TypeId}{k:Nat}{α:Type}{Ok:α->Prop}{el:α->V}{elc:α->List Value}(E:Elem enc P w base spare held e k Ok el elc)(S:P.underlying t=some (.slice e)){p:Nat}{cs:List Value}{x:DataW H×List MemPlace}(h:DataW.trod enc P w base spare held p t cs=some x) :
  ∃l:List α,(∀a∈l,Ok a)/\∃u,cs=[u]/\Rep ⟨fun g=>g<w.heap.size,fun _=>none,fun _=>none⟩ w (.sl .fz k (l.map el)) u:=by
 rcases DataW.trod_slice S h with⟨rfl,_⟩|⟨a,len,cap,s,M,n,_,rfl,rfl,hb,hl,hm,J,C,_,_⟩
 .exact⟨[],(fun a h=>by cases h),_,rfl,none,0,[],rfl,rfl,az _,.inl rfl⟩
 have b:∀i,i<len->∃y:α,Ok y/\w.cells? base (a.add (i*k)) k=some (elc y):=by intro i hi;have h1:=C i hi;rw[E.cells,dY Om,bg]at h1;obtain⟨cs',h2,h3⟩:=h1;obtain⟨y,L,rfl⟩:=E.get _ _ _ h3;grind
 rcases gG len with G|G
 .subst G;exact⟨[],(fun a h=>by cases h),_,rfl,some a,cap,[],rfl,rfl,ax _,.inl rfl⟩
 obtain⟨g,o,spot⟩:=a
 have f:spot=none:=by obtain⟨y,L,v⟩:=b 0 G;obtain⟨A,q,d⟩:=World.cells?_some v;have h5:=d 0 E.pos;rw[dY (by rw[q];exact E.pos)]at h5;have:=World.cell?_spot h5;simpa[Addr.add]using this
 subst f
 have r:∀m,m<=len->∃l:List α,l.length=m/\(∀y∈l,Ok y)/\((l.map elc).flatten).length=m*k/\∀j,j<m*k->w.cell? ((⟨g,o,none⟩:Addr).add j)=((l.map elc).flatten)[j]?:=by
  intro m
  induction m with
  |zero=>intro _;exact⟨[],rfl,(fun y h=>by cases h),by simp,fun j hj=>by omega⟩
  |succ m U =>
   intro R;obtain⟨l,h1,h2,h3,h4⟩:=U Om;obtain⟨y,L,v⟩:=b m Om;obtain⟨A,q,d⟩:=World.cells?_some v;have T:=E.len y;refine⟨l++[y],by simp[h1],?_,?_,?_⟩
   .grind
   .grind
   .intro j hj;rw[nK,Nat.one_mul]at hj;rw[nJ,aas];rcases au j (m*k)with Q|F
    .grind
    .rw[List.getElem?_append_right Om,h3];have h5:=d (j-m*k) Om;have N:((⟨g,o,none⟩:Addr).add (m*k)).add (j-m*k)=(⟨g,o,none⟩:Addr).add j:=by rw[Pg.jO,Pg.jO,Pg.jO,Nat.add_assoc,Nat.add_sub_cancel' F]
     rw[N]at h5;simpa using h5
 obtain⟨l,h1,h2,h3,h4⟩:=r len (az _)
 refine⟨l,h2,_,rfl,some ⟨g,o,none⟩,cap,(l.map elc).flatten,by rw[aj,h1],E.repE _ _ l,?_⟩
 rw[aj,h1]
 refine⟨hl,?_⟩
 rcases gG len with I|I
 .omega
 .right;have K:0<len*k:=Nat.mul_pos I E.pos;have c:Pg.Row w g o (l.map elc).flatten:=by refine aqm Om (fun i hi => ?_);have:=h4 i Om;rw[Pg.jO]at this;exact this
  refine⟨g,o,rfl,?_,c⟩;obtain⟨arr,e',fr,hg,_⟩:=c;exact(lW.1 hg).1
end
end Go.Pg
end
section
namespace Go.Proofs.YtopbmdnbdpjheaaGreat
open Go Go.ChangeShapes Go.WideShapes Go.ChangeAt Go.RowKit
def own:ownKnob Tryz.prog.godebug=none:=by kernel_rfl
def Wi:laidOutB Tryz.prog=true:=by kernel_rfl
def akQ{W a:World}(hk:Pg.Kp (fun _=>False) W.heap.size W a):Below W.heap.size W a:=⟨hk.os,hk.tape,hk.output,hk.size,fun k h=>hk.block k h (fun h=>h)⟩
abbrev LW(w:World):Pg.Lay:=⟨fun g=>g<w.heap.size,fun _=>none,fun _=>none⟩
def WtI(n:Int):Prop := -9223372036854775808<=n/\n<=9223372036854775807
def au7{n:Int}(h:(Lit.int .i64 n).wf=true):WtI n:=by simp[Lit.wf]at h;assumption
section
variable {H:Type} {enc:TypeId × Value->H} {w:World} {base:Nat} {spare:Nat->Bool} {held:Bool}
theorem afk:Pg.Elem enc Tryz.prog w base spare held 3 1 WtI (fun n=>Pg.V.c (.int .i64 n)) (fun n=>[Value.int .i64 n]) where
 pos:=by decide
 cells:=by kernel_rfl
 len:=fun _=>rfl
 get:=fun n cs x h=>by obtain⟨m,rfl,_,a⟩:=DataW.trod_int Tryz.underlying3 h;exact⟨m,au7 a,rfl⟩
 rep:=fun n L w'=>⟨.int .i64 n,by simp[Value.cells],rfl,⟨rfl,rfl⟩,rfl⟩
theorem Xq{n:Nat}{v:Value}{a:Option Addr}{len cap:Nat}{x:DataW H×List MemPlace}(hv:v = .slice a len cap)(h:DataW.trod enc Tryz.prog w base spare held n 22 v.cells.toList=some x):∃l:List Int,l.length<=9223372036854775807/\Pg.Rep (LW w) w (fzi l) v:=by
 subst hv;obtain⟨l,hl,u,e,r⟩:=Pg.axn afk Tryz.underlying22 h;have j:u = .slice a len cap:=by simp[Value.cells]at e;exact e.symm
 subst j;refine⟨l,?_,r⟩;obtain⟨b,c,row,h1,_,h2,_⟩:=r;injection h1 with h1 h3 h4;have i:(List.map (fun n=>Pg.V.c (.int .i64 n)) l).length=l.length:=aj ..;rcases DataW.trod_slice Tryz.underlying22 h with⟨g,_⟩|⟨k,f,d,_,_,_,_,g,_,_,m,p,_⟩
 .simp[Value.cells]at g;omega
 .simp[Value.cells]at g;have:maxLen=9223372036854775807:=rfl;omega
end
end Go.Proofs.YtopbmdnbdpjheaaGreat
end
