/-
  Merged texts.
-/
import Derived.Test.YtopbmdnbdpjheaaGreatWAN
import Derived.Test.YtopbmdnbdpjheaaGreatWAI
import Derived.Test.YtopbmdnbdpjheaaGreatWAJ
import Derived.Test.YtopbmdnbdpjheaaGreatWAL
import Derived.Test.YtopbmdnbdpjheaaGreatWAG
import Derived.ChangeSlices
import Derived.DataReads
import Derived.Test.YtopbmdnbdpjheaaGreatWAE
import Derived.Test.YtopbmdnbdpjheaaGreatRows
import Derived.ProofKit
import Derived.Test.YtopbmdnbdpjheaaGreatWAF
set_option linter.all false
set_option linter.unusedVariables false
set_option linter.unusedSimpArgs false
set_option linter.unusedSectionVars false
set_option linter.defProp false
set_option maxRecDepth 100000
set_option maxHeartbeats 8000000
namespace Go.Proofs.YtopbmdnbdpjheaaGreat
open Go Go.Pg
def ah9(l:List Nat)(ho:oct l)(hl:l.length<=2147483648):Gxx 87 [fzb l] (unV l):=by
 refine(aia l ho hl).fzr ?_ ?_
 .unfold unO;split<;>rfl
 .have:(unO l).erase=unV l:=by unfold unO unV;split<;>rfl
  rw[this];exact aC _
def agE(l:List Nat)(ho:oct l)(h:unE l=0)(h2:unU l+4=l.length):l=jR (l.getD 0 0) (unB l):=by
 unfold unE at h;split at h
 .cases h
 .rename_i p;split at h
  .omega
  .rename_i h1;have h1:(ak (l.drop 1)).2.2=0:=o8 h1;split at h
   .cases h
   .rename_i h3;split at h
    .cases h
    .rename_i h4;split at h
     .cases h
     .rename_i h5;have h5:=o8 h5;have f:=BZ (l.drop 1) (eG ho 1) h1;have g:=Nr (l.drop 1) (eG ho 1) h1;have c:unU l=1+(ak (l.drop 1)).2.1+(ak (l.drop 1)).1:=rfl;have d:unB l=(l.take (unU l)).drop (1+(ak (l.drop 1)).2.1):=rfl;rw[<-c]at h5;have s:=(Tn l (unU l) ho Om).1 h5;generalize unB l=i at *;generalize unU l=U at *;generalize ak (l.drop 1)=q at *;obtain⟨x,u,e⟩:=q;simp only at *;have j:i.length=x:=by rw[d,eH,bI];omega
      have b:bK (l.getD 0 0) i=l.take U:=by
       unfold bK;rw[j]
       have k:l=l.getD 0 0::l.drop 1:=by
        cases l with
        |nil=>exact absurd rfl p
        |cons a r=>rfl
       have m:l.take U=l.getD 0 0::(ai x++((l.drop 1).drop u).take x):=by
        conv=>lhs;rw[k,f]
        rw[c,show 1+u+x=(u+x)+1 by omega,aaw,Gt,g];rw[oz Om,show(ai x).length+x-(ai x).length=x by omega]
       have n:i=((l.drop 1).drop u).take x:=by rw[d,c,sD,su];congr 1;omega
       rw[m,<-n,mO]
      unfold jR;rw[b,<-s];unfold ft;rw[h2,gB,Mc]
def aeD{k:Nat}{l:List Nat}{s:Sk}(ho:oct l)(h:jC k l=some s):vSk (iD s)=0/\(iD s).p.k=k/\fK (iD s)=l:=by
 have refl:∀s:Sk,jy s s=true:=fun s=>by unfold jy vH vJ vM vI vK samP samT;simp
 unfold jC at h;(repeat' split at h)<;>first|(cases h;done)|skip
 all_goals
  rename_i hk
  subst hk
  simp only[bF]at h
  obtain⟨x,hd,rfl⟩:=h
 .obtain⟨h1,h2⟩:=TK hd;exact⟨by simp[vSk,gU,gu,iD,oQ,skK,vp,parP,refl,h1],rfl,h2⟩
 .obtain⟨⟨h1,h2⟩,_⟩:=Nk ho hd;have i:=Bv h1;exact⟨by simp[vSk,gU,gu,iD,oQ,skK,vp,parP,refl,h1];omega,rfl,h2⟩
 .have h1:=(Np ho hd).1;have i:=Bz h1;exact⟨by simp[vSk,gU,gu,iD,oQ,skK,vp,parP,refl,h1];omega,rfl,TI ho hd⟩
 .obtain⟨h1,h2⟩:=Nu hd;have i:=zo h1;exact⟨by simp[vSk,gU,gu,iD,oQ,skK,vp,parP,refl,h1];omega,rfl,h2⟩
 .obtain⟨h1,h2⟩:=Nl hd;have i:=zl h1;exact⟨by simp[vSk,gU,gu,iD,oQ,skK,vp,parP,refl,h1];omega,rfl,h2⟩
 .obtain⟨h1,h2⟩:=Ns hd;have i:=zn h1;exact⟨by simp[vSk,gU,gu,iD,oQ,skK,vp,parP,refl,h1];omega,rfl,h2⟩
def Uo:Option Sk->Sk×Nat
 |none=>(Sk.o,2)
 |some s=>(iD s,0)
def af0(l:List Nat)(ho:oct l)(h:unE l=0)(b:l.getD 0 0=83)(h2:unU l+4=l.length)(h3:(ak (unB l)).2.2=0) :
  NK l (jC (ak (unB l)).1 ((unB l).drop (ak (unB l)).2.1))=Uo (jC (ak (unB l)).1 ((unB l).drop (ak (unB l)).2.1)):=by
 have a:oct (unB l):=eG (vw ho _) _
 cases hd:jC (ak (unB l)).1 ((unB l).drop (ak (unB l)).2.1)with
 |none=>rfl
 |some s =>obtain⟨h4,h5,c⟩:=aeD (eG a _) hd;refine ah ⟨h4,?_⟩;unfold dw;rw[ag (fun e=>e h4),h5,c,fC,<-BZ (unB l) a h3];have:=agE l ho h h2;rw[b]at this;exact this.symm
def fnR(k:Nat):Nat:=if k=1 then 89 else if k=2 then 90 else if k=3 then 91 else if k=4 then 92 else if k=5 then 93 else 94
def ag5(l B:List Nat)(u k:Nat)(hk:k=1\/k=2\/k=3\/k=4\/k=5\/k=6)(q:Gxx 87 [fzb l] (.tup [.c (.int .u8 83),fzb B,vi (l.length:Nat),vi 0]))(m:Gxx 88 [fzb B] (.tup [vi k,vi (u:Nat),vi 0]))(t:u<=B.length)(r:oct B)(v:B.length<=900000) :
  Gxx 32 [fzb l] (rSk (Uo (jC k (B.drop u)))):=by
 have b0:=aA B
 have bL:=aA l
 have x:=iR B u
 have g:=eG r u
 have y:(B.drop u).length<=900000:=by rw[eH];omega
 generalize B.drop u=R at *
 rcases Uy (F:=fnR) (aeI R g▸ahc R g Om) (aeu R g▸ag7 R g Om) (aeA R g▸ag9 R g Om) (aeL R g▸ahd R g Om) (aex R g▸ag8 R g Om) (aeE R g▸aha R g Om) g k hk with⟨i,h⟩|⟨s,i,hp,j,ok,h⟩
 .rw[i];refine ru (n:=2) rfl ?_;rcases hk with rfl|rfl|rfl|rfl|rfl|rfl
  all_goals
   simp only[fnR,CG,Nat.reduceEqDiff,reduceIte]at h
   refine gI oW ?_
   exact wR (Ad @pgv @b0 @bL x) (Ac q m h) ay
 .rw[i];refine Good.wkt (vs:=[.agg (skN (iD s)),vi 0]) ?_ ⟨FP (s:=iD s) j,aC _,trivial⟩;clear ok i;obtain⟨p,a,b,c,d,e,f⟩:=s;simp only at hp;subst hp;unfold skU at j;rcases hk with rfl|rfl|rfl|rfl|rfl|rfl
  all_goals
   simp[skN,skC,iD,oQ,fnR,CG]at h j⊢
   obtain⟨rfl,rfl,rfl,rfl,rfl⟩:=j
   refine gI oW ?_
   exact wR (Ad @pgv @b0 @bL x) (Ac q m h) ay
def JB(l:List Nat)(ho:oct l)(hl:l.length<=900000):Gxx 32 [fzb l] (rSk (fA l)):=by
 have b:=ah9 l ho Om;unfold unV at b;have f:oct (unB l):=eG (vw ho _) _;have s:(unB l).length<=l.length:=by unfold unB;rw[eH,bI];omega
 have c:=JA (unB l) f Om;obtain⟨i,m,j⟩:=lS (unB l) f;have a:=af0 l ho;unfold lU at c;unfold fA;have b0:=aA (unB l);have bL:=aA l;have x:=fun u=>iR (unB l) u
 have r:=kw ho 0;generalize unB l=B at *;generalize l.getD 0 0=t at *;generalize unU l=us at *;generalize unE l=e at *;by_cases d:e=0
 case neg =>
  rw[ah d]
  rw[ah d]at b
  refine ru (n:=e) rfl ?_
  unfold nO at b
  refine gI oW ?_
  exact wR ae b ay
 case pos =>
  rw[ag (fun h=>h d)]
  rw[ag (fun h=>h d)]at b
  by_cases h1:t=83
  case neg =>
   rw[ah (fun h=>h1 h.1)]
   refine ru (n:=2) rfl ?_
   refine gI oW ?_
   exact wR (aI @bL @b0) (aI b c) ay
  case pos =>
   subst h1
   by_cases h2:us+4=l.length
   case neg =>
    rw[ah (fun h=>h2 h.2.1)]
    refine ru (n:=2) rfl ?_
    refine gI oW ?_
    exact wR (aI @bL @b0) (aI b c) ay
   case pos =>
    have a:=a d rfl h2
    rw[h2]at b
    generalize p:ak B=q at *
    obtain⟨k,u,g⟩:=q
    simp only at c i m j a⊢
    by_cases h3:g=0
    case neg =>
     rw[ah (fun h=>h3 h.2.2)]
     refine ru (n:=2) rfl ?_
     refine gI oW ?_
     exact wR (aI @bL @b0) (aI b c) ay
    case pos =>
     subst h3
     rw[ag (fun h=>h ⟨trivial,h2,rfl⟩),a rfl]
     by_cases hk:k=1\/k=2\/k=3\/k=4\/k=5\/k=6
     case pos =>
      exact ag5 l B u k hk b c m f Om
     case neg =>
      have e:jC k (B.drop u)=none:=by
       unfold jC
       rw[ag Om,ag Om,ag Om,ag Om,ag Om,ag Om]
      rw[e]
      refine ru (n:=2) rfl ?_
      refine gI oW ?_
      exact wR (Ad @pgv @bL @b0 x) (aI b c) ay
def UY{Q:List Nat->Prop}{s:Sto}(H:OkS Q s)(g:∀d,Q d->oct d/\d.length<=65536){k:List Nat}{i x:Nat}{d:List Nat}(ha:AtV s k s.m i x)(hd:Q d)(hv:VcP s.pa (verOf s i x).p d)(hp:(verOf s i x).p.length<=65536)(u:Sto)(z:Int)(m:Gxx 33 [.agg (stF s),vi s.m] (.tup [.agg (stF u),vi z]))(t:z≠0->u=s) :
  Gxx 11 [.agg (stF s),.sl .fz 1 (ssV [k])] (.tup [.agg (stF u),.agg (if z=0 then mcF s.m true [(verOf s i x).f] (skF (fA d).1) skZ else mcZ),vi z]):=by
 have hm:=H.m
 have j:=H.sml
 have a:=ut s hm.1
 have h:=BV H.pn hv
 have f:=Hg s j k s.m i x ha a
 have n:=JD s j k s.m i x ha a (jsO s.pa (verOf s i x).p) (AX hv.num fun q r=>(H.pp q r).1) Om
 rw[h]at n
 have p:Gxx 32 [fzb d] (.tup [.agg (skF (fA d).1),vi ((fA d).2:Nat)]):=JB d (g d hd).1 (by have:=(g d hd).2;omega)
 generalize(fA d).1=X at *
 generalize(fA d).2=w at *
 generalize(verOf s i x).f=v at *
 generalize(s.ob.getD i (0,[])).1=y at *
 clear j H g ha hd hv hp a h
 by_cases c:z=0
 .subst c;rw[ah rfl];refine Good.fzt (vs:=[.agg (stF u),.agg (vi 0::vi s.m::vb true :: .sl (.own 0 3) 1 [vi v]::vi 0::(skF X++(skZ++[vi 0,vi 0,vi 0,vi 0,vi 0,vi 0,nls,vb false]))),vi 0]) ?_ rfl ⟨aC _,aC _,aC _,trivial⟩;refine gI (fJ [] mix) ?_;(repeat' first|refine wED (aI @pgE @aX) f ?_|refine tE ?_ ?_<;>intro b|fail);refine tu 2 ?_;(repeat' first|refine wED (Ac @pgE @aX @pgu) (Ac f n p) ?_|refine tE ?_ ?_<;>intro b|fail);refine vT ?_;(repeat' first|refine wEX (Ac @pgE @aX @pgu) m ?_|refine tE ?_ ?_<;>intro b|fail);refine oh mix ?_;(repeat'(first|(simp(disch:=first|exact dqz|fail) only[pgz,simprocAttr,pgE,pga])|(refine tE ?_ ?_<;>intro b)|(with_reducible refine cKA ?_)|((with_reducible show gJ _ _ _ _ _);first|refine lG (by decide +kernel) ?_|refine lF (by decide +kernel) ?_)|refine xK ?_|fail));exact rE [6]
 .rw[ag c];have l:(z=0)=False:=eq_false c;rw[t c]at m⊢;refine gI (fJ [] mix) ?_;(repeat' first|refine wED (aI @pgE @aX) f ?_|refine tE ?_ ?_<;>intro b|fail);refine tu 2 ?_;(repeat' first|refine wED (Ac @pgE @aX @pgu) (Ac f n p) ?_|refine tE ?_ ?_<;>intro b|fail);refine vT ?_;(repeat' first|refine wEX (Ad @pgE @aX @pgu l) m ?_|refine tE ?_ ?_<;>intro b|fail);exact rE []
def UZ{Q:List Nat->Prop}{s:Sto}(H:OkS Q s)(l:∀d,Q d->oct d/\d.length<=65536){k:List Nat}{i x:Nat}{d:List Nat}(ha:AtV s k s.m i x)(hd:Q d)(hv:VcP s.pa (verOf s i x).p d)(hp:(verOf s i x).p.length<=65536)
  {k2:List Nat} {i2 x2:Nat} {d2:List Nat} (f:AtV s k2 s.m i2 x2) (g:Q d2) (j:VcP s.pa (verOf s i2 x2).p d2) (r:(verOf s i2 x2).p.length<=65536) (u:Sto) (z:Int) (y:Gxx 33 [.agg (stF s),vi s.m] (.tup [.agg (stF u),vi z])) (J:z≠0->u=s) :
  Gxx 11 [.agg (stF s),.sl .fz 1 (ssV [k,k2])] (.tup [.agg (stF u),.agg (if z=0 then mcF s.m true [(verOf s i x).f,(verOf s i2 x2).f] (skF (fA d).1) (skF (fA d2).1)else mcZ),vi z]):=by
 have hm:=H.m
 have m:=H.sml
 have a:=ut s hm.1
 have c:=BV H.pn hv
 have h:=BV H.pn j
 have p:=Hg s m k s.m i x ha a
 have A:=JD s m k s.m i x ha a (jsO s.pa (verOf s i x).p) (AX hv.num fun q t=>(H.pp q t).1) Om
 rw[c]at A
 have G:=Hg s m k2 s.m i2 x2 f a
 have C:=JD s m k2 s.m i2 x2 f a (jsO s.pa (verOf s i2 x2).p) (AX j.num fun q t=>(H.pp q t).1) Om
 rw[h]at C
 have F:Gxx 32 [fzb d] (.tup [.agg (skF (fA d).1),vi ((fA d).2:Nat)]):=JB d (l d hd).1 (by have:=(l d hd).2;omega)
 have I:Gxx 32 [fzb d2] (.tup [.agg (skF (fA d2).1),vi ((fA d2).2:Nat)]):=JB d2 (l d2 g).1 (by have:=(l d2 g).2;omega)
 generalize(fA d).1=X at *
 generalize(fA d).2=w at *
 generalize(verOf s i x).f=L at *
 generalize(s.ob.getD i (0,[])).1=M at *
 generalize(fA d2).1=Y at *
 generalize(fA d2).2=N at *
 generalize(verOf s i2 x2).f=E at *
 generalize(s.ob.getD i2 (0,[])).1=K at *
 clear m H l ha hd hv hp a c f g j r h
 by_cases n:z=0
 .subst n;rw[ah rfl];refine Good.fzt (vs:=[.agg (stF u),.agg (vi 0::vi s.m::vb true :: .sl (.own 0 3) 1 [vi L,vi E]::vi 0::(skF X++(skF Y++[vi 0,vi 0,vi 0,vi 0,vi 0,vi 0,nls,vb false]))),vi 0]) ?_ rfl ⟨aC _,aC _,aC _,trivial⟩;refine gI (fJ [] mix) ?_;(repeat' first|refine wED (aI @pgE @aX) p ?_|refine tE ?_ ?_<;>intro b|fail);refine tu 3 ?_;(repeat' first|refine wED (Ac @pgE @aX @pgu) (Ac p A F) ?_|refine tE ?_ ?_<;>intro b|fail);refine vT ?_;(repeat' first|refine wED (Ac @pgE @aX @pgu) (Ac G C I) ?_|refine tE ?_ ?_<;>intro b|fail);refine vT ?_;(repeat' first|refine wEX (Ac @pgE @aX @pgu) y ?_|refine tE ?_ ?_<;>intro b|fail);refine oh mix ?_;(repeat'(first|(simp(disch:=first|exact dqz|fail) only[pgz,simprocAttr,pgE,pga])|(refine tE ?_ ?_<;>intro b)|(with_reducible refine cKA ?_)|((with_reducible show gJ _ _ _ _ _);first|refine lG (by decide +kernel) ?_|refine lF (by decide +kernel) ?_)|refine xK ?_|fail));exact rE [6]
 .rw[ag n];have v:(z=0)=False:=eq_false n;rw[J n]at y⊢;refine gI (fJ [] mix) ?_;(repeat' first|refine wED (aI @pgE @aX) p ?_|refine tE ?_ ?_<;>intro b|fail);refine tu 3 ?_;(repeat' first|refine wED (Ac @pgE @aX @pgu) (Ac p A F) ?_|refine tE ?_ ?_<;>intro b|fail);refine vT ?_;(repeat' first|refine wED (Ac @pgE @aX @pgu) (Ac G C I) ?_|refine tE ?_ ?_<;>intro b|fail);refine vT ?_;(repeat' first|refine wEX (Ad @pgE @aX @pgu v) y ?_|refine tE ?_ ?_<;>intro b|fail);exact rE []
def U0{s:Sto}{k:List (List Nat)}(hk:k=[]\/∃a b c,k=[a,b,c]):Gxx 11 [.agg (stF s),.sl .fz 1 (ssV k)] (.tup [.agg (stF s),.agg mcZ,vi 5]):=by
 rcases hk with rfl|⟨d,k2,f,rfl⟩
 all_goals
  refine gI (fJ [] mix) ?_
  (repeat' first|refine wU (aI @pgE @aX) ?_|refine tE ?_ ?_<;>intro h|fail)
  exact rE []
def U1{Q:List Nat->Prop}{s:Sto}(H:OkS Q s){k:List Nat}{r:List (List Nat)}(b:r=[]\/∃a,r=[a])(hk:(lkA k s.m s.bi).2=false):Gxx 11 [.agg (stF s),.sl .fz 1 (ssV (k::r))] (.tup [.agg (stF s),.agg mcZ,vi 8]):=by
 have q:=Oa s H.sml k s.m hk (ut s H.m.1);clear H hk;rcases b with rfl|⟨k2,rfl⟩
 all_goals
  refine gI (fJ [] mix) ?_
  (repeat' first|refine wU (aI @pgE @aX) ?_|refine tE ?_ ?_<;>intro h|fail)
  refine tu 1 ?_
  (repeat' first|refine wED (Ac @pgE @aX @pgu) q ?_|refine tE ?_ ?_<;>intro h|fail)
  exact rE []
def agY{Q:List Nat->Prop}{s:Sto}(H:OkS Q s)(f:∀d,Q d->oct d/\d.length<=65536){k:List Nat}{i x:Nat}{d:List Nat}(ha:AtV s k s.m i x)(hd:Q d)(hv:VcP s.pa (verOf s i x).p d)(hp:(verOf s i x).p.length<=65536){k2:List Nat}(b:(lkA k2 s.m s.bi).2=false) :
  Gxx 11 [.agg (stF s),.sl .fz 1 (ssV [k,k2])] (.tup [.agg (stF s),.agg mcZ,vi 8]):=by
 have hm:=H.m
 have c:=H.sml
 have h:=ut s hm.1
 have a:=BV H.pn hv
 have m:=Hg s c k s.m i x ha h
 have j:=JD s c k s.m i x ha h (jsO s.pa (verOf s i x).p) (AX hv.num fun q l=>(H.pp q l).1) Om
 rw[a]at j
 have n:Gxx 32 [fzb d] (.tup [.agg (skF (fA d).1),vi ((fA d).2:Nat)]):=JB d (f d hd).1 (by have:=(f d hd).2;omega)
 generalize(fA d).1=X at *
 generalize(fA d).2=w at *
 generalize(verOf s i x).f=v at *
 generalize(s.ob.getD i (0,[])).1=p at *
 have r:=Oa s c k2 s.m b h
 clear c H f ha hd hv hp h a b
 refine gI (fJ [] mix) ?_
 (repeat' first|refine wU (aI @pgE @aX) ?_|refine tE ?_ ?_<;>intro g|fail)
 refine tu 2 ?_
 (repeat' first|refine wED (Ac @pgE @aX @pgu) (Ac m j n) ?_|refine tE ?_ ?_<;>intro g|fail)
 refine vT ?_
 (repeat' first|refine wED (Ac @pgE @aX @pgu) r ?_|refine tE ?_ ?_<;>intro g|fail)
 exact rE []
def qy(a:Nat):List (List Nat):=[nmB a,nmB (a / 4),[122,122]].take (a / 16%4)
def Vj(a:Nat)(ha:a<64):Gxx 10 [vi a] (.sl .fz 1 (ssV (qy a))):=by
 have c:=JC a Om;have k2:=JC (a / 4) Om;unfold qy;have hm:=kQ (a / 16) (show 4 > 0 by decide);generalize nmB a=x at *;generalize nmB (a / 4)=y at *;generalize hk:a / 16%4=k at *;rcases(Om:k=0\/k=1\/k=2\/k=3)with rfl|rfl|rfl|rfl
 all_goals
  have h:∀(s:St) id q,q=0\/q=1\/q=2\/q=3->zf Tryz.prog s 66 id 1 [.c (.string (sB x)),.c (.string (sB y)),.c (.string ⟨#[122,122]⟩)] none (some (vi q))=some (.sl .fz 1 ([.c (.string (sB x)),.c (.string (sB y)),.c (.string ⟨#[122,122]⟩)].take q.toNat),s.mapV (frz id)):=fun s id q b=>by rcases b with rfl|rfl|rfl|rfl<;>rfl
  have w0:=fun s id=>h s id 0 dX
  have d:=fun s id=>h s id 1 dX
  have f:=fun s id=>h s id 2 dX
  have g:=fun s id=>h s id 3 dX
  refine gI oW ?_
  (repeat'(first|(simp(disch:=first|exact dqz|fail) only[pgz,simprocAttr,anB,shB,sh2,hk,isC,Option.all_some,Option.all_none,xM,qi,w0,d,f,g])|((with_reducible show eX _ _ _ _ _ _);first|refine cU c ?_|refine cU k2 ?_)|(refine tS ?_ ?_<;>intro i)|(with_reducible refine cK ?_)))
  exact rE []
def aes:(dw (jJ [0])).length<=480:=by decide +kernel
def XA{s:Sto}{d:List (List Nat)}(hk:d=[]\/∃a b c,d=[a,b,c]):Pgm 9 [.sl .fz 1 (ssV d)] s s (.tup [.agg mcZ,vi 5]):=by
 intro e bx n h b N H;rcases hk with rfl|⟨f,k2,i,rfl⟩
 all_goals
  refine lg (fJ [] mix) Tryz.func9 rfl Tryz.results9 rfl Za (fP Za) ?_
  (repeat' first|refine wU (Ae @pgE @aX @aK @bu @bz) ?_|refine tE ?_ ?_<;>intro g|fail)
  refine kz (SMod.here (B:=_) (m:=n+1) (N':=N) Om (fun k hk=>.inl hk) (H.of Om fun k hk => ?_) fun k f k2 => ?_) (ng ?_ (aP _ _) (aQ _ _) rfl (az _))
  .have:=H.ltD k hk
   simp only[upd]
   repeat rw[ag Om]
  .simp only[upd]
   repeat rw[ag Om]
  .simp(disch:=first|exact dqz|fail) only[pgz,simprocAttr,pgr]
def XB{Q:List Nat->Prop}{s:Sto}(H:OkS Q s){k:List Nat}{r:List (List Nat)}(v:r=[]\/∃a,r=[a])(hk:(lkA k s.m s.bi).2=false):Pgm 9 [.sl .fz 1 (ssV (k::r))] s s (.tup [.agg mcZ,vi 8]):=by
 intro e bx n h b N c;have hm:=H.m;have x:=H.sml;have f:=ut s hm.1;have S:∀B,(∀k,k<n->B k=bx k)->StAt B n b s N:=fun B h2=>c.of (az _) fun k hk=>h2 k (c.ltD k hk)
 have y:=fun B h2=>(S B h2).look fun e m h d=>PQ e B m h d x k s.m f hk
 have A:=fun B h2=>(S B h2).look fun e m h d=>KC e B m h d
 have t:=c.lt.1;have g:(n=n+1)=False:=eq_false Om;have i:(n+1=n)=False:=eq_false Om;have j:(n=n+1+1)=False:=eq_false Om;have l:(n+1+1=n)=False:=eq_false Om;have p:(n+1=n+1+1)=False:=eq_false Om;have q:(n+1+1=n+1)=False:=eq_false Om;rcases v with rfl|⟨k2,rfl⟩
 all_goals
  refine lg (fJ [] mix) Tryz.func9 rfl Tryz.results9 rfl Za (fP Za) ?_
  (repeat' first|refine wU (A8 @pgE @aX @aK @bu @bz g i j (Ac l p q)) ?_|(refine tC ?_;refine oC _ ((A _ (by intro k hk;simp only[upd];repeat rw[ag Om]))) rfl ?_)|refine tE ?_ ?_<;>intro u|fail)
  refine tu 1 ?_
  (repeat' first|refine wU (A8 @pgE @aX @pgu @bu @bz g i j (Ac l p q)) ?_|(refine tC ?_;refine oC _ ((y _ (by intro k hk;simp only[upd];repeat rw[ag Om]))) rfl ?_)|refine tE ?_ ?_<;>intro u|fail)
  refine kz (SMod.here (B:=_) (m:=n+3) (N':=N) Om (fun k hk=>.inl hk) (c.of Om fun k hk => ?_) fun k C k2 => ?_) (ng ?_ (aP _ _) (aQ _ _) rfl (az _))
  .have:=c.ltD k hk
   simp only[upd]
   repeat rw[ag Om]
  .simp only[upd]
   repeat rw[ag Om]
  .simp(disch:=first|exact dqz|fail) only[pgz,simprocAttr,pgr]
def anF{Q:List Nat->Prop}{s:Sto}(H:OkS Q s)(A:∀d,Q d->oct d/\d.length<=65536){k:List Nat}{i x:Nat}{d:List Nat}(ha:AtV s k s.m i x)(hd:Q d)(hv:VcP s.pa (verOf s i x).p d)(hp:(verOf s i x).p.length<=65536){k2:List Nat}(v:(lkA k2 s.m s.bi).2=false) :
  Pgm 9 [.sl .fz 1 (ssV [k,k2])] s s (.tup [.agg mcZ,vi 8]):=by
 intro e bx n h b N f
 have hm:=H.m
 have y:=H.sml
 have c:=ut s hm.1
 have g:=BV H.pn hv
 have S:∀B,(∀k,k<n->B k=bx k)->StAt B n b s N:=fun B h2=>f.of (az _) fun k hk=>h2 k (f.ltD k hk)
 have I:=fun B h2=>(S B h2).look fun e m h a=>KF e B m h a y H.on k s.m i x c ha
 have E:=fun B h2=>(S B h2).look fun e m h a=>PG e B m h a y H.on H.pn k s.m i x c ha (jsO s.pa (verOf s i x).p) (AX hv.num fun q G=>(H.pp q G).1) Om
 rw[g]at E
 have J:Gxx 28 [fzb d] (.tup [.agg (skF (fA d).1),vi ((fA d).2:Nat)]):=Pv d (A d hd).1 (by have:=(A d hd).2;omega)
 generalize(fA d).1=X at *
 generalize(fA d).2=w at *
 generalize(verOf s i x).f=P at *
 have L:=fun B h2=>(S B h2).look fun e m h a=>PQ e B m h a y k2 s.m c v
 have K:=fun B h2=>(S B h2).look fun e m h a=>KC e B m h a
 have F:=f.lt.1
 have j:(n=n+1)=False:=eq_false Om
 have l:(n+1=n)=False:=eq_false Om
 have p:(n=n+1+1)=False:=eq_false Om
 have r:(n+1+1=n)=False:=eq_false Om
 have t:(n+1=n+1+1)=False:=eq_false Om
 have u:(n+1+1=n+1)=False:=eq_false Om
 refine lg (fJ [] mix) Tryz.func9 rfl Tryz.results9 rfl Za (fP Za) ?_
 (repeat' first|refine wU (A8 @pgE @aX @aK @bu @bz j l p (Ac r t u)) ?_|(refine tC ?_;refine oC _ ((K _ (by intro k hk;simp only[upd];repeat rw[ag Om]))) rfl ?_)|refine tE ?_ ?_<;>intro C|fail)
 refine tu 2 ?_
 (repeat' first|refine wED (A8 @pgE @aX @pgu @bu @bz j l p (Ac r t u)) J ?_|(refine tC ?_;first|refine oC _ ((I _ (by intro k hk;simp only[upd];repeat rw[ag Om]))) rfl ?_|refine oC _ ((E _ (by intro k hk;simp only[upd];repeat rw[ag Om]))) rfl ?_)|refine tE ?_ ?_<;>intro C|fail)
 refine vT ?_
 (repeat' first|refine wU (A8 @pgE @aX @pgu @bu @bz j l p (Ac r t u)) ?_|(refine tC ?_;refine oC _ ((L _ (by intro k hk;simp only[upd];repeat rw[ag Om]))) rfl ?_)|refine tE ?_ ?_<;>intro C|fail)
 refine kz (SMod.here (B:=_) (m:=n+5) (N':=N) Om (fun k hk=>.inl hk) (f.of Om fun k hk => ?_) fun k M k2 => ?_) (ng ?_ (aP _ _) (aQ _ _) rfl (az _))
 .have:=f.ltD k hk;simp only[upd];repeat rw[ag Om]
 .simp only[upd];repeat rw[ag Om]
 .simp(disch:=first|exact dqz|fail) only[pgz,simprocAttr,pgr]
def cur(s:Sto)(k:List Nat):Option Int:=if(lkA k s.m s.bi).2=true then some (verOf s (ixA (lkA k s.m s.bi).1 s.ob 0).toNat (fvA s.m (s.ob.getD (ixA (lkA k s.m s.bi).1 s.ob 0).toNat (0,[])).2 0).1.toNat).f else none
def TE{s:Sto}{k:List Nat}{i x:Nat}(h:AtV s k s.m i x):cur s k=some (verOf s i x).f:=by unfold cur;rw[h.lk];rw[h.ix,fC,h.fv];rfl
def aee{s:Sto}{k:List Nat}(h:(lkA k s.m s.bi).2=false):cur s k=none:=by grind[cur]
def unC(s:Sto):List Int->List (List Nat)->Bool
 |[],[]=>true
 |f::fs,k::a=>decide (cur s k=some f)&&unC s fs a
 |_,_=>false
def QU(s:Sto):∀(fs:List Int) (a:List (List Nat)),fs.length≠a.length->unC s fs a=false
 |f::fs,k::a,h=>by unfold unC;rw[QU s fs a (by simpa using h),vV]
 |[],_::_,_=>rfl
 |_::_,[],_=>rfl
theorem OkS.cur{Q:List Nat->Prop}{s:Sto}(H:OkS Q s)(k:List Nat):∃o f z:Int,(∀e bx n h b N,StAt bx n b s N->Gxz 27 [.ref b 0,vs k,vi s.m] ⟨e,bx,n,h⟩ ⟨e,bx,n,h⟩ (.tup [vi o,vi f,vi z])) /\
  Gxx 30 [.agg (stF s),vs k,vi s.m] (.tup [vi o,vi f,vi z])/\Go.Proofs.YtopbmdnbdpjheaaGreat.cur s k=if z=0 then some f else none:=by
 have a:=ut s H.m.1
 cases hk:(lkA k s.m s.bi).2
 .exact⟨0,0,8,fun e bx n h b N c=>PQ e bx n h c H.sml k s.m a hk,Oa s H.sml k s.m hk a,by rw[aee hk];rfl⟩
 .obtain⟨i,x,_,h,_⟩:=H.at hk;exact⟨_,_,0,fun e bx n d b N c=>KF e bx n d c H.sml H.on k s.m i x a h,Hg s H.sml k s.m i x h a,by rw[TE h];rfl⟩
def TQ{s:Sto}{fs:List Int}{k:List (List Nat)}{i:Nat}(h:i<k.length)(h2:fs.length=k.length):unC s (fs.drop i) (k.drop i)=(decide (cur s (k.getD i [])=some (fs.getD i 0))&&unC s (fs.drop (i+1)) (k.drop (i+1))):=by rw[zx h,zx (show i<fs.length by omega),gW,dY h,gW,dY (show i<fs.length by omega)];rfl
def PH{Q:List Nat->Prop}{s:Sto}(H:OkS Q s)(a:List (List Nat))(fs:List Int)(M:List V)(v:V)(l:M[3]?=some v)(hv:v = .sl .fz 1 (fs.map vi)\/(v=nls/\fs=[]))(hk:a.length<=1000)(hf:fs.length<=1000)(e:Nat->V)(bx:Bx)(n:Nat)(h:Nat->V){b:Nat}{N:SN}(y:StAt bx n b s N) :
  Gxz 13 [.ref b 0,.agg M,.sl .fz 1 (ssV a)] ⟨e,bx,n,h⟩ ⟨e,bx,n,h⟩ (vb (unC s fs a)):=by
 refine GoodZ.rd (r:=vb (unC s fs a)) (only (N.D b) bx) y.fr rfl ?_ e bx h (fun b x hb=>(iC hb).2)
 intro e bx' h u hB U hb
 have y:=y.on hb
 refine⟨n+1,upd bx' n (some (62,M)),fun k hk=>aV _ _ _ _ Om,?_⟩
 have R:=y.up (az n) (some (62,M))
 have P:=R.look fun e m h A=>KC e _ m h A
 generalize u:unC s fs a=E
 have d:(fs.map vi).length=fs.length:=aj ..
 have p:(ssV a).length=a.length:=aj ..
 by_cases hl:fs.length=a.length
 case neg =>
  rw[QU s fs a hl]at u
  subst u
  have I:((a.length:Int)=(fs.length:Int))=False:=eq_false Om
  rcases hv with rfl|⟨rfl,rfl⟩
  .refine gZ oW ?_
   (repeat' first|refine wQ (Ag @aK @aH @aG l d p I) ?_|refine tS ?_ ?_<;>intro j|fail)
   (refine iL (by first|rfl|skip) (by first|omega|skip))
  .have J:((a.length:Int)=0)=False:=eq_false (by simp at hl;omega)
   refine gZ oW ?_
   (repeat' first|refine wQ (Af @aK @aH @aG l p J) ?_|refine tS ?_ ?_<;>intro j|fail)
   (refine iL (by first|rfl|skip) (by first|omega|skip))
 rcases hv with rfl|⟨rfl,rfl⟩
 case inr =>
  have:a=[]:=kJ (by simpa using hl.symm)
  subst this
  subst u
  refine gZ oW ?_
  (repeat' first|refine wQ (Ad @aK @aH @aG l) ?_|refine tS ?_ ?_<;>intro j|fail)
  refine tu 0 ?_
  (repeat' first|refine wQ (Ac @pgu @aH @aG) ?_|refine tS ?_ ?_<;>intro j|fail)
  (refine iL (by first|rfl|skip) (by first|omega|skip))
 refine gZ oW ?_
 (repeat' first|refine wQ (Ag @aK @aH @aG l d p @hl) ?_|refine tS ?_ ?_<;>intro j|fail)
 refine rF (ι:=Nat) (fun i=>[(0,.ref b 0),(4,.ref n 0),(18,.sl .fz 1 (ssV a)),(19,vi a.length),(20,vi i)]) (fun _=>upd bx' n (some (62,M))) (fun _=>n+1) (fun _=>bM e h) (fun i=>i<=a.length/\unC s (fs.drop i) (a.drop i)=E) (fun i=>a.length-i) 0 ?_ (fun _=>.inl rfl) (az _) rfl ⟨ax _,u⟩ ?_
 .exact eE
 rintro i ⟨hi,he⟩
 rcases au i a.length with q|S
 .have c:((i:Int)<(a.length:Int))=True:=eq_true Om;have C:=DL a i q;have F:=EN fs i Om;obtain⟨o,f,z,t,_,T⟩:=H.cur (a.getD i []);have t:=R.look fun e m h A=>t e _ m h b N A
  rw[TQ q hl,T]at he;by_cases K:z=0
  .subst K;rw[ah rfl]at he;by_cases g:f=fs.getD i 0
   .rw[g,eU rfl,qi]at he;rw[g]at t;(repeat' first|refine wEX (Ah @aH @aG @bW l d C F c) (aI P t) ?_|refine tE ?_ ?_<;>intro j|fail);refine qo (i+1) ⟨q,he⟩ (by show a.length-(i+1)<a.length-i;omega) ?_ (fun _=>.inl rfl) (az _) rfl;((try simp only[lu,lw,jQ,kW,pgo,simprocAttr,jb,lN]);try(repeat'(first|exact ae|rfl|apply aI)))
   .rw[dK (by simpa using g),nH]at he;subst he;have G:(f=fs.getD i 0)=False:=eq_false g;(repeat' first|refine wEX (A8 @aH @aG @bW l d C F c G) (aI P t) ?_|refine tE ?_ ?_<;>intro j|fail);(refine iL (by first|rfl|skip) (by first|omega|skip))
  .rw[ag K,dK Aa,nH]at he;subst he;have L:(z=0)=False:=eq_false K;(repeat' first|refine wEX (A8 @aH @aG @bW l d C F c L) (aI P t) ?_|refine tE ?_ ?_<;>intro j|fail);(refine iL (by first|rfl|skip) (by first|omega|skip))
 .have:i=a.length:=Om;subst this;have c:((a.length:Int)<(a.length:Int))=False:=eq_false Om;rw[BF Om,jM]at he;subst he;(repeat' first|refine wQ (Ac @aH @aG c) ?_|refine tS ?_ ?_<;>intro j|fail);(refine iL (by first|rfl|skip) (by first|omega|skip))
def Vd{Q:List Nat->Prop}{s:Sto}(H:OkS Q s)(k:List (List Nat))(fs:List Int)(M:List V)(v:V)(j:M[3]?=some v)(hv:v = .sl .fz 1 (fs.map vi)\/(v=nls/\fs=[]))(hk:k.length<=1000)(hf:fs.length<=1000) :
  Gxx 14 [.agg (stF s),.agg M,.sl .fz 1 (ssV k)] (vb (unC s fs k)):=by
 generalize m:unC s fs k=E
 have b:(fs.map vi).length=fs.length:=aj ..
 have a:(ssV k).length=k.length:=aj ..
 by_cases hl:fs.length=k.length
 case neg =>
  rw[QU s fs k hl]at m
  subst m
  have t:((k.length:Int)=(fs.length:Int))=False:=eq_false Om
  rcases hv with rfl|⟨rfl,rfl⟩
  .refine gI oW ?_
   (repeat' first|refine wQ (Ad j b a t) ?_|refine tS ?_ ?_<;>intro g|fail)
   exact rE []
  .have u:((k.length:Int)=0)=False:=eq_false (by simp at hl;omega)
   refine gI oW ?_
   (repeat' first|refine wQ (Ac j a u) ?_|refine tS ?_ ?_<;>intro g|fail)
   exact rE []
 rcases hv with rfl|⟨rfl,rfl⟩
 case inr =>
  have:k=[]:=kJ (by simpa using hl.symm)
  subst this
  subst m
  refine gI oW ?_
  (repeat' first|refine wQ j ?_|refine tS ?_ ?_<;>intro g|fail)
  refine tu 0 ?_
  (repeat' first|refine wQ @pgu ?_|refine tS ?_ ?_<;>intro g|fail)
  exact rE []
 refine gI (fJ [] mix) ?_
 (repeat' first|refine wU (Af @pgE @aX j b a @hl) ?_|refine tE ?_ ?_<;>intro g|fail)
 refine CX (fun i:Nat=>⟨ja [(2,.sl .fz 1 (ssV k)),(3,.ref 0 0),(4,.ref 1 0),(7,vi i)],upd (upd (fun _=>none) 0 (some (33,stF s))) 1 (some (62,M)),2,fun _=>.top⟩) (fun i=>i<=k.length/\unC s (fs.drop i) (k.drop i)=E) (fun i=>k.length-i) 0 (mJ (lI ?_) (fun c=>.inl rfl) (az _)) ⟨ax _,m⟩ ?_
 .exact eE
 rintro i ⟨hi,he⟩
 rcases au i k.length with l|A
 .have h:((i:Int)<(k.length:Int))=True:=eq_true Om;have n:=DL k i l;have p:=EN fs i Om;obtain⟨o,f,z,_,q,C⟩:=H.cur (k.getD i []);rw[TQ l hl,C]at he;by_cases x:z=0
  .subst x;rw[ah rfl]at he;by_cases d:f=fs.getD i 0
   .rw[d,eU rfl,qi]at he;rw[d]at q;(repeat' first|refine wED (Ah @pgE @aX j b a n p h) q ?_|refine tE ?_ ?_<;>intro g|fail);refine wz (i+1) ⟨l,he⟩ (by show k.length-(i+1)<k.length-i;omega) (mJ (lI ?_) (fun c=>.inl rfl) (az _));((try simp only[lu,lw,jQ,kW,pgo,simprocAttr,jb,lN]);try(repeat'(first|exact ae|rfl|apply aI)))
   .rw[dK (by simpa using d),nH]at he;subst he;have r:(f=fs.getD i 0)=False:=eq_false d;(repeat' first|refine wED (A8 @pgE @aX j b a n p h r) q ?_|refine tE ?_ ?_<;>intro g|fail);exact rE []
  .rw[ag x,dK Aa,nH]at he;subst he;have y:(z=0)=False:=eq_false x;(repeat' first|refine wED (A8 @pgE @aX j b a n p h y) q ?_|refine tE ?_ ?_<;>intro g|fail);exact rE []
 .have:i=k.length:=Om;subst this;have h:((k.length:Int)<(k.length:Int))=False:=eq_false Om;rw[BF Om,jM]at he;subst he;(repeat' first|refine wU (Ad @pgE @aX a h) ?_|refine tE ?_ ?_<;>intro g|fail);exact rE []
abbrev prZ:List V:=[.c (.pointer none),y0,y0,y0,y0,y0,y0,y0,y0,y0,yn,yn,yn,y0,yn]
def Jz(a b c d:Int)(k:Nat):g4 [a,b,c,d] k=a\/g4 [a,b,c,d] k=b\/g4 [a,b,c,d] k=c\/g4 [a,b,c,d] k=d:=by grind[g4]
def MV(a:Nat):vCf (cfB a)/\(cfB a).na<=12/\(cfB a).pg<=16384/\(cfB a).pn<=1000/\(cfB a).cm<=1000/\(8<=(cfB a).z/\(cfB a).z<=1024):=by have h1:=Jz 60 12 6 30 (a / 4);have h2:=Jz 8 16 40 200 (a / 16);have h3:=Jz 8 3 2 5 (a / 64);have h4:=Jz 100 6 30 12 (a / 256);unfold vCf cfB;simp only;omega
abbrev st0(c:Cf):Sto:=⟨c,0,0,[],[],[],[]⟩
def OkS.new(Q:List Nat->Prop)(a:Nat):OkS Q (st0 (cfB a)):=by obtain⟨⟨_,h1,h2,h3,h4,h5,_⟩,d,f,g,j,c⟩:=MV a;exact⟨c,f,j,d,g,⟨rZ _,by show 0<=(cfB a).cm;omega⟩,⟨rZ _,rZ _⟩,rZ _,fun i h=>(by cases h),fun b h=>(by cases h),fun b h=>(by cases h),by show(0:Int)<=(cfB a).na;omega,by simp,rZ _,fun o h=>(by cases h),fun o h=>(by cases h),by simp,by show(0:Int)<=(cfB a).pg;omega,fun p h=>(by cases h),fun i h=>(by cases h),fun p h=>(by cases h),by show(0:Int)<=(cfB a).pn;omega⟩
structure PrAt (lo hi hj p b:Nat) (B0:Bx) (s:Sto) (N:SN) (B:Bx) (m:Nat):Prop where
 pj:p<hj
 pn:p<lo\/hi<=p
 jm:hj<=m
 ij:hi<=hj
 hp:B p=some (35,prF b s)
 st:StAt B m b s N
 D:∀k∈N.D b,(lo<=k/\k<hi)\/hj<=k
 fr:∀k,k<hj->(k<lo\/hi<=k)->k≠p->B k=B0 k
theorem PrAt.no{lo hi hj p b:Nat}{B0:Bx}{s:Sto}{N:SN}{B:Bx}{m:Nat}(H:PrAt lo hi hj p b B0 s N B m){k:Nat}(h1:k<hj)(h2:k<lo\/hi<=k):k∉N.D b:=fun h=>by have:=H.D k h;omega
theorem PrAt.step{lo hi hj p b:Nat}{B0:Bx}{s u:Sto}{N a:SN}{B c:Bx}{m d:Nat}(H:PrAt lo hi hj p b B0 s N B m)(c1:∀k,k<m->k∉N.D b->c k=B k)(r:m<=d)(j:∀k∈a.D b,k∈N.D b\/m<=k)(l:StAt c d b u a) :
  PrAt lo hi hj p b B0 u a (upd c p (some (35,prF b u))) d:=by
 obtain⟨h1,h2,h3,h4,h5,t,f,n⟩:=H
 have g:∀k∈a.D b,(lo<=k/\k<hi)\/hj<=k:=fun k hk=>by
  rcases j k hk with h|h
  .exact f k h
  .omega
 refine⟨h1,h2,by omega,h4,bW _ _ _,l.of (az _) fun k hk=>aV _ _ _ _ (by have:=g k hk;omega),g,fun k q k2 i => ?_⟩
 rw[aV _ _ _ _ i,c1 k Om (fun h=>by have:=f k h;omega)]
 exact n k q k2 i
def aaq{Q:List Nat->Prop}(hQ:∀l,(dw (jJ l)).length<=65536->Q (dw (jJ l)))(a:Nat){l:List Int}(hl:l.length<=9223372036854775807)(e:Nat->V)(bx:Bx)(n:Nat)(h:Nat->V) :
  GoodE Tryz.prog 7 [.agg (cfF (cfB a)),fzi l] ⟨e,bx,n,h⟩ (Chg e bx n h [] (fun bx' n' r=>∃(b:Nat) (N:SN) (s:Sto),OkS Q s/\s.c=cfB a /\
   (l.length=1->atN l 0%8<=2->OkC (st0 (cfB a)) (nmB (atN l 0 / 8)) (dw (jJ l))->s=fD (st0 (cfB a)) (nmB (atN l 0 / 8)) (dw (jJ l)))/\r = .tup [.agg (prF b s),vb true]/\n<=n'/\(∀k∈N.D b,n<=k)/\StAt bx' n' b s N)):=by
 have Z:=ahN (cfB a) (MV a).1
 have hO:=OkS.new Q a
 have j:=bV l
 generalize g:cfB a=c at *
 have hv:vCf c:=by rw[<-g];exact(MV a).1
 have G:(n=n+1)=False:=eq_false Om
 have I:(n+1=n)=False:=eq_false Om
 refine lg (fJ [1,10] mix) Tryz.func7 rfl Tryz.results7 rfl Za (fP Za) ?_
 (repeat' first|refine wU (Ag @pgE @aX @aK @bu @bz G I) ?_|refine tE ?_ ?_<;>intro g|fail)
 refine qR rfl (aok _ _ _ _ c hv) rfl ?_
 rintro s' r ⟨B1,d,rfl,c1,b,N,rfl,c2,S,F⟩
 have z0:=c1 n Om Aa
 have R:=c1 (n+1) Om Aa
 simp only[upd,G,I,if_true,if_false]at z0 R
 have hbn:=F.lt.1
 have hbl:=S b (by simp[SN.D])
 have e3:(d=n)=False:=eq_false Om
 have e4:(d=n+1)=False:=eq_false Om
 have e5:(n=d)=False:=eq_false Om
 have e6:(n+1=d)=False:=eq_false Om
 have e7:(d=d+1)=False:=eq_false Om
 have e8:(d+1=d)=False:=eq_false Om
 (repeat' first|refine wED (A8 @pgE @aX @bu @bz G I @e3 @e4 (Af @e5 @e6 @e7 @e8 @z0 R)) Z ?_|refine tE ?_ ?_<;>intro g|fail)
 obtain⟨B0,f⟩:∃B0:Bx,B0=upd B1 d (some (33,stF (st0 c))):=⟨_,rfl⟩
 refine CX (ι:=Sto×SN×Bx×Nat×Nat) (fun y=>⟨ja [(1,fzi l),(4,.ref (n+1) 0),(10,.ref (d+1) 0),(11,vi y.2.2.2.2)],y.2.2.1,y.2.2.2.1,bM e h⟩) (fun y=>(OkS Q y.1/\y.1.c=c/\y.2.2.2.2<=8/\y.2.2.2.2<=l.length/\(y.2.2.2.2=0->y.1=st0 c)/\(y.2.2.2.2=1->atN l 0%8<=2->OkC (st0 c) (nmB (atN l 0 / 8)) (dw (jJ l))->y.1=fD (st0 c) (nmB (atN l 0 / 8)) (dw (jJ l))))/\PrAt (n+2) d (d+2) (d+1) b B0 y.1 y.2.1 y.2.2.1 y.2.2.2.1) (fun y=>l.length-y.2.2.2.2) (st0 c,N,upd B0 (d+1) (some (35,prF b (st0 c))),d+2,0) (mJ (lI ?_) (fun k=>.inl ?_) (az _)) ⟨⟨hO,rfl,ax _,ax _,fun _=>rfl,fun h=>by cases h⟩,?_⟩ ?_
 .exact eE
 .rw[f];simp only[upd];(repeat' split)<;>first|rfl|omega
 .show PrAt (n+2) d (d+2) (d+1) b B0 (st0 c) N (upd B0 (d+1) (some (35,prF b (st0 c)))) (d+2);refine⟨by omega,.inr Om,az _,by omega,bW _ _ _,F.of Om fun k hk => ?_,fun k hk=>.inl ⟨S k hk,F.ltD k hk⟩,fun k Z k2 k3=>aV _ _ _ _ k3⟩;have:=F.ltD k hk;rw[aV _ _ _ _ Om,f,aV _ _ _ _ Om]
 rintro⟨s,N2,B2,m2,i⟩ ⟨⟨J,m,L,A,v,x⟩,H⟩
 simp only at J m L A v x H
 have hp:=H.hp
 by_cases K:i<8/\i<l.length
 .obtain⟨W,X⟩:=K;have C:((i:Int)<8)=True:=eq_true Om;have P:((i:Int)<(l.length:Int))=True:=eq_true Om;obtain⟨u,Y,t,kC⟩:=aao J hl X Om (hQ _);(repeat' first|refine wU (Ah @pgE @aX @bu @bz j C P @hp) ?_|refine tE ?_ ?_<;>intro g|fail);refine qR rfl (kC _ _ _ _ _ _ H.st) rfl ?_;rintro s' r ⟨B3,m3,rfl,T,rfl,d2,N3,d3,d4⟩;have M:=(T (d+1) (by have:=H.jm;omega) (H.no Om (.inr Om))).trans hp;(repeat' first|refine wU (Ae @pgE @aX @bu @bz M) ?_|refine tE ?_ ?_<;>intro g|fail);refine wz (u,N3,upd B3 (d+1) (some (35,prF b u)),m3,i+1) ⟨⟨Y.ok,Y.c.trans m,W,X,fun h=>absurd h (Nat.succ_ne_zero i),fun h q1 q2 => ?_⟩,H.step T d2 d3 d4⟩ (by show l.length-(i+1)<l.length-i;omega) (mJ (lI ?_) (fun k=>.inl rfl) (az _))
  .have:i=0:=by have h:i+1=1:=h;omega
   subst this;rw[v rfl]at t;exact t q1 q2
  .exact eE
 .have p:=H.fr (n+1) Om (.inl Om) Om;rw[f,aV _ _ _ _ Om,R]at p;have U:(n+1=d+1)=False:=eq_false Om
  have fin:∀(E:Bx),(∀k,k≠n+1->E k=B2 k)->Chg e bx n h [] (fun bx' n' r=>∃(b:Nat) (N:SN) (s:Sto),OkS Q s/\s.c=c/\(l.length=1->atN l 0%8<=2->OkC (st0 c) (nmB (atN l 0 / 8)) (dw (jJ l))->s=fD (st0 c) (nmB (atN l 0 / 8)) (dw (jJ l)))/\r = .tup [.agg (prF b s),vb true]/\n<=n'/\(∀k∈N.D b,n<=k)/\StAt bx' n' b s N) ⟨e,E,m2,h⟩ (.tup [.agg (prF b s),vb true]):=fun E q=>by
   have:=H.jm;refine⟨E,m2,rfl,fun k hk _ => ?_,b,N2,s,J,m,fun h1=>x Om,rfl,by omega,fun k hk => ?_,H.st.of (az _) fun k hk=>q k ?_⟩
   .rw[q k Om,H.fr k Om (.inl Om) Om,f,aV _ _ _ _ Om,c1 k Om Aa];simp only[upd];repeat rw[ag Om]
   .have:=H.D k hk;omega
   .have:=H.D k hk;omega
  by_cases W:i<8
  .have C:((i:Int)<8)=True:=eq_true Om;have P:((i:Int)<(l.length:Int))=False:=eq_false Om;(repeat' first|refine wU (A8 @pgE @aX @bu @bz j C P @hp (aI p U)) ?_|refine tE ?_ ?_<;>intro g|fail);refine kz (fin _ fun k hk=>aV _ _ _ _ hk) (ng ?_ (aP _ _) (aQ _ _) rfl (az _));simp(disch:=first|exact dqz|fail) only[pgz,simprocAttr,pgr]
  .have C:((i:Int)<8)=False:=eq_false Om;(repeat' first|refine wU (A8 @pgE @aX @bu @bz j C @hp p U) ?_|refine tE ?_ ?_<;>intro g|fail);refine kz (fin _ fun k hk=>aV _ _ _ _ hk) (ng ?_ (aP _ _) (aQ _ _) rfl (az _));simp(disch:=first|exact dqz|fail) only[pgz,simprocAttr,pgr]
def aod{s:Sto}(u:Sml s)(c:Int)(hp:vPn s.pi)(hl:plP c s.pi<s.pi.length)(hk:(s.pi.getD (plP c s.pi) (0,0)).1=c)(fs:List Int)(X Y:Sk)(a:List V)(p:a=skZ\/a=skF Y) :
  Pgm 23 [.agg (mcF c true fs (skF X) a)] s {s with pi:=uh c s.pi} (.agg (mcF c false fs (skF X) a)):=by
 intro e bx n h b N H
 have d:(n=n+1)=False:=eq_false Om
 have f:(n+1=n)=False:=eq_false Om
 have q:=H.lt.1
 rcases p with rfl|rfl
 all_goals
  refine lg (fJ [2] mix) Tryz.func23 rfl Tryz.results23 rfl Za (fP Za) ?_
  (repeat' first|refine wU (Ag @pgE @aX @aK @bu @bz d f) ?_|refine tE ?_ ?_<;>intro t|fail)
  refine qR rfl (aoD _ _ _ _ (H.of (n':=n+1+1) Om fun k hk => ?_) u c hp hl hk) rfl ?_
  .have:=H.ltD k hk
   simp only[upd]
   repeat rw[ag Om]
  rintro s' r ⟨x,v,rfl,c1,rfl,y,N',g,i⟩
  have j:=c1 n Om fun hm=>by have:=H.ltD n hm;omega
  have l:=c1 (n+1) Om fun hm=>by have:=H.ltD (n+1) hm;omega
  simp only[upd,d,f,if_true,if_false]at j l
  (repeat' first|refine wU (Ah @pgE @aX @bu @bz d f j l) ?_|refine tE ?_ ?_<;>intro t|fail)
  refine kz (SMod.here (B:=_) (m:=v) (N':=N') Om (fun k hk => ?_) (i.of Om fun k hk => ?_) fun k A k2 => ?_) (ng ?_ (aP _ _) (aQ _ _) rfl (az _))
  .rcases g k hk with h|h
   .exact .inl h
   .exact .inr Om
  .have h1:=i.ltD k hk
   have h2:k<n\/n+2<=k:=(g k hk).imp (H.ltD k) id
   simp only[upd]
   repeat rw[ag Om]
  .simp only[upd]
   repeat rw[ag Om]
   rw[c1 k Om k2]
   simp only[upd]
   repeat rw[ag Om]
  .simp(disch:=first|exact dqz|fail) only[pgz,simprocAttr,pgr]
   first|done|rfl
def UL{id:Nat}{l:List V}(h:∀w∈l,w.ownless=true):l.map (Go.Pg.frz id)=l:=by
 conv=>rhs;rw[<-List.map_id l]
 grind[UM,List.map_congr_left]
theorem StAt.ownless{bx:Bx}{n b:Nat}{s:Sto}{N:SN}(H:StAt bx n b s N):∀k∈N.D b,∀x,bx k=some x->∀w∈x.2,w.ownless=true:=by
 intro k hk x hx w a;simp[SN.D,fG]at hk;rcases hk with rfl|rfl|hk
 .rw[H.hb]at hx;cases hx
  simp at a;rcases a with rfl|rfl|rfl|rfl|rfl|rfl|rfl|rfl|rfl|rfl|rfl|rfl|rfl<;>rfl
 .rw[H.ho]at hx;cases hx
  simp[mpC,fG]at a;rcases a with rfl|rfl|a
  .rfl
  .rfl
  .have:∀l:List (Int×V×Nat),(∀x∈l,x.2.1.ownless=true)->∀w∈mpF (iM l),w.ownless=true:=by
    intro l
    induction l with
    |nil=>intro _ w a;cases a
    |cons y r i =>
     intro h w a;simp[iM,dm,mpF,fG]at a;rcases a with rfl|rfl|rfl|a
     .rfl
     .grind
     .rfl
     .exact i (fun x hx=>h x (by simp[hx])) w a
   refine this _ (fun x hx => ?_) w a;simp only[oM,dP]at hx;obtain⟨z,_,rfl⟩:=hx;rfl
 .exact H.hA.ownless k hk x hx w a
def Q3{env:Nat->V}{B:Bx}{m:Nat}{X:List (Nat×V)}(D:List Nat)(id:Nat)(b:∀k∈D,∀x,B k=some x->x.2.map (Go.Pg.frz id)=x.2)(he:BL (bD (Go.Pg.frz id) env) X):Weak ⟨env,B,m,bM (fun _=>.top) (fun _=>.top)⟩ ⟨ja X,only D B,m,bM (fun _=>.top) (fun _=>.top)⟩:=by
 have d:bD (Go.Pg.frz id) (bM (fun _=>.top) (fun _=>.top))=bM (fun _=>.top) (fun _=>.top):=by funext t;simp only[bD,bM];split<;>rfl
 refine(DW (id:=id) d).trans (Gg he (fun c a h => ?_) (az _));obtain⟨h1,h2⟩:=iC h;refine⟨a,?_,rfl,rY _⟩;show(B c).map (fun x=>(x.1,x.2.map (Go.Pg.frz id)))=some a;rw[h2];exact mV some (Prod.ext rfl (b c h1 a h2))
theorem Fe{D:List Nat}{B:Bx}{k:Nat}(h:k∈D):only D B k=B k:=ah h
def anG(s:Sto):Pgm 9 [nls] s s (.tup [.agg mcZ,vi 5]):=by
 intro e bx n h b N H;refine lg (fJ [] mix) Tryz.func9 rfl Tryz.results9 rfl Za (fP Za) ?_;(repeat' first|refine wU (Ae @pgE @aX @aK @bu @bz) ?_|refine tE ?_ ?_<;>intro a|fail);refine kz (SMod.here (B:=_) (m:=n+1) (N':=N) Om (fun k hk=>.inl hk) (H.of Om fun k hk => ?_) fun k c k2 => ?_) (ng ?_ (aP _ _) (aQ _ _) rfl (az _))
 .have:=H.ltD k hk;simp only[upd];repeat rw[ag Om]
 .simp only[upd];repeat rw[ag Om]
 .simp(disch:=first|exact dqz|fail) only[pgz,simprocAttr,pgr]
def ail{Q:List Nat->Prop}(hQ:∀l,(dw (jJ l)).length<=65536->Q (dw (jJ l)))(Z:∀d,Q d->oct d/\d.length<=65536):Gxx 15 [] (vb true):=by
 refine GoodE.good ?_
 have k1:=U4 0
 have hml:∀e bx n h,GoodE Tryz.prog 7 [.agg (cfF (cfB 0)),fzi [0]] ⟨e,bx,n,h⟩ _:=aaq hQ 0 (l:=[0]) dX
 have d0:=aes
 have A:OkC (st0 (cfB 0)) (nmB (atN [0] 0 / 8)) (dw (jJ [0])):=⟨by omega,rfl,by decide,by decide,by
  have:nPg 8 (dw (jJ [0]))<=60:=by unfold nPg;omega
  show((0:Nat):Int)+(nPg 8 _:Nat)<=60
  omega⟩
 refine lg (fJ [1,4,5,6] mix) Tryz.func15 rfl Tryz.results15 rfl Za (fP Za) ?_
 (repeat' first|refine wED (Ae @pgE @aX @aK @bu @bz) k1 ?_|refine tE ?_ ?_<;>intro H|fail)
 refine Jg ⟨ja [(8,.agg (cfF (cfB 0))),(9,fzi [0])],only ([]) _,1,bM (fun _=>.top) (fun _=>.top)⟩ (Q3 [] 0 (fun k h=>by cases h) ?_) rfl (hml _ _ _ _) rfl ?_
 .simp only[zF,zG,pgo,simprocAttr,jb,yt,if_true,ql]
  exact⟨dJ _,dJ _⟩
 rintro s' r ⟨B1,a,rfl,c1,b,N,s,P,hsc,I,rfl,c2,c3,G⟩
 have R:=I rfl dX A
 have a1:(lkA [97] s.m s.bi).2=true:=by rw[R];decide +kernel
 have L:s.pi=[]:=by rw[R];rfl
 have a3:s.c.pn=8:=by rw[R];rfl
 clear R I A d0 c1
 obtain⟨u,z,Y,_,S,_,E,hz⟩:=ML P
 have hz:=hz (by rw[L,a3];decide)
 subst hz
 have E:=E rfl
 obtain⟨i,x,d,ha,hd,hv,hp⟩:=P.see a1
 have kB:=Po P Z ha hd hv hp u 0 S
 rw[ah rfl]at kB
 have hcu:unC u [(verOf s i x).f] [[97]]=true:=by
  have:cur u [97]=some (verOf s i x).f:=by rw[E];exact TE (s:=s) ha
  simp[unC,this]
 have hE:∀X:Sk,Pgm 23 [.agg (mcF s.m true [(verOf s i x).f] (skF X) skZ)] u s (.agg (mcF s.m false [(verOf s i x).f] (skF X) skZ)):=fun X=>by
  have hge:∀p∈s.pi,1<=p.2:=fun p h=>by rw[L]at h;cases h
  obtain⟨p1,p2,p3⟩:=X8 (c:=s.m) hge
  have:=aod Y.ok.sml s.m Y.ok.iv (by rw[E];exact p1) (by rw[E];exact p2) [(verOf s i x).f] X X skZ (.inl rfl)
  rw[E]at this⊢
  simp only[p3]at this
  exact this
 have hP:sumP s.pi s.pi.length=0:=by rw[L];rfl
 generalize(verOf s i x).f=f at *
 generalize(fA d).1=X at *
 have hbn:=G.lt.1
 have e1:(a=a+1)=False:=eq_false Om
 (repeat' first|refine wU (Ad @pgE @aX @bu @bz) ?_|refine tE ?_ ?_<;>intro H|fail)
 refine qR rfl (anG s _ _ _ _ b N (G.of (n':=a+1) Om fun k hk => ?_)) rfl ?_
 .have:=G.ltD k hk
  simp only[upd]
  repeat rw[ag Om]
 rintro s' r ⟨B2,T,rfl,d1,rfl,d2,K,d3,W⟩
 have U:=d1 a Om fun hm=>by have:=G.ltD a hm;omega
 simp only[upd,if_true]at U
 have e2:(a=T)=False:=eq_false Om
 have t:∀k∈K.D b,k<T/\k≠a:=fun k hk=>⟨W.ltD k hk,by
  rcases d3 k hk with h|h
  .have:=G.ltD k h;omega
  .omega⟩
 (repeat' first|refine wU (Af @pgE @aX @bu @bz U @e2) ?_|refine tE ?_ ?_<;>intro H|fail)
 refine Jg ⟨ja [(1,.ref a 0),(4,vi 5),(23,.ref b 0),(24,.sl .fz 1 (ssV [[97]]))],only (a::K.D b) _,T+1+1,bM (fun _=>.top) (fun _=>.top)⟩ (Q3 (a::K.D b) (T+1) (fun k hk y j => ?_) ?_) rfl (kB _ _ _ _ b K (W.of Om fun k hk => ?_)) rfl ?_
 .simp only[upd]at j
  rcases fG.1 hk with rfl|hk
  .repeat rw[ag Om]at j
   rw[U]at j
   cases j
   rfl
  .have:=t k hk
   repeat rw[ag Om]at j
   exact UL (W.ownless k hk y j)
 .simp only[zF,zG,pgo,simprocAttr,jb,yt,if_true,ql]
  exact⟨dJ _,dJ _,dJ _,dJ _⟩
 .have:=t k hk
  rw[Fe (DZ _ hk)]
  simp only[upd]
  repeat rw[ag Om]
 rintro s' r ⟨B3,g,rfl,f1,rfl,f2,C,f3,M⟩
 have J:=(f1 a Om fun hm=>(t a hm).2 rfl).trans (Fe (List.mem_cons_self ..))
 simp only[upd,e2,if_false]at J
 rw[U]at J
 have e3:(a=g)=False:=eq_false Om
 have v:∀k∈C.D b,k<g/\k≠a:=fun k hk=>⟨M.ltD k hk,by
  rcases f3 k hk with h|h
  .exact(t k h).2
  .omega⟩
 (repeat' first|refine wU (Af @pgE @aX @bu @bz J @e3) ?_|refine tE ?_ ?_<;>intro H|fail)
 refine Jg (φ:=fun s2 r2=>s2=_/\r2=vb true) ⟨ja [(1,.ref a 0),(5,.ref g 0),(44,.c (.bool true)),(46,.ref b 0),(47,.agg (mcF s.m true [f] (skF X) skZ)),(48,.sl .fz 1 (ssV [[97]]))],only (a::g::C.D b) _,g+1+1,bM (fun _=>.top) (fun _=>.top)⟩ (Q3 (a::g::C.D b) (g+1) (fun k hk y j => ?_) ?_) rfl (GoodZ.e' Za (by
  have:=PH Y.ok [[97]] [f] (mcF s.m true [f] (skF X) skZ) _ rfl (.inl rfl) Aa Aa (ja [(1,.ref a 0),(5,.ref g 0),(44,.c (.bool true)),(46,.ref b 0),(47,.agg (mcF s.m true [f] (skF X) skZ)),(48,.sl .fz 1 (ssV [[97]]))]) (only (a::g::C.D b) (upd (upd B3 g (some (62,mcZ))) g (some (62,mcF s.m true [f] (skF X) skZ)))) (g+1+1) (bM (fun _=>.top) (fun _=>.top)) (M.of Om fun k hk => ?_)
  rw[hcu]at this
  exact this
  have:=v k hk
  rw[Fe (DZ _ (DZ _ hk))]
  simp only[upd]
  repeat rw[ag Om])) rfl ?_
 .simp only[upd]at j
  rcases fG.1 hk with rfl|hk
  .repeat rw[ag Om]at j
   rw[J]at j
   cases j
   rfl
  rcases fG.1 hk with rfl|hk
  .rw[ah rfl]at j
   cases j
   rfl
  .have:=v k hk
   repeat rw[ag Om]at j
   exact UL (M.ownless k hk y j)
 .simp only[zF,zG,pgo,simprocAttr,jb,yt,if_true,ql]
  exact⟨dJ _,dJ _,dJ _,dJ _,dJ _,dJ _⟩
 rintro s' r ⟨rfl,rfl⟩
 obtain⟨F,q⟩:∃F:Bx,F=only (a::g::C.D b) (upd (upd B3 g (some (62,mcZ))) g (some (62,mcF s.m true [f] (skF X) skZ))):=⟨_,rfl⟩
 rw[<-q]
 have g1:F a=some (35,prF b s):=by
  rw[q,Fe (List.mem_cons_self ..)]
  simp only[upd,e3,if_false]
  exact J
 have g2:F g=some (62,mcF s.m true [f] (skF X) skZ):=by
  rw[q,Fe (DZ _ (List.mem_cons_self ..))]
  simp only[upd,if_true]
 have g3:StAt F (g+1+1) b u C:=M.of Om fun k hk=>by
  have:=v k hk
  rw[q,Fe (DZ _ (DZ _ hk))]
  simp only[upd]
  repeat rw[ag Om]
 (repeat' first|refine wU (Af @pgE @aX @bu @bz @g1 @g2) ?_|refine tE ?_ ?_<;>intro H|fail)
 refine qR rfl (hE X _ _ _ _ b C g3) rfl ?_
 rintro s' r ⟨B5,n5,rfl,h1,rfl,h2,N5,h3,h4⟩
 have g5:=(h1 a Om fun hm=>(v a hm).2 rfl).trans g1
 have S:=fun B m (HB:StAt B m b s N5)=>HB.look fun e m h H'=>PE e B m h H' (by rw[L];decide) P.iv
 rw[hP]at S
 (repeat' first|refine wU (Ae @pgE @aX @bu @bz @g5) ?_|(refine tC ?_;refine oC _ ((S _ _ h4)) rfl ?_)|refine tE ?_ ?_<;>intro H|fail)
 exact kz (s':=⟨fun _=>.top,B5,n5,fun _=>.top⟩) (r:=vb true) rfl (ng (aW _ _ _) (aP _ _) (aQ _ _) rfl (az _))
theorem Si(n:Int):bits .and .i64 n 63=n%64:=qm n 6 dX
structure McV (M:List V) (fs:List Int):Prop where
 len:M.length=71
 v:M[3]?=some (.sl .fz 1 (fs.map vi))\/(M[3]?=some nls/\fs=[])
 fl:fs.length<=3
 one:M.all V.one=true
 form:M=mcZ\/(∃(m:Int) (b:Bool) (X:Sk),M=mcF m b fs (skF X) skZ)\/∃(m:Int) (b:Bool) (X Y:Sk),M=mcF m b fs (skF X) (skF Y)
def WN(m:Int)(b:Bool)(fs:List Int)(X:Sk)(Y:List V)(hf:fs.length<=3)(h:Y=skZ\/∃Z:Sk,Y=skF Z):McV (mcF m b fs (skF X) Y) fs:=by
 rcases h with rfl|⟨Z,rfl⟩
 .exact⟨rfl,.inl rfl,hf,rfl,.inr (.inl ⟨m,b,X,rfl⟩)⟩
 .exact⟨rfl,.inl rfl,hf,rfl,.inr (.inr ⟨m,b,X,Z,rfl⟩)⟩
def CZ:McV mcZ []:=⟨rfl,.inr ⟨rfl,rfl⟩,by decide,rfl,.inl rfl⟩
def amP(a:Nat):(qy a).length<=3:=by grind[qy]
def McV.un{M:List V}{fs:List Int}(d:McV M fs){Q:List Nat->Prop}{s:Sto}(H:OkS Q s)(a:Nat) :
  (∀e bx n h b N,StAt bx n b s N->Gxz 13 [.ref b 0,.agg M,.sl .fz 1 (ssV (qy a))] ⟨e,bx,n,h⟩ ⟨e,bx,n,h⟩ (vb (unC s fs (qy a)))) /\
  Gxx 14 [.agg (stF s),.agg M,.sl .fz 1 (ssV (qy a))] (vb (unC s fs (qy a))):=by
 have hl:=amP a
 have hf:=d.fl
 rcases d.v with hv|⟨hv,rfl⟩
 .exact⟨fun e bx n h b N c=>PH H _ _ M _ hv (.inl rfl) Om Om e bx n h c,Vd H _ _ M _ hv (.inl rfl) Om Om⟩
 .exact⟨fun e bx n h b N c=>PH H _ _ M _ hv (.inr ⟨rfl,rfl⟩) Om Om e bx n h c,Vd H _ _ M _ hv (.inr ⟨rfl,rfl⟩) Om Om⟩
def abT{Q:List Nat->Prop}{s:Sto}(H:OkS Q s)(b:∀d,Q d->oct d/\d.length<=65536)(a:Nat):∃(u:Sto) (z:Int) (M:List V) (fs:List Int),Nx Q s u/\McV M fs /\
  Pgm 9 [.sl .fz 1 (ssV (qy a))] s u (.tup [.agg M,vi z])/\Gxx 11 [.agg (stF s),.sl .fz 1 (ssV (qy a))] (.tup [.agg (stF u),.agg M,vi z]):=by
 unfold qy
 generalize nmB a=v
 generalize nmB (a / 4)=k2
 have hm:=kQ (a / 16) (show 4 > 0 by decide)
 generalize a / 16%4=q at *
 obtain⟨u,z,n,m,r,y,_⟩:=ML H
 have t:z≠0->u=s:=fun h=>y.resolve_left h
 rcases(Om:q=0\/q=1\/q=2\/q=3)with rfl|rfl|rfl|rfl
 .exact⟨s,5,mcZ,[],.same H,CZ,XA (.inl rfl),U0 (.inl rfl)⟩
 .cases h1:(lkA v s.m s.bi).2
  .exact⟨s,8,mcZ,[],.same H,CZ,XB H (.inl rfl) h1,U1 H (.inl rfl) h1⟩
  .obtain⟨i,x,d,ha,hd,hv,hp⟩:=H.see h1
   by_cases l:z=0
   .have p:=Po H b ha hd hv hp u z r
    have g:=UY H b ha hd hv hp u z m t
    rw[ah l]at p g
    exact⟨u,z,_,_,n,WN _ _ _ _ _ Aa (.inl rfl),p,g⟩
   .have p:=Po H b ha hd hv hp u z r
    have g:=UY H b ha hd hv hp u z m t
    rw[ag l]at p g
    exact⟨u,z,_,_,n,CZ,p,g⟩
 .cases h1:(lkA v s.m s.bi).2
  .exact⟨s,8,mcZ,[],.same H,CZ,XB H (.inr ⟨_,rfl⟩) h1,U1 H (.inr ⟨_,rfl⟩) h1⟩
  obtain⟨i,x,d,ha,hd,hv,hp⟩:=H.see h1
  cases h2:(lkA k2 s.m s.bi).2
  .exact⟨s,8,mcZ,[],.same H,CZ,anF H b ha hd hv hp h2,agY H b ha hd hv hp h2⟩
  .obtain⟨i2,x2,d2,c,f,k,j⟩:=H.see h2
   by_cases l:z=0
   .have p:=Xy H b ha hd hv hp c f k j u z r
    have g:=UZ H b ha hd hv hp c f k j u z m t
    rw[ah l]at p g
    exact⟨u,z,_,_,n,WN _ _ _ _ _ Aa (.inr ⟨_,rfl⟩),p,g⟩
   .have p:=Xy H b ha hd hv hp c f k j u z r
    have g:=UZ H b ha hd hv hp c f k j u z m t
    rw[ag l]at p g
    exact⟨u,z,_,_,n,CZ,p,g⟩
 .exact⟨s,5,mcZ,[],.same H,CZ,XA (.inr ⟨_,_,_,rfl⟩),U0 (.inr ⟨_,_,_,rfl⟩)⟩
structure KpAt (P:List (Nat × TypeId × List V)) (p b:Nat) (s:Sto) (N:SN) (B:Bx) (m:Nat):Prop where
 pm:p<m
 pD:p ∉ N.D b
 hp:B p=some (35,prF b s)
 st:StAt B m b s N
 kp:∀x∈P,x.1≠p/\x.1<m/\x.1 ∉ N.D b/\B x.1=some x.2
def KpAt.step{P:List (Nat×TypeId×List V)}{p b:Nat}{s u:Sto}{N c:SN}{B a:Bx}{m f:Nat}(H:KpAt P p b s N B m)(c1:∀k,k<m->k∉N.D b->a k=B k)(q:m<=f)(l:∀k∈c.D b,k∈N.D b\/m<=k)(n:StAt a f b u c) :
  a p=some (35,prF b s)/\KpAt P p b u c (upd a p (some (35,prF b u))) f:=by
 obtain⟨h1,h2,h3,h4,h5⟩:=H
 have d:∀k,k<m->k∉N.D b->k∉c.D b:=fun k r k2 hk=>by
  rcases l k hk with h|h
  .exact k2 h
  .omega
 refine⟨(c1 p h1 h2).trans h3,by omega,d p h1 h2,bW _ _ _,n.of (az _) fun k hk=>aV _ _ _ _ (fun e=>d p h1 h2 (e▸hk)),fun x hx => ?_⟩
 obtain⟨g,i,j,g4⟩:=h5 x hx
 exact⟨g,by omega,d _ i j,by rw[aV _ _ _ _ g,c1 _ i j];exact g4⟩
def Zt{S:Nat->Bool}{e:Nat->V}{d:Nat}{v w:V}:∀{T:List (Nat×V)} {k:Nat} (i:Nat),T[i]?=some (d,v)->S (k+i)=false->jL (T.set i (d,w)) k S e=jL T k S e
 |[],_,_,h,_=>by simp at h
 |_::_,_,0,h,c=>by cases h;funext t;rw[List.set_cons_zero,bH,bH];simp_all
 |(a,b)::T,k,i+1,h,c=>by funext t;rw[List.set_cons_succ,bH,bH,Zt i h (by grind)]
def apz{T:List (Nat×V)}{S:Nat->Bool}{e:Nat->V}{bx:Bx}{n:Nat}{h:Nat->V}(i:Nat){d:Nat}{v w:V}(c:S i=false)(a:T[i]?=some (d,v))(h1:(T.set i (d,w))[i]?=some (d,w))(b:((T.set i (d,w)).map (·.1)).Nodup):(⟨upd (jL T 0 S e) d w,bx,n,h⟩:St)=⟨jL (T.set i (d,w)) 0 (ins S i) e,bx,n,h⟩:=by rw[<-ig i h1 b rfl rfl,Zt i a (by grind)]
def Zq{S:Nat->Bool}{e:Nat->V}{d:Nat}:∀{T:List (Nat×V)} {k:Nat} (i:Nat),T[i]?=some (d,e d)->(T.map (·.1)).Nodup->jL T k S e d=e d
 |[],_,_,h,_=>by simp at h
 |_::_,_,0,h,_=>by cases h;rw[bH];simp
 |(a,b)::T,k,i+1,h,c=>by have h1:=List.mem_map_of_mem (f:=(·.1)) (Gp (show T[i]?=_ from h));rw[bH,Zq i h (Gs.1 c).2];grind
theorem apE{T:List (Nat×V)}{S:Nat->Bool}{e:Nat->V}{bx:Bx}{n:Nat}{g:Nat->V}(i:Nat){d:Nat}(h:T[i]?=some (d,e d))(a:(T.map (·.1)).Nodup):(⟨jL T 0 S e,bx,n,g⟩:St)=⟨jL T 0 (ins S i) e,bx,n,g⟩:=by congr 1;rw[<-Zp i S e T 0 d (e d) (ax _) h a];funext t;have:=Zq (S:=S) (k:=0) i h a;grind[upd]
def aiG(c:Int)(l mm:List Int)(n:Int)(hl:l.length<=9223372036854775807)(hm:mm.length<=9223372036854775807):Gxx 3 [vi c,fzi l,fzi mm,vi n] (vb true):=by
 refine GoodE.good ?_;obtain⟨Q,hQ⟩:∃Q:List Nat->Prop,Q=fun d=>oct d/\d.length<=65536:=⟨_,rfl⟩;have hQ1:∀l,(dw (jJ l)).length<=65536->Q (dw (jJ l)):=fun l h=>by rw[hQ];exact⟨(Ny _ (Y0 l)).1,h⟩
 have hQ2:∀d,Q d->oct d/\d.length<=65536:=fun d h=>by rw[hQ]at h;exact h
 clear hQ;have kK:=ail hQ1 hQ2;obtain⟨a0,ha0,hb0⟩:∃a:Nat,bits .and .i64 c 65535=(a:Int)/\a<65536:=⟨_,Sj _,by omega⟩;obtain⟨a1,hn,hb1⟩:∃a:Nat,bits .and .i64 n 63=(a:Int)/\a<64:=⟨(n%64).toNat,by rw[Si];omega,by omega⟩;obtain⟨a2,hn2,hb2⟩:∃a:Nat,bits .and .i64 (n.fdiv (2^min 6 IntKind.i64.bits)) 63=(a:Int)/\a<64:=⟨(n.fdiv (2^min 6 IntKind.i64.bits)%64).toNat,by rw[Si];omega,by omega⟩;have k1:=U4 a0;have kn:=Vj a1 hb1;have kn2:=Vj a2 hb2;have kM:=fun e bx n h=>aaq hQ1 a0 hl e bx n h
 generalize cfB a0=cf at *;refine lg (fJ [1,12] mix) Tryz.func3 rfl Tryz.results3 rfl Za (fP Za) ?_;(repeat' first|refine wED (Af @pgE @aX @aK @bu @bz @ha0) k1 ?_|refine tE ?_ ?_<;>intro hc|fail);refine qR rfl (kM _ _ _ _) rfl ?_;rintro s' r ⟨B1,n1,rfl,c1,b,N,s,hS,hsc,_,rfl,c2,c3,c4⟩;clear c1 kM;obtain⟨u,z,M,fs,hN,hM,kB,kG⟩:=abT hS hQ2 a1;have hML:=hM.len;have hMo:=hM.one;have hbn:=c4.lt.1;generalize hks:qy a1=ks at *;(repeat' first|refine wV (Ad @pgE @aX @bu @bz) ?_|refine tE ?_ ?_<;>intro hc|fail);have HB:StAt (upd (upd B1 n1 (some (35,prZ))) n1 (some (35,prF b s))) (n1+1) b s N:=c4.of Om fun k hk=>by have:=c4.ltD k hk;simp only[upd];repeat rw[ag Om]
 have hpB:upd (upd B1 n1 (some (35,prZ))) n1 (some (35,prF b s)) n1=some (35,prF b s):=bW _ _ _;have hD:∀k∈N.D b,k<n1+1/\k≠n1:=fun k hk=>by have:=c4.ltD k hk;omega
 obtain⟨m0,hm0'⟩:∃m0,m0=n1+1:=⟨_,rfl⟩;rw[<-hm0']at HB hD;have hm0:n1+1<=m0:=Om;have hnd:([28,29,30,31,32,33,27,34,35,11,9999,12]:List Nat).Nodup:=dX;obtain⟨Inv,hInv⟩:∃Inv:(Nat->Bool)->Nat->Bx->Nat->Prop,Inv=fun S q B m=>m0<=m/\B (n1)=some (35,prF b s)/\(S 9=true->m0<=q/\q<m/\B q=some (62,bif S 10 then M else mcZ))/\(S 5=false/\StAt B m b s N/\(∀k∈N.D b,k<m0/\k≠n1)\/S 5=true/\∃N1:SN,StAt B m b u N1/\(∀k∈N1.D b,k≠n1/\(S 9=true->k≠q))):=⟨_,rfl⟩;have hk:∀(S:Nat->Bool) q B m i,5≠i->9≠i->10≠i->Inv S q B m->Inv (ins S i) q B m:=fun S q B m i h1 h2 h3=>by rw[hInv];simp only[iy h1,iy h2,iy h3];exact id
 refine Yu mix (fun q:Nat=>[(28,.ref (n1) 0),(29,.ref b 0),(30,vi n),(31,vi a1),(32,.sl .fz 1 (ssV ks)),(33,.tup [.agg M,vi z]),(27,.tup [.agg M,vi z]),(34,.agg M),(35,vi z),(11,.ref q 0),(9999,.top),(12,vi z)]) Inv 0 (e:=ja [(2,fzi mm),(3,vi n),(9,.ref n1 0)]) (B0:=_) (m0:=m0) (mJ (lI ?_) (fun c=>.inl rfl) ?_) ?_ dX dX ?_ ?_
 .exact eE
 .exact hm0
 .rw[hInv];exact⟨az _,hpB,(fun h=>by cases h),.inl ⟨rfl,HB,hD⟩⟩
 .intro S q B m i o ho hi hS he hcl hI;rcases(by have:i<12:=hi;omega:i=0\/i=1\/i=2\/i=3\/i=4\/i=5\/i=6\/i=7\/i=8\/i=9\/i=10\/i=11)with rfl|rfl|rfl|rfl|rfl|rfl|rfl|rfl|rfl|rfl|rfl|rfl;all_goals(simp only[vX,zy,aO]at ho;subst ho)
  all_goals(have sf:=he;simp[edgesOf,Region.binds]at sf)
  all_goals have q1:=hI
  all_goals rw[hInv]at q1
  all_goals replace q1:=q1.2.1
  all_goals try(simp(disch:=first|exact dqz|fail) only[pgz,simprocAttr,hS,pgE,aX,hn,q1,bH,dA,sf];exact⟨q,B,m,hk S q B m _ dX dX dX hI,ig _ rfl hnd rfl rfl⟩)
  .have s3:=he 3 dX;simp(disch:=first|exact dqz|fail) only[pgz,simprocAttr,hS,pgE,aX,bH,dA];exact SV rfl kn (by simp only[dm,dS,pgo,simprocAttr,bH,dA,s3]) (hK:=⟨q,B,m,hk S q B m 4 dX dX dX hI,ig 4 rfl hnd rfl rfl⟩)
  .have s1:=he 1 dX;have s4:=he 4 dX;simp(disch:=first|exact dqz|fail) only[pgz,simprocAttr,hS,pgE,aX,bH,dA];rw[hInv]at hI;obtain⟨h1,h2,h3,⟨h4,h5,h6⟩|⟨h4,_⟩⟩:=hI;case inr=>rw[hS]at h4;cases h4
   refine qR rfl (kB _ _ _ _ _ N h5) (by simp only[dm,dS,pgo,simprocAttr,bH,dA,s1,s4]) ?_;rintro s' r ⟨B1,m1,rfl,c1,rfl,c2,N1,c3,c4⟩;refine⟨q,B1,m1,?_,ig 5 rfl hnd rfl rfl⟩;rw[hInv];simp only[ni,iy (show 9≠5 by decide),iy (show 10≠5 by decide)];refine⟨by omega,by rw[c1 (n1) Om fun hm=>(h6 _ hm).2 rfl];exact h2,fun h => ?_,.inr ⟨trivial,N1,c4,fun k hk => ?_⟩⟩
   .obtain⟨g1,g2,g3⟩:=h3 h;exact⟨g1,by omega,by rw[c1 q g2 fun hm=>by have:=(h6 _ hm).1;omega];exact g3⟩
   .rcases c3 k hk with h|h
    .exact⟨(h6 k h).2,fun hq e=>by have:=(h6 k h).1;have:=(h3 hq).1;omega⟩
    .exact⟨by omega,fun hq e=>by have:=(h3 hq).2.1;omega⟩
  .simp(disch:=first|exact dqz|fail) only[pgz,simprocAttr,hS,pgE,aX,bH,dA]
   have h10:S 10=false:=by
    cases h5:S 10 with
    |false=>rfl
    |true=>have:=hcl 10 _ rfl h5 9 dX;rw[hS]at this;cases this
   refine⟨m,upd B m (some (62,mcZ)),m+1,?_,?_⟩
   .rw[hInv]at hI⊢;obtain⟨h1,h2,_,h4⟩:=hI;simp only[ni,iy (show 5≠9 by decide),iy (show 10≠9 by decide),h10,cond_false];refine⟨by omega,(aV _ _ _ _ Om).trans h2,fun _=>⟨h1,by omega,bW _ _ _⟩,?_⟩;rcases h4 with⟨g1,g2,g3⟩|⟨g1,N1,g2,g3⟩
    .exact .inl ⟨g1,g2.of Om fun k hk=>aV _ _ _ _ (by have:=g2.ltD k hk;omega),g3⟩
    .exact .inr ⟨g1,N1,g2.of Om fun k hk=>aV _ _ _ _ (by have:=g2.ltD k hk;omega),fun k hk=>⟨(g3 k hk).1,fun _=>by have:=g2.ltD k hk;omega⟩⟩
   .exact apz 9 hS rfl rfl hnd
  .have s9:=he 9 dX;have s7:=he 7 dX;have hI0:=hI;rw[hInv]at hI;obtain⟨h1,h2,h3,h4⟩:=hI;obtain⟨g1,g2,g3⟩:=h3 s9;rw[hS,cond_false]at g3;simp(disch:=first|exact dqz|fail) only[pgz,simprocAttr,hS,pgE,aX,bH,dA,s9,s7,g3,hML,hMo];refine⟨q,upd B q (some (62,M)),m,?_,?_⟩
   .rw[hInv];simp only[ni,iy (show 5≠10 by decide),iy (show 9≠10 by decide),cond_true];refine⟨h1,(aV _ _ _ _ Om).trans h2,fun _=>⟨g1,g2,bW _ _ _⟩,?_⟩;rcases h4 with⟨f1,f2,f3⟩|⟨f1,N1,f2,f3⟩
    .exact .inl ⟨f1,f2.of (az _) fun k hk=>aV _ _ _ _ (by have:=(f3 k hk).1;omega),f3⟩
    .exact .inr ⟨f1,N1,f2.of (az _) fun k hk=>aV _ _ _ _ ((f3 k hk).2 s9),f3⟩
   .exact apE 10 rfl hnd
 intro S q B2 m2 hall hI;rw[hInv]at hI;obtain⟨hm2,hp2,hq,⟨h5,_⟩|⟨_,N2,HS2,hD2⟩⟩:=hI
 .rw[hall 5 dX]at h5;cases h5
 obtain⟨hq1,hq2,hq3⟩:=hq (hall 9 dX);rw[hall 10 dX,cond_true]at hq3;replace hD2:∀k∈N2.D b,k≠n1/\k≠q:=fun k hk=>⟨(hD2 k hk).1,(hD2 k hk).2 (hall 9 dX)⟩
 have s9:=hall 9 dX;have s11:=hall 11 dX;have hU1:=fun(s:Sto) (H:OkS Q s) (a:Nat)=>(hM.un H a).1
 have hU2:=fun(s:Sto) (H:OkS Q s) (a:Nat)=>(hM.un H a).2
 have e1:(m2+10=m2+11)=False:=eq_false Om;have e2:(m2+11=m2+10)=False:=eq_false Om;have e3:(n1=m2+10)=False:=eq_false Om;have e4:(n1=m2+11)=False:=eq_false Om;have e5:(m2+10=n1)=False:=eq_false Om;have e6:(m2+11=n1)=False:=eq_false Om;(repeat' first|refine wV (Ad @pgE @aX @bu @bz) ?_|refine tE ?_ ?_<;>intro hc|fail);have hF:=hM.form;obtain⟨M0,hM0⟩:∃M0:List V,M0=M:=⟨_,rfl⟩;clear hM hInv hk hpB HB kB c4 hML hMo;rcases hF with rfl|⟨mb,mp,X,rfl⟩|⟨mb,mp,X,Y,rfl⟩
 all_goals
  refine oh mix ?_
  (repeat'(first|(simp(disch:=first|exact dqz|fail) only[pgz,simprocAttr,pgE,alF,xB,bu,bz,hn,e1,e2,e3,e4,e5,e6,hp2,bH,dA,s9,s11])|(refine tC ?_;first|refine cU kn ?_|refine cU kG ?_)|((with_reducible show mX _ _ _ _ _ _ _);first|refine cA kn ?_|refine cA kG ?_)|(refine tE ?_ ?_<;>intro hc)|refine xK ?_|fail))
  refine Jh [n1,m2+10,m2+11] [.q,.rb 0,.q,.q,.q,.q,.q,.q,.q,.q,.xb 1,.xb 2,.xb 1,.xb 2,.q] (by simp;omega) ?_ rfl Za
  (repeat' first|refine wV (A8 @pgE @bu @bz @e1 @e2 @e3 @e4 @e5 (Af @e6 @hp2 @bH @dA @s9 @s11)) ?_|refine tE ?_ ?_<;>intro hc|fail)
  refine CX (ι:=Sto×SN×Bx×Nat×Nat) (fun y=>⟨ja [(2,fzi mm),(3,vi n),(9,.ref n1 0),(11,.ref q 0),(14,.ref (m2+11) 0),(16,vi y.2.2.2.2)],y.2.2.1,y.2.2.2.1,bM (fun _=>.top) (fun _=>.top)⟩) (fun y=>(OkS Q y.1/\y.2.2.2.2<=3/\y.2.2.2.2<=mm.length)/\KpAt [(q,62,M0),(m2+11,62,M0)] n1 b y.1 y.2.1 y.2.2.1 y.2.2.2.1) (fun y=>mm.length-y.2.2.2.2) (u,N2,upd (upd (upd B2 (m2+10) (some (33,stF u))) (m2+11) (some (62,M0))) n1 (some (35,prF b u)),m2+15,0) (mJ (lI ?_) (fun k=>.inl ?_) (az _)) ⟨⟨hN.ok,ax _,ax _⟩,⟨?_,?_,?_,?_,?_⟩⟩ ?_
  ·((try simp only[lu,lw,jQ,kW,pgo,simprocAttr,jb,lN]);try(repeat'(first|exact ae|rfl|apply aI)))
   simp(decide:=true) only[bH,dA,s9,if_true,if_false]
  .rw[hM0]
   simp only[upd]
   (repeat' split)<;>first|rfl|(exfalso;omega)
  .show n1<m2+15;omega
  .exact fun h=>(hD2 _ h).1 rfl
  .exact bW _ _ _
  .refine HS2.of (by show m2<=m2+15;omega) fun k hk => ?_
   have h1:=hD2 k hk
   have h2:=HS2.ltD k hk
   simp only[upd]
   repeat rw[ag Om]
  .intro x hx
   simp only[fG,BH,sG]at hx
   rcases hx with rfl|rfl
   .refine⟨by show q≠n1;omega,by show q<m2+15;omega,fun h=>(hD2 _ h).2 rfl,?_⟩
    simp only[upd]
    repeat rw[ag Om]
    rw[hM0]
    exact hq3
   .refine⟨by show m2+11≠n1;omega,by show m2+11<m2+15;omega,fun h=>by have:=HS2.ltD _ h;simp only at this;omega,?_⟩
    simp only[upd,e6,if_true,if_false]
  rintro⟨s1,N3,B3,m3,i⟩ ⟨⟨hS1,hi3,hil⟩,HK⟩
  simp only at hS1 hi3 hil HK
  have hp3:=HK.hp
  have hil':=bV mm
  by_cases hgo:i<3/\i<mm.length
  .obtain⟨g1,g2⟩:=hgo
   have l1:((i:Int)<3)=True:=eq_true Om
   have l2:((i:Int)<(mm.length:Int))=True:=eq_true Om
   obtain⟨u1,hN1,_,kC⟩:=aao hS1 hm g2 Om (hQ1 _)
   (repeat' first|refine wU (Ah @pgE @aX @bu @bz @hil' @l1 @l2 @hp3) ?_|refine tE ?_ ?_<;>intro hc|fail)
   refine qR rfl (kC _ _ _ _ _ _ HK.st) rfl ?_
   rintro s' r ⟨B4,m4,rfl,d1,rfl,d2,N4,d3,d4⟩
   obtain⟨hp4,HK4⟩:=HK.step d1 d2 d3 d4
   (repeat' first|refine wU (Ae @pgE @aX @bu @bz @hp4) ?_|refine tE ?_ ?_<;>intro hc|fail)
   refine wz (u1,N4,upd B4 n1 (some (35,prF b u1)),m4,i+1) ⟨⟨hN1.ok,g1,g2⟩,HK4⟩ (by show mm.length-(i+1)<mm.length-i;omega) (mJ (lI ?_) (fun k=>.inl rfl) (az _))
   ((try simp only[lu,lw,jQ,kW,pgo,simprocAttr,jb,lN]);try(repeat'(first|exact ae|rfl|apply aI)))
  .obtain⟨_,_,_,hq4⟩:=HK.kp (q,62,M0) Aa
   obtain⟨_,_,_,hq5⟩:=HK.kp (m2+11,62,M0) Aa
   rw[hM0]at hq4 hq5
   have kU1:=HK.st.look fun e m h H'=>hU1 s1 hS1 a1 e B3 m h b N3 H'
   have kU2:=hU2 s1 hS1 a1
   have kU3:=HK.st.look fun e m h H'=>hU1 s1 hS1 a2 e B3 m h b N3 H'
   have kU4:=hU2 s1 hS1 a2
   rw[hks]at kU1 kU2
   generalize unC s1 fs ks=r1 at *
   generalize unC s1 fs (qy a2)=r2 at *
   generalize qy a2=ks2 at *
   by_cases g2:i<mm.length
   .have l1:((i:Int)<3)=False:=eq_false Om
    have l2:((i:Int)<(mm.length:Int))=True:=eq_true Om
    (repeat' first|refine wED (A8 @pgE @aX @bu @bz @hil' @l1 @l2 @hp3 (Af @hq4 @hq5 @hn @hn2 @ql.{0} @vW)) (Ag kn kU1 kU2 kn2 kU3 kU4 kK) ?_|refine tE ?_ ?_<;>intro hc|fail)
    exact kz (s':=⟨fun _=>.top,B3,m3,fun _=>.top⟩) (r:=vb true) rfl (ng (aW _ _ _) (aP _ _) (aQ _ _) rfl (az _))
   .have l2:((i:Int)<(mm.length:Int))=False:=eq_false Om
    (repeat' first|refine wED (A8 @pgE @aX @bu @bz @hil' @l2 @hp3 @hq4 (Ae @hq5 @hn @hn2 @ql.{0} @vW)) (Ag kn kU1 kU2 kn2 kU3 kU4 kK) ?_|refine tE ?_ ?_<;>intro hc|fail)
    exact kz (s':=⟨fun _=>.top,B3,m3,fun _=>.top⟩) (r:=vb true) rfl (ng (aW _ _ _) (aP _ _) (aQ _ _) rfl (az _))
end Go.Proofs.YtopbmdnbdpjheaaGreat
section
namespace Go.Pg
open Go Go.ChangeShapes Go.WideShapes
def aqm{w:World}{g o:Nat}{vs:List Value}(hp:0<vs.length)(h:∀i,i<vs.length->w.cell? ⟨g,o+i,none⟩=vs[i]?):Pg.Row w g o vs:=by
 have a:=h 0 hp;rw[dY hp]at a;unfold World.cell? at a;split at a
 .rename_i arr e fr hg;refine⟨arr,e,fr,hg,?_⟩;apply IW;intro i;rw[aat];split
  .rename_i hi;have b:=h i hi;unfold World.cell? at b;grind
  .grind
 .cases a
section
variable {H:Type} {enc:TypeId × Value->H} {P:Program} {w:World} {base:Nat} {spare:Nat->Bool} {held:Bool}
structure Elem (enc:TypeId × Value->H) (P:Program) (w:World) (base:Nat) (spare:Nat->Bool) (held:Bool) (e:TypeId) (k:Nat) {α:Type} (Ok:α->Prop) (el:α->V) (elc:α->List Value):Prop where
 pos:0<k
 cells:P.cellsOf e=k
 len:∀a,(elc a).length=k
 get:∀n cs x,DataW.trod enc P w base spare held n e cs=some x->∃a,Ok a/\cs=elc a
 rep:∀a L w',∃u:Value,u.cells.toList=elc a/\u.cells.size=k/\((el a).free=true/\u.cells.toList.all Value.oneCell'=true)/\Rep L w' (el a) u
theorem Elem.repE{e:TypeId}{k:Nat}{α:Type}{Ok:α->Prop}{el:α->V}{elc:α->List Value}(E:Elem enc P w base spare held e k Ok el elc)(L:Lay)(w':World):∀l:List α,RepE L w' k (l.map el) (l.map elc).flatten:=by
 intro l
 induction l with
 |nil=>rfl
 |cons a l i =>obtain⟨u,h1,h2,h3,h4⟩:=E.rep a L w';exact⟨u,(l.map elc).flatten,by rw[h1];rfl,h2,h3,h4,i⟩
theorem axn{t e:TypeId}{k:Nat}{α:Type}{Ok:α->Prop}{el:α->V}{elc:α->List Value}(E:Elem enc P w base spare held e k Ok el elc)(S:P.underlying t=some (.slice e)){p:Nat}{cs:List Value}{x:DataW H×List MemPlace}(h:DataW.trod enc P w base spare held p t cs=some x) :
  ∃l:List α,(∀a∈l,Ok a)/\∃u,cs=[u]/\Rep ⟨fun g=>g<w.heap.size,fun _=>none,fun _=>none⟩ w (.sl .fz k (l.map el)) u:=by
 rcases DataW.trod_slice S h with⟨rfl,_⟩|⟨a,len,cap,s,M,n,_,rfl,rfl,hb,hl,hm,J,C,_,_⟩
 .exact⟨[],(fun a h=>by cases h),_,rfl,none,0,[],rfl,rfl,az _,.inl rfl⟩
 have b:∀i,i<len->∃y:α,Ok y/\w.cells? base (a.add (i*k)) k=some (elc y):=by intro i hi;have h1:=C i hi;rw[E.cells,dY Om,bg]at h1;obtain⟨cs',h2,h3⟩:=h1;obtain⟨y,L,rfl⟩:=E.get _ _ _ h3;grind
 rcases gG len with G|G
 .subst G;exact⟨[],(fun a h=>by cases h),_,rfl,some a,cap,[],rfl,rfl,ax _,.inl rfl⟩
 obtain⟨g,o,spot⟩:=a
 have f:spot=none:=by obtain⟨y,L,v⟩:=b 0 G;obtain⟨A,q,d⟩:=World.cells?_some v;have h5:=d 0 E.pos;rw[dY (by rw[q];exact E.pos)]at h5;have:=World.cell?_spot h5;simpa[Addr.add]using this
 subst f
 have r:∀m,m<=len->∃l:List α,l.length=m/\(∀y∈l,Ok y)/\((l.map elc).flatten).length=m*k/\∀j,j<m*k->w.cell? ((⟨g,o,none⟩:Addr).add j)=((l.map elc).flatten)[j]?:=by
  intro m
  induction m with
  |zero=>intro _;exact⟨[],rfl,(fun y h=>by cases h),by simp,fun j hj=>by omega⟩
  |succ m U =>
   intro R;obtain⟨l,h1,h2,h3,h4⟩:=U Om;obtain⟨y,L,v⟩:=b m Om;obtain⟨A,q,d⟩:=World.cells?_some v;have T:=E.len y;refine⟨l++[y],by simp[h1],?_,?_,?_⟩
   .grind
   .grind
   .intro j hj;rw[nK,Nat.one_mul]at hj;rw[nJ,aas];rcases au j (m*k)with Q|F
    .grind
    .rw[List.getElem?_append_right Om,h3];have h5:=d (j-m*k) Om;have N:((⟨g,o,none⟩:Addr).add (m*k)).add (j-m*k)=(⟨g,o,none⟩:Addr).add j:=by rw[Pg.jO,Pg.jO,Pg.jO,Nat.add_assoc,Nat.add_sub_cancel' F]
     rw[N]at h5;simpa using h5
 obtain⟨l,h1,h2,h3,h4⟩:=r len (az _)
 refine⟨l,h2,_,rfl,some ⟨g,o,none⟩,cap,(l.map elc).flatten,by rw[aj,h1],E.repE _ _ l,?_⟩
 rw[aj,h1]
 refine⟨hl,?_⟩
 rcases gG len with I|I
 .omega
 .right;have K:0<len*k:=Nat.mul_pos I E.pos;have c:Pg.Row w g o (l.map elc).flatten:=by refine aqm Om (fun i hi => ?_);have:=h4 i Om;rw[Pg.jO]at this;exact this
  refine⟨g,o,rfl,?_,c⟩;obtain⟨arr,e',fr,hg,_⟩:=c;exact(lW.1 hg).1
end
end Go.Pg
end
section
namespace Go.Proofs.YtopbmdnbdpjheaaGreat
open Go Go.ChangeShapes Go.WideShapes Go.ChangeAt Go.RowKit
def own:ownKnob Tryz.prog.godebug=none:=by kernel_rfl
def Wi:laidOutB Tryz.prog=true:=by kernel_rfl
def akQ{W a:World}(hk:Pg.Kp (fun _=>False) W.heap.size W a):Below W.heap.size W a:=⟨hk.os,hk.tape,hk.output,hk.size,fun k h=>hk.block k h (fun h=>h)⟩
abbrev LW(w:World):Pg.Lay:=⟨fun g=>g<w.heap.size,fun _=>none,fun _=>none⟩
def WtI(n:Int):Prop := -9223372036854775808<=n/\n<=9223372036854775807
def au7{n:Int}(h:(Lit.int .i64 n).wf=true):WtI n:=by simp[Lit.wf]at h;assumption
section
variable {H:Type} {enc:TypeId × Value->H} {w:World} {base:Nat} {spare:Nat->Bool} {held:Bool}
theorem afk:Pg.Elem enc Tryz.prog w base spare held 3 1 WtI (fun n=>Pg.V.c (.int .i64 n)) (fun n=>[Value.int .i64 n]) where
 pos:=by decide
 cells:=by kernel_rfl
 len:=fun _=>rfl
 get:=fun n cs x h=>by obtain⟨m,rfl,_,a⟩:=DataW.trod_int Tryz.underlying3 h;exact⟨m,au7 a,rfl⟩
 rep:=fun n L w'=>⟨.int .i64 n,by simp[Value.cells],rfl,⟨rfl,rfl⟩,rfl⟩
theorem Xq{n:Nat}{v:Value}{a:Option Addr}{len cap:Nat}{x:DataW H×List MemPlace}(hv:v = .slice a len cap)(h:DataW.trod enc Tryz.prog w base spare held n 22 v.cells.toList=some x):∃l:List Int,l.length<=9223372036854775807/\Pg.Rep (LW w) w (fzi l) v:=by
 subst hv;obtain⟨l,hl,u,e,r⟩:=Pg.axn afk Tryz.underlying22 h;have j:u = .slice a len cap:=by simp[Value.cells]at e;exact e.symm
 subst j;refine⟨l,?_,r⟩;obtain⟨b,c,row,h1,_,h2,_⟩:=r;injection h1 with h1 h3 h4;have i:(List.map (fun n=>Pg.V.c (.int .i64 n)) l).length=l.length:=aj ..;rcases DataW.trod_slice Tryz.underlying22 h with⟨g,_⟩|⟨k,f,d,_,_,_,_,g,_,_,m,p,_⟩
 .simp[Value.cells]at g;omega
 .simp[Value.cells]at g;have:maxLen=9223372036854775807:=rfl;omega
end
end Go.Proofs.YtopbmdnbdpjheaaGreat
end
