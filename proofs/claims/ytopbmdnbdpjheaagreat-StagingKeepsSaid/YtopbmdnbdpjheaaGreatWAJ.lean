/-
  Merged texts.
-/
import Derived.Test.YtopbmdnbdpjheaaGreatWAI
import Derived.Test.YtopbmdnbdpjheaaGreatWAF
import Derived.Test.YtopbmdnbdpjheaaGreatWAG
import Derived.Test.YtopbmdnbdpjheaaGreatWAH
import Derived.Test.YtopbmdnbdpjheaaGreatWAE
set_option linter.all false
set_option linter.unusedVariables false
set_option linter.unusedSimpArgs false
set_option linter.unusedSectionVars false
set_option linter.defProp false
set_option maxRecDepth 100000
set_option maxHeartbeats 8000000
namespace Go.Proofs.YtopbmdnbdpjheaaGreat
open Go Go.Pg
theorem apH(c:Nat)(q:List (Int×Nat×Nat)):∀w∈mpC c (iM (qM q)),w.ownless=true:=by
 have key:∀q:List (Int×Nat×Nat),∀w∈mpF (iM (qM q)),w.ownless=true:=fun q=>by
  induction q with
  |nil=>intro w h;cases h
  |cons x r i =>
   intro w h;have h:w∈(.c (.int .i64 x.1))::(.ref x.2.1 0)::(.c (.int .i64 x.2.2))::mpF (iM (qM r)):=h;simp at h;rcases h with rfl|rfl|rfl|h
   .rfl
   .rfl
   .rfl
   .grind
 intro w h;simp[mpC]at h;rcases h with rfl|rfl|h
 .rfl
 .rfl
 .grind
theorem ArAt.ownless{bx:Bx}{n:Nat}{cap:Int}{pa:List Pa}{N:AN}(H:ArAt bx n cap pa N):∀k∈N.D,∀x,bx k=some x->∀w∈x.2,w.ownless=true:=by
 intro k hk x hx w h;simp only[AN.D,fG,dP]at hk;rcases hk with rfl|rfl|⟨y,a,rfl⟩
 .rw[H.ha]at hx;cases hx
  simp at h;rcases h with rfl|rfl<;>rfl
 .rw[H.hm]at hx;grind[apH]
 .obtain⟨p,_,_,hp⟩:=H.hp y a;rw[hp]at hx;cases hx
  simp at h;rcases h with rfl|rfl|rfl<;>rfl
def lsI(q:Nat)(l:List Int):Nat->V
 |0=>nls
 |_+1=>.sl (.own q 3) 1 (l.map vi)
structure CrAt (n v:Nat) (bx0:Bx) (N:AN) (cap:Int) (pa:List Pa) (l:List Int) (f z:V) (i:Nat) (B:Bx) (m:Nat) (A:AN) (q:Nat):Prop where
 vn:n<=v/\v<m
 qn:n<=q/\q<m
 ar:ArAt B m cap pa A
 aa:A.a=N.a
 ad:∀k∈A.D,k∈N.D\/n<=k
 va:v ∉ A.D
 bv:B v=some (113,[f,vi 0,z,lsI q l i])
 old:∀k,k<n->k ∉ N.D->B k=bx0 k
 cut:∀k x,B k=some x->k≠v->k∈A.D\/(k<n/\k ∉ N.D)
def jq(v:Nat)(B:Bx):Bx:=fun k=>if k=v then none else B k
def am8(v:Nat)(B:Bx)(x:TypeId×List V)(h:B v=some x):upd (jq v B) v (some x)=B:=by grind[only,upd,jq]
theorem CrAt.fix{n v:Nat}{bx0:Bx}{N:AN}{cap:Int}{pa:List Pa}{l:List Int}{f z:V}{i:Nat}{B:Bx}{m:Nat}{A:AN}{q:Nat}(H:CrAt n v bx0 N cap pa l f z i B m A q)(ψ:V->V)(h1:∀w:V,w.ownless=true->ψ w=w)(h3:df ψ bx0=bx0):df ψ (jq v B)=jq v B:=by
 refine WJ fun k x hx w h => ?_
 simp only[jq]at hx;split at hx
 .cases hx
 .rename_i hk;rcases H.cut k x hx hk with h2|⟨h2,h4⟩
  .exact h1 w (H.ar.ownless k h2 x hx w h)
  .rw[H.old k h2 h4]at hx;have h4:=congrFun h3 k;simp[df]at h4;obtain⟨j,hj,rfl⟩:=D5.1 h;grind
def CrAt.poi{n v:Nat}{bx0:Bx}{N:AN}{cap:Int}{pa:List Pa}{l:List Int}{f z:V}{i:Nat}{B:Bx}{m:Nat}{A:AN}{q:Nat}(H:CrAt n v bx0 N cap pa l f z i B m A q)(hB:FrB n bx0){q':Nat}(a:n<=q'):df (aF q') (jq v B)=jq v B :=
 H.fix _ (fun _ h=>Dn h) (J3 hB a)
theorem UM{id:Nat}{v:V}(h:v.ownless=true):frz id v=v:=by
 have b:∀t:Tag,t.isOwn=false->(if t.is id then Tag.fz else t)=t:=by
  intro t a
  cases t with
  |own i e=>cases a
  |_=>rfl
 have A:(∀v:V,v.any Tag.isOwn (fun _=>false) true=false->v.map (fun t=>if t.is id then .fz else t) _root_.id=v)/\(∀l,V.anyL Tag.isOwn (fun _=>false) true l=false->V.mapL (fun t=>if t.is id then .fz else t) _root_.id l=l):=by refine V.ind ?_ ?_ ?_ ?_ ?_ ?_ ?_ ?_ ?_ ?_ ?_ ?_ ?_;all_goals(simp_all only[V.any,V.anyL,V.map,V.mapL,qh,id_eq,implies_true])
 simp[V.ownless]at h;exact A.1 v h
theorem CrAt.frz{n v:Nat}{bx0:Bx}{N:AN}{cap:Int}{pa:List Pa}{l:List Int}{f z:V}{i:Nat}{B:Bx}{m:Nat}{A:AN}{q:Nat}(H:CrAt n v bx0 N cap pa l f z i B m A q)(hB:FrB n bx0){q':Nat}(a:n<=q'):df (Go.Pg.frz q') (jq v B)=jq v B :=
 H.fix _ (fun _ h=>UM h) (uZ hB a)
def CrAt.cst{n v:Nat}{bx0:Bx}{N:AN}{cap:Int}{pa:List Pa}{l:List Int}{f z:V}{i:Nat}{B:Bx}{m:Nat}{A:AN}{q:Nat}(H:CrAt n v bx0 N cap pa l f z i B m A q){g:Bx}{s:Nat}{p:List Pa}{a:AN}(c1:∀k,k<m->k∉A.D->g k=B k)(M:m<=s)(y:a.a=A.a)(u:∀k∈a.D,k∈A.D\/m<=k)(C:ArAt g s cap p a) :
  ∃O:Bx,(∀k,upd O v (some (113,[f,vi 0,z,lsI q l i])) k=g k\/upd O v (some (113,[f,vi 0,z,lsI q l i])) k=none)/\(∀{q'},FrB n bx0->n<=q'->df (aF q') O=O) /\
   ∀b r i2 c,n<=b->b<c->s<=c->CrAt n v bx0 N cap p r f z i2 (upd O v (some (113,[f,vi 0,z,lsI b r i2]))) c a b:=by
 have j:v∉a.D:=fun hm=>by rcases u v hm with h|h;exact H.va h;have:=H.vn.2;omega
 have I:∀k,k<n->k∉N.D->k∉A.D:=fun k h1 h2 h3=>by rcases H.ad k h3 with h|h;exact h2 h;omega
 have J:n<=m:=by have:=H.vn;omega
 have d:∀b r i2 c,n<=b->b<c->s<=c->CrAt n v bx0 N cap p r f z i2 (upd (fun k=>if k∈a.D\/(k<n/\k∉N.D)then g k else none) v (some (113,[f,vi 0,z,lsI b r i2]))) c a b:=by
  intro b r i2 c E F G;have L:=H.vn.2;refine⟨⟨H.vn.1,by omega⟩,⟨E,F⟩,C.of G fun k hk => ?_,y.trans H.aa,fun k hk => ?_,j,bW _ _ _,fun k t k2 => ?_,fun k x hx hk => ?_⟩
  .rw[aV _ _ _ _ (by rintro rfl;exact j hk),ah (.inl hk)]
  .rcases u k hk with h|h
   .exact H.ad k h
   .exact .inr Om
  .rw[aV _ _ _ _ (by have:=H.vn.1;omega),ah (.inr ⟨t,k2⟩),c1 k Om (I k t k2)];exact H.old k t k2
  .rw[aV _ _ _ _ hk]at hx;split at hx
   .assumption
   .cases hx
 refine⟨fun k=>if k∈a.D\/(k<n/\k∉N.D)then g k else none,fun k => ?_,fun{q'} hB K => ?_,d⟩
 .by_cases hk:k=v
  .subst hk;rw[bW,c1 _ H.vn.2 H.va,H.bv];exact .inl rfl
  .rw[aV _ _ _ _ hk];split
   .exact .inl rfl
   .exact .inr rfl
 .have h1:=(d q [] 0 (s+q+1) H.qn.1 Om Om).poi hB K
  have h2:jq v (upd (fun k=>if k∈a.D\/(k<n/\k∉N.D)then g k else none) v (some (113,[f,vi 0,z,lsI q [] 0])))=(fun k=>if k∈a.D\/(k<n/\k∉N.D)then g k else none):=by
   funext k;simp only[jq];by_cases hk:k=v
   .subst hk;rw[ah rfl,ag];rintro(h|⟨h,_⟩)
    .exact j h
    .have:=H.vn.1;omega
   .rw[ag hk,aV _ _ _ _ hk]
  rw[h2]at h1;exact h1
theorem DW{e:Nat->V}{bx:BX}{n id:Nat}{h:Nat->V}(b:bD (frz id) h=h):Weak ⟨e,bx,n,h⟩ ⟨bD (frz id) e,df (frz id) bx,n,h⟩:=by have:=Weak.freeze ⟨e,bx,n,h⟩ id;have a:St.mapV ⟨e,bx,n,h⟩ (frz id)=⟨bD (frz id) e,df (frz id) bx,n,bD (frz id) h⟩:=rfl;grind
def ZL{O:Bx}{v c:Nat}{T:TypeId}{cs cs':List V}{a:TypeId×List V}(h:zq cs cs')(hx:upd O v (some (T,cs')) c=some a):∃x,upd O v (some (T,cs)) c=some x/\x.1=a.1/\zq x.2 a.2:=by grind[bW,hx,aV,rY]
def CrAt.fin{n v:Nat}{bx0:Bx}{N:AN}{cap:Int}{pa:List Pa}{l:List Int}{f z:Int}{i:Nat}{B:Bx}{m:Nat}{A:AN}{q:Nat}(H:CrAt n v bx0 N cap pa l (vi f) (vi z) i B m A q)(hB:FrB n bx0)(hl:l.length=i) :
  ∃cs,df (Go.Pg.frz q) B=upd (jq v B) v (some (113,cs))/\zq cs [vi f,vi 0,vi z,.sl .fz 1 (l.map vi)]:=by
 refine⟨[vi f,vi 0,vi z,Go.Pg.frz q (lsI q l i)],?_,dJ _,dJ _,dJ _,?_,trivial⟩
 .rw[show df (Go.Pg.frz q) B=df (Go.Pg.frz q) (upd (jq v B) v (some (113,[vi f,vi 0,vi z,lsI q l i]))) by rw[am8 _ _ _ H.bv],fV,H.frz hB H.qn.1];rfl
 .cases i with
  |zero =>have:=kJ hl;subst this;exact Q5 .fz 1
  |succ i=>rw[lsI,zX];exact dJ _
def amW{ob:List (Int×List Vr)}{bo:List Nat}(hb:bo.length=ob.length)(k:Int)(ch:List Vr)(c:Nat):oM (ob++[(k,ch)]) (bo++[c])=oM ob bo++[(k,.sl .fz 4 (vrV ch),c)]:=by unfold oM;rw[List.zip_append hb.symm];simp
def Tf(z:Nat)(d:List Nat)(h:8<=z/\z<=1024)(i:Nat)(hi:i<nPg z d):((ckP z d (nPg z d)).getD i []).length<=1024/\0<((ckP z d (nPg z d)).getD i []).length:=by grind[Dc,ckP,nPg]
def CrAt.init{n m0 v:Nat}{B0:Bx}{N:AN}{cap:Int}{pa:List Pa}(hA:ArAt B0 m0 cap pa N)(a:m0<=v+1)(h:∀k∈N.D,k<n)(hv:n<=v)(f z:V):CrAt n v B0 N cap pa [] f z 0 (upd (fun k=>if k<n then B0 k else none) v (some (113,[f,vi 0,z,nls]))) (v+1) N v:=by
 refine⟨⟨hv,Nat.lt_succ_self _⟩,⟨hv,Nat.lt_succ_self _⟩,hA.of a fun k hk => ?_,rfl,fun k hk=>.inl hk,fun hk=>by have:=h _ hk;omega,bW _ _ _,fun k b k2 => ?_,fun k x hx hk => ?_⟩
 .have:=h k hk;rw[aV _ _ _ _ Om,ah this]
 .rw[aV _ _ _ _ Om,ah b]
 .rw[aV _ _ _ _ hk]at hx;grind
def CrAt.mod{n n0 v b:Nat}{bx B0 F:Bx}{s:Sto}{N:SN}{cap:Int}{pa:List Pa}{l:List Int}{f z:V}{i:Nat}{C:Bx}{m:Nat}{A:AN}{q:Nat}(H:CrAt n v B0 N.A cap pa l f z i C m A q)(c:StAt bx n0 b s N)(r:n0<=n)(j:∀k,k<n0->B0 k=bx k)(p:∀k,k≠b->k≠N.o->k≠v->F k=C k) :
  (∀k,k<n0->k∉N.D b->F k=bx k)/\(∀bo co k,k∈SN.D ⟨N.o,bo,co,A⟩ b->k∈N.D b\/n0<=k)/\(∀k∈A.D,F k=C k)/\∀bo co,(SN.D ⟨N.o,bo,co,A⟩ b).Nodup:=by
 have d:b∉A.D:=fun hk=>by
  rcases H.ad b hk with h|h
  .exact c.ne.2.1 h
  .have:=c.lt.1;omega
 have g:N.o∉A.D:=fun hk=>by
  rcases H.ad N.o hk with h|h
  .exact c.ne.2.2 h
  .have:=c.lt.2;omega
 have hv:=H.vn.1
 refine⟨fun k hk a => ?_,fun bo co k hk => ?_,fun k hk=>p k (by rintro rfl;exact d hk) (by rintro rfl;exact g hk) (by rintro rfl;exact H.va hk),fun bo co => ?_⟩
 .simp[SN.D]at a;rw[p k a.1 a.2.1 Om,H.old k Om a.2.2,j k hk]
 .simp[SN.D]at hk⊢;rcases hk with hk|hk|hk
  .omega
  .omega
  .rcases H.ad k hk with h|h
   .grind
   .omega
 .simp[SN.D];exact⟨⟨c.ne.1,d⟩,g,H.ar.nn⟩
def anQ(e:Nat->V)(bx:Bx)(n:Nat)(h:Nat->V){b:Nat}{s:Sto}{N:SN}(H:StAt bx n b s N)(U:Sml s)(k d:List Nat)(hk:oct k)(hn:iK k=true)(hd:d.length<=65536)(hz:8<=s.c.z/\s.c.z<=1024)(ha:ww s.m s.bi)(Z:(nmA s.m s.bi).length<=12)(h0:0<=s.m)(hcm:s.m<s.c.cm)(hcm2:s.c.cm<=1048576)(hla:0<=s.la/\s.la<=s.m)(hl:(lkA k s.m s.bi).2=false)(h2:(nmA s.m s.bi).length<s.c.na)(h3:s.pa.length+nPg s.c.z.toNat d<=s.c.pg)(h4:s.c.pg<=16384)
  (hno:s.la+1∉s.ob.map (·.1)) (hv:vBd s.bi) (hL:∀i,i<s.bi.length->(s.bi.getD i bd0).f<s.m+1/\(s.bi.getD i bd0).t<=s.m+1) (hD:∀i,i<s.bi.length->(s.bi.getD i bd0).t=0->sB (s.bi.getD i bd0).n≠sB k/\(s.bi.getD i bd0).o≠s.la+1) :
  GoodE Tryz.prog 36 [.ref b 0,vs k,.sl .fz 1 (bv d)] ⟨e,bx,n,h⟩ (Chg e bx n h (N.D b) (SMod N b n (fD s k d) (.tup [vi (s.m+1),vi 0]))):=by
 refine GoodE.fr (only (N.D b) bx) H.fr (N.D b) _ SMod.st ?_ e bx h (fun b x hb=>(iC hb).2)
 intro e bx' h v hB C hx
 have f:=H.on hx
 have h1:=f.hb
 have R:=KE d s.c.z hz Om
 have k2:=yC k hk
 rw[hn]at k2
 have S:=f.look fun e m h H=>Fv e bx' m h H U.bi k
 rw[hl]at S
 have k4:=XI s.bi s.m U.bi ha Z
 have k5:=f.look fun e m h H=>AV e bx' m h H
 rw[dK Om]at k5
 have k6:=f.look fun e m h H=>KD e bx' m h H
 have q1:(s.c.na<=(nmA s.m s.bi).length)=False:=eq_false Om
 have hcl:(ckP s.c.z.toNat d (nPg s.c.z.toNat d)).length=nPg s.c.z.toNat d:=by rw[sN]
 unfold fD
 have hps:=Tf s.c.z.toNat d Om
 have hnp:=H9 s.c.z.toNat d Om
 generalize ckP s.c.z.toNat d (nPg s.c.z.toNat d)=ps at *
 generalize nPg s.c.z.toNat d=np at *
 have Y:((s.pa.length:Int)+(np:Int) > s.c.pg)=False:=eq_false Om
 have hpl:=U.pa
 refine lg (fJ [14,18] mix) Tryz.func36 rfl Tryz.results36 rfl Za (fP Za) ?_
 (repeat' first|refine wED (A8 @pgE @aK @bu @bz @pgp @h1 @aA @aj.{0,0} (Ac @hcl @q1 Y)) (Af R k2 S k4 k5 k6) ?_|refine tE ?_ ?_<;>intro j|fail)
 refine CX (ι:=Nat×Bx×Nat×AN×Nat) (fun y=>⟨ja [(0,.ref b 0),(1,vs k),(10,.ref (n+1+1) 0),(79,.sl .fz 1 (pgV ps)),(80,vi np),(81,vi y.1)],y.2.1,y.2.2.1,bM e h⟩) (fun y=>y.1<=np/\CrAt n (n+1+1) bx' N.A s.c.pg (alS s.pa ps y.1).1 (alS s.pa ps y.1).2 (vi (s.m+1)) (vi d.length) y.1 y.2.1 y.2.2.1 y.2.2.2.1 y.2.2.2.2) (fun y=>np-y.1) (0,upd (fun k=>if k<n then bx' k else none) (n+1+1) (some (113,[vi (s.m+1),vi 0,vi d.length,nls])),n+1+1+1,N.A,n+1+1) ?_ ⟨ax _,?_⟩ ?_
 .refine(DW (id:=n) (kT (jl v C) (az _))).trans (Gg ?_ (fun c x' a => ?_) (az _))
  .simp only[zF,zG,pgo,simprocAttr,jb,yt,if_true,ql]
   exact⟨dJ _,dJ _,dJ _,dJ _,dJ _,dJ _⟩
  .rw[fV,fV,uZ hB (az _)]
   simp only at a
   by_cases j:c=n+1+1
   .subst j
    rw[bW]at a⊢
    cases a
    exact⟨_,rfl,rfl,rY _⟩
   .rw[aV _ _ _ _ j]at a
    rw[aV _ _ _ _ j,aV _ _ _ _ j]
    split at a
    .exact⟨_,a,rfl,rY _⟩
    .cases a
 .exact CrAt.init f.hA Om f.hA.lt Om _ _
 rintro⟨i,B,m,A,q⟩ ⟨hi,g⟩
 simp only at hi g
 have J:B b=some (139,stC s N):=by rw[g.old b f.lt.1 f.ne.2.1];exact h1
 have hBv:=g.bv
 rcases au i np with E|hge
 .have p:((i:Int)<(np:Int))=True:=eq_true Om
  have hg:=AY ps i Om
  obtain⟨hp1,hp2⟩:=hps i E
  obtain⟨G,I⟩:=MI s.pa ps i
  have kA:=fun e h=>XN e B m h g.ar (ps.getD i []) hp2 hp1 (by rw[G];omega) (by rw[G];omega)
  rw[g.aa]at kA
  (repeat' first|refine wU (Ah @pgE @aX @bu @bz @pgp p J @hg) ?_|refine tE ?_ ?_<;>intro j|fail)
  refine qR rfl (kA _ _) rfl ?_
  rintro s' r ⟨B1,t,rfl,c1,rfl,c2,A',c3,c4,c5⟩
  obtain⟨O,o1,o2,o3⟩:=g.cst c1 c2 c3 c4 c5
  (repeat'(first|(simp(disch:=first|exact dqz|fail) only[pgz,simprocAttr,pgE,aX,bu,bz,pgp])|(refine tE ?_ ?_<;>intro j)|(refine mM _ _ _ _ _ ?_)|(with_reducible refine cK ?_)))
  refine Jt (mJ (lI (X:=[(0,.ref b 0),(1,vs k),(10,.ref (n+1+1) 0),(13,vi (alN (alS s.pa ps i).1:Nat)),(79,.sl .fz 1 (pgV ps)),(80,vi np),(81,vi i)]) ?_) o1 (az _)) ?_
  .exact eE
  have Q:(alS s.pa ps (i+1)).2=(alS s.pa ps i).2++[((alN (alS s.pa ps i).1:Nat):Int)]:=rfl
  have u:(alS s.pa ps (i+1)).1=jH ((alN (alS s.pa ps i).1:Nat),1,ps.getD i []) (alS s.pa ps i).1:=rfl
  generalize((alN (alS s.pa ps i).1:Nat):Int)=num at *
  generalize(alS s.pa ps i).2=l0 at *
  cases i with
  |zero =>
   (repeat'(first|(simp(disch:=first|exact dqz|fail) only[pgz,simprocAttr,pgE,aX,bu,bz,pgp,lsI,bW])|(refine tE ?_ ?_<;>intro j)|(with_reducible refine sQ ?_)|(refine mM _ _ _ _ _ ?_)|(with_reducible refine cK ?_)))
   have hl0:l0=[]:=kJ I
   subst hl0
   refine wz (1,upd O (n+1+1) (some (113,[vi (s.m+1),vi 0,vi d.length,lsI (t+1) (alS s.pa ps 1).2 1])),t+1+1,A',t+1) ⟨E,?_⟩ (by show np-1<np-0;omega) (mJ (lI ?_) (fun c=>.inl ?_) (az _))
   .have hq:=g.qn
    have:=o3 (t+1) (alS s.pa ps 1).2 1 (t+1+1) Om Om Om
    rw[<-u]at this
    exact this
   .exact eE
   .rw[Q]
    simp only[upd]
    split<;>rfl
  |succ i =>
   have hF:Fits ((l0.map vi).length+1) 8:=by rw[aj,I];exact⟨by simp only[maxLen];omega,by omega⟩
   have hmO:=o2 hB (show n<=q from g.qn.1)
   have hmP:bD (aF q) (bM e h)=bM e h:=J4 (jl v C) g.qn.1
   (repeat'(first|(simp(disch:=first|exact dqz|fail) only[pgz,simprocAttr,pgE,aX,bu,bz,pgp,lsI,bW,hF,hmP,hmO,fV])|(refine tE ?_ ?_<;>intro j)|(with_reducible refine sQ ?_)|(refine mM _ _ _ _ _ ?_)|(with_reducible refine cK ?_)))
   refine wz (i+1+1,upd O (n+1+1) (some (113,[vi (s.m+1),vi 0,vi d.length,lsI q (alS s.pa ps (i+1+1)).2 (i+1+1)])),(if t<=q then q+1 else t+1),A',q) ⟨E,?_⟩ (by show np-(i+1+1)<np-(i+1);omega) (mJ (lI ?_) (fun c=>.inl ?_) (az _))
   .have hq:=g.qn
    have:=o3 q (alS s.pa ps (i+1+1)).2 (i+1+1) (if t<=q then q+1 else t+1) Om (by split<;>omega) (by split<;>omega)
    rw[<-u]at this
    exact this
   .exact eE
   .rw[Q]
    simp only[upd,lsI,nJ,dm,dS]
    split<;>rfl
 .have:i=np:=Om
  subst this
  have p:((i:Int)<(i:Int))=False:=eq_false Om
  (repeat'(first|(simp(disch:=first|exact dqz|fail) only[pgz,simprocAttr,pgE,aX,bu,bz,pgp,p,J,bW])|(refine tE ?_ ?_<;>intro j)|(refine mM _ _ _ _ _ ?_)|(with_reducible refine cK ?_)))
  have M:b≠n+1+1:=by have:=f.lt.1;omega
  obtain⟨cs,hfB,hcs⟩:=g.fin hB (MI s.pa ps i).2
  refine Jt ((DW (id:=q) (kT (jl v C) g.qn.1)).trans (Gg (X:=[(0,.ref b 0),(1,vs k),(10,.ref (n+1+1) 0)]) (bx':=upd (upd (jq (n+1+1) B) (n+1+1) (some (113,[vi (s.m+1),vi 0,vi d.length,.sl .fz 1 ((alS s.pa ps i).2.map vi)]))) b (some (139,[vi s.c.se,vi s.c.na,vi s.c.pg,vi s.c.z,vi s.c.pn,vi s.c.cm,vi s.c.ch,vi (s.m+1),.mh false N.o,vi (s.la+1),.sl .fz 4 (aS s.bi),.sl .fz 2 (pnV s.pi),.ref N.A.a 0]))) ?_ (fun c x' a => ?_) (az _))) ?_
  .simp only[zF,zG,pgo,simprocAttr,jb,yt,if_true,ql]
   exact⟨dJ _,dJ _,dJ _⟩
  .rw[fV,fV,hfB]
   by_cases j:c=b
   .subst j
    rw[bW]at a⊢
    cases a
    exact⟨_,rfl,rfl,rY _⟩
   .rw[aV _ _ _ _ j]at a
    rw[aV _ _ _ _ j,aV _ _ _ _ j]
    exact ZL hcs a
  have hoB:∀k,k<n->k∉N.A.D->jq (n+1+1) B k=bx' k:=fun k R k2=>by
   simp only[jq]
   rw[ag Om]
   exact g.old k R k2
  have K:=hoB N.o f.lt.2 f.ne.2.2
  rw[f.ho]at K
  have q6:(N.o=b)=False:=eq_false (jY f.ne.1)
  have q7:(b=N.o)=False:=eq_false f.ne.1
  have q8:(N.o=n+1+1)=False:=eq_false (by have:=f.lt;omega)
  have q9:(n+1+1=b)=False:=eq_false (jY M)
  have T:(b=n+1+1)=False:=eq_false M
  have hms:=fun x=>WH (c:=N.co) (x:=x) (OY (s.la+1) (oM s.ob N.bo) 0 (by rw[Ku _ _ f.hbo];exact hno))
  (repeat' first|refine wV (Af @pgE @aX @bu @bz @pgp @bW) ?_|refine tE ?_ ?_<;>intro j|fail)
  refine oh mix ?_
  (repeat'(first|(simp(disch:=first|exact dqz|fail) only[pgz,simprocAttr,pgE,alF,pga,xB,bu,bz,pgp,bW,K,q6,q7,q8,q9,T,tH,EX,xm,LG,hms])|(refine tE ?_ ?_<;>intro j)|(with_reducible refine cKA ?_)|((with_reducible show gJ _ _ _ _ _);first|refine lG (by decide +kernel) ?_|refine lF (by decide +kernel) ?_)|refine xK ?_|fail))
  have k7:=anH s.bi k (s.la+1) (s.m+1) U.bi hv hk hn Om Om hL hD
  generalize jo ⟨k,s.la+1,s.m+1,0⟩ s.bi=W at *
  generalize hls:(alS s.pa ps i).2=ls at *
  refine oh mix ?_
  (repeat'(first|(simp(disch:=first|exact dqz|fail) only[pgz,simprocAttr,pgE,alF,pga,xB,bu,bz,pgp,bW,q6,q7,q8,q9,T])|(refine tC ?_;refine cU k7 ?_)|((with_reducible show mX _ _ _ _ _ _ _);first|refine cA k7 ?_)|(refine tE ?_ ?_<;>intro j)|(with_reducible refine cKA ?_)|((with_reducible show gJ _ _ _ _ _);first|refine lG (by decide +kernel) ?_|refine lF (by decide +kernel) ?_)|refine xK ?_|fail))
  have hvn:=g.vn
  have hid:m+11+14≠m+9:=Om
  have L:∀X:V,mpC (N.co+1) (iM (oM s.ob N.bo)++[(.int .i64 (s.la+1),X,N.co)])=mpC (N.co+1) (iM (oM s.ob N.bo++[(s.la+1,X,N.co)])):=fun X=>by simp[iM]
  have hoM:=amW f.hbo (s.la+1) [⟨s.m+1,0,d.length,ls⟩] N.co
  have P:df (Go.Pg.frz (m+11+14)) (df (Go.Pg.frz (m+9)) (upd (upd (upd (upd (jq (n+1+1) B) (n+1+1) (some (113,[vi (s.m+1),vi 0,vi d.length,.sl .fz 1 (ls.map vi)]))) b (some (139,[vi s.c.se,vi s.c.na,vi s.c.pg,vi s.c.z,vi s.c.pn,vi s.c.cm,vi s.c.ch,vi (s.m+1),.mh false N.o,vi (s.la+1),.sl .fz 4 (aS s.bi),.sl .fz 2 (pnV s.pi),.ref N.A.a 0]))) N.o (some (136,mpC (N.co+1) (iM (oM s.ob N.bo)++[(.int .i64 (s.la+1),.sl (.own (m+9) 113) 4 [.agg [vi (s.m+1),vi 0,vi d.length,.sl .fz 1 (ls.map vi)]],N.co)])))) b (some (139,[vi s.c.se,vi s.c.na,vi s.c.pg,vi s.c.z,vi s.c.pn,vi s.c.cm,vi s.c.ch,vi (s.m+1),.mh false N.o,vi (s.la+1),.sl (.own (m+11+14) 142) 4 (aS W),.sl .fz 2 (pnV s.pi),.ref N.A.a 0]))))=upd (upd (upd (jq (n+1+1) B) (n+1+1) (some (113,[vi (s.m+1),vi 0,vi d.length,.sl .fz 1 (ls.map vi)]))) N.o (some (136,mpC (N.co+1) (iM (oM (s.ob++[(s.la+1,[⟨s.m+1,0,d.length,ls⟩])]) (N.bo++[N.co])))))) b (some (139,[vi s.c.se,vi s.c.na,vi s.c.pg,vi s.c.z,vi s.c.pn,vi s.c.cm,vi s.c.ch,vi (s.m+1),.mh false N.o,vi (s.la+1),.sl .fz 4 (aS W),.sl .fz 2 (pnV s.pi),.ref N.A.a 0])):=by
   rw[hoM,L]
   rw[fV,fV,fV,fV,fV,fV,fV,fV,g.frz hB Om,g.frz hB Om]
   simp only[dm,dS,zX,UK hid,NT,nJ,O7]
   funext k
   simp only[upd]
   by_cases q:k=b
   .simp only[ah q];rfl
   .by_cases q2:k=N.o
    .simp only[ag q,ah q2];rfl
    .by_cases Y:k=n+1+1
     .simp only[ag q,ag q2,ah Y];rfl
     .simp only[ag q,ag q2,ag Y]
  obtain⟨F,l⟩:∃F:Bx,F=upd (upd (upd (jq (n+1+1) B) (n+1+1) (some (113,[vi (s.m+1),vi 0,vi d.length,.sl .fz 1 (ls.map vi)]))) N.o (some (136,mpC (N.co+1) (iM (oM (s.ob++[(s.la+1,[⟨s.m+1,0,d.length,ls⟩])]) (N.bo++[N.co])))))) b (some (139,[vi s.c.se,vi s.c.na,vi s.c.pg,vi s.c.z,vi s.c.pn,vi s.c.cm,vi s.c.ch,vi (s.m+1),.mh false N.o,vi (s.la+1),.sl .fz 4 (aS W),.sl .fz 2 (pnV s.pi),.ref N.A.a 0])):=⟨_,rfl⟩
  rw[<-l]at P
  have f1:F b=some (139,[vi s.c.se,vi s.c.na,vi s.c.pg,vi s.c.z,vi s.c.pn,vi s.c.cm,vi s.c.ch,vi (s.m+1),.mh false N.o,vi (s.la+1),.sl .fz 4 (aS W),.sl .fz 2 (pnV s.pi),.ref N.A.a 0]):=by rw[l,bW]
  have f2:F N.o=some (136,mpC (N.co+1) (iM (oM (s.ob++[(s.la+1,[⟨s.m+1,0,d.length,ls⟩])]) (N.bo++[N.co])))):=by rw[l,aV _ _ _ _ (jY f.ne.1),bW]
  have f3:∀k,k≠b->k≠N.o->k≠n+1+1->F k=B k:=fun k R k2 S=>by
   rw[l,aV _ _ _ _ R,aV _ _ _ _ k2,aV _ _ _ _ S]
   simp only[jq,ag S]
  clear l
  obtain⟨g1,g2,g3,g4⟩:=g.mod f (az _) (fun _ _=>rfl) f3
  refine Aj (DV _ [m+9,m+11+14]) (kz (s':=⟨e,F,m+11+21,h⟩) (r:=.tup [vi (s.m+1),vi 0]) ?_ ⟨jW _ _ _ _,?_,?_,P,az _⟩)
  .refine⟨F,_,rfl,g1,rfl,by omega,⟨N.o,N.bo++[N.co],N.co+1,A⟩,g2 _ _,?_,f2,by simp[f.hbo],g.ar.of Om g3,g4 _ _,by have:=f.lt;exact⟨by omega,by show N.o<_;omega⟩⟩
   rw[f1]
   show some (_,[_,_,_,_,_,_,_,_,_,_,_,_,V.ref N.A.a 0])=some (_,[_,_,_,_,_,_,_,_,_,_,_,_,V.ref A.a 0])
   rw[g.aa]
  .show unE (bD (Go.Pg.frz (m+11+14)) (bD (Go.Pg.frz (m+9)) (bM e h)))=e
   rw[kT (jl v C) Om,kT (jl v C) Om,aP]
  .show unH (bD (Go.Pg.frz (m+11+14)) (bD (Go.Pg.frz (m+9)) (bM e h)))=h
   rw[kT (jl v C) Om,kT (jl v C) Om,aQ]
def ahT(s:Sto)(n:Sml s)(k b:List Nat)(h:65536<b.length):Gxx 39 [.agg (stF s),vs k,.sl .fz 1 (bv b)] (.tup [.agg (stF s),vi 0,vi 11]):=by obtain⟨⟨c1,c,a,d,f,g,i⟩,m,la,ob,bi,l,pa⟩:=s;refine gI oW ?_;(repeat' first|refine wQ @aA ?_|refine tS ?_ ?_<;>intro j|fail);exact rE []
def ahU(s:Sto)(a:Sml s)(k b:List Nat)(h:b.length<=65536)(hl:(lkA k s.m s.bi).2=false):Gxx 39 [.agg (stF s),vs k,.sl .fz 1 (bv b)] (.tup [.agg (stF s),vi 0,vi 8]):=by have c:=Oi s a k s.m hl;obtain⟨⟨c1,d,f,g,i,j,n⟩,m,la,ob,bi,l,pa⟩:=s;refine gI oW ?_;(repeat' first|refine wP @aA c ?_|refine tS ?_ ?_<;>intro p|fail);exact rE []
def GK(l:List Bool)(i:Nat)(h:i<l.length):(l.map vb)[i]?=some (vb (l.getD i false)):=by grind
structure PutAt (s:Sto) (k b:List Nat) (i x np:Nat) (js:Nat->Nat) (ps:List (List Nat)) (sh:List Bool):Prop where
 at':AtV s k s.m i x
 bl:b.length<=65536
 z:8<=s.c.z/\s.c.z<=1024
 pg:PgOk s.pa (verOf s i x).p js
 pl:(verOf s i x).p.length<=100000
 npE:np=nPg s.c.z.toNat b
 psE:ps=ckP s.c.z.toNat b np
 shE:sh=shA (datA s.pa js (verOf s i x).p.length) ps np
def CQ{l:List (List Nat)}{n:Nat}(h:∀q∈l,q.length<=n)(i:Nat):(l.getD i []).length<=n:=by grind
def xC(s:Sto)(i np:Nat)(b:List Nat)(op:List Int)(ps:List (List Nat))(sh:List Bool):Sto :=
 {s with m:=s.m+1,ob:=s.ob.set i ((s.ob.getD i (0,[])).1,qP (s.ob.getD i (0,[])).2 ⟨s.m+1,0,b.length,(puS s.pa ps sh op np).2⟩),pa:=(puS s.pa ps sh op np).1}
structure PutOk (s:Sto) (i x:Nat) (B:Int):Prop where
 cm:s.m<s.c.cm
 pg:s.c.pg<=16384
 ch:vCh (s.ob.getD i (0,[])).2
 cl:0<(s.ob.getD i (0,[])).2.length
 ct:((s.ob.getD i (0,[])).2.getD ((s.ob.getD i (0,[])).2.length-1) vr0).t=0
 cf:((s.ob.getD i (0,[])).2.getD ((s.ob.getD i (0,[])).2.length-1) vr0).f<s.m+1
 m0:0<=s.m
 B0:0<=B/\B<=100000000
 pn:PgN s.pa (verOf s i x).p B
def La{o w:List (List Nat)}{n i:Nat}(h:(shA o w n).getD i false=true):i<o.length:=by grind[shA]
def U7(s:Sto)(G:Sml s)(k b:List Nat)(i x np:Nat)(js:Nat->Nat)(ps:List (List Nat))(sh:List Bool)(H:PutAt s k b i x np js ps sh)(hcm:s.c.cm<=1048576)(hm0:s.m<=1048576)(F:List V)
  (hv:((s.c.cm<=s.m\/s.c.pg<s.pa.length+frC sh np)/\F=[.agg (stF s),vi 0,vi 14])\/(s.pa.length+frC sh np<=s.c.pg/\(∃B,PutOk s i x B)/\F=[.agg [vi s.c.se,vi s.c.na,vi s.c.pg,vi s.c.z,vi s.c.pn,vi s.c.cm,vi s.c.ch,vi (s.m+1),vi s.la,.sl (.own 0 134) 2 (obV (xC s i np b (verOf s i x).p ps sh).ob),.sl .fz 4 (aS s.bi),.sl .fz 2 (pnV s.pi),vi s.c.pg,.sl .fz 3 (paV (puS s.pa ps sh (verOf s i x).p np).1)],vi (s.m+1),vi 0])) :
  Gxx 39 [.agg (stF s),vs k,.sl .fz 1 (bv b)] (.tup F):=by
 obtain⟨h1,h2,h3,h4,h5,rfl,rfl,p⟩:=H
 have k1:=Hm s G k s.m i x h1
 have k2:=N7 b s.c.z Om
 rw[QD _ _ h3]at k2
 have k2:=Good.fzt (ws:=[.sl .fz 1 (pgV (ckP s.c.z.toNat b (nPg s.c.z.toNat b))),vi 0]) k2 rfl ⟨aC _,aC _,trivial⟩
 have k3:=Vo s G _ js h4 h5
 have hpl:=G.pa
 have hol:=G.ob
 have a:=sN s.c.z.toNat b (nPg s.c.z.toNat b)
 have J:=GM s.c.z.toNat b (nPg s.c.z.toNat b)
 have hnp:nPg s.c.z.toNat b<=100000:=by unfold nPg;exact iZ (Nat.div_le_self _ _) Om
 have hdl:=qW s.pa js (verOf s i x).p.length
 have k4:=Good.fzr (r':=.sl .fz 1 (((shA (datA s.pa js (verOf s i x).p.length) (ckP s.c.z.toNat b (nPg s.c.z.toNat b)) (ckP s.c.z.toNat b (nPg s.c.z.toNat b)).length)).map vb)) (ah5 (datA s.pa js (verOf s i x).p.length) (ckP s.c.z.toNat b (nPg s.c.z.toNat b)) Om Om (fun i=>iZ (CQ (GX _ _ _ h4) i) Om) (fun i=>iZ (CQ J i) Om)) rfl (.inl (.inl rfl))
 have k5:=NV s
 rw[a,<-p]at k4
 have hsl:sh.length=nPg s.c.z.toNat b:=by rw[p];simp[shA]
 have P:∀i',sh.getD i' false=true->i'<(verOf s i x).p.length:=fun i' h=>by rw[p]at h;have:=La h;omega
 have L:=fun n=>(zV sh n n (az _)).2
 have X:=fun n h=>(zV sh n (nPg s.c.z.toNat b) h).1
 have y:=h1.il
 have hcm':=G.ch _ (by rw[gW,dY y];exact ji y:(s.ob.getD i (0,[]))∈s.ob)
 have Z:=Ib s.ob i y
 unfold xC at hv
 clear h1 h4
 generalize datA s.pa js (verOf s i x).p.length=old at *
 generalize N:verOf s i x=v at *
 obtain⟨vf,vt,vz,vp⟩:=v
 generalize nPg s.c.z.toNat b=np at *
 generalize ckP s.c.z.toNat b np=ps at *
 clear p G
 obtain⟨⟨c1,c2,I,T,c5,U,c7⟩,m,la,ob,bi,l,pa⟩:=s
 simp only at *
 refine gI (fJ [] mix) ?_
 (repeat' first|refine wED (aI @pgE @aA) (Ad k1 k2 k3 k4) ?_|refine tE ?_ ?_<;>intro c|fail)
 refine aJ (fun j:Nat=>mkA [(2,.sl .fz 1 (bv b)),(3,.ref 0 0),(6,.ref 1 0),(9,vi i),(10,.ref 2 0),(12,.sl .fz 1 (pgV ps)),(14,.sl .fz 1 (sh.map vb)),(15,vi (frC sh j)),(16,vi j)] [(0,(33,stF ⟨⟨c1,c2,I,T,c5,U,c7⟩,m,la,ob,bi,l,pa⟩)),(1,(33,[vi 0,vi 0,vi 0,vi 0,vi 0,vi 0,vi 0,vi 0,vi 0,nls,nls,nls,vi 0,nls])),(2,(113,[vi vf,vi vt,vi vz,.sl .fz 1 (vp.map vi)]))] 3 (fun _=>.top)) (fun j=>j<=np) (fun j=>np-j) 0 [] [0,1,2] ?_ (ax _) ?_
 .exact kX
 .rintro j hj;rcases au j np with d|Y
  .have hg:=GK sh j Om;have C:frC sh (j+1)=if sh.getD j false=true then frC sh j else frC sh j+1:=rfl
   have:=L j;cases q:sh.getD j false
   .rw[q]at hg C;rw[ag Aa]at C;(repeat' first|refine wU (Ad @pgE @aj.{0,0} a @hg) ?_|refine tE ?_ ?_<;>intro c|fail);(refine bL (j+1) [] [0,1,2] (d) ?_;(refine kM ?_ ?_;(repeat'(first|exact ae|refine dQ _ _ rfl rfl ?_ ?_));all_goals(try simp only[pgm,simprocAttr]);all_goals(try(repeat' apply aI));all_goals(try exact gz)));all_goals exact eF (by rw[C];omega)
   .rw[q]at hg C;rw[ah rfl]at C;(repeat' first|refine wU (Ad @pgE @aj.{0,0} a @hg) ?_|refine tE ?_ ?_<;>intro c|fail);(refine bL (j+1) [] [0,1,2] (d) ?_;(refine kM ?_ ?_;(repeat'(first|exact ae|refine dQ _ _ rfl rfl ?_ ?_));all_goals(try simp only[pgm,simprocAttr]);all_goals(try(repeat' apply aI));all_goals(try exact gz)));all_goals exact eF (by rw[C])
  .have:j=np:=Om;subst this;have hfj:=L j;rcases hv with⟨hf,rfl⟩|⟨hf,⟨B,hB⟩,rfl⟩
   .by_cases q1:U<=m
    ·(repeat' first|refine wED (Ac @pgE @aj.{0,0} a) k5 ?_|refine tE ?_ ?_<;>intro c|fail);exact rE []
    .have q2:I<pa.length+frC sh j:=Om;(repeat' first|refine wED (Ac @pgE @aj.{0,0} a) k5 ?_|refine tE ?_ ?_<;>intro c|fail);exact rE []
   .obtain⟨b1,b2,b3,Q,R,b6,b7,b8,S⟩:=hB;rw[N]at S;simp only at b1 b2 b3 Q R b6 b7 S;(repeat' first|refine wED (Ac @pgE @aj.{0,0} a) k5 ?_|refine tE ?_ ?_<;>intro c|fail);refine aJ (fun n:Nat=>mkA [(3,.ref 0 0),(6,.ref 1 0),(9,vi i),(10,.ref 2 0),(12,.sl .fz 1 (pgV ps)),(14,.sl .fz 1 (sh.map vb)),(17,.ref 3 0),(18,vi n)] [(0,(33,stF ⟨⟨c1,c2,I,T,c5,U,c7⟩,m+1,la,ob,bi,l,(puS pa ps sh vp n).1⟩)),(1,(33,[vi 0,vi 0,vi 0,vi 0,vi 0,vi 0,vi 0,vi 0,vi 0,nls,nls,nls,vi 0,nls])),(2,(113,[vi vf,vi vt,vi vz,.sl .fz 1 (vp.map vi)])),(3,(113,[vi (m+1),vi 0,vi b.length,.sl (.own 0 3) 1 ((puS pa ps sh vp n).2.map vi)]))] 4 (fun _=>.top)) (fun n=>n<=j) (fun n=>j-n) 0 [] [0,1,2,3] ?_ (ax _) ?_
    ·(refine kM ?_ ?_;(repeat'(first|exact ae|refine dQ _ _ rfl rfl ?_ ?_));all_goals(try simp only[pgm,simprocAttr]);all_goals(try(repeat' apply aI));all_goals(try exact gz));all_goals first|exact iT rfl|(show Gen _ _ (V.sl .fz 3 (paV pa)) (V.sl .fz 3 (paV pa));simp only[jS])
    .rintro n C;rcases au n j with d|Y
     .obtain⟨a1,a2,a3,a4⟩:=I9 (puS pa ps sh vp n).1;obtain⟨d1,d2,d3⟩:=P5 S b8.1 ps sh P n;have hg:=AY ps n Om;have g:=GK sh n Om;have hm:=iZ (CQ J n) (Om:T.toNat<=1024);have hF:Fits (((puS pa ps sh vp n).2.map vi).length+1) 8:=by rw[aj,d3];exact⟨by simp only[maxLen];omega,by omega⟩
      have hfn:=X (n+1) d;have K:frC sh (n+1)=if sh.getD n false=true then frC sh n else frC sh n+1:=rfl
      have hx:puS pa ps sh vp (n+1)=if sh.getD n false=true then(uU (vp.getD n 0) (puS pa ps sh vp n).1,(puS pa ps sh vp n).2++[vp.getD n 0])else(jH ((alN (puS pa ps sh vp n).1:Nat),1,ps.getD n []) (puS pa ps sh vp n).1,(puS pa ps sh vp n).2++[((alN (puS pa ps sh vp n).1:Nat):Int)]):=rfl
      cases q:sh.getD n false
      .rw[q]at g;rw[q,ag Aa]at hx K;have E:=UW I (puS pa ps sh vp n).1 (ps.getD n []) (alN (puS pa ps sh vp n).1) Om hm Om a1 a2 a3 Om;have u:(puS pa ps sh vp n).2.map vi++[vi (alN (puS pa ps sh vp n).1:Nat)]=(puS pa ps sh vp (n+1)).2.map vi:=by rw[hx];simp
       have f:jH ((alN (puS pa ps sh vp n).1:Nat),1,ps.getD n []) (puS pa ps sh vp n).1=(puS pa ps sh vp (n+1)).1:=by rw[hx]
       rw[f]at E;clear hx f;generalize(alN (puS pa ps sh vp n).1:Nat)=an at *;generalize puS pa ps sh vp n=A at *;generalize t:puS pa ps sh vp (n+1)=A2 at *;(repeat' first|refine wV (Ad @pgE @aj.{0,0} a g) ?_|refine tE ?_ ?_<;>intro c|fail);refine oh mix ?_;(repeat'(first|(simp(disch:=first|exact dqz|fail) only[pgz,simprocAttr,pgE,pga,aj,a,hg])|((with_reducible show eX _ _ _ _ _ _);refine cU E ?_)|((with_reducible show mX _ _ _ _ _ _ _);first|refine cA E ?_)|(refine tE ?_ ?_<;>intro c)|(with_reducible refine cKA ?_)|((with_reducible show gJ _ _ _ _ _);first|refine lG (by decide +kernel) ?_|refine lF (by decide +kernel) ?_)|refine xK ?_|fail));refine zt mix (fun _=>false) [10] ?_;(repeat'(first|(simp(disch:=first|exact dqz|fail) only[pgz,simprocAttr,pgE,pgF,id_eq.{1},u,hF])|(refine tE ?_ ?_<;>intro c)|(with_reducible refine sQ ?_)|(refine mM _ _ _ _ _ ?_)|(with_reducible refine cK ?_)));(refine bL (n+1) [0] [0,1,2,3] (d) ?_;(refine kM ?_ ?_;(repeat'(first|exact ae|refine dQ _ _ rfl rfl ?_ ?_));all_goals(try simp only[pgm,simprocAttr]);all_goals(try(repeat' apply aI));all_goals(try exact gz)));all_goals(rw[t];first|exact fE rfl rfl|simp only[jS])
      .rw[q]at g;rw[q,ah rfl]at hx K;have N:=P n q;have M:=EN vp n N;obtain⟨z,z1,_,z2,_⟩:=CW (vp.getD n 0) (puS pa ps sh vp n).1 0 (d1.1 _ (by rw[gW,dY N];exact ji N));have hz:=d1.2 ((puS pa ps sh vp n).1.getD z (0,0,[])) (by rw[gW,dY (Om:z<(puS pa ps sh vp n).1.length)];exact ji _);have E:=ahz I (puS pa ps sh vp n).1 (vp.getD n 0) z Om Om z1 ⟨hz.1,by omega⟩;have u:(puS pa ps sh vp n).2.map vi++[vi (vp.getD n 0)]=(puS pa ps sh vp (n+1)).2.map vi:=by rw[hx];simp
       have f:nT z (puS pa ps sh vp n).1=(puS pa ps sh vp (n+1)).1:=by rw[hx];simp only[uU,z1,fC]
       rw[f]at E;clear hx f;generalize puS pa ps sh vp n=A at *;generalize t:puS pa ps sh vp (n+1)=A2 at *;(repeat' first|refine wV (Ad @pgE @aj.{0,0} a g) ?_|refine tE ?_ ?_<;>intro c|fail);refine oh mix ?_;(repeat'(first|(simp(disch:=first|exact dqz|fail) only[pgz,simprocAttr,pgE,pga,aj,a,M])|((with_reducible show eX _ _ _ _ _ _);refine cU E ?_)|((with_reducible show mX _ _ _ _ _ _ _);first|refine cA E ?_)|(refine tE ?_ ?_<;>intro c)|(with_reducible refine cKA ?_)|((with_reducible show gJ _ _ _ _ _);first|refine lG (by decide +kernel) ?_|refine lF (by decide +kernel) ?_)|refine xK ?_|fail));refine zt mix (fun _=>false) [11] ?_;(repeat'(first|(simp(disch:=first|exact dqz|fail) only[pgz,simprocAttr,pgE,pgF,id_eq.{1},aj,M,u,hF])|(refine tE ?_ ?_<;>intro c)|(with_reducible refine sQ ?_)|(refine mM _ _ _ _ _ ?_)|(with_reducible refine cK ?_)));(refine bL (n+1) [0] [0,1,2,3] (d) ?_;(refine kM ?_ ?_;(repeat'(first|exact ae|refine dQ _ _ rfl rfl ?_ ?_));all_goals(try simp only[pgm,simprocAttr]);all_goals(try(repeat' apply aI));all_goals(try exact gz)));all_goals(rw[t];first|exact fE rfl rfl|simp only[jS])
     .have:n=j:=Om;subst this;have W:Fits (obV ob).length 32:=by rw[aj];exact⟨by simp only[maxLen];omega,by omega⟩
      have k8:Gxx 121 [.sl .fz 4 (vrV (ob.getD i (0,[])).2),.agg (vrF ⟨m+1,0,b.length,(puS pa ps sh vp n).2⟩)] (.tup [.sl (.own 0 113) 4 (vrV (qP (ob.getD i (0,[])).2 ⟨m+1,0,b.length,(puS pa ps sh vp n).2⟩)),vi 0]):=by unfold qP;rw[ah ⟨Q,R⟩];exact agX (ob.getD i (0,[])).2 ⟨m+1,0,b.length,(puS pa ps sh vp n).2⟩ Om b3 Q (by simp only;omega) rfl (by simp only;omega) b6 R
      have k8:=Good.fzt (ws:=[.sl .fz 4 (vrV (qP (ob.getD i (0,[])).2 ⟨m+1,0,b.length,(puS pa ps sh vp n).2⟩)),vi 0]) k8 rfl ⟨aC _,aC _,trivial⟩;have r:(obV ob).set i (.agg [vi (ob.getD i (0,[])).1,.sl .fz 4 (vrV (qP (ob.getD i (0,[])).2 ⟨m+1,0,b.length,(puS pa ps sh vp n).2⟩))])=obV (ob.set i ((ob.getD i (0,[])).1,qP (ob.getD i (0,[])).2 ⟨m+1,0,b.length,(puS pa ps sh vp n).2⟩)):=by simp[zB]
      generalize ob.set i ((ob.getD i (0,[])).1,qP (ob.getD i (0,[])).2 ⟨m+1,0,b.length,(puS pa ps sh vp n).2⟩)=nob at *;generalize qP (ob.getD i (0,[])).2 ⟨m+1,0,b.length,(puS pa ps sh vp n).2⟩=nch at *;(repeat' first|refine wV (Ad @pgE @aj.{0,0} a W) ?_|refine tE ?_ ?_<;>intro c|fail);refine zt mix (fun _=>false) [0] ?_;(repeat'(first|(simp(disch:=first|exact dqz|fail) only[pgz,simprocAttr,pgE,pgF,id_eq.{1},aj,Z,r])|((with_reducible show eX _ _ _ _ _ _);refine cU k8 ?_)|(refine tE ?_ ?_<;>intro c)|(with_reducible refine cK ?_)));refine oh mix ?_;(repeat'(first|(simp(disch:=first|exact dqz|fail) only[pgz,simprocAttr,pgE,pga,id_eq.{1},aj,r])|(refine tE ?_ ?_<;>intro c)|(with_reducible refine cKA ?_)|((with_reducible show gJ _ _ _ _ _);first|refine lG (by decide +kernel) ?_|refine lF (by decide +kernel) ?_)|refine xK ?_|fail));exact rE [4]
def aoe(a b:List Nat)(ha:a.length<=1048576)(hb:b.length<=1048576):Gxx 215 [.sl .fz 1 (bv a),.sl .fz 1 (bv b)] (vb (decide (sB a=sB b))):=by refine gI oW ?_;(repeat' first|refine wQ @cvB ?_|refine tS ?_ ?_<;>intro h|fail);exact rE []
def XJ(o w:List (List Nat))(hl:o.length<=100000)(l:w.length<=100000)(ho:∀i,(o.getD i []).length<=1048576)(f:∀i,(w.getD i []).length<=1048576):Gxx 116 [.sl .fz 1 (pgV o),.sl .fz 1 (pgV w)] (.sl (.own 0 4) 1 ((shA o w w.length).map vb)):=by
 refine gI oW ?_;(repeat' first|refine wQ @aj.{0,0} ?_|refine tS ?_ ?_<;>intro b|fail);refine aJ (fun i:Nat=>mkA [(0,.sl .fz 1 (pgV o)),(5,.sl (.own 0 4) 1 ((shA o w i).map vb)),(8,.sl .fz 1 (pgV w)),(9,vi w.length),(10,vi i)] [] 1 (fun _=>.top)) (fun i=>i<=w.length) (fun i=>w.length-i) 0 [] [] ?_ (ax _) ?_
 .exact kX;all_goals first|exact iT rfl|skip
 .rintro i hi;rcases au i w.length with a|j
  .have hg:=AY w i a;have g:Fits (((shA o w i).map vb).length+1) 1:=by rw[aj,shA,aj,List.length_range];exact⟨by simp only[maxLen];omega,by omega⟩
   rcases au i o.length with h1|h1
   .have c:=AY o i h1;have d:=KZ o w i (decide (sB (o.getD i [])=sB (w.getD i []))) (by simp[h1]);have k:=aoe _ _ (ho i) (f i);generalize decide (sB (o.getD i [])=sB (w.getD i []))=q at *;(repeat' first|refine wP (Ae @aj.{0,0} @hg c g d) k ?_|refine tS ?_ ?_<;>intro b|fail);exact bX (i+1) [0] [] a
   .have d:=KZ o w i false (by simp;intro h;omega);(repeat' first|refine wQ (Ad @aj.{0,0} @hg g d) ?_|refine tS ?_ ?_<;>intro b|fail);exact bX (i+1) [0] [] a
  .have:i=w.length:=Om;subst this;(repeat' first|refine wQ @aj.{0,0} ?_|refine tS ?_ ?_<;>intro b|fail);exact rE [0]
def aop(e:Nat->V)(bx:Bx)(n:Nat)(h:Nat->V){b:Nat}(k d:List Nat)(hd:65536<d.length)(a:d.length<=1048576) :
  Gxz 38 [.ref b 0,vs k,.sl .fz 1 (bv d)] ⟨e,bx,n,h⟩ ⟨e,bx,n,h⟩ (.tup [vi 0,vi 11]):=by
 refine gZ oW ?_
 (repeat' first|refine wQ (Ad @aK @aH @aG @aA) ?_|refine tS ?_ ?_<;>intro c|fail)
 refine bC (jW _ _ _ _) ?_
 rw[aP,aQ]
def ut(s:Sto)(h:0<=s.m):nG s s.m=0:=by grind[nG]
def aor(e:Nat->V)(bx:Bx)(n:Nat)(h:Nat->V){b:Nat}{s:Sto}{N:SN}(H:StAt bx n b s N)(f:Sml s)(c:0<=s.m)(k d:List Nat)(hd:d.length<=65536)(hl:(lkA k s.m s.bi).2=false) :
  Gxz 38 [.ref b 0,vs k,.sl .fz 1 (bv d)] ⟨e,bx,n,h⟩ ⟨e,bx,n,h⟩ (.tup [vi 0,vi 8]):=by
 refine GoodZ.rd (r:=.tup [vi 0,vi 8]) (only (N.D b) bx) H.fr rfl ?_ e bx h (fun b x hb=>(iC hb).2)
 intro e bx' h i hB j hx
 have a:=H.on hx
 have h1:=a.hb
 have g:=fun e h=>XT e bx' n a f k s.m (ut s c) hl h
 refine⟨n+1,upd (upd bx' n (some (113,[y0,y0,y0,yn]))) n (some (113,[y0,y0,y0,yn])),fun k hk=>by rw[aV _ _ _ _ Om,aV _ _ _ _ Om],?_⟩
 refine gZ oW ?_
 (repeat' first|refine wQ (Ae @aK @aH @aG @aA @h1) ?_|refine aU _ (g _ _) rfl ?_|refine tS ?_ ?_<;>intro l|fail)
 (refine bC (by first|exact aW _ _ _|exact jW _ _ _ _|(simp(disch:=first|assumption|omega|(simp only[Fits,maxLen,pgq]at *;omega)) only[pgr,pgo,tyf,simprocAttr,bW];done)|(simp(disch:=first|assumption|omega|(simp only[Fits,maxLen,pgq]at *;omega)) only[pgr,pgo,tyf,simprocAttr,bW];rfl)) ?_;rw[aP,aQ])
def Ux(l:List Bool):V.flatL (l.map vb)=true:=by induction l<;>grind[V.flat,V.flatL]
def aoq(e:Nat->V)(bx:Bx)(n:Nat)(h:Nat->V){b:Nat}{s:Sto}{N:SN}(H:StAt bx n b s N)(T:Sml s)(h0:0<=s.m)(I:(s.ob.map (·.1)).Nodup)(J:(s.pa.map (·.1)).Nodup)(k d:List Nat)(i x np:Nat)(js:Nat->Nat)(ps:List (List Nat))(sh:List Bool)(X:PutAt s k d i x np js ps sh)(hf:s.c.cm<=s.m\/s.c.pg<s.pa.length+frC sh np) :
  Gxz 38 [.ref b 0,vs k,.sl .fz 1 (bv d)] ⟨e,bx,n,h⟩ ⟨e,bx,n,h⟩ (.tup [vi 0,vi 14]):=by
 refine GoodZ.rd (r:=.tup [vi 0,vi 14]) (only (N.D b) bx) H.fr rfl ?_ e bx h (fun b x hb=>(iC hb).2)
 intro e bx' h hE hB hH hx
 have c:=H.on hx
 have h1:=c.hb
 obtain⟨Y,g2,Z,g4,P,Q,E,R⟩:=X
 have k1:=fun e h=>KG e bx' n h c T I k s.m i x (ut s h0) Y h
 have k2:=KE d s.c.z Z Om
 rw[<-Q,<-E]at k2
 have K:ps.length=np:=by rw[E,sN]
 have L:sh.length=np:=by rw[R];simp[shA]
 have S:np<=d.length:=by rw[Q];exact H9 _ _ Om
 have U:=XJ (datA s.pa js (verOf s i x).p.length) ps (by rw[qW];exact P) Om (CQ (n:=1048576) fun q p=>by have:=GX _ _ _ g4 q p;omega) (CQ (n:=1048576) fun q p=>by rw[E]at p;have:=GM _ _ _ q p;omega)
 rw[K,<-R]at U
 generalize verOf s i x=v at *
 obtain⟨u,y,A,vp⟩:=v
 generalize(s.ob.getD i (0,[])).1=oi at *
 simp only at *
 have C:StAt (upd (upd bx' n (some (113,[y0,y0,y0,yn]))) n (some (113,[vi u,vi y,vi A,.sl .fz 1 (vp.map vi)]))) (n+1) b s N:=(c.up (az _) (some (113,[y0,y0,y0,yn]))).of (az _) fun k hk=>aV _ _ _ _ (by have:=c.ltD k hk;omega)
 have k3:=C.look fun e m h H=>PR e _ m h H J ⟨u,y,A,vp⟩ js g4 P
 refine⟨n+100,upd (upd bx' n (some (113,[y0,y0,y0,yn]))) n (some (113,[vi u,vi y,vi A,.sl .fz 1 (vp.map vi)])),fun k hk=>by rw[aV _ _ _ _ Om,aV _ _ _ _ Om],?_⟩
 refine gZ oW ?_
 have G:(V.sl (.own 0 4) 1 (sh.map vb)).flat=true:=Ux sh
 have g:(b=n)=False:=eq_false (by have:=c.lt.1;omega)
 (repeat' first|refine wEX (Ah @aK @aH @aG @aA @h1 g @aj.{0,0} L) (aI k2 k3) ?_|refine aU _ (k1 _ _) rfl ?_|refine cF U G ?_|refine tE ?_ ?_<;>intro l|fail)
 refine rF (fun j:Nat=>[(0,.ref b 0),(14,vi (frC sh j)),(52,.sl (.own (n+1+1) 4) 1 (sh.map vb)),(53,vi np),(54,vi j)]) (fun _=>upd (upd bx' n (some (113,[y0,y0,y0,yn]))) n (some (113,[vi u,vi y,vi A,.sl .fz 1 (vp.map vi)]))) (fun _=>n+1+1+1) (fun _=>bM e h) (fun j=>j<=np) (fun j=>np-j) 0 ?_ (fun _=>.inl rfl) (az _) rfl (ax _) ?_
 .exact eE
 .rintro j hj;rcases au j np with f|hge
  .have a:((j:Int)<(np:Int))=True:=eq_true Om;have hg:=GK sh j Om;have F:=(zV sh j j (az _)).2;have hx:frC sh (j+1)=if sh.getD j false=true then frC sh j else frC sh j+1:=rfl
   cases q:sh.getD j false
   .rw[q]at hg hx;rw[ag Aa]at hx;(repeat' first|refine wQ (Ad @aH @aG a @hg) ?_|refine tS ?_ ?_<;>intro l|fail);refine qo (j+1) f Om ?_ (fun _=>.inl rfl) (az _) rfl;rw[hx];((try simp only[lu,lw,jQ,kW,pgo,simprocAttr,jb,lN]);try(repeat'(first|exact ae|rfl|apply aI)))
   .rw[q]at hg hx;rw[ah rfl]at hx;(repeat' first|refine wQ (Ad @aH @aG a @hg) ?_|refine tS ?_ ?_<;>intro l|fail);refine qo (j+1) f Om ?_ (fun _=>.inl rfl) (az _) rfl;rw[hx];((try simp only[lu,lw,jQ,kW,pgo,simprocAttr,jb,lN]);try(repeat'(first|exact ae|rfl|apply aI)))
  .have:j=np:=Om;subst this;have a:((j:Int)<(j:Int))=False:=eq_false Om;have t:=C.look fun e m h H=>AV e _ m h H
   have W:=C.look fun e m h H=>KD e _ m h H
   have F:=(zV sh j j (az _)).2;have hpa:=T.pa;by_cases M:s.c.cm<=s.m
   .rw[eU M]at t;(repeat' first|refine wEX (Ac @aH @aG a) (aI t W) ?_|refine tE ?_ ?_<;>intro l|fail);(refine iL (by first|rfl|skip) (by first|omega|skip))
   .rw[dK M]at t;have q3:((s.pa.length:Int)+(frC sh j:Int) > s.c.pg)=True:=eq_true Om;(repeat' first|refine wEX (Af @aH @aG a @h1 g @q3) (aI t W) ?_|refine tE ?_ ?_<;>intro l|fail);(refine iL (by first|rfl|skip) (by first|omega|skip))
theorem adm{α:Type}(b:α->α->Bool)(x:α)(l:List α):(fH b x l).Perm (x::l):=by
 induction l with
 |nil=>exact List.Perm.refl _
 |cons y ys i =>
  unfold fH;split
  .exact(List.Perm.cons y i).trans (List.Perm.swap x y ys)
  .simp_all
def PZ{pa:List Pa}(h:(pa.map (·.1)).Nodup)(ps:List (List Nat))(sh:List Bool)(op:List Int):∀n,((puS pa ps sh op n).1.map (·.1)).Nodup
 |0=>h
 |n+1=>by
  have i:=PZ h ps sh op n;unfold puS;split
  .grind[uU,Oz]
  .obtain⟨_,_,a,_⟩:=I9 (puS pa ps sh op n).1;have b:((alN (puS pa ps sh op n).1:Nat):Int)∉(puS pa ps sh op n).1.map (·.1):=fun hm=>by have:=(Aq _ _ 0).1 hm;omega
   have hp:((jH ((alN (puS pa ps sh op n).1:Nat),1,ps.getD n []) (puS pa ps sh op n).1).map (·.1)).Perm (((alN (puS pa ps sh op n).1:Nat):Int)::(puS pa ps sh op n).1.map (·.1)):=by grind[jH,puS,adm,List.reverse_perm]
   grind
def agn{n m:Nat}{bx:Bx}(h:FrB n bx)(hm:n<=m):FrB m bx:=fun k x hx v hv =>(Jc (fun t a=>by cases t<;>simp_all[Tag.gf]<;>omega) (fun b hb=>by simp at *;omega)).1 v (h k x hx v hv)
def aoo(e:Nat->V)(bx:Bx)(n:Nat)(h:Nat->V){b:Nat}{s:Sto}{N:SN}(H:StAt bx n b s N)(hs:Sml s)(h0:0<=s.m)(Z:(s.ob.map (·.1)).Nodup)(hnp:(s.pa.map (·.1)).Nodup)(k d:List Nat)(i x np:Nat)(js:Nat->Nat)(ps:List (List Nat))(sh:List Bool)(HP:PutAt s k d i x np js ps sh)(B:Int)(G:PutOk s i x B)(hcm2:s.c.cm<=1048576)(hf:s.pa.length+frC sh np<=s.c.pg)(hcp:∀v∈(s.ob.getD i (0,[])).2,v.p.length<=100000) :
  GoodE Tryz.prog 38 [.ref b 0,vs k,.sl .fz 1 (bv d)] ⟨e,bx,n,h⟩ (Chg e bx n h (N.D b) (SMod N b n (xC s i np d (verOf s i x).p ps sh) (.tup [vi (s.m+1),vi 0]))):=by
 refine GoodE.fr (only (N.D b) bx) H.fr (N.D b) _ SMod.st ?_ e bx h (fun b x hb=>(iC hb).2)
 intro e bx' h hE hB hH hx
 have f:=H.on hx
 have h1:=f.hb
 obtain⟨g1,g2,g3,g4,g5,g6,g7,g8⟩:=HP
 have k1:=fun e h=>KG e bx' n h f hs Z k s.m i x (ut s h0) g1 h
 have k2:=KE d s.c.z g3 Om
 rw[<-g6,<-g7]at k2
 have hpl:ps.length=np:=by rw[g7,sN]
 have hps:=Tf s.c.z.toNat d Om
 rw[<-g6,<-g7]at hps
 have hsl:sh.length=np:=by rw[g8];simp[shA]
 have hst:∀i',sh.getD i' false=true->i'<(verOf s i x).p.length:=fun i' h=>by rw[g8]at h;have:=La h;rw[qW]at this;exact this
 have hnpd:np<=d.length:=by rw[g6];exact H9 _ _ Om
 have k4:=XJ (datA s.pa js (verOf s i x).p.length) ps (by rw[qW];exact g5) Om (CQ (n:=1048576) fun q L=>by have:=GX _ _ _ g4 q L;omega) (CQ (n:=1048576) fun q L=>by rw[g7]at L;have:=GM _ _ _ q L;omega)
 rw[hpl,<-g8]at k4
 have hpu:=fun n=>P5 G.pn G.B0.1 ps sh hst n
 have J:=g1.il
 have Y:=fun(B:Bx) (m:Nat) (H:StAt B m b s N)=>H.obj Z i J
 have hpn:=G.pn
 unfold xC
 generalize hvv:verOf s i x=v at *
 obtain⟨R,S,T,vp⟩:=v
 simp only at *
 have H1:StAt (upd (upd bx' n (some (113,[y0,y0,y0,yn]))) n (some (113,[vi R,vi S,vi T,.sl .fz 1 (vp.map vi)]))) (n+1) b s N:=(f.up (az _) (some (113,[y0,y0,y0,yn]))).of (az _) fun k hk=>aV _ _ _ _ (by have:=f.ltD k hk;omega)
 have k3:=H1.look fun e m h H=>PR e _ m h H hnp ⟨R,S,T,vp⟩ js g4 g5
 have k5:=H1.look fun e m h H=>AV e _ m h H
 rw[dK (by have:=G.cm;omega)]at k5
 have k6:=H1.look fun e m h H=>KD e _ m h H
 have hfl:(V.sl (.own 0 4) 1 (sh.map vb)).flat=true:=Ux sh
 have hne:(b=n)=False:=eq_false (by have:=f.lt.1;omega)
 refine lg (fJ [24,25,28] mix) Tryz.func38 rfl Tryz.results38 rfl Za (fP Za) ?_
 (repeat' first|refine wED (A8 @pgE @aK @bu @bz @pgp @aA @h1 @hne (aI @aj.{0,0} @hsl)) (aI k2 k3) ?_|(refine tC ?_;first|refine aU _ (k1 _ _) rfl ?_|refine cF k4 hfl ?_)|refine tE ?_ ?_<;>intro t|fail)
 refine CX (ι:=Nat) (fun j=>⟨ja [(0,.ref b 0),(2,.sl .fz 1 (bv d)),(8,vi (s.ob.getD i (0,[])).1),(9,.ref n 0),(11,.sl (.own (n+1) 60) 1 (pgV ps)),(13,.sl (.own (n+1+1) 4) 1 (sh.map vb)),(14,vi (frC sh j)),(52,.sl (.own (n+1+1) 4) 1 (sh.map vb)),(53,vi np),(54,vi j)],upd (upd bx' n (some (113,[y0,y0,y0,yn]))) n (some (113,[vi R,vi S,vi T,.sl .fz 1 (vp.map vi)])),n+1+1+1,bM e h⟩) (fun j=>j<=np) (fun j=>np-j) 0 ?_ (ax _) ?_
 .refine mJ (lI ?_) (fun c=>.inl rfl) (az _);((try simp only[lu,lw,jQ,kW,pgo,simprocAttr,jb,lN]);try(repeat'(first|exact ae|rfl|apply aI)))
 intro j hj
 rcases au j np with E|hge
 .have p:((j:Int)<(np:Int))=True:=eq_true Om;have hg:=GK sh j Om;have hfc:=(zV sh j j (az _)).2;have hx:frC sh (j+1)=if sh.getD j false=true then frC sh j else frC sh j+1:=rfl
  cases q:sh.getD j false
  .rw[q]at hg hx;rw[ag Aa]at hx;(repeat' first|refine wU (Af @pgE @bu @bz @pgp p @hg) ?_|refine tE ?_ ?_<;>intro t|fail);refine wz (j+1) E (by show np-(j+1)<np-j;omega) (mJ (lI ?_) (fun c=>.inl rfl) (az _));rw[hx];((try simp only[lu,lw,jQ,kW,pgo,simprocAttr,jb,lN]);try(repeat'(first|exact ae|rfl|apply aI)))
  .rw[q]at hg hx;rw[ah rfl]at hx;(repeat' first|refine wU (Af @pgE @bu @bz @pgp p @hg) ?_|refine tE ?_ ?_<;>intro t|fail);refine wz (j+1) E (by show np-(j+1)<np-j;omega) (mJ (lI ?_) (fun c=>.inl rfl) (az _));rw[hx];((try simp only[lu,lw,jQ,kW,pgo,simprocAttr,jb,lN]);try(repeat'(first|exact ae|rfl|apply aI)))
 have:j=np:=Om
 subst this
 have p:((j:Int)<(j:Int))=False:=eq_false Om
 have hfc:=(zV sh j j (az _)).2
 have hpa:=hs.pa
 have hmc:=G.cm
 have q3:((s.pa.length:Int)+(frC sh j:Int) > s.c.pg)=False:=eq_false Om
 (repeat' first|refine wED (A8 @pgE @bu @bz @pgp p @h1 @hne @q3 (Ac @aA @aj.{0,0} @hpl)) (aI k5 k6) ?_|refine tE ?_ ?_<;>intro t|fail)
 have I:FrB (n+1) (upd (upd bx' n (some (113,[y0,y0,y0,yn]))) n (some (113,[vi R,vi S,vi T,.sl .fz 1 (vp.map vi)]))):=by
  refine FrB.upd (FrB.upd (agn hB Om) _ _ ?_) _ _ ?_
  all_goals
   intro w hw
   simp only[fG,BH,sG]at hw
   rcases hw with rfl|rfl|rfl|rfl<;>rfl
 have U:∀k,k<n->upd (upd bx' n (some (113,[y0,y0,y0,yn]))) n (some (113,[vi R,vi S,vi T,.sl .fz 1 (vp.map vi)])) k=bx' k:=fun k hk=>by rw[aV _ _ _ _ Om,aV _ _ _ _ Om]
 have hBnn:upd (upd bx' n (some (113,[y0,y0,y0,yn]))) n (some (113,[vi R,vi S,vi T,.sl .fz 1 (vp.map vi)])) n=some (113,[vi R,vi S,vi T,.sl .fz 1 (vp.map vi)]):=bW _ _ _
 generalize hB0e:upd (upd bx' n (some (113,[y0,y0,y0,yn]))) n (some (113,[vi R,vi S,vi T,.sl .fz 1 (vp.map vi)]))=B0 at *
 refine CX (ι:=Nat×Bx×Nat×AN×Nat) (fun y=>⟨ja [(0,.ref b 0),(8,vi (s.ob.getD i (0,[])).1),(9,.ref n 0),(13,.sl .fz 1 (sh.map vb)),(17,.ref (n+1+1+1) 0),(85,.sl .fz 1 (pgV ps)),(86,vi j),(87,vi y.1)],y.2.1,y.2.2.1,bM e h⟩) (fun y=>y.1<=j/\CrAt (n+1) (n+1+1+1) B0 N.A s.c.pg (puS s.pa ps sh vp y.1).1 (puS s.pa ps sh vp y.1).2 (vi (s.m+1)) (vi d.length) y.1 y.2.1 y.2.2.1 y.2.2.2.1 y.2.2.2.2) (fun y=>j-y.1) (0,upd (fun k=>if k<n+1 then B0 k else none) (n+1+1+1) (some (113,[vi (s.m+1),vi 0,vi d.length,nls])),n+1+1+1+1,N.A,n+1+1+1) ?_ ⟨ax _,?_⟩ ?_
 .have hm1:=kT (jl hE hH) (show n<=n+1 by omega);have hm2:=kT (jl hE hH) (show n<=n+1+1 by omega);have hbq:(n+1+1 == n+1)=false:=by rw[beq_eq_false_iff_ne];omega
  refine(DW (id:=n+1) hm1).trans ((DW (id:=n+1+1) hm2).trans (Gg ?_ (fun c x' g => ?_) (az _)))
  .simp only[zF,zG,pgo,simprocAttr,jb,yt,if_true,ql,hbq];exact⟨dJ _,dJ _,dJ _,dJ _,dJ _,dJ _,dJ _,dJ _⟩
  .rw[fV,fV,fV,fV,uZ I Om,uZ I Om];simp only at g;by_cases t:c=n+1+1+1
   .subst t;rw[bW]at g⊢;cases g
    exact⟨_,rfl,rfl,rY _⟩
   .rw[aV _ _ _ _ t]at g;rw[aV _ _ _ _ t,aV _ _ _ _ t];split at g
    .exact⟨_,g,rfl,rY _⟩
    .cases g
 .exact CrAt.init H1.hA Om (fun k hk=>by have:=f.hA.lt k hk;omega) Om _ _
 rintro⟨a,C,m,A,q⟩ ⟨hi,l⟩
 simp only at hi l
 have hCb:C b=some (139,stC s N):=by rw[l.old b (by have:=f.lt.1;omega) f.ne.2.1,U b f.lt.1];exact h1
 have hCn:C n=some (113,[vi R,vi S,vi T,.sl .fz 1 (vp.map vi)]):=by rw[l.old n Om (fun hm=>by have:=f.hA.lt n hm;omega)];exact hBnn
 have hCv:=l.bv
 rcases au a j with E|hge
 .have p:((a:Int)<(j:Int))=True:=eq_true Om;have hg:=AY ps a Om;have W:=GK sh a Om;obtain⟨hp1,hp2⟩:=hps a E;obtain⟨d1,d2,d3⟩:=hpu a;have hfm:=(zV sh (a+1) j E).1;have F:frC sh (a+1)=if sh.getD a false=true then frC sh a else frC sh a+1:=rfl
  have u:puS s.pa ps sh vp (a+1)=if sh.getD a false=true then(uU (vp.getD a 0) (puS s.pa ps sh vp a).1,(puS s.pa ps sh vp a).2++[vp.getD a 0])else(jH ((alN (puS s.pa ps sh vp a).1:Nat),1,ps.getD a []) (puS s.pa ps sh vp a).1,(puS s.pa ps sh vp a).2++[((alN (puS s.pa ps sh vp a).1:Nat):Int)]):=rfl
  have hPg:=G.pg;cases qs:sh.getD a false
  all_goals first
   |rw[qs]at W u F
    rw[ag gy]at u F
    have K:(puS s.pa ps sh vp (a+1)).2=(puS s.pa ps sh vp a).2++[((alN (puS s.pa ps sh vp a).1:Nat):Int)]:=by rw[u]
    have hnx:jH ((alN (puS s.pa ps sh vp a).1:Nat),1,ps.getD a []) (puS s.pa ps sh vp a).1=(puS s.pa ps sh vp (a+1)).1:=by rw[u]
    have kA:=fun e h=>XN e C m h l.ar (ps.getD a []) hp2 hp1 (by rw[d2];omega) (by rw[d2];omega)
    rw[l.aa]at kA
    have hgv:=hg
    generalize hnum:((alN (puS s.pa ps sh vp a).1:Nat):Int)=num at *
   |rw[qs]at W u F
    rw[ah rfl]at u F
    have L:=hst a qs
    have hgv:=EN vp a L
    obtain⟨z,z1,_,z2,_⟩:=CW (vp.getD a 0) (puS s.pa ps sh vp a).1 0 (d1.1 _ (by rw[gW,dY L];exact ji L))
    have hz:=d1.2 ((puS s.pa ps sh vp a).1.getD z (0,0,[])) (by rw[gW,dY (Om:z<(puS s.pa ps sh vp a).1.length)];exact ji _)
    have K:(puS s.pa ps sh vp (a+1)).2=(puS s.pa ps sh vp a).2++[vp.getD a 0]:=by rw[u]
    have hnx:nT z (puS s.pa ps sh vp a).1=(puS s.pa ps sh vp (a+1)).1:=by rw[u];simp only[uU,z1,fC]
    have hBb:=G.B0.2
    have kA:=fun e h=>aoG e C m h l.ar (PZ hnp ps sh vp a) (vp.getD a 0) z Om z1 ⟨hz.1,by have:=hz.2;omega⟩
    rw[l.aa]at kA
    generalize hnum:(vp.getD a 0)=num at *
  all_goals
   (repeat' first|refine wU (A8 @pgE @aX @bu @bz @pgp p @hCb @hCn (Ac @hg W @hgv)) ?_|refine tE ?_ ?_<;>intro t|fail)
   refine qR rfl (kA _ _) rfl ?_
   rintro s' r ⟨B1,P,rfl,c1,rfl,c2,A',c3,c4,c5⟩
   obtain⟨O,o1,o2,o3⟩:=l.cst c1 c2 c3 c4 c5
   (repeat'(first|(simp(disch:=first|exact dqz|fail) only[pgz,simprocAttr,pgE,aX,bu,bz,pgp])|(refine tE ?_ ?_<;>intro t)|(refine mM _ _ _ _ _ ?_)|(with_reducible refine cK ?_)))
   refine Jt (mJ (lI (X:=[(0,.ref b 0),(8,vi (s.ob.getD i (0,[])).1),(9,.ref n 0),(13,.sl .fz 1 (sh.map vb)),(17,.ref (n+1+1+1) 0),(20,vi num),(85,.sl .fz 1 (pgV ps)),(86,vi j),(87,vi a)]) ?_) o1 (az _)) ?_
   .exact eE
   rw[hnx]at o3
   generalize hl0:(puS s.pa ps sh vp a).2=l0 at *
   cases a with
   |zero =>
    (repeat'(first|(simp(disch:=first|exact dqz|fail) only[pgz,simprocAttr,pgE,aX,bu,bz,pgp,lsI,bW])|(refine tE ?_ ?_<;>intro t)|(with_reducible refine sQ ?_)|(refine mM _ _ _ _ _ ?_)|(with_reducible refine cK ?_)))
    have hl00:l0=[]:=kJ d3
    subst hl00
    refine wz (1,upd O (n+1+1+1) (some (113,[vi (s.m+1),vi 0,vi d.length,lsI (P+1) (puS s.pa ps sh vp 1).2 1])),P+1+1,A',P+1) ⟨E,?_⟩ (by show j-1<j-0;omega) (mJ (lI ?_) (fun c=>.inl ?_) (az _))
    .have L:=l.qn
     exact o3 (P+1) (puS s.pa ps sh vp 1).2 1 (P+1+1) Om Om Om
    .exact eE
    .rw[K]
     simp only[upd]
     split<;>rfl
   |succ a =>
    have hF:Fits ((l0.map vi).length+1) 8:=by rw[aj,d3];exact⟨by simp only[maxLen];omega,by omega⟩
    have hmO:=o2 I (show n+1<=q from l.qn.1)
    have hmP:bD (aF q) (bM e h)=bM e h:=J4 (jl hE hH) (by have:=l.qn.1;omega)
    (repeat'(first|(simp(disch:=first|exact dqz|fail) only[pgz,simprocAttr,pgE,aX,bu,bz,pgp,lsI,bW,hF,hmP,hmO,fV])|(refine tE ?_ ?_<;>intro t)|(with_reducible refine sQ ?_)|(refine mM _ _ _ _ _ ?_)|(with_reducible refine cK ?_)))
    refine wz (a+1+1,upd O (n+1+1+1) (some (113,[vi (s.m+1),vi 0,vi d.length,lsI q (puS s.pa ps sh vp (a+1+1)).2 (a+1+1)])),(if P<=q then q+1 else P+1),A',q) ⟨E,?_⟩ (by show j-(a+1+1)<j-(a+1);omega) (mJ (lI ?_) (fun c=>.inl ?_) (az _))
    .have L:=l.qn
     exact o3 q (puS s.pa ps sh vp (a+1+1)).2 (a+1+1) (if P<=q then q+1 else P+1) Om (by split<;>omega) (by split<;>omega)
    .exact eE
    .rw[K]
     simp only[upd,lsI,nJ,dm,dS]
     split<;>rfl
 .obtain rfl:a=j:=Om;have hlt3:((a:Int)<(a:Int))=False:=eq_false Om;(repeat'(first|(simp(disch:=first|exact dqz|fail) only[pgz,simprocAttr,pgE,aX,bu,bz,pgp,hlt3,hCb,bW])|(refine tE ?_ ?_<;>intro t)|(refine mM _ _ _ _ _ ?_)|(with_reducible refine cK ?_)));have hbv:b≠n+1+1+1:=by have:=f.lt.1;omega
  obtain⟨cs,hfB,hcs⟩:=l.fin I (hpu a).2.2;refine Jt ((DW (id:=q) (kT (jl hE hH) (by have:=l.qn.1;omega))).trans (Gg (X:=[(0,.ref b 0),(8,vi (s.ob.getD i (0,[])).1),(17,.ref (n+1+1+1) 0)]) (bx':=upd (upd (jq (n+1+1+1) C) (n+1+1+1) (some (113,[vi (s.m+1),vi 0,vi d.length,.sl .fz 1 ((puS s.pa ps sh vp a).2.map vi)]))) b (some (139,[vi s.c.se,vi s.c.na,vi s.c.pg,vi s.c.z,vi s.c.pn,vi s.c.cm,vi s.c.ch,vi (s.m+1),.mh false N.o,vi s.la,.sl .fz 4 (aS s.bi),.sl .fz 2 (pnV s.pi),.ref N.A.a 0]))) ?_ (fun c x' g => ?_) (az _))) ?_
  .simp only[zF,zG,pgo,simprocAttr,jb,yt,if_true,ql];exact⟨dJ _,dJ _,dJ _⟩
  .rw[fV,hfB];by_cases t:c=b
   .subst t;rw[bW]at g⊢;cases g
    exact⟨_,rfl,rfl,rY _⟩
   .rw[aV _ _ _ _ t]at g;rw[aV _ _ _ _ t];exact ZL hcs g
  have hoB:∀k,k<n->k∉N.A.D->jq (n+1+1+1) C k=bx' k:=fun k k1 k2=>by simp only[jq];rw[ag Om,l.old k Om k2];exact U k k1
  have hNo:=hoB N.o f.lt.2 f.ne.2.2;rw[f.ho]at hNo;have q6:(N.o=b)=False:=eq_false (jY f.ne.1);have q7:(b=N.o)=False:=eq_false f.ne.1;have q8:(N.o=n+1+1+1)=False:=eq_false (by have:=f.lt;omega);have q9:(n+1+1+1=b)=False:=eq_false (jY hbv);have q10:(b=n+1+1+1)=False:=eq_false hbv;have Y:=Y bx' n f;have hms:=fun x=>WG _ _ x _ N.co _ i (by rw[Ku _ _ f.hbo];exact Z) (Xj f.hbo i J)
  have hls2:=(hpu a).2.2;have hmem:(s.ob.getD i (0,[]))∈s.ob:=by rw[gW,dY J];exact ji J
  generalize hls:(puS s.pa ps sh vp a).2=ls at *;have k7:=anE (s.ob.getD i (0,[])).2 ⟨s.m+1,0,d.length,ls⟩ (by have:=hs.ch _ hmem;omega) (fun v hv=>by have:=hcp v hv;omega) (by show ls.length<=_;omega) G.ch G.cl (by show 1<=s.m+1;omega) rfl (by show(0:Int)<=d.length;omega) G.cf G.ct;(repeat' first|refine wV (Af @pgE @aX @bu @bz @pgp @bW) ?_|refine tE ?_ ?_<;>intro t|fail);refine oh mix ?_;(repeat'(first|(simp(disch:=first|exact dqz|fail) only[pgz,simprocAttr,pgE,alF,pga,xB,bu,bz,pgp,bW,hNo,q6,q7,q8,q9,q10,tH,EX,xm,LG,Y,hms])|(refine tC ?_;refine cU k7 ?_)|((with_reducible show mX _ _ _ _ _ _ _);first|refine cA k7 ?_)|(refine tE ?_ ?_<;>intro t)|(with_reducible refine cKA ?_)|((with_reducible show gJ _ _ _ _ _);first|refine lG (by decide +kernel) ?_|refine lF (by decide +kernel) ?_)|refine xK ?_|fail));have happ:qP (s.ob.getD i (0,[])).2 ⟨s.m+1,0,d.length,ls⟩=fU (s.ob.getD i (0,[])).2 (s.m+1)++[⟨s.m+1,0,d.length,ls⟩]:=by unfold qP;rw[ah ⟨G.cl,G.ct⟩]
  rw[happ];have hset:=Xk f.hbo i J (s.ob.getD i (0,[])).1 (fU (s.ob.getD i (0,[])).2 (s.m+1)++[⟨s.m+1,0,d.length,ls⟩]);generalize fU (s.ob.getD i (0,[])).2 (s.m+1)++[⟨s.m+1,0,d.length,ls⟩]=Q at *;have hvn:=l.vn;have hm3:df (Go.Pg.frz (m+12)) (upd (upd (upd (jq (n+1+1+1) C) (n+1+1+1) (some (113,[vi (s.m+1),vi 0,vi d.length,.sl .fz 1 (ls.map vi)]))) b (some (139,[vi s.c.se,vi s.c.na,vi s.c.pg,vi s.c.z,vi s.c.pn,vi s.c.cm,vi s.c.ch,vi (s.m+1),.mh false N.o,vi s.la,.sl .fz 4 (aS s.bi),.sl .fz 2 (pnV s.pi),.ref N.A.a 0]))) N.o (some (136,mpC N.co (iM ((oM s.ob N.bo).set i ((s.ob.getD i (0,[])).1,.sl (.own (m+12) 113) 4 (vrV Q),N.bo.getD i 0))))))=upd (upd (upd (jq (n+1+1+1) C) (n+1+1+1) (some (113,[vi (s.m+1),vi 0,vi d.length,.sl .fz 1 (ls.map vi)]))) b (some (139,[vi s.c.se,vi s.c.na,vi s.c.pg,vi s.c.z,vi s.c.pn,vi s.c.cm,vi s.c.ch,vi (s.m+1),.mh false N.o,vi s.la,.sl .fz 4 (aS s.bi),.sl .fz 2 (pnV s.pi),.ref N.A.a 0]))) N.o (some (136,mpC N.co (iM (oM (s.ob.set i ((s.ob.getD i (0,[])).1,Q)) N.bo)))):=by rw[<-hset,fV,fV,fV,l.frz I Om];simp only[dm,dS,zX,NT,zB,O7];rfl
  generalize M:upd (upd (upd (jq (n+1+1+1) C) (n+1+1+1) (some (113,[vi (s.m+1),vi 0,vi d.length,.sl .fz 1 (ls.map vi)]))) b (some (139,[vi s.c.se,vi s.c.na,vi s.c.pg,vi s.c.z,vi s.c.pn,vi s.c.cm,vi s.c.ch,vi (s.m+1),.mh false N.o,vi s.la,.sl .fz 4 (aS s.bi),.sl .fz 2 (pnV s.pi),.ref N.A.a 0]))) N.o (some (136,mpC N.co (iM (oM (s.ob.set i ((s.ob.getD i (0,[])).1,Q)) N.bo))))=FB at hm3;have f1:FB b=some (139,[vi s.c.se,vi s.c.na,vi s.c.pg,vi s.c.z,vi s.c.pn,vi s.c.cm,vi s.c.ch,vi (s.m+1),.mh false N.o,vi s.la,.sl .fz 4 (aS s.bi),.sl .fz 2 (pnV s.pi),.ref N.A.a 0]):=by rw[<-M,aV _ _ _ _ f.ne.1,bW]
  have f2:FB N.o=some (136,mpC N.co (iM (oM (s.ob.set i ((s.ob.getD i (0,[])).1,Q)) N.bo))):=by rw[<-M,bW]
  have f3:∀k,k≠b->k≠N.o->k≠n+1+1+1->FB k=C k:=fun k k1 k2 k3=>by rw[<-M,aV _ _ _ _ k2,aV _ _ _ _ k1,aV _ _ _ _ k3];simp only[jq,ag k3]
  clear M;obtain⟨g1',g2',g3',g4'⟩:=l.mod f (Nat.le_succ _) U f3;refine Aj (DV _ [m+12]) (kz (s':=⟨e,FB,m+17,h⟩) (r:=.tup [vi (s.m+1),vi 0]) ?_ ⟨jW _ _ _ _,?_,?_,hm3,az _⟩)
  .refine⟨FB,_,rfl,g1',rfl,by omega,⟨N.o,N.bo,N.co,A⟩,g2' _ _,?_,f2,by simp[f.hbo],l.ar.of Om g3',g4' _ _,by have:=f.lt;exact⟨by omega,by show N.o<_;omega⟩⟩;rw[f1];show some (_,[_,_,_,_,_,_,_,_,_,_,_,_,V.ref N.A.a 0])=some (_,[_,_,_,_,_,_,_,_,_,_,_,_,V.ref A.a 0]);rw[l.aa]
  .show unE (bD (Go.Pg.frz (m+12)) (bM e h))=e;rw[kT (jl hE hH) Om,aP]
  .show unH (bD (Go.Pg.frz (m+12)) (bM e h))=h;rw[kT (jl hE hH) Om,aQ]
theorem iI{α:Type}{l:List α}{i:Nat}(d:α)(h:i<l.length):l.getD i d∈l:=by grind
def AB{α:Type}{l:List α}{x:α}(d:α)(h:x∈l):∃i,i<l.length/\l.getD i d=x:=by obtain⟨i,hi,rfl⟩:=D5.1 h;exact⟨i,hi,by rw[gW,dY hi];rfl⟩
theorem yz{α:Type}{l:List α}{i:Nat}{y:α}(d:α)(j:Nat)(h:j<l.length):(l.set i y).getD j d=if j=i then y else l.getD j d:=by grind
def aiC{α:Type}(l:List α)(x d:α)(n:Nat)(h:l.length=n):(l++[x]).getD n d=x:=by grind
def HasP(pa:List Pa)(n:Int)(d:List Nat):Prop:=∃r,(n,r,d)∈pa
theorem OG{x y:Pa}{l:List Pa}:y∈jH x l↔y=x\/y∈l:=by grind[jH,xW]
theorem HasP.ins{pa:List Pa}{n:Int}{d:List Nat}(h:HasP pa n d)(x:Pa):HasP (jH x pa) n d:=by obtain⟨r,h⟩:=h;exact⟨r,OG.2 (.inr h)⟩
theorem aiY{pa:List Pa}{n:Int}{y:Pa}(h:y∈uU n pa):∃q∈pa,q.1=y.1/\q.2.2=y.2.2:=by grind[uU,nT,ixA,iI,List.mem_or_eq_of_mem_set,List.set_eq_of_length_le]
def HasP.hol{pa:List Pa}{n:Int}{d:List Nat}(h:HasP pa n d)(k:Int):HasP (uU k pa) n d:=by
 obtain⟨r,h⟩:=h;obtain⟨j,hj,he⟩:=AB (0,0,[]) h;unfold uU nT;have h1:=yz (l:=pa) (i:=(ixA k pa 0).toNat) (y:=((pa.getD (ixA k pa 0).toNat (0,0,[])).1,(pa.getD (ixA k pa 0).toNat (0,0,[])).2.1+1,(pa.getD (ixA k pa 0).toNat (0,0,[])).2.2)) (0,0,[]) j hj;have h2:=iI (l:=pa.set (ixA k pa 0).toNat ((pa.getD (ixA k pa 0).toNat (0,0,[])).1,(pa.getD (ixA k pa 0).toNat (0,0,[])).2.1+1,(pa.getD (ixA k pa 0).toNat (0,0,[])).2.2)) (i:=j) (0,0,[]) (by rw[nI];exact hj);rw[h1]at h2;split at h2
 .rename_i e;rw[<-e,he]at h2;exact⟨_,by rw[<-e,he];exact h2⟩
 .rw[he]at h2;exact⟨_,h2⟩
structure PuI (pa:List Pa) (ps:List (List Nat)) (sh:List Bool) (op:List Int) (n:Nat) (R:List Pa × List Int):Prop where
 old:∀k d,HasP pa k d->HasP R.1 k d
 len:R.2.length=n
 new:∀i,i<n->(sh.getD i false=true->R.2.getD i 0=op.getD i 0)/\(sh.getD i false=false->HasP R.1 (R.2.getD i 0) (ps.getD i []))
 pg:∀p∈R.1,(∃q∈pa,q.2.2=p.2.2)\/∃i,i<n/\ps.getD i []=p.2.2
def puI(pa:List Pa)(ps:List (List Nat))(sh:List Bool)(op:List Int):∀n,PuI pa ps sh op n (puS pa ps sh op n)
 |0=>⟨fun _ _ h=>h,rfl,fun i h=>(by cases h),fun p h=>.inl ⟨p,h,rfl⟩⟩
 |n+1=>by
  obtain⟨h1,h2,h3,h4⟩:=puI pa ps sh op n;unfold puS;generalize puS pa ps sh op n=R at *;obtain⟨q,l⟩:=R;simp only at h1 h2 h3 h4;split
  .rename_i c;refine⟨fun k d h=>(h1 k d h).hol _,by simp[h2],fun i hi => ?_,fun p hp => ?_⟩
   .rcases au i n with a|b
    .simp only[CP _ _ _ _ (show i<l.length by omega)];exact⟨(h3 i a).1,fun h=>((h3 i a).2 h).hol _⟩
    .grind
   .grind[aiY]
  .rename_i c;refine⟨fun k d h=>(h1 k d h).ins _,by simp[h2],fun i hi => ?_,fun p hp => ?_⟩
   .rcases au i n with a|b
    .simp only[CP _ _ _ _ (show i<l.length by omega)];exact⟨(h3 i a).1,fun h=>((h3 i a).2 h).ins _⟩
    .have:i=n:=Om;subst this;simp only[aiC l _ _ _ h2];exact⟨fun h=>absurd h c,fun _=>⟨1,OG.2 (.inl rfl)⟩⟩
   .grind[OG]
def Gy(pa:List Pa)(ps:List (List Nat)):∀n,alS pa ps n=puS pa ps [] [] n
 |0=>rfl
 |n+1=>by unfold alS puS;rw[Gy pa ps n,ag Aa]
def VcP(pa:List Pa)(p:List Int)(d:List Nat):Prop:=∃a:List (List Nat),a.length=p.length/\(∀i,i<p.length->HasP pa (p.getD i 0) (a.getD i []))/\a.flatten=d
def VcP.mono{pa pb:List Pa}{p:List Int}{d:List Nat}(h:VcP pa p d)(hm:∀k d,HasP pa k d->HasP pb k d):VcP pb p d:=by obtain⟨a,h1,h2,h3⟩:=h;exact⟨a,h1,fun i hi=>hm _ _ (h2 i hi),h3⟩
theorem VcP.num{pa:List Pa}{p:List Int}{d:List Nat}(h:VcP pa p d):∀n∈p,n∈pa.map (·.1):=by intro n a;obtain⟨b,_,h2,_⟩:=h;obtain⟨i,hi,rfl⟩:=AB 0 a;obtain⟨r,c⟩:=h2 i hi;grind
def jsO(pa:List Pa)(p:List Int)(i:Nat):Nat:=(ixA (p.getD i 0) pa 0).toNat
theorem JX{pa:List Pa}{p:List Int}(h:∀n∈p,n∈pa.map (·.1))(i:Nat)(hi:i<p.length):ixA (p.getD i 0) pa 0=(jsO pa p i:Int)/\jsO pa p i<pa.length/\(pa.getD (jsO pa p i) (0,0,[])).1=p.getD i 0:=by obtain⟨j,h1,_,h2,h3⟩:=CW (p.getD i 0) pa 0 (h _ (iI _ hi));simp_all[jsO]
theorem AX{pa:List Pa}{p:List Int}(h:∀n∈p,n∈pa.map (·.1))(a:∀q∈pa,q.2.2.length<=1024):PgOk pa p (jsO pa p):=fun i hi=>by grind[JX]
theorem Xd{α:Type}{l:List (Int×α)}(a:(l.map (·.1)).Nodup){x y:Int×α}(hx:x∈l)(b:y∈l)(h:x.1=y.1):x=y:=by obtain⟨i,hi,rfl⟩:=D5.1 hx;obtain⟨j,hj,rfl⟩:=D5.1 b;have:i=j:=(List.getElem_inj (h₀:=by simpa using hi) (h₁:=by simpa using hj) a).1 (by simpa using h);grind
theorem BV{pa:List Pa}{p:List Int}{d:List Nat}(b:(pa.map (·.1)).Nodup)(h:VcP pa p d):(datA pa (jsO pa p) p.length).flatten=d:=by
 have hm:=h.num;obtain⟨a,h1,h2,rfl⟩:=h;congr 1;refine List.ext_getElem (by rw[qW,h1]) fun i hi hj => ?_
 rw[qW]at hi;obtain⟨h3,h4,h5⟩:=JX hm i hi;obtain⟨r,c⟩:=h2 i hi;grind[Xd,iI,datA]
def apx{pa:List Pa}{op:List Int}{d b:List Nat}{z:Nat}{js:Nat->Nat}(m:(pa.map (·.1)).Nodup)(hv:VcP pa op d)(ho:∀p∈pa,oct p.2.2)(hb:oct b)(j:0<z)(hj:∀i,i<op.length->js i=jsO pa op i) :
  VcP (puS pa (ckP z b (nPg z b)) (shA (datA pa js op.length) (ckP z b (nPg z b)) (nPg z b)) op (nPg z b)).1 (puS pa (ckP z b (nPg z b)) (shA (datA pa js op.length) (ckP z b (nPg z b)) (nPg z b)) op (nPg z b)).2 b:=by
 have H:=puI pa (ckP z b (nPg z b)) (shA (datA pa js op.length) (ckP z b (nPg z b)) (nPg z b)) op (nPg z b)
 have hf:=MW z b j
 have hl:=sN z b (nPg z b)
 have c:∀i,oct ((ckP z b (nPg z b)).getD i []):=fun i=>by
  rcases au i (ckP z b (nPg z b)).length with h|h
  .intro y n;refine hb y ?_;grind[iI,List.mem_flatten]
  .grind[vk]
 generalize k:ckP z b (nPg z b)=ps at *
 refine⟨ps,by rw[H.len,hl],fun i hi => ?_,hf⟩
 rw[H.len]at hi
 cases f:(shA (datA pa js op.length) ps (nPg z b)).getD i false
 .exact(H.new i hi).2 f
 .rw[(H.new i hi).1 f];have a:=La f;rw[qW]at a;have g:sB ((datA pa js op.length).getD i [])=sB (ps.getD i []):=by grind[shA,qW]
  have hg:(datA pa js op.length).getD i []=(pa.getD (js i) (0,0,[])).2.2:=by grind[datA]
  obtain⟨_,h4,h5⟩:=JX hv.num i a;rw[hj i a]at hg;rw[hg]at g;have hx:=iI (l:=pa) (0,0,[]) h4;have:=Qv (ho _ hx) (c i) g;refine H.old _ _ ⟨(pa.getD (jsO pa op i) (0,0,[])).2.1,?_⟩;rw[<-this,<-h5];exact hx
def ad2{pa:List Pa}{b:List Nat}{z:Nat}(h:0<z):VcP (alS pa (ckP z b (nPg z b)) (nPg z b)).1 (alS pa (ckP z b (nPg z b)) (nPg z b)).2 b:=by have H:=puI pa (ckP z b (nPg z b)) [] [] (nPg z b);rw[Gy];exact⟨_,by rw[H.len,sN],fun i hi=>(H.new i (by rw[H.len]at hi;exact hi)).2 Aa,MW z b h⟩
def UV(c:Int):∀(l:List Vr) (i:Nat),(∃v∈l,gQ v.f v.t c=true)->∃x,fvA c l i=(((i+x:Nat):Int),true)/\x<l.length
 |v::r,i,h=>by
  unfold fvA;split
  .exact⟨0,rfl,by simp⟩
  .obtain⟨x,h1,h2⟩:=UV c r (i+1) (by
    obtain⟨w,a,b⟩:=h;rcases fG.1 a with rfl|a
    .grind
    .exact⟨w,a,b⟩)
   exact⟨x+1,by rw[h1];congr 2;omega,by simpa using h2⟩
theorem UO(c:Int)(v:Vr)(hv:c<v.f):∀(l:List Vr) (i:Nat),fvA c (l++[v]) i=fvA c l i
 |[],i=>by grind[gQ,fvA]
 |x::r,i=>by show fvA c (x::(r++[v])) i=_;unfold fvA;rw[UO c v hv r]
def UT(c:Int)(y:Vr):∀(l:List Vr) (j i:Nat),gQ y.f y.t c=gQ (l.getD j vr0).f (l.getD j vr0).t c->fvA c (l.set j y) i=fvA c l i
 |[],_,_,_=>rfl
 |x::r,0,i,h=>by grind[fvA]
 |x::r,j+1,i,h=>by simp;unfold fvA;rw[UT c y r j (i+1) h]
def akG{α:Type}{l:List (Int×α)}(a:(l.map (·.1)).Nodup)(d:Int×α)(i:Nat)(h:i<l.length):ixA (l.getD i d).1 l 0=i:=by
 obtain⟨j,h1,_,h2,h3⟩:=CW (l.getD i d).1 l 0 (dP.2 ⟨_,iI d h,rfl⟩);have h4:=h3 d;rw[h1];have hj:j<l.length:=Om;have:j=i:=by refine(List.getElem_inj (h₀:=by simpa using hj) (h₁:=by simpa using h) a).1 ?_;grind
 rw[this]
structure OkS (Q:List Nat->Prop) (s:Sto):Prop where
 z:8<=s.c.z/\s.c.z<=1024
 cp:s.c.pg<=16384
 cc:s.c.cm<=1000
 cn:s.c.na<=12
 ci:s.c.pn<=1000
 m:0<=s.m/\s.m<=s.c.cm
 la:0<=s.la/\s.la<=s.m
 bl:(s.bi.length:Int)<=s.m
 bv:vBd s.bi
 bb:∀b∈s.bi,b.f<=s.m/\b.t<=s.m/\b.o<=s.la
 bo:∀b∈s.bi,b.t=0->∃o∈s.ob,o.1=b.o/\(o.2.getD (o.2.length-1) vr0).t=0
 bn:(nOp s.bi:Int)<=s.c.na
 on:(s.ob.map (·.1)).Nodup
 ol:(s.ob.length:Int)<=s.m
 oo:∀o∈s.ob,o.1<=s.la/\0<o.2.length/\(o.2.length:Int)<=s.m/\vCh o.2
 ov:∀o∈s.ob,∀v∈o.2,v.f<=s.m/\v.t<=s.m/\v.p.length<=65536/\∃d,Q d/\VcP s.pa v.p d
 pn:(s.pa.map (·.1)).Nodup
 pl:(s.pa.length:Int)<=s.c.pg
 pp:∀p∈s.pa,p.2.2.length<=1024/\oct p.2.2/\0<=p.2.1/\p.2.1<=65536*s.m
 iv:vPn s.pi
 ii:∀p∈s.pi,p.1<=s.m
 is:sumP s.pi s.pi.length<=s.c.pn
theorem QK(l:List (Int×Int))(hv:vPn l):∀i,i<=l.length->(i:Int)<=sumP l i/\∀j,j<i->(l.getD j (0,0)).2<=sumP l i
 |0,_=>⟨rZ _,fun j h=>by cases h⟩
 |i+1,h=>by obtain⟨h1,h2⟩:=QK l hv i Om;have:=(hv i Om).1.2.1;grind[sumP]
theorem OkS.pil{Q:List Nat->Prop}{s:Sto}(H:OkS Q s):s.pi.length<=1000:=by have h1:=(QK s.pi H.iv _ (az _)).1;have h2:=H.is;have h3:=H.ci;omega
theorem OkS.sml{Q:List Nat->Prop}{s:Sto}(H:OkS Q s):Sml s:=by have h1:=H.m;have h2:=H.cc;refine⟨by have:=H.ol;omega,by have:=H.bl;omega,by have:=H.pil;omega,by have:=H.pl;have:=H.cp;omega,fun o ho => ?_⟩;have:=(H.oo o ho).2.2.1;omega
theorem OkS.few{Q:List Nat->Prop}{s:Sto}(H:OkS Q s):∀i,i<s.pi.length->(s.pi.getD i (0,0)).2<1024:=by intro i hi;have h1:=(QK s.pi H.iv _ (az _)).2 i hi;have h2:=H.is;have h3:=H.ci;omega
def OkS.bft{Q:List Nat->Prop}{s:Sto}(H:OkS Q s):∀b∈s.bi,b.f<=s.m/\b.t<=s.m:=fun b hb=>⟨(H.bb b hb).1,(H.bb b hb).2.1⟩
theorem OkS.asc{Q:List Nat->Prop}{s:Sto}(H:OkS Q s):ww s.m s.bi:=abO H.bv H.bft
theorem OkS.nml{Q:List Nat->Prop}{s:Sto}(H:OkS Q s):(nmA s.m s.bi).length=nOp s.bi:=amN H.bft
theorem OkS.late{Q:List Nat->Prop}{s:Sto}(H:OkS Q s):∀i,i<s.bi.length->(s.bi.getD i bd0).f<s.m+1/\(s.bi.getD i bd0).t<=s.m+1:=fun i hi=>by obtain⟨h1,h2,_⟩:=H.bb _ (iI bd0 hi);omega
theorem OkS.notL{Q:List Nat->Prop}{s:Sto}(H:OkS Q s):xy s.bi (s.m+1):=fun i hi=>⟨by have:=(H.late i hi).1;omega,(H.late i hi).2⟩
def OkS.at{Q:List Nat->Prop}{s:Sto}(H:OkS Q s){k:List Nat}(hk:(lkA k s.m s.bi).2=true):∃i x j,AtV s k s.m i x/\opA k s.bi 0=((j:Nat):Int)/\j<s.bi.length/\(s.bi.getD j bd0).o=(s.ob.getD i (0,[])).1/\(s.bi.getD j bd0).t=0/\sB (s.bi.getD j bd0).n=sB k/\((s.ob.getD i (0,[])).2.getD ((s.ob.getD i (0,[])).2.length-1) vr0).t=0:=by obtain⟨j,h1,h2,h3,h4,h5⟩:=Wv 0 H.bft hk;rw[nM]at h1;obtain⟨o,ho,h,a⟩:=H.bo _ (iI bd0 h2) h5;obtain⟨i,hi,rfl⟩:=AB (0,[]) ho;have hl:=(H.oo _ ho).2.1;obtain⟨x,x1,x2⟩:=UV s.m (s.ob.getD i (0,[])).2 0 ⟨_,iI vr0 (show(s.ob.getD i (0,[])).2.length-1<(s.ob.getD i (0,[])).2.length by omega),by have:=(H.ov _ ho _ (iI vr0 (show(s.ob.getD i (0,[])).2.length-1<(s.ob.getD i (0,[])).2.length by omega))).1;unfold gQ;rw[a,eU this];simp⟩;rw[nM]at x1;exact⟨i,x,j,⟨by rw[h3,h],akG H.on _ i hi,hi,x1,x2⟩,h1,h2,h.symm,h5,h4,a⟩
def amw{z:Int}{b:List Nat}(h:8<=z/\z<=1024)(hb:b.length<=65536):nPg z.toNat b<=65536:=by grind[H9]
def OkS.pgs{Q:List Nat->Prop}{s:Sto}(H:OkS Q s){op:List Int}(ho:∀n∈op,n∈s.pa.map (·.1)){b:List Nat}(hb:oct b)(hl:b.length<=65536)(sh:List Bool)(a:∀i,sh.getD i false=true->i<op.length) :
  ((puS s.pa (ckP s.c.z.toNat b (nPg s.c.z.toNat b)) sh op (nPg s.c.z.toNat b)).1.map (·.1)).Nodup/\(puS s.pa (ckP s.c.z.toNat b (nPg s.c.z.toNat b)) sh op (nPg s.c.z.toNat b)).1.length=s.pa.length+frC sh (nPg s.c.z.toNat b) /\
  (puS s.pa (ckP s.c.z.toNat b (nPg s.c.z.toNat b)) sh op (nPg s.c.z.toNat b)).2.length<=65536 /\
  ∀p∈(puS s.pa (ckP s.c.z.toNat b (nPg s.c.z.toNat b)) sh op (nPg s.c.z.toNat b)).1,p.2.2.length<=1024/\oct p.2.2/\0<=p.2.1/\p.2.1<=65536*(s.m+1):=by
 have d:=H.z
 have j:=amw d hl
 have hB:PgN s.pa op (65536*s.m):=⟨ho,fun p hp=>⟨(H.pp p hp).2.2.1,(H.pp p hp).2.2.2⟩⟩
 obtain⟨f,k2,l⟩:=P5 hB (by have:=H.m;omega) (ckP s.c.z.toNat b (nPg s.c.z.toNat b)) sh a (nPg s.c.z.toNat b)
 have hf:=MW s.c.z.toNat b Om
 have he:=GM s.c.z.toNat b (nPg s.c.z.toNat b)
 refine⟨PZ H.pn _ _ _ _,k2,by omega,fun p hp => ?_⟩
 have g:=(f.2 p hp)
 have k:p.2.2.length<=1024/\oct p.2.2:=by
  rcases(puI s.pa (ckP s.c.z.toNat b (nPg s.c.z.toNat b)) sh op (nPg s.c.z.toNat b)).pg p hp with⟨q,h,e⟩|⟨i,hi,e⟩
  .rw[<-e];exact⟨(H.pp q h).1,(H.pp q h).2.1⟩
  .have hm:(ckP s.c.z.toNat b (nPg s.c.z.toNat b)).getD i []∈ckP s.c.z.toNat b (nPg s.c.z.toNat b):=iI _ (by rw[sN];exact hi);rw[<-e];refine⟨by have:=he _ hm;omega,fun y c=>hb y ?_⟩;rw[<-hf];exact List.mem_flatten.2 ⟨_,hm,c⟩
 exact⟨k.1,k.2,g.1,by omega⟩
theorem auZ{v:Vr}(h1:1<=v.f)(h2:v.t=0)(h3:0<=v.z):vCh [v]:=fun i hi=>by grind
theorem ZP{l:List Vr}{c:Int}(h:vCh l)(h2:(l.getD (l.length-1) vr0).f<c):vCh (fU l c):=by intro i hi;unfold fU at hi⊢;rw[nI]at hi;obtain⟨⟨a,b,d,f⟩,g⟩:=h i hi;grind
theorem Na(l:List Vr)(c:Int):(fU l c).length=l.length:=by simp[fU]
theorem adI{l:List Vr}(c:Int)(h:0<l.length):(fU l c).getD (l.length-1) vr0={l.getD (l.length-1) vr0 with t:=c}:=by grind[fU,yz,vr0]
theorem auY{l:List Vr}{v:Vr}(h:vCh l)(c:0<l.length)(h1:1<=v.f)(h2:v.t=0)(h3:0<=v.z)(h4:(l.getD (l.length-1) vr0).t≠0)(h5:(l.getD (l.length-1) vr0).t<=v.f):vCh (l++[v]):=by
 intro i hi;rcases au i l.length with a|b
 .rw[CP _ _ _ _ a,CP _ _ _ _ Om];exact h i a
 .grind
def Tu{l:List Vr}{c:Int}{v:Vr}(hv:v∈fU l c)(h:0<l.length):∃w∈l,v.f=w.f/\v.p=w.p/\(v.t=c\/v.t=w.t):=by
 rcases DI hv with rfl|hv
 .grind
 .grind
theorem OkS.cre{Q:List Nat->Prop}{s:Sto}(H:OkS Q s){k b:List Nat}(hk:oct k)(I:iK k=true)(hb:oct b)(hl:b.length<=65536)(K:Q b)(h1:(lkA k s.m s.bi).2=false)(h2:(nmA s.m s.bi).length<s.c.na)(h3:s.m<s.c.cm)(h4:(s.pa.length+nPg s.c.z.toNat b:Int)<=s.c.pg):OkS Q (fD s k b):=by
 have hm:=H.m;have G:=H.la;have L:=H.z;have J:=(HY 0 H.bft h1).2;rw[H.nml]at h2;obtain⟨t,u,y,A⟩:=H.pgs (op:=[]) (fun n h=>by cases h) hb hl [] (fun i h=>by simp at h);rw[<-Gy]at t u y A;have F:=(zV [] (nPg s.c.z.toNat b) (nPg s.c.z.toNat b) (az _)).2;have f:∀k d,HasP s.pa k d->HasP (alS s.pa (ckP s.c.z.toNat b (nPg s.c.z.toNat b)) (nPg s.c.z.toNat b)).1 k d:=by rw[Gy];exact(puI _ _ _ _ _).old
 have hd:=ad2 (pa:=s.pa) (b:=b) (z:=s.c.z.toNat) Om
 have g:∀o,o∈(fD s k b).ob->o∈s.ob\/o=(s.la+1,[⟨s.m+1,0,b.length,(alS s.pa (ckP s.c.z.toNat b (nPg s.c.z.toNat b)) (nPg s.c.z.toNat b)).2⟩]):=fun o ho=>by
  rcases iG.1 ho with h|h
  .exact .inl h
  .grind
 refine⟨H.z,H.cp,H.cc,H.cn,H.ci,⟨by simp only[fD];omega,by simp only[fD];omega⟩,⟨by simp only[fD];omega,by simp only[fD];omega⟩,?_,?_,?_,?_,?_,?_,?_,?_,?_,t,?_,A,H.iv,?_,H.is⟩
 .have:=H.bl;simp only[fD];rw[VC];omega
 .refine ZO H.bv ⟨⟨hk,I⟩,?_,?_,?_,.inl rfl⟩ rfl fun b hb=>⟨(H.bft b hb).1,?_,fun e r => ?_,fun e => ?_⟩
  .grind
  .grind
  .grind
  .have:=(H.bft b hb).2;omega
  .grind[FZ]
  .have:=(H.bb b hb).2.2;simp only at e;omega
 .intro x hx;rcases Ht.1 hx with rfl|hx
  .exact⟨by simp[fD],by simp only[fD];omega,by simp[fD]⟩
  .obtain⟨q,j,l⟩:=H.bb x hx;exact⟨by simp only[fD];omega,by simp only[fD];omega,by simp only[fD];omega⟩
 .intro x hx r;rcases Ht.1 hx with rfl|hx
  .exact⟨_,iG.2 (.inr (jX.2 rfl)),rfl,rfl⟩
  .obtain⟨o,ho,e⟩:=H.bo x hx r;exact⟨o,iG.2 (.inl ho),e⟩
 .simp only[fD];rw[Xp,ah rfl];omega
 .simp only[fD,nJ,dm,dS];rw[List.nodup_append];refine⟨H.on,by simp,fun a ha c E => ?_⟩;rw[jX]at E;obtain⟨o,ho,rfl⟩:=dP.1 ha;have:=(H.oo o ho).1;omega
 .have:=H.ol;simp only[fD,aN,dB,o9];omega
 .intro o ho;rcases g o ho with h|rfl
  .obtain⟨q,j,l,m⟩:=H.oo o h;exact⟨by simp only[fD];omega,j,by simp only[fD];omega,m⟩
  .exact⟨by simp[fD],by simp,by simp[fD];omega,auZ (by simp only;omega) rfl Aa⟩
 .intro o ho v hv;rcases g o ho with h|rfl
  .obtain⟨q,j,l,d,m,C⟩:=H.ov o h v hv;exact⟨by simp only[fD];omega,by simp only[fD];omega,l,d,m,C.mono f⟩
  .rw[jX]at hv;subst hv;exact⟨by simp[fD],by simp only[fD];omega,y,b,K,hd⟩
 .have:=H.pl;simp only[fD];rw[u];omega
 .intro p hp;have:=H.ii p hp;simp only[fD];omega
def YT{ob:List (Int×List Vr)}{i:Nat}(ch:List Vr):(ob.set i ((ob.getD i (0,[])).1,ch)).map (·.1)=ob.map (·.1):=by
 refine IW fun j => ?_
 grind
def OkS.put{Q:List Nat->Prop}{s:Sto}(H:OkS Q s){k b:List Nat}{i x np:Nat}{js:Nat->Nat}{ps:List (List Nat)}{sh:List Bool}(P:PutAt s k b i x np js ps sh)(hb:oct b)(j:Q b)(Y:((s.ob.getD i (0,[])).2.getD ((s.ob.getD i (0,[])).2.length-1) vr0).t=0)(h3:s.m<s.c.cm)(h4:(s.pa.length+frC sh np:Int)<=s.c.pg):OkS Q (xC s i np b (verOf s i x).p ps sh):=by
 obtain⟨at',bl,z,pg,pl,rfl,rfl,rfl⟩:=P;have hm:=H.m;have Z:=H.z;have ho:=iI (0,[]) at'.il;obtain⟨o1,M,o3,o4⟩:=H.oo _ ho;obtain⟨v1,v2,v3,d,v4,I⟩:=H.ov _ ho _ (iI vr0 at'.xl);obtain⟨N,S,T,U⟩:=H.pgs I.num hb bl (shA (datA s.pa js (verOf s i x).p.length) (ckP s.c.z.toNat b (nPg s.c.z.toNat b)) (nPg s.c.z.toNat b)) (fun i h=>by have:=La h;rwa [qW]at this);have hd:=apx H.pn I (fun p hp=>(H.pp p hp).2.1) hb (show 0<s.c.z.toNat by omega) (js:=js) (fun q j=>by have a:=(pg q j).1;have b:=(JX I.num q j).1;have c:=a.symm.trans b;omega);have g:=(puI s.pa (ckP s.c.z.toNat b (nPg s.c.z.toNat b)) (shA (datA s.pa js (verOf s i x).p.length) (ckP s.c.z.toNat b (nPg s.c.z.toNat b)) (nPg s.c.z.toNat b)) (verOf s i x).p (nPg s.c.z.toNat b)).old;generalize X:puS s.pa (ckP s.c.z.toNat b (nPg s.c.z.toNat b)) (shA (datA s.pa js (verOf s i x).p.length) (ckP s.c.z.toNat b (nPg s.c.z.toNat b)) (nPg s.c.z.toNat b)) (verOf s i x).p (nPg s.c.z.toNat b)=R at *;have C:((s.ob.getD i (0,[])).2.getD ((s.ob.getD i (0,[])).2.length-1) vr0).f<=s.m:=(H.ov _ ho _ (iI vr0 Om)).1;have hA:qP (s.ob.getD i (0,[])).2 ⟨s.m+1,0,b.length,R.2⟩=fU (s.ob.getD i (0,[])).2 (s.m+1)++[⟨s.m+1,0,b.length,R.2⟩]:=by grind[qP]
 have K:xC s i (nPg s.c.z.toNat b) b (verOf s i x).p (ckP s.c.z.toNat b (nPg s.c.z.toNat b)) (shA (datA s.pa js (verOf s i x).p.length) (ckP s.c.z.toNat b (nPg s.c.z.toNat b)) (nPg s.c.z.toNat b))={s with m:=s.m+1,ob:=s.ob.set i ((s.ob.getD i (0,[])).1,fU (s.ob.getD i (0,[])).2 (s.m+1)++[⟨s.m+1,0,b.length,R.2⟩]),pa:=R.1}:=by grind[xC]
 rw[K];have L:=Na (s.ob.getD i (0,[])).2 (s.m+1);refine⟨H.z,H.cp,H.cc,H.cn,H.ci,⟨by simp only;omega,by simp only;omega⟩,⟨H.la.1,by have:=H.la;simp only;omega⟩,by have:=H.bl;simp only;omega,H.bv,?_,?_,H.bn,?_,?_,?_,?_,N,?_,U,H.iv,fun p hp=>by have:=H.ii p hp;simp only;omega,H.is⟩
 .intro y F;obtain⟨t,u,n⟩:=H.bb y F;exact⟨by simp only;omega,by simp only;omega,n⟩
 .intro y F G;obtain⟨o,h1,h2,h3⟩:=H.bo y F G;by_cases e:o.1=(s.ob.getD i (0,[])).1
  .have:=Xd H.on h1 ho e;subst this;refine⟨_,D5.2 ⟨i,by simpa using at'.il,List.getElem_set_self (by simpa using at'.il)⟩,h2,?_⟩;simp only[aN,dB,o9,nM,uC];rw[Vu]
  .obtain⟨q,j,rfl⟩:=AB (0,[]) h1;refine⟨_,?_,h2,h3⟩;have E:q≠i:=fun h=>e (by rw[h])
   have:=iI (l:=s.ob.set i ((s.ob.getD i (0,[])).1,fU (s.ob.getD i (0,[])).2 (s.m+1)++[⟨s.m+1,0,b.length,R.2⟩])) (i:=q) (0,[]) (by rw[nI];exact j);rwa [yz (0,[]) q j,ag E]at this
 .show((s.ob.set i _).map (·.1)).Nodup;rw[YT];exact H.on
 .have:=H.ol;simp only[nI];omega
 .intro o f;rcases DI f with rfl|f
  .grind[only,auY,ZP,adI]
  .obtain⟨t,u,n,r⟩:=H.oo o f;exact⟨t,u,by simp only;omega,r⟩
 .intro o f v hv;rcases DI f with rfl|f
  .rcases iG.1 hv with hv|hv
   .obtain⟨w,W,w2,J,w4⟩:=Tu hv M;obtain⟨t,u,n,d,r,A⟩:=H.ov _ ho w W;refine⟨by simp only;omega,by simp only;omega,by rw[J];exact n,d,r,by rw[J];exact A.mono g⟩
   .rw[jX]at hv;subst hv;exact⟨by simp,by simp only;omega,T,b,j,hd⟩
  .obtain⟨t,u,n,d,r,A⟩:=H.ov o f v hv;exact⟨by simp only;omega,by simp only;omega,n,d,r,A.mono g⟩
 .simp only;rw[S];omega
def OkS.drop{Q:List Nat->Prop}{s:Sto}(H:OkS Q s){i j:Nat}(hi:i<s.ob.length)(hj:j<s.bi.length)(ho:(s.bi.getD j bd0).o=(s.ob.getD i (0,[])).1)(x:(s.bi.getD j bd0).t=0)(h3:s.m<s.c.cm):OkS Q {s with m:=s.m+1,ob:=mY s.ob i (s.m+1),bi:=fM s.bi j (s.m+1)}:=by
 have hm:=H.m;have n:=iI (0,[]) hi;have C:=iI bd0 hj;obtain⟨T,R,U,W⟩:=H.oo _ n;have E:=(H.ov _ n _ (iI vr0 (show(s.ob.getD i (0,[])).2.length-1<(s.ob.getD i (0,[])).2.length by omega))).1;have L:=Na (s.ob.getD i (0,[])).2 (s.m+1);refine⟨H.z,H.cp,H.cc,H.cn,H.ci,⟨by simp only;omega,by simp only;omega⟩,⟨H.la.1,by have:=H.la;simp only;omega⟩,by have:=H.bl;simp only;rw[zQ];omega,ZN H.bv hj x (fun b hb=>(H.bft b hb).1) hm.1,?_,?_,?_,?_,?_,?_,?_,H.pn,H.pl,fun p hp => ?_,H.iv,fun p hp=>by have:=H.ii p hp;simp only;omega,H.is⟩
 .intro y t;rcases DI t with rfl|t
  .obtain⟨g,k,f⟩:=H.bb _ C;grind
  .obtain⟨g,k,f⟩:=H.bb y t;grind
 .intro y t c;obtain⟨q,u,rfl⟩:=AB bd0 t;rw[zQ]at u;unfold fM at c⊢;simp only at c⊢;rw[yz bd0 q u]at c⊢;by_cases e:q=j
  .grind
  .rw[ag e]at c⊢;obtain⟨o,N,k2,P⟩:=H.bo _ (iI bd0 u) c
   have G:o.1≠(s.ob.getD i (0,[])).1:=fun h=>by
    have hp:=(Du bd0).1 (F8.1 H.bv).2.2;have h5:(s.bi.getD q bd0).o=(s.bi.getD j bd0).o:=by rw[<-k2,h,ho]
    rcases au q j with F|M
    .rcases hp q j F hj h5 with h|h
     .omega
     .exact h.1 x
    .rcases hp j q Om u h5.symm with h|h
     .exact h.1 x
     .omega
   obtain⟨w,J,rfl⟩:=AB (0,[]) N;have I:w≠i:=fun h=>G (by rw[h])
   refine⟨_,?_,k2,P⟩;have:=iI (l:=mY s.ob i (s.m+1)) (i:=w) (0,[]) (by unfold mY;rw[nI];exact J);unfold mY at this⊢;rwa [yz (0,[]) w J,ag I]at this
 .have:=Xo (s.m+1) Om s.bi j hj x;have:=H.bn;simp only;omega
 .show((s.ob.set i _).map (·.1)).Nodup;rw[YT];exact H.on
 .have:=H.ol;simp only[mY,nI];omega
 .intro o a;rcases DI a with rfl|a
  .grind[only,ZP]
  .obtain⟨g,k,f,r⟩:=H.oo o a;exact⟨g,k,by simp only;omega,r⟩
 .intro o a v hv;rcases DI a with rfl|a
  .obtain⟨w,S,X,K,Y⟩:=Tu hv R;obtain⟨g,k,f,d,r,A⟩:=H.ov _ n w S;exact⟨by simp only;omega,by simp only;omega,by rw[K];exact f,d,r,by rw[K];exact A⟩
  .obtain⟨g,k,f,d,r,A⟩:=H.ov o a v hv;exact⟨by simp only;omega,by simp only;omega,f,d,r,A⟩
 .obtain⟨g,k,f,r⟩:=H.pp p hp;exact⟨g,k,f,by simp only;omega⟩
def OkS.ren{Q:List Nat->Prop}{s:Sto}(H:OkS Q s){k:List Nat}(hk:oct k)(E:iK k=true){j:Nat}(hj:j<s.bi.length)(l:(s.bi.getD j bd0).t=0)(h2:(lkA k s.m s.bi).2=false)(h3:s.m<s.c.cm):OkS Q {s with m:=s.m+1,bi:=jo ⟨k,(s.bi.getD j bd0).o,s.m+1,0⟩ (fM s.bi j (s.m+1))}:=by
 have hm:=H.m;have c:=iI bd0 hj;have x:=(HY 0 H.bft h2).2;have A:=ZN H.bv hj l (fun b hb=>(H.bft b hb).1) hm.1;obtain⟨G,I,J⟩:=H.bb _ c
 have a:∀b∈fM s.bi j (s.m+1),(b.t=s.m+1/\b.f<=s.m/\b.o<=s.la)\/(b∈s.bi/\b.o=(s.bi.getD j bd0).o->b.t≠0)/\b∈s.bi:=fun b hb=>by
  obtain⟨q,t,rfl⟩:=AB bd0 hb;rw[zQ]at t;unfold fM;rw[yz bd0 q t];by_cases e:q=j
  .grind
  .rw[ag e];refine .inr ⟨fun⟨_,h5⟩ n => ?_,iI bd0 t⟩;have hp:=(Du bd0).1 (F8.1 H.bv).2.2;rcases au q j with u|C
   .rcases hp q j u hj h5 with h|h
    .omega
    .exact h.1 l
   .rcases hp j q Om t h5.symm with h|h
    .exact h.1 l
    .omega
 refine⟨H.z,H.cp,H.cc,H.cn,H.ci,⟨by simp only;omega,by simp only;omega⟩,⟨H.la.1,by have:=H.la;simp only;omega⟩,?_,?_,?_,?_,?_,H.on,by have:=H.ol;simp only;omega,?_,?_,H.pn,H.pl,fun p hp => ?_,H.iv,fun p hp=>by have:=H.ii p hp;simp only;omega,H.is⟩
 .have:=H.bl;simp only;rw[VC,zQ];omega
 .obtain⟨_,F,_⟩:=(F8.1 H.bv).1 _ c;refine ZO A ⟨⟨hk,E⟩,F,by simp only;omega,by simp only;omega,.inl rfl⟩ rfl fun b hb => ?_
  rcases a b hb with⟨h1,h2,h3⟩|⟨h1,h2⟩
  .omega
  .exact⟨(H.bft b h2).1,by have:=(H.bft b h2).2;omega,fun e h=>x b h2 h (FZ.2 e),fun e=>h1 ⟨h2,e⟩⟩
 .intro y d;rcases Ht.1 d with rfl|d
  .grind
  .rcases a y d with⟨h1,h2,h3⟩|⟨h1,h2⟩
   .grind
   .obtain⟨g,i,f⟩:=H.bb y h2;exact⟨by simp only;omega,by simp only;omega,f⟩
 .intro y d n;rcases Ht.1 d with rfl|d
  .have:=H.bo _ c l;exact this
  .rcases a y d with⟨h1,_⟩|⟨h1,h2⟩
   .omega
   .exact H.bo y h2 n
 .have h5:=Xo (s.m+1) Om s.bi j hj l;have:=H.bn;simp only;rw[Xp,ah rfl];omega
 .intro o ho;obtain⟨g,i,f,r⟩:=H.oo o ho;exact⟨g,i,by simp only;omega,r⟩
 .intro o ho v hv;obtain⟨g,i,f,r⟩:=H.ov o ho v hv;exact⟨by simp only;omega,by simp only;omega,f,r⟩
 .obtain⟨g,i,f,r⟩:=H.pp p hp;exact⟨g,i,f,by simp only;omega⟩
def au0{l:List (Int×Int)}:vPn l↔(∀p∈l,0<=p.1/\1<=p.2/\p.2<=1024)/\l.Pairwise fun a b=>a.1<b.1:=by
 rw[RY (0,0),Du (0,0)];constructor
 .intro h;exact⟨fun i hi=>(h i hi).1,MH (R:=fun a b=>a.1<b.1) (0,0) (fun _ _ _ h k=>by omega) fun i h1 h2=>(h i h2).2 h1⟩
 .rintro⟨h1,h2⟩ i hi;exact⟨h1 i hi,fun h=>h2 (i-1) i Om hi⟩
def sL:List (Int×Int)->Int
 |[]=>0
 |p::r=>p.2+sL r
def YR(b:List (Int×Int)):∀a,sL (a++b)=sL a+sL b
 |[]=>by simp[sL]
 |x::a=>by show x.2+sL (a++b)=x.2+sL a+sL b;rw[YR b a];omega
theorem Zl(l:List (Int×Int)):∀i,i<=l.length->sumP l i=sL (l.take i)
 |0,_=>rfl
 |i+1,h=>by unfold sumP;rw[Zl l i Om,mP h,YR,gW,dY h];simp[sL]
theorem aue(l:List (Int×Int)):sumP l l.length=sL l:=by grind[Zl]
theorem RX(c:Int):∀l,sL (fQ c l)=sL l+1
 |[]=>rfl
 |p::r=>by
  unfold fQ;split
  .simp[sL];omega
  .split
   .simp[sL];omega
   .have:=RX c r;simp[sL];omega
theorem I7{c:Int}:∀{l:List (Int×Int)} {p:Int×Int},p∈fQ c l->(p.1=c/\(p.2=1\/∃q∈l,q.1=c/\p.2=q.2+1))\/p∈l
 |[],p,h=>.inl (by simp[fQ]at h;subst h;exact⟨rfl,.inl rfl⟩)
 |q::r,p,h=>by
  unfold fQ at h;split at h
  .grind
  .split at h
   .grind
   .rcases fG.1 h with rfl|h
    .grind
    .rcases I7 h with⟨h1,h2⟩|h2
     .grind
     .grind
def RV{c:Int}:∀{l:List (Int×Int)},(l.Pairwise fun a b=>a.1<b.1)->(fQ c l).Pairwise fun a b=>a.1<b.1
 |[],_=>by simp[fQ]
 |q::r,h=>by
  rw[uz]at h;unfold fQ;split
  .grind[List.pairwise_cons]
  .split
   .grind[List.pairwise_cons]
   .rw[uz];refine⟨fun z d => ?_,RV h.2⟩;grind[I7]
def X9(c d:Int):∀l,(pnB d l=true\/d=c)->pnB d (fQ c l)=true
 |[],h=>by grind[fQ,pnB]
 |p::r,h=>by
  unfold fQ;split
  .grind[pnB]
  .split
   .grind[pnB]
   .unfold pnB at h⊢;split
    .rfl
    .rename_i a;rw[ag a]at h;exact X9 c d r h
def OkS.pin{Q:List Nat->Prop}{s:Sto}(H:OkS Q s){c:Int}(b:0<=c/\c<=s.m)(h:sumP s.pi s.pi.length<s.c.pn):OkS Q {s with pi:=fQ c s.pi}:=by
 refine{H with iv := ?_,ii := ?_,is := ?_}
 .have hv:=H.iv;rw[au0]at hv⊢;refine⟨fun p hp => ?_,RV hv.2⟩;rcases I7 hp with⟨h1,h2|⟨q,a,_,h3⟩⟩|hp
  .omega
  .obtain⟨j,hj,rfl⟩:=AB (0,0) a;have:=H.few j hj;grind
  .grind
 .intro p hp;rcases I7 hp with⟨h1,_⟩|hp
  .grind
  .exact H.ii p hp
 .grind[aue,RX]
def X8{c:Int}:∀{l:List (Int×Int)},(∀p∈l,1<=p.2)->plP c (fQ c l)<(fQ c l).length/\((fQ c l).getD (plP c (fQ c l)) (0,0)).1=c/\uh c (fQ c l)=l
 |[],_=>by simp[fQ,plP,uh]
 |p::r,h=>by
  unfold fQ;split
  .simp[plP,uh]
  .split
   .grind[plP,uh]
   .obtain⟨k,k2,b⟩:=X8 (c:=c) (l:=r) fun q a=>h q (by simp[a]);grind[plP,uh]
structure Grow (c:Int) (s u:Sto):Prop where
 lk:∀k,lkA k c u.bi=lkA k c s.bi
 ob:∀i,i<s.ob.length->i<u.ob.length/\(u.ob.getD i (0,[])).1=(s.ob.getD i (0,[])).1/\fvA c (u.ob.getD i (0,[])).2 0=fvA c (s.ob.getD i (0,[])).2 0/\∀x,x<(s.ob.getD i (0,[])).2.length->x<(u.ob.getD i (0,[])).2.length/\((u.ob.getD i (0,[])).2.getD x vr0).f=((s.ob.getD i (0,[])).2.getD x vr0).f/\((u.ob.getD i (0,[])).2.getD x vr0).p=((s.ob.getD i (0,[])).2.getD x vr0).p
 hp:∀k d,HasP s.pa k d->HasP u.pa k d
 pb:pnB c s.pi=true->pnB c u.pi=true
def Grow.rfl'{c:Int}{s:Sto}:Grow c s s:=⟨fun _=>rfl,fun i h=>⟨h,rfl,rfl,fun x h=>⟨h,rfl,rfl⟩⟩,fun _ _ h=>h,id⟩
def Grow.cre{s:Sto}{k b:List Nat}{c:Int}(a:c<=s.m):Grow c s (fD s k b):=by
 refine⟨fun q=>Wq q c _ _ (by simp only;omega),fun i hi => ?_,fun q d h => ?_,id⟩
 .grind[fD]
 .simp[fD,Gy];exact(puI _ _ _ _ _).old q d h
def aiZ{f c m:Int}(a:c<=m)(h:0<=m):gQ f (m+1) c=gQ f 0 c:=by grind[gQ]
theorem UR{l:List Vr}{c m:Int}(a:c<=m)(h:0<=m)(b:(l.getD (l.length-1) vr0).t=0):fvA c (fU l (m+1)) 0=fvA c l 0:=UT c _ l _ 0 (by rw[b];exact aiZ a h)
theorem adJ(l:List Vr)(c:Int)(x:Nat)(hx:x<l.length):((fU l c).getD x vr0).f=(l.getD x vr0).f/\((fU l c).getD x vr0).p=(l.getD x vr0).p:=by grind[fU,yz,vr0,hx]
def Grow.put{s:Sto}{i np:Nat}{b:List Nat}{op:List Int}{ps:List (List Nat)}{sh:List Bool}{c:Int}(f:c<=s.m)(a:0<=s.m)(hl:0<(s.ob.getD i (0,[])).2.length)(g:((s.ob.getD i (0,[])).2.getD ((s.ob.getD i (0,[])).2.length-1) vr0).t=0):Grow c s (xC s i np b op ps sh):=by
 refine⟨fun q=>rfl,fun j hj => ?_,fun q d h => ?_,id⟩
 .grind[xC,yz,qP,fU,UO,UR]
 .exact(puI _ _ _ _ _).old q d h
def Grow.drop{s:Sto}{i j:Nat}{c:Int}(b:c<=s.m)(a:0<=s.m)(hb:(s.bi.getD j bd0).t=0)(f:((s.ob.getD i (0,[])).2.getD ((s.ob.getD i (0,[])).2.length-1) vr0).t=0):Grow c s {s with m:=s.m+1,ob:=mY s.ob i (s.m+1),bi:=fM s.bi j (s.m+1)}:=by refine⟨fun q=>Wp q c s.m _ j hb b a,fun j hj => ?_,fun q d h=>h,id⟩;grind[mY,yz,UR,Na,adJ]
def Grow.ren{s:Sto}{k:List Nat}{o:Int}{j:Nat}{c:Int}(b:c<=s.m)(a:0<=s.m)(hb:(s.bi.getD j bd0).t=0):Grow c s {s with m:=s.m+1,bi:=jo ⟨k,o,s.m+1,0⟩ (fM s.bi j (s.m+1))} :=
 ⟨fun q=>(Wq q c _ _ (by simp only;omega)).trans (Wp q c s.m _ j hb b a),fun i hi=>⟨hi,rfl,rfl,fun x hx=>⟨hx,rfl,rfl⟩⟩,fun _ _ h=>h,id⟩
def Grow.pin{s:Sto}{c d:Int}:Grow c s {s with pi:=fQ d s.pi} :=
 ⟨fun _=>rfl,fun i hi=>⟨hi,rfl,rfl,fun x hx=>⟨hx,rfl,rfl⟩⟩,fun _ _ h=>h,fun h=>X9 d c _ (.inl h)⟩
end Go.Proofs.YtopbmdnbdpjheaaGreat
section
namespace Go.Pg
open Go
section
variable {P:Program} [Tb P]
theorem GoodZ.e'{g:FuncId}{args:List V}{s s':St}{r:V}(hb:oI P g=true)(h:GoodZ P g args s s' r):GoodE P g args s (fun s2 a=>s2=s'/\a=r) :=
 h.e hb fun c w u w' h=>by rw[Ez hb]at h;cases h
theorem atc{o:Oper}{s:St}{K K':St->Prop}(h:eQ P s o K)(hk:∀s',K s'->K' s'):eQ P s o K':=by
 unfold eQ at h⊢;split at h
 .rename_i a;rcases h with h|⟨s1,c,h⟩
  .refine .inl ?_;have:=Zi (o:=⟨o.dst,o.op,o.type, "",#[],none⟩) (K:=fun _=>K) (K':=fun _=>K') (s:=s) (by rw[a];simpa[aB]using h) (fun _ s'=>hk s');rw[a]at this;simpa[aB]using this
  .refine .inr ⟨s1,c,?_⟩;split at h
   .obtain⟨φ,hg,hK⟩:=h;exact⟨φ,hg,fun s' r b=>hk _ (hK s' r b)⟩
   .exact h.elim
 .exact Zi h fun _ s'=>hk s'
def fxK{ι:Type}(F:ι->St)(I:ι->Prop)(s':St):Prop:=∃y,I y/\(s'=F y\/Weak s' (F y))
theorem ap2{ι:Type}(hm:P.follows .mixedOrders=true)(F:(Nat->Bool)->ι->St)(I:(Nat->Bool)->ι->Prop)(E:ι){ex:List Nat}{l:List Oper}{id:Nat}{Q:Exit->St->Prop}{s:St}(T:F (fun _=>false) E=s)(R:I (fun _=>false) E)
  (g:(l.zipIdx.all fun x=>(edgesOf x.1).all fun e=>decide (e<x.2))=true) (hg:(l.all fun o=>o.guard.isNone)=true)
  (lK:∀(S:Nat->Bool) x i o,l[i]?=some o->i<l.length->S i=false->(∀e∈edgesOf o,S e=true)->(∀j n,l[j]?=some n->S j=true->∀e∈edgesOf n,S e=true)->I S x->eQ P (F S x) ⟨o.dst,o.op,o.type, "",#[],none⟩ (fxK (F (ins S i)) (I (ins S i))))
  (d:∀S x,(∀j,j<l.length->S j=true)->I S x->Q .normal (F S x)):wpS (dU ex) P (.region id l.toArray true) Q s:=by
 refine .inr fun id C W L a w U f q K => ?_
 refine aad hm (fun S a w=>∃x L,I S x/\Sim C (F S x) L a w) ?_ ?_ ?_ ⟨E,L,R,T▸YX K⟩
 .intro i o ho e he;have hm:(o,i)∈l.zipIdx:=by rw[List.mem_zipIdx_iff_getElem?];simpa using ho
  have:=lM.1 (lM.1 g (o,i) hm) e he;simpa using this
 .rintro S i o a w ho hi he k ⟨x,L,p,r⟩;have b:l[i]?=some o:=by simpa using ho
  have v:i<l.length:=(qK.1 b).1;have u:o.guard=none:=by have:=lM.1 hg o (Gp b);simpa using this
  have hd:∀t,o.dst=some t->t<C.n:=Dl f o (by simpa using LU ho);have A:=lK S x i o b v hi he (fun j n hj=>k.cl j n (by simpa using hj)) p;unfold wpOp;rw[ho];simp only;rw[ah (by simp[Region.wanted,u])];have m:eQ P (F S x) o (fxK (F (ins S i)) (I (ins S i))):=A;refine .inl (QG m U r hd ?_);rintro s' L' N w' ⟨y,H,h⟩ G;rcases h with rfl|h
  .exact⟨y,L',H,G⟩
  .obtain⟨J,M⟩:=h C L' N w' G;exact⟨y,J,H,M⟩
 .rintro S a w c k ⟨x,L,p,r⟩;exact⟨F S x,L,by rw[q];exact d S x (fun j hj=>c j (by simpa using hj)) p,r⟩
def fxT{α:Type}(T:α->List (Nat×V))(e h:Nat->V)(I:(Nat->Bool)->α->(BX)->Nat->Prop)(S:Nat->Bool)(s':St):Prop:=∃a B m,I S a B m/\s'=⟨jL (T a) 0 S e,B,m,h⟩
theorem Yu{α:Type}(hm:P.follows .mixedOrders=true)(T:α->List (Nat×V))(I:(Nat->Bool)->α->(BX)->Nat->Prop)(t:α){ex:List Nat}{l:List Oper}{id:Nat}{Q:Exit->St->Prop}{s:St}{e h:Nat->V}{B0:BX}{m0:Nat}(u:Weak s ⟨e,B0,m0,h⟩)(y:I (fun _=>false) t B0 m0)
  (d:(l.zipIdx.all fun x=>(edgesOf x.1).all fun e=>decide (e<x.2))=true) (hg:(l.all fun o=>o.guard.isNone)=true)
  (lK:∀(S:Nat->Bool) a B m i o,l[i]?=some o->i<l.length->S i=false->(∀e∈edgesOf o,S e=true)->(∀j v,l[j]?=some v->S j=true->∀e∈edgesOf v,S e=true)->I S a B m->eQ P ⟨jL (T a) 0 S e,B,m,h⟩ ⟨o.dst,o.op,o.type, "",#[],none⟩ (fxT T e h I (ins S i)))
  (c:∀S a B m,(∀j,j<l.length->S j=true)->I S a B m->Q .normal ⟨jL (T a) 0 S e,B,m,h⟩):wpS (dU ex) P (.region id l.toArray true) Q s:=by
 have f:wpS (dU ex) P (.region id l.toArray true) Q ⟨e,B0,m0,h⟩:=by
  refine ap2 (ι:=α×(BX)×Nat) hm (fun S x=>⟨jL (T x.1) 0 S e,x.2.1,x.2.2,h⟩) (fun S x=>I S x.1 x.2.1 x.2.2) (t,B0,m0) (by simp only[Zr]) y d hg ?_ fun S x=>c S x.1 x.2.1 x.2.2
  intro S x i o h1 h2 h3 h4 h5 A;refine atc (lK S x.1 x.2.1 x.2.2 i o h1 h2 h3 h4 h5 A) ?_;rintro s' ⟨a,B,m,F,k2⟩;exact⟨(a,B,m),F,.inl k2⟩
 have E:=fJ (P:=P) ex hm
 rcases f with h1|h1
 .refine .inr fun id C k L a w r b q n => ?_
  obtain⟨g,p⟩:=u C L a w n;exact E id C l.toArray (Q .normal) k _ g a w r b q (.inl h1) p
 .refine .inr fun id C k L a w r b q n => ?_
  obtain⟨g,p⟩:=u C L a w n;exact h1 id C k g a w r b q p
theorem SV{g:FuncId}{f:Operand}{args:List Operand}{d:Option Nat}{s:St}{K:St->Prop}{vs:List V}{r:V}(hf:s.ev f = .fn g [] [])(hg:Good P g vs r)(h:args.map s.ev=vs)(a:vs.map V.erase=vs:=by rfl)(h1:noRefs vs=true:=by rfl)(h2:r.noRef=true:=by rfl)(h3:(ownFree vs||r.flat)=true:=by rfl)
  (hK:K (St.put {s with nid:=s.nid+r.idb} d (r.shift s.nid))):Eb P f args d s K:=by
 refine SX ?_
 rw[hf]
 exact oH r hg (by rw[h,a]) (by rw[h,h1]) h2 (by rw[h,h3]) hK
theorem GoodE.good{f:FuncId}{args:List V}{v:Value}(h:GoodE P f args ⟨fun _=>.top,fun _=>none,0,fun _=>.top⟩ (fun _ r=>r = .c v))(d:oI P f=true:=by kernel_rfl):Good P f args (.c v):=by
 refine⟨d,fun A w c i hA a => ?_⟩;let C:Cx:={n:=0,A0:=A,Wr:=fun _=>False,w0:=w}
 have S:Sim C ⟨fun _=>.top,fun _=>none,0,fun _=>.top⟩ ⟨A,fun _=>none,fun _=>none⟩ {tmps:=#[],defers:=[]} w :=
  ⟨rfl,rfl,fun _=>trivial,fun _=>trivial,fun b cs h=>(by cases h),{
    nidO:=fun _ _ h=>by cases h
    nidB:=fun _ _ h=>by cases h
    own:=fun _ _ h=>by cases h
    boxW:=fun _ _ h=>by cases h
    injO:=fun _ _ _ h=>by cases h
    injB:=fun _ _ _ h=>by cases h
    dis:=fun _ _ _ h=>by cases h
    old:=hA
    frz:=fun g h=>.inl h},Kp.refl _ _ _⟩
 refine(h C _ _ w c (fun w' hk=>Tb.keep w w' i hk) S a).2.mono ?_;rintro e w' ⟨u,L',s',r,rfl,he,k,j⟩;exact⟨u,⟨fun _=>False,fun _=>none,fun _=>none⟩,he,j,k.kp,fun g h=>h.elim,fun _ _ h=>(by cases h),fun _ _ _ h=>(by cases h)⟩
def unB(D:Dw)(P:Program)[Tb P](x:Code)(Q:Exit->St->Prop):Nat->St->Prop
 |0,_=>False
 |k+1,s=>unB D P x Q k s\/∃s',Weak s s'/\wpS D P x (nZ (unB D P x Q k) Q) s'
theorem ZI(D:Dw)(x:Code)(Q:Exit->St->Prop):∀n,unB D P x Q n=fun s=>∃m s',m<n/\Weak s s'/\wpS D P x (nZ (unB D P x Q m) Q) s'
 |0=>by funext s;exact propext ⟨fun h=>h.elim,fun⟨m,_,h,_⟩=>by omega⟩
 |n+1=>by
  funext s;have i:=congrFun (ZI D x Q n) s;refine propext ⟨?_,?_⟩
  .rintro(h|⟨s',h1,h2⟩)
   .rw[i]at h;obtain⟨m,s',h1,h2⟩:=h;exact⟨m,s',by omega,h2⟩
   .exact⟨n,s',by omega,h1,h2⟩
  .rintro⟨m,s',h1,h2⟩;rcases au m n with h3|h3
   .exact .inl (by rw[i];exact⟨m,s',h3,h2⟩)
   .have:m=n:=Om;subst this;exact .inr ⟨s',h2⟩
theorem tu{D:Dw}{x:Code}{Q:Exit->St->Prop}{s:St}(k:Nat)(h:wpS D P x (nZ (unB D P x Q k) Q) s):Aw D P x Q s:=by refine⟨fun n s1=>wpS D P x (nZ (unB D P x Q n) Q) s1,k,⟨s,Weak.refl s,h⟩,fun n s1 h1 => ?_⟩;have h2:wpS D P x (nZ (unB D P x Q n) Q) s1:=h1;rw[ZI]at h2;exact h2
theorem vT{D:Dw}{x:Code}{Q:Exit->St->Prop}{s:St}{k:Nat}(h:wpS D P x (nZ (unB D P x Q k) Q) s):unB D P x Q (k+1) s:=.inr ⟨s,Weak.refl s,h⟩
theorem auN(D:Dw)(x:Code)(Q:Exit->St->Prop)(k:Nat)(s:St):nZ (unB D P x Q k) Q .normal s=unB D P x Q k s:=rfl
theorem auM(D:Dw)(x:Code)(Q:Exit->St->Prop)(k id:Nat)(s:St):nZ (unB D P x Q k) Q (.exit id) s=Q (.exit id) s:=rfl
theorem auO(D:Dw)(x:Code)(Q:Exit->St->Prop)(k:Nat)(s:St):nZ (unB D P x Q k) Q .ret s=Q .ret s:=rfl
end
def pgu:=Ac @auN @auM @auO
end Go.Pg
end
namespace Go.Proofs.YtopbmdnbdpjheaaGreat
open Go Go.Pg
structure Nx (Q:List Nat->Prop) (s u:Sto):Prop where
 ok:OkS Q u
 c:u.c=s.c
 m:s.m<=u.m
 g:∀c,c<=s.m->Grow c s u
theorem Nx.same{Q:List Nat->Prop}{s:Sto}(H:OkS Q s):Nx Q s s:=⟨H,rfl,rZ _,fun _ _=>Grow.rfl'⟩
def Pgm(g:FuncId)(ar:List V)(s u:Sto)(r:V):Prop:=∀e bx n h b N,StAt bx n b s N->GoodE Tryz.prog g (.ref b 0::ar) ⟨e,bx,n,h⟩ (Chg e bx n h (N.D b) (SMod N b n u r))
def AZ{g:FuncId}{ar:List V}{s:Sto}{r:V}(a:oI Tryz.prog g=true)(c:∀e bx n h b N,StAt bx n b s N->Gxz g (.ref b 0::ar) ⟨e,bx,n,h⟩ ⟨e,bx,n,h⟩ r):Pgm g ar s s r:=by intro e bx n h b N H;refine((c e bx n h b N H).e' a).mono ?_;rintro s' r' ⟨rfl,rfl⟩;exact H.same r' (az _) bx (fun _ _=>rfl)
def OkC(s:Sto)(k d:List Nat):Prop:=d.length<=65536/\(lkA k s.m s.bi).2=false/\(nmA s.m s.bi).length<s.c.na/\s.m<s.c.cm/\(s.pa.length+nPg s.c.z.toNat d:Int)<=s.c.pg
def abU{Q:List Nat->Prop}{s:Sto}(H:OkS Q s){k d:List Nat}(hk:oct k)(l:iK k=true)(hd:oct d)(hl:d.length<=1048576)(E:d.length<=65536->Q d) :
  ∃u y x,Nx Q s u/\Gxx 37 [.agg (stF s),vs k,fzb d] (.tup [.agg (stF u),vi y,vi x])/\Pgm 36 [vs k,fzb d] s u (.tup [vi y,vi x])/\(OkC s k d->u=fD s k d):=by
 have m:=H.sml
 have hm:=H.m
 have v:=H.cc
 have C:=H.cn
 have j:=H.cp
 have A:=H.bn
 have g:(nmA s.m s.bi).length<=12:=by rw[H.nml];omega
 by_cases h:∃x:Int,(65536<d.length/\x=11)\/(d.length<=65536/\(lkA k s.m s.bi).2=true/\x=9)\/(d.length<=65536/\(lkA k s.m s.bi).2=false/\(s.c.na<=(nmA s.m s.bi).length\/s.c.cm<=s.m\/s.c.pg<s.pa.length+nPg s.c.z.toNat d)/\x=14)
 .obtain⟨x,hx⟩:=h
  exact⟨s,0,x,.same H,ag4 s m k d hk l hl H.z H.asc Om x hx,AZ Za fun e bx n h b N p=>anR e bx n h p m k d hk l hl H.z H.asc g x hx,fun⟨I,o2,o3,o4,o5⟩=>by
   rcases hx with⟨h1,_⟩|⟨_,h1,_⟩|⟨_,_,h1,_⟩
   .omega
   .rw[o2]at h1;cases h1
   .omega⟩
 .have a:d.length<=65536:=o8 fun q=>h ⟨11,.inl ⟨by omega,rfl⟩⟩
  have f:(lkA k s.m s.bi).2=false:=by
   cases q:(lkA k s.m s.bi).2 with
   |false=>rfl
   |true=>exact absurd ⟨9,.inr (.inl ⟨a,q,rfl⟩)⟩ h
  have G:¬(s.c.na<=(nmA s.m s.bi).length\/s.c.cm<=s.m\/s.c.pg<s.pa.length+nPg s.c.z.toNat d):=fun q=>h ⟨14,.inr (.inr ⟨a,f,q,rfl⟩)⟩
  have t:∀i,i<s.bi.length->(s.bi.getD i bd0).t=0->sB (s.bi.getD i bd0).n≠sB k/\(s.bi.getD i bd0).o≠s.la+1:=fun i hi F=>⟨(HY 0 H.bft f).2 _ (iI _ hi) F,by have:=(H.bb _ (iI bd0 hi)).2.2;omega⟩
  have r:s.la+1∉s.ob.map (·.1):=fun hm=>by obtain⟨o,ho,e⟩:=dP.1 hm;have:=(H.oo o ho).1;omega
  exact⟨fD s k d,s.m+1,0,⟨H.cre hk l hd a (E a) f Om Om Om,rfl,by simp only[fD];omega,fun c v=>Grow.cre v⟩,
   ag3 s m k d hk l a H.z H.asc hm.1 Om Om H.la f Om Om j H.bv H.notL t,
   fun e bx n h b N p=>anQ e bx n h p m k d hk l a H.z H.asc g hm.1 Om Om H.la f Om Om j r H.bv H.late t,fun _=>rfl⟩
theorem abW{Q:List Nat->Prop}{s:Sto}(H:OkS Q s){k d:List Nat}(hd:oct d)(hl:d.length<=1048576)(C:d.length<=65536->Q d) :
  ∃u y x,Nx Q s u/\Gxx 39 [.agg (stF s),vs k,fzb d] (.tup [.agg (stF u),vi y,vi x])/\Pgm 38 [vs k,fzb d] s u (.tup [vi y,vi x]):=by
 have a:=H.sml
 have hm:=H.m
 have F:=H.cc
 have t:=H.cp
 by_cases g:d.length<=65536
 case neg=>exact⟨s,0,11,.same H,ahT s a k d Om,AZ Za fun e bx n h b N f=>aop e bx n h k d Om hl⟩
 cases l:(lkA k s.m s.bi).2
 .exact⟨s,0,8,.same H,ahU s a k d g l,AZ Za fun e bx n h b N f=>aor e bx n h f a hm.1 k d g l⟩
 obtain⟨i,x,j,m,_,_,_,_,_,r⟩:=H.at l
 have ho:=iI (0,[]) m.il
 obtain⟨L,G,M,J⟩:=H.oo _ ho
 obtain⟨v1,R,K,w,S,I⟩:=H.ov _ ho _ (iI vr0 m.xl)
 have A:=(H.ov _ ho _ (iI vr0 (show(s.ob.getD i (0,[])).2.length-1<(s.ob.getD i (0,[])).2.length by omega))).1
 have P:PutAt s k d i x (nPg s.c.z.toNat d) (jsO s.pa (verOf s i x).p) (ckP s.c.z.toNat d (nPg s.c.z.toNat d)) (shA (datA s.pa (jsO s.pa (verOf s i x).p) (verOf s i x).p.length) (ckP s.c.z.toNat d (nPg s.c.z.toNat d)) (nPg s.c.z.toNat d)) :=
  ⟨m,g,H.z,AX I.num fun q C=>(H.pp q C).1,by have:(verOf s i x).p.length<=65536:=K;omega,rfl,rfl,rfl⟩
 generalize shA (datA s.pa (jsO s.pa (verOf s i x).p) (verOf s i x).p.length) (ckP s.c.z.toNat d (nPg s.c.z.toNat d)) (nPg s.c.z.toNat d)=sh at *
 by_cases E:s.c.cm<=s.m\/s.c.pg<s.pa.length+frC sh (nPg s.c.z.toNat d)
 .exact⟨s,0,14,.same H,U7 s a k d i x _ _ _ _ P Om Om _ (.inl ⟨E,rfl⟩),AZ Za fun e bx n h b N f=>aoq e bx n h f a hm.1 H.on H.pn k d i x _ _ _ _ P E⟩
 .have O:PutOk s i x (65536*s.m):=⟨by omega,t,J,G,r,by omega,hm.1,by omega,I.num,fun p hp=>⟨(H.pp p hp).2.2.1,(H.pp p hp).2.2.2⟩⟩
  exact⟨_,s.m+1,0,⟨H.put P hd (C g) r Om Om,rfl,by simp only[xC];omega,fun c F=>Grow.put F hm.1 G r⟩,
   Good.fzt (U7 s a k d i x _ _ _ _ P Om Om _ (.inr ⟨by omega,⟨_,O⟩,rfl⟩)) rfl ⟨aC _,aC _,aC _,trivial⟩,
   fun e bx n h b N f=>aoo e bx n h f a hm.1 H.on H.pn k d i x _ _ _ _ P _ O Om Om fun v hv=>by have:=(H.ov _ ho v hv).2.2.1;omega⟩
theorem abV{Q:List Nat->Prop}{s:Sto}(H:OkS Q s){k:List Nat}(hk:oct k)(C:iK k=true) :
  ∃u y x,Nx Q s u/\Gxx 41 [.agg (stF s),vs k] (.tup [.agg (stF u),vi y,vi x])/\Pgm 40 [vs k] s u (.tup [vi y,vi x]):=by
 have a:=H.sml
 have hm:=H.m
 have A:=H.cc
 cases l:(lkA k s.m s.bi).2
 .exact⟨s,0,8,.same H,ahg s a k l,AZ Za fun e bx n h b N d=>an0 e bx n h d a k l⟩
 obtain⟨i,x,j,f,r,g,G,t,_,m⟩:=H.at l
 by_cases q:s.c.cm<=s.m
 .exact⟨s,0,14,.same H,ahh s a k i x f q,AZ Za fun e bx n h b N d=>an1 e bx n h d a k l q⟩
 have ho:=iI (0,[]) f.il
 obtain⟨I,E,J,F⟩:=H.oo _ ho
 have p:=(H.ov _ ho _ (iI vr0 (show(s.ob.getD i (0,[])).2.length-1<(s.ob.getD i (0,[])).2.length by omega))).1
 exact⟨_,s.m+1,0,⟨H.drop f.il g G t Om,rfl,by simp only;omega,fun c A=>Grow.drop A hm.1 t m⟩,
  ahf s a k hk C i x j f Om Om hm.1 H.bv H.notL r g (H.late j g).1 F E m Om,
  fun e bx n h b N d=>anZ e bx n h d a H.on k hk C i x j f Om Om hm.1 H.bv H.notL r g (H.late j g).1 F E m Om fun v hv=>by have:=(H.ov _ ho v hv).2.2.1;omega⟩
def abX{Q:List Nat->Prop}{s:Sto}(H:OkS Q s){k t:List Nat}(hk:oct k)(F:iK k=true)(l:oct t)(a:iK t=true) :
  ∃u y x,Nx Q s u/\Gxx 43 [.agg (stF s),vs k,vs t] (.tup [.agg (stF u),vi y,vi x])/\Pgm 42 [vs k,vs t] s u (.tup [vi y,vi x]):=by
 have p:=H.sml
 have hm:=H.m
 have E:=H.cc
 by_cases h:∃x:Int,((lkA k s.m s.bi).2=false/\x=8)\/((lkA k s.m s.bi).2=true/\(lkA t s.m s.bi).2=true/\x=9)\/((lkA k s.m s.bi).2=true/\(lkA t s.m s.bi).2=false/\s.c.cm<=s.m/\x=14)
 .obtain⟨x,hx⟩:=h;exact⟨s,0,x,.same H,ahX s p k t l a x hx,AZ Za fun e bx n h b N r=>aov e bx n h r p k t l a x hx⟩
 have d:(lkA k s.m s.bi).2=true:=by
  cases q:(lkA k s.m s.bi).2 with
  |true=>rfl
  |false=>exact absurd ⟨8,.inl ⟨q,rfl⟩⟩ h
 have f:(lkA t s.m s.bi).2=false:=by
  cases q:(lkA t s.m s.bi).2 with
  |false=>rfl
  |true=>exact absurd ⟨9,.inr (.inl ⟨d,q,rfl⟩)⟩ h
 have v:s.m<s.c.cm:=o8 fun q=>h ⟨14,.inr (.inr ⟨d,f,by omega,rfl⟩)⟩
 obtain⟨i,x,j,_,A,m,G,C,_,_⟩:=H.at d
 have g:=(HY 0 H.bft f).1
 exact⟨_,s.m+1,0,⟨H.ren l a m C f v,rfl,by simp only;omega,fun c E=>Grow.ren E hm.1 C⟩,
  ahW s p k t hk F l a j d f v Om hm.1 H.bv H.notL A m (H.late j m).1 g,
  fun e bx n h b N r=>aou e bx n h r p k t hk F l a j d f v Om hm.1 H.bv H.late A m g⟩
def ML{Q:List Nat->Prop}{s:Sto}(H:OkS Q s) :
  ∃u x,Nx Q s u/\Gxx 33 [.agg (stF s),vi s.m] (.tup [.agg (stF u),vi x])/\Pgm 29 [vi s.m] s u (vi x)/\(x=0\/u=s)/\(x=0->u={s with pi:=fQ s.m s.pi})/\(sumP s.pi s.pi.length<s.c.pn->x=0):=by
 have a:=H.sml
 have hm:=H.m
 have hv:=ut s hm.1
 rcases Int.lt_or_le (sumP s.pi s.pi.length) s.c.pn with h|h
 .exact⟨_,0,⟨H.pin ⟨hm.1,rZ _⟩ h,rfl,rZ _,fun c g=>Grow.pin⟩,ahP s a s.m hv H.iv h hm.1 H.few,fun e bx n f b N d=>aon e bx n f d a s.m hv H.iv hm.1 h H.few,.inl rfl,fun _=>rfl,fun _=>rfl⟩
 .exact⟨s,14,.same H,ahQ s a s.m hv H.iv h,AZ Za fun e bx n f b N d=>aom e bx n f d a s.m hv H.iv h,.inr rfl,fun h=>absurd h dX,fun k=>by omega⟩
theorem rG{P:Program}{b:List ResultVar}{r a:V}{s:St}{l:List Nat}(c:Ids l)
  (h:kH P s b=some a:=by first|exact aW _ _ _|exact jW _ _ _ _|exact KU _ _ _ _ _|exact KT _ _ _ _ _ _|(simp(disch:=first|exact dqz|fail) only[pgr,pgo,tyf,simprocAttr];rfl))
  (hl:l.Nodup:=by decide) (hi:a.any (Tag.notIn l) (fun _=>true) false=false:=by simp only[pgo,simprocAttr]) (d:a.map (mr l) id=r:=by first|rfl|(simp only[pgo,simprocAttr];try grind)):DC P b r s:=mD l a h hl hi d
theorem wG{F C p:Prop}(f:F)(c:C){l:List Nat}(hi:Ids l)(h:F->C->Ids l->p:=by intro f c hi;(repeat'(first|(simp(maxSteps:=2000000) (disch:=first|exact dqz|fail) only[pgz,simprocAttr,f])|((with_reducible first|apply lD|apply lJ|apply lH)<;>intro a<;>(try simp only[a])<;>(try simp only[pgd]at a))|(with_reducible refine cK ?_)|(refine cS c ?_)|fail));all_goals exact rG hi):p:=h f c hi
def nd(u:Nat):Nat:=if h:u<16 then 1 else nd (u / 16)+1
termination_by u
decreasing_by omega
def adr{l:List Nat}(ho:oct l):uI (sB l)=bv l:=by unfold uI sB bv;simp only[zA];apply kN;intro b hb;have:=ho b hb;simp only[Function.comp,UInt8.toNat_ofNat'];congr 2;omega
theorem qm(n:Int)(j:Nat)(hj:j<=62):bits .and .i64 n (2^j-1)=n%2^j:=by
 have a:(BitVec.ofInt 64 (2^j-1)).toNat=2^j-1:=by have h:(2:Nat)^j<=2^62:=qL Om hj;grind
 have b:(((BitVec.ofInt 64 n).toNat%2^j:Nat):Int)=n%2^j:=by
  rw[BitVec.toNat_ofInt,Int.natCast_emod,Int.toNat_of_nonneg (Int.emod_nonneg _ dX)];have:((2^64:Nat):Int)=2^j*2^(64-j):=by rw[<-Int.pow_add,show j+(64-j)=64 by omega];rfl
  simp_all
 show IntKind.i64.wrap (((BitVec.ofInt 64 n &&& BitVec.ofInt 64 (2^j-1)).toNat:Nat):Int)=_;rw[BitVec.toNat_and,a,Nat.and_two_pow_sub_one_eq_mod];have h1:n%2^j<2^j:=Int.emod_lt_of_pos _ (Int.pow_pos dX);have h2:(2:Int)^j<=2^62:=by have:=qL (n:=2) Om hj;grind
 grind[QY]
theorem aaV(n:Int):bits .and .i64 n 255=n%256:=qm n 8 dX
theorem aaX(n:Int):bits .and .i64 n 15=n%16:=qm n 4 dX
def shE(l:List Nat)(m:Int):Int:=if m<l.length then 11 else 0
theorem am0(l:List Nat)(h:(l.all fun b=>decide (b<256))=true):oct l:=fun b hb=>by simpa using lM.1 h b hb
def hdW(l:List (List Nat)):List Nat:=l.headD []
def amy(l:List (List Nat)):Bool:=l.isEmpty || !decide ((PU (hdW l)).2=0)
def akO(l:List (List Nat)):Bool:=l.isEmpty || !decide ((pk (hdW l)).2=0)
def its(acc:List (List Nat×Int))(l:List (List Nat))(bad:Bool):List (List Nat×Int)×List (List Nat)×Bool :=
 match bad,l with
 |true,l=>(acc,l,true)
 |false,[]=>(acc,[],false)
 |false,[k]=>(acc++[((pk k).1,(PU []).1)],[],true)
 |false,k::w::r=>its (acc++[((pk k).1,(PU w).1)]) r (akO (k::w::r)||amy (w::r))
termination_by l.length
theorem sh5(n:Int):Int.fdiv n (2^min 5 IntKind.i64.bits)=n.fdiv 32:=rfl
theorem sh7(n:Int):Int.fdiv n (2^min 7 IntKind.i64.bits)=n.fdiv 128:=rfl
def Ar:List (List Nat):=[[97],[98],[99],[100],[101],[102],[97,97],[98,32,99],[37,54,49],[65,58,49],[0],[122,47,255]]
def u8i(n:Int):Nat:=(n%256).toNat
def FY(n:Int):IntKind.u8.wrap n=((u8i n:Nat):Int):=by rw[IntKind.wrap_u8];unfold u8i;omega
def ER(n:Int):List Nat:=if n.fdiv 256%16=15 then[u8i n,u8i (n.fdiv 2),u8i (n.fdiv 8)]else Ar.getD ((n%256).toNat%12) []
def akR(n:Int):oct (ER n)/\(ER n).length<=12:=by
 unfold ER;split
 .refine⟨?_,by simp⟩;intro b hb;grind[u8i]
 .have:∀k,k<12->((Ar.getD k []).all fun b=>decide (b<256))=true/\(Ar.getD k []).length<=12:=dX;grind[am0]
theorem sh8(n:Int):Int.fdiv n (2^min 8 IntKind.i64.bits)=n.fdiv 256:=rfl
theorem sh1(n:Int):Int.fdiv n (2^min 1 IntKind.i64.bits)=n.fdiv 2:=rfl
theorem sh3(n:Int):Int.fdiv n (2^min 3 IntKind.i64.bits)=n.fdiv 8:=rfl
theorem bs3(a b c:Nat):[V.c (.int .u8 (a:Int)),V.c (.int .u8 (b:Int)),V.c (.int .u8 (c:Int))]=bv [a,b,c]:=rfl
def adc(e:Nat->V)(b:BX)(n:Nat)(h:Nat->V):qp Tryz.prog ⟨e,b,n,h⟩ 66 12 [(0,.c (.string ⟨#[97]⟩)),(1,.c (.string ⟨#[98]⟩)),(2,.c (.string ⟨#[99]⟩)),(3,.c (.string ⟨#[100]⟩)),(4,.c (.string ⟨#[101]⟩)),(5,.c (.string ⟨#[102]⟩)),(6,.c (.string ⟨#[97,97]⟩)),(7,.c (.string ⟨#[98,32,99]⟩)),(8,.c (.string ⟨#[37,54,49]⟩)),(9,.c (.string ⟨#[65,58,49]⟩)),(10,.c (.string ⟨#[0]⟩)),(11,.c (.string ⟨#[122,47,255]⟩))]=some (.sl (.own n 9) 1 (sv Ar),⟨e,b,n+1,h⟩):=by rw[Jf,auz,dZ,auA,dZ,auB,dZ];rfl
def ade(e:Nat->V)(bx:BX)(n:Nat)(h:Nat->V)(a b c:Nat):qp Tryz.prog ⟨e,bx,n,h⟩ 60 3 [(0,.c (.int .u8 (a:Int))),(1,.c (.int .u8 (b:Int))),(2,.c (.int .u8 (c:Int)))]=some (.sl (.own n 5) 1 (bv [a,b,c]),⟨e,bx,n+1,h⟩):=by rw[Jf,QT,dZ,Zy,dZ,Zz,dZ];rfl
theorem k12:Ar.length=12:=rfl
def aus(n:Int):Int.tmod (n%256) 12=(((n%256).toNat%12:Nat):Int):=by grind
theorem auf(k:Nat)(h:k<12):(sv Ar)[k]?=some (.c (.string (sB (Ar.getD k [])))):=qJ Ar k h
theorem m12(n:Nat):n%12<12:=kQ _ Om
def aje(l:List Nat):V.idsL (bv l)=[]:=by induction l<;>grind[bv,V.idsL,V.ids]
def ahK(n:Int):Gxx 279 [vi n] (vs (ER n)):=by
 refine gI oW ?_;unfold ER;have hm:=m12 (n%256).toNat;have hk:=k12;(repeat' first|refine wP' (A8 @aje @ade @adc @k12 @aus @auf @sh8 @sh1 (Ag @sh3 @aaX @aaV @FY @bs3 @adR @zu)) ae ?_|refine tS ?_ ?_<;>intro h|fail);all_goals(refine rT [] ?_;first|rfl|simp only[pgo,simprocAttr]|skip)
 all_goals simp[*]
theorem aaW(n:Int):bits .and .i64 n 3=n%4:=qm n 2 dX
theorem aaY(n:Int):bits .and .i64 n 65535=n%65536:=qm n 16 dX
def Ef(n:Int):List Nat:=[u8i n,u8i (n.fdiv 8),u8i (n.fdiv 32),u8i (n.fdiv 128)]
def uJ(n:Int):List Nat:=(Ef n).take ((n%4).toNat+1)
def adN(n:Int):oct (uJ n)/\(uJ n).length<=4/\uJ n≠[]:=by
 refine⟨vw ?_ _,?_,?_⟩
 .intro b hb;grind[Ef,u8i]
 .simp[uJ];omega
 .intro h;trivial
def adf(e:Nat->V)(bx:BX)(n:Nat)(h:Nat->V)(a b c d:Nat):qp Tryz.prog ⟨e,bx,n,h⟩ 60 4 [(0,.c (.int .u8 (a:Int))),(1,.c (.int .u8 (b:Int))),(2,.c (.int .u8 (c:Int))),(3,.c (.int .u8 (d:Int)))]=some (.sl (.own n 5) 1 (bv [a,b,c,d]),⟨e,bx,n+1,h⟩):=by rw[Jf,QT,dZ,Zy,dZ,Zz,dZ];rfl
def ag1(n:Int):Gxx 100 [vi n] (fzb (uJ n)):=by
 have hl:(bv (Ef n)).length=4:=rfl;have h:slV Tryz.prog 60 (.sl .fz 1 (bv (Ef n))) none (some (.c (.int .i64 (n%4+1))))=some (fzb (uJ n)):=by rw[Ld];simp only[bdV,dZ,QT,auC];rw[ah ⟨trivial,by omega,by omega,by rw[hl];omega⟩];have e:(n%4+1).toNat=(n%4).toNat+1:=Om;simp only[e,fC,lX,SI];rfl
 have a:∀(s:St) id,zf Tryz.prog s 60 id 1 (bv (Ef n)) none (some (.c (.int .i64 (n%4+1))))=some (fzb (uJ n),s.mapV (frz id)):=fun s id=>by unfold zf;rw[h];rfl
 have b:([u8i n,u8i (n.fdiv 8),u8i (n.fdiv 32),u8i (n.fdiv 128)]:List Nat)=Ef n:=rfl;refine gI oW ?_;(repeat'(first|(simp(disch:=first|exact dqz|fail) only[X6,simprocAttr,Tryz.f100,adf,b,sh3,sh5,sh7,aaW,FY,a,isC,Option.all_some,Option.all_none,xM,qi])|((with_reducible first|apply lD|apply lJ|apply lH)<;>intro c<;>(try simp only[c])<;>(try simp only[pgd]at c))|(with_reducible refine cK ?_)));exact rE []
end Go.Proofs.YtopbmdnbdpjheaaGreat
