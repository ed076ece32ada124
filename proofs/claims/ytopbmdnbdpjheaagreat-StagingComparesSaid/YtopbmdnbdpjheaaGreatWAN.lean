/-
  Merged texts.
-/
import Derived.Test.YtopbmdnbdpjheaaGreatWAL
import Derived.Test.YtopbmdnbdpjheaaGreatWAM
import Derived.Test.YtopbmdnbdpjheaaGreatWAK
import Derived.Test.YtopbmdnbdpjheaaGreatWAF
set_option linter.all false
set_option linter.unusedVariables false
set_option linter.unusedSimpArgs false
set_option linter.unusedSectionVars false
set_option linter.defProp false
set_option maxRecDepth 100000
set_option maxHeartbeats 8000000
namespace Go.Proofs.YtopbmdnbdpjheaaGreat
open Go Go.Pg
abbrev skZ:List V:=[y0,y0,y0,yu,y0,y0,yf,y0,y0,yu,yn,yf,y0,yu,yn,y0,y0,yn,yf,y0,y0,y0,yn,yf,y0,y0,y0,yn,yf]
abbrev mcF(base:Int)(pin:Bool)(fs:List Int)(X Y:List V):List V:=vi 0::vi base::vb pin :: .sl .fz 1 (fs.map vi)::vi 0::(X++(Y++[vi 0,vi 0,vi 0,vi 0,vi 0,vi 0,nls,vb false]))
abbrev mcZ:List V:=[y0,y0,yf,yn,y0,y0,y0,y0,yu,y0,y0,yf,y0,y0,yu,yn,yf,y0,yu,yn,y0,y0,yn,yf,y0,y0,y0,yn,yf,y0,y0,y0,yn,yf,y0,y0,y0,yu,y0,y0,yf,y0,y0,yu,yn,yf,y0,yu,yn,y0,y0,yn,yf,y0,y0,y0,yn,yf,y0,y0,y0,yn,yf,y0,y0,y0,y0,y0,y0,yn,yf]
def OkS.see{Q:List Nat->Prop}{s:Sto}(H:OkS Q s){k:List Nat}(hk:(lkA k s.m s.bi).2=true):∃i x d,AtV s k s.m i x/\Q d/\VcP s.pa (verOf s i x).p d/\(verOf s i x).p.length<=65536:=by obtain⟨i,x,j,h,_⟩:=H.at hk;obtain⟨_,_,h3,d,h4,h5⟩:=H.ov _ (iI (0,[]) h.il) _ (iI vr0 h.xl);grind
def Xz{Q:List Nat->Prop}{s:Sto}(H:OkS Q s)(hQ:∀d,Q d->oct d/\d.length<=65536){k:List Nat}{i x:Nat}{d:List Nat}(ha:AtV s k s.m i x)(hd:Q d)(hv:VcP s.pa (verOf s i x).p d)(hp:(verOf s i x).p.length<=65536){k2:List Nat}{i2 x2:Nat}{d2:List Nat}(o:Bool)(h2:o=true->AtV s k2 s.m i2 x2/\Q d2/\VcP s.pa (verOf s i2 x2).p d2/\(verOf s i2 x2).p.length<=65536)(u:Sto)(z:Int)(kP:Pgm 29 [vi s.m] s u (vi z)) :
  Pgm 9 [.sl .fz 1 (ssV (k::if o=true then[k2]else[]))] s u (.tup [.agg (if z=0 then mcF s.m true ((verOf s i x).f::if o=true then[(verOf s i2 x2).f]else[]) (skF (fA d).1) (if o=true then skF (fA d2).1 else skZ)else mcZ),vi z]):=by
 intro e bx n h b N f
 refine GoodE.fr (only (N.D b) bx) f.fr (N.D b) _ SMod.st ?_ e bx h (fun b x hb=>(iC hb).2)
 clear e h
 intro e bx' h hE hB hH hx
 replace f:=f.on hx
 clear hx
 have hm:=H.m
 have hs:=H.sml
 have C:=ut s hm.1
 have M:=BV H.pn hv
 have S:∀B,(∀k,k<n->B k=bx' k)->StAt B n b s N:=fun B h2=>f.of (az _) fun k hk=>h2 k (f.ltD k hk)
 have q1:=fun B h2=>(S B h2).look fun e m h A=>KF e B m h A hs H.on k s.m i x C ha
 have q2:=fun B h2=>(S B h2).look fun e m h A=>PG e B m h A hs H.on H.pn k s.m i x C ha (jsO s.pa (verOf s i x).p) (AX hv.num fun q hq=>(H.pp q hq).1) Om
 rw[M]at q2
 have q3:Gxx 28 [fzb d] (.tup [.agg (skF (fA d).1),vi ((fA d).2:Nat)]):=Pv d (hQ d hd).1 (by have:=(hQ d hd).2;omega)
 generalize(fA d).1=X at *
 generalize(fA d).2=w at *
 generalize(verOf s i x).f=vf at *
 have q4:=fun B h2=>(S B h2).look fun e m h A=>KC e B m h A
 have hbn:=f.lt.1
 have g:(n=n+1)=False:=eq_false Om
 have j:(n+1=n)=False:=eq_false Om
 have l:(n=n+1+1)=False:=eq_false Om
 have p:(n+1+1=n)=False:=eq_false Om
 have t:(n+1=n+1+1)=False:=eq_false Om
 have v:(n+1+1=n+1)=False:=eq_false Om
 have hfB:df (Go.Pg.frz (n+4)) bx'=bx':=uZ hB Om
 cases o
 all_goals simp only[oq,reduceIte]
 all_goals first
  |obtain⟨K,L,P,hp2⟩:=h2 rfl
   have G:=BV H.pn P
   have r1:=fun B h2=>(S B h2).look fun e m h A=>KF e B m h A hs H.on k2 s.m i2 x2 C K
   have r2:=fun B h2=>(S B h2).look fun e m h A=>PG e B m h A hs H.on H.pn k2 s.m i2 x2 C K (jsO s.pa (verOf s i2 x2).p) (AX P.num fun q hq=>(H.pp q hq).1) Om
   rw[G]at r2
   have r3:Gxx 28 [fzb d2] (.tup [.agg (skF (fA d2).1),vi ((fA d2).2:Nat)]):=Pv d2 (hQ d2 L).1 (by have:=(hQ d2 L).2;omega)
   generalize(fA d2).1=Y at *
   generalize(fA d2).2=w2 at *
   generalize(verOf s i2 x2).f=vf2 at *
   have hmP:bD (aF (n+1+1+1+1)) (bM e h)=bM e h:=J4 (jl hE hH) Om
   have hpB:df (aF (n+1+1+1+1)) bx'=bx':=J3 hB Om
   refine lg (fJ [15] mix) Tryz.func9 rfl Tryz.results9 rfl Za (fP Za) ?_
   (repeat' first|refine wU (A8 @pgE @aX @aK @bu @bz g j l (Ac p t v)) ?_|(refine tC ?_;refine oC _ ((q4 _ (by intro k hk;simp only[upd];repeat rw[ag Om]))) rfl ?_)|refine tE ?_ ?_<;>intro y|fail)
   refine tu 3 ?_
   (repeat' first|refine wED (A8 @pgE @aX @pgu @bu @bz g j l (Ac p t v)) q3 ?_|(refine tC ?_;first|refine oC _ ((q1 _ (by intro k hk;simp only[upd];repeat rw[ag Om]))) rfl ?_|refine oC _ ((q2 _ (by intro k hk;simp only[upd];repeat rw[ag Om]))) rfl ?_)|refine tE ?_ ?_<;>intro y|fail)
   refine vT ?_
   (repeat' first|refine wED (A8 @pgE @aX @pgu @bu @bz g j l (Ac p t v)) r3 ?_|(refine tC ?_;first|refine oC _ ((r1 _ (by intro k hk;simp only[upd];repeat rw[ag Om]))) rfl ?_|refine oC _ ((r2 _ (by intro k hk;simp only[upd];repeat rw[ag Om]))) rfl ?_)|refine tE ?_ ?_<;>intro y|fail)
   refine vT ?_
   (repeat' first|refine wU (A8 @pgE @aX @pgu @bu @bz g j l (Ad p t v @hmP)) ?_|refine tE ?_ ?_<;>intro y|fail)
   obtain⟨I,E⟩:∃I:List Int,I=[vf,vf2]:=⟨_,rfl⟩
   obtain⟨J,F⟩:∃J:List V,J=skF Y:=⟨_,rfl⟩
  |refine lg (fJ [15] mix) Tryz.func9 rfl Tryz.results9 rfl Za (fP Za) ?_
   (repeat' first|refine wU (A8 @pgE @aX @aK @bu @bz g j l (Ac p t v)) ?_|(refine tC ?_;refine oC _ ((q4 _ (by intro k hk;simp only[upd];repeat rw[ag Om]))) rfl ?_)|refine tE ?_ ?_<;>intro y|fail)
   refine tu 2 ?_
   (repeat' first|refine wED (A8 @pgE @aX @pgu @bu @bz g j l (Ac p t v)) q3 ?_|(refine tC ?_;first|refine oC _ ((q1 _ (by intro k hk;simp only[upd];repeat rw[ag Om]))) rfl ?_|refine oC _ ((q2 _ (by intro k hk;simp only[upd];repeat rw[ag Om]))) rfl ?_)|refine tE ?_ ?_<;>intro y|fail)
   refine vT ?_
   (repeat' first|refine wED (A8 @pgE @aX @pgu @bu @bz g j l (Ac p t v)) q3 ?_|refine tE ?_ ?_<;>intro y|fail)
   obtain⟨I,E⟩:∃I:List Int,I=[vf]:=⟨_,rfl⟩
   obtain⟨J,F⟩:∃J:List V,J=skZ:=⟨_,rfl⟩
 all_goals
  refine Jg ⟨ja [(0,.ref b 0),(4,.ref n 0),(6,.ref (n+1) 0),(7,.ref (n+1+1) 0),(69,.ref b 0),(71,vi s.m)],upd (upd (upd bx' n (some (62,mcZ))) (n+1) (some (62,mcF s.m true I skZ skZ))) (n+1+1) (some (93,skF X++J)),n+6,bM e h⟩ ((DW (id:=n+4) (kT (jl hE hH) Om)).trans (Gg ?_ (fun c x' a => ?_) (by first|omega|(split<;>omega)))) rfl (kP _ _ _ _ b N (f.of Om fun k hk => ?_)) rfl ?_
  .simp only[zF,zG,pgo,simprocAttr,jb,yt,if_true,ql]
   exact⟨dJ _,dJ _,dJ _,dJ _,dJ _,dJ _⟩
  ·(try simp only[fV,J3 hB (show n<=n+1+1+1+1 by omega),hfB])
   subst E
   subst F
   simp only[upd]at a⊢
   by_cases h2:c=n+1+1
   .simp only[ah h2]at a⊢
    cases a
    exact⟨_,rfl,rfl,rY _⟩
   .simp only[ag h2]at a⊢
    by_cases h1:c=n+1
    .simp only[ah h1]at a⊢
     cases a
     simp only[dm,dS,zX]
     exact⟨_,rfl,rfl,rY _⟩
    .simp only[ag h1]at a⊢
     by_cases h0:c=n
     .simp only[ah h0]at a⊢
      cases a
      exact⟨_,rfl,rfl,rY _⟩
     .simp only[ag h0]at a⊢
      exact⟨_,a,rfl,rY _⟩
  .have:=f.ltD k hk
   simp only[upd]
   repeat rw[ag Om]
  rintro s' r ⟨B1,m1,rfl,c1,rfl,c2,N',W,Z⟩
  subst E
  subst F
  have R:=c1 n Om fun hm=>by have:=f.ltD n hm;omega
  have T:=c1 (n+1) Om fun hm=>by have:=f.ltD (n+1) hm;omega
  have U:=c1 (n+1+1) Om fun hm=>by have:=f.ltD (n+1+1) hm;omega
  simp only[upd,g,j,l,p,t,v,if_true,if_false]at R T U
  by_cases hz:z=0
  .subst hz
   rw[ah rfl]
   (repeat' first|refine wV (A8 @pgE @aX @bu @bz g j l p (Ae t v R T U)) ?_|refine tE ?_ ?_<;>intro y|fail)
   refine oh mix ?_
   (repeat'(first|(simp(disch:=first|exact dqz|fail) only[pgz,simprocAttr,pgE,alF,xB,bu,bz,g,j,l,p,t,v,R,T,U])|(refine tE ?_ ?_<;>intro y)|refine xK ?_|fail))
   refine Jh [n+1+1,n+1] [.q,.rb 0,.q,.rb 0,.q,.xb 1,.q,.xb 1] Aa ?_ rfl Za
   (repeat' first|refine wV (A8 @pgE @bu @bz g j l p t (Ad v R T U)) ?_|refine tE ?_ ?_<;>intro y|fail)
   refine kz (SMod.here (B:=_) (m:=m1+8) (N':=N') Om (fun k hk => ?_) (Z.of Om fun k hk => ?_) fun k k1 k2 => ?_) (ng ?_ (aP _ _) (aQ _ _) rfl (az _))
   .rcases W k hk with h|h
    .exact .inl h
    .exact .inr Om
   .have h1:=Z.ltD k hk
    have h2:k<n\/n+6<=k:=(W k hk).imp (f.ltD k) id
    simp only[upd]
    repeat rw[ag Om]
   .simp only[upd]
    repeat rw[ag Om]
    rw[c1 k Om k2]
    simp only[upd]
    repeat rw[ag Om]
   .simp(disch:=first|exact dqz|fail) only[pgz,simprocAttr,pgr]
    rfl
  .rw[ag hz]
   have hz':(z=0)=False:=eq_false hz
   (repeat' first|refine wV (A8 @pgE @aX @bu @bz g j l p (Af t v R T U @hz')) ?_|refine tE ?_ ?_<;>intro y|fail)
   refine kz (SMod.here (B:=_) (m:=m1) (N':=N') Om (fun k hk => ?_) (Z.of Om fun k hk => ?_) fun k k1 k2 => ?_) (ng ?_ (aP _ _) (aQ _ _) rfl (az _))
   .rcases W k hk with h|h
    .exact .inl h
    .exact .inr Om
   .have h1:=Z.ltD k hk
    have h2:k<n\/n+6<=k:=(W k hk).imp (f.ltD k) id
    simp only[upd]
    repeat rw[ag Om]
   .simp only[upd]
    repeat rw[ag Om]
    rw[c1 k Om k2]
    simp only[upd]
    repeat rw[ag Om]
   .simp(disch:=first|exact dqz|fail) only[pgz,simprocAttr,pgr]
theorem Po{Q:List Nat->Prop}{s:Sto}(H:OkS Q s)(a:∀d,Q d->oct d/\d.length<=65536){k:List Nat}{i x:Nat}{d:List Nat}(ha:AtV s k s.m i x)(hd:Q d)(hv:VcP s.pa (verOf s i x).p d)(hp:(verOf s i x).p.length<=65536)(u:Sto)(z:Int)(b:Pgm 29 [vi s.m] s u (vi z)) :
  Pgm 9 [.sl .fz 1 (ssV [k])] s u (.tup [.agg (if z=0 then mcF s.m true [(verOf s i x).f] (skF (fA d).1) skZ else mcZ),vi z]) :=
 Xz H a ha hd hv hp (k2:=[]) (i2:=0) (x2:=0) (d2:=[]) false (fun h=>nomatch h) u z b
def Xy{Q:List Nat->Prop}{s:Sto}(H:OkS Q s)(f:∀d,Q d->oct d/\d.length<=65536){k:List Nat}{i x:Nat}{d:List Nat}(ha:AtV s k s.m i x)(hd:Q d)(hv:VcP s.pa (verOf s i x).p d)(hp:(verOf s i x).p.length<=65536)
  {k2:List Nat} {i2 x2:Nat} {d2:List Nat} (h:AtV s k2 s.m i2 x2) (a:Q d2) (c:VcP s.pa (verOf s i2 x2).p d2) (b:(verOf s i2 x2).p.length<=65536) (u:Sto) (z:Int) (g:Pgm 29 [vi s.m] s u (vi z)) :
  Pgm 9 [.sl .fz 1 (ssV [k,k2])] s u (.tup [.agg (if z=0 then mcF s.m true [(verOf s i x).f,(verOf s i2 x2).f] (skF (fA d).1) (skF (fA d2).1)else mcZ),vi z]) :=
 Xz H f ha hd hv hp true (fun _=>⟨h,a,c,b⟩) u z g
def JA(l:List Nat)(ho:oct l)(hl:l.length<=2147483648):Gxx 88 [fzb l] (lU (ak l)):=by
 have h:=aA l
 unfold ak
 rcases gG l.length with g|g
 .rw[ah g]
  refine gI oW ?_
  exact wR h ae ay
 rw[ag Om]
 have A:=kw ho 0
 have b:=lY l 0 g
 generalize C:l.getD 0 0=c at *
 rcases au c 248 with h1|h1
 .rw[ah h1]
  refine gI oW ?_
  exact wR (aI h b) ae ay
 rw[ag Om]
 obtain⟨k,rfl⟩:∃k,c=k+247:=⟨c-247,by omega⟩
 have t:(k:Int)+247-247=(k:Int):=Om
 have f:k+247-246=k+1:=Om
 rw[f]
 rcases au l.length (k+1)with h2|h2
 .rw[ah h2]
  refine gI oW ?_
  exact wR (Ac h b t) ae ay
 rw[ag Om]
 have a:=lY l 1 Om
 have j:acc (mid l 1)=0:=by
  have:=I5 (l:=l) (i:=1) ho Om
  simpa using this
 refine gI oW ?_
 refine wT (Ac h b t) ?_
 refine aJ (fun i:Nat=>mkA [(0,fzb l),(5,vi k),(6,.c (.int .u64 (acc (mid l i):Nat))),(7,vi i)] [] 0 (fun _=>.top)) (fun i=>1<=i/\i<=k+1) (fun i=>k+1-i) 1 [] [] ?_ ⟨az 1,by omega⟩ ?_
 ·(refine kM ?_ ?_;(repeat'(first|exact ae|refine dQ _ _ rfl rfl ?_ ?_));all_goals(try simp only[pgm,simprocAttr]);all_goals(try(repeat' apply aI));all_goals(try exact gz))
  all_goals first|exact kZ (by rw[j];rfl)|exact eF Om|skip
 .rintro i ⟨n,hi⟩
  have hb:=kw ho i
  have ha:=I5 (l:=l) (i:=i) ho Om
  rcases au i (k+1)with q|E
  .have hp:256^(i-1)<=256^7:=qL Om Om
   have m:=lY l i Om
   have u:acc (mid l i)*256+l.getD i 0=acc (mid l (i+1)):=by rw[WQ (l:=l) (i:=i) Om Om,zI]
   have s:=KA (acc (mid l i)) (l.getD i 0) Om hb
   rw[u]at s
   refine wT (Ac h m s) ?_
   exact bY (i+1) [] [] ⟨Nat.le_succ_of_le n,q⟩
  .have p:i=k+1:=Om
   subst p
   have hp:256^(k+1-1)<=256^8:=qL Om Om
   have v:=kw ho 1
   generalize acc (mid l (k+1))=x at *
   generalize l.getD 1 0=y at *
   rcases gG y with r|r
   .rw[ah (.inl r)]
    subst r
    exact wR (aI h a) ae ay
   .rcases au x 248 with hx|hx
    .rw[ah (.inr (.inl hx))]
     exact wR (aI h a) ae ay
    .rcases au 4611686018427387904 x with d|d
     .rw[ah (.inr (.inr d))]
      exact wR (aI h a) ae ay
     .rw[ag Om]
      (repeat' first|refine wQ (aI h a) ?_|refine tS ?_ ?_<;>intro A|fail)
      all_goals exact rE []
def ahe(l:List Nat)(ho:oct l)(hl:l.length<=2147483648):Gxx 263 [fzb l] (DR (dV l)):=by
 have h:=aA l
 unfold dV
 rcases au l.length 8 with h1|h1
 .rw[ah h1]
  refine gI oW ?_
  exact wR h ae ay
 rw[ag Om]
 refine gI oW ?_
 refine wT h ?_
 refine aJ (fun i:Nat=>mkA [(0,fzb l),(5,.c (.int .u64 (acc (l.take i):Nat))),(6,vi i)] [] 0 (fun _=>.top)) (fun i=>i<=8) (fun i=>8-i) 0 [] [] ?_ (ax _) ?_
 .exact kY
 .intro i hi
  replace hi:i<=8:=hi
  have hb:=kw ho i
  have ha:=D7 ho (i:=i) Om
  rcases au i 8 with c|g
  .have hp:256^i<=256^7:=qL Om Om
   have a:=lY l i Om
   have f:=I4 (s:=l) (i:=i) Om
   have d:=KA (acc (l.take i)) (l.getD i 0) Om hb
   rw[f]at d
   refine wT (Ac h a d) ?_
   exact bY (i+1) [] [] c
  .have b:i=8:=Om
   subst b
   exact wR h ae ay
def ahb(l:List Nat)(ho:oct l)(hl:l.length<=2147483648):Gxx 264 [fzb l] (zi (bQ l)):=by
 have h:=aA l;have h1:=JA l ho hl;obtain⟨g,i,j⟩:=lS l ho;unfold lU at h1;unfold bQ;generalize ak l=q at *;obtain⟨n,k,e⟩:=q;simp only at *;by_cases he:e=0
 .subst he;rw[ag Aa];rcases au 65536 n with h2|h2
  .rw[ah h2];refine gI oW ?_;exact wR h h1 ay
  .rw[ag Om];rcases au (l.length-k) n with h3|h3
   .rw[ah h3];refine gI oW ?_;exact wR h h1 ay
   .rw[ag Om];have c:((bv l).take (k+n)).drop k=bv ((l.drop k).take n):=by rw[xX,iR,sD];congr 2;omega
    have a:Int.toNat ((k:Int)+(n:Int))=k+n:=Om;have b:=fun s d K=>x8 (P:=Tryz.prog) s d 60 9 .fz ((l.drop k).take n) K Za Za Za Za
    refine gI oW ?_;(repeat' first|refine wP (Ae @pgv h a c b) h1 ?_|refine tS ?_ ?_<;>intro f|fail);all_goals exact rE []
 .rw[ah he];refine gI oW ?_;exact wR h h1 ay
def aaE:∀(n:Nat) (m:List Nat),m.length=n->m.getD 0 0≠0->1<=acc m:=by
 intro n
 induction n with
 |zero=>intro m h a;rw[List.length_eq_zero_iff.1 h]at a;exact absurd rfl a
 |succ n i =>
  intro m h a;rcases Ro m with rfl|⟨L,b,rfl⟩
  .simp at h
  .grind[zI]
def ab6:∀(f:Nat) (m:List Nat),m.length<=f->oct m->(m≠[]->m.getD 0 0≠0)->beF f (acc m)=m:=by
 intro f
 induction f with
 |zero=>intro m h _ _;rw[List.length_eq_zero_iff.1 (Nat.le_zero.1 h)];rfl
 |succ f i =>
  intro m h ho a;rcases Ro m with rfl|⟨L,b,rfl⟩
  .rfl
  .rw[List.concat_eq_append]at *;have hb:=ho b Aa;have hp:=aaE _ (L++[b]) rfl (a Aa);have c:=zI L b;unfold beF
   rw[ag Om,c,show(acc L*256+b) / 256=acc L by omega,show(acc L*256+b)%256=b by omega,i L (by simpa using h) (fun x hx=>ho x (by simp[hx])) (fun d=>by
    have:=a Aa
    cases L with
    |nil=>exact absurd rfl d
    |cons x y=>simpa using this)]
theorem BZ(l:List Nat)(ho:oct l)(h:(ak l).2.2=0):l=ai (ak l).1++l.drop (ak l).2.1:=by
 unfold ak at h⊢;have m:=kw ho 0;split
 .grind
 .rename_i h1;rw[ag h1]at h
  have el:l=l.getD 0 0::l.drop 1:=by
   cases l with
   |nil=>exact absurd rfl h1
   |cons a r=>rfl
  split
  .rename_i h2;simp only;grind[ai]
  .rename_i h2;rw[ag h2]at h;split
   .grind
   .rename_i h3;rw[ag h3]at h;split
    .grind
    .rename_i h4;simp only[not_or,Nat.not_lt]at h4;obtain⟨h4,h5,i⟩:=h4;simp only;generalize j:l.getD 0 0=c at *;obtain⟨k,rfl⟩:∃k,c=k+248:=⟨c-248,by omega⟩;have b:k+248-246=k+2:=Om;have d:k+2<=l.length:=Om;simp only[b]at h5 i⊢;have g:(mid l (k+2)).length=k+1:=by rw[O1 d];omega
     have f:=ab6 8 (mid l (k+2)) Om (WR ho _) (fun _=>by rw[WP Om];exact h4);have hB:beB (acc (mid l (k+2)))=mid l (k+2):=f;unfold ai;rw[ag Om,hB,g];rw[show 247+(k+1)=k+248 by omega];refine el.trans ?_;rw[mO];congr 1;have:mid l (k+2)=(l.drop 1).take (k+1):=by unfold mid;rw[sD];rfl
     rw[this,show l.drop (k+2)=(l.drop 1).drop (k+1) by rw[su];congr 1;omega,Mc]
def Nr(l:List Nat)(ho:oct l)(h:(ak l).2.2=0):(ak l).2.1=(ai (ak l).1).length:=by grind[BZ,lS]
theorem aeH(l:List Nat)(ho:oct l)(h:(bQ l).2.2=0):l=bG (bQ l).1++l.drop (bQ l).2.1:=by
 have a:(ak l).2.2=0:=by grind[bQ]
 have h1:=BZ l ho a;have h2:=Nr l ho a;unfold bQ at h⊢;rw[ag (fun e=>e a)]at h⊢;split
 .grind
 .rename_i h3;rw[ag h3]at h;split
  .grind
  .rename_i h4;simp only;unfold bG;have hl:=(lS l ho).2.1;rw[show((l.drop (ak l).2.1).take (ak l).1).length=(ak l).1 by rw[bI,eH];omega,bZ,<-su,Mc];exact h1
theorem MF(m:List Nat)(ho:oct m):∀n,m.length=n->be n (acc m)=m:=by
 intro n
 induction n generalizing m with
 |zero=>intro h;rw[List.length_eq_zero_iff.1 h];rfl
 |succ n i =>
  intro h;rcases Ro m with rfl|⟨L,b,rfl⟩
  .simp at h
  .rw[List.concat_eq_append]at *;have hb:=ho b Aa;have a:=zI L b;unfold be;rw[a,show(acc L*256+b) / 256=acc L by omega,show(acc L*256+b)%256=b by omega,i L (fun x hx=>ho x (by simp[hx])) (by simpa using h)]
theorem TL(l:List Nat)(ho:oct l)(h:(dV l).2.2=0):l=eY ((dV l).1:Nat)++l.drop 8:=by
 unfold dV at h⊢;split
 .grind
 .simp_all[Z9,MF,vw]
def ahy(t:Nat)(b:List Nat)(q:t<256)(ho:oct b)(hl:b.length<=1048576):Gxx 55 [.c (.int .u8 (t:Nat)),fzb b] (.tup [ob 0 (jR t b),vi 0]):=by
 have h1:=JE b.length Om;have r:=bP b.length;have g:=aA (ai b.length);have f:=aA b;have j:oct (bK t b):=bT (Ie q (dI _)) ho;have p:(bK t b).length=1+(ai b.length).length+b.length:=by unfold bK;simp only[aN,dB];omega
 have h2:=U3 (bK t b) j Om;have i:=Ec (bK t b);have d:=MZ _ i;have a:=MX (ckN (bK t b));have l:=ck8 (ckN (bK t b));have k:=ck0 (ckN (bK t b));have n:V.c (.int .u8 (t:Int))::(bv (ai b.length)++bv b)=bv (bK t b):=by unfold bK;rw[mO,<-bvC,<-dE]
 have m:jR t b=bK t b++[ckN (bK t b) / 16777216,ckN (bK t b) / 65536%256,ckN (bK t b) / 256%256,ckN (bK t b)%256]:=rfl;rw[m];have h:=aA (bK t b);generalize bK t b=F at *;generalize ckN F=c at *;refine gI oW ?_;(repeat' first|refine wP (A8 g f h n d a l k (aI @mO.{0} @iY.{0})) (aI h1 h2) ?_|refine tS ?_ ?_<;>intro s|fail);all_goals(refine rT [0] ?_;first|rfl|simp only[pgo,simprocAttr]|skip)
 all_goals(rw[bv4,dE];rfl)
def unO(l:List Nat):V:=if unE l≠0 then nO (unE l)else .tup [.c (.int .u8 (l.getD 0 0:Nat)),ob 0 (unB l),vi (unU l+4:Nat),vi 0]
theorem adG(F:List Nat):(ckB F).length=4:=rfl
def Tn(l:List Nat)(e:Nat)(ho:oct l)(h:e+4<=l.length):acc (ft l e)=ckN (l.take e)↔ft l e=ckB (l.take e):=by
 constructor
 .have h2:=MF (ft l e) (NU ho e) 4 (Jy h);grind[MF,ckB,Tm,Tj]
 .grind[Tj]
def UN(l:List Nat)(e j:Nat)(hj:j<4):(ft l e).getD j 0=l.getD (e+j) 0:=by grind[ft]
def alm{a b:List Nat}(ha:a.length=4)(hb:b.length=4)(h:∀j,j<4->a.getD j 0=b.getD j 0):a=b:=by
 apply IW;intro j;rcases au j 4 with h1|h1
 .grind
 .grind
def aia(l:List Nat)(ho:oct l)(hl:l.length<=2147483648):Gxx 87 [fzb l] (unO l):=by
 have b:=aA l;rcases gG l.length with J|J
 .have e:unE l=3:=by unfold unE;rw[ah J]
  have K:unO l=nO 3:=by unfold unO;rw[e];rfl
  rw[K];refine gI oW ?_;exact wR b ae ay
 have s:=JA (l.drop 1) (eG ho 1) (by simp;omega);obtain⟨x1,x2⟩:=Nq (l.drop 1) (eG ho 1);have k:=BZ (l.drop 1) (eG ho 1);have n:=Nr (l.drop 1) (eG ho 1);have hlim:=(lS (l.drop 1) (eG ho 1)).2.1;unfold lU at s;have I:=iR l 1;have H:=lY l 0 J
 have d:unE l=if(ak (l.drop 1)).2.2≠0 then(ak (l.drop 1)).2.2 else if 1048576<(ak (l.drop 1)).1 then 2 else if l.length<1+(ak (l.drop 1)).2.1+(ak (l.drop 1)).1+4 then 3 else
   if acc (ft l (1+(ak (l.drop 1)).2.1+(ak (l.drop 1)).1))≠ckN (l.take (1+(ak (l.drop 1)).2.1+(ak (l.drop 1)).1))then 4 else 0:=ag Om
 have g:unU l=1+(ak (l.drop 1)).2.1+(ak (l.drop 1)).1:=rfl;have p:unB l=(l.take (unU l)).drop (1+(ak (l.drop 1)).2.1):=rfl;have f:unO l=if unE l≠0 then nO (unE l)else .tup [.c (.int .u8 (l.getD 0 0:Nat)),ob 0 (unB l),vi (unU l+4:Nat),vi 0]:=rfl
 generalize unO l=O at *;generalize unE l=EE at *;generalize unB l=c at *;generalize unU l=U at *;generalize ak (l.drop 1)=q at *;obtain⟨x,u,e⟩:=q;simp only at *;by_cases he:e=0
 case neg =>
  rw[ah he]at d
  rw[f,d,ah he]
  refine gI oW ?_
  exact wR (Ac @pgv b I) s ay
 case pos =>
  subst he
  rw[ag Aa]at d
  rcases au 1048576 x with h1|h1
  .rw[ah h1]at d
   rw[f,d]
   refine gI oW ?_
   exact wR (Ac @pgv b I) s ay
  rw[ag (show ¬1048576<x by omega)]at d
  rcases au l.length (1+u+x+4)with h2|h2
  .rw[ah h2]at d
   rw[f,d]
   refine gI oW ?_
   exact wR (Ac @pgv b I) s ay
  rw[ag (show ¬l.length<1+u+x+4 by omega)]at d
  have k:=k rfl
  have n:=n rfl
  have N:c.length=x:=by rw[p,eH,bI,g];omega
  have C:oct c:=by rw[p];exact eG (vw ho _) _
  have y:bK (l.getD 0 0) c=l.take U:=by
   unfold bK
   rw[N]
   have K:l=l.getD 0 0::l.drop 1:=by
    cases l with
    |nil=>exact absurd J Aa
    |cons a r=>rfl
   have e2:l.take U=l.getD 0 0::(ai x++((l.drop 1).drop u).take x):=by
    conv=>lhs;rw[K,k]
    rw[g,show 1+u+x=(u+x)+1 by omega,aaw,Gt,n]
    rw[oz Om,show(ai x).length+x-(ai x).length=x by omega]
   have e3:c=((l.drop 1).drop u).take x:=by
    rw[p,g,sD,su]
    congr 1;omega
   rw[e2,<-e3,mO]
  have hF:=ahy (l.getD 0 0) c (kw ho 0) C Om
  have G:jR (l.getD 0 0) c=l.take U++ckB (l.take U):=by unfold jR;rw[y]
  have S:(jR (l.getD 0 0) c).length=U+4:=by rw[G,aN,bI,adG];omega
  have E:∀j,j<4->(jR (l.getD 0 0) c).getD (U+j) 0=(ckB (l.take U)).getD j 0:=by
   intro j hj
   have A:(l.take U).length=U:=by rw[bI];omega
   rw[G]
   simp only[List.getD,List.getElem?_append_right (show(l.take U).length<=U+j by omega),A,Nat.add_sub_cancel_left]
  have v:=Tn l U ho Om
  have T:oct (jR (l.getD 0 0) c):=UG (kw ho 0) C
  have L:((bv l).take (1+u+x)).drop (1+u)=bv c:=by rw[xX,iR,p,g]
  have t2:Int.toNat (1+(u:Int)+(x:Int))=1+u+x:=Om
  have t3:Int.toNat (1+(u:Int))=1+u:=Om
  have M:=aA c
  generalize hFF:jR (l.getD 0 0) c=F at *
  have m:=aA F
  rw[S]at m
  rw[g.symm]at d
  have W:(V.tup [ob 0 F,vi 0]).flat=true:=by show(V.flatL (bv F)&&_)=true;rw[aga];rfl
  refine gI oW ?_
  (repeat' first|refine wQ (A8 @pgv b I @t2 @t3 L H M m) ?_|refine cU s ?_|refine cF hF W ?_|refine tS ?_ ?_<;>intro Q|fail)
  refine aJ (fun i:Nat=>mkA [(0,fzb l),(9,ob 0 c),(10,ob 1 F),(12,vi i)] [] 2 (fun _=>.top)) (fun i=>U<=i/\i<=U+4/\∀j,U<=j->j<i->F.getD j 0=l.getD j 0) (fun i=>U+4-i) U [0,1] [] ?_ ⟨az _,by omega,fun j h1 h2=>by omega⟩ ?_
  .exact kY
  .rintro i ⟨X,hi2,t⟩
   rcases au i (U+4)with A|hge
   .have ha:=lY F i Om
    have hb:=lY l i Om
    have q1:=kw T i
    have q2:=kw ho i
    by_cases hq:F.getD i 0=l.getD i 0
    .have Z:∀j,U<=j->j<i+1->F.getD j 0=l.getD j 0:=fun j h1 h2=>by
      rcases au j i with h3|h3
      .exact t j h1 h3
      .rw[show j=i by omega];exact hq
     (repeat' first|refine wQ (Ad b m @ha @hb) ?_|refine cU s ?_|refine tS ?_ ?_<;>intro Q|fail)
     exact bY (i+1) [0,1] [] ⟨Nat.le_succ_of_le X,A,Z⟩
    .have Y:¬acc (ft l U)=ckN (l.take U):=fun h=>by
      have h3:=v.1 h
      apply hq
      have h4:=E (i-U) Om
      have h5:=UN l U (i-U) Om
      rw[show U+(i-U)=i by omega]at h4 h5
      rw[h4,<-h5,h3]
     rw[ah Y]at d
     have P:O=nO 4:=by rw[f,d];rfl
     subst P
     (repeat' first|refine wQ (Ad b m @ha @hb) ?_|refine cU s ?_|refine tS ?_ ?_<;>intro Q|fail)
     all_goals exact rE []
   .have hi:i=U+4:=Om
    subst hi
    have R:acc (ft l U)=ckN (l.take U):=v.2 (alm (Jy Om) rfl fun j hj=>by
     rw[UN l U j hj,<-t (U+j) Om Om,E j hj])
    rw[ag (fun h=>h R)]at d
    have P:O = .tup [.c (.int .u8 (l.getD 0 0:Nat)),ob 0 c,vi (U+4:Nat),vi 0]:=by rw[f,d];rfl
    subst P
    (repeat' first|refine wQ (Ac b m H) ?_|refine cU s ?_|refine tS ?_ ?_<;>intro Q|fail)
    all_goals exact rE [0]
end Go.Proofs.YtopbmdnbdpjheaaGreat
section
namespace Go.Proofs.YtopbmdnbdpjheaaGreat
open Go Go.Pg
def qC(B:List Nat)(a:Nat)(bad:Bool)(m:Int):Prop:=bad=true\/(ak (B.drop a)).2.2≠0\/m<((ak (B.drop a)).1:Int)
instance (B:List Nat) (a:Nat) (bad:Bool) (m:Int):Decidable (qC B a bad m):=by unfold qC;infer_instance
def qX(B:List Nat)(a:Nat)(bad:Bool)(m:Int):Nat:=if qC B a bad m then 0 else(ak (B.drop a)).1
def qA(B:List Nat)(a:Nat)(bad:Bool)(m:Int):Nat:=if qC B a bad m then a else a+(ak (B.drop a)).2.1
def qB(B:List Nat)(a:Nat)(bad:Bool)(m:Int):Bool:=if qC B a bad m then true else false
def wqX(B:List Nat)(a:Nat)(bad:Bool):Nat:=if bad=true\/(dV (B.drop a)).2.2≠0 then 0 else(dV (B.drop a)).1
def wqA(B:List Nat)(a:Nat)(bad:Bool):Nat:=if bad=true\/(dV (B.drop a)).2.2≠0 then a else a+(dV (B.drop a)).2.1
def wqB(B:List Nat)(a:Nat)(bad:Bool):Bool:=if bad=true\/(dV (B.drop a)).2.2≠0 then true else false
def tqX(B:List Nat)(a:Nat)(bad:Bool):List Nat:=if bad=true\/(bQ (B.drop a)).2.2≠0 then[]else(bQ (B.drop a)).1
def tqA(B:List Nat)(a:Nat)(bad:Bool):Nat:=if bad=true\/(bQ (B.drop a)).2.2≠0 then a else a+(bQ (B.drop a)).2.1
def tqB(B:List Nat)(a:Nat)(bad:Bool):Bool:=if bad=true\/(bQ (B.drop a)).2.2≠0 then true else false
section
variable {B:List Nat} {a:Nat} {bad:Bool} {m:Int}
theorem apI(ho:oct B):qX B a bad m<=4611686018427387904:=by grind[qX,lS,eG]
theorem A7(h:0<=m):(qX B a bad m:Int)<=m:=by grind[qX,qC]
theorem jf(ho:oct B)(h:a<=B.length):qA B a bad m<=B.length:=by grind[qA,lS,eG]
theorem LM(ho:oct B):wqX B a bad<18446744073709551616:=by grind[wqX,Ep,eG]
theorem LK(ho:oct B)(h:a<=B.length):wqA B a bad<=B.length:=by grind[wqA,Ep,eG]
theorem Zw(ho:oct B):oct (tqX B a bad)/\(tqX B a bad).length<=65536:=by grind[tqX,vk,Cc,eG]
theorem IJ(ho:oct B)(h:a<=B.length):tqA B a bad<=B.length:=by grind[tqA,Cc,eG]
theorem jw(ho:oct B)(h:qB B a bad m=false):bad=false/\B.drop a=ai (qX B a bad m)++B.drop (qA B a bad m):=by
 unfold qB at h;split at h
 .cases h
 .rename_i b;have h1:bad=false:=by cases bad;rfl;exact absurd (.inl rfl) b
  have h2:(ak (B.drop a)).2.2=0:=o8 fun e=>b (.inr (.inl e))
  refine⟨h1,?_⟩;unfold qX qA;rw[ag b,ag b,<-su];exact BZ _ (eG ho a) h2
theorem aaf(ho:oct B)(h:wqB B a bad=false):bad=false/\B.drop a=eY (wqX B a bad:Nat)++B.drop (wqA B a bad):=by grind[wqB,dV,wqX,wqA,TL,eG,List.drop_drop]
theorem QS(ho:oct B)(h:tqB B a bad=false):bad=false/\B.drop a=bG (tqX B a bad)++B.drop (tqA B a bad):=by grind[tqB,bQ,tqX,tqA,aeH,eG,List.drop_drop]
theorem jv{n:Nat}{r:List Nat}(h:B.drop a=ai n++r)(c:n<=4611686018427387904)(hm:(n:Int)<=m):qX B a false m=n/\B.drop (qA B a false m)=r/\qB B a false m=false:=by
 have h1:=Cb n c r;rw[<-h]at h1;have b:¬qC B a false m:=by unfold qC;rw[h1];rintro(h|h|h);cases h;exact h rfl;omega
 refine⟨?_,?_,ag b⟩
 .grind[qX]
 .grind[qA,List.drop_drop,List.drop_left]
theorem aae{x:Int}{r:List Nat}(hx:0<=x/\x<18446744073709551616)(h:B.drop a=eY x++r):wqX B a false=x.toNat/\B.drop (wqA B a false)=r/\wqB B a false=false:=by
 have h1:=Nv x hx r;rw[<-h]at h1;have b:¬(false=true\/(dV (B.drop a)).2.2≠0):=by rw[h1];rintro(h|h);cases h;exact h rfl
 refine⟨?_,?_,ag b⟩
 .grind[wqX]
 .grind[wqA,qg,List.drop_drop,List.drop_left]
theorem QR{s r:List Nat}(c:s.length<=65536)(h:B.drop a=bG s++r):tqX B a false=s/\B.drop (tqA B a false)=r/\tqB B a false=false:=by
 have h1:=TJ s c r;rw[<-h]at h1;have b:¬(false=true\/(bQ (B.drop a)).2.2≠0):=by rw[h1];rintro(h|h);cases h;exact h rfl
 refine⟨?_,?_,ag b⟩
 .grind[tqX]
 .grind[tqA,List.drop_drop,List.drop_left]
end
section
variable (e:Nat->V) (bx:BX) (n:Nat) (h:Nat->V)
theorem zQN(b:Nat)(B:List Nat)(a:Nat)(bad:Bool)(m:Int)(ho:oct B)(hl:B.length<=2147483648)(ha:a<=B.length)(hb:bx b=some (261,[fzb B,vi a,vb bad]))(p:b<n) :
  Gxz 186 [.ref b 0,vi m] ⟨e,bx,n,h⟩ ⟨e,upd bx b (some (261,[fzb B,vi (qA B a bad m:Nat),vb (qB B a bad m)])),n,h⟩ (vi (qX B a bad m:Nat)):=by
 have f:=JA (B.drop a) (eG ho a) (by rw[eH];omega)
 obtain⟨t,r,_⟩:=lS (B.drop a) (eG ho a)
 rw[eH]at r
 have d:=aA B
 have j:=iR B a
 have g:qA B a bad m=if bad=true\/(ak (B.drop a)).2.2≠0\/m<((ak (B.drop a)).1:Int)then a else a+(ak (B.drop a)).2.1:=rfl
 have i:qB B a bad m=if bad=true\/(ak (B.drop a)).2.2≠0\/m<((ak (B.drop a)).1:Int)then true else false:=rfl
 have ex:qX B a bad m=if bad=true\/(ak (B.drop a)).2.2≠0\/m<((ak (B.drop a)).1:Int)then 0 else(ak (B.drop a)).1:=rfl
 generalize qA B a bad m=A at *
 generalize qB B a bad m=s at *
 generalize qX B a bad m=X at *
 unfold lU at f
 generalize ak (B.drop a)=q at *
 obtain⟨x,k,l⟩:=q
 simp only at *
 by_cases c:bad=true\/l≠0\/m<(x:Int)
 .rw[ah c]at g i ex;subst g i ex;cases bad
  .by_cases he:l=0
   .have hm:m<(x:Int):=by rcases c with h|h|h;cases h;exact absurd he h;exact h
    subst he;refine gZ oW ?_;(repeat' first|refine wP (Ag @aK @aH @aG @hb @pgv d j) f ?_|refine tS ?_ ?_<;>intro c|fail);all_goals(refine bC (aW _ _ _) ?_;rw[aP,aQ])
   .refine gZ oW ?_;(repeat' first|refine wP (Ag @aK @aH @aG @hb @pgv d j) f ?_|refine tS ?_ ?_<;>intro c|fail);all_goals(refine bC (aW _ _ _) ?_;rw[aP,aQ])
  .refine gZ oW ?_;(repeat' first|refine wP (Ag @aK @aH @aG @hb @pgv d j) f ?_|refine tS ?_ ?_<;>intro c|fail);all_goals(refine bC (aW _ _ _) ?_;rw[aP,aQ])
 .rw[ag c]at g i ex;have h1:bad=false:=by cases bad;rfl;exact absurd (.inl rfl) c
  have h2:l=0:=o8 fun e=>c (.inr (.inl e))
  have h3:¬m<(x:Int):=fun e=>c (.inr (.inr e))
  subst h1 h2 g i ex;refine gZ oW ?_;(repeat' first|refine wP (Ag @aK @aH @aG @hb @pgv d j) f ?_|refine tS ?_ ?_<;>intro c|fail);all_goals(refine bC (aW _ _ _) ?_;rw[aP,aQ])
theorem zQW(b:Nat)(B:List Nat)(a:Nat)(bad:Bool)(ho:oct B)(hl:B.length<=2147483648)(ha:a<=B.length)(hb:bx b=some (261,[fzb B,vi a,vb bad]))(p:b<n) :
  Gxz 188 [.ref b 0] ⟨e,bx,n,h⟩ ⟨e,upd bx b (some (261,[fzb B,vi (wqA B a bad:Nat),vb (wqB B a bad)])),n,h⟩ (vu (wqX B a bad:Nat)):=by
 have i:=ahe (B.drop a) (eG ho a) (by rw[eH];omega)
 have m:=(Ep (B.drop a) (eG ho a)).2
 rw[eH]at m
 have d:=aA B
 have j:=iR B a
 have f:wqA B a bad=if bad=true\/(dV (B.drop a)).2.2≠0 then a else a+(dV (B.drop a)).2.1:=rfl
 have g:wqB B a bad=if bad=true\/(dV (B.drop a)).2.2≠0 then true else false:=rfl
 have ex:wqX B a bad=if bad=true\/(dV (B.drop a)).2.2≠0 then 0 else(dV (B.drop a)).1:=rfl
 generalize wqA B a bad=A at *
 generalize wqB B a bad=r at *
 generalize wqX B a bad=X at *
 unfold DR at i
 generalize dV (B.drop a)=q at *
 obtain⟨x,k,l⟩:=q
 simp only at *
 by_cases c:bad=true\/l≠0
 .rw[ah c]at f g ex;subst f g ex;cases bad
  .have he:l≠0:=by rcases c with h|h;cases h;exact h
   refine gZ oW ?_;(repeat' first|refine wP (Ag @aK @aH @aG @hb @pgv d j) i ?_|refine tS ?_ ?_<;>intro c|fail);all_goals(refine bC (aW _ _ _) ?_;rw[aP,aQ])
  .refine gZ oW ?_;(repeat' first|refine wP (Ag @aK @aH @aG @hb @pgv d j) i ?_|refine tS ?_ ?_<;>intro c|fail);all_goals(refine bC (aW _ _ _) ?_;rw[aP,aQ])
 .rw[ag c]at f g ex;have h1:bad=false:=by cases bad;rfl;exact absurd (.inl rfl) c
  have h2:l=0:=o8 fun e=>c (.inr e)
  subst h1 h2 f g ex;have m:=m rfl;refine gZ oW ?_;(repeat' first|refine wP (Ag @aK @aH @aG @hb @pgv d j) i ?_|refine tS ?_ ?_<;>intro c|fail);all_goals(refine bC (aW _ _ _) ?_;rw[aP,aQ])
theorem zQT(b:Nat)(B:List Nat)(a:Nat)(bad:Bool)(ho:oct B)(hl:B.length<=2147483648)(ha:a<=B.length)(hb:bx b=some (261,[fzb B,vi a,vb bad]))(p:b<n) :
  Gxz 189 [.ref b 0] ⟨e,bx,n,h⟩ ⟨e,upd bx b (some (261,[fzb B,vi (tqA B a bad:Nat),vb (tqB B a bad)])),n,h⟩ (vs (tqX B a bad)):=by
 have i:=ahb (B.drop a) (eG ho a) (by rw[eH];omega)
 have m:=(Cc (B.drop a) (eG ho a)).2.2
 rw[eH]at m
 have d:=aA B
 have j:=iR B a
 have f:tqA B a bad=if bad=true\/(bQ (B.drop a)).2.2≠0 then a else a+(bQ (B.drop a)).2.1:=rfl
 have g:tqB B a bad=if bad=true\/(bQ (B.drop a)).2.2≠0 then true else false:=rfl
 have ex:tqX B a bad=if bad=true\/(bQ (B.drop a)).2.2≠0 then[]else(bQ (B.drop a)).1:=rfl
 generalize tqA B a bad=A at *
 generalize tqB B a bad=r at *
 generalize tqX B a bad=X at *
 unfold zi at i
 generalize bQ (B.drop a)=q at *
 obtain⟨x,k,l⟩:=q
 simp only at *
 by_cases c:bad=true\/l≠0
 .rw[ah c]at f g ex;subst f g ex;cases bad
  .have he:l≠0:=by rcases c with h|h;cases h;exact h
   refine gZ oW ?_;(repeat' first|refine wP (Ag @aK @aH @aG @hb @pgv d j) i ?_|refine tS ?_ ?_<;>intro c|fail);all_goals(refine bC (aW _ _ _) ?_;rw[aP,aQ])
  .refine gZ oW ?_;(repeat' first|refine wP (Ag @aK @aH @aG @hb @pgv d j) i ?_|refine tS ?_ ?_<;>intro c|fail);all_goals(refine bC (aW _ _ _) ?_;rw[aP,aQ])
 .rw[ag c]at f g ex;have h1:bad=false:=by cases bad;rfl;exact absurd (.inl rfl) c
  have h2:l=0:=o8 fun e=>c (.inr e)
  subst h1 h2 f g ex;have m:=m rfl;refine gZ oW ?_;(repeat' first|refine wP (Ag @aK @aH @aG @hb @pgv d j) i ?_|refine tS ?_ ?_<;>intro c|fail);all_goals(refine bC (aW _ _ _) ?_;rw[aP,aQ])
def qD(B:List Nat)(a:Nat)(bad:Bool):Bool:=if bad=false/\a=B.length then true else false
theorem zQD(b:Nat)(B:List Nat)(a:Nat)(bad:Bool)(hb:bx b=some (261,[fzb B,vi a,vb bad])) :
  Gxz 187 [.ref b 0] ⟨e,bx,n,h⟩ ⟨e,bx,n,h⟩ (vb (qD B a bad)):=by
 have c:=aA B
 have d:qD B a bad=if bad=false/\a=B.length then true else false:=rfl
 generalize qD B a bad=Q at *
 cases bad
 .by_cases he:a=B.length
  .rw[ah ⟨rfl,he⟩]at d;subst d;refine gZ oW ?_;(repeat' first|refine wQ (Af @aK @aH @aG @hb @pgv c) ?_|refine tS ?_ ?_<;>intro f|fail);all_goals(refine bC (aW _ _ _) ?_;rw[aP,aQ])
  .rw[ag (fun h=>he h.2)]at d;subst d;refine gZ oW ?_;(repeat' first|refine wQ (Af @aK @aH @aG @hb @pgv c) ?_|refine tS ?_ ?_<;>intro f|fail);all_goals(refine bC (aW _ _ _) ?_;rw[aP,aQ])
 .rw[ag (fun h=>nomatch h.1)]at d;subst d;refine gZ oW ?_;(repeat' first|refine wQ (Af @aK @aH @aG @hb @pgv c) ?_|refine tS ?_ ?_<;>intro f|fail);all_goals(refine bC (aW _ _ _) ?_;rw[aP,aQ])
end
section
variable (B:List Nat) (a:Nat) (b:Bool) (m:Int) (ho:oct B) (hl:B.length<=2147483648) (ha:a<=B.length)
include ho hl ha
theorem rdN(hm:0<=m:=by decide):∃x A c,(qX B a b m=x/\qA B a b m=A/\qB B a b m=c)/\(∀e bx n h,bx 1=some (261,[fzb B,vi a,vb b])->1<n->Gxz 186 [.ref 1 0,vi m] ⟨e,bx,n,h⟩ ⟨e,upd bx 1 (some (261,[fzb B,vi (A:Nat),vb c])),n,h⟩ (vi (x:Nat)))/\A<=B.length/\x<=4611686018427387904/\(x:Int)<=m:=⟨_,_,_,⟨rfl,rfl,rfl⟩,fun e bx n h hb d=>zQN e bx n h 1 B a b m ho hl ha hb d,jf ho ha,apI ho,A7 hm⟩
theorem rdT:∃x A c,(tqX B a b=x/\tqA B a b=A/\tqB B a b=c)/\(∀e bx n h,bx 1=some (261,[fzb B,vi a,vb b])->1<n->Gxz 189 [.ref 1 0] ⟨e,bx,n,h⟩ ⟨e,upd bx 1 (some (261,[fzb B,vi (A:Nat),vb c])),n,h⟩ (vs x))/\A<=B.length/\oct x:=⟨_,_,_,⟨rfl,rfl,rfl⟩,fun e bx n h hb d=>zQT e bx n h 1 B a b ho hl ha hb d,IJ ho ha,(Zw ho).1⟩
end
def bxs{B0:BX}{X:Option (TypeId×List V)}(B:List Nat)(p:Nat)(c:Bool)(h:B0 2=X):∃a,a=upd B0 1 (some (261,[fzb B,vi p,vb c]))/\a 1=some (261,[fzb B,vi p,vb c])/\a 2=X:=⟨_,rfl,bW _ _ _,(aV _ _ _ _ dX).trans h⟩
theorem bx0(x y z:TypeId×List V):∃B0,B0=yh [(0,x),(1,y),(2,z)]/\B0 1=some y/\B0 2=some z:=⟨_,rfl,rfl,rfl⟩
end Go.Proofs.YtopbmdnbdpjheaaGreat
end
namespace Go.Proofs.YtopbmdnbdpjheaaGreat
open Go Go.Pg
theorem Dz(n:Nat)(b:n<=4611686018427387904)(r:List Nat):nuX (ai n++r) false=n/\nuL (ai n++r) false=r/\nuB (ai n++r) false=false:=by
 have h:=Cb n b r;have a:¬(false=true\/(ak (ai n++r)).2.2≠0):=by rw[h];rintro(h|h);cases h;exact h rfl
 refine⟨?_,?_,?_⟩
 .grind[nuX]
 .grind[nuL]
 .exact ag a
def apL(x:Int)(hx:0<=x/\x<18446744073709551616)(r:List Nat):woX (eY x++r) false=x.toNat/\woL (eY x++r) false=r/\woB (eY x++r) false=false:=by
 have h:=Nv x hx r;refine⟨?_,?_,?_⟩
 .grind[woX]
 .rfl
 .rfl
def Qg(s:List Nat)(b:s.length<=65536)(r:List Nat):teX (bG s++r) false=s/\teL (bG s++r) false=r/\teB (bG s++r) false=false:=by
 have h:=TJ s b r;have a:¬(false=true\/(bQ (bG s++r)).2.2≠0):=by rw[h];rintro(h|h);cases h;exact h rfl
 refine⟨?_,?_,?_⟩
 .grind[teX]
 .grind[teL]
 .exact ag a
def oU{l:List Nat}{i n:Nat}{r:List Nat}(h:sS l i=(ai n++r,false))(a:n<=4611686018427387904):sS l (i+1)=(r,false)/\sx l i=n:=by grind[Dz,sS,sx]
def wL(b:Bool):decide (((if b=true then 1 else 0:Nat):Int)=1)=b:=by grind
def wK(b:Bool):iH b=ai (if b=true then 1 else 0:Nat):=by cases b<;>decide
def wM(b:Bool):(if b=true then 1 else 0:Nat)<=4611686018427387904:=by grind
theorem fO{n:Int}(h:0<=n):((n.toNat:Nat):Int)=n:=Om
theorem aeK(x:Tl)(h:vTl x=0):uK (gX x)=some x:=by
 obtain⟨a,c,b⟩:=x;have g:(0<=a/\a<=4294967295)/\(0<=c/\c<=4294967295):=by grind[vTl]
 have f:gX ⟨a,c,b⟩=ai a.toNat++(ai c.toNat++(ai (if b=true then 1 else 0:Nat)++[])):=by unfold gX;rw[wK];simp only[bZ,gV]
 have d:=Cb a.toNat Om (ai c.toNat++(ai (if b=true then 1 else 0:Nat)++[]));have i:=Cb c.toNat Om (ai (if b=true then 1 else 0:Nat)++[]);have d2:=Cb (if b=true then 1 else 0:Nat) (wM b) [];have j:tr (gX ⟨a,c,b⟩) 1=ai c.toNat++(ai (if b=true then 1 else 0:Nat)++[]):=by show(gX ⟨a,c,b⟩).drop (ak (gX ⟨a,c,b⟩)).2.1=_;rw[f,d];exact IU
 have t2:tr (gX ⟨a,c,b⟩) 2=ai (if b=true then 1 else 0:Nat)++[]:=by grind[tr,gX,ak]
 have t:tr (gX ⟨a,c,b⟩) 0=ai a.toNat++(ai c.toNat++(ai (if b=true then 1 else 0:Nat)++[])):=f;unfold uK;rw[t,j,t2,d,i,d2,ah ⟨rfl,rfl,rfl⟩];simp only;rw[wL,fO g.1.1,fO g.2.1];exact ah ⟨h,rfl⟩
theorem aeC(x:Ll)(h:vLl x=0)(a:0<=x.s/\x.s<18446744073709551616):sO (l7 x)=some x:=by
 obtain⟨l,i2,k⟩:=Bz h;obtain⟨p,s,r⟩:=x;simp only at *;have c:l7 ⟨p,s,r⟩=ai p.toNat++(eY s++r.map u8i):=by unfold l7;rw[bZ]
 have d:=Cb p.toNat Om (eY s++r.map u8i);have b:=Nv s a (r.map u8i);have x1:(eY s++r.map u8i).drop 8=r.map u8i:=by rw[<-qg s,IU]
 have f:ivU (r.map u8i)=r:=by unfold ivU;rw[zA];refine(kN (g:=id) fun y i => ?_).trans (List.map_id _);obtain⟨j,hj,he⟩:=nz 0 i;have:=BM k hj;grind[u8i]
 unfold sO;rw[c,d,ah ⟨rfl,by omega⟩];rw[IU];unfold dLl;rw[b,x1,ah ⟨rfl,by rw[aj];exact i2⟩,f,fO Om,fO a.1];exact ah h
def aqt:∀(c acc:List Int) (r:List Nat),(∀i,i<c.length->0<=c.getD i 0/\c.getD i 0<=4294967295)->xG c.length acc (aZ c++r) false=(acc++c,r,false):=by
 intro c
 induction c with
 |nil=>intro acc r _;simp[xG,aZ]
 |cons x c g =>
  intro acc r h;have a:=h 0 Aa;have e:aZ (x::c)++r=ai x.toNat++(aZ c++r):=by simp[aZ]
  simp at a;obtain⟨b,d,f⟩:=Dz x.toNat Om (aZ c++r);rw[e];show xG c.length (acc++[((nuX (ai x.toNat++(aZ c++r)) false:Nat):Int)]) (nuL (ai x.toNat++(aZ c++r)) false) (nuB (ai x.toNat++(aZ c++r)) false)=_;rw[b,d,f,fO a.1,g _ _ (fun i hi=>by have:=h (i+1) (by simp;omega);simpa using this)];grind
theorem aew(x:Cm)(h:vCm x=0)(f:0<=x.s/\x.s<18446744073709551616):wC (jD x)=some x:=by
 obtain⟨u,i2,y,m⟩:=Bv h;obtain⟨d,z,s,c,b⟩:=x;simp only at *;have g:jD ⟨d,z,s,c,b⟩=ai d.toNat++(ai z.toNat++(eY s++(aZ c++(ai (if b=true then 1 else 0:Nat)++[])))):=by unfold jD;rw[wK];simp only[bZ,gV]
 have n:sS (jD ⟨d,z,s,c,b⟩) 0=(ai d.toNat++(ai z.toNat++(eY s++(aZ c++(ai (if b=true then 1 else 0:Nat)++[])))),false):=by rw[<-g];rfl
 obtain⟨s1,v⟩:=oU n Om;obtain⟨s2,v1⟩:=oU s1 Om;obtain⟨p,q,r⟩:=apL s f (aZ c++(ai (if b=true then 1 else 0:Nat)++[]));have a:d.toNat*z.toNat=c.length:=by grind
 have l:=aqt c [] (ai (if b=true then 1 else 0:Nat)++[]) (fun i hi=>BM m hi);obtain⟨j,t,k⟩:=Dz (if b=true then 1 else 0:Nat) (wM b) [];unfold wC;rw[s2,v,v1];simp only;rw[p,q,r];unfold dCm;rw[ag (by rintro(h|h);cases h;exact h Om),a,l];unfold eCm;simp only[iY];rw[j,k,wL,fO Om,fO Om,fO f.1];unfold fCm;rw[ag gy];exact ah ⟨h,rfl⟩
def aqO:∀(l:List En) (k:Nat) (acc:List En) (r:List Nat),l.length<=k->(∀e∈l,e.1.length<=65536/\(0<=e.2.1/\e.2.1<=4611686018427387904)/\(0<=e.2.2/\e.2.2<=4611686018427387904))->Bi k l.length acc (l.flatMap eu++r) false=(acc++l,r,false):=by
 intro l
 induction l with
 |nil=>intro k acc r _ _;rw[o9,YJ (.inr (.inl rfl))];simp
 |cons y l i =>
  intro k acc r hk h;obtain⟨key,c,a⟩:=y;obtain⟨h1,h2,h3⟩:=h _ (Aa:(key,c,a)∈(key,c,a)::l);simp only at h1 h2 h3;have e:((key,c,a)::l).flatMap eu++r=bG key++(ai c.toNat++(ai a.toNat++(l.flatMap eu++r))):=by simp[eu,bZ]
  obtain⟨t,t2,s⟩:=Qg key h1 (ai c.toNat++(ai a.toNat++(l.flatMap eu++r)));obtain⟨f,g,j⟩:=Dz c.toNat Om (ai a.toNat++(l.flatMap eu++r));obtain⟨m,n,p⟩:=Dz a.toNat Om (l.flatMap eu++r);rw[YK (by simp only[dB]at hk;omega) Aa rfl,e];have q:rdE (bG key++(ai c.toNat++(ai a.toNat++(l.flatMap eu++r)))) false=(key,c,a):=by grind[rdE,fO]
  have b:Dy (bG key++(ai c.toNat++(ai a.toNat++(l.flatMap eu++r)))) false=l.flatMap eu++r:=by grind[Dy]
  have d:Iq (bG key++(ai c.toNat++(ai a.toNat++(l.flatMap eu++r)))) false=false:=by simp_all[Iq]
  rw[q,b,d];rw[show((key,c,a)::l).length-1=l.length by simp,i (k-1) _ r (by simp only[dB]at hk;omega) (fun e he=>h e (by simp[he]))];simp[bZ]
def aqy:∀(l:List En) (k:Nat) (acc:List En) (r:List Nat),l.length<=k->(∀e∈l,e.1.length<=65536/\(0<=e.2.1/\e.2.1<=4611686018427387904)/\e.2.2=0)->Bg k l.length acc (l.flatMap eP++r) false=(acc++l,r,false):=by
 intro l
 induction l with
 |nil=>intro k acc r _ _;rw[o9,YE (.inr (.inl rfl))];simp
 |cons y l i =>
  intro k acc r hk h;obtain⟨key,c,a⟩:=y;obtain⟨h1,h2,h3⟩:=h _ (Aa:(key,c,a)∈(key,c,a)::l);simp only at h1 h2 h3;subst h3;have e:((key,c,0)::l).flatMap eP++r=bG key++(ai c.toNat++(l.flatMap eP++r)):=by simp[eP,bZ]
  obtain⟨t,t2,m⟩:=Qg key h1 (ai c.toNat++(l.flatMap eP++r));obtain⟨d,f,g⟩:=Dz c.toNat Om (l.flatMap eP++r);rw[YF (by simp only[dB]at hk;omega) Aa rfl,e];have j:rfE (bG key++(ai c.toNat++(l.flatMap eP++r))) false=(key,c,0):=by grind[rfE,fO]
  have q:DD (bG key++(ai c.toNat++(l.flatMap eP++r))) false=l.flatMap eP++r:=by grind[DD]
  have b:Iz (bG key++(ai c.toNat++(l.flatMap eP++r))) false=false:=by grind[Iz]
  rw[q,b];rw[show((key,c,(0:Int))::l).length-1=l.length by simp,i (k-1) _ r (by simp at hk;omega) (fun e he=>h e (by simp[he]))];grind
def aqC:∀(l:List (List Nat)) (acc:List (List Nat)) (r:List Nat),(∀k∈l,k.length<=65536)->qI l.length acc (l.flatMap bG++r) false=(acc++l,r,false):=by
 intro l
 induction l with
 |nil=>intro acc r _;simp[qI]
 |cons y l i =>intro acc r h;obtain⟨t,t2,a⟩:=Qg y (h y Aa) (l.flatMap bG++r);simp_all[YG]
def aqK:∀(v:List (List (List Nat))) (k:Nat) (acc:List (List (List Nat))) (r:List Nat),v.length<=k->(∀l∈v,l.length<=1000000/\∀x∈l,x.length<=65536)->Bh k v.length acc (v.flatMap dW++r) false=(acc++v,r,false):=by
 intro v
 induction v with
 |nil=>intro k acc r _ _;rw[o9,YH (.inr (.inl rfl))];simp
 |cons y v i =>
  intro k acc r hk h;obtain⟨h1,h2⟩:=h y Aa;have e:(y::v).flatMap dW++r=ai y.length++(y.flatMap bG++(v.flatMap dW++r)):=by simp[dW]
  obtain⟨b,c,d⟩:=Dz y.length Om (y.flatMap bG++(v.flatMap dW++r));have a:=aqC y [] (v.flatMap dW++r) h2;rw[YI (by simp at hk;omega) Aa,e,b,c,d,a];rw[show(y::v).length-1=v.length by simp,i (k-1) _ r (by simp at hk;omega) (fun l hl=>h l (by simp[hl]))];grind
theorem aeN(x:Tp)(h:vTp x=0):wH (jG x)=some x:=by
 obtain⟨p,i2,q,g⟩:=zo h;obtain⟨z,t,e,b⟩:=x;simp only at *;have a:=fun i (hi:i<e.length)=>CB (g i hi)
 have c:jG ⟨z,t,e,b⟩=ai z.toNat++(ai t.toNat++(ai (if b=true then 1 else 0:Nat)++(ai e.length++(e.flatMap eu++[])))):=by unfold jG;rw[wK];simp only[bZ,gV]
 have s:sS (jG ⟨z,t,e,b⟩) 0=(ai z.toNat++(ai t.toNat++(ai (if b=true then 1 else 0:Nat)++(ai e.length++(e.flatMap eu++[])))),false):=by rw[<-c];rfl
 obtain⟨s1,v⟩:=oU s Om;obtain⟨s2,v1⟩:=oU s1 Om;obtain⟨j,m⟩:=oU s2 (wM b);obtain⟨l,n⟩:=oU j Om;have d:=aqO e 32 [] [] Om (fun y f=>by obtain⟨i,hi,rfl⟩:=nz eD f;obtain⟨k,k2,r⟩:=a i hi;rw[ry]at k;exact⟨by omega,⟨by omega,by omega⟩,⟨by omega,by omega⟩⟩);unfold wH;rw[v,v1,m,n,l];simp only;rw[d,wL];unfold dTp;rw[ag gy,iY,fO Om,fO Om];exact ah ⟨h,rfl⟩
theorem aez(x:Fq)(h:vFq x=0):wE (jE x)=some x:=by
 obtain⟨A,i2,g,C,j⟩:=zl h;obtain⟨z,t,lo,e,b⟩:=x;simp only at *;have a:=fun i (hi:i<e.length)=>Cj (j i hi)
 have c:jE ⟨z,t,lo,e,b⟩=ai z.toNat++(ai t.toNat++(ai lo.toNat++(ai (if b=true then 1 else 0:Nat)++(ai e.length++(e.flatMap eP++[]))))):=by unfold jE;rw[wK];simp only[bZ,gV]
 have m:sS (jE ⟨z,t,lo,e,b⟩) 0=(ai z.toNat++(ai t.toNat++(ai lo.toNat++(ai (if b=true then 1 else 0:Nat)++(ai e.length++(e.flatMap eP++[]))))),false):=by rw[<-c];rfl
 obtain⟨s1,q⟩:=oU m Om;obtain⟨s2,v1⟩:=oU s1 Om;obtain⟨s,v⟩:=oU s2 Om;obtain⟨n,r⟩:=oU s (wM b);obtain⟨p,u⟩:=oU n Om;have d:=aqy e 32 [] [] Om (fun y f=>by obtain⟨i,hi,rfl⟩:=nz eD f;obtain⟨k,k2,l⟩:=a i hi;rw[ry]at k;exact⟨by omega,⟨by omega,by omega⟩,l⟩);unfold wE;rw[q,v1,v,r,u,p];simp only;rw[d,wL];unfold dFq;rw[ag gy,iY,fO Om,fO Om,fO Om];exact ah ⟨h,rfl⟩
theorem aeG(x:Rk)(h:vRk x=0):wF (jF x)=some x:=by
 have a:=IK h;obtain⟨A,i2,j,C,l⟩:=zn h;obtain⟨z,t,lo,v,b⟩:=x;simp only at *;have d:jF ⟨z,t,lo,v,b⟩=ai z.toNat++(ai t.toNat++(ai lo.toNat++(ai (if b=true then 1 else 0:Nat)++(ai v.length++(v.flatMap dW++[]))))):=by unfold jF;rw[wK];simp only[bZ,gV]
 have m:sS (jF ⟨z,t,lo,v,b⟩) 0=(ai z.toNat++(ai t.toNat++(ai lo.toNat++(ai (if b=true then 1 else 0:Nat)++(ai v.length++(v.flatMap dW++[]))))),false):=by rw[<-d];rfl
 obtain⟨s1,q⟩:=oU m Om;obtain⟨s2,v1⟩:=oU s1 Om;obtain⟨s,c⟩:=oU s2 Om;obtain⟨n,r⟩:=oU s (wM b);obtain⟨p,u⟩:=oU n Om;have f:=aqK v 41 [] [] Om (fun y g=>by obtain⟨i,hi,he⟩:=nz [] g;have h1:=l i;have h2:=a i hi;rw[he]at h1 h2;exact⟨by omega,fun k hk=>by have:=h2 k hk;omega⟩);unfold wF;rw[q,v1,c,r,u,p];simp only;rw[f,wL];unfold dRk;rw[ag gy,iY,fO Om,fO Om,fO Om];exact ah ⟨h,rfl⟩
def fF{α:Type}(B:List Nat)(a:Nat)(b:Bool)(m:Int)(k:Nat->Nat->Bool->α):α:=k (qX B a b m) (qA B a b m) (qB B a b m)
def BC{α:Type}(B:List Nat)(a:Nat)(b:Bool)(k:Nat->Nat->Bool->α):α:=k (wqX B a b) (wqA B a b) (wqB B a b)
def FH{B:List Nat}{a:Nat}{b:Bool}(h:qD B a b=true):b=false/\a=B.length:=by grind[qD]
def FD{B:List Nat}{a:Nat}(h:B.drop a=[])(ha:a<=B.length):qD B a false=true:=ah ⟨rfl,by have:=mV List.length h;rw[eH,o9]at this;omega⟩
def G6{x:Nat}(h:(x:Int)<=1):iH (decide ((x:Int)=1))=ai x:=by have:x=0\/x=1:=Om;rcases this with rfl|rfl<;>decide
def Ff{α:Type}{a b:Option α}(h1:∀x,a=some x->b=some x)(h2:∀x,b=some x->a=some x):a=b:=by
 cases ha:a with
 |some x=>exact(h1 x ha).symm
 |none =>
  cases hb:b with
  |some x=>rw[h2 x hb]at ha;cases ha
  |none=>rfl
def fTl(B:List Nat)(x:Tl)(a:Nat)(b:Bool):Option Tl:=if qD B a b=true/\vTl x=0 then some x else none
def Em(B:List Nat):Option Tl:=fF B 0 false 4294967295 fun x a b=>fF B a b 4294967295 fun y a b=>fF B a b 1 fun z a b=>fTl B ⟨x,y,decide ((z:Int)=1)⟩ a b
def ahc(B:List Nat)(ho:oct B)(hl:B.length<=2147483648):Gxx 89 [fzb B] (oV tlF Tl.o (Em B)):=by
 simp only[Em,fF];obtain⟨x,l,q,u,d,n,E,t⟩:=rdN B 0 false 4294967295 ho hl (ax _);simp only[u];obtain⟨y,m,r,u,g,p,F,k2⟩:=rdN B l q 4294967295 ho hl n;simp only[u];obtain⟨w,A,b,u,i,s,G,C⟩:=rdN B m r 1 ho hl p;simp only[u];have j:=fun e bx n' h hb=>zQD e bx n' h 1 B A b hb
 have c:((w:Int) == 1)=decide ((w:Int)=1):=rfl;generalize decide ((w:Int)=1)=f at *;have hv:=JJ ⟨x,y,f⟩;have hf:fTl B ⟨x,y,f⟩ A b=if qD B A b=true/\vTl ⟨x,y,f⟩=0 then some ⟨x,y,f⟩else none:=rfl
 generalize qD B A b=D at *;cases D
 .rw[vg (hf.trans (ag fun h=>nomatch h.1))];refine gI oW ?_;(repeat' first|refine wQ c ?_|refine aU _ (d _ _ _ _ rfl Om) rfl ?_|refine aU _ (g _ _ _ _ rfl Om) rfl ?_|refine aU _ (i _ _ _ _ rfl Om) rfl ?_|refine cZ (j _ _ _ _ rfl) ?_|refine tS ?_ ?_<;>intro k|fail);all_goals exact rE []
 .by_cases a:vTl ⟨x,y,f⟩=0
  .rw[AQ (hf.trans (ah ⟨rfl,a⟩))];rw[a]at hv;refine gI oW ?_;(repeat' first|refine wP c hv ?_|refine aU _ (d _ _ _ _ rfl Om) rfl ?_|refine aU _ (g _ _ _ _ rfl Om) rfl ?_|refine aU _ (i _ _ _ _ rfl Om) rfl ?_|refine cZ (j _ _ _ _ rfl) ?_|refine tS ?_ ?_<;>intro k|fail);all_goals exact rE []
  .rw[vg (hf.trans (ag fun h=>a h.2))];generalize vTl ⟨x,y,f⟩=v at *;refine gI oW ?_;(repeat' first|refine wP c hv ?_|refine aU _ (d _ _ _ _ rfl Om) rfl ?_|refine aU _ (g _ _ _ _ rfl Om) rfl ?_|refine aU _ (i _ _ _ _ rfl Om) rfl ?_|refine cZ (j _ _ _ _ rfl) ?_|refine tS ?_ ?_<;>intro k|fail);all_goals exact rE []
def aeJ{B:List Nat}{t:Tl}(ho:oct B)(h:Em B=some t):vTl t=0/\gX t=B:=by
 simp only[Em,fF]at h;unfold fTl at h;split at h
 .rename_i a;obtain⟨h1,h2⟩:=a;simp only[aO]at h;subst h;refine⟨h2,?_⟩;obtain⟨d,d2⟩:=FH h1;obtain⟨b,f⟩:=jw ho d;obtain⟨q,c⟩:=jw ho b;obtain⟨g,p⟩:=jw ho q;unfold gX;rw[G6 (A7 dX)];simp only[fC];grind
 .cases h
def aeI(B:List Nat)(ho:oct B):Em B=uK B:=by
 refine Ff (fun t h => ?_) (fun t h => ?_)
 .obtain⟨h1,h2⟩:=aeJ ho h;grind[aeK]
 .obtain⟨h1,h2⟩:=TK h;obtain⟨a,c,b⟩:=t;have d:(0<=a/\a<=4294967295)/\(0<=c/\c<=4294967295):=by grind[vTl]
  have f:B.drop 0=ai a.toNat++(ai c.toNat++(ai (if b=true then 1 else 0:Nat)++[])):=by rw[<-h2];unfold gX;rw[wK];simp only[bZ,gV,lX]
  obtain⟨x1,y,g⟩:=jv (m:=4294967295) f Om Om;obtain⟨x2,y2,i⟩:=jv (m:=4294967295) y Om Om;obtain⟨x,y3,j⟩:=jv (m:=1) y2 (wM b) (by cases b<;>decide);simp only[Em,fF];rw[g,i,x1,x2,x,j];unfold fTl;rw[wL,fO d.1.1,fO d.2.1];exact ah ⟨FD y3 (jf ho (jf ho (jf ho (ax _)))),h1⟩
def uj(B:List Nat):Nat->List Int->Nat->Bool->List Int×Nat×Bool
 |0,c,a,b=>(c,a,b)
 |k+1,c,a,b=>if b=true then(c,a,b)else uj B k (c++[((qX B a b 4294967295:Nat):Int)]) (qA B a b 4294967295) (qB B a b 4294967295)
def aqr{B:List Nat}{k:Nat}{c:List Int}{a:Nat}{b:Bool}(h:k=0\/b=true):uj B k c a b=(c,a,b):=by
 cases k with
 |zero=>rfl
 |succ k=>exact ah (by rcases h with h|h;omega;exact h)
def Qn{B:List Nat}{k:Nat}{c:List Int}{a:Nat}(h:k≠0):uj B k c a false=uj B (k-1) (c++[((qX B a false 4294967295:Nat):Int)]) (qA B a false 4294967295) (qB B a false 4294967295):=by
 cases k with
 |zero=>exact absurd rfl h
 |succ k=>exact ag gy
def GZ(B:List Nat)(x:Cm)(a:Nat)(b:Bool):Option Cm:=if qD B a b=true/\vCm x=0 then some x else none
def Jm(B:List Nat)(d z s:Nat)(q:List Int×Nat×Bool):Option Cm:=fF B q.2.1 q.2.2 1 fun f a b=>GZ B ⟨d,z,s,q.1,decide ((f:Int)=1)⟩ a b
def Eg(B:List Nat):Option Cm:=fF B 0 false 8 fun d a b=>fF B a b 64 fun z a b=>BC B a b fun s a b=>Jm B d z s (uj B (d*z) [] a b)
abbrev cmO(x:Cm):List V:=[vi x.d,vi x.z,vu x.s,.sl (.own 0 3) 1 (iv x.c),vb x.b]
def ag7(B:List Nat)(ho:oct B)(hl:B.length<=2147483648):Gxx 90 [fzb B] (oV cmF Cm.o (Eg B)):=by
 refine wZ (F':=cmO) (zs:=[vi 0,vi 0,vu 0,.c (.slice none 0 0),vb false]) ?_ (fun _=>rfl) (fun _=>⟨aC _,aC _,trivial⟩) rfl ⟨.inr ⟨_,_,rfl,rfl,⟨.inl rfl,.inl rfl,.inl rfl,jB _ _,.inl rfl,trivial⟩⟩,aC _,trivial⟩;simp only[Eg,fF,BC];obtain⟨d,A1,b1,u,z1,a1,m1,k1⟩:=rdN B 0 false 8 ho hl (ax _);simp only[u];obtain⟨z,H,I,u,z2,a2,m2,k2⟩:=rdN B A1 b1 64 ho hl a1;simp only[u];have z3:=fun e bx n' h hb A=>zQW e bx n' h 1 B H I ho hl a2 hb A
 have a3:=LK (B:=B) (a:=H) (bad:=I) ho a2;have m3:=LM (B:=B) (a:=H) (bad:=I) ho;generalize wqX B H I=s at *;generalize wqA B H I=A3 at *;generalize wqB B H I=b3 at *;obtain⟨F,hF⟩:∃F,F=uj B (d*z) [] A3 b3:=⟨_,rfl⟩;rw[<-hF];obtain⟨M,hM⟩:∃M,M=d*z:=⟨_,rfl⟩;have hM5:M<=512:=by rw[hM];exact iZ (Nat.mul_le_mul (show d<=8 by omega) (show z<=64 by omega)) dX
 have n:(d:Int)*(z:Int)=(M:Nat):=by rw[hM];simp
 rw[<-hM]at hF;refine gI (zN mix) ?_;(repeat' first|refine wQ @iq ?_|refine aU _ (z1 _ _ _ _ rfl Om) rfl ?_|refine aU _ (z2 _ _ _ _ rfl Om) rfl ?_|refine aU _ (z3 _ _ _ _ rfl Om) rfl ?_|refine tS ?_ ?_<;>intro m|fail)
 refine aJ (fun x:List Int×Nat×Bool=>mkA [(2,.ref 0 0),(4,.ref 1 0),(5,.ref 2 0),(6,vi x.1.length)] [(0,(45,[vi 0,vi 0,vu 0,.c (.slice none 0 0),vb false])),(1,(261,[fzb B,vi x.2.1,vb x.2.2])),(2,(45,[vi d,vi z,vu s,.sl (.own 0 3) 1 (iv x.1),vb false]))] 3 (fun _=>.top))
  (fun x=>uj B (M-x.1.length) x.1 x.2.1 x.2.2=F/\x.1.length<=M/\x.2.1<=B.length) (fun x=>M-x.1.length) ([],A3,b3) [] [0,1,2] ?_ ⟨hF.symm,ax _,a3⟩ ?_
 .exact kY
 .rintro⟨c,a,b⟩ ⟨G,i2,i3⟩;simp only at G i2 i3;have l:=bV c;clear z1 z2 z3;by_cases E:c.length<M/\b=false
  .obtain⟨E,rfl⟩:=E;rw[Qn Om]at G;obtain⟨x,t,y,u,X,q2,q3,_⟩:=rdN B a false 4294967295 ho hl i3;simp only[u]at G;have W:(c++[(x:Int)]).length=c.length+1:=Aa;rw[show M-c.length-1=M-(c++[(x:Int)]).length by rw[W];omega]at G;have hap:=OL c (x:Int);(repeat' first|refine wQ (Ac @iq l n) ?_|refine tS ?_ ?_<;>intro m|fail);obtain⟨B0,L,c0,d0⟩:=bx0 (45,[vi 0,vi 0,vu 0,.c (.slice none 0 0),vb false]) (261,[fzb B,vi a,vb false]) (45,[vi d,vi z,vu s,.sl (.own 0 3) 1 (iv c),vb false]);obtain⟨Y,P,c1,d1⟩:=bxs B t y d0;obtain⟨r,g⟩:∃Z:(Nat->Bool)->BX,Z=fun S=>if S 3=true then Y else B0:=⟨_,rfl⟩;obtain⟨N,j⟩:∃Z:(Nat->Bool)->Nat,Z=fun S=>if S 4=true then 4 else 3:=⟨_,rfl⟩;have Q:∀S i,i≠3->r S=r (ins S i):=fun S i h3=>by rw[g];simp only[iy (jY h3)]
   have R:∀S i,i≠4->N S=N (ins S i):=fun S i h7=>by rw[j];simp only[iy (jY h7)]
   have U:∀S,r S 2=some (45,[vi d,vi z,vu s,.sl (.own 0 3) 1 (iv c),vb false]):=fun S=>by rw[g];show(if S 3=true then Y else B0) 2=_;(repeat' split)<;>assumption
   have hnl:∀S,1<N S:=fun S=>by rw[j];simp only;split<;>omega
   have hnd:([33,34,35,36,37]:List Nat).Nodup:=dX;refine Ir mix 5 [(33,.ref 2 3),(34,.sl (.own 0 3) 1 (iv c)),(35,.ref 1 0),(36,vi (x:Nat)),(37,.sl (.own 3 3) 1 [vi (x:Nat)])] r N (by rw[g];show B0=_;exact L) (by rw[j];rfl) dX dX dX ?_ ?_
   .intro S i o ho hi T he hcl;rcases(Om:i=0\/i=1\/i=2\/i=3\/i=4)with rfl|rfl|rfl|rfl|rfl;all_goals(simp only[vX,zy,aO]at ho;subst ho)
    all_goals(have sf:=he;simp[edgesOf,Region.binds]at sf)
    all_goals try((repeat' first|refine wQ (Ae T @sf @bH @dA U) ?_|refine tS ?_ ?_<;>intro m|fail);exact ig _ rfl hnd (Q S _ dX) (R S _ dX))
    .have s2:=he 2 dX;have J:r S=B0:=by rw[g];simp only[T];rfl
     have K:r (ins S 3)=Y:=by rw[g];simp only[ni];rfl
     (repeat' first|refine wQ (Ae T @s2 J @bH @dA) ?_|refine tS ?_ ?_<;>intro m|fail);refine cZ (X _ _ _ _ c0 (hnl S)) ?_ (by simp only[dm,dS,pgo,simprocAttr,s2,bH]);exact ig 3 rfl hnd (by rw[K,P]) (R S 3 dX)
    .have s3:=he 3 dX;have J:N S=3:=by rw[j];simp only[T];rfl
     have K:N (ins S 4)=4:=by rw[j];simp only[ni];rfl
     (repeat' first|refine wQ (Ae T @s3 J @bH @dA) ?_|refine tS ?_ ?_<;>intro m|fail);exact ig 4 rfl hnd (Q S 4 dX) K.symm
   .intro S k;have s1:=k 1 dX dX;have s4:=k 4 dX dX;have J:r S=Y:=by rw[g];simp only[k 3 dX dX];rfl
    have K:N S=4:=by rw[j];simp only[s4];rfl
    have p:=U S;rw[J]at p;rw[J,K,P,L];simp only[IV,lX,dm,dS];(repeat' first|refine wQ (Ah @iq l @hap @s1 @s4 @bH @dA p) ?_|refine tS ?_ ?_<;>intro m|fail);refine dn (c++[(x:Int)],t,y) [0] [0,1,2] ⟨G,by show(c++[(x:Int)]).length<=M;omega,q2⟩ (by show M-(c++[(x:Int)]).length<M-c.length;omega) ?_;(refine kM ?_ ?_;(repeat'(first|exact ae|refine dQ _ _ rfl rfl ?_ ?_));all_goals(try simp only[pgm,simprocAttr]);all_goals(try(repeat' apply aI));all_goals(try exact gz));all_goals(try simp only[bH,dA,pgo,simprocAttr,ku,jS,nS])
    all_goals first|done|exact fE rfl rfl|exact eF (by rw[W];omega)|exact eF Om|exact kZ rfl|skip
  .have q:M-c.length=0\/b=true:=by
    rcases au c.length M with h|h
    .cases b with
     |false=>exact absurd ⟨h,rfl⟩ E
     |true=>exact .inr rfl
    .exact .inl Om
   rw[aqr q]at G;subst G;have hfC:Jm B d z s (c,a,b)=GZ B ⟨d,z,s,c,decide ((qX B a b 1:Int)=1)⟩ (qA B a b 1) (qB B a b 1):=rfl;rw[hfC];have X:=fun e bx n' h hb A=>zQN e bx n' h 1 B a b 1 ho hl i3 hb A
   generalize qX B a b 1=x at *;generalize qA B a b 1=t at *;generalize qB B a b 1=y at *;have w2:=fun e bx n' h hb=>zQD e bx n' h 1 B t y hb
   have C:((x:Int) == 1)=decide ((x:Int)=1):=rfl;generalize decide ((x:Int)=1)=f at *;have hv:=JF ⟨d,z,s,c,f⟩;have hf:GZ B ⟨d,z,s,c,f⟩ t y=if qD B t y=true/\vCm ⟨d,z,s,c,f⟩=0 then some ⟨d,z,s,c,f⟩else none:=rfl
   generalize qD B t y=D at *
   rcases(by
    rcases au c.length M with h|h
    .rcases q with h1|h1
     .omega
     .exact .inr ⟨h,h1⟩
    .exact .inl h:M<=c.length\/(c.length<M/\b=true))with m|⟨m,rfl⟩
   all_goals
    cases D
    .rw[jc (hf.trans (ag fun h=>nomatch h.1))]
     (repeat' first|refine wQ (Ad @iq l n C) ?_|refine aU _ (X _ _ _ _ rfl Om) rfl ?_|refine cZ (w2 _ _ _ _ rfl) ?_|refine tS ?_ ?_<;>intro m|fail)
     all_goals exact rE []
    .by_cases h0:vCm ⟨d,z,s,c,f⟩=0
     .rw[xA (hf.trans (ah ⟨rfl,h0⟩))]
      rw[h0]at hv
      (repeat' first|refine wQ (Ad @iq l n C) ?_|refine aU _ (X _ _ _ _ rfl Om) rfl ?_|refine cZ (w2 _ _ _ _ rfl) ?_|refine cU hv ?_|refine tS ?_ ?_<;>intro m|fail)
      all_goals exact rE [0]
     .rw[jc (hf.trans (ag fun h=>h0 h.2))]
      generalize vCm ⟨d,z,s,c,f⟩=v at *
      (repeat' first|refine wQ (Ad @iq l n C) ?_|refine aU _ (X _ _ _ _ rfl Om) rfl ?_|refine cZ (w2 _ _ _ _ rfl) ?_|refine cU hv ?_|refine tS ?_ ?_<;>intro m|fail)
      all_goals exact rE []
def aqs{B:List Nat}(ho:oct B):∀(k:Nat) (c:List Int) (a:Nat) (b:Bool),(uj B k c a b).2.2=false->b=false/\∃xs:List Int,xs.length=k/\(uj B k c a b).1=c++xs/\B.drop a=aZ xs++B.drop (uj B k c a b).2.1:=by
 intro k
 induction k with
 |zero=>intro c a b h;exact⟨h,[],rfl,(gV _).symm,rfl⟩
 |succ k i =>
  intro c a b h
  cases b with
  |true=>cases h
  |false =>rw[Qn Om,uC]at h⊢;grind[jw,qX,aZ]
def aqp{B:List Nat}(ho:oct B):∀(c acc:List Int) (a:Nat) (r:List Nat),B.drop a=aZ c++r->a<=B.length->(∀i,i<c.length->0<=c.getD i 0/\c.getD i 0<=4294967295)->∃b,uj B c.length acc a false=(acc++c,b,false)/\B.drop b=r/\b<=B.length:=by
 intro c
 induction c with
 |nil=>intro acc a r h ha _;exact⟨a,by simp[uj],h,ha⟩
 |cons x c g =>
  intro acc a r h ha hx;have d:=hx 0 Aa;simp only[List.getD,vX,Gv]at d;have e:B.drop a=ai x.toNat++(aZ c++r):=by rw[h];simp[aZ,bZ]
  obtain⟨x1,y,f⟩:=jv (m:=4294967295) e Om Om;obtain⟨b,h1,h2,h3⟩:=g (acc++[x]) (qA B a false 4294967295) r y (jf ho ha) (fun i hi=>by have:=hx (i+1) (by simp;omega);simpa[List.getD]using this);refine⟨b,?_,h2,h3⟩;rw[dB,Qn Om,uC,x1,f,fO d.1,h1];simp[bZ]
def aev{B:List Nat}{t:Cm}(ho:oct B)(h:Eg B=some t):(vCm t=0/\jD t=B)/\0<=t.s/\t.s<18446744073709551616:=by
 simp only[Eg,fF,BC,Jm]at h;unfold GZ at h;split at h
 .rename_i f;obtain⟨h1,h2⟩:=f;simp only[aO]at h;subst h;obtain⟨d,d2⟩:=FH h1;obtain⟨n,c⟩:=jw ho d;obtain⟨m,xs,g,b,k⟩:=aqs ho _ _ _ _ n;obtain⟨l,j⟩:=aaf ho m;obtain⟨q,i⟩:=jw ho l;obtain⟨r,p⟩:=jw ho q;refine⟨⟨h2,?_⟩,axi _,by have:=LM (B:=B) (a:=qA B (qA B 0 false 8) (qB B 0 false 8) 64) (bad:=qB B (qA B 0 false 8) (qB B 0 false 8) 64) ho;simp only;omega⟩;rw[d2,jM]at c;rw[i,j,k,c,lX]at p;unfold jD;simp only;rw[G6 (A7 dX),b];simp only[fC,iY];exact(p.trans (by simp only[bZ,gV])).symm
 .cases h
def aeu(B:List Nat)(ho:oct B):Eg B=wC B:=by
 refine Ff (fun t h => ?_) (fun t h => ?_)
 .obtain⟨⟨h1,h2⟩,a⟩:=aev ho h;grind[aew]
 .obtain⟨⟨h1,h2⟩,a⟩:=Nk ho h;obtain⟨q,i2,r,g⟩:=Bv h1;obtain⟨d,z,s,c,b⟩:=t;simp only at q i2 r g a;have j:B.drop 0=ai d.toNat++(ai z.toNat++(eY s++(aZ c++(ai (if b=true then 1 else 0:Nat)++[])))):=by rw[<-h2];unfold jD;rw[wK];simp only[bZ,gV,lX]
  obtain⟨x1,C,k⟩:=jv (m:=8) j Om Om;obtain⟨x2,y2,l⟩:=jv (m:=64) C Om Om;obtain⟨x,y3,n⟩:=aae a y2;have u:=LK (bad:=false) ho (jf (bad:=false) (m:=64) ho (jf (bad:=false) (m:=8) ho (ax B.length)));obtain⟨E,y,y4,v⟩:=aqp ho c [] _ _ y3 u (fun i hi=>BM g hi);obtain⟨A,y5,p⟩:=jv (m:=1) y4 (wM b) (by cases b<;>decide);have f:d.toNat*z.toNat=c.length:=by grind
  simp only[Eg,fF,BC];rw[k,l,x1,x2,x,n,f,y];simp only[Jm,fF];rw[A,p,wL,fO Om,fO Om,fO a.1,iY];unfold GZ;exact ah ⟨FD y5 (jf ho v),h1⟩
def ul(B:List Nat):Nat->List Int->Nat->Bool->List Int×Nat×Bool
 |0,c,a,b=>(c,a,b)
 |k+1,c,a,b=>if b=true then(c,a,b)else ul B k (c++[((qX B a b 65:Nat):Int)]) (qA B a b 65) (qB B a b 65)
def aqF{B:List Nat}{k:Nat}{c:List Int}{a:Nat}{b:Bool}(h:k=0\/b=true):ul B k c a b=(c,a,b):=by
 cases k with
 |zero=>rfl
 |succ k=>exact ah (by rcases h with h|h;omega;exact h)
theorem Qq{B:List Nat}{k:Nat}{c:List Int}{a:Nat}(h:k≠0):ul B k c a false=ul B (k-1) (c++[((qX B a false 65:Nat):Int)]) (qA B a false 65) (qB B a false 65):=by
 cases k with
 |zero=>exact absurd rfl h
 |succ k=>exact ag gy
def NJ(B:List Nat)(x:Ll)(a:Nat)(b:Bool):Option Ll:=if qD B a b=true/\vLl x=0 then some x else none
def Jo(B:List Nat)(p s:Nat)(q:List Int×Nat×Bool):Option Ll:=NJ B ⟨p,s,q.1⟩ q.2.1 q.2.2
def Ei(B:List Nat):Option Ll:=fF B 0 false 8 fun p a b=>BC B a b fun s a b=>Jo B p s (ul B (2^p) [] a b)
def apk{p:Nat}(h:p<=8):IntKind.i64.wrap (1*2^min p IntKind.i64.bits)=((2^p:Nat):Int)/\2^p<=256:=by have:p=0\/p=1\/p=2\/p=3\/p=4\/p=5\/p=6\/p=7\/p=8:=Om;rcases this with rfl|rfl|rfl|rfl|rfl|rfl|rfl|rfl|rfl<;>exact⟨by decide,by decide⟩
def ag9(B:List Nat)(ho:oct B)(hl:B.length<=2147483648):Gxx 91 [fzb B] (oV llF Ll.o (Ei B)):=by
 refine wZ (F':=llO) (zs:=[vi 0,vu 0,.c (.slice none 0 0)]) ?_ (fun _=>rfl) (fun _=>⟨aC _,aC _,trivial⟩) rfl ⟨.inr ⟨_,_,rfl,rfl,⟨.inl rfl,.inl rfl,jB _ _,trivial⟩⟩,aC _,trivial⟩;simp only[Ei,fF,BC];obtain⟨p,A,t,u,z1,a1,m1,k1⟩:=rdN B 0 false 8 ho hl (ax _);simp only[u];have z2:=fun e bx n' h hb Y=>zQW e bx n' h 1 B A t ho hl a1 hb Y
 have a2:=LK (B:=B) (a:=A) (bad:=t) ho a1;have m2:=LM (B:=B) (a:=A) (bad:=t) ho;generalize wqX B A t=s at *;generalize wqA B A t=A2 at *;generalize wqB B A t=b2 at *;obtain⟨F,U⟩:∃F,F=ul B (2^p) [] A2 b2:=⟨_,rfl⟩;rw[<-U];obtain⟨P,W⟩:=apk (p:=p) Om;obtain⟨M,hM⟩:∃M,M=2^p:=⟨_,rfl⟩;rw[<-hM]at U P W;refine gI (zN mix) ?_;(repeat' first|refine wQ @iq ?_|refine aU _ (z1 _ _ _ _ rfl Om) rfl ?_|refine aU _ (z2 _ _ _ _ rfl Om) rfl ?_|refine tS ?_ ?_<;>intro k|fail)
 refine aJ (fun x:List Int×Nat×Bool=>mkA [(2,.ref 0 0),(4,.ref 1 0),(5,.ref 2 0),(6,vi x.1.length)] [(0,(47,[vi 0,vu 0,.c (.slice none 0 0)])),(1,(261,[fzb B,vi x.2.1,vb x.2.2])),(2,(47,[vi p,vu s,.sl (.own 0 3) 1 (iv x.1)]))] 3 (fun _=>.top))
  (fun x=>ul B (M-x.1.length) x.1 x.2.1 x.2.2=F/\x.1.length<=M/\x.2.1<=B.length) (fun x=>M-x.1.length) ([],A2,b2) [] [0,1,2] ?_ ⟨U.symm,ax _,a2⟩ ?_
 .exact kY
 .rintro⟨c,a,b⟩ ⟨r,i2,i3⟩;simp only at r i2 i3;have j:=bV c;clear z1 z2;by_cases q:c.length<M/\b=false
  .obtain⟨q,rfl⟩:=q;rw[Qq Om]at r;obtain⟨x,a',b',u,w1,q2,q3,_⟩:=rdN B a false 65 ho hl i3;simp only[u]at r;have L:(c++[(x:Int)]).length=c.length+1:=Aa;rw[show M-c.length-1=M-(c++[(x:Int)]).length by rw[L];omega]at r;have X:=OL c (x:Int);(repeat' first|refine wQ (Ac @iq j P) ?_|refine tS ?_ ?_<;>intro k|fail);obtain⟨B0,E,c0,d0⟩:=bx0 (47,[vi 0,vu 0,.c (.slice none 0 0)]) (261,[fzb B,vi a,vb false]) (47,[vi p,vu s,.sl (.own 0 3) 1 (iv c)]);obtain⟨Q,G,c1,d1⟩:=bxs B a' b' d0;obtain⟨n,d⟩:∃R:(Nat->Bool)->BX,R=fun S=>if S 3=true then Q else B0:=⟨_,rfl⟩;obtain⟨N,f⟩:∃R:(Nat->Bool)->Nat,R=fun S=>if S 4=true then 4 else 3:=⟨_,rfl⟩;have H:∀S i,i≠3->n S=n (ins S i):=fun S i h3=>by rw[d];simp only[iy (jY h3)]
   have I:∀S i,i≠4->N S=N (ins S i):=fun S i h7=>by rw[f];simp only[iy (jY h7)]
   have K:∀S,n S 2=some (47,[vi p,vu s,.sl (.own 0 3) 1 (iv c)]):=fun S=>by rw[d];show(if S 3=true then Q else B0) 2=_;(repeat' split)<;>assumption
   have Z:∀S,1<N S:=fun S=>by rw[f];simp only;split<;>omega
   have hnd:([30,31,32,33,34]:List Nat).Nodup:=dX;refine Ir mix 5 [(30,.ref 2 2),(31,.sl (.own 0 3) 1 (iv c)),(32,.ref 1 0),(33,vi (x:Nat)),(34,.sl (.own 3 3) 1 [vi (x:Nat)])] n N (by rw[d];show B0=_;exact E) (by rw[f];rfl) dX dX dX ?_ ?_
   .intro S i o ho hi J he hcl;rcases(Om:i=0\/i=1\/i=2\/i=3\/i=4)with rfl|rfl|rfl|rfl|rfl;all_goals(simp only[vX,zy,aO]at ho;subst ho)
    all_goals(have sf:=he;simp[edgesOf,Region.binds]at sf)
    all_goals try((repeat' first|refine wQ (Ae J @sf @bH @dA K) ?_|refine tS ?_ ?_<;>intro k|fail);exact ig _ rfl hnd (H S _ dX) (I S _ dX))
    .have s2:=he 2 dX;have y:n S=B0:=by rw[d];simp only[J];rfl
     have C:n (ins S 3)=Q:=by rw[d];simp only[ni];rfl
     (repeat' first|refine wQ (Ae J @s2 y @bH @dA) ?_|refine tS ?_ ?_<;>intro k|fail);refine cZ (w1 _ _ _ _ c0 (Z S)) ?_ (by simp only[dm,dS,pgo,simprocAttr,s2,bH]);exact ig 3 rfl hnd (by rw[C,G]) (I S 3 dX)
    .have s3:=he 3 dX;have y:N S=3:=by rw[f];simp only[J];rfl
     have C:N (ins S 4)=4:=by rw[f];simp only[ni];rfl
     (repeat' first|refine wQ (Ae J @s3 y @bH @dA) ?_|refine tS ?_ ?_<;>intro k|fail);exact ig 4 rfl hnd (H S 4 dX) C.symm
   .intro S g;have s1:=g 1 dX dX;have s4:=g 4 dX dX;have y:n S=Q:=by rw[d];simp only[g 3 dX dX];rfl
    have C:N S=4:=by rw[f];simp only[s4];rfl
    have l:=K S;rw[y]at l;rw[y,C,G,E];simp only[IV,lX,dm,dS];(repeat' first|refine wQ (Ah @iq j X @s1 @s4 @bH @dA l) ?_|refine tS ?_ ?_<;>intro k|fail);refine dn (c++[(x:Int)],a',b') [0] [0,1,2] ⟨r,by show(c++[(x:Int)]).length<=M;omega,q2⟩ (by show M-(c++[(x:Int)]).length<M-c.length;omega) ?_;(refine kM ?_ ?_;(repeat'(first|exact ae|refine dQ _ _ rfl rfl ?_ ?_));all_goals(try simp only[pgm,simprocAttr]);all_goals(try(repeat' apply aI));all_goals(try exact gz));all_goals(try simp only[bH,dA,pgo,simprocAttr,ku,jS,nS])
    all_goals first|done|exact fE rfl rfl|exact eF (by rw[L];omega)|exact eF Om|exact kZ rfl|skip
  .have m:M-c.length=0\/b=true:=by
    rcases au c.length M with h|h
    .cases b with
     |false=>exact absurd ⟨h,rfl⟩ q
     |true=>exact .inr rfl
    .exact .inl Om
   rw[aqF m]at r;subst r;have w2:=fun e bx n' h hb=>zQD e bx n' h 1 B a b hb
   have hv:=JH ⟨p,s,c⟩ (by show c.length<=_;omega);have hf:Jo B p s (c,a,b)=if qD B a b=true/\vLl ⟨p,s,c⟩=0 then some ⟨p,s,c⟩else none:=rfl
   generalize qD B a b=D at *
   rcases(by
    rcases au c.length M with h|h
    .rcases m with h1|h1
     .omega
     .exact .inr ⟨h,h1⟩
    .exact .inl h:M<=c.length\/(c.length<M/\b=true))with k|⟨k,rfl⟩
   all_goals
    cases D
    .rw[jc (hf.trans (ag fun h=>nomatch h.1))]
     (repeat' first|refine wQ (Ac @iq j P) ?_|refine cZ (w2 _ _ _ _ rfl) ?_|refine tS ?_ ?_<;>intro k|fail)
     all_goals exact rE []
    .by_cases T:vLl ⟨p,s,c⟩=0
     .rw[xA (hf.trans (ah ⟨rfl,T⟩))]
      rw[T]at hv
      (repeat' first|refine wQ (Ac @iq j P) ?_|refine cZ (w2 _ _ _ _ rfl) ?_|refine cU hv ?_|refine tS ?_ ?_<;>intro k|fail)
      all_goals exact rE [0]
     .rw[jc (hf.trans (ag fun h=>T h.2))]
      generalize vLl ⟨p,s,c⟩=v at *
      (repeat' first|refine wQ (Ac @iq j P) ?_|refine cZ (w2 _ _ _ _ rfl) ?_|refine cU hv ?_|refine tS ?_ ?_<;>intro k|fail)
      all_goals exact rE []
theorem aqG{B:List Nat}(ho:oct B):∀(k:Nat) (c:List Int) (a:Nat) (b:Bool),(ul B k c a b).2.2=false->b=false/\∃xs:List Int,xs.length=k/\(ul B k c a b).1=c++xs/\B.drop a=xs.map u8i++B.drop (ul B k c a b).2.1:=by
 intro k
 induction k with
 |zero=>intro c a b h;exact⟨h,[],rfl,(gV _).symm,rfl⟩
 |succ k i =>
  intro c a b h
  cases b with
  |true=>cases h
  |false =>rw[Qq Om]at h⊢;obtain⟨h1,xs,h2,h3,h4⟩:=i _ _ _ h;obtain⟨_,h5⟩:=jw ho h1;have d:=A7 (B:=B) (a:=a) (bad:=false) (m:=65) dX;grind[ai,u8i]
def aqE{B:List Nat}(ho:oct B):∀(c acc:List Int) (a:Nat) (r:List Nat),B.drop a=c.map u8i++r->a<=B.length->(∀i,i<c.length->0<=c.getD i 0/\c.getD i 0<=65)->∃b,ul B c.length acc a false=(acc++c,b,false)/\B.drop b=r/\b<=B.length:=by
 intro c
 induction c with
 |nil=>intro acc a r h ha _;exact⟨a,by simp[ul],h,ha⟩
 |cons x c f =>
  intro acc a r h ha hx;have d:=hx 0 Aa;simp only[List.getD,vX,Gv]at d;have e:B.drop a=ai x.toNat++(c.map u8i++r):=by grind[ai,u8i]
  obtain⟨x1,y,g⟩:=jv (m:=65) e Om Om;obtain⟨b,h1,h2,h3⟩:=f (acc++[x]) (qA B a false 65) r y (jf ho ha) (fun i hi=>by have:=hx (i+1) (by simp;omega);simpa[List.getD]using this);grind[Qq,fO,Nat.add_sub_cancel,List.append_assoc]
def TI{l:List Nat}{x:Ll}(ho:oct l)(h:sO l=some x):l7 x=l:=by
 unfold sO at h;split at h
 .rename_i h1;unfold dLl at h;split at h
  .rename_i h2;unfold Jw at h;split at h
   .simp only[aO]at h;subst h;have c1:=BZ l ho h1.1;have c:=TL _ (eG ho (ak l).2.1) h2.1;unfold l7;simp only[fC];have b:(ivU ((l.drop (ak l).2.1).drop 8)).map u8i=(l.drop (ak l).2.1).drop 8:=by have a:=eG (eG ho (ak l).2.1) 8;generalize(l.drop (ak l).2.1).drop 8=R at *;unfold ivU;rw[zA];refine(kN (g:=id) fun y d => ?_).trans (List.map_id _);have:=a y d;show u8i ((y:Nat):Int)=y;unfold u8i;omega
    rw[b,bZ,<-c];exact c1.symm
   .cases h
  .cases h
 .cases h
def aeB{B:List Nat}{t:Ll}(ho:oct B)(h:Ei B=some t):(vLl t=0/\l7 t=B)/\0<=t.s/\t.s<18446744073709551616:=by
 simp only[Ei,fF,BC]at h;unfold Jo NJ at h;split at h
 .rename_i d;obtain⟨h1,h2⟩:=d;simp only[aO]at h;subst h;obtain⟨j,d2⟩:=FH h1;obtain⟨i,xs,f,b,c⟩:=aqG ho _ _ _ _ j;obtain⟨q,g⟩:=aaf ho i;obtain⟨k,p⟩:=jw ho q;refine⟨⟨h2,?_⟩,axi _,by have:=LM (B:=B) (a:=qA B 0 false 8) (bad:=qB B 0 false 8) ho;simp only;omega⟩;rw[d2,jM]at c;rw[g,c,lX]at p;unfold l7;simp only;rw[b];simp only[fC,iY];exact(p.trans (by simp only[bZ,gV])).symm
 .cases h
def aeA(B:List Nat)(ho:oct B):Ei B=sO B:=by
 refine Ff (fun t h => ?_) (fun t h => ?_)
 .obtain⟨⟨h1,h2⟩,a⟩:=aeB ho h;grind[aeC]
 .obtain⟨h1,a⟩:=Np ho h;have h2:=TI ho h;obtain⟨g,i2,b⟩:=Bz h1;obtain⟨p,s,r⟩:=t;simp only at g i2 b a;have c:B.drop 0=ai p.toNat++(eY s++(r.map u8i++[])):=by rw[<-h2];unfold l7;simp only[bZ,gV,lX]
  obtain⟨x1,y,f⟩:=jv (m:=8) c Om Om;obtain⟨x,y3,d⟩:=aae a y;have l:=LK (bad:=false) ho (jf (bad:=false) (m:=8) ho (ax B.length));obtain⟨n,k,y4,j⟩:=aqE ho r [] _ _ y3 l (fun i hi=>by have:=BM b hi;omega);simp only[Ei,fF,BC];rw[f,x1,x,d,<-i2,k];unfold Jo NJ;simp only[iY];rw[fO Om,fO a.1];exact ah ⟨FD y4 j,h1⟩
def Bc(B:List Nat)(a:Nat)(b:Bool):En:=(tqX B a b,((qX B (tqA B a b) (tqB B a b) 1099511627776:Nat):Int),((qX B (qA B (tqA B a b) (tqB B a b) 1099511627776) (qB B (tqA B a b) (tqB B a b) 1099511627776) 1099511627776:Nat):Int))
def Dx(B:List Nat)(a:Nat)(b:Bool):Nat:=qA B (qA B (tqA B a b) (tqB B a b) 1099511627776) (qB B (tqA B a b) (tqB B a b) 1099511627776) 1099511627776
def FK(B:List Nat)(a:Nat)(b:Bool):Bool:=qB B (qA B (tqA B a b) (tqB B a b) 1099511627776) (qB B (tqA B a b) (tqB B a b) 1099511627776) 1099511627776
def uo(B:List Nat):Nat->List En->Nat->Bool->List En×Nat×Bool
 |0,e,a,b=>(e,a,b)
 |k+1,e,a,b=>if b=true then(e,a,b)else uo B k (e++[Bc B a b]) (Dx B a b) (FK B a b)
def aqM{B:List Nat}{k:Nat}{e:List En}{a:Nat}{b:Bool}(h:k=0\/b=true):uo B k e a b=(e,a,b):=by
 cases k with
 |zero=>rfl
 |succ k=>exact ah (by rcases h with h|h;omega;exact h)
def Qs{B:List Nat}{k:Nat}{e:List En}{a:Nat}(h:k≠0):uo B k e a false=uo B (k-1) (e++[Bc B a false]) (Dx B a false) (FK B a false):=by
 cases k with
 |zero=>exact absurd rfl h
 |succ k=>exact ag gy
def Jq(B:List Nat)(z t:Nat)(f:Bool)(q:List En×Nat×Bool):Option Tp:=if qD B q.2.1 q.2.2=true/\vTp ⟨z,t,q.1,f⟩=0 then some ⟨z,t,q.1,f⟩else none
def Eo(B:List Nat):Option Tp:=fF B 0 false 32 fun z a b=>fF B a b 1099511627776 fun t a b=>fF B a b 1 fun f a b=>fF B a b 32 fun n a b=>Jq B z t (decide ((f:Int)=1)) (uo B n [] a b)
abbrev oTp(x:Tp):List V:=[vi x.z,vi x.t,.sl (.own 0 215) 3 (ev x.e),vb x.b]
def ahd(B:List Nat)(ho:oct B)(hl:B.length<=2147483648):Gxx 92 [fzb B] (oV tpF Tp.o (Eo B)):=by
 refine wZ (F':=oTp) (zs:=[vi 0,vi 0,.c (.slice none 0 0),vb false]) ?_ (fun _=>rfl) (fun _=>⟨aC _,aC _,trivial⟩) rfl ⟨.inr ⟨_,_,rfl,rfl,⟨.inl rfl,.inl rfl,jB _ _,.inl rfl,trivial⟩⟩,aC _,trivial⟩;simp only[Eo,fF];obtain⟨z,A1,b1,u,z1,a1,m1,k1⟩:=rdN B 0 false 32 ho hl (ax _);simp only[u];obtain⟨t,A2,b2,u,z2,a2,m2,k2⟩:=rdN B A1 b1 1099511627776 ho hl a1;simp only[u];obtain⟨fl,A3,b3,u,z3,a3,m3,k3⟩:=rdN B A2 b2 1 ho hl a2;simp only[u];obtain⟨N,A4,b4,u,z4,a4,m4,k4⟩:=rdN B A3 b3 32 ho hl a3;simp only[u];have G:((fl:Int) == 1)=decide ((fl:Int)=1):=rfl;obtain⟨f,hf⟩:∃f,f=decide ((fl:Int)=1):=⟨_,rfl⟩;rw[<-hf]at G⊢;obtain⟨F,hF⟩:∃F,F=uo B N [] A4 b4:=⟨_,rfl⟩;rw[<-hF];refine gI (zN mix) ?_;(repeat' first|refine wQ (aI @iq G) ?_|refine aU _ (z1 _ _ _ _ rfl Om) rfl ?_|refine aU _ (z2 _ _ _ _ rfl Om) rfl ?_|refine aU _ (z3 _ _ _ _ rfl Om) rfl ?_|refine aU _ (z4 _ _ _ _ rfl Om) rfl ?_|refine tS ?_ ?_<;>intro g|fail)
 refine aJ (fun x:List En×Nat×Bool=>mkA [(2,.ref 0 0),(4,.ref 1 0),(5,.ref 2 0),(6,vi N),(7,vi x.1.length)] [(0,(50,[vi 0,vi 0,.c (.slice none 0 0),vb false])),(1,(261,[fzb B,vi x.2.1,vb x.2.2])),(2,(50,[vi z,vi t,.sl (.own 0 215) 3 (ev x.1),vb f]))] 3 (fun _=>.top))
  (fun x=>uo B (N-x.1.length) x.1 x.2.1 x.2.2=F/\x.1.length<=N/\x.2.1<=B.length/\octE x.1) (fun x=>N-x.1.length) ([],A4,b4) [] [0,1,2] ?_ ⟨hF.symm,ax _,a4,tK⟩ ?_
 .exact kY
 .rintro⟨e,a,b⟩ ⟨n,i2,i3,i4⟩;simp only at n i2 i3 i4;have m:=bJ e;clear z1 z2 z3 z4;by_cases I:e.length<N/\b=false
  .obtain⟨I,rfl⟩:=I;rw[Qs Om]at n;unfold Bc Dx FK at n;obtain⟨x1,p1,c1,u,w1,r1,t1⟩:=rdT B a false ho hl i3;simp only[u]at n;obtain⟨x2,p2,c2,u,w2,r2,m2,_⟩:=rdN B p1 c1 1099511627776 ho hl r1;simp only[u]at n;obtain⟨K,Y,c3,u,w3,r3,m3,_⟩:=rdN B p2 c2 1099511627776 ho hl r2;simp only[u]at n;have T:=uO e x1 (x2:Nat) (K:Nat);have q8:=Kv i4 x1 (x2:Nat) (K:Nat) t1;obtain⟨y,hy⟩:∃y:En,y=(x1,((x2:Nat):Int),((K:Nat):Int)):=⟨_,rfl⟩;rw[<-hy]at T q8 n;have W:(e++[y]).length=e.length+1:=Aa;rw[show N-e.length-1=N-(e++[y]).length by rw[W];omega]at n;(repeat' first|refine wQ (aI @iq m) ?_|refine tS ?_ ?_<;>intro g|fail);obtain⟨B0,L,cc0,d0⟩:=bx0 (50,[vi 0,vi 0,.c (.slice none 0 0),vb false]) (261,[fzb B,vi a,vb false]) (50,[vi z,vi t,.sl (.own 0 215) 3 (ev e),vb f]);obtain⟨B1,M,cc1,d1⟩:=bxs B p1 c1 d0;obtain⟨B2,P,cc2,d2⟩:=bxs B p2 c2 d1;obtain⟨B3,Q,cc3,d3⟩:=bxs B Y c3 d2;obtain⟨j,c⟩:∃fB:(Nat->Bool)->BX,fB=fun S=>if S 7=true then B3 else if S 5=true then B2 else if S 3=true then B1 else B0:=⟨_,rfl⟩;obtain⟨C,d⟩:∃fB:(Nat->Bool)->Nat,fB=fun S=>if S 9=true then 4 else 3:=⟨_,rfl⟩;have R:∀S i,i≠3->i≠5->i≠7->j S=j (ins S i):=fun S i h3 h5 h7=>by rw[c];simp only[iy (jY h3),iy (jY h5),iy (jY h7)]
   have r:∀S i,i≠9->C S=C (ins S i):=fun S i h7=>by rw[d];simp only[iy (jY h7)]
   have U:∀S,j S 2=some (50,[vi z,vi t,.sl (.own 0 215) 3 (ev e),vb f]):=fun S=>by rw[c];show(if S 7=true then B3 else if S 5=true then B2 else if S 3=true then B1 else B0) 2=_;(repeat' split)<;>assumption
   have J:∀S,1<C S:=fun S=>by rw[d];simp only;split<;>omega
   have hnd:([33,34,35,36,37,38,39,40,41,42]:List Nat).Nodup:=dX;refine Ir mix 10 [(33,.ref 2 2),(34,.sl (.own 0 215) 3 (ev e)),(35,.ref 1 0),(36,vs x1),(37,.ref 1 0),(38,vi (x2:Nat)),(39,.ref 1 0),(40,vi (K:Nat)),(41,.agg [vs x1,vi (x2:Nat),vi (K:Nat)]),(42,.sl (.own 3 215) 3 [.agg [vs x1,vi (x2:Nat),vi (K:Nat)]])] j C (by rw[c];show B0=_;exact L) (by rw[d];rfl) dX dX dX ?_ ?_
   .intro S i o ho hi k he E;rcases(Om:i=0\/i=1\/i=2\/i=3\/i=4\/i=5\/i=6\/i=7\/i=8\/i=9)with rfl|rfl|rfl|rfl|rfl|rfl|rfl|rfl|rfl|rfl;all_goals(simp only[vX,zy,aO]at ho;subst ho)
    all_goals(have sf:=he;simp[edgesOf,Region.binds]at sf)
    all_goals try((repeat' first|refine wQ (Ae k @sf @bH @dA U) ?_|refine tS ?_ ?_<;>intro g|fail);exact ig _ rfl hnd (R S _ dX dX dX) (r S _ dX))
    .have s2:=he 2 dX
     have n5:S 5=false:=by
      cases h5:S 5 with
      |false=>rfl
      |true=>have:=E 5 _ rfl h5 3 dX;rw[k]at this;cases this
     have X:S 7=false:=by
      cases h5:S 7 with
      |false=>rfl
      |true=>have:=E 7 _ rfl h5 5 dX;rw[n5]at this;cases this
     have p:j S=B0:=by rw[c];simp only[k,n5,X];rfl
     have q:j (ins S 3)=B1:=by rw[c];simp only[ni,iy (show 5≠3 by decide),n5,iy (show 7≠3 by decide),X];rfl
     (repeat' first|refine wQ (Ae k @s2 p @bH @dA) ?_|refine tS ?_ ?_<;>intro g|fail);refine cZ (w1 _ _ _ _ cc0 (J S)) ?_ (by simp only[dm,dS,pgo,simprocAttr,s2,bH]);exact ig 3 rfl hnd (by rw[q,M]) (r S 3 dX)
    .have Z:=he 4 dX;have p2:=he 3 dX
     have X:S 7=false:=by
      cases h5:S 7 with
      |false=>rfl
      |true=>have:=E 7 _ rfl h5 5 dX;rw[k]at this;cases this
     have p:j S=B1:=by rw[c];simp only[k,X,p2];rfl
     have q:j (ins S 5)=B2:=by rw[c];simp only[ni,iy (show 7≠5 by decide),X];rfl
     (repeat' first|refine wQ (Ae k Z p @bH @dA) ?_|refine tS ?_ ?_<;>intro g|fail);refine cZ (w2 _ _ _ _ cc1 (J S)) ?_ (by simp only[dm,dS,pgo,simprocAttr,Z,bH]);exact ig 5 rfl hnd (by rw[q,P]) (r S 5 dX)
    .have s6:=he 6 dX;have Y:=he 5 dX;have p:j S=B2:=by rw[c];simp only[k,Y];rfl
     have q:j (ins S 7)=B3:=by rw[c];simp only[ni];rfl
     (repeat' first|refine wQ (Ae k @s6 p @bH @dA) ?_|refine tS ?_ ?_<;>intro g|fail);refine cZ (w3 _ _ _ _ cc2 (J S)) ?_ (by simp only[dm,dS,pgo,simprocAttr,s6,bH]);exact ig 7 rfl hnd (by rw[q,Q]) (r S 7 dX)
    .have s8:=he 8 dX;have p:C S=3:=by rw[d];simp only[k];rfl
     have q:C (ins S 9)=4:=by rw[d];simp only[ni];rfl
     (repeat' first|refine wQ (Ae k @s8 p @bH @dA) ?_|refine tS ?_ ?_<;>intro g|fail);exact ig 9 rfl hnd (R S 9 dX dX dX) q.symm
   .intro S l;have s1:=l 1 dX dX;have Z:=l 9 dX dX;have p:j S=B3:=by rw[c];simp only[l 7 dX dX];rfl
    have q:C S=4:=by rw[d];simp only[Z];rfl
    have s:=U S;rw[p]at s;rw[p,q,Q,P,M,L];simp only[IV,lX,dm,dS];(repeat' first|refine wQ (Ah @iq m T @s1 Z @bH @dA s) ?_|refine tS ?_ ?_<;>intro g|fail);refine dn (e++[y],Y,c3) [0] [0,1,2] ⟨n,by show(e++[y]).length<=N;omega,by show Y<=B.length;omega,q8⟩ (by show N-(e++[y]).length<N-e.length;omega) ?_;(refine kM ?_ ?_;(repeat'(first|exact ae|refine dQ _ _ rfl rfl ?_ ?_));all_goals(try simp only[pgm,simprocAttr]);all_goals(try(repeat' apply aI));all_goals(try exact gz));all_goals(try simp only[bH,dA,pgo,simprocAttr,ku,jS,nS])
    all_goals first|done|exact fE rfl rfl|exact eF (by rw[W];omega)|exact eF Om|exact kZ rfl|skip
  .have A:N-e.length=0\/b=true:=by
    rcases au e.length N with h|h
    .cases b with
     |false=>exact absurd ⟨h,rfl⟩ I
     |true=>exact .inr rfl
    .exact .inl Om
   rw[aqM A]at n;subst n;have w2:=fun e bx n' h hb=>zQD e bx n' h 1 B a b hb
   have hv:=JK ⟨z,t,e,f⟩ i4 (by show e.length<=_;omega);have H:Jq B z t f (e,a,b)=if qD B a b=true/\vTp ⟨z,t,e,f⟩=0 then some ⟨z,t,e,f⟩else none:=rfl
   clear hf G;generalize qD B a b=D at *
   rcases(by
    rcases au e.length N with h|h
    .rcases A with h1|h1
     .omega
     .exact .inr ⟨h,h1⟩
    .exact .inl h:N<=e.length\/(e.length<N/\b=true))with g|⟨g,rfl⟩
   all_goals
    cases D
    .rw[jc (H.trans (ag fun h=>nomatch h.1))]
     (repeat' first|refine wQ (aI @iq m) ?_|refine cZ (w2 _ _ _ _ rfl) ?_|refine tS ?_ ?_<;>intro g|fail)
     all_goals exact rE []
    .by_cases h0:vTp ⟨z,t,e,f⟩=0
     .rw[xA (H.trans (ah ⟨rfl,h0⟩))]
      rw[h0]at hv
      (repeat' first|refine wQ (aI @iq m) ?_|refine cZ (w2 _ _ _ _ rfl) ?_|refine cU hv ?_|refine tS ?_ ?_<;>intro g|fail)
      all_goals exact rE [0]
     .rw[jc (H.trans (ag fun h=>h0 h.2))]
      generalize vTp ⟨z,t,e,f⟩=v at *
      (repeat' first|refine wQ (aI @iq m) ?_|refine cZ (w2 _ _ _ _ rfl) ?_|refine cU hv ?_|refine tS ?_ ?_<;>intro g|fail)
      all_goals exact rE []
def aqN{B:List Nat}(ho:oct B):∀(k:Nat) (e:List En) (a:Nat) (b:Bool),(uo B k e a b).2.2=false->b=false/\∃xs:List En,xs.length=k/\(uo B k e a b).1=e++xs/\B.drop a=xs.flatMap eu++B.drop (uo B k e a b).2.1:=by
 intro k
 induction k with
 |zero=>intro e a b h;exact⟨h,[],rfl,(gV _).symm,rfl⟩
 |succ k i =>
  intro e a b h
  cases b with
  |true=>cases h
  |false =>
   rw[Qs Om,uC]at h⊢;obtain⟨h1,xs,h2,h3,h4⟩:=i _ _ _ h;have h5:B.drop a=eu (Bc B a false)++B.drop (Dx B a false):=by unfold FK at h1;unfold Bc Dx eu;simp only[fC,bZ];obtain⟨g,d⟩:=jw ho h1;obtain⟨f,c⟩:=jw ho g;grind[QS]
   refine⟨rfl,Bc B a false::xs,by simp[h2],by rw[h3];simp,?_⟩;simp_all
def aqL{B:List Nat}(ho:oct B):∀(l acc:List En) (a:Nat) (r:List Nat),B.drop a=l.flatMap eu++r->a<=B.length->(∀y∈l,y.1.length<=65536/\(0<=y.2.1/\y.2.1<=1099511627776)/\(0<=y.2.2/\y.2.2<=1099511627776))->∃b,uo B l.length acc a false=(acc++l,b,false)/\B.drop b=r/\b<=B.length:=by
 intro l
 induction l with
 |nil=>intro acc a r h ha _;exact⟨a,by simp[uo],h,ha⟩
 |cons y l q =>
  intro acc a r h ha hx;obtain⟨key,c,d⟩:=y;obtain⟨h1,h2,h3⟩:=hx _ (Aa:(key,c,d)∈(key,c,d)::l);simp only at h1 h2 h3;have e:B.drop a=bG key++(ai c.toNat++(ai d.toNat++(l.flatMap eu++r))):=by rw[h];simp[eu,bZ]
  obtain⟨x1,E,f⟩:=QR h1 e;obtain⟨x2,y2,g⟩:=jv (m:=1099511627776) E Om Om;obtain⟨C,y3,i⟩:=jv (m:=1099511627776) y2 Om Om;have v:=IJ (bad:=false) ho ha;have x:=jf (bad:=false) (m:=1099511627776) ho v;have A:=jf (bad:=false) (m:=1099511627776) ho x;have j:Bc B a false=(key,c,d):=by unfold Bc;rw[x1,f,x2,g,C,fO h2.1,fO h3.1]
  have k:Dx B a false=qA B (qA B (tqA B a false) false 1099511627776) false 1099511627776:=by unfold Dx;rw[f,g]
  have n:FK B a false=false:=by unfold FK;rw[f,g,i]
  obtain⟨b,s,t,u⟩:=q (acc++[(key,c,d)]) _ r y3 A (fun y p=>hx y (by simp[p]));refine⟨b,?_,t,u⟩;rw[dB,Qs Om,uC,j,k,n,s];simp[bZ]
def aeM{B:List Nat}{x:Tp}(ho:oct B)(h:Eo B=some x):vTp x=0/\jG x=B:=by
 simp only[Eo,fF]at h;unfold Jq at h;split at h
 .rename_i f;obtain⟨h1,h2⟩:=f;simp only[aO]at h;subst h;refine⟨h2,?_⟩;obtain⟨d,d2⟩:=FH h1;obtain⟨m,xs,a,b,c⟩:=aqN ho _ _ _ _ d;obtain⟨l,j⟩:=jw ho m;obtain⟨k,i⟩:=jw ho l;obtain⟨q,g⟩:=jw ho k;obtain⟨n,p⟩:=jw ho q;rw[d2,jM]at c;rw[g,i,j,c,lX]at p;unfold jG;simp only;rw[G6 (A7 dX),b];simp only[fC,iY,a];exact(p.trans (by simp only[bZ,gV])).symm
 .cases h
def aeL(B:List Nat)(ho:oct B):Eo B=wH B:=by
 refine Ff (fun x h => ?_) (fun x h => ?_)
 .obtain⟨h1,h2⟩:=aeM ho h;grind[aeN]
 .obtain⟨h1,h2⟩:=Nu h;obtain⟨n,i2,p,b⟩:=zo h1;obtain⟨z,t,e,f⟩:=x;simp only at n i2 p b;have a:=fun i (hi:i<e.length)=>CB (b i hi)
  have c:B.drop 0=ai z.toNat++(ai t.toNat++(ai (if f=true then 1 else 0:Nat)++(ai e.length++(e.flatMap eu++[])))):=by rw[<-h2];unfold jG;rw[wK];simp only[bZ,gV,lX]
  obtain⟨x1,A,d⟩:=jv (m:=32) c Om Om;obtain⟨x2,y2,g⟩:=jv (m:=1099511627776) A Om Om;obtain⟨s,y3,j⟩:=jv (m:=1) y2 (wM f) (by cases f<;>decide);obtain⟨u,y4,k⟩:=jv (m:=32) y3 Om Om;obtain⟨C,v,y9,r⟩:=aqL ho e [] _ _ y4 (jf (bad:=false) (m:=32) ho (jf (bad:=false) (m:=1) ho (jf (bad:=false) (m:=1099511627776) ho (jf (bad:=false) (m:=32) ho (ax B.length))))) (fun y l=>by obtain⟨i,hi,rfl⟩:=nz eD l;obtain⟨q,k2,E⟩:=a i hi;rw[ry]at q;exact⟨by omega,⟨by omega,by omega⟩,⟨by omega,by omega⟩⟩);simp only[Eo,fF];rw[d,g,j,x1,x2,s,u,k,v,wL];unfold Jq;simp only[iY];rw[fO Om,fO Om];exact ah ⟨FD y9 r,h1⟩
def Ba(B:List Nat)(a:Nat)(b:Bool):En:=(tqX B a b,((qX B (tqA B a b) (tqB B a b) 1099511627776:Nat):Int),0)
def Dv(B:List Nat)(a:Nat)(b:Bool):Nat:=qA B (tqA B a b) (tqB B a b) 1099511627776
def FI(B:List Nat)(a:Nat)(b:Bool):Bool:=qB B (tqA B a b) (tqB B a b) 1099511627776
def uk(B:List Nat):Nat->List En->Nat->Bool->List En×Nat×Bool
 |0,e,a,b=>(e,a,b)
 |k+1,e,a,b=>if b=true then(e,a,b)else uk B k (e++[Ba B a b]) (Dv B a b) (FI B a b)
def aqw{B:List Nat}{k:Nat}{e:List En}{a:Nat}{b:Bool}(h:k=0\/b=true):uk B k e a b=(e,a,b):=by
 cases k with
 |zero=>rfl
 |succ k=>exact ah (by rcases h with h|h;omega;exact h)
def Qo{B:List Nat}{k:Nat}{e:List En}{a:Nat}(h:k≠0):uk B k e a false=uk B (k-1) (e++[Ba B a false]) (Dv B a false) (FI B a false):=by
 cases k with
 |zero=>exact absurd rfl h
 |succ k=>exact ag gy
def Jn(B:List Nat)(z t lo:Nat)(f:Bool)(q:List En×Nat×Bool):Option Fq:=if qD B q.2.1 q.2.2=true/\vFq ⟨z,t,lo,q.1,f⟩=0 then some ⟨z,t,lo,q.1,f⟩else none
def Eh(B:List Nat):Option Fq:=fF B 0 false 32 fun z a b=>fF B a b 1099511627776 fun t a b=>fF B a b 1099511627776 fun lo a b=>fF B a b 1 fun f a b=>fF B a b 32 fun n a b=>Jn B z t lo (decide ((f:Int)=1)) (uk B n [] a b)
abbrev oFq(x:Fq):List V:=[vi x.z,vi x.t,vi x.l,.sl (.own 0 215) 3 (ev x.e),vb x.b]
def ag8(B:List Nat)(ho:oct B)(hl:B.length<=2147483648):Gxx 93 [fzb B] (oV fqF Fq.o (Eh B)):=by
 refine wZ (F':=oFq) (zs:=[vi 0,vi 0,vi 0,.c (.slice none 0 0),vb false]) ?_ (fun _=>rfl) (fun _=>⟨aC _,aC _,trivial⟩) rfl ⟨.inr ⟨_,_,rfl,rfl,⟨.inl rfl,.inl rfl,.inl rfl,jB _ _,.inl rfl,trivial⟩⟩,aC _,trivial⟩;simp only[Eh,fF];obtain⟨z,A1,b1,u,z1,a1,m1,k1⟩:=rdN B 0 false 32 ho hl (ax _);simp only[u];obtain⟨t,A2,b2,u,z2,a2,m2,k2⟩:=rdN B A1 b1 1099511627776 ho hl a1;simp only[u];obtain⟨lo,A3,b3,u,z3,a3,m3,k3⟩:=rdN B A2 b2 1099511627776 ho hl a2;simp only[u];obtain⟨fl,A4,b4,u,z4,a4,m4,k4⟩:=rdN B A3 b3 1 ho hl a3;simp only[u];obtain⟨N,A5,b5,u,z5,a5,m5,k5⟩:=rdN B A4 b4 32 ho hl a4;simp only[u];have E:((fl:Int) == 1)=decide ((fl:Int)=1):=rfl;obtain⟨f,hf⟩:∃f,f=decide ((fl:Int)=1):=⟨_,rfl⟩;rw[<-hf]at E⊢;obtain⟨F,hF⟩:∃F,F=uk B N [] A5 b5:=⟨_,rfl⟩;rw[<-hF];refine gI (zN mix) ?_;(repeat' first|refine wQ (aI @iq E) ?_|refine aU _ (z1 _ _ _ _ rfl Om) rfl ?_|refine aU _ (z2 _ _ _ _ rfl Om) rfl ?_|refine aU _ (z3 _ _ _ _ rfl Om) rfl ?_|refine aU _ (z4 _ _ _ _ rfl Om) rfl ?_|refine aU _ (z5 _ _ _ _ rfl Om) rfl ?_|refine tS ?_ ?_<;>intro j|fail)
 refine aJ (fun x:List En×Nat×Bool=>mkA [(2,.ref 0 0),(4,.ref 1 0),(5,.ref 2 0),(6,vi N),(7,vi x.1.length)] [(0,(52,[vi 0,vi 0,vi 0,.c (.slice none 0 0),vb false])),(1,(261,[fzb B,vi x.2.1,vb x.2.2])),(2,(52,[vi z,vi t,vi lo,.sl (.own 0 215) 3 (ev x.1),vb f]))] 3 (fun _=>.top))
  (fun x=>uk B (N-x.1.length) x.1 x.2.1 x.2.2=F/\x.1.length<=N/\x.2.1<=B.length/\octE x.1) (fun x=>N-x.1.length) ([],A5,b5) [] [0,1,2] ?_ ⟨hF.symm,ax _,a5,tK⟩ ?_
 .exact kY
 .rintro⟨e,a,b⟩ ⟨l,i2,i3,i4⟩;simp only at l i2 i3 i4;have k:=bJ e;clear z1 z2 z3 z4 z5;by_cases H:e.length<N/\b=false
  .obtain⟨H,rfl⟩:=H;rw[Qo Om]at l;unfold Ba Dv FI at l;obtain⟨x1,p1,c1,u,w1,r1,t1⟩:=rdT B a false ho hl i3;simp only[u]at l;obtain⟨x2,T,c2,u,W,r2,m2,_⟩:=rdN B p1 c1 1099511627776 ho hl r1;simp only[u]at l;have M:=uO e x1 (x2:Nat) 0;have q8:=Kv i4 x1 (x2:Nat) 0 t1;obtain⟨y,hy⟩:∃y:En,y=(x1,((x2:Nat):Int),0):=⟨_,rfl⟩;rw[<-hy]at M q8 l;have Q:(e++[y]).length=e.length+1:=Aa;rw[show N-e.length-1=N-(e++[y]).length by rw[Q];omega]at l;(repeat' first|refine wQ (aI @iq k) ?_|refine tS ?_ ?_<;>intro j|fail);obtain⟨B0,I,Z,d0⟩:=bx0 (52,[vi 0,vi 0,vi 0,.c (.slice none 0 0),vb false]) (261,[fzb B,vi a,vb false]) (52,[vi z,vi t,vi lo,.sl (.own 0 215) 3 (ev e),vb f]);obtain⟨X,J,cc1,d1⟩:=bxs B p1 c1 d0;obtain⟨Y,K,cc2,d2⟩:=bxs B T c2 d1;obtain⟨m,c⟩:∃fB:(Nat->Bool)->BX,fB=fun S=>if S 5=true then Y else if S 3=true then X else B0:=⟨_,rfl⟩;obtain⟨s,d⟩:∃fB:(Nat->Bool)->Nat,fB=fun S=>if S 7=true then 4 else 3:=⟨_,rfl⟩;have L:∀S i,i≠3->i≠5->m S=m (ins S i):=fun S i h3 h5=>by rw[c];simp only[iy (jY h3),iy (jY h5)]
   have C:∀S i,i≠7->s S=s (ins S i):=fun S i h7=>by rw[d];simp only[iy (jY h7)]
   have P:∀S,m S 2=some (52,[vi z,vi t,vi lo,.sl (.own 0 215) 3 (ev e),vb f]):=fun S=>by rw[c];show(if S 5=true then Y else if S 3=true then X else B0) 2=_;(repeat' split)<;>assumption
   have R:∀S,1<s S:=fun S=>by rw[d];simp only;split<;>omega
   have hnd:([35,36,37,38,39,40,41,42]:List Nat).Nodup:=dX;refine Ir mix 8 [(35,.ref 2 3),(36,.sl (.own 0 215) 3 (ev e)),(37,.ref 1 0),(38,vs x1),(39,.ref 1 0),(40,vi (x2:Nat)),(41,.agg [vs x1,vi (x2:Nat),vi 0]),(42,.sl (.own 3 215) 3 [.agg [vs x1,vi (x2:Nat),vi 0]])] m s (by rw[c];show B0=_;exact I) (by rw[d];rfl) dX dX dX ?_ ?_
   .intro S i o ho hi q he hcl;rcases(Om:i=0\/i=1\/i=2\/i=3\/i=4\/i=5\/i=6\/i=7)with rfl|rfl|rfl|rfl|rfl|rfl|rfl|rfl;all_goals(simp only[vX,zy,aO]at ho;subst ho)
    all_goals(have sf:=he;simp[edgesOf,Region.binds]at sf)
    all_goals try((repeat' first|refine wQ (Ae q @sf @bH @dA P) ?_|refine tS ?_ ?_<;>intro j|fail);exact ig _ rfl hnd (L S _ dX dX) (C S _ dX))
    .have s2:=he 2 dX
     have n5:S 5=false:=by
      cases h5:S 5 with
      |false=>rfl
      |true=>have:=hcl 5 _ rfl h5 3 dX;rw[q]at this;cases this
     have n:m S=B0:=by rw[c];simp only[q,n5];rfl
     have A:m (ins S 3)=X:=by rw[c];simp only[ni,iy (show 5≠3 by decide),n5];rfl
     (repeat' first|refine wQ (Ae q @s2 n @bH @dA) ?_|refine tS ?_ ?_<;>intro j|fail);refine cZ (w1 _ _ _ _ Z (R S)) ?_ (by simp only[dm,dS,pgo,simprocAttr,s2,bH]);exact ig 3 rfl hnd (by rw[A,J]) (C S 3 dX)
    .have U:=he 4 dX;have T:=he 3 dX;have n:m S=X:=by rw[c];simp only[q,T];rfl
     have A:m (ins S 5)=Y:=by rw[c];simp only[ni];rfl
     (repeat' first|refine wQ (Ae q U n @bH @dA) ?_|refine tS ?_ ?_<;>intro j|fail);refine cZ (W _ _ _ _ cc1 (R S)) ?_ (by simp only[dm,dS,pgo,simprocAttr,U,bH]);exact ig 5 rfl hnd (by rw[A,K]) (C S 5 dX)
    .have s6:=he 6 dX;have n:s S=3:=by rw[d];simp only[q];rfl
     have A:s (ins S 7)=4:=by rw[d];simp only[ni];rfl
     (repeat' first|refine wQ (Ae q @s6 n @bH @dA) ?_|refine tS ?_ ?_<;>intro j|fail);exact ig 7 rfl hnd (L S 7 dX dX) A.symm
   .intro S g;have s1:=g 1 dX dX;have U:=g 7 dX dX;have n:m S=Y:=by rw[c];simp only[g 5 dX dX];rfl
    have A:s S=4:=by rw[d];simp only[U];rfl
    have p:=P S;rw[n]at p;rw[n,A,K,J,I];simp only[IV,lX,dm,dS];(repeat' first|refine wQ (Ah @iq k M @s1 U @bH @dA p) ?_|refine tS ?_ ?_<;>intro j|fail);refine dn (e++[y],T,c2) [0] [0,1,2] ⟨l,by show(e++[y]).length<=N;omega,by show T<=B.length;omega,q8⟩ (by show N-(e++[y]).length<N-e.length;omega) ?_;(refine kM ?_ ?_;(repeat'(first|exact ae|refine dQ _ _ rfl rfl ?_ ?_));all_goals(try simp only[pgm,simprocAttr]);all_goals(try(repeat' apply aI));all_goals(try exact gz));all_goals(try simp only[bH,dA,pgo,simprocAttr,ku,jS,nS])
    all_goals first|done|exact fE rfl rfl|exact eF (by rw[Q];omega)|exact eF Om|exact kZ rfl|skip
  .have r:N-e.length=0\/b=true:=by
    rcases au e.length N with h|h
    .cases b with
     |false=>exact absurd ⟨h,rfl⟩ H
     |true=>exact .inr rfl
    .exact .inl Om
   rw[aqw r]at l;subst l;have W:=fun e bx n' h hb=>zQD e bx n' h 1 B a b hb
   have hv:=JG ⟨z,t,lo,e,f⟩ i4 (by show e.length<=_;omega);have G:Jn B z t lo f (e,a,b)=if qD B a b=true/\vFq ⟨z,t,lo,e,f⟩=0 then some ⟨z,t,lo,e,f⟩else none:=rfl
   clear hf E;generalize qD B a b=D at *
   rcases(by
    rcases au e.length N with h|h
    .rcases r with h1|h1
     .omega
     .exact .inr ⟨h,h1⟩
    .exact .inl h:N<=e.length\/(e.length<N/\b=true))with j|⟨j,rfl⟩
   all_goals
    cases D
    .rw[jc (G.trans (ag fun h=>nomatch h.1))]
     (repeat' first|refine wQ (aI @iq k) ?_|refine cZ (W _ _ _ _ rfl) ?_|refine tS ?_ ?_<;>intro j|fail)
     all_goals exact rE []
    .by_cases h0:vFq ⟨z,t,lo,e,f⟩=0
     .rw[xA (G.trans (ah ⟨rfl,h0⟩))]
      rw[h0]at hv
      (repeat' first|refine wQ (aI @iq k) ?_|refine cZ (W _ _ _ _ rfl) ?_|refine cU hv ?_|refine tS ?_ ?_<;>intro j|fail)
      all_goals exact rE [0]
     .rw[jc (G.trans (ag fun h=>h0 h.2))]
      generalize vFq ⟨z,t,lo,e,f⟩=v at *
      (repeat' first|refine wQ (aI @iq k) ?_|refine cZ (W _ _ _ _ rfl) ?_|refine cU hv ?_|refine tS ?_ ?_<;>intro j|fail)
      all_goals exact rE []
def aqx{B:List Nat}(ho:oct B):∀(k:Nat) (e:List En) (a:Nat) (b:Bool),(uk B k e a b).2.2=false->b=false/\∃xs:List En,xs.length=k/\(uk B k e a b).1=e++xs/\B.drop a=xs.flatMap eP++B.drop (uk B k e a b).2.1:=by
 intro k
 induction k with
 |zero=>intro e a b h;exact⟨h,[],rfl,(gV _).symm,rfl⟩
 |succ k i =>
  intro e a b h
  cases b with
  |true=>cases h
  |false =>
   rw[Qo Om,uC]at h⊢;obtain⟨h1,xs,h2,h3,h4⟩:=i _ _ _ h;have h5:B.drop a=eP (Ba B a false)++B.drop (Dv B a false):=by unfold FI at h1;unfold Ba Dv eP;grind[jw,QS]
   refine⟨rfl,Ba B a false::xs,by simp[h2],by rw[h3];simp,?_⟩;simp_all
def aqv{B:List Nat}(ho:oct B):∀(l acc:List En) (a:Nat) (r:List Nat),B.drop a=l.flatMap eP++r->a<=B.length->(∀y∈l,y.1.length<=65536/\(0<=y.2.1/\y.2.1<=1099511627776)/\y.2.2=0)->∃b,uk B l.length acc a false=(acc++l,b,false)/\B.drop b=r/\b<=B.length:=by
 intro l
 induction l with
 |nil=>intro acc a r h ha _;exact⟨a,by simp[uk],h,ha⟩
 |cons y l p =>
  intro acc a r h ha hx;obtain⟨key,c,d⟩:=y;obtain⟨h1,h2,h3⟩:=hx _ (Aa:(key,c,d)∈(key,c,d)::l);simp only at h1 h2 h3;subst h3;have e:B.drop a=bG key++(ai c.toNat++(l.flatMap eP++r)):=by rw[h];simp[eP,bZ]
  obtain⟨x1,x,f⟩:=QR h1 e;obtain⟨x2,y2,g⟩:=jv (m:=1099511627776) x Om Om;have u:=IJ (bad:=false) ho ha;have v:=jf (bad:=false) (m:=1099511627776) ho u;have i:Ba B a false=(key,c,0):=by unfold Ba;rw[x1,f,x2,fO h2.1]
  have j:Dv B a false=qA B (tqA B a false) false 1099511627776:=by unfold Dv;rw[f]
  have k:FI B a false=false:=by unfold FI;rw[f,g]
  obtain⟨b,q,s,t⟩:=p (acc++[(key,c,0)]) _ r y2 v (fun y n=>hx y (by simp[n]));refine⟨b,?_,s,t⟩;rw[dB,Qo Om,uC,i,j,k,q];simp[bZ]
def aey{B:List Nat}{x:Fq}(ho:oct B)(h:Eh B=some x):vFq x=0/\jE x=B:=by
 simp only[Eh,fF]at h;unfold Jn at h;split at h
 .rename_i f;obtain⟨h1,h2⟩:=f;simp only[aO]at h;subst h;refine⟨h2,?_⟩;obtain⟨d,d2⟩:=FH h1;obtain⟨r,xs,a,b,c⟩:=aqx ho _ _ _ _ d;obtain⟨n,k⟩:=jw ho r;obtain⟨m,j⟩:=jw ho n;obtain⟨l,i⟩:=jw ho m;obtain⟨q,g⟩:=jw ho l;obtain⟨s,p⟩:=jw ho q;rw[d2,jM]at c;rw[g,i,j,k,c,lX]at p;unfold jE;simp only;rw[G6 (A7 dX),b];simp only[fC,iY,a];exact(p.trans (by simp only[bZ,gV])).symm
 .cases h
def aex(B:List Nat)(ho:oct B):Eh B=wE B:=by
 refine Ff (fun x h => ?_) (fun x h => ?_)
 .obtain⟨h1,h2⟩:=aey ho h;grind[aez]
 .obtain⟨h1,h2⟩:=Nl h;obtain⟨q,i2,b,r,c⟩:=zl h1;obtain⟨z,t,lo,e,f⟩:=x;simp only at q i2 r c b;have a:=fun i (hi:i<e.length)=>Cj (c i hi)
  have d:B.drop 0=ai z.toNat++(ai t.toNat++(ai lo.toNat++(ai (if f=true then 1 else 0:Nat)++(ai e.length++(e.flatMap eP++[]))))):=by rw[<-h2];unfold jE;rw[wK];simp only[bZ,gV,lX]
  obtain⟨x1,G,g⟩:=jv (m:=32) d Om Om;obtain⟨x2,y2,j⟩:=jv (m:=1099511627776) G Om Om;obtain⟨A,y3,k⟩:=jv (m:=1099511627776) y2 Om Om;obtain⟨C,y4,l⟩:=jv (m:=1) y3 (wM f) (by cases f<;>decide);obtain⟨E,y5,n⟩:=jv (m:=32) y4 Om Om;obtain⟨H,F,y9,v⟩:=aqv ho e [] _ _ y5 (jf (bad:=false) (m:=32) ho (jf (bad:=false) (m:=1) ho (jf (bad:=false) (m:=1099511627776) ho (jf (bad:=false) (m:=1099511627776) ho (jf (bad:=false) (m:=32) ho (ax B.length)))))) (fun y p=>by obtain⟨i,hi,rfl⟩:=nz eD p;obtain⟨s,k2,u⟩:=a i hi;rw[ry]at s;exact⟨by omega,⟨by omega,by omega⟩,u⟩);simp only[Eh,fF];rw[g,j,k,l,x1,x2,A,C,E,n,F,wL];unfold Jn;simp only[iY];rw[fO Om,fO Om,fO Om];exact ah ⟨FD y9 v,h1⟩
def vC(B:List Nat):Nat->List (List Nat)->Nat->Bool->List (List Nat)×Nat×Bool
 |0,c,a,b=>(c,a,b)
 |k+1,c,a,b=>if b=true then(c,a,b)else vC B k (c++[tqX B a b]) (tqA B a b) (tqB B a b)
def aqA{B:List Nat}{k:Nat}{c:List (List Nat)}{a:Nat}{b:Bool}(h:k=0\/b=true):vC B k c a b=(c,a,b):=by
 cases k with
 |zero=>rfl
 |succ k=>exact ah (by rcases h with h|h;omega;exact h)
def Qp{B:List Nat}{k:Nat}{b:List (List Nat)}{a:Nat}(h:k≠0):vC B k b a false=vC B (k-1) (b++[tqX B a false]) (tqA B a false) (tqB B a false):=by
 cases k with
 |zero=>exact absurd rfl h
 |succ k=>exact ag gy
def rD(B:List Nat)(a:Nat)(b:Bool):List (List Nat)×Nat×Bool:=vC B (qX B a b 32) [] (qA B a b 32) (qB B a b 32)
def um(B:List Nat):Nat->List (List (List Nat))->Nat->Bool->List (List (List Nat))×Nat×Bool
 |0,v,a,b=>(v,a,b)
 |k+1,v,a,b=>if b=true then(v,a,b)else um B k (v++[(rD B a b).1]) (rD B a b).2.1 (rD B a b).2.2
def aqI{B:List Nat}{k:Nat}{v:List (List (List Nat))}{a:Nat}{b:Bool}(h:k=0\/b=true):um B k v a b=(v,a,b):=by
 cases k with
 |zero=>rfl
 |succ k=>exact ah (by rcases h with h|h;omega;exact h)
def Qr{B:List Nat}{k:Nat}{v:List (List (List Nat))}{a:Nat}(h:k≠0):um B k v a false=um B (k-1) (v++[(rD B a false).1]) (rD B a false).2.1 (rD B a false).2.2:=by
 cases k with
 |zero=>exact absurd rfl h
 |succ k=>exact ag gy
def Jp(B:List Nat)(z t lo:Nat)(f:Bool)(q:List (List (List Nat))×Nat×Bool):Option Rk:=if qD B q.2.1 q.2.2=true/\vRk ⟨z,t,lo,q.1,f⟩=0 then some ⟨z,t,lo,q.1,f⟩else none
def Ej(B:List Nat):Option Rk:=fF B 0 false 32 fun z a b=>fF B a b 1099511627776 fun t a b=>fF B a b 1099511627776 fun lo a b=>fF B a b 1 fun f a b=>fF B a b 41 fun n a b=>Jp B z t lo (decide ((f:Int)=1)) (um B n [] a b)
abbrev oRk(x:Rk):List V:=[vi x.z,vi x.t,vi x.l,.sl (.own 0 66) 1 (lv x.v),vb x.b]
def aha(B:List Nat)(ho:oct B)(hl:B.length<=2147483648):Gxx 94 [fzb B] (oV rkF Rk.o (Ej B)):=by
 refine wZ (F':=oRk) (zs:=[vi 0,vi 0,vi 0,.c (.slice none 0 0),vb false]) ?_ (fun _=>rfl) (fun _=>⟨aC _,aC _,trivial⟩) rfl ⟨.inr ⟨_,_,rfl,rfl,⟨.inl rfl,.inl rfl,.inl rfl,jB _ _,.inl rfl,trivial⟩⟩,aC _,trivial⟩;simp only[Ej,fF];obtain⟨z,A1,b1,u,z1,a1,m1,k1⟩:=rdN B 0 false 32 ho hl (ax _);simp only[u];obtain⟨t,A2,q,u,z2,g,m2,k2⟩:=rdN B A1 b1 1099511627776 ho hl a1;simp only[u];obtain⟨lo,A3,b3,u,z3,a3,m3,k3⟩:=rdN B A2 q 1099511627776 ho hl g;simp only[u];obtain⟨fl,A4,b4,u,z4,a4,m4,k4⟩:=rdN B A3 b3 1 ho hl a3;simp only[u];obtain⟨N,A5,b5,u,z5,a5,m5,k5⟩:=rdN B A4 b4 41 ho hl a4;simp only[u];have s:((fl:Int) == 1)=decide ((fl:Int)=1):=rfl;obtain⟨f,hf⟩:∃f,f=decide ((fl:Int)=1):=⟨_,rfl⟩;rw[<-hf]at s⊢;obtain⟨F,hF⟩:∃F,F=um B N [] A5 b5:=⟨_,rfl⟩;rw[<-hF];refine gI oW ?_;(repeat' first|refine wQ s ?_|refine aU _ (z1 _ _ _ _ rfl Om) rfl ?_|refine aU _ (z2 _ _ _ _ rfl Om) rfl ?_|refine aU _ (z3 _ _ _ _ rfl Om) rfl ?_|refine aU _ (z4 _ _ _ _ rfl Om) rfl ?_|refine aU _ (z5 _ _ _ _ rfl Om) rfl ?_|refine tS ?_ ?_<;>intro p|fail)
 refine aJ (fun x:List (List (List Nat))×Nat×Bool=>mkA [(2,.ref 0 0),(4,.ref 1 0),(5,.ref 2 0),(6,vi N),(7,vi x.1.length)] [(0,(55,[vi 0,vi 0,vi 0,.c (.slice none 0 0),vb false])),(1,(261,[fzb B,vi x.2.1,vb x.2.2])),(2,(55,[vi z,vi t,vi lo,.sl (.own 0 66) 1 (lv x.1),vb f]))] 3 (fun _=>.top))
  (fun x=>um B (N-x.1.length) x.1 x.2.1 x.2.2=F/\x.1.length<=N/\x.2.1<=B.length/\(∀l∈x.1,octL l)/\∀l∈x.1,l.length<=1000000) (fun x=>N-x.1.length) ([],A5,b5) [] [0,1,2] ?_ ⟨hF.symm,ax _,a5,fun x hx=>(by cases hx),fun x hx=>by cases hx⟩ ?_
 .exact kY
 .rintro⟨v,a,b⟩ ⟨n,i2,U,W,Y⟩;simp only at n i2 U W Y;have i:=kF v;clear z1 z2 z3 z4 z5;by_cases C:v.length<N/\b=false
  .obtain⟨g1,rfl⟩:=C;rw[Qr Om]at n;have w1:=fun e bx n' h hb r=>zQN e bx n' h 1 B a false 32 ho hl U hb r
   have q2:=jf (B:=B) (a:=a) (bad:=false) (m:=32) ho U;have q3:=A7 (B:=B) (a:=a) (bad:=false) (m:=32) dX;obtain⟨G,S⟩:∃G,G=rD B a false:=⟨_,rfl⟩;rw[<-S]at n;unfold rD at S;(repeat' first|refine wQ i ?_|refine aU _ (w1 _ _ _ _ rfl Om) rfl ?_|refine tS ?_ ?_<;>intro p|fail);generalize qX B a false 32=K at *;generalize qA B a false 32=p1 at *;generalize qB B a false 32=c1 at *
   refine aJ (fun x:List (List Nat)×Nat×Bool=>mkA [(2,.ref 0 0),(4,.ref 1 0),(5,.ref 2 0),(6,vi N),(7,vi v.length),(8,vi K),(9,.sl (.own 1 9) 1 (sv x.1)),(10,vi x.1.length)] [(0,(55,[vi 0,vi 0,vi 0,.c (.slice none 0 0),vb false])),(1,(261,[fzb B,vi x.2.1,vb x.2.2])),(2,(55,[vi z,vi t,vi lo,.sl (.own 0 66) 1 (lv v),vb f]))] 3 (fun _=>.top))
    (fun x=>vC B (K-x.1.length) x.1 x.2.1 x.2.2=G/\x.1.length<=K/\x.2.1<=B.length/\octL x.1) (fun x=>K-x.1.length) ([],p1,c1) [0] [0,1,2] ?_ ⟨S.symm,ax _,q2,fun x hx=>by cases hx⟩ ?_
   .exact kY
   .rintro⟨k,g,q⟩ ⟨A,j2,I,Z⟩;simp only at A j2 I Z;have E:=jA k;by_cases hk:k.length<K/\q=false
    .obtain⟨hk1,rfl⟩:=hk;rw[Qp Om]at A;have L:=fun e bx n' h hb r=>zQT e bx n' h 1 B g false ho hl I hb r
     have r1:=IJ (B:=B) (a:=g) (bad:=false) ho I;obtain⟨r4,_⟩:=Zw (B:=B) (a:=g) (bad:=false) ho;have j:=Zm k [tqX B g false];have T:sv [tqX B g false]=[vs (tqX B g false)]:=rfl;rw[T]at j;have M:=Xl Z r4;have J:(k++[tqX B g false]).length=k.length+1:=Aa;generalize tqX B g false=X at *;generalize tqA B g false=P at *;generalize tqB B g false=Q at *;rw[show K-k.length-1=K-(k++[X]).length by rw[J];omega]at A;(repeat' first|refine wQ (Ac i E j) ?_|refine aU _ (L _ _ _ _ rfl Om) rfl ?_|refine tS ?_ ?_<;>intro p|fail);refine dn (k++[X],P,Q) [0,1] [0,1,2] ⟨A,by show(k++[X]).length<=K;omega,r1,M⟩ (by show K-(k++[X]).length<K-k.length;omega) ?_;(refine kM ?_ ?_;(repeat'(first|exact ae|refine dQ _ _ rfl rfl ?_ ?_));all_goals(try simp only[pgm,simprocAttr]);all_goals(try(repeat' apply aI));all_goals(try exact gz));all_goals first|exact fE rfl rfl|exact eF (by rw[J];omega)|exact eF Om|exact kZ rfl|skip
    .have d:K-k.length=0\/q=true:=by
      rcases au k.length K with h|h
      .cases q with
       |false=>exact absurd ⟨h,rfl⟩ hk
       |true=>exact .inr rfl
      .exact .inl Om
     rw[aqA d]at A;subst A;simp only at n;have H:(v++[k]).length=v.length+1:=Aa;rw[show N-v.length-1=N-(v++[k]).length by rw[H];omega]at n;have j:=CY v k;have M:=Xm W Z
     have J:∀l∈v++[k],l.length<=1000000:=by
      intro x hx;rcases iG.1 hx with hx|hx
      .exact Y x hx
      .simp only[jX]at hx;subst hx;omega
     rcases(by
      rcases au k.length K with h|h
      .rcases d with h1|h1
       .omega
       .exact .inr ⟨h,h1⟩
      .exact .inl h:K<=k.length\/(k.length<K/\q=true))with c|⟨c,rfl⟩
     all_goals
      (repeat' first|refine wQ (A8 i E j @id_eq.{1} @yl @dM @uF @oq @zD.{0,0}) ?_|refine tS ?_ ?_<;>intro p|fail)
      first
       |refine dn (v++[k],g,q) [0] [0,1,2] ⟨n,by show(v++[k]).length<=N;omega,I,M,J⟩ (by show N-(v++[k]).length<N-v.length;omega) ?_
       |refine dn (v++[k],g,true) [0] [0,1,2] ⟨n,by show(v++[k]).length<=N;omega,I,M,J⟩ (by show N-(v++[k]).length<N-v.length;omega) ?_
      (refine kM ?_ ?_;(repeat'(first|exact ae|refine dQ _ _ rfl rfl ?_ ?_));all_goals(try simp only[pgm,simprocAttr]);all_goals(try(repeat' apply aI));all_goals(try exact gz))
      all_goals first|exact fE rfl rfl|exact eF (by rw[H];omega)|exact eF Om|exact kZ rfl|skip
  .have d:N-v.length=0\/b=true:=by
    rcases au v.length N with h|h
    .cases b with
     |false=>exact absurd ⟨h,rfl⟩ C
     |true=>exact .inr rfl
    .exact .inl Om
   rw[aqI d]at n;subst n;have L:=fun e bx n' h hb=>zQD e bx n' h 1 B a b hb
   have hv:=JI ⟨z,t,lo,v,f⟩ W (by show v.length<=_;omega) Y;have y:Jp B z t lo f (v,a,b)=if qD B a b=true/\vRk ⟨z,t,lo,v,f⟩=0 then some ⟨z,t,lo,v,f⟩else none:=rfl
   clear hf s;generalize qD B a b=D at *
   rcases(by
    rcases au v.length N with h|h
    .rcases d with h1|h1
     .omega
     .exact .inr ⟨h,h1⟩
    .exact .inl h:N<=v.length\/(v.length<N/\b=true))with p|⟨p,rfl⟩
   all_goals
    cases D
    .rw[jc (y.trans (ag fun h=>nomatch h.1))]
     (repeat' first|refine wQ i ?_|refine cZ (L _ _ _ _ rfl) ?_|refine tS ?_ ?_<;>intro p|fail)
     all_goals exact rE []
    .by_cases R:vRk ⟨z,t,lo,v,f⟩=0
     .rw[xA (y.trans (ah ⟨rfl,R⟩))]
      rw[R]at hv
      (repeat' first|refine wQ i ?_|refine cZ (L _ _ _ _ rfl) ?_|refine cU hv ?_|refine tS ?_ ?_<;>intro p|fail)
      all_goals exact rE [0]
     .rw[jc (y.trans (ag fun h=>R h.2))]
      generalize vRk ⟨z,t,lo,v,f⟩=vv at *
      (repeat' first|refine wQ i ?_|refine cZ (L _ _ _ _ rfl) ?_|refine cU hv ?_|refine tS ?_ ?_<;>intro p|fail)
      all_goals exact rE []
theorem aqB{B:List Nat}(ho:oct B):∀(k:Nat) (c:List (List Nat)) (a:Nat) (b:Bool),(vC B k c a b).2.2=false->b=false/\∃xs:List (List Nat),xs.length=k/\(vC B k c a b).1=c++xs/\B.drop a=xs.flatMap bG++B.drop (vC B k c a b).2.1:=by
 intro k
 induction k with
 |zero=>intro c a b h;exact⟨h,[],rfl,(gV _).symm,rfl⟩
 |succ k i =>
  intro c a b h
  cases b with
  |true=>cases h
  |false =>rw[Qp Om]at h⊢;obtain⟨h1,xs,h2,h3,h4⟩:=i _ _ _ h;grind[QS]
theorem aqJ{B:List Nat}(ho:oct B):∀(k:Nat) (v:List (List (List Nat))) (a:Nat) (b:Bool),(um B k v a b).2.2=false->b=false/\∃xs:List (List (List Nat)),xs.length=k/\(um B k v a b).1=v++xs/\B.drop a=xs.flatMap dW++B.drop (um B k v a b).2.1:=by
 intro k
 induction k with
 |zero=>intro v a b h;exact⟨h,[],rfl,(gV _).symm,rfl⟩
 |succ k i =>
  intro v a b h
  cases b with
  |true=>cases h
  |false =>
   rw[Qr Om]at h⊢;obtain⟨h1,xs,h2,h3,h4⟩:=i _ _ _ h;have h5:B.drop a=dW (rD B a false).1++B.drop (rD B a false).2.1:=by unfold rD at h1⊢;obtain⟨g,ys,c,d,g4⟩:=aqB ho _ _ _ _ h1;obtain⟨_,f⟩:=jw ho g;simp_all[dW]
   grind
def aqz{B:List Nat}(ho:oct B):∀(l acc:List (List Nat)) (a:Nat) (r:List Nat),B.drop a=l.flatMap bG++r->a<=B.length->(∀k∈l,k.length<=65536)->∃b,vC B l.length acc a false=(acc++l,b,false)/\B.drop b=r/\b<=B.length:=by
 intro l
 induction l with
 |nil=>intro acc a r h ha _;exact⟨a,by simp[vC],h,ha⟩
 |cons y l i =>
  intro acc a r h ha hx;have e:B.drop a=bG y++(l.flatMap bG++r):=by rw[h];simp[bZ]
  obtain⟨x1,m,f⟩:=QR (hx y Aa) e;obtain⟨b,j,d,g⟩:=i (acc++[y]) _ r m (IJ ho ha) (fun y c=>hx y (by simp[c]));refine⟨b,?_,d,g⟩;rw[dB,Qp Om,uC,x1,f,j];simp[bZ]
def aqH{B:List Nat}(ho:oct B):∀(v acc:List (List (List Nat))) (a:Nat) (r:List Nat),B.drop a=v.flatMap dW++r->a<=B.length->(∀l∈v,l.length<=32/\∀x∈l,x.length<=65536)->∃b,um B v.length acc a false=(acc++v,b,false)/\B.drop b=r/\b<=B.length:=by
 intro v
 induction v with
 |nil=>intro acc a r h ha _;exact⟨a,by simp[um],h,ha⟩
 |cons y v i =>
  intro acc a r h ha hx;obtain⟨h1,h2⟩:=hx y Aa;have e:B.drop a=ai y.length++(y.flatMap bG++(v.flatMap dW++r)):=by rw[h];simp[dW]
  obtain⟨x1,n,f⟩:=jv (m:=32) e Om Om;obtain⟨c,k,k2,j⟩:=aqz ho y [] _ _ n (jf ho ha) h2;have g:rD B a false=(y,c,false):=by unfold rD;rw[x1,f,k];rfl
  obtain⟨b,p,q,s⟩:=i (acc++[y]) _ r k2 j (fun y d=>hx y (by simp[d]));simp_all[Qr]
def aeF{B:List Nat}{x:Rk}(ho:oct B)(h:Ej B=some x):vRk x=0/\jF x=B:=by
 simp only[Ej,fF]at h;unfold Jp at h;split at h
 .rename_i f;obtain⟨h1,h2⟩:=f;simp only[aO]at h;subst h;refine⟨h2,?_⟩;obtain⟨d,d2⟩:=FH h1;obtain⟨r,xs,a,b,c⟩:=aqJ ho _ _ _ _ d;obtain⟨n,k⟩:=jw ho r;obtain⟨m,j⟩:=jw ho n;obtain⟨l,i⟩:=jw ho m;obtain⟨q,g⟩:=jw ho l;obtain⟨s,p⟩:=jw ho q;rw[d2,jM]at c;rw[g,i,j,k,c,lX]at p;unfold jF;simp only;rw[G6 (A7 dX),b];simp only[fC,iY,a];exact(p.trans (by simp only[bZ,gV])).symm
 .cases h
def aeE(B:List Nat)(ho:oct B):Ej B=wF B:=by
 refine Ff (fun x h => ?_) (fun x h => ?_)
 .obtain⟨h1,h2⟩:=aeF ho h;grind[aeG]
 .obtain⟨h1,h2⟩:=Ns h;have a:=IK h1;obtain⟨u,i2,b,A,c⟩:=zn h1;obtain⟨z,t,lo,v,f⟩:=x;simp only at u i2 A c b a;have d:B.drop 0=ai z.toNat++(ai t.toNat++(ai lo.toNat++(ai (if f=true then 1 else 0:Nat)++(ai v.length++(v.flatMap dW++[]))))):=by rw[<-h2];unfold jF;rw[wK];simp only[bZ,gV,lX]
  obtain⟨x1,I,j⟩:=jv (m:=32) d Om Om;obtain⟨x2,y2,l⟩:=jv (m:=1099511627776) I Om Om;obtain⟨E,y3,n⟩:=jv (m:=1099511627776) y2 Om Om;obtain⟨F,y4,p⟩:=jv (m:=1) y3 (wM f) (by cases f<;>decide);obtain⟨G,y5,q⟩:=jv (m:=41) y4 Om Om;obtain⟨J,H,y9,C⟩:=aqH ho v [] _ _ y5 (jf (bad:=false) (m:=41) ho (jf (bad:=false) (m:=1) ho (jf (bad:=false) (m:=1099511627776) ho (jf (bad:=false) (m:=1099511627776) ho (jf (bad:=false) (m:=32) ho (ax B.length)))))) (fun y s=>by obtain⟨i,hi,he⟩:=nz [] s;have r:=c i;have g:=a i hi;rw[he]at r g;exact⟨by omega,fun k hk=>by have:=g k hk;omega⟩);simp only[Ej,fF];rw[j,l,n,p,x1,x2,E,F,G,q,H,wL];unfold Jp;simp only[iY];rw[fO Om,fO Om,fO Om];exact ah ⟨FD y9 C,h1⟩
end Go.Proofs.YtopbmdnbdpjheaaGreat
