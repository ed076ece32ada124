/-
  Merged texts.
-/
import Derived.Test.YtopbmdnbdpjheaaGreatKAC
import Derived.Test.YtopbmdnbdpjheaaGreatWAK
import Derived.Test.YtopbmdnbdpjheaaGreatKAB
set_option linter.all false
set_option linter.unusedVariables false
set_option linter.unusedSimpArgs false
set_option linter.unusedSectionVars false
set_option linter.defProp false
set_option maxRecDepth 100000
set_option maxHeartbeats 8000000
namespace Go.Proofs.YtopbmdnbdpjheaaGreat
open Go Go.Pg
def ahy(t:Nat)(b:List Nat)(q:t<256)(ho:oct b)(hl:b.length<=1048576):Gxx 55 [.c (.int .u8 (t:Nat)),fzb b] (.tup [ob 0 (jR t b),vi 0]):=by
 have h1:=JE b.length Om;have r:=bP b.length;have g:=aA (ai b.length);have f:=aA b;have j:oct (bK t b):=bT (Ie q (dI _)) ho;have p:(bK t b).length=1+(ai b.length).length+b.length:=by unfold bK;simp only[aN,dB];omega
 have h2:=U3 (bK t b) j Om;have i:=Ec (bK t b);have d:=MZ _ i;have a:=MX (ckN (bK t b));have l:=ck8 (ckN (bK t b));have k:=ck0 (ckN (bK t b));have n:V.c (.int .u8 (t:Int))::(bv (ai b.length)++bv b)=bv (bK t b):=by unfold bK;rw[mO,<-bvC,<-dE]
 have m:jR t b=bK t b++[ckN (bK t b) / 16777216,ckN (bK t b) / 65536%256,ckN (bK t b) / 256%256,ckN (bK t b)%256]:=rfl;rw[m];have h:=aA (bK t b);generalize bK t b=F at *;generalize ckN F=c at *;refine gI oW ?_;(repeat' first|refine wP (A8 g f h n d a l k (aI @mO.{0} @iY.{0})) (aI h1 h2) ?_|refine tS ?_ ?_<;>intro s|fail);all_goals(refine rT [0] ?_;first|rfl|simp only[pgo,simprocAttr]|skip)
 all_goals(rw[bv4,dE];rfl)
def unO(l:List Nat):V:=if unE l≠0 then nO (unE l)else .tup [.c (.int .u8 (l.getD 0 0:Nat)),ob 0 (unB l),vi (unU l+4:Nat),vi 0]
theorem adG(F:List Nat):(ckB F).length=4:=rfl
def Tn(l:List Nat)(e:Nat)(ho:oct l)(h:e+4<=l.length):acc (ft l e)=ckN (l.take e)↔ft l e=ckB (l.take e):=by
 constructor
 .have h2:=MF (ft l e) (NU ho e) 4 (Jy h);grind[MF,ckB,Tm,Tj]
 .grind[Tj]
def UN(l:List Nat)(e j:Nat)(hj:j<4):(ft l e).getD j 0=l.getD (e+j) 0:=by grind[ft]
def alm{a b:List Nat}(ha:a.length=4)(hb:b.length=4)(h:∀j,j<4->a.getD j 0=b.getD j 0):a=b:=by
 apply IW;intro j;rcases au j 4 with h1|h1
 .grind
 .grind
def aia(l:List Nat)(ho:oct l)(hl:l.length<=2147483648):Gxx 87 [fzb l] (unO l):=by
 have b:=aA l;rcases gG l.length with J|J
 .have e:unE l=3:=by unfold unE;rw[ah J]
  have K:unO l=nO 3:=by unfold unO;rw[e];rfl
  rw[K];refine gI oW ?_;exact wR b ae ay
 have s:=JA (l.drop 1) (eG ho 1) (by simp;omega);obtain⟨x1,x2⟩:=Nq (l.drop 1) (eG ho 1);have k:=BZ (l.drop 1) (eG ho 1);have n:=Nr (l.drop 1) (eG ho 1);have hlim:=(lS (l.drop 1) (eG ho 1)).2.1;unfold lU at s;have I:=iR l 1;have H:=lY l 0 J
 have d:unE l=if(ak (l.drop 1)).2.2≠0 then(ak (l.drop 1)).2.2 else if 1048576<(ak (l.drop 1)).1 then 2 else if l.length<1+(ak (l.drop 1)).2.1+(ak (l.drop 1)).1+4 then 3 else
   if acc (ft l (1+(ak (l.drop 1)).2.1+(ak (l.drop 1)).1))≠ckN (l.take (1+(ak (l.drop 1)).2.1+(ak (l.drop 1)).1))then 4 else 0:=ag Om
 have g:unU l=1+(ak (l.drop 1)).2.1+(ak (l.drop 1)).1:=rfl;have p:unB l=(l.take (unU l)).drop (1+(ak (l.drop 1)).2.1):=rfl;have f:unO l=if unE l≠0 then nO (unE l)else .tup [.c (.int .u8 (l.getD 0 0:Nat)),ob 0 (unB l),vi (unU l+4:Nat),vi 0]:=rfl
 generalize unO l=O,unE l=EE,unB l=c,unU l=U,ak (l.drop 1)=q at *;obtain⟨x,u,e⟩:=q;simp only at *;by_cases he:e=0
 case neg =>
  rw[ah he]at d
  rw[f,d,ah he]
  refine gI oW ?_
  exact wR (Ac @pgv b I) s ay
 case pos =>
  subst he
  rw[ag Aa]at d
  rcases au 1048576 x with h1|h1
  .rw[ah h1]at d
   rw[f,d]
   refine gI oW ?_
   exact wR (Ac @pgv b I) s ay
  rw[ag (show ¬1048576<x by omega)]at d
  rcases au l.length (1+u+x+4)with h2|h2
  .rw[ah h2]at d
   rw[f,d]
   refine gI oW ?_
   exact wR (Ac @pgv b I) s ay
  rw[ag (show ¬l.length<1+u+x+4 by omega)]at d
  have k:=k rfl
  have n:=n rfl
  have N:c.length=x:=by rw[p,eH,bI,g];omega
  have C:oct c:=by rw[p];exact eG (vw ho _) _
  have y:bK (l.getD 0 0) c=l.take U:=by
   unfold bK
   rw[N]
   have K:l=l.getD 0 0::l.drop 1:=by
    cases l with
    |nil=>exact absurd J Aa
    |cons a r=>rfl
   have e2:l.take U=l.getD 0 0::(ai x++((l.drop 1).drop u).take x):=by
    conv=>lhs;rw[K,k]
    rw[g,show 1+u+x=(u+x)+1 by omega,aaw,Gt,n]
    rw[oz Om,show(ai x).length+x-(ai x).length=x by omega]
   have e3:c=((l.drop 1).drop u).take x:=by
    rw[p,g,sD,su]
    congr 1;omega
   rw[e2,<-e3,mO]
  have hF:=ahy (l.getD 0 0) c (kw ho 0) C Om
  have G:jR (l.getD 0 0) c=l.take U++ckB (l.take U):=by unfold jR;rw[y]
  have S:(jR (l.getD 0 0) c).length=U+4:=by rw[G,aN,bI,adG];omega
  have E:∀j,j<4->(jR (l.getD 0 0) c).getD (U+j) 0=(ckB (l.take U)).getD j 0:=by
   intro j hj
   have A:(l.take U).length=U:=by rw[bI];omega
   rw[G]
   simp only[List.getD,List.getElem?_append_right (show(l.take U).length<=U+j by omega),A,Nat.add_sub_cancel_left]
  have v:=Tn l U ho Om
  have T:oct (jR (l.getD 0 0) c):=UG (kw ho 0) C
  have L:((bv l).take (1+u+x)).drop (1+u)=bv c:=by rw[xX,iR,p,g]
  have t2:Int.toNat (1+(u:Int)+(x:Int))=1+u+x:=Om
  have t3:Int.toNat (1+(u:Int))=1+u:=Om
  have M:=aA c
  generalize hFF:jR (l.getD 0 0) c=F at *
  have m:=aA F
  rw[S]at m
  rw[g.symm]at d
  have W:(V.tup [ob 0 F,vi 0]).flat=true:=by show(V.flatL (bv F)&&_)=true;rw[aga];rfl
  refine gI oW ?_
  (repeat' first|refine wQ (A8 @pgv b I @t2 @t3 L H M m) ?_|refine cU s ?_|refine cF hF W ?_|refine tS ?_ ?_<;>intro Q|fail)
  refine aJ (fun i:Nat=>mkA [(0,fzb l),(9,ob 0 c),(10,ob 1 F),(12,vi i)] [] 2 (fun _=>.top)) (fun i=>U<=i/\i<=U+4/\∀j,U<=j->j<i->F.getD j 0=l.getD j 0) (fun i=>U+4-i) U [0,1] [] ?_ ⟨az _,by omega,fun j h1 h2=>by omega⟩ ?_
  .exact kY
  .rintro i ⟨X,hi2,t⟩
   rcases au i (U+4)with A|hge
   .have ha:=lY F i Om
    have hb:=lY l i Om
    have q1:=kw T i
    have q2:=kw ho i
    by_cases hq:F.getD i 0=l.getD i 0
    .have Z:∀j,U<=j->j<i+1->F.getD j 0=l.getD j 0:=fun j h1 h2=>by
      rcases au j i with h3|h3
      .exact t j h1 h3
      .rw[show j=i by omega];exact hq
     (repeat' first|refine wQ (Ad b m @ha @hb) ?_|refine cU s ?_|refine tS ?_ ?_<;>intro Q|fail)
     exact bY (i+1) [0,1] [] ⟨Nat.le_succ_of_le X,A,Z⟩
    .have Y:¬acc (ft l U)=ckN (l.take U):=fun h=>by
      have h3:=v.1 h
      apply hq
      have h4:=E (i-U) Om
      have h5:=UN l U (i-U) Om
      rw[show U+(i-U)=i by omega]at h4 h5
      rw[h4,<-h5,h3]
     rw[ah Y]at d
     have P:O=nO 4:=by rw[f,d];rfl
     subst P
     (repeat' first|refine wQ (Ad b m @ha @hb) ?_|refine cU s ?_|refine tS ?_ ?_<;>intro Q|fail)
     all_goals exact rE []
   .have hi:i=U+4:=Om
    subst hi
    have R:acc (ft l U)=ckN (l.take U):=v.2 (alm (Jy Om) rfl fun j hj=>by
     rw[UN l U j hj,<-t (U+j) Om Om,E j hj])
    rw[ag (fun h=>h R)]at d
    have P:O = .tup [.c (.int .u8 (l.getD 0 0:Nat)),ob 0 c,vi (U+4:Nat),vi 0]:=by rw[f,d];rfl
    subst P
    (repeat' first|refine wQ (Ac b m H) ?_|refine cU s ?_|refine tS ?_ ?_<;>intro Q|fail)
    all_goals exact rE [0]
end Go.Proofs.YtopbmdnbdpjheaaGreat
section
namespace Go.Proofs.YtopbmdnbdpjheaaGreat
open Go Go.Pg
def qC(B:List Nat)(a:Nat)(bad:Bool)(m:Int):Prop:=bad=true\/(ak (B.drop a)).2.2≠0\/m<((ak (B.drop a)).1:Int)
instance (B:List Nat) (a:Nat) (bad:Bool) (m:Int):Decidable (qC B a bad m):=by unfold qC;infer_instance
def qX(B:List Nat)(a:Nat)(bad:Bool)(m:Int):Nat:=if qC B a bad m then 0 else(ak (B.drop a)).1
def qA(B:List Nat)(a:Nat)(bad:Bool)(m:Int):Nat:=if qC B a bad m then a else a+(ak (B.drop a)).2.1
def qB(B:List Nat)(a:Nat)(bad:Bool)(m:Int):Bool:=if qC B a bad m then true else false
def wqX(B:List Nat)(a:Nat)(bad:Bool):Nat:=if bad=true\/(dV (B.drop a)).2.2≠0 then 0 else(dV (B.drop a)).1
def wqA(B:List Nat)(a:Nat)(bad:Bool):Nat:=if bad=true\/(dV (B.drop a)).2.2≠0 then a else a+(dV (B.drop a)).2.1
def wqB(B:List Nat)(a:Nat)(bad:Bool):Bool:=if bad=true\/(dV (B.drop a)).2.2≠0 then true else false
def tqX(B:List Nat)(a:Nat)(bad:Bool):List Nat:=if bad=true\/(bQ (B.drop a)).2.2≠0 then[]else(bQ (B.drop a)).1
def tqA(B:List Nat)(a:Nat)(bad:Bool):Nat:=if bad=true\/(bQ (B.drop a)).2.2≠0 then a else a+(bQ (B.drop a)).2.1
def tqB(B:List Nat)(a:Nat)(bad:Bool):Bool:=if bad=true\/(bQ (B.drop a)).2.2≠0 then true else false
section
variable {B:List Nat} {a:Nat} {bad:Bool} {m:Int}
theorem apI(ho:oct B):qX B a bad m<=4611686018427387904:=by grind[qX,lS,eG]
theorem A7(h:0<=m):(qX B a bad m:Int)<=m:=by grind[qX,qC]
theorem jf(ho:oct B)(h:a<=B.length):qA B a bad m<=B.length:=by grind[qA,lS,eG]
theorem LM(ho:oct B):wqX B a bad<18446744073709551616:=by grind[wqX,Ep,eG]
theorem LK(ho:oct B)(h:a<=B.length):wqA B a bad<=B.length:=by grind[wqA,Ep,eG]
theorem Zw(ho:oct B):oct (tqX B a bad)/\(tqX B a bad).length<=65536:=by grind[tqX,vk,Cc,eG]
theorem IJ(ho:oct B)(h:a<=B.length):tqA B a bad<=B.length:=by grind[tqA,Cc,eG]
theorem jw(ho:oct B)(h:qB B a bad m=false):bad=false/\B.drop a=ai (qX B a bad m)++B.drop (qA B a bad m):=by
 unfold qB at h;split at h
 .cases h
 .rename_i b;have h1:bad=false:=by cases bad;rfl;exact absurd (.inl rfl) b
  have h2:(ak (B.drop a)).2.2=0:=o8 fun e=>b (.inr (.inl e))
  refine⟨h1,?_⟩;unfold qX qA;rw[ag b,ag b,<-su];exact BZ _ (eG ho a) h2
theorem aaf(ho:oct B)(h:wqB B a bad=false):bad=false/\B.drop a=eY (wqX B a bad:Nat)++B.drop (wqA B a bad):=by grind[wqB,dV,wqX,wqA,TL,eG,List.drop_drop]
theorem QS(ho:oct B)(h:tqB B a bad=false):bad=false/\B.drop a=bG (tqX B a bad)++B.drop (tqA B a bad):=by grind[tqB,bQ,tqX,tqA,aeH,eG,List.drop_drop]
theorem jv{n:Nat}{r:List Nat}(h:B.drop a=ai n++r)(c:n<=4611686018427387904)(hm:(n:Int)<=m):qX B a false m=n/\B.drop (qA B a false m)=r/\qB B a false m=false:=by
 have h1:=Cb n c r;rw[<-h]at h1;have b:¬qC B a false m:=by unfold qC;rw[h1];rintro(h|h|h);cases h;exact h rfl;omega
 refine⟨?_,?_,ag b⟩
 .grind[qX]
 .grind[qA,List.drop_drop,List.drop_left]
theorem aae{x:Int}{r:List Nat}(hx:0<=x/\x<18446744073709551616)(h:B.drop a=eY x++r):wqX B a false=x.toNat/\B.drop (wqA B a false)=r/\wqB B a false=false:=by
 have h1:=Nv x hx r;rw[<-h]at h1;have b:¬(false=true\/(dV (B.drop a)).2.2≠0):=by rw[h1];rintro(h|h);cases h;exact h rfl
 refine⟨?_,?_,ag b⟩
 .grind[wqX]
 .grind[wqA,qg,List.drop_drop,List.drop_left]
theorem QR{s r:List Nat}(c:s.length<=65536)(h:B.drop a=bG s++r):tqX B a false=s/\B.drop (tqA B a false)=r/\tqB B a false=false:=by
 have h1:=TJ s c r;rw[<-h]at h1;have b:¬(false=true\/(bQ (B.drop a)).2.2≠0):=by rw[h1];rintro(h|h);cases h;exact h rfl
 refine⟨?_,?_,ag b⟩
 .grind[tqX]
 .grind[tqA,List.drop_drop,List.drop_left]
end
section
variable (e:Nat->V) (bx:BX) (n:Nat) (h:Nat->V)
theorem zQN(b:Nat)(B:List Nat)(a:Nat)(bad:Bool)(m:Int)(ho:oct B)(hl:B.length<=2147483648)(ha:a<=B.length)(hb:bx b=some (261,[fzb B,vi a,vb bad]))(p:b<n) :
  Gxz 186 [.ref b 0,vi m] ⟨e,bx,n,h⟩ ⟨e,upd bx b (some (261,[fzb B,vi (qA B a bad m:Nat),vb (qB B a bad m)])),n,h⟩ (vi (qX B a bad m:Nat)):=by
 have f:=JA (B.drop a) (eG ho a) (by rw[eH];omega)
 obtain⟨t,r,_⟩:=lS (B.drop a) (eG ho a)
 rw[eH]at r
 have d:=aA B
 have j:=iR B a
 have g:qA B a bad m=if bad=true\/(ak (B.drop a)).2.2≠0\/m<((ak (B.drop a)).1:Int)then a else a+(ak (B.drop a)).2.1:=rfl
 have i:qB B a bad m=if bad=true\/(ak (B.drop a)).2.2≠0\/m<((ak (B.drop a)).1:Int)then true else false:=rfl
 have ex:qX B a bad m=if bad=true\/(ak (B.drop a)).2.2≠0\/m<((ak (B.drop a)).1:Int)then 0 else(ak (B.drop a)).1:=rfl
 generalize qA B a bad m=A at *
 generalize qB B a bad m=s at *
 generalize qX B a bad m=X at *
 unfold lU at f
 generalize ak (B.drop a)=q at *
 obtain⟨x,k,l⟩:=q
 simp only at *
 by_cases c:bad=true\/l≠0\/m<(x:Int)
 .rw[ah c]at g i ex;subst g i ex;cases bad
  .by_cases he:l=0
   .have hm:m<(x:Int):=by rcases c with h|h|h;cases h;exact absurd he h;exact h
    subst he;refine gZ oW ?_;(repeat' first|refine wP (Ag @aK @aH @aG @hb @pgv d j) f ?_|refine tS ?_ ?_<;>intro c|fail);all_goals(refine bC (aW _ _ _) ?_;rw[aP,aQ])
   .refine gZ oW ?_;(repeat' first|refine wP (Ag @aK @aH @aG @hb @pgv d j) f ?_|refine tS ?_ ?_<;>intro c|fail);all_goals(refine bC (aW _ _ _) ?_;rw[aP,aQ])
  .refine gZ oW ?_;(repeat' first|refine wP (Ag @aK @aH @aG @hb @pgv d j) f ?_|refine tS ?_ ?_<;>intro c|fail);all_goals(refine bC (aW _ _ _) ?_;rw[aP,aQ])
 .rw[ag c]at g i ex;have h1:bad=false:=by cases bad;rfl;exact absurd (.inl rfl) c
  have h2:l=0:=o8 fun e=>c (.inr (.inl e))
  have h3:¬m<(x:Int):=fun e=>c (.inr (.inr e))
  subst h1 h2 g i ex;refine gZ oW ?_;(repeat' first|refine wP (Ag @aK @aH @aG @hb @pgv d j) f ?_|refine tS ?_ ?_<;>intro c|fail);all_goals(refine bC (aW _ _ _) ?_;rw[aP,aQ])
theorem zQW(b:Nat)(B:List Nat)(a:Nat)(bad:Bool)(ho:oct B)(hl:B.length<=2147483648)(ha:a<=B.length)(hb:bx b=some (261,[fzb B,vi a,vb bad]))(p:b<n) :
  Gxz 188 [.ref b 0] ⟨e,bx,n,h⟩ ⟨e,upd bx b (some (261,[fzb B,vi (wqA B a bad:Nat),vb (wqB B a bad)])),n,h⟩ (vu (wqX B a bad:Nat)):=by
 have i:=ahe (B.drop a) (eG ho a) (by rw[eH];omega)
 have m:=(Ep (B.drop a) (eG ho a)).2
 rw[eH]at m
 have d:=aA B
 have j:=iR B a
 have f:wqA B a bad=if bad=true\/(dV (B.drop a)).2.2≠0 then a else a+(dV (B.drop a)).2.1:=rfl
 have g:wqB B a bad=if bad=true\/(dV (B.drop a)).2.2≠0 then true else false:=rfl
 have ex:wqX B a bad=if bad=true\/(dV (B.drop a)).2.2≠0 then 0 else(dV (B.drop a)).1:=rfl
 generalize wqA B a bad=A at *
 generalize wqB B a bad=r at *
 generalize wqX B a bad=X at *
 unfold DR at i
 generalize dV (B.drop a)=q at *
 obtain⟨x,k,l⟩:=q
 simp only at *
 by_cases c:bad=true\/l≠0
 .rw[ah c]at f g ex;subst f g ex;cases bad
  .have he:l≠0:=by rcases c with h|h;cases h;exact h
   refine gZ oW ?_;(repeat' first|refine wP (Ag @aK @aH @aG @hb @pgv d j) i ?_|refine tS ?_ ?_<;>intro c|fail);all_goals(refine bC (aW _ _ _) ?_;rw[aP,aQ])
  .refine gZ oW ?_;(repeat' first|refine wP (Ag @aK @aH @aG @hb @pgv d j) i ?_|refine tS ?_ ?_<;>intro c|fail);all_goals(refine bC (aW _ _ _) ?_;rw[aP,aQ])
 .rw[ag c]at f g ex;have h1:bad=false:=by cases bad;rfl;exact absurd (.inl rfl) c
  have h2:l=0:=o8 fun e=>c (.inr e)
  subst h1 h2 f g ex;have m:=m rfl;refine gZ oW ?_;(repeat' first|refine wP (Ag @aK @aH @aG @hb @pgv d j) i ?_|refine tS ?_ ?_<;>intro c|fail);all_goals(refine bC (aW _ _ _) ?_;rw[aP,aQ])
theorem zQT(b:Nat)(B:List Nat)(a:Nat)(bad:Bool)(ho:oct B)(hl:B.length<=2147483648)(ha:a<=B.length)(hb:bx b=some (261,[fzb B,vi a,vb bad]))(p:b<n) :
  Gxz 189 [.ref b 0] ⟨e,bx,n,h⟩ ⟨e,upd bx b (some (261,[fzb B,vi (tqA B a bad:Nat),vb (tqB B a bad)])),n,h⟩ (vs (tqX B a bad)):=by
 have i:=ahb (B.drop a) (eG ho a) (by rw[eH];omega)
 have m:=(Cc (B.drop a) (eG ho a)).2.2
 rw[eH]at m
 have d:=aA B
 have j:=iR B a
 have f:tqA B a bad=if bad=true\/(bQ (B.drop a)).2.2≠0 then a else a+(bQ (B.drop a)).2.1:=rfl
 have g:tqB B a bad=if bad=true\/(bQ (B.drop a)).2.2≠0 then true else false:=rfl
 have ex:tqX B a bad=if bad=true\/(bQ (B.drop a)).2.2≠0 then[]else(bQ (B.drop a)).1:=rfl
 generalize tqA B a bad=A at *
 generalize tqB B a bad=r at *
 generalize tqX B a bad=X at *
 unfold zi at i
 generalize bQ (B.drop a)=q at *
 obtain⟨x,k,l⟩:=q
 simp only at *
 by_cases c:bad=true\/l≠0
 .rw[ah c]at f g ex;subst f g ex;cases bad
  .have he:l≠0:=by rcases c with h|h;cases h;exact h
   refine gZ oW ?_;(repeat' first|refine wP (Ag @aK @aH @aG @hb @pgv d j) i ?_|refine tS ?_ ?_<;>intro c|fail);all_goals(refine bC (aW _ _ _) ?_;rw[aP,aQ])
  .refine gZ oW ?_;(repeat' first|refine wP (Ag @aK @aH @aG @hb @pgv d j) i ?_|refine tS ?_ ?_<;>intro c|fail);all_goals(refine bC (aW _ _ _) ?_;rw[aP,aQ])
 .rw[ag c]at f g ex;have h1:bad=false:=by cases bad;rfl;exact absurd (.inl rfl) c
  have h2:l=0:=o8 fun e=>c (.inr e)
  subst h1 h2 f g ex;have m:=m rfl;refine gZ oW ?_;(repeat' first|refine wP (Ag @aK @aH @aG @hb @pgv d j) i ?_|refine tS ?_ ?_<;>intro c|fail);all_goals(refine bC (aW _ _ _) ?_;rw[aP,aQ])
def qD(B:List Nat)(a:Nat)(bad:Bool):Bool:=if bad=false/\a=B.length then true else false
theorem zQD(b:Nat)(B:List Nat)(a:Nat)(bad:Bool)(hb:bx b=some (261,[fzb B,vi a,vb bad])) :
  Gxz 187 [.ref b 0] ⟨e,bx,n,h⟩ ⟨e,bx,n,h⟩ (vb (qD B a bad)):=by
 have c:=aA B
 have d:qD B a bad=if bad=false/\a=B.length then true else false:=rfl
 generalize qD B a bad=Q at *
 cases bad
 .by_cases he:a=B.length
  .rw[ah ⟨rfl,he⟩]at d;subst d;refine gZ oW ?_;(repeat' first|refine wQ (Af @aK @aH @aG @hb @pgv c) ?_|refine tS ?_ ?_<;>intro f|fail);all_goals(refine bC (aW _ _ _) ?_;rw[aP,aQ])
  .rw[ag (fun h=>he h.2)]at d;subst d;refine gZ oW ?_;(repeat' first|refine wQ (Af @aK @aH @aG @hb @pgv c) ?_|refine tS ?_ ?_<;>intro f|fail);all_goals(refine bC (aW _ _ _) ?_;rw[aP,aQ])
 .rw[ag (fun h=>nomatch h.1)]at d;subst d;refine gZ oW ?_;(repeat' first|refine wQ (Af @aK @aH @aG @hb @pgv c) ?_|refine tS ?_ ?_<;>intro f|fail);all_goals(refine bC (aW _ _ _) ?_;rw[aP,aQ])
end
section
variable (B:List Nat) (a:Nat) (b:Bool) (m:Int) (ho:oct B) (hl:B.length<=2147483648) (ha:a<=B.length)
include ho hl ha
theorem rdN(hm:0<=m:=by decide):∃x A c,(qX B a b m=x/\qA B a b m=A/\qB B a b m=c)/\(∀e bx n h,bx 1=some (261,[fzb B,vi a,vb b])->1<n->Gxz 186 [.ref 1 0,vi m] ⟨e,bx,n,h⟩ ⟨e,upd bx 1 (some (261,[fzb B,vi (A:Nat),vb c])),n,h⟩ (vi (x:Nat)))/\A<=B.length/\x<=4611686018427387904/\(x:Int)<=m:=⟨_,_,_,⟨rfl,rfl,rfl⟩,fun e bx n h hb d=>zQN e bx n h 1 B a b m ho hl ha hb d,jf ho ha,apI ho,A7 hm⟩
theorem rdT:∃x A c,(tqX B a b=x/\tqA B a b=A/\tqB B a b=c)/\(∀e bx n h,bx 1=some (261,[fzb B,vi a,vb b])->1<n->Gxz 189 [.ref 1 0] ⟨e,bx,n,h⟩ ⟨e,upd bx 1 (some (261,[fzb B,vi (A:Nat),vb c])),n,h⟩ (vs x))/\A<=B.length/\oct x:=⟨_,_,_,⟨rfl,rfl,rfl⟩,fun e bx n h hb d=>zQT e bx n h 1 B a b ho hl ha hb d,IJ ho ha,(Zw ho).1⟩
end
def bxs{B0:BX}{X:Option (TypeId×List V)}(B:List Nat)(p:Nat)(c:Bool)(h:B0 2=X):∃a,a=upd B0 1 (some (261,[fzb B,vi p,vb c]))/\a 1=some (261,[fzb B,vi p,vb c])/\a 2=X:=⟨_,rfl,bW _ _ _,(aV _ _ _ _ dX).trans h⟩
theorem bx0(x y z:TypeId×List V):∃B0,B0=yh [(0,x),(1,y),(2,z)]/\B0 1=some y/\B0 2=some z:=⟨_,rfl,rfl,rfl⟩
end Go.Proofs.YtopbmdnbdpjheaaGreat
end
namespace Go.Proofs.YtopbmdnbdpjheaaGreat
open Go Go.Pg
theorem Dz(n:Nat)(b:n<=4611686018427387904)(r:List Nat):nuX (ai n++r) false=n/\nuL (ai n++r) false=r/\nuB (ai n++r) false=false:=by
 have h:=Cb n b r;have a:¬(false=true\/(ak (ai n++r)).2.2≠0):=by rw[h];rintro(h|h);cases h;exact h rfl
 refine⟨?_,?_,?_⟩
 .grind[nuX]
 .grind[nuL]
 .exact ag a
def apL(x:Int)(hx:0<=x/\x<18446744073709551616)(r:List Nat):woX (eY x++r) false=x.toNat/\woL (eY x++r) false=r/\woB (eY x++r) false=false:=by
 have h:=Nv x hx r;refine⟨?_,?_,?_⟩
 .grind[woX]
 .rfl
 .rfl
def Qg(s:List Nat)(b:s.length<=65536)(r:List Nat):teX (bG s++r) false=s/\teL (bG s++r) false=r/\teB (bG s++r) false=false:=by
 have h:=TJ s b r;have a:¬(false=true\/(bQ (bG s++r)).2.2≠0):=by rw[h];rintro(h|h);cases h;exact h rfl
 refine⟨?_,?_,?_⟩
 .grind[teX]
 .grind[teL]
 .exact ag a
def oU{l:List Nat}{i n:Nat}{r:List Nat}(h:sS l i=(ai n++r,false))(a:n<=4611686018427387904):sS l (i+1)=(r,false)/\sx l i=n:=by grind[Dz,sS,sx]
def wL(b:Bool):decide (((if b=true then 1 else 0:Nat):Int)=1)=b:=by grind
def wK(b:Bool):iH b=ai (if b=true then 1 else 0:Nat):=by cases b<;>decide
def wM(b:Bool):(if b=true then 1 else 0:Nat)<=4611686018427387904:=by grind
theorem fO{n:Int}(h:0<=n):((n.toNat:Nat):Int)=n:=Om
theorem aeK(x:Tl)(h:vTl x=0):uK (gX x)=some x:=by
 obtain⟨a,c,b⟩:=x;have g:(0<=a/\a<=4294967295)/\(0<=c/\c<=4294967295):=by grind[vTl]
 have f:gX ⟨a,c,b⟩=ai a.toNat++(ai c.toNat++(ai (if b=true then 1 else 0:Nat)++[])):=by unfold gX;rw[wK];simp only[bZ,gV]
 have d:=Cb a.toNat Om (ai c.toNat++(ai (if b=true then 1 else 0:Nat)++[]));have i:=Cb c.toNat Om (ai (if b=true then 1 else 0:Nat)++[]);have d2:=Cb (if b=true then 1 else 0:Nat) (wM b) [];have j:tr (gX ⟨a,c,b⟩) 1=ai c.toNat++(ai (if b=true then 1 else 0:Nat)++[]):=by show(gX ⟨a,c,b⟩).drop (ak (gX ⟨a,c,b⟩)).2.1=_;rw[f,d];exact IU
 have t2:tr (gX ⟨a,c,b⟩) 2=ai (if b=true then 1 else 0:Nat)++[]:=by grind[tr,gX,ak]
 have t:tr (gX ⟨a,c,b⟩) 0=ai a.toNat++(ai c.toNat++(ai (if b=true then 1 else 0:Nat)++[])):=f;unfold uK;rw[t,j,t2,d,i,d2,ah ⟨rfl,rfl,rfl⟩];simp only;rw[wL,fO g.1.1,fO g.2.1];exact ah ⟨h,rfl⟩
theorem aeC(x:Ll)(h:vLl x=0)(a:0<=x.s/\x.s<18446744073709551616):sO (l7 x)=some x:=by
 obtain⟨l,i2,k⟩:=Bz h;obtain⟨p,s,r⟩:=x;simp only at *;have c:l7 ⟨p,s,r⟩=ai p.toNat++(eY s++r.map u8i):=by unfold l7;rw[bZ]
 have d:=Cb p.toNat Om (eY s++r.map u8i);have b:=Nv s a (r.map u8i);have x1:(eY s++r.map u8i).drop 8=r.map u8i:=by rw[<-qg s,IU]
 have f:ivU (r.map u8i)=r:=by unfold ivU;rw[zA];refine(List.map_congr_left (g:=id) fun y i => ?_).trans (List.map_id _);obtain⟨j,hj,he⟩:=nz 0 i;have:=BM k hj;grind[u8i]
 unfold sO;rw[c,d,ah ⟨rfl,by omega⟩];rw[IU];unfold dLl;rw[b,x1,ah ⟨rfl,by rw[aj];exact i2⟩,f,fO Om,fO a.1];exact ah h
def aqt:∀(c acc:List Int) (r:List Nat),(∀i,i<c.length->0<=c.getD i 0/\c.getD i 0<=4294967295)->xG c.length acc (aZ c++r) false=(acc++c,r,false):=by
 intro c
 induction c with
 |nil=>intro acc r _;simp[xG,aZ]
 |cons x c g =>
  intro acc r h;have a:=h 0 Aa;have e:aZ (x::c)++r=ai x.toNat++(aZ c++r):=by simp[aZ]
  simp at a;obtain⟨b,d,f⟩:=Dz x.toNat Om (aZ c++r);rw[e];show xG c.length (acc++[((nuX (ai x.toNat++(aZ c++r)) false:Nat):Int)]) (nuL (ai x.toNat++(aZ c++r)) false) (nuB (ai x.toNat++(aZ c++r)) false)=_;rw[b,d,f,fO a.1,g _ _ (fun i hi=>by have:=h (i+1) (by simp;omega);simpa using this)];grind
theorem aew(x:Cm)(h:vCm x=0)(f:0<=x.s/\x.s<18446744073709551616):wC (jD x)=some x:=by
 obtain⟨u,i2,y,m⟩:=Bv h;obtain⟨d,z,s,c,b⟩:=x;simp only at *;have g:jD ⟨d,z,s,c,b⟩=ai d.toNat++(ai z.toNat++(eY s++(aZ c++(ai (if b=true then 1 else 0:Nat)++[])))):=by unfold jD;rw[wK];simp only[bZ,gV]
 have n:sS (jD ⟨d,z,s,c,b⟩) 0=(ai d.toNat++(ai z.toNat++(eY s++(aZ c++(ai (if b=true then 1 else 0:Nat)++[])))),false):=by rw[<-g];rfl
 obtain⟨s1,v⟩:=oU n Om;obtain⟨s2,v1⟩:=oU s1 Om;obtain⟨p,q,r⟩:=apL s f (aZ c++(ai (if b=true then 1 else 0:Nat)++[]));have a:d.toNat*z.toNat=c.length:=by grind
 have l:=aqt c [] (ai (if b=true then 1 else 0:Nat)++[]) (fun i hi=>BM m hi);obtain⟨j,t,k⟩:=Dz (if b=true then 1 else 0:Nat) (wM b) [];unfold wC;rw[s2,v,v1];simp only;rw[p,q,r];unfold dCm;rw[ag (by rintro(h|h);cases h;exact h Om),a,l];unfold eCm;simp only[iY];rw[j,k,wL,fO Om,fO Om,fO f.1];unfold fCm;rw[ag gy];exact ah ⟨h,rfl⟩
def aqO:∀(l:List En) (k:Nat) (acc:List En) (r:List Nat),l.length<=k->(∀e∈l,e.1.length<=65536/\(0<=e.2.1/\e.2.1<=4611686018427387904)/\(0<=e.2.2/\e.2.2<=4611686018427387904))->Bi k l.length acc (l.flatMap eu++r) false=(acc++l,r,false):=by
 intro l
 induction l with
 |nil=>intro k acc r _ _;rw[o9,YJ (.inr (.inl rfl))];simp
 |cons y l i =>
  intro k acc r hk h;obtain⟨key,c,a⟩:=y;obtain⟨h1,h2,h3⟩:=h _ (Aa:(key,c,a)∈(key,c,a)::l);simp only at h1 h2 h3;have e:((key,c,a)::l).flatMap eu++r=bG key++(ai c.toNat++(ai a.toNat++(l.flatMap eu++r))):=by simp[eu,bZ]
  obtain⟨t,t2,s⟩:=Qg key h1 (ai c.toNat++(ai a.toNat++(l.flatMap eu++r)));obtain⟨f,g,j⟩:=Dz c.toNat Om (ai a.toNat++(l.flatMap eu++r));obtain⟨m,n,p⟩:=Dz a.toNat Om (l.flatMap eu++r);rw[YK (by simp only[dB]at hk;omega) Aa rfl,e];have q:rdE (bG key++(ai c.toNat++(ai a.toNat++(l.flatMap eu++r)))) false=(key,c,a):=by grind[rdE,fO]
  have b:Dy (bG key++(ai c.toNat++(ai a.toNat++(l.flatMap eu++r)))) false=l.flatMap eu++r:=by grind[Dy]
  have d:Iq (bG key++(ai c.toNat++(ai a.toNat++(l.flatMap eu++r)))) false=false:=by simp_all[Iq]
  rw[q,b,d];rw[show((key,c,a)::l).length-1=l.length by simp,i (k-1) _ r (by simp only[dB]at hk;omega) (fun e he=>h e (by simp[he]))];simp[bZ]
def aqy:∀(l:List En) (k:Nat) (acc:List En) (r:List Nat),l.length<=k->(∀e∈l,e.1.length<=65536/\(0<=e.2.1/\e.2.1<=4611686018427387904)/\e.2.2=0)->Bg k l.length acc (l.flatMap eP++r) false=(acc++l,r,false):=by
 intro l
 induction l with
 |nil=>intro k acc r _ _;rw[o9,YE (.inr (.inl rfl))];simp
 |cons y l i =>
  intro k acc r hk h;obtain⟨key,c,a⟩:=y;obtain⟨h1,h2,h3⟩:=h _ (Aa:(key,c,a)∈(key,c,a)::l);simp only at h1 h2 h3;subst h3;have e:((key,c,0)::l).flatMap eP++r=bG key++(ai c.toNat++(l.flatMap eP++r)):=by simp[eP,bZ]
  obtain⟨t,t2,m⟩:=Qg key h1 (ai c.toNat++(l.flatMap eP++r));obtain⟨d,f,g⟩:=Dz c.toNat Om (l.flatMap eP++r);rw[YF (by simp only[dB]at hk;omega) Aa rfl,e];have j:rfE (bG key++(ai c.toNat++(l.flatMap eP++r))) false=(key,c,0):=by grind[rfE,fO]
  have q:DD (bG key++(ai c.toNat++(l.flatMap eP++r))) false=l.flatMap eP++r:=by grind[DD]
  have b:Iz (bG key++(ai c.toNat++(l.flatMap eP++r))) false=false:=by grind[Iz]
  rw[q,b];rw[show((key,c,(0:Int))::l).length-1=l.length by simp,i (k-1) _ r (by simp at hk;omega) (fun e he=>h e (by simp[he]))];grind
def aqC:∀(l:List (List Nat)) (acc:List (List Nat)) (r:List Nat),(∀k∈l,k.length<=65536)->qI l.length acc (l.flatMap bG++r) false=(acc++l,r,false):=by
 intro l
 induction l with
 |nil=>intro acc r _;simp[qI]
 |cons y l i =>intro acc r h;obtain⟨t,t2,a⟩:=Qg y (h y Aa) (l.flatMap bG++r);simp_all[YG]
def aqK:∀(v:List (List (List Nat))) (k:Nat) (acc:List (List (List Nat))) (r:List Nat),v.length<=k->(∀l∈v,l.length<=1000000/\∀x∈l,x.length<=65536)->Bh k v.length acc (v.flatMap dW++r) false=(acc++v,r,false):=by
 intro v
 induction v with
 |nil=>intro k acc r _ _;rw[o9,YH (.inr (.inl rfl))];simp
 |cons y v i =>
  intro k acc r hk h;obtain⟨h1,h2⟩:=h y Aa;have e:(y::v).flatMap dW++r=ai y.length++(y.flatMap bG++(v.flatMap dW++r)):=by simp[dW]
  obtain⟨b,c,d⟩:=Dz y.length Om (y.flatMap bG++(v.flatMap dW++r));have a:=aqC y [] (v.flatMap dW++r) h2;rw[YI (by simp at hk;omega) Aa,e,b,c,d,a];rw[show(y::v).length-1=v.length by simp,i (k-1) _ r (by simp at hk;omega) (fun l hl=>h l (by simp[hl]))];grind
theorem aeN(x:Tp)(h:vTp x=0):wH (jG x)=some x:=by
 obtain⟨p,i2,q,g⟩:=zo h;obtain⟨z,t,e,b⟩:=x;simp only at *;have a:=fun i (hi:i<e.length)=>CB (g i hi)
 have c:jG ⟨z,t,e,b⟩=ai z.toNat++(ai t.toNat++(ai (if b=true then 1 else 0:Nat)++(ai e.length++(e.flatMap eu++[])))):=by unfold jG;rw[wK];simp only[bZ,gV]
 have s:sS (jG ⟨z,t,e,b⟩) 0=(ai z.toNat++(ai t.toNat++(ai (if b=true then 1 else 0:Nat)++(ai e.length++(e.flatMap eu++[])))),false):=by rw[<-c];rfl
 obtain⟨s1,v⟩:=oU s Om;obtain⟨s2,v1⟩:=oU s1 Om;obtain⟨j,m⟩:=oU s2 (wM b);obtain⟨l,n⟩:=oU j Om;have d:=aqO e 32 [] [] Om (fun y f=>by obtain⟨i,hi,rfl⟩:=nz eD f;obtain⟨k,k2,r⟩:=a i hi;rw[ry]at k;exact⟨by omega,⟨by omega,by omega⟩,⟨by omega,by omega⟩⟩);unfold wH;rw[v,v1,m,n,l];simp only;rw[d,wL];unfold dTp;rw[ag gy,iY,fO Om,fO Om];exact ah ⟨h,rfl⟩
theorem aez(x:Fq)(h:vFq x=0):wE (jE x)=some x:=by
 obtain⟨A,i2,g,C,j⟩:=zl h;obtain⟨z,t,lo,e,b⟩:=x;simp only at *;have a:=fun i (hi:i<e.length)=>Cj (j i hi)
 have c:jE ⟨z,t,lo,e,b⟩=ai z.toNat++(ai t.toNat++(ai lo.toNat++(ai (if b=true then 1 else 0:Nat)++(ai e.length++(e.flatMap eP++[]))))):=by unfold jE;rw[wK];simp only[bZ,gV]
 have m:sS (jE ⟨z,t,lo,e,b⟩) 0=(ai z.toNat++(ai t.toNat++(ai lo.toNat++(ai (if b=true then 1 else 0:Nat)++(ai e.length++(e.flatMap eP++[]))))),false):=by rw[<-c];rfl
 obtain⟨s1,q⟩:=oU m Om;obtain⟨s2,v1⟩:=oU s1 Om;obtain⟨s,v⟩:=oU s2 Om;obtain⟨n,r⟩:=oU s (wM b);obtain⟨p,u⟩:=oU n Om;have d:=aqy e 32 [] [] Om (fun y f=>by obtain⟨i,hi,rfl⟩:=nz eD f;obtain⟨k,k2,l⟩:=a i hi;rw[ry]at k;exact⟨by omega,⟨by omega,by omega⟩,l⟩);unfold wE;rw[q,v1,v,r,u,p];simp only;rw[d,wL];unfold dFq;rw[ag gy,iY,fO Om,fO Om,fO Om];exact ah ⟨h,rfl⟩
theorem aeG(x:Rk)(h:vRk x=0):wF (jF x)=some x:=by
 have a:=IK h;obtain⟨A,i2,j,C,l⟩:=zn h;obtain⟨z,t,lo,v,b⟩:=x;simp only at *;have d:jF ⟨z,t,lo,v,b⟩=ai z.toNat++(ai t.toNat++(ai lo.toNat++(ai (if b=true then 1 else 0:Nat)++(ai v.length++(v.flatMap dW++[]))))):=by unfold jF;rw[wK];simp only[bZ,gV]
 have m:sS (jF ⟨z,t,lo,v,b⟩) 0=(ai z.toNat++(ai t.toNat++(ai lo.toNat++(ai (if b=true then 1 else 0:Nat)++(ai v.length++(v.flatMap dW++[]))))),false):=by rw[<-d];rfl
 obtain⟨s1,q⟩:=oU m Om;obtain⟨s2,v1⟩:=oU s1 Om;obtain⟨s,c⟩:=oU s2 Om;obtain⟨n,r⟩:=oU s (wM b);obtain⟨p,u⟩:=oU n Om;have f:=aqK v 41 [] [] Om (fun y g=>by obtain⟨i,hi,he⟩:=nz [] g;have h1:=l i;have h2:=a i hi;rw[he]at h1 h2;exact⟨by omega,fun k hk=>by have:=h2 k hk;omega⟩);unfold wF;rw[q,v1,c,r,u,p];simp only;rw[f,wL];unfold dRk;rw[ag gy,iY,fO Om,fO Om,fO Om];exact ah ⟨h,rfl⟩
def skX(s:Sk):Sk:=⟨⟨s.p.k,0,0,0⟩,if s.p.k=1 then s.tl else Tl.o,if s.p.k=2 then s.cm else Cm.o,if s.p.k=3 then s.ll else Ll.o,if s.p.k=4 then s.tp else Tp.o,if s.p.k=5 then s.fq else Fq.o,if s.p.k=6 then s.rk else Rk.o⟩
def axT{s:Sk}(h:vSk s=0):vSk (gu s)=0:=by
 obtain⟨h1,h2⟩:=qf h;have hk:=Gf h1
 have hp:parP s:=by
  unfold vSk at h;rw[ag (fun e=>e h1),ag (fun e=>e h2)]at h;split at h
  .rename_i hp;exact hp
  .cases h
 have a:gU (gu s)=0:=by rw[<-h2];unfold gU gu;rcases hk with q|q|q|q|q|q<;>simp[q]
 have b:parP (gu s):=by unfold parP at hp⊢;unfold gu;rcases hk with q|q|q|q|q|q<;>simp[q]at hp⊢<;>exact hp
 have c:gu (gu s)=gu s:=by unfold gu;rcases hk with q|q|q|q|q|q<;>simp[q]
 have d:jy (gu s) (gu s)=true:=by unfold jy vH vJ vM vI vK samP samT;simp
 unfold vSk;rw[ag (fun e=>e h1),ag (fun e=>e a),ah b,c,ah d]
def ayj{s:Sk}(h:vSk s=0):dw (gu s)=dw s:=by
 have hk:=Gf (qf h).1;have h2:=axT h;unfold dw;rw[ag (fun e=>e h2),ag (fun e=>e h)];have:fK (gu s)=fK s:=by unfold fK gu;rcases hk with q|q|q|q|q|q<;>simp[q]
 rw[this];rfl
theorem ayE{s:Sk}(h:vSk s=0):iD (skX s)=gu s:=by
 obtain⟨h1,h2⟩:=qf h;have hk:=Gf h1
 have h3:=(ao9 s h1).2 (by
  unfold vSk at h;rw[ag (fun e=>e h1),ag (fun e=>e h2)]at h;split at h
  .rename_i hp;exact hp
  .cases h)
 have e:oQ (skX s)=s.p:=by
  have g:oQ (skX s)=oQ s:=by unfold oQ skX;rcases hk with q|q|q|q|q|q<;>simp[q]
  rw[g];obtain⟨⟨pk,pz,pd,ps⟩,a,b,c,d,e,f⟩:=s;unfold samP at h3;simp only at h3⊢;generalize oQ _=w at *;obtain⟨i,j,k,l⟩:=w;simp only at h3;obtain⟨rfl,rfl,rfl,rfl⟩:=h3;rfl
 unfold iD;rw[e];rfl
def ayh(s:Sk)(ok:s.Ok)(h:vSk s=0):jC s.p.k.toNat (fK s)=some (skX s):=by
 obtain⟨h1,h2⟩:=qf h;have hk:=Gf h1;unfold gU at h2;unfold fK jC skX;rcases hk with q|q|q|q|q|q;all_goals simp[q]at h2⊢
 .exact⟨_,aeK _ h2,by simp[skK]⟩
 .exact⟨_,aew _ h2 ok.cs,by simp[skK]⟩
 .exact⟨_,aeC _ h2 ok.ls,by simp[skK]⟩
 .exact⟨_,aeN _ h2,by simp[skK]⟩
 .exact⟨_,aez _ h2,by simp[skK]⟩
 .exact⟨_,aeG _ h2,by simp[skK]⟩
def ayV(t:Nat)(b:List Nat)(hb:b.length<=1048576):unE (jR t b)=0/\unU (jR t b)+4=(jR t b).length/\unB (jR t b)=b/\(jR t b).getD 0 0=t:=by
 have f:(jR t b).drop 1=ai b.length++(b++ckB (bK t b)):=by unfold jR bK;simp[bZ]
 have hd:=Cb b.length Om (b++ckB (bK t b));rw[<-f]at hd;have h:(bK t b).length=1+(ai b.length).length+b.length:=by unfold bK;simp only[mO,dB,aN];omega
 have i:(ckB (bK t b)).length=4:=rfl;have a:(jR t b).length=1+(ai b.length).length+b.length+4:=by unfold jR;rw[aN,h,i]
 have d:(jR t b).take (1+(ai b.length).length+b.length)=bK t b:=by unfold jR;rw[<-h,pq]
 have hf:ft (jR t b) (1+(ai b.length).length+b.length)=ckB (bK t b):=by unfold ft;rw[<-a,gB];unfold jR;rw[<-h,IU]
 have hB:(bK t b).drop (1+(ai b.length).length)=b:=by unfold bK;rw[Nat.add_comm,mO,IV,IU]
 have g:(jR t b).getD 0 0=t:=by unfold jR bK;rfl
 have c:unU (jR t b)=1+(ai b.length).length+b.length:=by unfold unU;rw[hd]
 refine⟨?_,by rw[c,a],?_,g⟩
 .unfold unE;rw[hd];simp only;rw[hf,d,Tj,ag Om,ag Aa,ag Om,ag Om,ag Aa]
 .unfold unB;rw[c,d,hd];exact hB
def ayi(s:Sk)(ok:s.Ok)(h:vSk s=0):fA (dw s)=(gu s,0):=by
 have hk:=Gf (qf h).1;obtain⟨a,b⟩:=zO s ok h;have e:dw s=jR 83 (ai s.p.k.toNat++fK s):=by unfold dw;rw[ag (fun e=>e h)]
 have u:=bP s.p.k.toNat;obtain⟨q,c,f,g⟩:=ayV 83 (ai s.p.k.toNat++fK s) (by rw[aN];omega);have d:=Cb s.p.k.toNat Om (fK s);unfold fA;rw[e,ag (fun e=>e q),f,d,ag (fun e=>e ⟨g,c,rfl⟩)];simp only;rw[IU,ayh s ok h];show(if vSk (iD (skX s))=0/\dw (iD (skX s))=_ then(iD (skX s),0)else(Sk.o,2))=_;rw[ayE h,ayj h];exact ah ⟨axT h,e⟩
def fF{α:Type}(B:List Nat)(a:Nat)(b:Bool)(m:Int)(k:Nat->Nat->Bool->α):α:=k (qX B a b m) (qA B a b m) (qB B a b m)
def BC{α:Type}(B:List Nat)(a:Nat)(b:Bool)(k:Nat->Nat->Bool->α):α:=k (wqX B a b) (wqA B a b) (wqB B a b)
def FH{B:List Nat}{a:Nat}{b:Bool}(h:qD B a b=true):b=false/\a=B.length:=by grind[qD]
def FD{B:List Nat}{a:Nat}(h:B.drop a=[])(ha:a<=B.length):qD B a false=true:=ah ⟨rfl,by have:=mV List.length h;rw[eH,o9]at this;omega⟩
def G6{x:Nat}(h:(x:Int)<=1):iH (decide ((x:Int)=1))=ai x:=by have:x=0\/x=1:=Om;rcases this with rfl|rfl<;>decide
def Ff{α:Type}{a b:Option α}(h1:∀x,a=some x->b=some x)(h2:∀x,b=some x->a=some x):a=b:=by
 cases ha:a with
 |some x=>exact(h1 x ha).symm
 |none =>
  cases hb:b with
  |some x=>rw[h2 x hb]at ha;cases ha
  |none=>rfl
def fTl(B:List Nat)(x:Tl)(a:Nat)(b:Bool):Option Tl:=if qD B a b=true/\vTl x=0 then some x else none
def Em(B:List Nat):Option Tl:=fF B 0 false 4294967295 fun x a b=>fF B a b 4294967295 fun y a b=>fF B a b 1 fun z a b=>fTl B ⟨x,y,decide ((z:Int)=1)⟩ a b
def ahc(B:List Nat)(ho:oct B)(hl:B.length<=2147483648):Gxx 89 [fzb B] (oV tlF Tl.o (Em B)):=by
 simp only[Em,fF];obtain⟨x,l,q,u,d,n,E,t⟩:=rdN B 0 false 4294967295 ho hl (ax _);simp only[u];obtain⟨y,m,r,u,g,p,F,k2⟩:=rdN B l q 4294967295 ho hl n;simp only[u];obtain⟨w,A,b,u,i,s,G,C⟩:=rdN B m r 1 ho hl p;simp only[u];have j:=fun e bx n' h hb=>zQD e bx n' h 1 B A b hb
 have c:((w:Int) == 1)=decide ((w:Int)=1):=rfl;generalize decide ((w:Int)=1)=f at *;have hv:=JJ ⟨x,y,f⟩;have hf:fTl B ⟨x,y,f⟩ A b=if qD B A b=true/\vTl ⟨x,y,f⟩=0 then some ⟨x,y,f⟩else none:=rfl
 generalize qD B A b=D at *;cases D
 .rw[vg (hf.trans (ag fun h=>nomatch h.1))];refine gI oW ?_;(repeat' first|refine wQ c ?_|refine aU _ (d _ _ _ _ rfl Om) rfl ?_|refine aU _ (g _ _ _ _ rfl Om) rfl ?_|refine aU _ (i _ _ _ _ rfl Om) rfl ?_|refine cZ (j _ _ _ _ rfl) ?_|refine tS ?_ ?_<;>intro k|fail);all_goals exact rE []
 .by_cases a:vTl ⟨x,y,f⟩=0
  .rw[AQ (hf.trans (ah ⟨rfl,a⟩))];rw[a]at hv;refine gI oW ?_;(repeat' first|refine wP c hv ?_|refine aU _ (d _ _ _ _ rfl Om) rfl ?_|refine aU _ (g _ _ _ _ rfl Om) rfl ?_|refine aU _ (i _ _ _ _ rfl Om) rfl ?_|refine cZ (j _ _ _ _ rfl) ?_|refine tS ?_ ?_<;>intro k|fail);all_goals exact rE []
  .rw[vg (hf.trans (ag fun h=>a h.2))];generalize vTl ⟨x,y,f⟩=v at *;refine gI oW ?_;(repeat' first|refine wP c hv ?_|refine aU _ (d _ _ _ _ rfl Om) rfl ?_|refine aU _ (g _ _ _ _ rfl Om) rfl ?_|refine aU _ (i _ _ _ _ rfl Om) rfl ?_|refine cZ (j _ _ _ _ rfl) ?_|refine tS ?_ ?_<;>intro k|fail);all_goals exact rE []
def aeJ{B:List Nat}{t:Tl}(ho:oct B)(h:Em B=some t):vTl t=0/\gX t=B:=by
 simp only[Em,fF]at h;unfold fTl at h;split at h
 .rename_i a;obtain⟨h1,h2⟩:=a;simp only[aO]at h;subst h;refine⟨h2,?_⟩;obtain⟨d,d2⟩:=FH h1;obtain⟨b,f⟩:=jw ho d;obtain⟨q,c⟩:=jw ho b;obtain⟨g,p⟩:=jw ho q;unfold gX;rw[G6 (A7 dX)];simp only[fC];grind
 .cases h
def aeI(B:List Nat)(ho:oct B):Em B=uK B:=by
 refine Ff (fun t h => ?_) (fun t h => ?_)
 .obtain⟨h1,h2⟩:=aeJ ho h;grind[aeK]
 .obtain⟨h1,h2⟩:=TK h;obtain⟨a,c,b⟩:=t;have d:(0<=a/\a<=4294967295)/\(0<=c/\c<=4294967295):=by grind[vTl]
  have f:B.drop 0=ai a.toNat++(ai c.toNat++(ai (if b=true then 1 else 0:Nat)++[])):=by rw[<-h2];unfold gX;rw[wK];simp only[bZ,gV,lX]
  obtain⟨x1,y,g⟩:=jv (m:=4294967295) f Om Om;obtain⟨x2,y2,i⟩:=jv (m:=4294967295) y Om Om;obtain⟨x,y3,j⟩:=jv (m:=1) y2 (wM b) (by cases b<;>decide);simp only[Em,fF];rw[g,i,x1,x2,x,j];unfold fTl;rw[wL,fO d.1.1,fO d.2.1];exact ah ⟨FD y3 (jf ho (jf ho (jf ho (ax _)))),h1⟩
end Go.Proofs.YtopbmdnbdpjheaaGreat
