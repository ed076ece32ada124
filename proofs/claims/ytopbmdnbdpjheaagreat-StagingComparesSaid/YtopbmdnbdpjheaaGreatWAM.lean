/-
  Merged texts.
-/
import Derived.Test.YtopbmdnbdpjheaaGreatWAL
import Derived.Laws.BitsLemmas
import Derived.Laws.Bits64
import Derived.Test.YtopbmdnbdpjheaaGreatWAK
import Derived.Test.YtopbmdnbdpjheaaGreatWAF
set_option linter.all false
set_option linter.unusedVariables false
set_option linter.unusedSimpArgs false
set_option linter.unusedSectionVars false
set_option linter.defProp false
set_option maxRecDepth 100000
set_option maxHeartbeats 8000000
namespace Go.Proofs.YtopbmdnbdpjheaaGreat
open Go Go.Pg
def an7(s:Sk)(ok:s.Ok)(h:vSk s≠0):Gxx 80 [.agg (skF s)] (.tup [fzb (dw s),vi (vSk s)]):=by have h1:=XK s ok;have e:dw s=[]:=ah h;rw[e];refine Good.fzt (vs:=[nls,vi (vSk s)]) ?_ rfl ⟨Xh,aC _,trivial⟩;generalize vSk s=v at *;clear ok e;obtain⟨⟨pk,pz,pd,ps⟩,⟨E,t2,F⟩,⟨c1,c,a,b,d⟩,⟨q,r,t⟩,⟨f,g,i,j⟩,⟨k,l,m,n,p⟩,⟨u,x,y,A,C⟩⟩:=s;refine gI oW ?_;exact wR ae h1 ay
def an8(s:Sk)(ok:s.Ok)(h:vSk s=0)(hk:1<=s.p.k/\s.p.k<=6)(a:Gxx 176 [.agg (skF s)] (fzb (fK s))):Gxx 80 [.agg (skF s)] (.tup [fzb (dw s),vi (vSk s)]):=by
 have h1:=XK s ok;rw[h]at h1⊢;have hbo:=zO s ok h;have e:dw s=jR 83 (ai s.p.k.toNat++fK s):=by unfold dw;rw[ag Om]
 rw[e];have h3:=Pz s.p.k Om;have M:=bP s.p.k.toNat;have d:=dI s.p.k.toNat;generalize fK s=B at *;generalize ai s.p.k.toNat=u at *;have h4:=aog 83 (u++B) dX (bT d hbo.1) (by rw[aN];omega);have q:=aA u;have b:=aA B;have c:=dE u B;clear ok e h;obtain⟨⟨pk,pz,pd,ps⟩,⟨K,t2,L⟩,⟨c1,f,g,i,j⟩,⟨A,C,E⟩,⟨k,l,m,n⟩,⟨p,r,t,v,x⟩,⟨F,G,H,I,J⟩⟩:=s;simp only at *;refine gI oW ?_;(repeat' first|refine wP (Ad q b c @id_eq.{1}) (Ac h1 h3 a) ?_|refine cG [1] h4 ?_|refine tS ?_ ?_<;>intro y|fail);exact rE []
def aoL(s:Sk)(ok:s.Ok)(h:vSk s=0)(hk:s.p.k=1):Gxx 176 [.agg (skF s)] (fzb (fK s)):=by
 obtain⟨_,hp⟩:=qf h;have a:fK s=gX s.tl:=by simp[fK,hk]
 unfold gU at hp;simp only[hk,Int.reduceEq,reduceIte]at hp;rw[a];have h2:=XF s.tl hp;generalize gX s.tl=B at *;clear ok a h hp;obtain⟨⟨pk,pz,pd,ps⟩,⟨E,t2,F⟩,⟨c1,c,b,d,f⟩,⟨r,t,u⟩,⟨g,i,j,k⟩,⟨l,m,n,p,q⟩,⟨v,x,y,A,C⟩⟩:=s;simp only at *;subst hk;refine gI oW ?_;exact wR ae h2 ay
def aoM(s:Sk)(ok:s.Ok)(h:vSk s=0)(hk:s.p.k=2):Gxx 176 [.agg (skF s)] (fzb (fK s)):=by
 obtain⟨_,hp⟩:=qf h;have a:fK s=jD s.cm:=by simp[fK,hk]
 unfold gU at hp;simp only[hk,Int.reduceEq,reduceIte]at hp;rw[a];have h2:=XC s.cm hp ok.cs;generalize jD s.cm=B at *;clear ok a h hp;obtain⟨⟨pk,pz,pd,ps⟩,⟨E,t2,F⟩,⟨c1,c,b,d,f⟩,⟨r,t,u⟩,⟨g,i,j,k⟩,⟨l,m,n,p,q⟩,⟨v,x,y,A,C⟩⟩:=s;simp only at *;subst hk;refine gI oW ?_;exact wR ae h2 ay
def aoN(s:Sk)(ok:s.Ok)(h:vSk s=0)(hk:s.p.k=3):Gxx 176 [.agg (skF s)] (fzb (fK s)):=by
 obtain⟨_,hp⟩:=qf h;have a:fK s=l7 s.ll:=by simp[fK,hk]
 unfold gU at hp;simp only[hk,Int.reduceEq,reduceIte]at hp;rw[a];have h2:=an4 s.ll hp ok.ls ok.ln;generalize l7 s.ll=B at *;clear ok a h hp;obtain⟨⟨pk,pz,pd,ps⟩,⟨E,t2,F⟩,⟨c1,c,b,d,f⟩,⟨r,t,u⟩,⟨g,i,j,k⟩,⟨l,m,n,p,q⟩,⟨v,x,y,A,C⟩⟩:=s;simp only at *;subst hk;refine gI oW ?_;exact wR ae h2 ay
def aoO(s:Sk)(ok:s.Ok)(h:vSk s=0)(hk:s.p.k=4):Gxx 176 [.agg (skF s)] (fzb (fK s)):=by
 obtain⟨_,hp⟩:=qf h;have a:fK s=jG s.tp:=by simp[fK,hk]
 unfold gU at hp;simp only[hk,Int.reduceEq,reduceIte]at hp;rw[a];have h2:=XG s.tp hp ok.to ok.tn;generalize jG s.tp=B at *;clear ok a h hp;obtain⟨⟨pk,pz,pd,ps⟩,⟨E,t2,F⟩,⟨c1,c,b,d,f⟩,⟨r,t,u⟩,⟨g,i,j,k⟩,⟨l,m,n,p,q⟩,⟨v,x,y,A,C⟩⟩:=s;simp only at *;subst hk;refine gI oW ?_;exact wR ae h2 ay
def aoP(s:Sk)(ok:s.Ok)(h:vSk s=0)(hk:s.p.k=5):Gxx 176 [.agg (skF s)] (fzb (fK s)):=by
 obtain⟨_,hp⟩:=qf h;have a:fK s=jE s.fq:=by simp[fK,hk]
 unfold gU at hp;simp only[hk,Int.reduceEq,reduceIte]at hp;rw[a];have h2:=XD s.fq hp ok.fo ok.fn;generalize jE s.fq=B at *;clear ok a h hp;obtain⟨⟨pk,pz,pd,ps⟩,⟨E,t2,F⟩,⟨c1,c,b,d,f⟩,⟨r,t,u⟩,⟨g,i,j,k⟩,⟨l,m,n,p,q⟩,⟨v,x,y,A,C⟩⟩:=s;simp only at *;subst hk;refine gI oW ?_;exact wR ae h2 ay
def aoQ(s:Sk)(ok:s.Ok)(h:vSk s=0)(hk:s.p.k=6):Gxx 176 [.agg (skF s)] (fzb (fK s)):=by
 obtain⟨_,hp⟩:=qf h;have a:fK s=jF s.rk:=by simp[fK,hk]
 unfold gU at hp;simp only[hk,Int.reduceEq,reduceIte]at hp;rw[a];have h2:=XE s.rk hp ok.ro ok.rn ok.rm;generalize jF s.rk=B at *;clear ok a h hp;obtain⟨⟨pk,pz,pd,ps⟩,⟨E,t2,F⟩,⟨c1,c,b,d,f⟩,⟨r,t,u⟩,⟨g,i,j,k⟩,⟨l,m,n,p,q⟩,⟨v,x,y,A,C⟩⟩:=s;simp only at *;subst hk;refine gI oW ?_;exact wR ae h2 ay
def an6(s:Sk)(ok:s.Ok):Gxx 80 [.agg (skF s)] (.tup [fzb (dw s),vi (vSk s)]):=by
 by_cases h:vSk s=0
 .have hk:=Gf (qf h).1;refine an8 s ok h Om ?_;rcases hk with k|k|k|k|k|k
  .exact aoL s ok h k
  .exact aoM s ok h k
  .exact aoN s ok h k
  .exact aoO s ok h k
  .exact aoP s ok h k
  .exact aoQ s ok h k
 .exact an7 s ok h
theorem ZC(n:Int)(h:0<=n/\n<=18446744073709551615):IntKind.u64.wrap n=n:=IntWalk.u64_in n h
def KA(x c:Nat)(hx:x<72057594037927936)(a:c<256):bits .or .u64 (IntKind.u64.wrap ((x:Int)*2^min 8 IntKind.u64.bits)) (c:Int)=((x*256+c:Nat):Int):=by have e:(2:Int)^min 8 IntKind.u64.bits=256:=rfl;rw[e,ZC _ Om];rw[bits_join .u64 64 dX (fun n h h1=>ZC n ⟨h,by omega⟩) 8 _ _ Om Om Om Om Om Om];omega
def acc(l:List Nat):Nat:=l.foldl (fun x c=>x*256+c) 0
theorem zI(l:List Nat)(c:Nat):acc (l++[c])=acc l*256+c:=by simp[acc]
theorem RS:∀(n:Nat) (l:List Nat),l.length=n->oct l->acc l<256^n:=by
 intro n
 induction n with
 |zero=>intro l h _;simp at h;subst h;simp[acc]
 |succ n i =>
  intro l h ho;rcases Ro l with rfl|⟨L,b,rfl⟩
  .simp at h
  .have h1:=i L (by simp at h;exact h) (fun x hx=>ho x (by simp[hx]));have h2:=ho b Aa;grind[zI]
def mid(l:List Nat)(i:Nat):List Nat:=(l.take i).drop 1
def WQ{l:List Nat}{i:Nat}(h1:1<=i)(h:i<l.length):mid l (i+1)=mid l i++[l.getD i 0]:=by grind[mid,List.take_succ_eq_append_getElem,List.getD]
def WR{l:List Nat}(h:oct l)(i:Nat):oct (mid l i):=fun x hx=>h x (Gq (BG hx))
def O1{l:List Nat}{i:Nat}(h:i<=l.length):(mid l i).length=i-1:=by grind[mid]
theorem I5{l:List Nat}{i:Nat}(ho:oct l)(h:i<=l.length):acc (mid l i)<256^(i-1):=RS _ _ (O1 h) (WR ho i)
def WP{l:List Nat}{i k:Nat}(h:i+1<k):(mid l k).getD i 0=l.getD (i+1) 0:=by grind[mid]
def ak(l:List Nat):Nat×Nat×Nat :=
 if l.length=0 then(0,0,3)else
 if l.getD 0 0<248 then(l.getD 0 0,1,0)else
 if l.length<l.getD 0 0-246 then(0,0,3)else
 if l.getD 1 0=0\/acc (mid l (l.getD 0 0-246))<248\/4611686018427387904<acc (mid l (l.getD 0 0-246))then(0,0,2)else(acc (mid l (l.getD 0 0-246)),l.getD 0 0-246,0)
def lU(p:Nat×Nat×Nat):V:=.tup [vi (p.1:Nat),vi (p.2.1:Nat),vi (p.2.2:Nat)]
def xX(l:List Nat)(i:Nat):(bv l).take i=bv (l.take i):=by simp[bv]
def iR(l:List Nat)(i:Nat):(bv l).drop i=bv (l.drop i):=by simp[bv]
theorem oP(l:List Nat)(ho:oct l)(hl:l.length<=2147483648):Gxx 72 [fzb l] (lU (ak l)):=by
 have h:=aA l
 unfold ak
 rcases gG l.length with p|p
 .rw[ah p]
  refine gI oW ?_
  exact wR @h ae ay
 rw[ag Om]
 have G:=kw ho 0
 have d:=lY l 0 p
 generalize H:l.getD 0 0=c at *
 rcases au c 248 with h1|h1
 .rw[ah h1]
  refine gI oW ?_
  exact wR (aI @h @d) ae ay
 rw[ag Om]
 obtain⟨k,rfl⟩:∃k,c=k+247:=⟨c-247,by omega⟩
 have A:(k:Int)+247-248+1=(k:Int):=Om
 have m:k+247-246=k+1:=Om
 rw[m]
 rcases au l.length (k+1)with h2|h2
 .rw[ah h2]
  refine gI oW ?_
  exact wR (aI @h (aI @d @A)) ae ay
 rw[ag Om]
 have t:(mid l (k+1)).length=k:=by rw[O1 h2];omega
 have a:=aA (mid l (k+1))
 rw[t]at a
 have f:((bv l).take (1+k)).drop 1=bv (mid l (k+1)):=by rw[xX,iR,Nat.add_comm];rfl
 have n:Int.toNat (1+(k:Int))=1+k:=Om
 have b:=lY l 1 Om
 refine gI oW ?_
 refine wS (aI @pgv (aI @h (aI @d (aI @A (aI @n (aI @f @a)))))) ae ?_
 have q:acc (mid l 1)=0:=by
  have:=I5 (l:=l) (i:=1) ho Om
  simpa using this
 refine aJ (fun i:Nat=>mkA [(0,fzb l),(5,vi k),(6,.c (.int .u64 (acc (mid l (i+1)):Nat))),(34,fzb (mid l (k+1))),(35,vi k),(36,vi i)] [] 0 (fun _=>.top)) (fun i=>i<=k) (fun i=>k-i) 0 [] [] ?_ (ax _) ?_
 ·(refine kM ?_ ?_;(repeat'(first|exact ae|refine dQ _ _ rfl rfl ?_ ?_));all_goals(try simp only[pgm,simprocAttr]);all_goals(try(repeat' apply aI));all_goals(try exact gz))
  all_goals first|exact kZ (by rw[q];rfl)|exact eF Om|skip
 .intro i hi
  replace hi:i<=k:=hi
  have hb:=kw ho (i+1)
  have ha:=I5 (l:=l) (i:=i+1) ho Om
  rw[uC]at ha
  rcases au i k with s|I
  .have hp:256^i<=256^7:=qL Om Om
   have C:=WP (l:=l) (i:=i) (k:=k+1) Om
   have g:=lY (mid l (k+1)) i Om
   rw[C]at g
   have E:acc (mid l (i+1))*256+l.getD (i+1) 0=acc (mid l (i+1+1)):=by rw[WQ (l:=l) (i:=i+1) Om Om,zI]
   have v:=KA (acc (mid l (i+1))) (l.getD (i+1) 0) Om hb
   rw[E]at v
   refine wS (aI @a (aI @g @v)) ae ?_
   exact bY (i+1) [] [] s
  .have r:i=k:=Om
   subst r
   have hp:256^i<=256^8:=qL Om Om
   have F:=kw ho 1
   generalize acc (mid l (i+1))=x at *
   generalize l.getD 1 0=y at *
   rcases gG y with u|u
   .rw[ah (.inl u)]
    subst u
    exact wR (aI @a (aI @h @b)) ae ay
   .rcases au x 248 with hx|hx
    .rw[ah (.inr (.inl hx))]
     exact wR (aI @a (aI @h @b)) ae ay
    .rcases au 4611686018427387904 x with j|j
     .rw[ah (.inr (.inr j))]
      exact wR (aI @a (aI @h @b)) ae ay
     .rw[ag Om]
      (repeat' first|refine wP (aI @a (aI @h @b)) ae ?_|refine tS ?_ ?_<;>intro G|fail)
      all_goals(refine rT [] ?_;first|rfl|simp only[pgo,simprocAttr]|skip)
      all_goals first|(show V.tup [vi (x:Nat),vi (1+(i:Int)),vi 0]=V.tup [vi (x:Nat),vi ((i+1:Nat):Int),vi 0];rw[show((i+1:Nat):Int)=1+(i:Int) by omega])|skip
def I4{s:List Nat}{i:Nat}(h:i<s.length):acc (s.take i)*256+s.getD i 0=acc (s.take (i+1)):=by rw[mP h,zI];simp[List.getD,h]
def D7{s:List Nat}(ho:oct s){i:Nat}(h:i<=s.length):acc (s.take i)<256^i:=RS _ _ (by rw[bI];omega) (vw ho i)
def dV(l:List Nat):Nat×Nat×Nat:=if l.length<8 then(0,0,3)else(acc (l.take 8),8,0)
def DR(p:Nat×Nat×Nat):V:=.tup [vu (p.1:Nat),vi (p.2.1:Nat),vi (p.2.2:Nat)]
def Px(l:List Nat)(ho:oct l)(hl:l.length<=2147483648):Gxx 162 [fzb l] (DR (dV l)):=by
 have a:=aA l
 unfold dV
 rcases au l.length 8 with h1|h1
 .rw[ah h1]
  refine gI oW ?_
  exact wR a ae ay
 rw[ag Om]
 have n:=xX l 8
 have b:=vw ho 8
 have f:(l.take 8).length=8:=by rw[bI];omega
 generalize l.take 8=s at *
 have h:=aA s
 rw[f]at h
 refine gI oW ?_
 refine wT (Ae @pgv a n @lX.{0} h) ?_
 refine aJ (fun i:Nat=>mkA [(2,.c (.int .u64 (acc (s.take i):Nat))),(11,fzb s),(12,vi 8),(13,vi i)] [] 0 (fun _=>.top)) (fun i=>i<=8) (fun i=>8-i) 0 [] [] ?_ (ax _) ?_
 .exact kY
 .intro i hi
  replace hi:i<=8:=hi
  have hb:=kw b i
  have ha:=D7 b (i:=i) Om
  rcases au i 8 with g|m
  .have hp:256^i<=256^7:=qL Om Om
   have c:=lY s i Om
   have k:=I4 (s:=s) (i:=i) Om
   have j:=KA (acc (s.take i)) (s.getD i 0) Om hb
   rw[k]at j
   refine wT (Ac h c j) ?_
   exact bY (i+1) [] [] g
  .have d:i=8:=Om
   subst d
   have e:s.take 8=s:=oz Om
   rw[e]
   exact wR h ae ay
def bQ(l:List Nat):List Nat×Nat×Nat :=
 if(ak l).2.2≠0 then([],0,(ak l).2.2)else
 if 65536<(ak l).1 then([],0,2)else
 if l.length-(ak l).2.1<(ak l).1 then([],0,3)else((l.drop (ak l).2.1).take (ak l).1,(ak l).2.1+(ak l).1,0)
def zi(p:List Nat×Nat×Nat):V:=.tup [vs p.1,vi (p.2.1:Nat),vi (p.2.2:Nat)]
theorem lS(l:List Nat)(ho:oct l):(ak l).1<=4611686018427387904/\(ak l).2.1<=l.length/\(ak l).2.2<=3:=by
 have h:=kw ho 0;unfold ak;split
 .simp
 .split
  .rename_i h1 h2;simp only;omega
  .split
   .simp
   .split
    .simp
    .rename_i h1 h2 h3 h4;simp only;omega
def Fj(l:List Nat)(ho:oct l)(hl:l.length<=2147483648):Gxx 245 [fzb l] (zi (bQ l)):=by
 have h:=aA l;have h1:=oP l ho hl;obtain⟨g,i,j⟩:=lS l ho;unfold lU at h1;unfold bQ;generalize ak l=q at *;obtain⟨n,k,e⟩:=q;simp only at *;by_cases he:e=0
 .subst he;rw[ag Aa];rcases au 65536 n with h2|h2
  .rw[ah h2];refine gI oW ?_;exact wR h h1 ay
  .rw[ag Om];rcases au (l.length-k) n with h3|h3
   .rw[ah h3];refine gI oW ?_;exact wR h h1 ay
   .rw[ag Om];have c:((bv l).take (k+n)).drop k=bv ((l.drop k).take n):=by rw[xX,iR,sD];congr 2;omega
    have a:Int.toNat ((k:Int)+(n:Int))=k+n:=Om;have b:=fun s d K=>x8 (P:=Tryz.prog) s d 60 9 .fz ((l.drop k).take n) K Za Za Za Za
    refine gI oW ?_;(repeat' first|refine wP (Ae @pgv h a c b) h1 ?_|refine tS ?_ ?_<;>intro f|fail);all_goals exact rE []
 .rw[ah he];refine gI oW ?_;exact wR h h1 ay
end Go.Proofs.YtopbmdnbdpjheaaGreat
section
namespace Go.Proofs.YtopbmdnbdpjheaaGreat
open Go Go.Pg
section
variable (e:Nat->V) (bx:BX) (n:Nat) (h:Nat->V)
theorem awC(b:Nat)(l:List Nat)(x:Nat)(k:Nat)(ho:oct l)(hl:l.length<=2147483648)(hk:k<=l.length)(hd:ak l=(x,k,0))(hb:bx b=some (236,[fzb l,vb false]))(f:b<n) :
  Gxz 157 [.ref b 0] ⟨e,bx,n,h⟩ ⟨e,upd bx b (some (236,[fzb (l.drop k),vb false])),n,h⟩ (vi (x:Nat)):=by
 have a:=oP l ho hl
 rw[hd]at a
 unfold lU at a
 simp only at a
 have c:=aA l
 have d:=iR l k
 refine gZ oW ?_
 refine wS (Ag @aK @aH @aG @hb @pgv c d) a ?_
 refine bC (aW _ _ _) ?_
 rw[aP,aQ]
theorem awG(b:Nat)(l:List Nat)(bad:Bool)(ho:oct l)(hl:l.length<=2147483648)(hd:bad=true\/(ak l).2.2≠0)(hb:bx b=some (236,[fzb l,vb bad]))(d:b<n) :
  Gxz 157 [.ref b 0] ⟨e,bx,n,h⟩ ⟨e,upd bx b (some (236,[fzb l,vb true])),n,h⟩ (vi 0):=by
 have a:=oP l ho hl
 generalize ak l=q at *
 obtain⟨x,k,c⟩:=q
 unfold lU at a
 simp only at a hd
 cases bad
 .have he:c≠0:=by rcases hd with hd|hd;cases hd;exact hd
  refine gZ oW ?_;(repeat' first|refine wP (Ad @aK @aH @aG @hb) a ?_|refine tS ?_ ?_<;>intro f|fail);all_goals(refine bC (aW _ _ _) ?_;rw[aP,aQ])
 .refine gZ oW ?_;(repeat' first|refine wP (Ad @aK @aH @aG @hb) a ?_|refine tS ?_ ?_<;>intro f|fail);all_goals(refine bC (aW _ _ _) ?_;rw[aP,aQ])
theorem awU(b:Nat)(l:List Nat)(x:Nat)(k:Nat)(ho:oct l)(hl:l.length<=2147483648)(hk:k<=l.length)(hd:dV l=(x,k,0))(hb:bx b=some (236,[fzb l,vb false]))(f:b<n) :
  Gxz 158 [.ref b 0] ⟨e,bx,n,h⟩ ⟨e,upd bx b (some (236,[fzb (l.drop k),vb false])),n,h⟩ (vu (x:Nat)):=by
 have a:=Px l ho hl
 rw[hd]at a
 unfold DR at a
 simp only at a
 have c:=aA l
 have d:=iR l k
 refine gZ oW ?_
 refine wS (Ag @aK @aH @aG @hb @pgv c d) a ?_
 refine bC (aW _ _ _) ?_
 rw[aP,aQ]
theorem awV(b:Nat)(l:List Nat)(bad:Bool)(ho:oct l)(hl:l.length<=2147483648)(hd:bad=true\/(dV l).2.2≠0)(hb:bx b=some (236,[fzb l,vb bad]))(d:b<n) :
  Gxz 158 [.ref b 0] ⟨e,bx,n,h⟩ ⟨e,upd bx b (some (236,[fzb l,vb true])),n,h⟩ (vu 0):=by
 have a:=Px l ho hl
 generalize dV l=q at *
 obtain⟨x,k,c⟩:=q
 unfold DR at a
 simp only at a hd
 cases bad
 .have he:c≠0:=by rcases hd with hd|hd;cases hd;exact hd
  refine gZ oW ?_;(repeat' first|refine wP (Ad @aK @aH @aG @hb) a ?_|refine tS ?_ ?_<;>intro f|fail);all_goals(refine bC (aW _ _ _) ?_;rw[aP,aQ])
 .refine gZ oW ?_;(repeat' first|refine wP (Ad @aK @aH @aG @hb) a ?_|refine tS ?_ ?_<;>intro f|fail);all_goals(refine bC (aW _ _ _) ?_;rw[aP,aQ])
theorem awF(b:Nat)(l:List Nat)(x:Nat)(k:Nat)(ho:oct l)(hl:l.length<=2147483648)(hk:k<=l.length)(hd:ak l=(x,k,0))(hb:bx b=some (244,[fzb l,vb false]))(f:b<n) :
  Gxz 164 [.ref b 0] ⟨e,bx,n,h⟩ ⟨e,upd bx b (some (244,[fzb (l.drop k),vb false])),n,h⟩ (vi (x:Nat)):=by
 have a:=oP l ho hl
 rw[hd]at a
 unfold lU at a
 simp only at a
 have c:=aA l
 have d:=iR l k
 refine gZ oW ?_
 refine wS (Ag @aK @aH @aG @hb @pgv c d) a ?_
 refine bC (aW _ _ _) ?_
 rw[aP,aQ]
theorem awJ(b:Nat)(l:List Nat)(bad:Bool)(ho:oct l)(hl:l.length<=2147483648)(hd:bad=true\/(ak l).2.2≠0)(hb:bx b=some (244,[fzb l,vb bad]))(d:b<n) :
  Gxz 164 [.ref b 0] ⟨e,bx,n,h⟩ ⟨e,upd bx b (some (244,[fzb l,vb true])),n,h⟩ (vi 0):=by
 have a:=oP l ho hl
 generalize ak l=q at *
 obtain⟨x,k,c⟩:=q
 unfold lU at a
 simp only at a hd
 cases bad
 .have he:c≠0:=by rcases hd with hd|hd;cases hd;exact hd
  refine gZ oW ?_;(repeat' first|refine wP (Ad @aK @aH @aG @hb) a ?_|refine tS ?_ ?_<;>intro f|fail);all_goals(refine bC (aW _ _ _) ?_;rw[aP,aQ])
 .refine gZ oW ?_;(repeat' first|refine wP (Ad @aK @aH @aG @hb) a ?_|refine tS ?_ ?_<;>intro f|fail);all_goals(refine bC (aW _ _ _) ?_;rw[aP,aQ])
theorem awQ(b:Nat)(l:List Nat)(x:List Nat)(k:Nat)(ho:oct l)(hl:l.length<=2147483648)(hk:k<=l.length)(hd:bQ l=(x,k,0))(hb:bx b=some (244,[fzb l,vb false]))(f:b<n) :
  Gxz 165 [.ref b 0] ⟨e,bx,n,h⟩ ⟨e,upd bx b (some (244,[fzb (l.drop k),vb false])),n,h⟩ (vs x):=by
 have a:=Fj l ho hl
 rw[hd]at a
 unfold zi at a
 simp only at a
 have c:=aA l
 have d:=iR l k
 refine gZ oW ?_
 refine wS (Ag @aK @aH @aG @hb @pgv c d) a ?_
 refine bC (aW _ _ _) ?_
 rw[aP,aQ]
theorem awT(b:Nat)(l:List Nat)(bad:Bool)(ho:oct l)(hl:l.length<=2147483648)(hd:bad=true\/(bQ l).2.2≠0)(hb:bx b=some (244,[fzb l,vb bad]))(d:b<n) :
  Gxz 165 [.ref b 0] ⟨e,bx,n,h⟩ ⟨e,upd bx b (some (244,[fzb l,vb true])),n,h⟩ (vs []):=by
 have a:=Fj l ho hl
 generalize bQ l=q at *
 obtain⟨x,k,c⟩:=q
 unfold zi at a
 simp only at a hd
 cases bad
 .have he:c≠0:=by rcases hd with hd|hd;cases hd;exact hd
  refine gZ oW ?_;(repeat' first|refine wP (Ad @aK @aH @aG @hb) a ?_|refine tS ?_ ?_<;>intro f|fail);all_goals(refine bC (aW _ _ _) ?_;rw[aP,aQ])
 .refine gZ oW ?_;(repeat' first|refine wP (Ad @aK @aH @aG @hb) a ?_|refine tS ?_ ?_<;>intro f|fail);all_goals(refine bC (aW _ _ _) ?_;rw[aP,aQ])
theorem awD(b:Nat)(l:List Nat)(x:Nat)(k:Nat)(ho:oct l)(hl:l.length<=2147483648)(hk:k<=l.length)(hd:ak l=(x,k,0))(hb:bx b=some (248,[fzb l,vb false]))(f:b<n) :
  Gxz 167 [.ref b 0] ⟨e,bx,n,h⟩ ⟨e,upd bx b (some (248,[fzb (l.drop k),vb false])),n,h⟩ (vi (x:Nat)):=by
 have a:=oP l ho hl
 rw[hd]at a
 unfold lU at a
 simp only at a
 have c:=aA l
 have d:=iR l k
 refine gZ oW ?_
 refine wS (Ag @aK @aH @aG @hb @pgv c d) a ?_
 refine bC (aW _ _ _) ?_
 rw[aP,aQ]
theorem awH(b:Nat)(l:List Nat)(bad:Bool)(ho:oct l)(hl:l.length<=2147483648)(hd:bad=true\/(ak l).2.2≠0)(hb:bx b=some (248,[fzb l,vb bad]))(d:b<n) :
  Gxz 167 [.ref b 0] ⟨e,bx,n,h⟩ ⟨e,upd bx b (some (248,[fzb l,vb true])),n,h⟩ (vi 0):=by
 have a:=oP l ho hl
 generalize ak l=q at *
 obtain⟨x,k,c⟩:=q
 unfold lU at a
 simp only at a hd
 cases bad
 .have he:c≠0:=by rcases hd with hd|hd;cases hd;exact hd
  refine gZ oW ?_;(repeat' first|refine wP (Ad @aK @aH @aG @hb) a ?_|refine tS ?_ ?_<;>intro f|fail);all_goals(refine bC (aW _ _ _) ?_;rw[aP,aQ])
 .refine gZ oW ?_;(repeat' first|refine wP (Ad @aK @aH @aG @hb) a ?_|refine tS ?_ ?_<;>intro f|fail);all_goals(refine bC (aW _ _ _) ?_;rw[aP,aQ])
theorem awO(b:Nat)(l:List Nat)(x:List Nat)(k:Nat)(ho:oct l)(hl:l.length<=2147483648)(hk:k<=l.length)(hd:bQ l=(x,k,0))(hb:bx b=some (248,[fzb l,vb false]))(f:b<n) :
  Gxz 168 [.ref b 0] ⟨e,bx,n,h⟩ ⟨e,upd bx b (some (248,[fzb (l.drop k),vb false])),n,h⟩ (vs x):=by
 have a:=Fj l ho hl
 rw[hd]at a
 unfold zi at a
 simp only at a
 have c:=aA l
 have d:=iR l k
 refine gZ oW ?_
 refine wS (Ag @aK @aH @aG @hb @pgv c d) a ?_
 refine bC (aW _ _ _) ?_
 rw[aP,aQ]
theorem awR(b:Nat)(l:List Nat)(bad:Bool)(ho:oct l)(hl:l.length<=2147483648)(hd:bad=true\/(bQ l).2.2≠0)(hb:bx b=some (248,[fzb l,vb bad]))(d:b<n) :
  Gxz 168 [.ref b 0] ⟨e,bx,n,h⟩ ⟨e,upd bx b (some (248,[fzb l,vb true])),n,h⟩ (vs []):=by
 have a:=Fj l ho hl
 generalize bQ l=q at *
 obtain⟨x,k,c⟩:=q
 unfold zi at a
 simp only at a hd
 cases bad
 .have he:c≠0:=by rcases hd with hd|hd;cases hd;exact hd
  refine gZ oW ?_;(repeat' first|refine wP (Ad @aK @aH @aG @hb) a ?_|refine tS ?_ ?_<;>intro f|fail);all_goals(refine bC (aW _ _ _) ?_;rw[aP,aQ])
 .refine gZ oW ?_;(repeat' first|refine wP (Ad @aK @aH @aG @hb) a ?_|refine tS ?_ ?_<;>intro f|fail);all_goals(refine bC (aW _ _ _) ?_;rw[aP,aQ])
theorem awE(b:Nat)(l:List Nat)(x:Nat)(k:Nat)(ho:oct l)(hl:l.length<=2147483648)(hk:k<=l.length)(hd:ak l=(x,k,0))(hb:bx b=some (251,[fzb l,vb false]))(f:b<n) :
  Gxz 170 [.ref b 0] ⟨e,bx,n,h⟩ ⟨e,upd bx b (some (251,[fzb (l.drop k),vb false])),n,h⟩ (vi (x:Nat)):=by
 have a:=oP l ho hl
 rw[hd]at a
 unfold lU at a
 simp only at a
 have c:=aA l
 have d:=iR l k
 refine gZ oW ?_
 refine wS (Ag @aK @aH @aG @hb @pgv c d) a ?_
 refine bC (aW _ _ _) ?_
 rw[aP,aQ]
theorem awI(b:Nat)(l:List Nat)(bad:Bool)(ho:oct l)(hl:l.length<=2147483648)(hd:bad=true\/(ak l).2.2≠0)(hb:bx b=some (251,[fzb l,vb bad]))(d:b<n) :
  Gxz 170 [.ref b 0] ⟨e,bx,n,h⟩ ⟨e,upd bx b (some (251,[fzb l,vb true])),n,h⟩ (vi 0):=by
 have a:=oP l ho hl
 generalize ak l=q at *
 obtain⟨x,k,c⟩:=q
 unfold lU at a
 simp only at a hd
 cases bad
 .have he:c≠0:=by rcases hd with hd|hd;cases hd;exact hd
  refine gZ oW ?_;(repeat' first|refine wP (Ad @aK @aH @aG @hb) a ?_|refine tS ?_ ?_<;>intro f|fail);all_goals(refine bC (aW _ _ _) ?_;rw[aP,aQ])
 .refine gZ oW ?_;(repeat' first|refine wP (Ad @aK @aH @aG @hb) a ?_|refine tS ?_ ?_<;>intro f|fail);all_goals(refine bC (aW _ _ _) ?_;rw[aP,aQ])
theorem awP(b:Nat)(l:List Nat)(x:List Nat)(k:Nat)(ho:oct l)(hl:l.length<=2147483648)(hk:k<=l.length)(hd:bQ l=(x,k,0))(hb:bx b=some (251,[fzb l,vb false]))(f:b<n) :
  Gxz 171 [.ref b 0] ⟨e,bx,n,h⟩ ⟨e,upd bx b (some (251,[fzb (l.drop k),vb false])),n,h⟩ (vs x):=by
 have a:=Fj l ho hl
 rw[hd]at a
 unfold zi at a
 simp only at a
 have c:=aA l
 have d:=iR l k
 refine gZ oW ?_
 refine wS (Ag @aK @aH @aG @hb @pgv c d) a ?_
 refine bC (aW _ _ _) ?_
 rw[aP,aQ]
theorem awS(b:Nat)(l:List Nat)(bad:Bool)(ho:oct l)(hl:l.length<=2147483648)(hd:bad=true\/(bQ l).2.2≠0)(hb:bx b=some (251,[fzb l,vb bad]))(d:b<n) :
  Gxz 171 [.ref b 0] ⟨e,bx,n,h⟩ ⟨e,upd bx b (some (251,[fzb l,vb true])),n,h⟩ (vs []):=by
 have a:=Fj l ho hl
 generalize bQ l=q at *
 obtain⟨x,k,c⟩:=q
 unfold zi at a
 simp only at a hd
 cases bad
 .have he:c≠0:=by rcases hd with hd|hd;cases hd;exact hd
  refine gZ oW ?_;(repeat' first|refine wP (Ad @aK @aH @aG @hb) a ?_|refine tS ?_ ?_<;>intro f|fail);all_goals(refine bC (aW _ _ _) ?_;rw[aP,aQ])
 .refine gZ oW ?_;(repeat' first|refine wP (Ad @aK @aH @aG @hb) a ?_|refine tS ?_ ?_<;>intro f|fail);all_goals(refine bC (aW _ _ _) ?_;rw[aP,aQ])
end
end Go.Proofs.YtopbmdnbdpjheaaGreat
end
section
namespace Go.Proofs.YtopbmdnbdpjheaaGreat
open Go Go.Pg
def nuX(l:List Nat)(b:Bool):Nat:=if b=true\/(ak l).2.2≠0 then 0 else(ak l).1
def nuL(l:List Nat)(b:Bool):List Nat:=if b=true\/(ak l).2.2≠0 then l else l.drop (ak l).2.1
def nuB(l:List Nat)(b:Bool):Bool:=if b=true\/(ak l).2.2≠0 then true else false
def woX(l:List Nat)(b:Bool):Nat:=if b=true\/(dV l).2.2≠0 then 0 else(dV l).1
def woL(l:List Nat)(b:Bool):List Nat:=if b=true\/(dV l).2.2≠0 then l else l.drop (dV l).2.1
def woB(l:List Nat)(b:Bool):Bool:=if b=true\/(dV l).2.2≠0 then true else false
def teX(l:List Nat)(b:Bool):List Nat:=if b=true\/(bQ l).2.2≠0 then[]else(bQ l).1
def teL(l:List Nat)(b:Bool):List Nat:=if b=true\/(bQ l).2.2≠0 then l else l.drop (bQ l).2.1
def teB(l:List Nat)(b:Bool):Bool:=if b=true\/(bQ l).2.2≠0 then true else false
def Kt(l:List Nat)(b:Bool)(ho:oct l):nuX l b<=4611686018427387904:=by grind[nuX,lS]
def E8{l:List Nat}(b:Bool)(ho:oct l):oct (nuL l b):=by grind[nuL,eG]
def E5(l:List Nat)(b:Bool):(nuL l b).length<=l.length:=by grind[nuL]
def au9{l:List Nat}(b:Bool)(ho:oct l):oct (woL l b):=by grind[woL,eG]
def au8(l:List Nat)(b:Bool):(woL l b).length<=l.length:=by grind[woL]
def QO{l:List Nat}(b:Bool)(ho:oct l):oct (teL l b):=by grind[teL,eG]
def QN(l:List Nat)(b:Bool):(teL l b).length<=l.length:=by grind[teL]
theorem Ep(l:List Nat)(ho:oct l):(dV l).1<18446744073709551616/\((dV l).2.2=0->(dV l).2.1<=l.length):=by
 unfold dV;split
 .grind
 .exact⟨D7 ho (i:=8) Om,fun _=>by simp only;omega⟩
theorem Z8(l:List Nat)(b:Bool)(ho:oct l):woX l b<18446744073709551616:=by grind[woX,Ep]
theorem Cc(l:List Nat)(ho:oct l):oct (bQ l).1/\(bQ l).1.length<=65536/\((bQ l).2.2=0->(bQ l).2.1<=l.length):=by
 obtain⟨a,b,c⟩:=lS l ho;unfold bQ;split
 .exact⟨vk,by simp,fun h=>by simp only;omega⟩
 .split
  .grind[vk]
  .split
   .grind[vk]
   .exact⟨vw (eG ho _) _,by simp;omega,fun _=>by simp only;omega⟩
def QP(l:List Nat)(b:Bool)(ho:oct l):oct (teX l b)/\(teX l b).length<=65536:=by grind[teX,vk,Cc]
section
variable (e:Nat->V) (bx:BX) (n:Nat) (h:Nat->V)
theorem Q9(b:Nat)(l:List Nat)(bad:Bool)(ho:oct l)(hl:l.length<=2147483648)(hb:bx b=some (236,[fzb l,vb bad]))(c:b<n) :
  Gxz 157 [.ref b 0] ⟨e,bx,n,h⟩ ⟨e,upd bx b (some (236,[fzb (nuL l bad),vb (nuB l bad)])),n,h⟩ (vi (nuX l bad:Nat)):=by
 by_cases a:bad=true\/(ak l).2.2≠0
 .have f:nuX l bad=0:=ah a;have g:nuL l bad=l:=ah a;have i:nuB l bad=true:=ah a;rw[f,g,i];exact awG e bx n h b l bad ho hl a hb c
 .have f:nuX l bad=(ak l).1:=ag a;have g:nuL l bad=l.drop (ak l).2.1:=ag a;have i:nuB l bad=false:=ag a;rw[f,g,i]
  have d:(ak l).2.2=0:=by
   rcases gG (ak l).2.2 with d|d
   .exact d
   .exact absurd (.inr Om) a
  cases bad with
  |true=>exact absurd (.inl rfl) a
  |false=>exact awC e bx n h b l (ak l).1 (ak l).2.1 ho hl ((lS l ho).2.1) (by rw[<-d]) hb c
theorem awN(b:Nat)(l:List Nat)(bad:Bool)(ho:oct l)(hl:l.length<=2147483648)(hb:bx b=some (236,[fzb l,vb bad]))(d:b<n) :
  Gxz 158 [.ref b 0] ⟨e,bx,n,h⟩ ⟨e,upd bx b (some (236,[fzb (woL l bad),vb (woB l bad)])),n,h⟩ (vu (woX l bad:Nat)):=by
 by_cases a:bad=true\/(dV l).2.2≠0
 .have f:woX l bad=0:=ah a;have g:woL l bad=l:=ah a;have i:woB l bad=true:=ah a;rw[f,g,i];exact awV e bx n h b l bad ho hl a hb d
 .have f:woX l bad=(dV l).1:=ag a;have g:woL l bad=l.drop (dV l).2.1:=ag a;have i:woB l bad=false:=ag a;rw[f,g,i]
  have c:(dV l).2.2=0:=by
   rcases gG (dV l).2.2 with c|c
   .exact c
   .exact absurd (.inr Om) a
  cases bad with
  |true=>exact absurd (.inl rfl) a
  |false=>exact awU e bx n h b l (dV l).1 (dV l).2.1 ho hl ((Ep l ho).2 c) (by rw[<-c]) hb d
theorem Rf(b:Nat)(l:List Nat)(bad:Bool)(ho:oct l)(hl:l.length<=2147483648)(hb:bx b=some (244,[fzb l,vb bad]))(c:b<n) :
  Gxz 164 [.ref b 0] ⟨e,bx,n,h⟩ ⟨e,upd bx b (some (244,[fzb (nuL l bad),vb (nuB l bad)])),n,h⟩ (vi (nuX l bad:Nat)):=by
 by_cases a:bad=true\/(ak l).2.2≠0
 .have f:nuX l bad=0:=ah a;have g:nuL l bad=l:=ah a;have i:nuB l bad=true:=ah a;rw[f,g,i];exact awJ e bx n h b l bad ho hl a hb c
 .have f:nuX l bad=(ak l).1:=ag a;have g:nuL l bad=l.drop (ak l).2.1:=ag a;have i:nuB l bad=false:=ag a;rw[f,g,i]
  have d:(ak l).2.2=0:=by
   rcases gG (ak l).2.2 with d|d
   .exact d
   .exact absurd (.inr Om) a
  cases bad with
  |true=>exact absurd (.inl rfl) a
  |false=>exact awF e bx n h b l (ak l).1 (ak l).2.1 ho hl ((lS l ho).2.1) (by rw[<-d]) hb c
theorem awM(b:Nat)(l:List Nat)(bad:Bool)(ho:oct l)(hl:l.length<=2147483648)(hb:bx b=some (244,[fzb l,vb bad]))(d:b<n) :
  Gxz 165 [.ref b 0] ⟨e,bx,n,h⟩ ⟨e,upd bx b (some (244,[fzb (teL l bad),vb (teB l bad)])),n,h⟩ (vs (teX l bad)):=by
 by_cases a:bad=true\/(bQ l).2.2≠0
 .have f:teX l bad=[]:=ah a;have g:teL l bad=l:=ah a;have i:teB l bad=true:=ah a;rw[f,g,i];exact awT e bx n h b l bad ho hl a hb d
 .have f:teX l bad=(bQ l).1:=ag a;have g:teL l bad=l.drop (bQ l).2.1:=ag a;have i:teB l bad=false:=ag a;rw[f,g,i]
  have c:(bQ l).2.2=0:=by
   rcases gG (bQ l).2.2 with c|c
   .exact c
   .exact absurd (.inr Om) a
  cases bad with
  |true=>exact absurd (.inl rfl) a
  |false=>exact awQ e bx n h b l (bQ l).1 (bQ l).2.1 ho hl ((Cc l ho).2.2 c) (by rw[<-c]) hb d
theorem aak(b:Nat)(l:List Nat)(bad:Bool)(ho:oct l)(hl:l.length<=2147483648)(hb:bx b=some (248,[fzb l,vb bad]))(c:b<n) :
  Gxz 167 [.ref b 0] ⟨e,bx,n,h⟩ ⟨e,upd bx b (some (248,[fzb (nuL l bad),vb (nuB l bad)])),n,h⟩ (vi (nuX l bad:Nat)):=by
 by_cases a:bad=true\/(ak l).2.2≠0
 .have f:nuX l bad=0:=ah a;have g:nuL l bad=l:=ah a;have i:nuB l bad=true:=ah a;rw[f,g,i];exact awH e bx n h b l bad ho hl a hb c
 .have f:nuX l bad=(ak l).1:=ag a;have g:nuL l bad=l.drop (ak l).2.1:=ag a;have i:nuB l bad=false:=ag a;rw[f,g,i]
  have d:(ak l).2.2=0:=by
   rcases gG (ak l).2.2 with d|d
   .exact d
   .exact absurd (.inr Om) a
  cases bad with
  |true=>exact absurd (.inl rfl) a
  |false=>exact awD e bx n h b l (ak l).1 (ak l).2.1 ho hl ((lS l ho).2.1) (by rw[<-d]) hb c
theorem awK(b:Nat)(l:List Nat)(bad:Bool)(ho:oct l)(hl:l.length<=2147483648)(hb:bx b=some (248,[fzb l,vb bad]))(d:b<n) :
  Gxz 168 [.ref b 0] ⟨e,bx,n,h⟩ ⟨e,upd bx b (some (248,[fzb (teL l bad),vb (teB l bad)])),n,h⟩ (vs (teX l bad)):=by
 by_cases a:bad=true\/(bQ l).2.2≠0
 .have f:teX l bad=[]:=ah a;have g:teL l bad=l:=ah a;have i:teB l bad=true:=ah a;rw[f,g,i];exact awR e bx n h b l bad ho hl a hb d
 .have f:teX l bad=(bQ l).1:=ag a;have g:teL l bad=l.drop (bQ l).2.1:=ag a;have i:teB l bad=false:=ag a;rw[f,g,i]
  have c:(bQ l).2.2=0:=by
   rcases gG (bQ l).2.2 with c|c
   .exact c
   .exact absurd (.inr Om) a
  cases bad with
  |true=>exact absurd (.inl rfl) a
  |false=>exact awO e bx n h b l (bQ l).1 (bQ l).2.1 ho hl ((Cc l ho).2.2 c) (by rw[<-c]) hb d
theorem aal(b:Nat)(l:List Nat)(bad:Bool)(ho:oct l)(hl:l.length<=2147483648)(hb:bx b=some (251,[fzb l,vb bad]))(c:b<n) :
  Gxz 170 [.ref b 0] ⟨e,bx,n,h⟩ ⟨e,upd bx b (some (251,[fzb (nuL l bad),vb (nuB l bad)])),n,h⟩ (vi (nuX l bad:Nat)):=by
 by_cases a:bad=true\/(ak l).2.2≠0
 .have f:nuX l bad=0:=ah a;have g:nuL l bad=l:=ah a;have i:nuB l bad=true:=ah a;rw[f,g,i];exact awI e bx n h b l bad ho hl a hb c
 .have f:nuX l bad=(ak l).1:=ag a;have g:nuL l bad=l.drop (ak l).2.1:=ag a;have i:nuB l bad=false:=ag a;rw[f,g,i]
  have d:(ak l).2.2=0:=by
   rcases gG (ak l).2.2 with d|d
   .exact d
   .exact absurd (.inr Om) a
  cases bad with
  |true=>exact absurd (.inl rfl) a
  |false=>exact awE e bx n h b l (ak l).1 (ak l).2.1 ho hl ((lS l ho).2.1) (by rw[<-d]) hb c
theorem awL(b:Nat)(l:List Nat)(bad:Bool)(ho:oct l)(hl:l.length<=2147483648)(hb:bx b=some (251,[fzb l,vb bad]))(d:b<n) :
  Gxz 171 [.ref b 0] ⟨e,bx,n,h⟩ ⟨e,upd bx b (some (251,[fzb (teL l bad),vb (teB l bad)])),n,h⟩ (vs (teX l bad)):=by
 by_cases a:bad=true\/(bQ l).2.2≠0
 .have f:teX l bad=[]:=ah a;have g:teL l bad=l:=ah a;have i:teB l bad=true:=ah a;rw[f,g,i];exact awS e bx n h b l bad ho hl a hb d
 .have f:teX l bad=(bQ l).1:=ag a;have g:teL l bad=l.drop (bQ l).2.1:=ag a;have i:teB l bad=false:=ag a;rw[f,g,i]
  have c:(bQ l).2.2=0:=by
   rcases gG (bQ l).2.2 with c|c
   .exact c
   .exact absurd (.inr Om) a
  cases bad with
  |true=>exact absurd (.inl rfl) a
  |false=>exact awP e bx n h b l (bQ l).1 (bQ l).2.1 ho hl ((Cc l ho).2.2 c) (by rw[<-c]) hb d
end
end Go.Proofs.YtopbmdnbdpjheaaGreat
end
namespace Go.Proofs.YtopbmdnbdpjheaaGreat
open Go Go.Pg
theorem ZB(n:Int)(h:0<=n/\n<=4294967295):IntKind.u32.wrap n=n:=IntWalk.u32_in n h
def Xt(x c:Nat)(hx:x<16777216)(a:c<256):bits .or .u32 (IntKind.u32.wrap ((x:Int)*2^min 8 IntKind.u32.bits)) (c:Int)=((x*256+c:Nat):Int):=by have e:(2:Int)^min 8 IntKind.u32.bits=256:=rfl;rw[e,ZB _ Om];rw[bits_join .u32 32 dX (fun n h h1=>ZB n ⟨h,by omega⟩) 8 _ _ Om Om Om Om Om Om];omega
def Nq(m:List Nat)(ho:oct m):(ak m).1<=4611686018427387904/\(ak m).2.1<=255:=by grind[ak,kw]
def nO(e:Nat):V:=.tup [.c (.int .u8 0),.c (.slice none 0 0),vi 0,vi (e:Nat)]
def ft(l:List Nat)(e:Nat):List Nat:=(l.take (e+4)).drop e
def Jy{l:List Nat}{e:Nat}(h:e+4<=l.length):(ft l e).length=4:=by grind[ft]
def NU{l:List Nat}(h:oct l)(e:Nat):oct (ft l e):=fun x hx=>h x (Gq (BG hx))
def unF(l:List Nat):V :=
 if l.length=0 then nO 3 else
 if(ak (l.drop 1)).2.2≠0 then nO (ak (l.drop 1)).2.2 else
 if 1048576<(ak (l.drop 1)).1 then nO 2 else
 if l.length<1+(ak (l.drop 1)).2.1+(ak (l.drop 1)).1+4 then nO 3 else
 if acc (ft l (1+(ak (l.drop 1)).2.1+(ak (l.drop 1)).1))≠ckN (l.take (1+(ak (l.drop 1)).2.1+(ak (l.drop 1)).1))then nO 4 else
 .tup [.c (.int .u8 (l.getD 0 0:Nat)),ob 0 ((l.take (1+(ak (l.drop 1)).2.1+(ak (l.drop 1)).1)).drop (1+(ak (l.drop 1)).2.1)),
  vi (1+(ak (l.drop 1)).2.1+(ak (l.drop 1)).1+4:Nat),vi 0]
def aoA(l:List Nat)(ho:oct l)(hl:l.length<=2147483648)(M:(ak (l.drop 1)).1≠0):Gxx 71 [fzb l] (unF l):=by
 have a:=aA l
 unfold unF
 rcases gG l.length with m|m
 .rw[ah m]
  refine gI oW ?_
  exact wR a ae ay
 rw[ag Om]
 have d:=oP (l.drop 1) (eG ho 1) (by simp;omega)
 obtain⟨x1,x2⟩:=Nq (l.drop 1) (eG ho 1)
 unfold lU at d
 have j:=iR l 1
 have v:=lY l 0 m
 generalize ak (l.drop 1)=q at *
 obtain⟨x,u,e⟩:=q
 simp only at *
 by_cases he:e=0
 .subst he
  rw[ag Aa]
  rcases au 1048576 x with h1|h1
  .rw[ah h1]
   refine gI oW ?_
   exact wR (Ac @pgv a j) d ay
  rw[ag (show ¬1048576<x by omega)]
  rcases au l.length (1+u+x+4)with h2|h2
  .rw[ah h2]
   refine gI oW ?_
   exact wR (Ac @pgv a j) d ay
  rw[ag (show ¬l.length<1+u+x+4 by omega)]
  have r:=Jy (l:=l) (e:=1+u+x) Om
  have g:=NU ho (1+u+x)
  have t:((bv l).take (1+u+x+4)).drop (1+u+x)=bv (ft l (1+u+x)):=by rw[xX,iR];rfl
  have b:=aA (ft l (1+u+x))
  rw[r]at b
  have c:=xX l (1+u+x)
  have k:=iR (l.take (1+u+x)) (1+u)
  have N:Int.toNat (1+(u:Int)+(x:Int)+4)=1+u+x+4:=Om
  have t2:Int.toNat (1+(u:Int)+(x:Int))=1+u+x:=Om
  have G:Int.toNat (1+(u:Int))=1+u:=Om
  have E:(l.take (1+u+x)).length=1+u+x:=by rw[bI];omega
  have p:((l.take (1+u+x)).drop (1+u)).length=x:=by rw[eH,E];omega
  have f:=aA ((l.take (1+u+x)).drop (1+u))
  rw[p]at f
  have I:=Pq (l.take (1+u+x)) (vw ho _) Om
  have K:=Ec (l.take (1+u+x))
  refine gI oW ?_
  refine wS (Ah @pgv a j N @t2 G t b) d ?_
  refine aJ (fun i:Nat=>mkA [(0,fzb l),(7,vi (u:Nat)),(8,vi (1+(u:Int)+(x:Int))),(9,.c (.int .u32 (acc ((ft l (1+u+x)).take i):Nat))),(46,fzb (ft l (1+u+x))),(47,vi 4),(48,vi i)] [] 0 (fun _=>.top)) (fun i=>i<=4) (fun i=>4-i) 0 [] [] ?_ (ax _) ?_
  .exact kY
  .intro i hi
   replace hi:i<=4:=hi
   have hb:=kw g i
   have ha:=D7 g (i:=i) Om
   rcases au i 4 with C|L
   .have hp:256^i<=256^3:=qL Om Om
    have y:=lY (ft l (1+u+x)) i Om
    have J:=I4 (s:=ft l (1+u+x)) (i:=i) Om
    have H:=Xt (acc ((ft l (1+u+x)).take i)) ((ft l (1+u+x)).getD i 0) Om hb
    rw[J]at H
    refine wT (Ac b y H) ?_
    exact bY (i+1) [] [] C
   .have A:i=4:=Om
    subst A
    have e:(ft l (1+u+x)).take 4=ft l (1+u+x):=oz Om
    rw[e]at *
    generalize ft l (1+u+x)=F at *
    by_cases n:acc F=ckN (l.take (1+u+x))
    .rw[ag (fun h=>h n)]
     rw[n]
     exact wR (A8 @pgv b a @t2 G c k f v) I (ids [1])
    .rw[ah n]
     exact wR (Af @pgv b a @t2 G c) I ay
 .rw[ah he]
  refine gI oW ?_
  exact wR (Ac @pgv a j) d ay
theorem RQ:∀(k n:Nat),acc (be k n)=n%256^k:=by
 intro k
 induction k with
 |zero=>intro n;simp[be,acc,Nat.mod_one]
 |succ k i=>grind[be,zI,Nat.mod_mul]
def Cb(n:Nat)(s:n<=4611686018427387904)(r:List Nat):ak (ai n++r)=(n,(ai n).length,0):=by
 by_cases h:n<248
 .grind[ZH,ak]
 .have l:n<256^8:=Om;obtain⟨d,d2,m⟩:=Nw 8 n l;obtain⟨b,p⟩:=d2 Om;rw[ZG h];generalize dg 8 n=k at *;obtain⟨k,rfl⟩:∃j,k=j+1:=⟨k-1,by omega⟩;have hl:=MO (k+1) n;have ha:=RQ (k+1) n;rw[Md d]at ha;have q:=xR k n;rw[uC]at b;have hp:1<=n / 256^k:=Nat.div_pos b (Nat.pow_pos Om);have t:n / 256^k<256:=by rw[Nat.div_lt_iff_lt_mul (Nat.pow_pos Om)];rw[Gu]at d;rw[Nat.mul_comm];exact d
  have g:((247+(k+1))::be (k+1) n++r).getD 0 0=247+(k+1):=rfl;have c:((247+(k+1))::be (k+1) n++r).getD 1 0=n / 256^k:=by grind
  have i:mid ((247+(k+1))::be (k+1) n++r) (k+2)=be (k+1) n:=by grind[mid]
  have f:((247+(k+1))::be (k+1) n++r).length=k+2+r.length:=by simp only[mO,dB,aN,hl];omega
  have a:247+(k+1)-246=k+2:=Om;unfold ak;rw[g,c,f,a,i,ha];rw[ag Om,ag Om,ag Om,ag Om];simp[hl]
def Bq(n m:Nat):u8i ((n:Int).fdiv (2^(8*m)))=n / 256^m%256:=by
 have a:(256^m:Nat)=2^(8*m):=by rw[Nat.pow_mul]
 grind[u8i]
theorem Z9(n:Nat):eY (n:Int)=be 8 n:=by
 have e:eY (n:Int)=[n / 256^7%256,n / 256^6%256,n / 256^5%256,n / 256^4%256,n / 256^3%256,n / 256^2%256,n / 256^1%256,n / 256^0%256]:=by rw[<-Bq n 7,<-Bq n 6,<-Bq n 5,<-Bq n 4,<-Bq n 3,<-Bq n 2,<-Bq n 1,<-Bq n 0];rfl
 rw[e];rw[xR 7,xR 6,xR 5,xR 4,xR 3,xR 2,xR 1,xR 0];rfl
def Nv(x:Int)(hx:0<=x/\x<18446744073709551616)(r:List Nat):dV (eY x++r)=(x.toNat,8,0):=by grind[hx,qg,dV,Z9,RQ]
def TJ(s:List Nat)(a:s.length<=65536)(r:List Nat):bQ (bG s++r)=(s,(bG s).length,0):=by have h:=Cb s.length Om (s++r);unfold bG;rw[bZ];unfold bQ;rw[h];grind
theorem Tj(F:List Nat):acc (ckB F)=ckN F:=by grind[ckB,acc]
def oV{α:Type}(F:α->List V)(z:α):Option α->V
 |some x=>.tup [.agg (F x),vi 0]
 |none=>.tup [.agg (F z),vi 2]
def AQ{α:Type}{F:α->List V}{z:α}{o:Option α}{x:α}(h:o=some x):oV F z o = .tup [.agg (F x),vi 0]:=by rw[h];rfl
def vg{α:Type}{F:α->List V}{z:α}{o:Option α}(h:o=none):oV F z o = .tup [.agg (F z),vi 2]:=by rw[h];rfl
def tr(l:List Nat):Nat->List Nat
 |0=>l
 |i+1=>(tr l i).drop (ak (tr l i)).2.1
def DN{l:List Nat}(ho:oct l):∀i,oct (tr l i)
 |0=>ho
 |i+1=>eG (DN ho i) _
def LC(l:List Nat):∀i,(tr l i).length<=l.length
 |0=>az _
 |i+1=>by have:=LC l i;show((tr l i).drop _).length<=_;rw[eH];omega
def ED(l:List Nat)(x:Tl):Option Tl:=if vTl x=0/\gX x=l then some x else none
def uK(l:List Nat):Option Tl :=
 if(ak (tr l 0)).2.2=0/\(ak (tr l 1)).2.2=0/\(ak (tr l 2)).2.2=0 then ED l ⟨(ak (tr l 0)).1,(ak (tr l 1)).1,decide (((ak (tr l 2)).1:Int)=1)⟩else none
def aoa(t:Tl)(h:vTl t≠0):Gxx 156 [.agg (tlF t)] (.tup [.c (.slice none 0 0),vi (vTl t)]):=by have h1:=PN t;generalize vTl t=v at *;refine gI oW ?_;exact wR ae h1 ay
def II(l:List Nat):Nat->List V
 |0=>[vi 0,vi 0,vi 0]
 |1=>[vi ((ak (tr l 0)).1:Nat),vi 0,vi 0]
 |2=>[vi ((ak (tr l 0)).1:Nat),vi ((ak (tr l 1)).1:Nat),vi 0]
 |_=>[vi ((ak (tr l 0)).1:Nat),vi ((ak (tr l 1)).1:Nat),vi ((ak (tr l 2)).1:Nat)]
def afq(t:Tl):oct (gX t):=bT (bT (dI _) (dI _)) (by cases t.b<;>exact yT Om)
def anX(l:List Nat)(ho:oct l)(hl:l.length<=2147483648):Gxx 73 [fzb l] (oV tlF Tl.o (uK l)):=by
 have c:=fun(l:List Nat) s d K=>x8 (P:=Tryz.prog) s d 60 9 .fz l K Za Za Za Za
 have k:=oP (tr l 0) (DN ho 0) (iZ (LC l 0) hl);have g:=oP (tr l 1) (DN ho 1) (iZ (LC l 1) hl);have k2:=oP (tr l 2) (DN ho 2) (iZ (LC l 2) hl);obtain⟨m0,y0,L⟩:=lS (tr l 0) (DN ho 0);obtain⟨G,J,M⟩:=lS (tr l 1) (DN ho 1);obtain⟨H,y2,N⟩:=lS (tr l 2) (DN ho 2);unfold lU at k g k2;have x:(bv (tr l 0)).drop (ak (tr l 0)).2.1=bv (tr l 1):=by rw[iR];rfl
 have x1:(bv (tr l 1)).drop (ak (tr l 1)).2.1=bv (tr l 2):=by rw[iR];rfl
 have x2:(bv (tr l 2)).drop (ak (tr l 2)).2.1=bv (tr l 3):=by rw[iR];rfl
 have b0:=aA (tr l 0);have r:=aA (tr l 1);have t:=aA (tr l 2);have j:¬((ak (tr l 0)).2.2=0/\(ak (tr l 1)).2.2=0/\(ak (tr l 2)).2.2=0)->oV tlF Tl.o (uK l) = .tup [.agg [vi 0,vi 0,vb false],vi 2]:=fun h=>vg (ag h)
 have m:((ak (tr l 0)).2.2=0/\(ak (tr l 1)).2.2=0/\(ak (tr l 2)).2.2=0)->uK l=ED l ⟨(ak (tr l 0)).1,(ak (tr l 1)).1,decide (((ak (tr l 2)).1:Int)=1)⟩:=fun h=>ah h
 have u:II l 0=[vi 0,vi 0,vi 0]:=rfl;have c1:II l 1=[vi ((ak (tr l 0)).1:Nat),vi 0,vi 0]:=rfl;have y:II l 2=[vi ((ak (tr l 0)).1:Nat),vi ((ak (tr l 1)).1:Nat),vi 0]:=rfl;have A:II l 3=[vi ((ak (tr l 0)).1:Nat),vi ((ak (tr l 1)).1:Nat),vi ((ak (tr l 2)).1:Nat)]:=rfl;have I:fzb l=fzb (tr l 0):=rfl;refine gI oW ?_;refine wT ae ?_;refine aJ (fun i:Nat=>mkA [(0,fzb l),(2,.ref 0 0),(4,.ref 1 0),(5,fzb (tr l i)),(14,vi i)] [(0,(43,[vi 0,vi 0,vb false])),(1,(233,II l i))] 2 (fun _=>.top)) (fun i=>i<=3/\(0<i->(ak (tr l 0)).2.2=0)/\(1<i->(ak (tr l 1)).2.2=0)/\(2<i->(ak (tr l 2)).2.2=0)) (fun i=>3-i) 0 [] [0,1] ?_ ⟨ax _,by omega,by omega,by omega⟩ ?_
 ·(refine kM ?_ ?_;(repeat'(first|exact ae|refine dQ _ _ rfl rfl ?_ ?_));all_goals(try simp only[pgm,simprocAttr]);all_goals(try(repeat' apply aI));all_goals(try exact gz));all_goals first|exact eF Om|(have e:tr l 0=l:=rfl;rw[e];simp only[jS])|skip
 .rintro i ⟨hi,q,C,F⟩;have p:i=0\/i=1\/i=2\/i=3:=Om;rcases p with rfl|rfl|rfl|rfl
  .rw[u];by_cases he:(ak (tr l 0)).2.2=0
   .rw[he]at k;refine wS (Ac @pgv @b0 x) k ?_;refine dn 1 [] [0,1] ⟨by omega,fun _=>he,by omega,by omega⟩ (by show(3:Nat)-1<3-0;omega) ?_;exact kY
   .rw[j (fun h=>he h.1)];exact wR (Ac @pgv @b0 x) k ay
  .rw[c1];by_cases he:(ak (tr l 1)).2.2=0
   .rw[he]at g;refine wS (Ac @pgv r @x1) g ?_;refine dn 2 [] [0,1] ⟨by omega,fun _=>q Om,fun _=>he,by omega⟩ (by show(3:Nat)-2<3-1;omega) ?_;exact kY
   .rw[j (fun h=>he h.2.1)];exact wR (Ac @pgv r @x1) g ay
  .rw[y];by_cases he:(ak (tr l 2)).2.2=0
   .rw[he]at k2;refine wS (Ac @pgv t @x2) k2 ?_;refine dn 3 [] [0,1] ⟨by omega,fun _=>q Om,fun _=>C Om,fun _=>he⟩ (by show(3:Nat)-3<3-2;omega) ?_;exact kY
   .rw[j (fun h=>he h.2.2)];exact wR (Ac @pgv t @x2) k2 ay
  .have m:=m ⟨q Om,C Om,F Om⟩;rw[m];rw[A];clear j m k g k2 x x1 x2 u c1 y A;generalize(ak (tr l 0)).1=n0 at *;generalize(ak (tr l 1)).1=n at *;generalize(ak (tr l 2)).1=a at *;by_cases hv:vTl ⟨n0,n,decide ((a:Int)=1)⟩=0
   .have f:=XF ⟨n0,n,decide ((a:Int)=1)⟩ hv;have hd:=vF (afq ⟨n0,n,decide ((a:Int)=1)⟩) ho;by_cases he:gX ⟨n0,n,decide ((a:Int)=1)⟩=l
    .have b:oV tlF Tl.o (ED l ⟨n0,n,decide ((a:Int)=1)⟩) = .tup [.agg [vi (n0:Nat),vi (n:Nat),vb (decide ((a:Int)=1))],vi 0]:=AQ (ah ⟨hv,he⟩);rw[b];rw[he]at f;clear hd b he hv;(repeat' first|refine wQ c ?_|refine cU f ?_|refine tS ?_ ?_<;>intro p|fail);all_goals exact rE []
    .have b:oV tlF Tl.o (ED l ⟨n0,n,decide ((a:Int)=1)⟩) = .tup [.agg [vi 0,vi 0,vb false],vi 2]:=vg (ag fun h=>he h.2);rw[b];rw[dK he]at hd;clear b he hv;generalize gX ⟨n0,n,decide ((a:Int)=1)⟩=E at *;(repeat' first|refine wQ (aI c @hd) ?_|refine cU f ?_|refine tS ?_ ?_<;>intro p|fail);all_goals exact rE []
   .have f:=aoa ⟨n0,n,decide ((a:Int)=1)⟩ hv;have b:oV tlF Tl.o (ED l ⟨n0,n,decide ((a:Int)=1)⟩) = .tup [.agg [vi 0,vi 0,vb false],vi 2]:=vg (ag fun h=>hv h.1);rw[b];clear b;generalize vTl ⟨n0,n,decide ((a:Int)=1)⟩=v at *;(repeat' first|refine wQ c ?_|refine cU f ?_|refine tS ?_ ?_<;>intro p|fail);all_goals exact rE []
def oOw{α:Type}(F:α->List V)(zs:List V):Option α->V
 |some x=>.tup [.agg (F x),vi 0]
 |none=>.tup [.agg zs,vi 2]
def xA{α:Type}{F:α->List V}{zs:List V}{o:Option α}{x:α}(h:o=some x):oOw F zs o = .tup [.agg (F x),vi 0]:=by rw[h];rfl
def jc{α:Type}{F:α->List V}{zs:List V}{o:Option α}(h:o=none):oOw F zs o = .tup [.agg zs,vi 2]:=by rw[h];rfl
def wZ{α:Type}{F F':α->List V}{z:α}{zs args:List V}{f:FuncId}{o:Option α}(h:Gxx f args (oOw F' zs o))(h1:∀x,(V.tup [.agg (F' x),vi 0]).noRef=true)(h2:∀x,wkA (V.mapL (fun _=>.fz) id [.agg (F' x),vi 0]) [.agg (F x),vi 0])
  (h3:(V.tup [.agg zs,vi 2]).noRef=true) (h4:wkA (V.mapL (fun _=>.fz) id [.agg zs,vi 2]) [.agg (F z),vi 2]):Gxx f args (oV F z o):=by
 cases o with
 |none=>exact Good.fzt h h3 h4
 |some x=>exact Good.fzt h (h1 x) (h2 x)
def sS(l:List Nat):Nat->List Nat×Bool
 |0=>(l,false)
 |i+1=>(nuL (sS l i).1 (sS l i).2,nuB (sS l i).1 (sS l i).2)
def sx(l:List Nat)(i:Nat):Nat:=nuX (sS l i).1 (sS l i).2
theorem vG{l:List Nat}(ho:oct l):∀i,oct (sS l i).1
 |0=>ho
 |i+1=>E8 _ (vG ho i)
def yZ(l:List Nat):∀i,(sS l i).1.length<=l.length
 |0=>az _
 |i+1=>iZ (E5 _ _) (yZ l i)
theorem o6{l:List Nat}(ho:oct l)(i:Nat):sx l i<=4611686018427387904:=Kt _ _ (vG ho i)
def Kv{l:List En}(h:octE l)(k:List Nat)(c a:Int)(hk:oct k):octE (l++[(k,c,a)]):=by
 intro x hx;rcases iG.1 hx with hx|hx
 .exact h x hx
 .grind
def aam(e:Nat->V)(bx:BX)(n:Nat)(h:Nat->V)(b:Nat)(l:List Nat)(i:Nat)(ho:oct l)(hl:l.length<=2147483648)(hb:bx b=some (236,[fzb (sS l i).1,vb (sS l i).2]))(a:b<n) :
  Gxz 157 [.ref b 0] ⟨e,bx,n,h⟩ ⟨e,upd bx b (some (236,[fzb (sS l (i+1)).1,vb (sS l (i+1)).2])),n,h⟩ (vi (sx l i:Nat)) :=
 Q9 e bx n h b (sS l i).1 (sS l i).2 (vG ho i) (iZ (yZ l i) hl) hb a
def LP(e:Nat->V)(bx:BX)(n:Nat)(h:Nat->V)(b:Nat)(l:List Nat)(i:Nat)(ho:oct l)(hl:l.length<=2147483648)(hb:bx b=some (244,[fzb (sS l i).1,vb (sS l i).2]))(a:b<n) :
  Gxz 164 [.ref b 0] ⟨e,bx,n,h⟩ ⟨e,upd bx b (some (244,[fzb (sS l (i+1)).1,vb (sS l (i+1)).2])),n,h⟩ (vi (sx l i:Nat)) :=
 Rf e bx n h b (sS l i).1 (sS l i).2 (vG ho i) (iZ (yZ l i) hl) hb a
def IP(e:Nat->V)(bx:BX)(n:Nat)(h:Nat->V)(b:Nat)(l:List Nat)(i:Nat)(ho:oct l)(hl:l.length<=2147483648)(hb:bx b=some (248,[fzb (sS l i).1,vb (sS l i).2]))(a:b<n) :
  Gxz 167 [.ref b 0] ⟨e,bx,n,h⟩ ⟨e,upd bx b (some (248,[fzb (sS l (i+1)).1,vb (sS l (i+1)).2])),n,h⟩ (vi (sx l i:Nat)) :=
 aak e bx n h b (sS l i).1 (sS l i).2 (vG ho i) (iZ (yZ l i) hl) hb a
def IQ(e:Nat->V)(bx:BX)(n:Nat)(h:Nat->V)(b:Nat)(l:List Nat)(i:Nat)(ho:oct l)(hl:l.length<=2147483648)(hb:bx b=some (251,[fzb (sS l i).1,vb (sS l i).2]))(a:b<n) :
  Gxz 170 [.ref b 0] ⟨e,bx,n,h⟩ ⟨e,upd bx b (some (251,[fzb (sS l (i+1)).1,vb (sS l (i+1)).2])),n,h⟩ (vi (sx l i:Nat)) :=
 aal e bx n h b (sS l i).1 (sS l i).2 (vG ho i) (iZ (yZ l i) hl) hb a
def an2(c:Cm)(h:vCm c≠0):Gxx 160 [.agg (cmF c)] (.tup [.c (.slice none 0 0),vi (vCm c)]):=by have h1:=PI c;generalize vCm c=v at *;refine gI oW ?_;exact wR ae h1 ay
def xG:Nat->List Int->List Nat->Bool->List Int×List Nat×Bool
 |0,c,l,b=>(c,l,b)
 |k+1,c,l,b=>xG k (c++[((nuX l b:Nat):Int)]) (nuL l b) (nuB l b)
def aqu{k:Nat}{c:List Int}{l:List Nat}{b:Bool}(h:k≠0):xG k c l b=xG (k-1) (c++[((nuX l b:Nat):Int)]) (nuL l b) (nuB l b):=by
 cases k with
 |zero=>exact absurd rfl h
 |succ k=>rfl
def fCm(l:List Nat)(x:Cm)(b:Bool):Option Cm:=if b=true then none else if vCm x=0/\jD x=l then some x else none
def eCm(l:List Nat)(d z s:Nat)(q:List Int×List Nat×Bool):Option Cm:=fCm l ⟨d,z,s,q.1,decide ((nuX q.2.1 q.2.2:Int)=1)⟩ (nuB q.2.1 q.2.2)
def dCm(l:List Nat)(d z s:Nat)(a:List Nat)(b:Bool):Option Cm:=if b=true\/¬(1<=(d:Int)/\(d:Int)<=8/\1<=(z:Int)/\(z:Int)<=64)then none else eCm l d z s (xG (d*z) [] a b)
def wC(l:List Nat):Option Cm:=dCm l (sx l 0) (sx l 1) (woX (sS l 2).1 (sS l 2).2) (woL (sS l 2).1 (sS l 2).2) (woB (sS l 2).1 (sS l 2).2)
def afl(t:Cm):oct (jD t):=by unfold jD;exact bT (bT (bT (bT (dI _) (dI _)) (Q7 _)) (wW _ _ fun _ _=>dI _)) (by cases t.b<;>exact yT Om)
theorem OL(c:List Int)(n:Int):iv c++[vi n]=iv (c++[n]):=OJ c n
def anT(a:List Nat)(ho:oct a)(hl:a.length<=2147483648):Gxx 74 [fzb a] (oV cmF Cm.o (wC a)):=by
 refine wZ (F':=cmF) (zs:=[vi 0,vi 0,vu 0,.c (.slice none 0 0),vb false]) ?_ (fun _=>rfl) (fun _=>⟨aC _,aC _,trivial⟩) rfl ⟨.inr ⟨_,_,rfl,rfl,⟨.inl rfl,.inl rfl,.inl rfl,jB _ _,.inl rfl,trivial⟩⟩,aC _,trivial⟩;have j:=fun(l:List Nat) s d K=>x8 (P:=Tryz.prog) s d 60 9 .fz l K Za Za Za Za
 have z1:=fun e bx n' h hb g=>aam e bx n' h 1 a 0 ho hl hb g
 have z2:=fun e bx n' h hb g=>aam e bx n' h 1 a 1 ho hl hb g
 have o2:=vG ho 2;have n2:=iZ (yZ a 2) hl;have z3:=fun e bx n' h hb g=>awN e bx n' h 1 (sS a 2).1 (sS a 2).2 o2 n2 hb g
 have m0:=o6 ho 0;have m1:=o6 ho 1;have m2:=Z8 (sS a 2).1 (sS a 2).2 o2;have o3:=au9 (sS a 2).2 o2;have n3:=iZ (au8 (sS a 2).1 (sS a 2).2) n2;unfold wC;generalize sx a 0=d at *;generalize sx a 1=z at *;generalize woX (sS a 2).1 (sS a 2).2=s at *;generalize woL (sS a 2).1 (sS a 2).2=U at *;generalize woB (sS a 2).1 (sS a 2).2=b3 at *;cases b3
 case true =>
  rw[jc (o:=dCm a d z s U true) (ah (.inl rfl))]
  refine gI (zN mix) ?_
  (repeat' first|refine wQ (aI @iq j) ?_|refine aU _ (z1 _ _ _ _ rfl Om) rfl ?_|refine aU _ (z2 _ _ _ _ rfl Om) rfl ?_|refine aU _ (z3 _ _ _ _ rfl Om) rfl ?_|refine tS ?_ ?_<;>intro q|fail)
  all_goals exact rE []
 case false =>
  by_cases m:1<=(d:Int)/\(d:Int)<=8/\1<=(z:Int)/\(z:Int)<=64
  case neg =>
   rw[jc (o:=dCm a d z s U false) (ah (.inr m))]
   have kB:=X0 d z m
   refine gI (zN mix) ?_
   (repeat' first|refine wQ (aI @iq j) ?_|refine aU _ (z1 _ _ _ _ rfl Om) rfl ?_|refine aU _ (z2 _ _ _ _ rfl Om) rfl ?_|refine aU _ (z3 _ _ _ _ rfl Om) rfl ?_|refine cU kB ?_|refine tS ?_ ?_<;>intro q|fail)
   all_goals exact rE []
  case pos =>
   have hdC:dCm a d z s U false=eCm a d z s (xG (d*z) [] U false):=ag (by rintro(h|h);cases h;exact h m)
   rw[hdC]
   have kB:=XZ d z m
   obtain⟨F,hF⟩:∃F,F=xG (d*z) [] U false:=⟨_,rfl⟩
   rw[<-hF]
   have hm:=xx (d:=(d:Int)) (z:=(z:Int)) ⟨m.1,m.2.1⟩ m.2.2
   obtain⟨M,hM⟩:∃M,M=d*z:=⟨_,rfl⟩
   have hdz:(d:Int)*(z:Int)=(M:Nat):=by rw[hM];simp
   rw[hdz]at hm
   rw[<-hM]at hF
   refine gI (zN mix) ?_
   (repeat' first|refine wQ (Ac @iq j @hdz) ?_|refine aU _ (z1 _ _ _ _ rfl Om) rfl ?_|refine aU _ (z2 _ _ _ _ rfl Om) rfl ?_|refine aU _ (z3 _ _ _ _ rfl Om) rfl ?_|refine cU kB ?_|refine tS ?_ ?_<;>intro q|fail)
   refine aJ (fun x:List Int×List Nat×Bool=>mkA [(0,fzb a),(2,.ref 0 0),(4,.ref 1 0),(5,.ref 2 0),(36,vi M),(37,vi x.1.length)] [(0,(45,[vi 0,vi 0,vu 0,.c (.slice none 0 0),vb false])),(1,(236,[fzb x.2.1,vb x.2.2])),(2,(45,[vi d,vi z,vu s,.sl (.own 0 3) 1 (iv x.1),vb false]))] 3 (fun _=>.top))
    (fun x=>xG (M-x.1.length) x.1 x.2.1 x.2.2=F/\x.1.length<=M/\oct x.2.1/\x.2.1.length<=2147483648) (fun x=>M-x.1.length) ([],U,false) [] [0,1,2] ?_ ⟨hF.symm,ax _,o3,n3⟩ ?_
   .exact kY
   .rintro⟨c,l,b⟩ ⟨Q,i2,R,i4⟩
    simp only at Q i2 R i4
    have k:=bV c
    by_cases hgo:c.length<M
    .rw[aqu Om]at Q
     have H:=fun e bx n' h hb g=>Q9 e bx n' h 1 l b R i4 hb g
     have q1:=E8 b R
     have q2:=iZ (E5 l b) i4
     have q3:=Kt l b R
     generalize nuX l b=x at *
     generalize nuL l b=l' at *
     generalize nuB l b=I at *
     have hln:(c++[(x:Int)]).length=c.length+1:=Aa
     rw[show M-c.length-1=M-(c++[(x:Int)]).length by rw[hln];omega]at Q
     have hap:=OL c (x:Int)
     (repeat' first|refine wQ (aI @iq k) ?_|refine tS ?_ ?_<;>intro q|fail)
     obtain⟨B0,r⟩:∃f,f=yh [(0,(45,[vi 0,vi 0,vu 0,.c (.slice none 0 0),vb false])),(1,(236,[fzb l,vb b])),(2,(45,[vi d,vi z,vu s,.sl (.own 0 3) 1 (iv c),vb false]))]:=⟨_,rfl⟩
     obtain⟨B1,G⟩:∃f,f=upd B0 1 (some (236,[fzb l',vb I])):=⟨_,rfl⟩
     obtain⟨C,n⟩:∃f:(Nat->Bool)->BX,f=fun S=>if S 3=true then B1 else B0:=⟨_,rfl⟩
     obtain⟨N,p⟩:∃f:(Nat->Bool)->Nat,f=fun S=>if S 4=true then 4 else 3:=⟨_,rfl⟩
     have b0:B0 1=some (236,[fzb l,vb b]):=by rw[r];rfl
     have X:∀S i,i≠3->C S=C (ins S i):=fun S i h3=>by rw[n];simp only[iy (jY h3)]
     have Y:∀S i,i≠4->N S=N (ins S i):=fun S i h7=>by rw[p];simp only[iy (jY h7)]
     have hb2:∀S,C S 2=some (45,[vi d,vi z,vu s,.sl (.own 0 3) 1 (iv c),vb false]):=fun S=>by
      rw[n]
      show(if S 3=true then B1 else B0) 2=_
      cases S 3
      .rw[ag gy,r];exact rfl
      .rw[ah rfl,G,r];exact rfl
     have hnd:([39,40,41,42,43]:List Nat).Nodup:=dX
     refine Ir mix 5 [(39,.ref 2 3),(40,.sl (.own 0 3) 1 (iv c)),(41,.ref 1 0),(42,vi (x:Nat)),(43,.sl (.own 3 3) 1 [vi (x:Nat)])] C N (by rw[n];show B0=_;exact r) (by rw[p];rfl) dX dX dX ?_ ?_
     .intro S i o ho hi Z he hcl
      rcases(Om:i=0\/i=1\/i=2\/i=3\/i=4)with rfl|rfl|rfl|rfl|rfl
      all_goals(simp only[vX,zy,aO]at ho;subst ho)
      all_goals(have sf:=he;simp[edgesOf,Region.binds]at sf)
      all_goals try((repeat' first|refine wQ (Ae Z @sf @bH @dA @hb2) ?_|refine tS ?_ ?_<;>intro q|fail);exact ig _ rfl hnd (X S _ dX) (Y S _ dX))
      .have s2:=he 2 dX
       have J:C S=B0:=by rw[n];simp only[Z];rfl
       have W:C (ins S 3)=B1:=by rw[n];simp only[ni];rfl
       (repeat' first|refine wQ (Ae Z @s2 J @bH @dA) ?_|refine tS ?_ ?_<;>intro q|fail)
       refine cZ (H _ _ _ _ b0 (by rw[p];simp only;split<;>omega)) ?_ (by simp only[dm,dS,pgo,simprocAttr,s2,bH])
       exact ig 3 (T:=[(39,.ref 2 3),(40,.sl (.own 0 3) 1 (iv c)),(41,.ref 1 0),(42,vi (x:Nat)),(43,.sl (.own 3 3) 1 [vi (x:Nat)])]) rfl hnd (by rw[W,G]) (Y S 3 dX)
      .have s3:=he 3 dX
       have J:N S=3:=by rw[p];simp only[Z];rfl
       have W:N (ins S 4)=4:=by rw[p];simp only[ni];rfl
       (repeat' first|refine wQ (Ae Z @s3 J @bH @dA) ?_|refine tS ?_ ?_<;>intro q|fail)
       exact ig 4 rfl hnd (X S 4 dX) W.symm
     .intro S t
      have s1:=t 1 dX dX
      have s4:=t 4 dX dX
      have J:C S=B1:=by rw[n];simp only[t 3 dX dX];rfl
      have W:N S=4:=by rw[p];simp only[s4];rfl
      have y:=hb2 S
      rw[J]at y
      rw[J,W,G,r]
      simp only[IV,lX,dm,dS]
      (repeat' first|refine wQ (Ah @iq k @hap @s1 @s4 @bH @dA y) ?_|refine tS ?_ ?_<;>intro q|fail)
      refine dn (c++[(x:Int)],l',I) [0] [0,1,2] ⟨Q,by show(c++[(x:Int)]).length<=M;omega,q1,q2⟩ (by show M-(c++[(x:Int)]).length<M-c.length;omega) ?_
      (refine kM ?_ ?_;(repeat'(first|exact ae|refine dQ _ _ rfl rfl ?_ ?_));all_goals(try simp only[pgm,simprocAttr]);all_goals(try(repeat' apply aI));all_goals(try exact gz))
      all_goals(try simp only[bH,dA,pgo,simprocAttr,ku,jS,nS])
      all_goals first|done|exact fE rfl rfl|exact eF (by rw[hln];omega)|exact eF Om|exact kZ rfl|skip
    .have hMc:M-c.length=0:=Om
     rw[hMc]at Q
     have hF2:F=(c,l,b):=Q.symm
     subst hF2
     have H:=fun e bx n' h hb g=>Q9 e bx n' h 1 l b R i4 hb g
     have q3:=Kt l b R
     have hfC:eCm a d z s (c,l,b)=fCm a ⟨d,z,s,c,decide ((nuX l b:Int)=1)⟩ (nuB l b):=rfl
     rw[hfC]
     have A:=XC ⟨d,z,s,c,decide ((nuX l b:Int)=1)⟩
     have L:=an2 ⟨d,z,s,c,decide ((nuX l b:Int)=1)⟩
     have hd:=vF (afl ⟨d,z,s,c,decide ((nuX l b:Int)=1)⟩) ho
     generalize nuX l b=x at *
     generalize nuL l b=l' at *
     generalize nuB l b=I at *
     have u:((x:Int) == 1)=decide ((x:Int)=1):=rfl
     generalize decide ((x:Int)=1)=f at *
     have v:fCm a ⟨d,z,s,c,f⟩ I=if I=true then none else if vCm ⟨d,z,s,c,f⟩=0/\jD ⟨d,z,s,c,f⟩=a then some ⟨d,z,s,c,f⟩else none:=rfl
     clear z1 z2 z3 hF
     cases I with
     |false =>
      by_cases hv:vCm ⟨d,z,s,c,f⟩=0
      .have A:=A hv ⟨by show(0:Int)<=(s:Int);omega,by show(s:Int)<_;omega⟩
       by_cases he:jD ⟨d,z,s,c,f⟩=a
       .rw[xA (x:=⟨d,z,s,c,f⟩) (v.trans (by rw[ag gy];exact ah ⟨hv,he⟩))]
        rw[he]at A
        (repeat' first|refine wQ (Ae @iq k j u @id_eq.{1}) ?_|refine aU _ (H _ _ _ _ rfl Om) rfl ?_|refine cG [0] A ?_|refine tS ?_ ?_<;>intro q|fail)
        all_goals exact rE []
       .rw[jc (v.trans (by rw[ag gy];exact ag fun h=>he h.2))]
        rw[dK he]at hd
        generalize jD ⟨d,z,s,c,f⟩=E at *
        (repeat' first|refine wQ (Af @iq k j @hd u @id_eq.{1}) ?_|refine aU _ (H _ _ _ _ rfl Om) rfl ?_|refine cG [0] A ?_|refine tS ?_ ?_<;>intro q|fail)
        all_goals exact rE []
      .have L:=L hv
       rw[jc (v.trans (by rw[ag gy];exact ag fun h=>hv h.1))]
       generalize vCm ⟨d,z,s,c,f⟩=vv at *
       (repeat' first|refine wQ (Ae @iq k j u @id_eq.{1}) ?_|refine aU _ (H _ _ _ _ rfl Om) rfl ?_|refine cG [0] L ?_|refine tS ?_ ?_<;>intro q|fail)
       all_goals exact rE []
     |true =>
      rw[jc (v.trans (ah rfl))]
      by_cases hv:vCm ⟨d,z,s,c,f⟩=0
      .have A:=A hv ⟨by show(0:Int)<=(s:Int);omega,by show(s:Int)<_;omega⟩
       generalize jD ⟨d,z,s,c,f⟩=E at *
       (repeat' first|refine wQ (Ae @iq k j u @id_eq.{1}) ?_|refine aU _ (H _ _ _ _ rfl Om) rfl ?_|refine cG [0] A ?_|refine tS ?_ ?_<;>intro q|fail)
       all_goals exact rE []
      .have L:=L hv
       generalize vCm ⟨d,z,s,c,f⟩=vv at *
       (repeat' first|refine wQ (Ae @iq k j u @id_eq.{1}) ?_|refine aU _ (H _ _ _ _ rfl Om) rfl ?_|refine cG [0] L ?_|refine tS ?_ ?_<;>intro q|fail)
       all_goals exact rE []
def ivU(l:List Nat):List Int:=l.map fun(n:Nat)=>(n:Int)
def akv(l:List Nat)(n:Nat):iv (ivU l)++[vi n]=iv (ivU (l++[n])):=by rw[OJ];simp[ivU]
def aku(l:List Nat):(iv (ivU l)).length=l.length:=by rw[bV];simp[ivU]
def Jw(x:Ll):Option Ll:=if vLl x=0 then some x else none
def dLl(p:Nat)(l:List Nat):Option Ll:=if(dV l).2.2=0/\(l.drop 8).length=2^p then Jw ⟨p,((dV l).1:Nat),ivU (l.drop 8)⟩else none
def sO(l:List Nat):Option Ll:=if(ak l).2.2=0/\(2<=(ak l).1/\(ak l).1<=8)then dLl (ak l).1 (l.drop (ak l).2.1)else none
abbrev llO(x:Ll):List V:=[vi x.p,vu x.s,.sl (.own 0 3) 1 (iv x.r)]
def anV(l:List Nat)(ho:oct l)(hl:l.length<=2147483648):Gxx 75 [fzb l] (oV llF Ll.o (sO l)):=by
 refine wZ (F':=llO) (zs:=[vi 0,vu 0,.c (.slice none 0 0)]) ?_ (fun _=>rfl) (fun _=>⟨aC _,aC _,trivial⟩) rfl ⟨.inr ⟨_,_,rfl,rfl,⟨.inl rfl,.inl rfl,jB _ _,trivial⟩⟩,aC _,trivial⟩;have c:=oP l ho hl;obtain⟨m0,y0,_⟩:=lS l ho;unfold lU at c;have b0:=aA l;unfold sO;generalize ak l=q at *;obtain⟨p,u,J⟩:=q;simp only at *;have F:=iR l u;by_cases he:J=0
 case neg =>
  rw[jc (ag fun h=>he h.1)]
  refine gI oW ?_
  exact wR @b0 c ay
 case pos =>
  subst he
  by_cases hp:2<=p/\p<=8
  case neg =>
   rw[jc (ag fun h=>hp h.2)]
   have n:=XQ (p:Int) Om
   refine gI oW ?_
   exact wR @b0 (aI c n) ay
  case pos =>
   rw[ah ⟨rfl,hp⟩]
   have n:=XP (p:Int) Om
   obtain⟨r,g,j⟩:=yX (p:=(p:Int)) Om
   rw[fC]at r g j
   have E:=eG ho u
   have k:=Px (l.drop u) E (by rw[eH];omega)
   have t:(l.drop u).length=l.length-u:=eH
   unfold dLl
   rcases au (l.drop u).length 8 with H|H
   .have x:dV (l.drop u)=(0,0,3):=ah H
    rw[x]at k⊢
    rw[jc (ag fun h=>nomatch h.1)]
    unfold DR at k
    simp only at k
    refine gI oW ?_
    exact wR (Ad @pgv @b0 F t) (Ac c k n) ay
   .have x:dV (l.drop u)=(acc ((l.drop u).take 8),8,0):=ag Om
    rw[x]at k⊢
    unfold DR at k
    simp only at k⊢
    have ha:=D7 E (i:=8) Om
    have I:Int.toNat ((u:Int)+8)=u+8:=Om
    have x1:(bv l).drop (u+8)=bv ((l.drop u).drop 8):=by rw[iR,su]
    have d:=aA ((l.drop u).drop 8)
    have M:((l.drop u).drop 8).length=l.length-u-8:=by rw[eH,t]
    have L:=eG E 8
    generalize acc ((l.drop u).take 8)=s at *
    by_cases y:((l.drop u).drop 8).length=2^p
    case neg =>
     rw[jc (ag fun h=>y h.2)]
     generalize(l.drop u).drop 8=R at *
     refine gI oW ?_
     exact wR (Ah @pgv @b0 F t I @x1 d r) (Ac c k n) ay
    case pos =>
     rw[ah ⟨trivial,y⟩]
     rw[<-y]at r g j
     have C:=fun i (hi:i<((l.drop u).drop 8).length)=>lY ((l.drop u).drop 8) i hi
     generalize(l.drop u).drop 8=R at *
     have A:=PL ⟨p,(s:Nat),ivU R⟩ (by show(ivU R).length<=_;unfold ivU;rw[aj];omega)
     refine gI oW ?_
     refine wS (Ah @pgv @b0 d F t @x1 I r) (Ac c k n) ?_
     refine aJ (fun i:Nat=>mkA [(2,.ref 0 0),(10,.ref 1 0),(53,fzb R),(54,vi R.length),(55,vi i)] [(0,(47,[vi 0,vu 0,.c (.slice none 0 0)])),(1,(47,[vi p,vu (s:Nat),.sl (.own 0 3) 1 (iv (ivU (R.take i)))]))] 2 (fun _=>.top)) (fun i=>i<=R.length) (fun i=>R.length-i) 0 [] [0,1] ?_ (ax _) ?_
     .exact kY
     .intro i hi
      replace hi:i<=R.length:=hi
      have a:=aku (R.take i)
      rw[bI,qj hi]at a
      rcases au i R.length with b|K
      .have hg:=C i b
       have G:R.take (i+1)=R.take i++[R.getD i 0]:=by rw[mP b];simp[List.getD,b]
       have f:=akv (R.take i) (R.getD i 0)
       rw[<-G]at f
       clear G
       have hb:=kw L i
       generalize R.getD i 0=m at *
       refine wT (Ad d @hg a f) ?_
       exact bY (i+1) [0] [0,1] b
      .have:i=R.length:=Om
       subst this
       rw[gB]at *
       have hf:Jw ⟨p,(s:Nat),ivU R⟩=if vLl ⟨p,(s:Nat),ivU R⟩=0 then some ⟨p,(s:Nat),ivU R⟩else none:=rfl
       by_cases hv:vLl ⟨p,(s:Nat),ivU R⟩=0
       .rw[xA (hf.trans (ah hv))]
        rw[hv]at A
        exact wR (aI d a) A (ids [0])
       .rw[jc (hf.trans (ag hv))]
        generalize vLl ⟨p,(s:Nat),ivU R⟩=v at *
        exact wR (aI d a) A ay
def aob(t:Tp)(h:vTp t≠0)(ho:octE t.e)(a:t.e.length<=1000000):Gxx 166 [.agg (tpF t)] (.tup [.c (.slice none 0 0),vi (vTp t)]):=by have h1:=PO t ho a;generalize vTp t=v at *;refine pR (zM (fun d=>bif d == 48 then true else false) [] mix) Tryz.func166 rfl Tryz.results166 rfl Za (fP Za) ?_;(repeat' first|refine wQ @pgF ?_|refine cU h1 ?_|refine tS ?_ ?_<;>intro b|fail);exact rE []
def rdE(l:List Nat)(b:Bool):En:=(teX l b,(nuX (teL l b) (teB l b):Nat),(nuX (nuL (teL l b) (teB l b)) (nuB (teL l b) (teB l b)):Nat))
def Dy(l:List Nat)(b:Bool):List Nat:=nuL (nuL (teL l b) (teB l b)) (nuB (teL l b) (teB l b))
def Iq(l:List Nat)(b:Bool):Bool:=nuB (nuL (teL l b) (teB l b)) (nuB (teL l b) (teB l b))
def Bi:Nat->Nat->List En->List Nat->Bool->List En×List Nat×Bool
 |0,_,e,l,b=>(e,l,b)
 |k+1,n,e,l,b=>if n=0\/b=true then(e,l,b)else Bi k (n-1) (e++[rdE l b]) (Dy l b) (Iq l b)
def Us(l:List Nat)(x:Tp):Option Tp:=if vTp x=0/\jG x=l then some x else none
def dTp(l:List Nat)(z t:Nat)(f:Bool)(q:List En×List Nat×Bool):Option Tp:=if q.2.2=true then none else Us l ⟨z,t,q.1,f⟩
def wH(l:List Nat):Option Tp:=dTp l (sx l 0) (sx l 1) (decide ((sx l 2:Int)=1)) (Bi 32 (sx l 3) [] (sS l 4).1 (sS l 4).2)
def YJ{k n:Nat}{e:List En}{l:List Nat}{b:Bool}(h:k=0\/n=0\/b=true):Bi k n e l b=(e,l,b):=by
 cases k with
 |zero=>rfl
 |succ k=>exact ah (by rcases h with h|h|h;omega;exact .inl h;exact .inr h)
def YK{k n:Nat}{e:List En}{l:List Nat}{b:Bool}(h1:k≠0)(h2:n≠0)(h3:b=false):Bi k n e l b=Bi (k-1) (n-1) (e++[rdE l b]) (Dy l b) (Iq l b):=by
 cases k with
 |zero=>exact absurd rfl h1
 |succ k=>exact ag (by rintro(h|h);exact h2 h;rw[h3]at h;cases h)
def afs{t:Tp}(ho:octE t.e):oct (jG t):=by refine bT (bT (bT (bT (dI _) (dI _)) (by cases t.b<;>exact yT Om)) (dI _)) ?_;exact wW _ _ fun e he=>bT (bT (FV (ho e he)) (dI _)) (dI _)
def anY(g:List Nat)(ho:oct g)(hl:g.length<=2147483648):Gxx 76 [fzb g] (oV tpF Tp.o (wH g)):=by
 refine wZ (F':=tpF) (zs:=[vi 0,vi 0,.c (.slice none 0 0),vb false]) ?_ (fun _=>rfl) (fun _=>⟨aC _,aC _,trivial⟩) rfl ⟨.inr ⟨_,_,rfl,rfl,⟨.inl rfl,.inl rfl,jB _ _,.inl rfl,trivial⟩⟩,aC _,trivial⟩;have j:=fun(l:List Nat) s d K=>x8 (P:=Tryz.prog) s d 60 9 .fz l K Za Za Za Za
 have S:=fun e bx n' h hb a=>LP e bx n' h 1 g 0 ho hl hb a
 have T:=fun e bx n' h hb a=>LP e bx n' h 1 g 1 ho hl hb a
 have U:=fun e bx n' h hb a=>LP e bx n' h 1 g 2 ho hl hb a
 have W:=fun e bx n' h hb a=>LP e bx n' h 1 g 3 ho hl hb a
 have m0:=o6 ho 0;have m1:=o6 ho 1;have m2:=o6 ho 2;have m3:=o6 ho 3;have o4:=vG ho 4;have Z:=yZ g 4;unfold wH;generalize sx g 0=z at *;generalize sx g 1=i at *;generalize sx g 2=fl at *;generalize sx g 3=N at *;obtain⟨f,hf⟩:∃f,f=decide ((fl:Int)=1):=⟨_,rfl⟩;rw[<-hf];obtain⟨F,J⟩:∃F,F=Bi 32 N [] (sS g 4).1 (sS g 4).2:=⟨_,rfl⟩;rw[<-J];refine gI oW ?_;(repeat' first|refine wQ j ?_|refine aU _ (S _ _ _ _ rfl Om) rfl ?_|refine aU _ (T _ _ _ _ rfl Om) rfl ?_|refine aU _ (U _ _ _ _ rfl Om) rfl ?_|refine aU _ (W _ _ _ _ rfl Om) rfl ?_|refine tS ?_ ?_<;>intro y|fail)
 refine aJ (fun x:List En×List Nat×Bool=>mkA [(0,fzb g),(2,.ref 0 0),(4,.ref 1 0),(5,.ref 2 0),(6,vi N),(7,vi x.1.length)] [(0,(50,[vi 0,vi 0,.c (.slice none 0 0),vb false])),(1,(244,[fzb x.2.1,vb x.2.2])),(2,(50,[vi z,vi i,.sl (.own 0 215) 3 (ev x.1),vb f]))] 3 (fun _=>.top))
  (fun x=>Bi (32-x.1.length) (N-x.1.length) x.1 x.2.1 x.2.2=F/\x.1.length<=32/\x.1.length<=N/\oct x.2.1/\x.2.1.length<=2147483648/\octE x.1) (fun x=>32-x.1.length) ([],(sS g 4).1,(sS g 4).2) [] [0,1,2] ?_ ⟨J.symm,by simp,by simp,o4,iZ Z hl,fun x hx=>by cases hx⟩ ?_
 ·(refine kM ?_ ?_;(repeat'(first|exact ae|refine dQ _ _ rfl rfl ?_ ?_));all_goals(try simp only[pgm,simprocAttr]);all_goals(try(repeat' apply aI));all_goals(try exact gz));all_goals first|exact iT rfl|exact eF Om|exact kZ rfl|exact kZ (by rw[hf];rfl)|skip
 .rintro⟨e,l,b⟩ ⟨A,i2,Y,G,I,r⟩;simp only at A i2 Y G I r;have k:=bJ e;by_cases p:e.length<N/\e.length<32/\b=false
  .obtain⟨g1,g2,rfl⟩:=p;rw[YK Om Om rfl]at A;have w1:=fun e bx n' h hb a=>awM e bx n' h 1 l false G I hb a
   have L:=QO false G;have M:=iZ (QN l false) I;have w2:=fun e bx n' h hb a=>Rf e bx n' h 1 (teL l false) (teB l false) L M hb a
   have Q:=E8 (teB l false) L;have R:=iZ (E5 (teL l false) (teB l false)) M;have w3:=fun e bx n' h hb a=>Rf e bx n' h 1 (nuL (teL l false) (teB l false)) (nuB (teL l false) (teB l false)) Q R hb a
   have q5:oct (Dy l false):=E8 _ Q;have q6:(Dy l false).length<=2147483648:=iZ (E5 _ _) R;obtain⟨q7,_⟩:=QP l false G;have C:=uO e (teX l false) (nuX (teL l false) (teB l false):Nat) (nuX (nuL (teL l false) (teB l false)) (nuB (teL l false) (teB l false)):Nat);have H:rdE l false=(teX l false,((nuX (teL l false) (teB l false):Nat):Int),((nuX (nuL (teL l false) (teB l false)) (nuB (teL l false) (teB l false)):Nat):Int)):=rfl;have q:(e++[rdE l false]).length=e.length+1:=Aa;have q8:octE (e++[rdE l false]):=Kv r _ _ _ q7;rw[<-H]at C;rw[show 32-e.length-1=32-(e++[rdE l false]).length by rw[q];omega,show N-e.length-1=N-(e++[rdE l false]).length by rw[q];omega]at A;(repeat' first|refine wQ (aI k C) ?_|refine aU _ (w1 _ _ _ _ rfl Om) rfl ?_|refine aU _ (w2 _ _ _ _ rfl Om) rfl ?_|refine aU _ (w3 _ _ _ _ rfl Om) rfl ?_|refine tS ?_ ?_<;>intro y|fail);refine dn (e++[rdE l false],Dy l false,Iq l false) [0] [0,1,2] ⟨A,by show(e++[rdE l false]).length<=32;omega,by show(e++[rdE l false]).length<=N;omega,q5,q6,q8⟩ (by show 32-(e++[rdE l false]).length<32-e.length;omega) ?_;(refine kM ?_ ?_;(repeat'(first|exact ae|refine dQ _ _ rfl rfl ?_ ?_));all_goals(try simp only[pgm,simprocAttr]);all_goals(try(repeat' apply aI));all_goals(try exact gz));all_goals first|exact fE rfl rfl|exact eF Om|exact kZ rfl|exact eF (by rw[q];omega)|exact Vs rfl|skip
  .rw[YJ (by
    by_cases c1:e.length<N
    .by_cases X:e.length<32
     .cases b with
      |false=>exact absurd ⟨c1,X,rfl⟩ p
      |true=>exact .inr (.inr rfl)
     .exact .inl Om
    .exact .inr (.inl Om))]at A
   subst A;have n:=XG ⟨z,i,e,f⟩;have u:=aob ⟨z,i,e,f⟩;have hd:=vF (afs (t:=⟨z,i,e,f⟩) r) ho;have m:dTp g z i f (e,l,b)=if b=true then none else if vTp ⟨z,i,e,f⟩=0/\jG ⟨z,i,e,f⟩=g then some ⟨z,i,e,f⟩else none:=rfl
   clear S T U W hf;cases b with
   |false =>
    rcases(by
     rcases au e.length N with h1|h1
     .rcases au e.length 32 with h2|h2
      .exact absurd ⟨h1,h2,rfl⟩ p
      .exact .inr ⟨h1,h2⟩
     .exact .inl h1:(N<=e.length)\/(e.length<N/\32<=e.length))with c|c
    all_goals
     by_cases hv:vTp ⟨z,i,e,f⟩=0
     .have n:=n hv r (by show e.length<=_;omega)
      by_cases he:jG ⟨z,i,e,f⟩=g
      .rw[xA (x:=⟨z,i,e,f⟩) (m.trans (by rw[ag gy];exact ah ⟨hv,he⟩))]
       rw[he]at n
       (repeat' first|refine wQ (Ac k j @id_eq.{1}) ?_|refine cG [0] n ?_|refine tS ?_ ?_<;>intro y|fail)
       all_goals exact rE []
      .rw[jc (m.trans (by rw[ag gy];exact ag fun h=>he h.2))]
       rw[dK he]at hd
       generalize jG ⟨z,i,e,f⟩=E at *
       (repeat' first|refine wQ (Ad k j @hd @id_eq.{1}) ?_|refine cG [0] n ?_|refine tS ?_ ?_<;>intro y|fail)
       all_goals exact rE []
     .have u:=u hv r (by show e.length<=_;omega)
      rw[jc (m.trans (by rw[ag gy];exact ag fun h=>hv h.1))]
      generalize vTp ⟨z,i,e,f⟩=v at *
      (repeat' first|refine wQ (Ac k j @id_eq.{1}) ?_|refine cG [0] u ?_|refine tS ?_ ?_<;>intro y|fail)
      all_goals exact rE []
   |true =>
    rw[jc (m.trans (ah rfl))];rcases(Om:(N<=e.length)\/(e.length<N/\32<=e.length)\/(e.length<N/\e.length<32))with c|c|c
    all_goals
     by_cases hv:vTp ⟨z,i,e,f⟩=0
     .have n:=n hv r (by show e.length<=_;omega)
      generalize jG ⟨z,i,e,f⟩=E at *
      (repeat' first|refine wQ (Ac k j @id_eq.{1}) ?_|refine cG [0] n ?_|refine tS ?_ ?_<;>intro y|fail)
      all_goals exact rE []
     .have u:=u hv r (by show e.length<=_;omega)
      generalize vTp ⟨z,i,e,f⟩=v at *
      (repeat' first|refine wQ (Ac k j @id_eq.{1}) ?_|refine cG [0] u ?_|refine tS ?_ ?_<;>intro y|fail)
      all_goals exact rE []
def an3(t:Fq)(h:vFq t≠0)(ho:octE t.e)(a:t.e.length<=1000000):Gxx 169 [.agg (fqF t)] (.tup [.c (.slice none 0 0),vi (vFq t)]):=by have h1:=PK t ho a;generalize vFq t=v at *;refine pR (zM (fun d=>bif d == 48 then true else false) [] mix) Tryz.func169 rfl Tryz.results169 rfl Za (fP Za) ?_;(repeat' first|refine wQ @pgF ?_|refine cU h1 ?_|refine tS ?_ ?_<;>intro b|fail);exact rE []
def rfE(l:List Nat)(b:Bool):En:=(teX l b,(nuX (teL l b) (teB l b):Nat),0)
def DD(l:List Nat)(b:Bool):List Nat:=nuL (teL l b) (teB l b)
def Iz(l:List Nat)(b:Bool):Bool:=nuB (teL l b) (teB l b)
def Bg:Nat->Nat->List En->List Nat->Bool->List En×List Nat×Bool
 |0,_,e,l,b=>(e,l,b)
 |k+1,n,e,l,b=>if n=0\/b=true then(e,l,b)else Bg k (n-1) (e++[rfE l b]) (DD l b) (Iz l b)
def Un(l:List Nat)(x:Fq):Option Fq:=if vFq x=0/\jE x=l then some x else none
def dFq(l:List Nat)(z t lo:Nat)(f:Bool)(q:List En×List Nat×Bool):Option Fq:=if q.2.2=true then none else Un l ⟨z,t,lo,q.1,f⟩
def wE(l:List Nat):Option Fq:=dFq l (sx l 0) (sx l 1) (sx l 2) (decide ((sx l 3:Int)=1)) (Bg 32 (sx l 4) [] (sS l 5).1 (sS l 5).2)
def YE{k n:Nat}{e:List En}{l:List Nat}{b:Bool}(h:k=0\/n=0\/b=true):Bg k n e l b=(e,l,b):=by
 cases k with
 |zero=>rfl
 |succ k=>exact ah (by rcases h with h|h|h;omega;exact .inl h;exact .inr h)
def YF{k n:Nat}{e:List En}{l:List Nat}{b:Bool}(h1:k≠0)(h2:n≠0)(h3:b=false):Bg k n e l b=Bg (k-1) (n-1) (e++[rfE l b]) (DD l b) (Iz l b):=by
 cases k with
 |zero=>exact absurd rfl h1
 |succ k=>exact ag (by rintro(h|h);exact h2 h;rw[h3]at h;cases h)
def afn{t:Fq}(ho:octE t.e):oct (jE t):=by refine bT (bT (bT (bT (bT (dI _) (dI _)) (dI _)) (by cases t.b<;>exact yT Om)) (dI _)) ?_;exact wW _ _ fun e he=>bT (FV (ho e he)) (dI _)
def anU(g:List Nat)(ho:oct g)(hl:g.length<=2147483648):Gxx 77 [fzb g] (oV fqF Fq.o (wE g)):=by
 refine wZ (F':=fqF) (zs:=[vi 0,vi 0,vi 0,.c (.slice none 0 0),vb false]) ?_ (fun _=>rfl) (fun _=>⟨aC _,aC _,trivial⟩) rfl ⟨.inr ⟨_,_,rfl,rfl,⟨.inl rfl,.inl rfl,.inl rfl,jB _ _,.inl rfl,trivial⟩⟩,aC _,trivial⟩;have j:=fun(l:List Nat) s d K=>x8 (P:=Tryz.prog) s d 60 9 .fz l K Za Za Za Za
 have Q:=fun e bx n' h hb a=>IP e bx n' h 1 g 0 ho hl hb a
 have R:=fun e bx n' h hb a=>IP e bx n' h 1 g 1 ho hl hb a
 have S:=fun e bx n' h hb a=>IP e bx n' h 1 g 2 ho hl hb a
 have T:=fun e bx n' h hb a=>IP e bx n' h 1 g 3 ho hl hb a
 have U:=fun e bx n' h hb a=>IP e bx n' h 1 g 4 ho hl hb a
 have m0:=o6 ho 0;have m1:=o6 ho 1;have m2:=o6 ho 2;have m3:=o6 ho 3;have m4:=o6 ho 4;have Z:=vG ho 5;have Y:=yZ g 5;unfold wE;generalize sx g 0=z at *;generalize sx g 1=i at *;generalize sx g 2=lo at *;generalize sx g 3=fl at *;generalize sx g 4=N at *;obtain⟨f,hf⟩:∃f,f=decide ((fl:Int)=1):=⟨_,rfl⟩;rw[<-hf];obtain⟨F,J⟩:∃F,F=Bg 32 N [] (sS g 5).1 (sS g 5).2:=⟨_,rfl⟩;rw[<-J];refine gI oW ?_;(repeat' first|refine wQ j ?_|refine aU _ (Q _ _ _ _ rfl Om) rfl ?_|refine aU _ (R _ _ _ _ rfl Om) rfl ?_|refine aU _ (S _ _ _ _ rfl Om) rfl ?_|refine aU _ (T _ _ _ _ rfl Om) rfl ?_|refine aU _ (U _ _ _ _ rfl Om) rfl ?_|refine tS ?_ ?_<;>intro y|fail)
 refine aJ (fun x:List En×List Nat×Bool=>mkA [(0,fzb g),(2,.ref 0 0),(4,.ref 1 0),(5,.ref 2 0),(6,vi N),(7,vi x.1.length)] [(0,(52,[vi 0,vi 0,vi 0,.c (.slice none 0 0),vb false])),(1,(248,[fzb x.2.1,vb x.2.2])),(2,(52,[vi z,vi i,vi lo,.sl (.own 0 215) 3 (ev x.1),vb f]))] 3 (fun _=>.top))
  (fun x=>Bg (32-x.1.length) (N-x.1.length) x.1 x.2.1 x.2.2=F/\x.1.length<=32/\x.1.length<=N/\oct x.2.1/\x.2.1.length<=2147483648/\octE x.1) (fun x=>32-x.1.length) ([],(sS g 5).1,(sS g 5).2) [] [0,1,2] ?_ ⟨J.symm,by simp,by simp,Z,iZ Y hl,fun x hx=>by cases hx⟩ ?_
 ·(refine kM ?_ ?_;(repeat'(first|exact ae|refine dQ _ _ rfl rfl ?_ ?_));all_goals(try simp only[pgm,simprocAttr]);all_goals(try(repeat' apply aI));all_goals(try exact gz));all_goals first|exact iT rfl|exact eF Om|exact kZ rfl|exact kZ (by rw[hf];rfl)|skip
 .rintro⟨e,l,b⟩ ⟨A,i2,X,G,I,r⟩;simp only at A i2 X G I r;have k:=bJ e;by_cases p:e.length<N/\e.length<32/\b=false
  .obtain⟨g1,g2,rfl⟩:=p;rw[YF Om Om rfl]at A;have w1:=fun e bx n' h hb a=>awK e bx n' h 1 l false G I hb a
   have L:=QO false G;have M:=iZ (QN l false) I;have w2:=fun e bx n' h hb a=>aak e bx n' h 1 (teL l false) (teB l false) L M hb a
   have q3:=E8 (teB l false) L;have q4:=iZ (E5 (teL l false) (teB l false)) M;have q5:oct (DD l false):=q3;have q6:(DD l false).length<=2147483648:=q4;obtain⟨q7,_⟩:=QP l false G;have C:=uO e (teX l false) (nuX (teL l false) (teB l false):Nat) 0;have H:rfE l false=(teX l false,((nuX (teL l false) (teB l false):Nat):Int),0):=rfl;have q:(e++[rfE l false]).length=e.length+1:=Aa;have q8:octE (e++[rfE l false]):=Kv r _ _ _ q7;rw[<-H]at C;rw[show 32-e.length-1=32-(e++[rfE l false]).length by rw[q];omega,show N-e.length-1=N-(e++[rfE l false]).length by rw[q];omega]at A;(repeat' first|refine wQ (aI k C) ?_|refine aU _ (w1 _ _ _ _ rfl Om) rfl ?_|refine aU _ (w2 _ _ _ _ rfl Om) rfl ?_|refine tS ?_ ?_<;>intro y|fail);refine dn (e++[rfE l false],DD l false,Iz l false) [0] [0,1,2] ⟨A,by show(e++[rfE l false]).length<=32;omega,by show(e++[rfE l false]).length<=N;omega,q5,q6,q8⟩ (by show 32-(e++[rfE l false]).length<32-e.length;omega) ?_;(refine kM ?_ ?_;(repeat'(first|exact ae|refine dQ _ _ rfl rfl ?_ ?_));all_goals(try simp only[pgm,simprocAttr]);all_goals(try(repeat' apply aI));all_goals(try exact gz));all_goals first|exact fE rfl rfl|exact eF Om|exact kZ rfl|exact eF (by rw[q];omega)|exact Vs rfl|skip
  .rw[YE (by
    by_cases c1:e.length<N
    .by_cases W:e.length<32
     .cases b with
      |false=>exact absurd ⟨c1,W,rfl⟩ p
      |true=>exact .inr (.inr rfl)
     .exact .inl Om
    .exact .inr (.inl Om))]at A
   subst A;have n:=XD ⟨z,i,lo,e,f⟩;have u:=an3 ⟨z,i,lo,e,f⟩;have hd:=vF (afn (t:=⟨z,i,lo,e,f⟩) r) ho;have m:dFq g z i lo f (e,l,b)=if b=true then none else if vFq ⟨z,i,lo,e,f⟩=0/\jE ⟨z,i,lo,e,f⟩=g then some ⟨z,i,lo,e,f⟩else none:=rfl
   clear Q R S T U hf;cases b with
   |false =>
    rcases(by
     rcases au e.length N with h1|h1
     .rcases au e.length 32 with h2|h2
      .exact absurd ⟨h1,h2,rfl⟩ p
      .exact .inr ⟨h1,h2⟩
     .exact .inl h1:(N<=e.length)\/(e.length<N/\32<=e.length))with c|c
    all_goals
     by_cases hv:vFq ⟨z,i,lo,e,f⟩=0
     .have n:=n hv r (by show e.length<=_;omega)
      by_cases he:jE ⟨z,i,lo,e,f⟩=g
      .rw[xA (x:=⟨z,i,lo,e,f⟩) (m.trans (by rw[ag gy];exact ah ⟨hv,he⟩))]
       rw[he]at n
       (repeat' first|refine wQ (Ac k j @id_eq.{1}) ?_|refine cG [0] n ?_|refine tS ?_ ?_<;>intro y|fail)
       all_goals exact rE []
      .rw[jc (m.trans (by rw[ag gy];exact ag fun h=>he h.2))]
       rw[dK he]at hd
       generalize jE ⟨z,i,lo,e,f⟩=E at *
       (repeat' first|refine wQ (Ad k j @hd @id_eq.{1}) ?_|refine cG [0] n ?_|refine tS ?_ ?_<;>intro y|fail)
       all_goals exact rE []
     .have u:=u hv r (by show e.length<=_;omega)
      rw[jc (m.trans (by rw[ag gy];exact ag fun h=>hv h.1))]
      generalize vFq ⟨z,i,lo,e,f⟩=v at *
      (repeat' first|refine wQ (Ac k j @id_eq.{1}) ?_|refine cG [0] u ?_|refine tS ?_ ?_<;>intro y|fail)
      all_goals exact rE []
   |true =>
    rw[jc (m.trans (ah rfl))];rcases(Om:(N<=e.length)\/(e.length<N/\32<=e.length)\/(e.length<N/\e.length<32))with c|c|c
    all_goals
     by_cases hv:vFq ⟨z,i,lo,e,f⟩=0
     .have n:=n hv r (by show e.length<=_;omega)
      generalize jE ⟨z,i,lo,e,f⟩=E at *
      (repeat' first|refine wQ (Ac k j @id_eq.{1}) ?_|refine cG [0] n ?_|refine tS ?_ ?_<;>intro y|fail)
      all_goals exact rE []
     .have u:=u hv r (by show e.length<=_;omega)
      generalize vFq ⟨z,i,lo,e,f⟩=v at *
      (repeat' first|refine wQ (Ac k j @id_eq.{1}) ?_|refine cG [0] u ?_|refine tS ?_ ?_<;>intro y|fail)
      all_goals exact rE []
def an5(t:Rk)(h:vRk t≠0)(hv:∀l∈t.v,octL l)(b:t.v.length<=1000000)(a:∀l∈t.v,l.length<=1000000):Gxx 172 [.agg (rkF t)] (.tup [.c (.slice none 0 0),vi (vRk t)]):=by have h1:=PM t hv b a;generalize vRk t=v at *;refine gI oW ?_;(repeat' first|refine wO ?_|refine cU h1 ?_|refine tS ?_ ?_<;>intro c|fail);exact rE []
def qI:Nat->List (List Nat)->List Nat->Bool->List (List Nat)×List Nat×Bool
 |0,a,l,b=>(a,l,b)
 |k+1,a,l,b=>if b=true then(a,l,b)else qI k (a++[teX l b]) (teL l b) (teB l b)
def Bh:Nat->Nat->List (List (List Nat))->List Nat->Bool->List (List (List Nat))×List Nat×Bool
 |0,_,v,l,b=>(v,l,b)
 |f+1,n,v,l,b=>if n=0\/b=true then(v,l,b)else
  Bh f (n-1) (v++[(qI (nuX l b) [] (nuL l b) (nuB l b)).1]) (qI (nuX l b) [] (nuL l b) (nuB l b)).2.1 (qI (nuX l b) [] (nuL l b) (nuB l b)).2.2
def Ur(l:List Nat)(x:Rk):Option Rk:=if vRk x=0/\jF x=l then some x else none
def dRk(l:List Nat)(z t lo:Nat)(f:Bool)(q:List (List (List Nat))×List Nat×Bool):Option Rk:=if q.2.2=true then none else Ur l ⟨z,t,lo,q.1,f⟩
def wF(l:List Nat):Option Rk:=dRk l (sx l 0) (sx l 1) (sx l 2) (decide ((sx l 3:Int)=1)) (Bh 41 (sx l 4) [] (sS l 5).1 (sS l 5).2)
def aqD{k:Nat}{a:List (List Nat)}{l:List Nat}{b:Bool}(h:k=0\/b=true):qI k a l b=(a,l,b):=by
 cases k with
 |zero=>rfl
 |succ k=>exact ah (by rcases h with h|h;omega;exact h)
def YG{k:Nat}{a:List (List Nat)}{l:List Nat}(h1:k≠0):qI k a l false=qI (k-1) (a++[teX l false]) (teL l false) (teB l false):=by
 cases k with
 |zero=>exact absurd rfl h1
 |succ k=>exact ag gy
def YH{k n:Nat}{e:List (List (List Nat))}{l:List Nat}{b:Bool}(h:k=0\/n=0\/b=true):Bh k n e l b=(e,l,b):=by
 cases k with
 |zero=>rfl
 |succ k=>exact ah (by rcases h with h|h|h;omega;exact .inl h;exact .inr h)
def YI{k n:Nat}{e:List (List (List Nat))}{l:List Nat}(h1:k≠0)(h2:n≠0):Bh k n e l false=Bh (k-1) (n-1) (e++[(qI (nuX l false) [] (nuL l false) (nuB l false)).1]) (qI (nuX l false) [] (nuL l false) (nuB l false)).2.1 (qI (nuX l false) [] (nuL l false) (nuB l false)).2.2:=by
 cases k with
 |zero=>exact absurd rfl h1
 |succ k=>exact ag (by rintro(h|h);exact h2 h;cases h)
def afp{t:Rk}(ho:∀l∈t.v,octL l):oct (jF t):=by refine bT (bT (bT (bT (bT (dI _) (dI _)) (dI _)) (by cases t.b<;>exact yT Om)) (dI _)) ?_;exact wW _ _ fun e he=>bT (dI _) (wW _ _ fun k hk=>FV (ho e he k hk))
def aul(l:List Nat):(teL l false).length+1<=l.length\/teB l false=true:=by grind[teL,teB,bQ,ak]
def Xm{v:List (List (List Nat))}{k:List (List Nat)}(h:∀l∈v,octL l)(hk:octL k):∀l∈v++[k],octL l:=by grind
def Xl{a:List (List Nat)}{k:List Nat}(h:octL a)(hk:oct k):octL (a++[k]):=by
 intro x hx;rcases iG.1 hx with hx|hx
 .exact h x hx
 .grind
def anW(g:List Nat)(ho:oct g)(hl0:g.length<=900000):Gxx 78 [fzb g] (oV rkF Rk.o (wF g)):=by
 refine wZ (F':=rkF) (zs:=[vi 0,vi 0,vi 0,.c (.slice none 0 0),vb false]) ?_ (fun _=>rfl) (fun _=>⟨aC _,aC _,trivial⟩) rfl ⟨.inr ⟨_,_,rfl,rfl,⟨.inl rfl,.inl rfl,.inl rfl,jB _ _,.inl rfl,trivial⟩⟩,aC _,trivial⟩;have hl:g.length<=2147483648:=Om;have p:=fun(l:List Nat) s d K=>x8 (P:=Tryz.prog) s d 60 9 .fz l K Za Za Za Za
 have z1:=fun e bx n' h hb a=>IQ e bx n' h 1 g 0 ho hl hb a
 have z2:=fun e bx n' h hb a=>IQ e bx n' h 1 g 1 ho hl hb a
 have z3:=fun e bx n' h hb a=>IQ e bx n' h 1 g 2 ho hl hb a
 have z4:=fun e bx n' h hb a=>IQ e bx n' h 1 g 3 ho hl hb a
 have z5:=fun e bx n' h hb a=>IQ e bx n' h 1 g 4 ho hl hb a
 have m0:=o6 ho 0;have m1:=o6 ho 1;have m2:=o6 ho 2;have m3:=o6 ho 3;have m4:=o6 ho 4;have o5:=vG ho 5;have n5:=yZ g 5;unfold wF;generalize sx g 0=z at *;generalize sx g 1=m at *;generalize sx g 2=lo at *;generalize sx g 3=fl at *;generalize sx g 4=N at *;obtain⟨f,hf⟩:∃f,f=decide ((fl:Int)=1):=⟨_,rfl⟩;rw[<-hf];obtain⟨F,hF⟩:∃F,F=Bh 41 N [] (sS g 5).1 (sS g 5).2:=⟨_,rfl⟩;rw[<-hF];refine gI oW ?_;(repeat' first|refine wQ p ?_|refine aU _ (z1 _ _ _ _ rfl Om) rfl ?_|refine aU _ (z2 _ _ _ _ rfl Om) rfl ?_|refine aU _ (z3 _ _ _ _ rfl Om) rfl ?_|refine aU _ (z4 _ _ _ _ rfl Om) rfl ?_|refine aU _ (z5 _ _ _ _ rfl Om) rfl ?_|refine tS ?_ ?_<;>intro A|fail)
 refine aJ (fun x:List (List (List Nat))×List Nat×Bool=>mkA [(0,fzb g),(2,.ref 0 0),(4,.ref 1 0),(5,.ref 2 0),(6,vi N),(7,vi x.1.length)] [(0,(55,[vi 0,vi 0,vi 0,.c (.slice none 0 0),vb false])),(1,(251,[fzb x.2.1,vb x.2.2])),(2,(55,[vi z,vi m,vi lo,.sl (.own 0 66) 1 (lv x.1),vb f]))] 3 (fun _=>.top))
  (fun x=>Bh (41-x.1.length) (N-x.1.length) x.1 x.2.1 x.2.2=F/\x.1.length<=41/\x.1.length<=N/\oct x.2.1/\x.2.1.length<=900000/\(∀l∈x.1,octL l)/\∀l∈x.1,l.length<=1000000) (fun x=>41-x.1.length) ([],(sS g 5).1,(sS g 5).2) [] [0,1,2] ?_ ⟨hF.symm,by simp,by simp,o5,iZ n5 hl0,fun x hx=>(by cases hx),fun x hx=>by cases hx⟩ ?_
 ·(refine kM ?_ ?_;(repeat'(first|exact ae|refine dQ _ _ rfl rfl ?_ ?_));all_goals(try simp only[pgm,simprocAttr]);all_goals(try(repeat' apply aI));all_goals(try exact gz));all_goals first|exact iT rfl|exact eF Om|exact kZ rfl|exact kZ (by rw[hf];rfl)|skip
 .rintro⟨v,l,b⟩ ⟨u,i2,i3,U,i5,J,M⟩;simp only at u i2 i3 U i5 J M;have j:=kF v;by_cases H:v.length<N/\v.length<41/\b=false
  .obtain⟨g1,g2,rfl⟩:=H;rw[YI Om Om]at u;have w1:=fun e bx n' h hb a=>aal e bx n' h 1 l false U Om hb a
   have q1:=E8 false U;have q2:=iZ (E5 l false) i5;have q3:=Kt l false U;obtain⟨G,hG⟩:∃G,G=qI (nuX l false) [] (nuL l false) (nuB l false):=⟨_,rfl⟩;rw[<-hG]at u;(repeat' first|refine wQ j ?_|refine aU _ (w1 _ _ _ _ rfl Om) rfl ?_|refine tS ?_ ?_<;>intro A|fail);generalize nuX l false=K0 at *;generalize nuL l false=l1 at *;generalize nuB l false=b1 at *
   refine aJ (fun x:Nat×List (List Nat)×List Nat×Bool=>mkA [(0,fzb g),(2,.ref 0 0),(4,.ref 1 0),(5,.ref 2 0),(6,vi N),(7,vi v.length),(8,.sl (.own 1 9) 1 (sv x.2.1)),(9,vi x.1)] [(0,(55,[vi 0,vi 0,vi 0,.c (.slice none 0 0),vb false])),(1,(251,[fzb x.2.2.1,vb x.2.2.2])),(2,(55,[vi z,vi m,vi lo,.sl (.own 0 66) 1 (lv v),vb f]))] 3 (fun _=>.top))
    (fun x=>qI x.1 x.2.1 x.2.2.1 x.2.2.2=G/\x.1<=4611686018427387904/\oct x.2.2.1/\x.2.1.length+x.2.2.1.length+(if x.2.2.2=true then 0 else 1)<=900001/\octL x.2.1/\x.2.2.1.length<=900000) (fun x=>x.1) (K0,[],l1,b1) [0] [0,1,2] ?_ ⟨hG.symm,q3,q1,by show 0+l1.length+_<=_;split<;>omega,fun x hx=>(by cases hx),q2⟩ ?_
   .exact kY
   .rintro⟨k,i,n,R⟩ ⟨T,j2,Q,j4,j5,j6⟩;simp only at T j2 Q j4 j5 j6;have S:=jA i;by_cases hk:0<k/\R=false
    .obtain⟨hk1,rfl⟩:=hk;rw[YG Om]at T;rw[ag gy]at j4;have w2:=fun e bx n' h hb a=>awL e bx n' h 1 n false Q Om hb a
     have r1:=QO false Q;have r2:=QN n false;have W:=aul n;obtain⟨r4,_⟩:=QP n false Q;have q:=Zm i [teX n false];have hs1:sv [teX n false]=[vs (teX n false)]:=rfl;rw[hs1]at q;have Y:=Xl j5 r4;have r6:(i++[teX n false]).length=i.length+1:=Aa;generalize teX n false=X at *;generalize teL n false=Z at *;generalize teB n false=B3 at *;(repeat' first|refine wQ (Ac j S q) ?_|refine aU _ (w2 _ _ _ _ rfl Om) rfl ?_|refine tS ?_ ?_<;>intro A|fail);refine dn (k-1,i++[X],Z,B3) [0,1] [0,1,2] ⟨T,by show k-1<=_;omega,r1,by show(i++[X]).length+Z.length+(if B3=true then 0 else 1)<=_;rcases W with W|W;(split<;>omega);(rw[ah W];omega),Y,by show Z.length<=_;omega⟩ (by show k-1<k;omega) ?_;exact kY
    .have C:k=0\/R=true:=by
      rcases gG k with h|h
      .exact .inl h
      .cases R with
       |false=>exact absurd ⟨h,rfl⟩ hk
       |true=>exact .inr rfl
     rw[aqD C]at T;subst T;simp only at u;have I:(v++[i]).length=v.length+1:=Aa;rw[show 41-v.length-1=41-(v++[i]).length by rw[I];omega,show N-v.length-1=N-(v++[i]).length by rw[I];omega]at u;have q:=CY v i;have Y:=Xm J j5
     have r6:∀l∈v++[i],l.length<=1000000:=by
      intro x hx;rcases iG.1 hx with hx|hx
      .exact M x hx
      .simp only[jX]at hx;subst hx;omega
     rcases(by
      rcases gG k with h|h
      .exact .inl h
      .rcases C with h1|h1
       .exact .inl h1
       .exact .inr ⟨h,h1⟩:k=0\/(0<k/\R=true))with c|⟨c,rfl⟩
     all_goals
      (repeat' first|refine wQ (A8 j S q @id_eq.{1} @yl @dM @uF @oq @zD.{0,0}) ?_|refine tS ?_ ?_<;>intro A|fail)
      first
       |refine dn (v++[i],n,R) [0] [0,1,2] ⟨u,by show(v++[i]).length<=41;omega,by show(v++[i]).length<=N;omega,Q,by show n.length<=_;omega,Y,r6⟩ (by show 41-(v++[i]).length<41-v.length;omega) ?_
       |refine dn (v++[i],n,true) [0] [0,1,2] ⟨u,by show(v++[i]).length<=41;omega,by show(v++[i]).length<=N;omega,Q,by show n.length<=_;omega,Y,r6⟩ (by show 41-(v++[i]).length<41-v.length;omega) ?_
      (refine kM ?_ ?_;(repeat'(first|exact ae|refine dQ _ _ rfl rfl ?_ ?_));all_goals(try simp only[pgm,simprocAttr]);all_goals(try(repeat' apply aI));all_goals(try exact gz))
      all_goals first|exact fE rfl rfl|exact eF (by rw[I];omega)|exact eF Om|exact kZ rfl|skip
  .rw[YH (by
    by_cases c1:v.length<N
    .by_cases c2:v.length<41
     .cases b with
      |false=>exact absurd ⟨c1,c2,rfl⟩ H
      |true=>exact .inr (.inr rfl)
     .exact .inl Om
    .exact .inr (.inl Om))]at u
   subst u;have y:=XE ⟨z,m,lo,v,f⟩;have L:=an5 ⟨z,m,lo,v,f⟩;have hd:=vF (afp (t:=⟨z,m,lo,v,f⟩) J) ho;have r:dRk g z m lo f (v,l,b)=if b=true then none else if vRk ⟨z,m,lo,v,f⟩=0/\jF ⟨z,m,lo,v,f⟩=g then some ⟨z,m,lo,v,f⟩else none:=rfl
   clear z1 z2 z3 z4 z5 hf;cases b with
   |false =>
    rcases(by
     rcases au v.length N with h1|h1
     .rcases au v.length 41 with h2|h2
      .exact absurd ⟨h1,h2,rfl⟩ H
      .exact .inr ⟨h1,h2⟩
     .exact .inl h1:(N<=v.length)\/(v.length<N/\41<=v.length))with c|c
    all_goals
     by_cases hv:vRk ⟨z,m,lo,v,f⟩=0
     .have y:=y hv J (by show v.length<=_;omega) M
      by_cases he:jF ⟨z,m,lo,v,f⟩=g
      .rw[xA (x:=⟨z,m,lo,v,f⟩) (r.trans (by rw[ag gy];exact ah ⟨hv,he⟩))]
       rw[he]at y
       (repeat' first|refine wQ (Ac j p @id_eq.{1}) ?_|refine cG [0] y ?_|refine tS ?_ ?_<;>intro A|fail)
       all_goals exact rE []
      .rw[jc (r.trans (by rw[ag gy];exact ag fun h=>he h.2))]
       rw[dK he]at hd
       generalize jF ⟨z,m,lo,v,f⟩=E at *
       (repeat' first|refine wQ (Ad j p @hd @id_eq.{1}) ?_|refine cG [0] y ?_|refine tS ?_ ?_<;>intro A|fail)
       all_goals exact rE []
     .have L:=L hv J (by show v.length<=_;omega) M
      rw[jc (r.trans (by rw[ag gy];exact ag fun h=>hv h.1))]
      generalize vRk ⟨z,m,lo,v,f⟩=vv at *
      (repeat' first|refine wQ (Ac j p @id_eq.{1}) ?_|refine cG [0] L ?_|refine tS ?_ ?_<;>intro A|fail)
      all_goals exact rE []
   |true =>
    rw[jc (r.trans (ah rfl))];rcases(Om:(N<=v.length)\/(v.length<N/\41<=v.length)\/(v.length<N/\v.length<41))with c|c|c
    all_goals
     by_cases hv:vRk ⟨z,m,lo,v,f⟩=0
     .have y:=y hv J (by show v.length<=_;omega) M
      generalize jF ⟨z,m,lo,v,f⟩=E at *
      (repeat' first|refine wQ (Ac j p @id_eq.{1}) ?_|refine cG [0] y ?_|refine tS ?_ ?_<;>intro A|fail)
      all_goals exact rE []
     .have L:=L hv J (by show v.length<=_;omega) M
      generalize vRk ⟨z,m,lo,v,f⟩=vv at *
      (repeat' first|refine wQ (Ac j p @id_eq.{1}) ?_|refine cG [0] L ?_|refine tS ?_ ?_<;>intro A|fail)
      all_goals exact rE []
def unZ(l:List Nat):V :=
 if l.length=0 then nO 3 else
 if(ak (l.drop 1)).2.2≠0 then nO (ak (l.drop 1)).2.2 else
 if 1048576<(ak (l.drop 1)).1 then nO 2 else
 if l.length<1+(ak (l.drop 1)).2.1+(ak (l.drop 1)).1+4 then nO 3 else
 if acc (ft l (1+(ak (l.drop 1)).2.1+(ak (l.drop 1)).1))≠ckN (l.take (1+(ak (l.drop 1)).2.1+(ak (l.drop 1)).1))then nO 4 else
 .tup [.c (.int .u8 (l.getD 0 0:Nat)),.sl .nn 1 [],vi (1+(ak (l.drop 1)).2.1+(ak (l.drop 1)).1+4:Nat),vi 0]
def unE(l:List Nat):Nat :=
 if l.length=0 then 3 else
 if(ak (l.drop 1)).2.2≠0 then(ak (l.drop 1)).2.2 else
 if 1048576<(ak (l.drop 1)).1 then 2 else
 if l.length<1+(ak (l.drop 1)).2.1+(ak (l.drop 1)).1+4 then 3 else
 if acc (ft l (1+(ak (l.drop 1)).2.1+(ak (l.drop 1)).1))≠ckN (l.take (1+(ak (l.drop 1)).2.1+(ak (l.drop 1)).1))then 4 else 0
def unU(l:List Nat):Nat:=1+(ak (l.drop 1)).2.1+(ak (l.drop 1)).1
def unB(l:List Nat):List Nat:=(l.take (unU l)).drop (1+(ak (l.drop 1)).2.1)
def unV(l:List Nat):V:=if unE l≠0 then nO (unE l)else .tup [.c (.int .u8 (l.getD 0 0:Nat)),fzb (unB l),vi (unU l+4:Nat),vi 0]
def aoC(l:List Nat)(ho:oct l)(hl:l.length<=2147483648)(H:(ak (l.drop 1)).1=0):Gxx 71 [fzb l] (unZ l):=by
 have a:=aA l
 unfold unZ
 rcases gG l.length with m|m
 .rw[ah m]
  refine gI oW ?_
  exact wR a ae ay
 rw[ag Om]
 have g:=oP (l.drop 1) (eG ho 1) (by simp;omega)
 obtain⟨x1,x2⟩:=Nq (l.drop 1) (eG ho 1)
 unfold lU at g
 have k:=iR l 1
 have y:=lY l 0 m
 generalize ak (l.drop 1)=q at *
 obtain⟨x,u,e⟩:=q
 simp only at *
 by_cases he:e=0
 .subst he
  rw[ag Aa]
  rcases au 1048576 x with h1|h1
  .exact absurd h1 Om
  rw[ag (show ¬1048576<x by omega)]
  rcases au l.length (1+u+x+4)with h2|h2
  .rw[ah h2]
   refine gI oW ?_
   exact wR (Ac @pgv a k) g ay
  rw[ag (show ¬l.length<1+u+x+4 by omega)]
  have t:=Jy (l:=l) (e:=1+u+x) Om
  have f:=NU ho (1+u+x)
  have v:((bv l).take (1+u+x+4)).drop (1+u+x)=bv (ft l (1+u+x)):=by rw[xX,iR];rfl
  have b:=aA (ft l (1+u+x))
  rw[t]at b
  have c:=xX l (1+u+x)
  have j:=iR (l.take (1+u+x)) (1+u)
  have P:Int.toNat (1+(u:Int)+(x:Int)+4)=1+u+x+4:=Om
  have t2:Int.toNat (1+(u:Int)+(x:Int))=1+u+x:=Om
  have I:Int.toNat (1+(u:Int))=1+u:=Om
  have G:(l.take (1+u+x)).length=1+u+x:=by rw[bI];omega
  have r:((l.take (1+u+x)).drop (1+u)).length=x:=by rw[eH,G];omega
  have d:=aA ((l.take (1+u+x)).drop (1+u))
  rw[r]at d
  have p:bv ((l.take (1+u+x)).drop (1+u))=[]:=List.length_eq_zero_iff.1 (d.trans H)
  have K:=Pq (l.take (1+u+x)) (vw ho _) Om
  have M:=Ec (l.take (1+u+x))
  refine gI oW ?_
  refine wS (Ah @pgv a k P @t2 I v b) g ?_
  refine aJ (fun i:Nat=>mkA [(0,fzb l),(7,vi (u:Nat)),(8,vi (1+(u:Int)+(x:Int))),(9,.c (.int .u32 (acc ((ft l (1+u+x)).take i):Nat))),(46,fzb (ft l (1+u+x))),(47,vi 4),(48,vi i)] [] 0 (fun _=>.top)) (fun i=>i<=4) (fun i=>4-i) 0 [] [] ?_ (ax _) ?_
  .exact kY
  .intro i hi
   replace hi:i<=4:=hi
   have hb:=kw f i
   have ha:=D7 f (i:=i) Om
   rcases au i 4 with E|N
   .have hp:256^i<=256^3:=qL Om Om
    have A:=lY (ft l (1+u+x)) i Om
    have L:=I4 (s:=ft l (1+u+x)) (i:=i) Om
    have J:=Xt (acc ((ft l (1+u+x)).take i)) ((ft l (1+u+x)).getD i 0) Om hb
    rw[L]at J
    refine wT (Ac b A J) ?_
    exact bY (i+1) [] [] E
   .have C:i=4:=Om
    subst C
    have e:(ft l (1+u+x)).take 4=ft l (1+u+x):=oz Om
    rw[e]at *
    generalize ft l (1+u+x)=F at *
    by_cases n:acc F=ckN (l.take (1+u+x))
    .rw[ag (fun h=>h n)]
     rw[n]
     exact wR (A8 @pgv b a @t2 I c j p (aI y @abp)) K ay
    .rw[ah n]
     exact wR (Af @pgv b a @t2 I c) K ay
 .rw[ah he]
  refine gI oW ?_
  exact wR (Ac @pgv a k) g ay
def aoB(l:List Nat)(ho:oct l)(hl:l.length<=2147483648):Gxx 71 [fzb l] (unV l):=by
 by_cases a:(ak (l.drop 1)).1=0
 .have h:=aoC l ho hl a;have e:unB l=[]:=by unfold unB unU;rw[a];exact List.drop_eq_nil_iff.2 (by rw[bI];omega)
  refine h.fzr ?_ ?_
  .unfold unZ;(repeat' split)<;>rfl
  .have:(unZ l).erase=unV l:=by unfold unV unZ unE;rw[e];(repeat' split)<;>first|rfl|(exfalso;omega)|(exfalso;simp_all;done)|skip
   rw[this];exact aC _
 .have h:=aoA l ho hl a;refine h.fzr ?_ ?_
  .unfold unF;(repeat' split)<;>rfl
  .have:(unF l).erase=unV l:=by unfold unV unF unE unB unU;(repeat' split)<;>first|rfl|(exfalso;omega)|(exfalso;simp_all;done)|skip
   rw[this];exact aC _
def O8{a b:List Nat}(h:oct (a++b)):oct a:=fun x hx=>h x (iG.2 (.inl hx))
def Dk{a b:List Nat}(h:oct (a++b)):oct b:=fun x hx=>h x (iG.2 (.inr hx))
def Kw{α:Type}{f:α->List Nat}{l:List α}(h:oct (l.flatMap f)):∀x∈l,oct (f x):=fun x hx b hb=>h b (List.mem_flatMap.2 ⟨x,hx,hb⟩)
def Nu{l:List Nat}{x:Tp}(h:wH l=some x):vTp x=0/\jG x=l:=by grind[wH,dTp,Us]
def Nl{l:List Nat}{x:Fq}(h:wE l=some x):vFq x=0/\jE x=l:=by grind[wE,dFq,Un]
def Ns{l:List Nat}{x:Rk}(h:wF l=some x):vRk x=0/\jF x=l:=by grind[wF,dRk,Ur]
def TK{l:List Nat}{x:Tl}(h:uK l=some x):vTl x=0/\gX x=l:=by grind[uK,ED]
def Nk{l:List Nat}{x:Cm}(ho:oct l)(h:wC l=some x):(vCm x=0/\jD x=l)/\0<=x.s/\x.s<18446744073709551616:=by grind[wC,dCm,eCm,fCm,Z8,vG]
def Np{l:List Nat}{x:Ll}(ho:oct l)(h:sO l=some x):vLl x=0/\0<=x.s/\x.s<18446744073709551616:=by grind[sO,dLl,Jw,Ep,eG]
def afr{x:Tp}(h:oct (jG x)):octE x.e:=fun e he=>Dk (O8 (O8 (Kw (Dk h) e he)))
def afm{x:Fq}(h:oct (jE x)):octE x.e:=fun e he=>Dk (O8 (Kw (Dk h) e he))
def afo{x:Rk}(h:oct (jF x)):∀l∈x.v,octL l:=fun l hl k hk=>Dk (Kw (Dk (Kw (Dk h) l hl)) k hk)
def skK(k:Int)(a:Tl)(b:Cm)(c:Ll)(d:Tp)(e:Fq)(f:Rk):Sk:=⟨⟨k,0,0,0⟩,a,b,c,d,e,f⟩
def iD(s:Sk):Sk:=⟨oQ s,s.tl,s.cm,s.ll,s.tp,s.fq,s.rk⟩
def jC(k:Nat)(l:List Nat):Option Sk :=
 if k=1 then(uK l).map fun x=>skK 1 x Cm.o Ll.o Tp.o Fq.o Rk.o else
 if k=2 then(wC l).map fun x=>skK 2 Tl.o x Ll.o Tp.o Fq.o Rk.o else
 if k=3 then(sO l).map fun x=>skK 3 Tl.o Cm.o x Tp.o Fq.o Rk.o else
 if k=4 then(wH l).map fun x=>skK 4 Tl.o Cm.o Ll.o x Fq.o Rk.o else
 if k=5 then(wE l).map fun x=>skK 5 Tl.o Cm.o Ll.o Tp.o x Rk.o else
 if k=6 then(wF l).map fun x=>skK 6 Tl.o Cm.o Ll.o Tp.o Fq.o x else none
def NK(l:List Nat):Option Sk->Sk×Nat
 |none=>(Sk.o,2)
 |some s=>if vSk (iD s)=0/\dw (iD s)=l then(iD s,0)else(Sk.o,2)
def fA(l:List Nat):Sk×Nat :=
 if unE l≠0 then(Sk.o,unE l)else
 if ¬(l.getD 0 0=83/\unU l+4=l.length/\(ak (unB l)).2.2=0)then(Sk.o,2)else
 NK l (jC (ak (unB l)).1 ((unB l).drop (ak (unB l)).2.1))
def rSk(r:Sk×Nat):V:=.tup [.agg (skF r.1),vi (r.2:Nat)]
def ru{f:FuncId}{args:List V}{n:Nat}{r:Sk×Nat}(a:r=(Sk.o,n))(h:Gxx f args (.tup [.agg (skC Sk.o nls nls nls nls nls),vi (n:Nat)])):Gxx f args (rSk r):=by rw[a];exact Good.wkt h ⟨Lc,aC _,trivial⟩
def aaD:(0:Int)<=0/\(0:Int)<18446744073709551616:=Om
theorem tK:octE []:=fun _ h=>nomatch h
def fnK(k:Nat):Nat:=if k=1 then 73 else if k=2 then 74 else if k=3 then 75 else if k=4 then 76 else if k=5 then 77 else 78
def CG(k:Nat)(s:Sk):V:=if k=1 then .agg (tlF s.tl)else if k=2 then .agg (cmF s.cm)else if k=3 then .agg (llF s.ll)else if k=4 then .agg (tpF s.tp)else if k=5 then .agg (fqF s.fq)else .agg (rkF s.rk)
def Uy{F:Nat->FuncId}{R:List Nat}(h1:Gxx (F 1) [fzb R] (oV tlF Tl.o (uK R)))(h2:Gxx (F 2) [fzb R] (oV cmF Cm.o (wC R)))(h3:Gxx (F 3) [fzb R] (oV llF Ll.o (sO R)))(h4:Gxx (F 4) [fzb R] (oV tpF Tp.o (wH R)))
  (h5:Gxx (F 5) [fzb R] (oV fqF Fq.o (wE R))) (h6:Gxx (F 6) [fzb R] (oV rkF Rk.o (wF R))) (oR:oct R) (k:Nat) (hk:k=1\/k=2\/k=3\/k=4\/k=5\/k=6):(jC k R=none/\Gxx (F k) [fzb R] (.tup [CG k Sk.o,vi 2])) \/
  ∃s:Sk,jC k R=some s/\s.p=⟨k,0,0,0⟩/\skU s/\(iD s).Ok/\Gxx (F k) [fzb R] (.tup [CG k s,vi 0]):=by
 have z:=aaD
 have n:=fun l (h:l∈([]:List (List (List Nat))))=>(nomatch h:octL l)
 have m:=fun l (h:l∈([]:List (List (List Nat))))=>(nomatch h:l.length<=1000000)
 rcases hk with rfl|rfl|rfl|rfl|rfl|rfl
 .cases hd:uK R with
  |none=>rw[vg hd]at h1;exact .inl ⟨by simp[jC,hd],h1⟩
  |some x =>rw[AQ hd]at h1;exact .inr ⟨skK 1 x Cm.o Ll.o Tp.o Fq.o Rk.o,by simp[jC,hd],rfl,by simp[skU,skK],⟨z,z,z,ax _,ax _,tK,ax _,tK,ax _,n,ax _,m⟩,h1⟩
 .cases hd:wC R with
  |none=>rw[vg hd]at h2;exact .inl ⟨by simp[jC,hd],h2⟩
  |some x =>rw[AQ hd]at h2;obtain⟨⟨g1,_⟩,hs⟩:=Nk oR hd;obtain⟨j1,j2,j3,_⟩:=Bv g1;have hm:=xx j1 j2;exact .inr ⟨skK 2 Tl.o x Ll.o Tp.o Fq.o Rk.o,by simp[jC,hd],rfl,by simp[skU,skK],⟨hs,hs,z,by show x.c.length<=_;omega,ax _,tK,ax _,tK,ax _,n,ax _,m⟩,h2⟩
 .cases hd:sO R with
  |none=>rw[vg hd]at h3;exact .inl ⟨by simp[jC,hd],h3⟩
  |some x =>rw[AQ hd]at h3;obtain⟨g1,hs⟩:=Np oR hd;obtain⟨j1,j2,_⟩:=Bz g1;obtain⟨_,hm,_⟩:=yX j1;exact .inr ⟨skK 3 Tl.o Cm.o x Tp.o Fq.o Rk.o,by simp[jC,hd],rfl,by simp[skU,skK],⟨hs,z,hs,ax _,by show x.r.length<=_;omega,tK,ax _,tK,ax _,n,ax _,m⟩,h3⟩
 .cases hd:wH R with
  |none=>rw[vg hd]at h4;exact .inl ⟨by simp[jC,hd],h4⟩
  |some x =>rw[AQ hd]at h4;obtain⟨g1,he⟩:=Nu hd;obtain⟨j1,_,j2,_⟩:=zo g1;exact .inr ⟨skK 4 Tl.o Cm.o Ll.o x Fq.o Rk.o,by simp[jC,hd],rfl,by simp[skU,skK],⟨z,z,z,ax _,ax _,afr (x:=x) (by rw[he];exact oR),by show x.e.length<=_;omega,tK,ax _,n,ax _,m⟩,h4⟩
 .cases hd:wE R with
  |none=>rw[vg hd]at h5;exact .inl ⟨by simp[jC,hd],h5⟩
  |some x =>rw[AQ hd]at h5;obtain⟨g1,he⟩:=Nl hd;obtain⟨j1,_,_,j2,_⟩:=zl g1;exact .inr ⟨skK 5 Tl.o Cm.o Ll.o Tp.o x Rk.o,by simp[jC,hd],rfl,by simp[skU,skK],⟨z,z,z,ax _,ax _,tK,ax _,afm (x:=x) (by rw[he];exact oR),by show x.e.length<=_;omega,n,ax _,m⟩,h5⟩
 .cases hd:wF R with
  |none=>rw[vg hd]at h6;exact .inl ⟨by simp[jC,hd],h6⟩
  |some x =>rw[AQ hd]at h6;obtain⟨g1,he⟩:=Ns hd;obtain⟨_,_,_,j2,j3⟩:=zn g1;exact .inr ⟨skK 6 Tl.o Cm.o Ll.o Tp.o Fq.o x,by simp[jC,hd],rfl,by simp[skU,skK],⟨z,z,z,ax _,ax _,tK,ax _,tK,ax _,afo (x:=x) (by rw[he];exact oR),by show x.v.length<=_;omega,fun l hl=>by obtain⟨i,hi,he⟩:=nz [] hl;rw[<-he];exact iZ (j3 i) dX⟩,h6⟩
def anS(l B:List Nat)(u k:Nat)(hk:k=1\/k=2\/k=3\/k=4\/k=5\/k=6)(C:Gxx 71 [fzb l] (.tup [.c (.int .u8 83),fzb B,vi (l.length:Nat),vi 0]))(A:Gxx 72 [fzb B] (.tup [vi k,vi (u:Nat),vi 0]))(M:u<=B.length)(L:oct B)(N:B.length<=900000)(ol:oct l) :
  Gxx 28 [fzb l] (rSk (NK l (jC k (B.drop u)))):=by
 have m:=fun(l:List Nat) s d K=>x8 (P:=Tryz.prog) s d 60 9 .fz l K Za Za Za Za
 have b0:=aA B
 have bL:=aA l
 have I:=iR B u
 have r:=eG L u
 have Q:(B.drop u).length<=900000:=by rw[eH];omega
 generalize B.drop u=R at *
 rcases Uy (F:=fnK) (anX R r Om) (anT R r Om) (anV R r Om) (anY R r Om) (anU R r Om) (anW R r Om) r k hk with⟨t,j⟩|⟨s,t,hp,i,ok,j⟩
 .rw[t];refine ru (n:=2) rfl ?_;rcases hk with rfl|rfl|rfl|rfl|rfl|rfl
  all_goals
   simp only[fnK,CG,Nat.reduceEqDiff,reduceIte]at j
   refine gI oW ?_
   exact wR (Ae @pgv @b0 @bL I m) (Ac C A j) ay
 .rw[t];have q:s.p.k=1\/s.p.k=2\/s.p.k=3\/s.p.k=4\/s.p.k=5\/s.p.k=6:=by rw[hp];simp only;omega
  have g:skU (iD s):=i;have y:=Good.wk (args':=[.agg (skN s)]) (XX s q) ⟨FP i,trivial⟩;have x:=Good.wk (args':=[.agg (skN (iD s))]) (an6 (iD s) ok) ⟨FP g,trivial⟩;have G:=FP g;have H:=vF (Ny (iD s) ok).1 ol;show Pg.Good _ _ _ (rSk (if vSk (iD s)=0/\dw (iD s)=l then(iD s,0)else(Sk.o,2)));by_cases hv:vSk (iD s)=0/\dw (iD s)=l
  .rw[ah hv];rw[hv.1,hv.2]at x;refine Good.wkt (vs:=[.agg (skN (iD s)),vi 0]) ?_ ⟨G,aC _,trivial⟩;clear hv H G ok g q t;obtain⟨p,a,b,c,d,e,f⟩:=s;simp only at hp;subst hp;unfold skU at i;rcases hk with rfl|rfl|rfl|rfl|rfl|rfl
   all_goals
    simp[skN,skC,iD,oQ,fnK,CG]at j y x i⊢
    obtain⟨rfl,rfl,rfl,rfl,rfl⟩:=i
    refine gI oW ?_
    exact wR (Ae @pgv @b0 @bL I m) (Ae C A j y x) ay
  .rw[ag hv];refine ru (n:=2) rfl ?_;have J:vSk (iD s)=0->decide (sB (dw (iD s))=sB l)=false:=fun h=>by rw[H];exact dK fun h2=>hv ⟨h,h2⟩
   generalize vSk (iD s)=v at *;generalize dw (iD s)=E at *;clear hv H G ok g q t;obtain⟨p,a,b,c,d,e,f⟩:=s;simp only at hp;subst hp;unfold skU at i;rcases hk with rfl|rfl|rfl|rfl|rfl|rfl
   all_goals
    simp[skN,skC,iD,oQ,fnK,CG]at j y x i
    obtain⟨rfl,rfl,rfl,rfl,rfl⟩:=i
    refine gI oW ?_
    exact wR (Af @pgv @b0 @bL I m J) (Ae C A j y x) ay
def Pv(l:List Nat)(ho:oct l)(hl:l.length<=900000):Gxx 28 [fzb l] (rSk (fA l)):=by
 have a:=aoB l ho Om;unfold unV at a;have d:oct (unB l):=eG (vw ho _) _;have r:(unB l).length<=l.length:=by unfold unB;rw[eH,bI];omega
 have b:=oP (unB l) d Om;obtain⟨g,m,i⟩:=lS (unB l) d;unfold lU at b;unfold fA;have b0:=aA (unB l);have bL:=aA l;have x:=fun u=>iR (unB l) u
 have p:=kw ho 0;generalize unB l=B at *;generalize l.getD 0 0=t at *;generalize unU l=us at *;generalize unE l=e at *;by_cases c:e=0
 case neg =>
  rw[ah c]
  rw[ah c]at a
  refine ru (n:=e) rfl ?_
  unfold nO at a
  refine gI oW ?_
  exact wR ae a ay
 case pos =>
  rw[ag (fun h=>h c)]
  rw[ag (fun h=>h c)]at a
  by_cases h1:t=83
  case neg =>
   rw[ah (fun h=>h1 h.1)]
   refine ru (n:=2) rfl ?_
   refine gI oW ?_
   exact wR (aI @bL @b0) (aI a b) ay
  case pos =>
   subst h1
   by_cases h2:us+4=l.length
   case neg =>
    rw[ah (fun h=>h2 h.2.1)]
    refine ru (n:=2) rfl ?_
    refine gI oW ?_
    exact wR (aI @bL @b0) (aI a b) ay
   case pos =>
    rw[h2]at a
    generalize j:ak B=q at *
    obtain⟨k,u,f⟩:=q
    simp only at b g m i⊢
    by_cases h3:f=0
    case neg =>
     rw[ah (fun h=>h3 h.2.2)]
     refine ru (n:=2) rfl ?_
     refine gI oW ?_
     exact wR (aI @bL @b0) (aI a b) ay
    case pos =>
     subst h3
     rw[ag (fun h=>h ⟨trivial,h2,rfl⟩)]
     by_cases hk:k=1\/k=2\/k=3\/k=4\/k=5\/k=6
     case pos =>
      exact anS l B u k hk a b m d Om ho
     case neg =>
      have e:jC k (B.drop u)=none:=by
       unfold jC
       rw[ag Om,ag Om,ag Om,ag Om,ag Om,ag Om]
      rw[e]
      refine ru (n:=2) rfl ?_
      refine gI oW ?_
      exact wR (Ad @pgv @bL @b0 x) (aI a b) ay
end Go.Proofs.YtopbmdnbdpjheaaGreat
