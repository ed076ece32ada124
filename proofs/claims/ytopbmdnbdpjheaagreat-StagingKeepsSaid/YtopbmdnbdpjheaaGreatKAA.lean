/-
  Merged texts.
-/
import Derived.Test.YtopbmdnbdpjheaaGreatWAF
import Derived.Test.YtopbmdnbdpjheaaGreatWAE
import Derived.Test.YtopbmdnbdpjheaaGreatWAJ
import Derived.Test.YtopbmdnbdpjheaaGreatWAL
import Derived.Laws.BitsLemmas
import Derived.Laws.Bits64
import Derived.Test.YtopbmdnbdpjheaaGreatWAK
set_option linter.all false
set_option linter.unusedVariables false
set_option linter.unusedSimpArgs false
set_option linter.unusedSectionVars false
set_option linter.defProp false
set_option maxRecDepth 100000
set_option maxHeartbeats 8000000
namespace Go.Proofs.YtopbmdnbdpjheaaGreat
open Go Go.Pg
theorem kN{p q:Prop}(a:q)(h:q->p:=by intro a;refine kM ?_ ?_;(repeat'(first|exact ae|refine dQ _ _ rfl rfl ?_ ?_));all_goals(try simp only[pgm,simprocAttr]);all_goals(try(repeat' apply aI));all_goals(first|exact gz|exact a)):p:=h a
theorem lM{α β:Type}{l:List α}(f:α->β):(l.map f).length=l.length:=aj f
theorem iE{α:Type}(a:α):id a=a:=rfl
def axo{D:Dw}{P:Program}[Tb P]{x:Code}{Q:Exit->St->Prop}{s:St}(N:Nat)(X:Nat->List (Nat×V))(B:List (Nat×TypeId×List V))(n:Nat)(l m:List Nat)(hk:Keep l m s (mkA (X 0) B n (fun _=>.top)))(h:∀i,i<=N->wpS D P x (CS (fun i=>mkA (X i) B n (fun _=>.top)) (fun i=>i<=N) (fun i=>N-i) i Q) (mkA (X i) B n (fun _=>.top))):Aw D P x Q s:=aJ (fun i=>mkA (X i) B n (fun _=>.top)) (fun i=>i<=N) (fun i=>N-i) 0 l m hk (ax _) h
def ay7{D:Dw}{P:Program}[Tb P]{x:Code}{Q:Exit->St->Prop}{s:St}(N:Nat)(C:Nat->Prop)(X:Nat->List (Nat×V))(B:List (Nat×TypeId×List V))(n:Nat)(l m:List Nat)(hk:Keep l m s (mkA (X 0) B n (fun _=>.top)))(h:C 0)(a:∀i,i<=N/\C i->wpS D P x (CS (fun i=>mkA (X i) B n (fun _=>.top)) (fun i=>i<=N/\C i) (fun i=>N-i) i Q) (mkA (X i) B n (fun _=>.top))):Aw D P x Q s:=aJ (fun i=>mkA (X i) B n (fun _=>.top)) (fun i=>i<=N/\C i) (fun i=>N-i) 0 l m hk ⟨ax _,h⟩ a
def axp(s:Sto)(k:List Nat)(c:Int)(v:Vr):Prop:=∃i x,AtV s k c i x/\verOf s i x=v
theorem Grow.tr{c:Int}{s u w:Sto}(h:Grow c s u)(k:Grow c u w):Grow c s w :=
 ⟨fun q=>(k.lk q).trans (h.lk q),fun i hi=>by obtain⟨b,f,g,j⟩:=h.ob i hi;obtain⟨l,m,n,p⟩:=k.ob i b;refine⟨l,m.trans f,n.trans g,fun x hx => ?_⟩;obtain⟨c1,r,t⟩:=j x hx;obtain⟨v,d2,y⟩:=p x c1;exact⟨v,d2.trans r,y.trans t⟩,fun q d a=>k.hp q d (h.hp q d a),fun a=>k.pb (h.pb a)⟩
def Grow.sees{Q:List Nat->Prop}{c:Int}{s u:Sto}(G:Grow c s u)(U:OkS Q u){k:List Nat}{v:Vr}(h:axp s k c v):∃w,axp u k c w/\w.f=v.f/\w.p=v.p:=by obtain⟨i,x,⟨h1,h2,h3,h4,h5⟩,rfl⟩:=h;obtain⟨a,b,d,f⟩:=G.ob i h3;obtain⟨g,j,l⟩:=f x h5;exact⟨_,⟨i,x,⟨by rw[G.lk,h1,b],akG U.on _ i a,a,by rw[d,h4],g⟩,rfl⟩,j,l⟩
def an7(s:Sk)(ok:s.Ok)(h:vSk s≠0):Gxx 80 [.agg (skF s)] (.tup [fzb (dw s),vi (vSk s)]):=by have h1:=XK s ok;have e:dw s=[]:=ah h;rw[e];refine Good.fzt (vs:=[nls,vi (vSk s)]) ?_ rfl ⟨Xh,aC _,trivial⟩;generalize vSk s=v at *;clear ok e;obtain⟨⟨pk,pz,pd,ps⟩,⟨E,t2,F⟩,⟨c1,c,a,b,d⟩,⟨q,r,t⟩,⟨f,g,i,j⟩,⟨k,l,m,n,p⟩,⟨u,x,y,A,C⟩⟩:=s;refine gI oW ?_;exact wR ae h1 ay
def an8(s:Sk)(ok:s.Ok)(h:vSk s=0)(hk:1<=s.p.k/\s.p.k<=6)(a:Gxx 176 [.agg (skF s)] (fzb (fK s))):Gxx 80 [.agg (skF s)] (.tup [fzb (dw s),vi (vSk s)]):=by
 have h1:=XK s ok;rw[h]at h1⊢;have hbo:=zO s ok h;have e:dw s=jR 83 (ai s.p.k.toNat++fK s):=by unfold dw;rw[ag Om]
 rw[e];have h3:=Pz s.p.k Om;have M:=bP s.p.k.toNat;have d:=dI s.p.k.toNat;generalize fK s=B,ai s.p.k.toNat=u at *;have h4:=aog 83 (u++B) dX (bT d hbo.1) (by rw[aN];omega);have q:=aA u;have b:=aA B;have c:=dE u B;clear ok e h;obtain⟨⟨pk,pz,pd,ps⟩,⟨K,t2,L⟩,⟨c1,f,g,i,j⟩,⟨A,C,E⟩,⟨k,l,m,n⟩,⟨p,r,t,v,x⟩,⟨F,G,H,I,J⟩⟩:=s;simp only at *;refine gI oW ?_;(repeat' first|refine wP (Ad q b c @iE) (Ac h1 h3 a) ?_|refine cG [1] h4 ?_|refine tS ?_ ?_<;>intro y|fail);exact rE []
def aoL(s:Sk)(ok:s.Ok)(h:vSk s=0)(hk:s.p.k=1):Gxx 176 [.agg (skF s)] (fzb (fK s)):=by
 obtain⟨_,hp⟩:=qf h;have a:fK s=gX s.tl:=by simp[fK,hk]
 unfold gU at hp;simp only[hk,Int.reduceEq,reduceIte]at hp;rw[a];have h2:=XF s.tl hp;generalize gX s.tl=B at *;clear ok a h hp;obtain⟨⟨pk,pz,pd,ps⟩,⟨E,t2,F⟩,⟨c1,c,b,d,f⟩,⟨r,t,u⟩,⟨g,i,j,k⟩,⟨l,m,n,p,q⟩,⟨v,x,y,A,C⟩⟩:=s;simp only at *;subst hk;refine gI oW ?_;exact wR ae h2 ay
def aoM(s:Sk)(ok:s.Ok)(h:vSk s=0)(hk:s.p.k=2):Gxx 176 [.agg (skF s)] (fzb (fK s)):=by
 obtain⟨_,hp⟩:=qf h;have a:fK s=jD s.cm:=by simp[fK,hk]
 unfold gU at hp;simp only[hk,Int.reduceEq,reduceIte]at hp;rw[a];have h2:=XC s.cm hp ok.cs;generalize jD s.cm=B at *;clear ok a h hp;obtain⟨⟨pk,pz,pd,ps⟩,⟨E,t2,F⟩,⟨c1,c,b,d,f⟩,⟨r,t,u⟩,⟨g,i,j,k⟩,⟨l,m,n,p,q⟩,⟨v,x,y,A,C⟩⟩:=s;simp only at *;subst hk;refine gI oW ?_;exact wR ae h2 ay
def aoN(s:Sk)(ok:s.Ok)(h:vSk s=0)(hk:s.p.k=3):Gxx 176 [.agg (skF s)] (fzb (fK s)):=by
 obtain⟨_,hp⟩:=qf h;have a:fK s=l7 s.ll:=by simp[fK,hk]
 unfold gU at hp;simp only[hk,Int.reduceEq,reduceIte]at hp;rw[a];have h2:=an4 s.ll hp ok.ls ok.ln;generalize l7 s.ll=B at *;clear ok a h hp;obtain⟨⟨pk,pz,pd,ps⟩,⟨E,t2,F⟩,⟨c1,c,b,d,f⟩,⟨r,t,u⟩,⟨g,i,j,k⟩,⟨l,m,n,p,q⟩,⟨v,x,y,A,C⟩⟩:=s;simp only at *;subst hk;refine gI oW ?_;exact wR ae h2 ay
def aoO(s:Sk)(ok:s.Ok)(h:vSk s=0)(hk:s.p.k=4):Gxx 176 [.agg (skF s)] (fzb (fK s)):=by
 obtain⟨_,hp⟩:=qf h;have a:fK s=jG s.tp:=by simp[fK,hk]
 unfold gU at hp;simp only[hk,Int.reduceEq,reduceIte]at hp;rw[a];have h2:=XG s.tp hp ok.to ok.tn;generalize jG s.tp=B at *;clear ok a h hp;obtain⟨⟨pk,pz,pd,ps⟩,⟨E,t2,F⟩,⟨c1,c,b,d,f⟩,⟨r,t,u⟩,⟨g,i,j,k⟩,⟨l,m,n,p,q⟩,⟨v,x,y,A,C⟩⟩:=s;simp only at *;subst hk;refine gI oW ?_;exact wR ae h2 ay
def aoP(s:Sk)(ok:s.Ok)(h:vSk s=0)(hk:s.p.k=5):Gxx 176 [.agg (skF s)] (fzb (fK s)):=by
 obtain⟨_,hp⟩:=qf h;have a:fK s=jE s.fq:=by simp[fK,hk]
 unfold gU at hp;simp only[hk,Int.reduceEq,reduceIte]at hp;rw[a];have h2:=XD s.fq hp ok.fo ok.fn;generalize jE s.fq=B at *;clear ok a h hp;obtain⟨⟨pk,pz,pd,ps⟩,⟨E,t2,F⟩,⟨c1,c,b,d,f⟩,⟨r,t,u⟩,⟨g,i,j,k⟩,⟨l,m,n,p,q⟩,⟨v,x,y,A,C⟩⟩:=s;simp only at *;subst hk;refine gI oW ?_;exact wR ae h2 ay
def aoQ(s:Sk)(ok:s.Ok)(h:vSk s=0)(hk:s.p.k=6):Gxx 176 [.agg (skF s)] (fzb (fK s)):=by
 obtain⟨_,hp⟩:=qf h;have a:fK s=jF s.rk:=by simp[fK,hk]
 unfold gU at hp;simp only[hk,Int.reduceEq,reduceIte]at hp;rw[a];have h2:=XE s.rk hp ok.ro ok.rn ok.rm;generalize jF s.rk=B at *;clear ok a h hp;obtain⟨⟨pk,pz,pd,ps⟩,⟨E,t2,F⟩,⟨c1,c,b,d,f⟩,⟨r,t,u⟩,⟨g,i,j,k⟩,⟨l,m,n,p,q⟩,⟨v,x,y,A,C⟩⟩:=s;simp only at *;subst hk;refine gI oW ?_;exact wR ae h2 ay
def an6(s:Sk)(ok:s.Ok):Gxx 80 [.agg (skF s)] (.tup [fzb (dw s),vi (vSk s)]):=by
 by_cases h:vSk s=0
 .have hk:=Gf (qf h).1;refine an8 s ok h Om ?_;rcases hk with k|k|k|k|k|k
  .exact aoL s ok h k
  .exact aoM s ok h k
  .exact aoN s ok h k
  .exact aoO s ok h k
  .exact aoP s ok h k
  .exact aoQ s ok h k
 .exact an7 s ok h
theorem ZC(n:Int)(h:0<=n/\n<=18446744073709551615):IntKind.u64.wrap n=n:=IntWalk.u64_in n h
def KA(x c:Nat)(hx:x<72057594037927936)(a:c<256):bits .or .u64 (IntKind.u64.wrap ((x:Int)*2^min 8 IntKind.u64.bits)) (c:Int)=((x*256+c:Nat):Int):=by have e:(2:Int)^min 8 IntKind.u64.bits=256:=rfl;rw[e,ZC _ Om];rw[bits_join .u64 64 dX (fun n h h1=>ZC n ⟨h,by omega⟩) 8 _ _ Om Om Om Om Om Om];omega
def acc(l:List Nat):Nat:=l.foldl (fun x c=>x*256+c) 0
theorem zI(l:List Nat)(c:Nat):acc (l++[c])=acc l*256+c:=by simp[acc]
theorem RS:∀(n:Nat) (l:List Nat),l.length=n->oct l->acc l<256^n:=by
 intro n
 induction n with
 |zero=>intro l h _;simp at h;subst h;simp[acc]
 |succ n i =>
  intro l h ho;rcases Ro l with rfl|⟨L,b,rfl⟩
  .simp at h
  .have h1:=i L (by simp at h;exact h) (fun x hx=>ho x (by simp[hx]));have h2:=ho b Aa;grind[zI]
def mid(l:List Nat)(i:Nat):List Nat:=(l.take i).drop 1
def WQ{l:List Nat}{i:Nat}(h1:1<=i)(h:i<l.length):mid l (i+1)=mid l i++[l.getD i 0]:=by grind[mid,List.take_succ_eq_append_getElem,List.getD]
def WR{l:List Nat}(h:oct l)(i:Nat):oct (mid l i):=fun x hx=>h x (Gq (BG hx))
def O1{l:List Nat}{i:Nat}(h:i<=l.length):(mid l i).length=i-1:=by grind[mid]
theorem I5{l:List Nat}{i:Nat}(ho:oct l)(h:i<=l.length):acc (mid l i)<256^(i-1):=RS _ _ (O1 h) (WR ho i)
def WP{l:List Nat}{i k:Nat}(h:i+1<k):(mid l k).getD i 0=l.getD (i+1) 0:=by grind[mid]
def ak(l:List Nat):Nat×Nat×Nat :=
 if l.length=0 then(0,0,3)else
 if l.getD 0 0<248 then(l.getD 0 0,1,0)else
 if l.length<l.getD 0 0-246 then(0,0,3)else
 if l.getD 1 0=0\/acc (mid l (l.getD 0 0-246))<248\/4611686018427387904<acc (mid l (l.getD 0 0-246))then(0,0,2)else(acc (mid l (l.getD 0 0-246)),l.getD 0 0-246,0)
def lU(p:Nat×Nat×Nat):V:=.tup [vi (p.1:Nat),vi (p.2.1:Nat),vi (p.2.2:Nat)]
def xX(l:List Nat)(i:Nat):(bv l).take i=bv (l.take i):=by simp[bv]
def iR(l:List Nat)(i:Nat):(bv l).drop i=bv (l.drop i):=by simp[bv]
theorem oP(l:List Nat)(ho:oct l)(hl:l.length<=2147483648):Gxx 72 [fzb l] (lU (ak l)):=by
 have h:=aA l
 unfold ak
 rcases gG l.length with p|p
 .rw[ah p]
  refine gI oW ?_
  exact wR @h ae ay
 rw[ag Om]
 have G:=kw ho 0
 have d:=lY l 0 p
 generalize H:l.getD 0 0=c at *
 rcases au c 248 with h1|h1
 .rw[ah h1]
  refine gI oW ?_
  exact wR (aI @h @d) ae ay
 rw[ag Om]
 obtain⟨k,rfl⟩:∃k,c=k+247:=⟨c-247,by omega⟩
 have A:(k:Int)+247-248+1=(k:Int):=Om
 have m:k+247-246=k+1:=Om
 rw[m]
 rcases au l.length (k+1)with h2|h2
 .rw[ah h2]
  refine gI oW ?_
  exact wR (aI @h (aI @d @A)) ae ay
 rw[ag Om]
 have t:(mid l (k+1)).length=k:=by rw[O1 h2];omega
 have a:=aA (mid l (k+1))
 rw[t]at a
 have f:((bv l).take (1+k)).drop 1=bv (mid l (k+1)):=by rw[xX,iR,Nat.add_comm];rfl
 have n:Int.toNat (1+(k:Int))=1+k:=Om
 have b:=lY l 1 Om
 refine gI oW ?_
 refine wS (aI @pgv (aI @h (aI @d (aI @A (aI @n (aI @f @a)))))) ae ?_
 have q:acc (mid l 1)=0:=by
  have:=I5 (l:=l) (i:=1) ho Om
  simpa using this
 refine axo k (fun i=>[(0,fzb l),(5,vi k),(6,.c (.int .u64 (acc (mid l (i+1)):Nat))),(34,fzb (mid l (k+1))),(35,vi k),(36,vi i)]) [] 0 [] [] ?_ ?_
 ·(refine kM ?_ ?_;(repeat'(first|exact ae|refine dQ _ _ rfl rfl ?_ ?_));all_goals(try simp only[pgm,simprocAttr]);all_goals(try(repeat' apply aI));all_goals(try exact gz))
  all_goals first|exact kZ (by rw[q];rfl)|exact eF Om|skip
 .intro i hi
  replace hi:i<=k:=hi
  have hb:=kw ho (i+1)
  have ha:=I5 (l:=l) (i:=i+1) ho Om
  rw[uC]at ha
  rcases au i k with s|I
  .have hp:256^i<=256^7:=qL Om Om
   have C:=WP (l:=l) (i:=i) (k:=k+1) Om
   have g:=lY (mid l (k+1)) i Om
   rw[C]at g
   have E:acc (mid l (i+1))*256+l.getD (i+1) 0=acc (mid l (i+1+1)):=by rw[WQ (l:=l) (i:=i+1) Om Om,zI]
   have v:=KA (acc (mid l (i+1))) (l.getD (i+1) 0) Om hb
   rw[E]at v
   refine wS (aI @a (aI @g @v)) ae ?_
   exact bY (i+1) [] [] s
  .have r:i=k:=Om
   subst r
   have hp:256^i<=256^8:=qL Om Om
   have F:=kw ho 1
   generalize acc (mid l (i+1))=x at *
   generalize l.getD 1 0=y at *
   rcases gG y with u|u
   .rw[ah (.inl u)]
    subst u
    exact wR (aI @a (aI @h @b)) ae ay
   .rcases au x 248 with hx|hx
    .rw[ah (.inr (.inl hx))]
     exact wR (aI @a (aI @h @b)) ae ay
    .rcases au 4611686018427387904 x with j|j
     .rw[ah (.inr (.inr j))]
      exact wR (aI @a (aI @h @b)) ae ay
     .rw[ag Om]
      (repeat' first|refine wP (aI @a (aI @h @b)) ae ?_|refine tS ?_ ?_<;>intro G|fail)
      all_goals(refine rT [] ?_;first|rfl|simp only[pgo,simprocAttr]|skip)
      all_goals first|(show V.tup [vi (x:Nat),vi (1+(i:Int)),vi 0]=V.tup [vi (x:Nat),vi ((i+1:Nat):Int),vi 0];rw[show((i+1:Nat):Int)=1+(i:Int) by omega])|skip
def I4{s:List Nat}{i:Nat}(h:i<s.length):acc (s.take i)*256+s.getD i 0=acc (s.take (i+1)):=by rw[mP h,zI];simp[List.getD,h]
def D7{s:List Nat}(ho:oct s){i:Nat}(h:i<=s.length):acc (s.take i)<256^i:=RS _ _ (by rw[bI];omega) (vw ho i)
def dV(l:List Nat):Nat×Nat×Nat:=if l.length<8 then(0,0,3)else(acc (l.take 8),8,0)
def DR(p:Nat×Nat×Nat):V:=.tup [vu (p.1:Nat),vi (p.2.1:Nat),vi (p.2.2:Nat)]
def Px(l:List Nat)(ho:oct l)(hl:l.length<=2147483648):Gxx 162 [fzb l] (DR (dV l)):=by
 have a:=aA l
 unfold dV
 rcases au l.length 8 with h1|h1
 .rw[ah h1]
  refine gI oW ?_
  exact wR a ae ay
 rw[ag Om]
 have n:=xX l 8
 have b:=vw ho 8
 have f:(l.take 8).length=8:=by rw[bI];omega
 generalize l.take 8=s at *
 have h:=aA s
 rw[f]at h
 refine gI oW ?_
 refine wT (Ae @pgv a n @lX.{0} h) ?_
 refine axo 8 (fun i=>[(2,.c (.int .u64 (acc (s.take i):Nat))),(11,fzb s),(12,vi 8),(13,vi i)]) [] 0 [] [] ?_ ?_
 .exact kY
 .intro i hi
  replace hi:i<=8:=hi
  have hb:=kw b i
  have ha:=D7 b (i:=i) Om
  rcases au i 8 with g|m
  .have hp:256^i<=256^7:=qL Om Om
   have c:=lY s i Om
   have k:=I4 (s:=s) (i:=i) Om
   have j:=KA (acc (s.take i)) (s.getD i 0) Om hb
   rw[k]at j
   refine wT (Ac h c j) ?_
   exact bY (i+1) [] [] g
  .have d:i=8:=Om
   subst d
   have e:s.take 8=s:=oz Om
   rw[e]
   exact wR h ae ay
def bQ(l:List Nat):List Nat×Nat×Nat :=
 if(ak l).2.2≠0 then([],0,(ak l).2.2)else
 if 65536<(ak l).1 then([],0,2)else
 if l.length-(ak l).2.1<(ak l).1 then([],0,3)else((l.drop (ak l).2.1).take (ak l).1,(ak l).2.1+(ak l).1,0)
def zi(p:List Nat×Nat×Nat):V:=.tup [vs p.1,vi (p.2.1:Nat),vi (p.2.2:Nat)]
theorem lS(l:List Nat)(ho:oct l):(ak l).1<=4611686018427387904/\(ak l).2.1<=l.length/\(ak l).2.2<=3:=by
 have h:=kw ho 0;unfold ak;split
 .simp
 .split
  .rename_i h1 h2;simp only;omega
  .split
   .simp
   .split
    .simp
    .rename_i h1 h2 h3 h4;simp only;omega
def Fj(l:List Nat)(ho:oct l)(hl:l.length<=2147483648):Gxx 245 [fzb l] (zi (bQ l)):=by
 have h:=aA l;have h1:=oP l ho hl;obtain⟨g,i,j⟩:=lS l ho;unfold lU at h1;unfold bQ;generalize ak l=q at *;obtain⟨n,k,e⟩:=q;simp only at *;by_cases he:e=0
 .subst he;rw[ag Aa];rcases au 65536 n with h2|h2
  .rw[ah h2];refine gI oW ?_;exact wR h h1 ay
  .rw[ag Om];rcases au (l.length-k) n with h3|h3
   .rw[ah h3];refine gI oW ?_;exact wR h h1 ay
   .rw[ag Om];have c:((bv l).take (k+n)).drop k=bv ((l.drop k).take n):=by rw[xX,iR,sD];congr 2;omega
    have a:Int.toNat ((k:Int)+(n:Int))=k+n:=Om;have b:=fun s d K=>x8 (P:=Tryz.prog) s d 60 9 .fz ((l.drop k).take n) K Za Za Za Za
    refine gI oW ?_;(repeat' first|refine wP (Ae @pgv h a c b) h1 ?_|refine tS ?_ ?_<;>intro f|fail);all_goals exact rE []
 .rw[ah he];refine gI oW ?_;exact wR h h1 ay
end Go.Proofs.YtopbmdnbdpjheaaGreat
section
namespace Go.Proofs.YtopbmdnbdpjheaaGreat
open Go Go.Pg
section
variable (e:Nat->V) (bx:BX) (n:Nat) (h:Nat->V)
theorem awC(b:Nat)(l:List Nat)(x:Nat)(k:Nat)(ho:oct l)(hl:l.length<=2147483648)(hk:k<=l.length)(hd:ak l=(x,k,0))(hb:bx b=some (236,[fzb l,vb false]))(f:b<n) :
  Gxz 157 [.ref b 0] ⟨e,bx,n,h⟩ ⟨e,upd bx b (some (236,[fzb (l.drop k),vb false])),n,h⟩ (vi (x:Nat)):=by
 have a:=oP l ho hl
 rw[hd]at a
 unfold lU at a
 simp only at a
 have c:=aA l
 have d:=iR l k
 refine gZ oW ?_
 refine wS (Ag @aK @aH @aG @hb @pgv c d) a ?_
 refine bC (aW _ _ _) ?_
 rw[aP,aQ]
theorem awG(b:Nat)(l:List Nat)(bad:Bool)(ho:oct l)(hl:l.length<=2147483648)(hd:bad=true\/(ak l).2.2≠0)(hb:bx b=some (236,[fzb l,vb bad]))(d:b<n) :
  Gxz 157 [.ref b 0] ⟨e,bx,n,h⟩ ⟨e,upd bx b (some (236,[fzb l,vb true])),n,h⟩ (vi 0):=by
 have a:=oP l ho hl
 generalize ak l=q at *
 obtain⟨x,k,c⟩:=q
 unfold lU at a
 simp only at a hd
 cases bad
 .have he:c≠0:=by rcases hd with hd|hd;cases hd;exact hd
  refine gZ oW ?_;(repeat' first|refine wP (Ad @aK @aH @aG @hb) a ?_|refine tS ?_ ?_<;>intro f|fail);all_goals(refine bC (aW _ _ _) ?_;rw[aP,aQ])
 .refine gZ oW ?_;(repeat' first|refine wP (Ad @aK @aH @aG @hb) a ?_|refine tS ?_ ?_<;>intro f|fail);all_goals(refine bC (aW _ _ _) ?_;rw[aP,aQ])
theorem awU(b:Nat)(l:List Nat)(x:Nat)(k:Nat)(ho:oct l)(hl:l.length<=2147483648)(hk:k<=l.length)(hd:dV l=(x,k,0))(hb:bx b=some (236,[fzb l,vb false]))(f:b<n) :
  Gxz 158 [.ref b 0] ⟨e,bx,n,h⟩ ⟨e,upd bx b (some (236,[fzb (l.drop k),vb false])),n,h⟩ (vu (x:Nat)):=by
 have a:=Px l ho hl
 rw[hd]at a
 unfold DR at a
 simp only at a
 have c:=aA l
 have d:=iR l k
 refine gZ oW ?_
 refine wS (Ag @aK @aH @aG @hb @pgv c d) a ?_
 refine bC (aW _ _ _) ?_
 rw[aP,aQ]
theorem awV(b:Nat)(l:List Nat)(bad:Bool)(ho:oct l)(hl:l.length<=2147483648)(hd:bad=true\/(dV l).2.2≠0)(hb:bx b=some (236,[fzb l,vb bad]))(d:b<n) :
  Gxz 158 [.ref b 0] ⟨e,bx,n,h⟩ ⟨e,upd bx b (some (236,[fzb l,vb true])),n,h⟩ (vu 0):=by
 have a:=Px l ho hl
 generalize dV l=q at *
 obtain⟨x,k,c⟩:=q
 unfold DR at a
 simp only at a hd
 cases bad
 .have he:c≠0:=by rcases hd with hd|hd;cases hd;exact hd
  refine gZ oW ?_;(repeat' first|refine wP (Ad @aK @aH @aG @hb) a ?_|refine tS ?_ ?_<;>intro f|fail);all_goals(refine bC (aW _ _ _) ?_;rw[aP,aQ])
 .refine gZ oW ?_;(repeat' first|refine wP (Ad @aK @aH @aG @hb) a ?_|refine tS ?_ ?_<;>intro f|fail);all_goals(refine bC (aW _ _ _) ?_;rw[aP,aQ])
theorem awF(b:Nat)(l:List Nat)(x:Nat)(k:Nat)(ho:oct l)(hl:l.length<=2147483648)(hk:k<=l.length)(hd:ak l=(x,k,0))(hb:bx b=some (244,[fzb l,vb false]))(f:b<n) :
  Gxz 164 [.ref b 0] ⟨e,bx,n,h⟩ ⟨e,upd bx b (some (244,[fzb (l.drop k),vb false])),n,h⟩ (vi (x:Nat)):=by
 have a:=oP l ho hl
 rw[hd]at a
 unfold lU at a
 simp only at a
 have c:=aA l
 have d:=iR l k
 refine gZ oW ?_
 refine wS (Ag @aK @aH @aG @hb @pgv c d) a ?_
 refine bC (aW _ _ _) ?_
 rw[aP,aQ]
theorem awJ(b:Nat)(l:List Nat)(bad:Bool)(ho:oct l)(hl:l.length<=2147483648)(hd:bad=true\/(ak l).2.2≠0)(hb:bx b=some (244,[fzb l,vb bad]))(d:b<n) :
  Gxz 164 [.ref b 0] ⟨e,bx,n,h⟩ ⟨e,upd bx b (some (244,[fzb l,vb true])),n,h⟩ (vi 0):=by
 have a:=oP l ho hl
 generalize ak l=q at *
 obtain⟨x,k,c⟩:=q
 unfold lU at a
 simp only at a hd
 cases bad
 .have he:c≠0:=by rcases hd with hd|hd;cases hd;exact hd
  refine gZ oW ?_;(repeat' first|refine wP (Ad @aK @aH @aG @hb) a ?_|refine tS ?_ ?_<;>intro f|fail);all_goals(refine bC (aW _ _ _) ?_;rw[aP,aQ])
 .refine gZ oW ?_;(repeat' first|refine wP (Ad @aK @aH @aG @hb) a ?_|refine tS ?_ ?_<;>intro f|fail);all_goals(refine bC (aW _ _ _) ?_;rw[aP,aQ])
theorem awQ(b:Nat)(l:List Nat)(x:List Nat)(k:Nat)(ho:oct l)(hl:l.length<=2147483648)(hk:k<=l.length)(hd:bQ l=(x,k,0))(hb:bx b=some (244,[fzb l,vb false]))(f:b<n) :
  Gxz 165 [.ref b 0] ⟨e,bx,n,h⟩ ⟨e,upd bx b (some (244,[fzb (l.drop k),vb false])),n,h⟩ (vs x):=by
 have a:=Fj l ho hl
 rw[hd]at a
 unfold zi at a
 simp only at a
 have c:=aA l
 have d:=iR l k
 refine gZ oW ?_
 refine wS (Ag @aK @aH @aG @hb @pgv c d) a ?_
 refine bC (aW _ _ _) ?_
 rw[aP,aQ]
theorem awT(b:Nat)(l:List Nat)(bad:Bool)(ho:oct l)(hl:l.length<=2147483648)(hd:bad=true\/(bQ l).2.2≠0)(hb:bx b=some (244,[fzb l,vb bad]))(d:b<n) :
  Gxz 165 [.ref b 0] ⟨e,bx,n,h⟩ ⟨e,upd bx b (some (244,[fzb l,vb true])),n,h⟩ (vs []):=by
 have a:=Fj l ho hl
 generalize bQ l=q at *
 obtain⟨x,k,c⟩:=q
 unfold zi at a
 simp only at a hd
 cases bad
 .have he:c≠0:=by rcases hd with hd|hd;cases hd;exact hd
  refine gZ oW ?_;(repeat' first|refine wP (Ad @aK @aH @aG @hb) a ?_|refine tS ?_ ?_<;>intro f|fail);all_goals(refine bC (aW _ _ _) ?_;rw[aP,aQ])
 .refine gZ oW ?_;(repeat' first|refine wP (Ad @aK @aH @aG @hb) a ?_|refine tS ?_ ?_<;>intro f|fail);all_goals(refine bC (aW _ _ _) ?_;rw[aP,aQ])
theorem awD(b:Nat)(l:List Nat)(x:Nat)(k:Nat)(ho:oct l)(hl:l.length<=2147483648)(hk:k<=l.length)(hd:ak l=(x,k,0))(hb:bx b=some (248,[fzb l,vb false]))(f:b<n) :
  Gxz 167 [.ref b 0] ⟨e,bx,n,h⟩ ⟨e,upd bx b (some (248,[fzb (l.drop k),vb false])),n,h⟩ (vi (x:Nat)):=by
 have a:=oP l ho hl
 rw[hd]at a
 unfold lU at a
 simp only at a
 have c:=aA l
 have d:=iR l k
 refine gZ oW ?_
 refine wS (Ag @aK @aH @aG @hb @pgv c d) a ?_
 refine bC (aW _ _ _) ?_
 rw[aP,aQ]
theorem awH(b:Nat)(l:List Nat)(bad:Bool)(ho:oct l)(hl:l.length<=2147483648)(hd:bad=true\/(ak l).2.2≠0)(hb:bx b=some (248,[fzb l,vb bad]))(d:b<n) :
  Gxz 167 [.ref b 0] ⟨e,bx,n,h⟩ ⟨e,upd bx b (some (248,[fzb l,vb true])),n,h⟩ (vi 0):=by
 have a:=oP l ho hl
 generalize ak l=q at *
 obtain⟨x,k,c⟩:=q
 unfold lU at a
 simp only at a hd
 cases bad
 .have he:c≠0:=by rcases hd with hd|hd;cases hd;exact hd
  refine gZ oW ?_;(repeat' first|refine wP (Ad @aK @aH @aG @hb) a ?_|refine tS ?_ ?_<;>intro f|fail);all_goals(refine bC (aW _ _ _) ?_;rw[aP,aQ])
 .refine gZ oW ?_;(repeat' first|refine wP (Ad @aK @aH @aG @hb) a ?_|refine tS ?_ ?_<;>intro f|fail);all_goals(refine bC (aW _ _ _) ?_;rw[aP,aQ])
theorem awO(b:Nat)(l:List Nat)(x:List Nat)(k:Nat)(ho:oct l)(hl:l.length<=2147483648)(hk:k<=l.length)(hd:bQ l=(x,k,0))(hb:bx b=some (248,[fzb l,vb false]))(f:b<n) :
  Gxz 168 [.ref b 0] ⟨e,bx,n,h⟩ ⟨e,upd bx b (some (248,[fzb (l.drop k),vb false])),n,h⟩ (vs x):=by
 have a:=Fj l ho hl
 rw[hd]at a
 unfold zi at a
 simp only at a
 have c:=aA l
 have d:=iR l k
 refine gZ oW ?_
 refine wS (Ag @aK @aH @aG @hb @pgv c d) a ?_
 refine bC (aW _ _ _) ?_
 rw[aP,aQ]
theorem awR(b:Nat)(l:List Nat)(bad:Bool)(ho:oct l)(hl:l.length<=2147483648)(hd:bad=true\/(bQ l).2.2≠0)(hb:bx b=some (248,[fzb l,vb bad]))(d:b<n) :
  Gxz 168 [.ref b 0] ⟨e,bx,n,h⟩ ⟨e,upd bx b (some (248,[fzb l,vb true])),n,h⟩ (vs []):=by
 have a:=Fj l ho hl
 generalize bQ l=q at *
 obtain⟨x,k,c⟩:=q
 unfold zi at a
 simp only at a hd
 cases bad
 .have he:c≠0:=by rcases hd with hd|hd;cases hd;exact hd
  refine gZ oW ?_;(repeat' first|refine wP (Ad @aK @aH @aG @hb) a ?_|refine tS ?_ ?_<;>intro f|fail);all_goals(refine bC (aW _ _ _) ?_;rw[aP,aQ])
 .refine gZ oW ?_;(repeat' first|refine wP (Ad @aK @aH @aG @hb) a ?_|refine tS ?_ ?_<;>intro f|fail);all_goals(refine bC (aW _ _ _) ?_;rw[aP,aQ])
theorem awE(b:Nat)(l:List Nat)(x:Nat)(k:Nat)(ho:oct l)(hl:l.length<=2147483648)(hk:k<=l.length)(hd:ak l=(x,k,0))(hb:bx b=some (251,[fzb l,vb false]))(f:b<n) :
  Gxz 170 [.ref b 0] ⟨e,bx,n,h⟩ ⟨e,upd bx b (some (251,[fzb (l.drop k),vb false])),n,h⟩ (vi (x:Nat)):=by
 have a:=oP l ho hl
 rw[hd]at a
 unfold lU at a
 simp only at a
 have c:=aA l
 have d:=iR l k
 refine gZ oW ?_
 refine wS (Ag @aK @aH @aG @hb @pgv c d) a ?_
 refine bC (aW _ _ _) ?_
 rw[aP,aQ]
theorem awI(b:Nat)(l:List Nat)(bad:Bool)(ho:oct l)(hl:l.length<=2147483648)(hd:bad=true\/(ak l).2.2≠0)(hb:bx b=some (251,[fzb l,vb bad]))(d:b<n) :
  Gxz 170 [.ref b 0] ⟨e,bx,n,h⟩ ⟨e,upd bx b (some (251,[fzb l,vb true])),n,h⟩ (vi 0):=by
 have a:=oP l ho hl
 generalize ak l=q at *
 obtain⟨x,k,c⟩:=q
 unfold lU at a
 simp only at a hd
 cases bad
 .have he:c≠0:=by rcases hd with hd|hd;cases hd;exact hd
  refine gZ oW ?_;(repeat' first|refine wP (Ad @aK @aH @aG @hb) a ?_|refine tS ?_ ?_<;>intro f|fail);all_goals(refine bC (aW _ _ _) ?_;rw[aP,aQ])
 .refine gZ oW ?_;(repeat' first|refine wP (Ad @aK @aH @aG @hb) a ?_|refine tS ?_ ?_<;>intro f|fail);all_goals(refine bC (aW _ _ _) ?_;rw[aP,aQ])
theorem awP(b:Nat)(l:List Nat)(x:List Nat)(k:Nat)(ho:oct l)(hl:l.length<=2147483648)(hk:k<=l.length)(hd:bQ l=(x,k,0))(hb:bx b=some (251,[fzb l,vb false]))(f:b<n) :
  Gxz 171 [.ref b 0] ⟨e,bx,n,h⟩ ⟨e,upd bx b (some (251,[fzb (l.drop k),vb false])),n,h⟩ (vs x):=by
 have a:=Fj l ho hl
 rw[hd]at a
 unfold zi at a
 simp only at a
 have c:=aA l
 have d:=iR l k
 refine gZ oW ?_
 refine wS (Ag @aK @aH @aG @hb @pgv c d) a ?_
 refine bC (aW _ _ _) ?_
 rw[aP,aQ]
theorem awS(b:Nat)(l:List Nat)(bad:Bool)(ho:oct l)(hl:l.length<=2147483648)(hd:bad=true\/(bQ l).2.2≠0)(hb:bx b=some (251,[fzb l,vb bad]))(d:b<n) :
  Gxz 171 [.ref b 0] ⟨e,bx,n,h⟩ ⟨e,upd bx b (some (251,[fzb l,vb true])),n,h⟩ (vs []):=by
 have a:=Fj l ho hl
 generalize bQ l=q at *
 obtain⟨x,k,c⟩:=q
 unfold zi at a
 simp only at a hd
 cases bad
 .have he:c≠0:=by rcases hd with hd|hd;cases hd;exact hd
  refine gZ oW ?_;(repeat' first|refine wP (Ad @aK @aH @aG @hb) a ?_|refine tS ?_ ?_<;>intro f|fail);all_goals(refine bC (aW _ _ _) ?_;rw[aP,aQ])
 .refine gZ oW ?_;(repeat' first|refine wP (Ad @aK @aH @aG @hb) a ?_|refine tS ?_ ?_<;>intro f|fail);all_goals(refine bC (aW _ _ _) ?_;rw[aP,aQ])
end
end Go.Proofs.YtopbmdnbdpjheaaGreat
end
section
namespace Go.Proofs.YtopbmdnbdpjheaaGreat
open Go Go.Pg
def nuX(l:List Nat)(b:Bool):Nat:=if b=true\/(ak l).2.2≠0 then 0 else(ak l).1
def nuL(l:List Nat)(b:Bool):List Nat:=if b=true\/(ak l).2.2≠0 then l else l.drop (ak l).2.1
def nuB(l:List Nat)(b:Bool):Bool:=if b=true\/(ak l).2.2≠0 then true else false
def woX(l:List Nat)(b:Bool):Nat:=if b=true\/(dV l).2.2≠0 then 0 else(dV l).1
def woL(l:List Nat)(b:Bool):List Nat:=if b=true\/(dV l).2.2≠0 then l else l.drop (dV l).2.1
def woB(l:List Nat)(b:Bool):Bool:=if b=true\/(dV l).2.2≠0 then true else false
def teX(l:List Nat)(b:Bool):List Nat:=if b=true\/(bQ l).2.2≠0 then[]else(bQ l).1
def teL(l:List Nat)(b:Bool):List Nat:=if b=true\/(bQ l).2.2≠0 then l else l.drop (bQ l).2.1
def teB(l:List Nat)(b:Bool):Bool:=if b=true\/(bQ l).2.2≠0 then true else false
def Kt(l:List Nat)(b:Bool)(ho:oct l):nuX l b<=4611686018427387904:=by grind[nuX,lS]
def E8{l:List Nat}(b:Bool)(ho:oct l):oct (nuL l b):=by grind[nuL,eG]
def E5(l:List Nat)(b:Bool):(nuL l b).length<=l.length:=by grind[nuL]
def au9{l:List Nat}(b:Bool)(ho:oct l):oct (woL l b):=by grind[woL,eG]
def au8(l:List Nat)(b:Bool):(woL l b).length<=l.length:=by grind[woL]
def QO{l:List Nat}(b:Bool)(ho:oct l):oct (teL l b):=by grind[teL,eG]
def QN(l:List Nat)(b:Bool):(teL l b).length<=l.length:=by grind[teL]
theorem Ep(l:List Nat)(ho:oct l):(dV l).1<18446744073709551616/\((dV l).2.2=0->(dV l).2.1<=l.length):=by
 unfold dV;split
 .grind
 .exact⟨D7 ho (i:=8) Om,fun _=>by simp only;omega⟩
theorem Z8(l:List Nat)(b:Bool)(ho:oct l):woX l b<18446744073709551616:=by grind[woX,Ep]
theorem Cc(l:List Nat)(ho:oct l):oct (bQ l).1/\(bQ l).1.length<=65536/\((bQ l).2.2=0->(bQ l).2.1<=l.length):=by
 obtain⟨a,b,c⟩:=lS l ho;unfold bQ;split
 .exact⟨vk,by simp,fun h=>by simp only;omega⟩
 .split
  .grind[vk]
  .split
   .grind[vk]
   .exact⟨vw (eG ho _) _,by simp;omega,fun _=>by simp only;omega⟩
def QP(l:List Nat)(b:Bool)(ho:oct l):oct (teX l b)/\(teX l b).length<=65536:=by grind[teX,vk,Cc]
section
variable (e:Nat->V) (bx:BX) (n:Nat) (h:Nat->V)
theorem Q9(b:Nat)(l:List Nat)(bad:Bool)(ho:oct l)(hl:l.length<=2147483648)(hb:bx b=some (236,[fzb l,vb bad]))(c:b<n) :
  Gxz 157 [.ref b 0] ⟨e,bx,n,h⟩ ⟨e,upd bx b (some (236,[fzb (nuL l bad),vb (nuB l bad)])),n,h⟩ (vi (nuX l bad:Nat)):=by
 by_cases a:bad=true\/(ak l).2.2≠0
 .have f:nuX l bad=0:=ah a;have g:nuL l bad=l:=ah a;have i:nuB l bad=true:=ah a;rw[f,g,i];exact awG e bx n h b l bad ho hl a hb c
 .have f:nuX l bad=(ak l).1:=ag a;have g:nuL l bad=l.drop (ak l).2.1:=ag a;have i:nuB l bad=false:=ag a;rw[f,g,i]
  have d:(ak l).2.2=0:=by
   rcases gG (ak l).2.2 with d|d
   .exact d
   .exact absurd (.inr Om) a
  cases bad with
  |true=>exact absurd (.inl rfl) a
  |false=>exact awC e bx n h b l (ak l).1 (ak l).2.1 ho hl ((lS l ho).2.1) (by rw[<-d]) hb c
theorem awN(b:Nat)(l:List Nat)(bad:Bool)(ho:oct l)(hl:l.length<=2147483648)(hb:bx b=some (236,[fzb l,vb bad]))(d:b<n) :
  Gxz 158 [.ref b 0] ⟨e,bx,n,h⟩ ⟨e,upd bx b (some (236,[fzb (woL l bad),vb (woB l bad)])),n,h⟩ (vu (woX l bad:Nat)):=by
 by_cases a:bad=true\/(dV l).2.2≠0
 .have f:woX l bad=0:=ah a;have g:woL l bad=l:=ah a;have i:woB l bad=true:=ah a;rw[f,g,i];exact awV e bx n h b l bad ho hl a hb d
 .have f:woX l bad=(dV l).1:=ag a;have g:woL l bad=l.drop (dV l).2.1:=ag a;have i:woB l bad=false:=ag a;rw[f,g,i]
  have c:(dV l).2.2=0:=by
   rcases gG (dV l).2.2 with c|c
   .exact c
   .exact absurd (.inr Om) a
  cases bad with
  |true=>exact absurd (.inl rfl) a
  |false=>exact awU e bx n h b l (dV l).1 (dV l).2.1 ho hl ((Ep l ho).2 c) (by rw[<-c]) hb d
theorem Rf(b:Nat)(l:List Nat)(bad:Bool)(ho:oct l)(hl:l.length<=2147483648)(hb:bx b=some (244,[fzb l,vb bad]))(c:b<n) :
  Gxz 164 [.ref b 0] ⟨e,bx,n,h⟩ ⟨e,upd bx b (some (244,[fzb (nuL l bad),vb (nuB l bad)])),n,h⟩ (vi (nuX l bad:Nat)):=by
 by_cases a:bad=true\/(ak l).2.2≠0
 .have f:nuX l bad=0:=ah a;have g:nuL l bad=l:=ah a;have i:nuB l bad=true:=ah a;rw[f,g,i];exact awJ e bx n h b l bad ho hl a hb c
 .have f:nuX l bad=(ak l).1:=ag a;have g:nuL l bad=l.drop (ak l).2.1:=ag a;have i:nuB l bad=false:=ag a;rw[f,g,i]
  have d:(ak l).2.2=0:=by
   rcases gG (ak l).2.2 with d|d
   .exact d
   .exact absurd (.inr Om) a
  cases bad with
  |true=>exact absurd (.inl rfl) a
  |false=>exact awF e bx n h b l (ak l).1 (ak l).2.1 ho hl ((lS l ho).2.1) (by rw[<-d]) hb c
theorem awM(b:Nat)(l:List Nat)(bad:Bool)(ho:oct l)(hl:l.length<=2147483648)(hb:bx b=some (244,[fzb l,vb bad]))(d:b<n) :
  Gxz 165 [.ref b 0] ⟨e,bx,n,h⟩ ⟨e,upd bx b (some (244,[fzb (teL l bad),vb (teB l bad)])),n,h⟩ (vs (teX l bad)):=by
 by_cases a:bad=true\/(bQ l).2.2≠0
 .have f:teX l bad=[]:=ah a;have g:teL l bad=l:=ah a;have i:teB l bad=true:=ah a;rw[f,g,i];exact awT e bx n h b l bad ho hl a hb d
 .have f:teX l bad=(bQ l).1:=ag a;have g:teL l bad=l.drop (bQ l).2.1:=ag a;have i:teB l bad=false:=ag a;rw[f,g,i]
  have c:(bQ l).2.2=0:=by
   rcases gG (bQ l).2.2 with c|c
   .exact c
   .exact absurd (.inr Om) a
  cases bad with
  |true=>exact absurd (.inl rfl) a
  |false=>exact awQ e bx n h b l (bQ l).1 (bQ l).2.1 ho hl ((Cc l ho).2.2 c) (by rw[<-c]) hb d
theorem aak(b:Nat)(l:List Nat)(bad:Bool)(ho:oct l)(hl:l.length<=2147483648)(hb:bx b=some (248,[fzb l,vb bad]))(c:b<n) :
  Gxz 167 [.ref b 0] ⟨e,bx,n,h⟩ ⟨e,upd bx b (some (248,[fzb (nuL l bad),vb (nuB l bad)])),n,h⟩ (vi (nuX l bad:Nat)):=by
 by_cases a:bad=true\/(ak l).2.2≠0
 .have f:nuX l bad=0:=ah a;have g:nuL l bad=l:=ah a;have i:nuB l bad=true:=ah a;rw[f,g,i];exact awH e bx n h b l bad ho hl a hb c
 .have f:nuX l bad=(ak l).1:=ag a;have g:nuL l bad=l.drop (ak l).2.1:=ag a;have i:nuB l bad=false:=ag a;rw[f,g,i]
  have d:(ak l).2.2=0:=by
   rcases gG (ak l).2.2 with d|d
   .exact d
   .exact absurd (.inr Om) a
  cases bad with
  |true=>exact absurd (.inl rfl) a
  |false=>exact awD e bx n h b l (ak l).1 (ak l).2.1 ho hl ((lS l ho).2.1) (by rw[<-d]) hb c
theorem awK(b:Nat)(l:List Nat)(bad:Bool)(ho:oct l)(hl:l.length<=2147483648)(hb:bx b=some (248,[fzb l,vb bad]))(d:b<n) :
  Gxz 168 [.ref b 0] ⟨e,bx,n,h⟩ ⟨e,upd bx b (some (248,[fzb (teL l bad),vb (teB l bad)])),n,h⟩ (vs (teX l bad)):=by
 by_cases a:bad=true\/(bQ l).2.2≠0
 .have f:teX l bad=[]:=ah a;have g:teL l bad=l:=ah a;have i:teB l bad=true:=ah a;rw[f,g,i];exact awR e bx n h b l bad ho hl a hb d
 .have f:teX l bad=(bQ l).1:=ag a;have g:teL l bad=l.drop (bQ l).2.1:=ag a;have i:teB l bad=false:=ag a;rw[f,g,i]
  have c:(bQ l).2.2=0:=by
   rcases gG (bQ l).2.2 with c|c
   .exact c
   .exact absurd (.inr Om) a
  cases bad with
  |true=>exact absurd (.inl rfl) a
  |false=>exact awO e bx n h b l (bQ l).1 (bQ l).2.1 ho hl ((Cc l ho).2.2 c) (by rw[<-c]) hb d
theorem aal(b:Nat)(l:List Nat)(bad:Bool)(ho:oct l)(hl:l.length<=2147483648)(hb:bx b=some (251,[fzb l,vb bad]))(c:b<n) :
  Gxz 170 [.ref b 0] ⟨e,bx,n,h⟩ ⟨e,upd bx b (some (251,[fzb (nuL l bad),vb (nuB l bad)])),n,h⟩ (vi (nuX l bad:Nat)):=by
 by_cases a:bad=true\/(ak l).2.2≠0
 .have f:nuX l bad=0:=ah a;have g:nuL l bad=l:=ah a;have i:nuB l bad=true:=ah a;rw[f,g,i];exact awI e bx n h b l bad ho hl a hb c
 .have f:nuX l bad=(ak l).1:=ag a;have g:nuL l bad=l.drop (ak l).2.1:=ag a;have i:nuB l bad=false:=ag a;rw[f,g,i]
  have d:(ak l).2.2=0:=by
   rcases gG (ak l).2.2 with d|d
   .exact d
   .exact absurd (.inr Om) a
  cases bad with
  |true=>exact absurd (.inl rfl) a
  |false=>exact awE e bx n h b l (ak l).1 (ak l).2.1 ho hl ((lS l ho).2.1) (by rw[<-d]) hb c
theorem awL(b:Nat)(l:List Nat)(bad:Bool)(ho:oct l)(hl:l.length<=2147483648)(hb:bx b=some (251,[fzb l,vb bad]))(d:b<n) :
  Gxz 171 [.ref b 0] ⟨e,bx,n,h⟩ ⟨e,upd bx b (some (251,[fzb (teL l bad),vb (teB l bad)])),n,h⟩ (vs (teX l bad)):=by
 by_cases a:bad=true\/(bQ l).2.2≠0
 .have f:teX l bad=[]:=ah a;have g:teL l bad=l:=ah a;have i:teB l bad=true:=ah a;rw[f,g,i];exact awS e bx n h b l bad ho hl a hb d
 .have f:teX l bad=(bQ l).1:=ag a;have g:teL l bad=l.drop (bQ l).2.1:=ag a;have i:teB l bad=false:=ag a;rw[f,g,i]
  have c:(bQ l).2.2=0:=by
   rcases gG (bQ l).2.2 with c|c
   .exact c
   .exact absurd (.inr Om) a
  cases bad with
  |true=>exact absurd (.inl rfl) a
  |false=>exact awP e bx n h b l (bQ l).1 (bQ l).2.1 ho hl ((Cc l ho).2.2 c) (by rw[<-c]) hb d
end
end Go.Proofs.YtopbmdnbdpjheaaGreat
end
namespace Go.Proofs.YtopbmdnbdpjheaaGreat
open Go Go.Pg
theorem ZB(n:Int)(h:0<=n/\n<=4294967295):IntKind.u32.wrap n=n:=IntWalk.u32_in n h
def Xt(x c:Nat)(hx:x<16777216)(a:c<256):bits .or .u32 (IntKind.u32.wrap ((x:Int)*2^min 8 IntKind.u32.bits)) (c:Int)=((x*256+c:Nat):Int):=by have e:(2:Int)^min 8 IntKind.u32.bits=256:=rfl;rw[e,ZB _ Om];rw[bits_join .u32 32 dX (fun n h h1=>ZB n ⟨h,by omega⟩) 8 _ _ Om Om Om Om Om Om];omega
def Nq(m:List Nat)(ho:oct m):(ak m).1<=4611686018427387904/\(ak m).2.1<=255:=by grind[ak,kw]
def nO(e:Nat):V:=.tup [.c (.int .u8 0),.c (.slice none 0 0),vi 0,vi (e:Nat)]
def ft(l:List Nat)(e:Nat):List Nat:=(l.take (e+4)).drop e
def Jy{l:List Nat}{e:Nat}(h:e+4<=l.length):(ft l e).length=4:=by grind[ft]
def NU{l:List Nat}(h:oct l)(e:Nat):oct (ft l e):=fun x hx=>h x (Gq (BG hx))
def unF(l:List Nat):V :=
 if l.length=0 then nO 3 else
 if(ak (l.drop 1)).2.2≠0 then nO (ak (l.drop 1)).2.2 else
 if 1048576<(ak (l.drop 1)).1 then nO 2 else
 if l.length<1+(ak (l.drop 1)).2.1+(ak (l.drop 1)).1+4 then nO 3 else
 if acc (ft l (1+(ak (l.drop 1)).2.1+(ak (l.drop 1)).1))≠ckN (l.take (1+(ak (l.drop 1)).2.1+(ak (l.drop 1)).1))then nO 4 else
 .tup [.c (.int .u8 (l.getD 0 0:Nat)),ob 0 ((l.take (1+(ak (l.drop 1)).2.1+(ak (l.drop 1)).1)).drop (1+(ak (l.drop 1)).2.1)),
  vi (1+(ak (l.drop 1)).2.1+(ak (l.drop 1)).1+4:Nat),vi 0]
def aoA(l:List Nat)(ho:oct l)(hl:l.length<=2147483648)(M:(ak (l.drop 1)).1≠0):Gxx 71 [fzb l] (unF l):=by
 have a:=aA l
 unfold unF
 rcases gG l.length with m|m
 .rw[ah m]
  refine gI oW ?_
  exact wR a ae ay
 rw[ag Om]
 have d:=oP (l.drop 1) (eG ho 1) (by simp;omega)
 obtain⟨x1,x2⟩:=Nq (l.drop 1) (eG ho 1)
 unfold lU at d
 have j:=iR l 1
 have v:=lY l 0 m
 generalize ak (l.drop 1)=q at *
 obtain⟨x,u,e⟩:=q
 simp only at *
 by_cases he:e=0
 .subst he
  rw[ag Aa]
  rcases au 1048576 x with h1|h1
  .rw[ah h1]
   refine gI oW ?_
   exact wR (Ac @pgv a j) d ay
  rw[ag (show ¬1048576<x by omega)]
  rcases au l.length (1+u+x+4)with h2|h2
  .rw[ah h2]
   refine gI oW ?_
   exact wR (Ac @pgv a j) d ay
  rw[ag (show ¬l.length<1+u+x+4 by omega)]
  have r:=Jy (l:=l) (e:=1+u+x) Om
  have g:=NU ho (1+u+x)
  have t:((bv l).take (1+u+x+4)).drop (1+u+x)=bv (ft l (1+u+x)):=by rw[xX,iR];rfl
  have b:=aA (ft l (1+u+x))
  rw[r]at b
  have c:=xX l (1+u+x)
  have k:=iR (l.take (1+u+x)) (1+u)
  have N:Int.toNat (1+(u:Int)+(x:Int)+4)=1+u+x+4:=Om
  have t2:Int.toNat (1+(u:Int)+(x:Int))=1+u+x:=Om
  have G:Int.toNat (1+(u:Int))=1+u:=Om
  have E:(l.take (1+u+x)).length=1+u+x:=by rw[bI];omega
  have p:((l.take (1+u+x)).drop (1+u)).length=x:=by rw[eH,E];omega
  have f:=aA ((l.take (1+u+x)).drop (1+u))
  rw[p]at f
  have I:=Pq (l.take (1+u+x)) (vw ho _) Om
  have K:=Ec (l.take (1+u+x))
  refine gI oW ?_
  refine wS (Ah @pgv a j N @t2 G t b) d ?_
  refine axo 4 (fun i=>[(0,fzb l),(7,vi (u:Nat)),(8,vi (1+(u:Int)+(x:Int))),(9,.c (.int .u32 (acc ((ft l (1+u+x)).take i):Nat))),(46,fzb (ft l (1+u+x))),(47,vi 4),(48,vi i)]) [] 0 [] [] ?_ ?_
  .exact kY
  .intro i hi
   replace hi:i<=4:=hi
   have hb:=kw g i
   have ha:=D7 g (i:=i) Om
   rcases au i 4 with C|L
   .have hp:256^i<=256^3:=qL Om Om
    have y:=lY (ft l (1+u+x)) i Om
    have J:=I4 (s:=ft l (1+u+x)) (i:=i) Om
    have H:=Xt (acc ((ft l (1+u+x)).take i)) ((ft l (1+u+x)).getD i 0) Om hb
    rw[J]at H
    refine wT (Ac b y H) ?_
    exact bY (i+1) [] [] C
   .have A:i=4:=Om
    subst A
    have e:(ft l (1+u+x)).take 4=ft l (1+u+x):=oz Om
    rw[e]at *
    generalize ft l (1+u+x)=F at *
    by_cases n:acc F=ckN (l.take (1+u+x))
    .rw[ag (fun h=>h n)]
     rw[n]
     exact wR (A8 @pgv b a @t2 G c k f v) I (ids [1])
    .rw[ah n]
     exact wR (Af @pgv b a @t2 G c) I ay
 .rw[ah he]
  refine gI oW ?_
  exact wR (Ac @pgv a j) d ay
theorem RQ:∀(k n:Nat),acc (be k n)=n%256^k:=by
 intro k
 induction k with
 |zero=>intro n;simp[be,acc,Nat.mod_one]
 |succ k i=>grind[be,zI,Nat.mod_mul]
def Cb(n:Nat)(s:n<=4611686018427387904)(r:List Nat):ak (ai n++r)=(n,(ai n).length,0):=by
 by_cases h:n<248
 .grind[ZH,ak]
 .have l:n<256^8:=Om;obtain⟨d,d2,m⟩:=Nw 8 n l;obtain⟨b,p⟩:=d2 Om;rw[ZG h];generalize dg 8 n=k at *;obtain⟨k,rfl⟩:∃j,k=j+1:=⟨k-1,by omega⟩;have hl:=MO (k+1) n;have ha:=RQ (k+1) n;rw[Md d]at ha;have q:=xR k n;rw[uC]at b;have hp:1<=n / 256^k:=Nat.div_pos b (Nat.pow_pos Om);have t:n / 256^k<256:=by rw[Nat.div_lt_iff_lt_mul (Nat.pow_pos Om)];rw[Gu]at d;rw[Nat.mul_comm];exact d
  have g:((247+(k+1))::be (k+1) n++r).getD 0 0=247+(k+1):=rfl;have c:((247+(k+1))::be (k+1) n++r).getD 1 0=n / 256^k:=by grind
  have i:mid ((247+(k+1))::be (k+1) n++r) (k+2)=be (k+1) n:=by grind[mid]
  have f:((247+(k+1))::be (k+1) n++r).length=k+2+r.length:=by simp only[mO,dB,aN,hl];omega
  have a:247+(k+1)-246=k+2:=Om;unfold ak;rw[g,c,f,a,i,ha];rw[ag Om,ag Om,ag Om,ag Om];simp[hl]
def Bq(n m:Nat):u8i ((n:Int).fdiv (2^(8*m)))=n / 256^m%256:=by
 have a:(256^m:Nat)=2^(8*m):=by rw[Nat.pow_mul]
 grind[u8i]
theorem Z9(n:Nat):eY (n:Int)=be 8 n:=by
 have e:eY (n:Int)=[n / 256^7%256,n / 256^6%256,n / 256^5%256,n / 256^4%256,n / 256^3%256,n / 256^2%256,n / 256^1%256,n / 256^0%256]:=by rw[<-Bq n 7,<-Bq n 6,<-Bq n 5,<-Bq n 4,<-Bq n 3,<-Bq n 2,<-Bq n 1,<-Bq n 0];rfl
 rw[e];rw[xR 7,xR 6,xR 5,xR 4,xR 3,xR 2,xR 1,xR 0];rfl
def Nv(x:Int)(hx:0<=x/\x<18446744073709551616)(r:List Nat):dV (eY x++r)=(x.toNat,8,0):=by grind[hx,qg,dV,Z9,RQ]
def TJ(s:List Nat)(a:s.length<=65536)(r:List Nat):bQ (bG s++r)=(s,(bG s).length,0):=by have h:=Cb s.length Om (s++r);unfold bG;rw[bZ];unfold bQ;rw[h];grind
theorem Tj(F:List Nat):acc (ckB F)=ckN F:=by grind[ckB,acc]
end Go.Proofs.YtopbmdnbdpjheaaGreat
