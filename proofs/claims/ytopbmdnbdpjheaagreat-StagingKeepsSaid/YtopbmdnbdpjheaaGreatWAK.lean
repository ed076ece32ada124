/-
  Merged texts.
-/
import Derived.Test.YtopbmdnbdpjheaaGreatWAG
import Derived.Test.YtopbmdnbdpjheaaGreatWAJ
import Derived.Test.YtopbmdnbdpjheaaGreatWAF
import Derived.Test.YtopbmdnbdpjheaaGreatWAE
set_option linter.all false
set_option linter.unusedVariables false
set_option linter.unusedSimpArgs false
set_option linter.unusedSectionVars false
set_option linter.defProp false
set_option maxRecDepth 100000
set_option maxHeartbeats 8000000
namespace Go.Proofs.YtopbmdnbdpjheaaGreat
open Go Go.Pg
def beF:Nat->Nat->List Nat
 |0,_=>[]
 |f+1,n=>if n=0 then[]else beF f (n / 256)++[n%256]
def beB(n:Nat):List Nat:=beF 8 n
theorem MM(f n:Nat):(beF f n).length<=f:=by
 induction f generalizing n with
 |zero=>exact az _
 |succ f i =>grind[beF]
theorem ab8(f n:Nat):oct (beF f n):=by induction f generalizing n<;>grind[vk,beF,bT,yT]
def ab5(f:Nat):beF f 0=[]:=by cases f<;>rfl
theorem ab9(f n:Nat)(h:0<n):beF (f+1) n=beF f (n / 256)++[n%256]:=ag Om
def ai(n:Nat):List Nat:=if n<248 then[n]else(247+(beB n).length)::beB n
theorem bP(n:Nat):(ai n).length<=9:=by grind[ai,MM,beB]
theorem dI(n:Nat):oct (ai n):=by grind[ai,MM,yT,Ie,beB,ab8]
def eY(x:Int):List Nat:=(List.range 8).map fun j=>u8i (x.fdiv (2^(8*(7-j))))
theorem qg(x:Int):(eY x).length=8:=rfl
def ZE(n:Int):u8i n<256:=by unfold u8i;omega
theorem Q7(x:Int):oct (eY x):=by intro b hb;obtain⟨j,_,rfl⟩:=dP.1 hb;exact ZE _
def bG(s:List Nat):List Nat:=ai s.length++s
theorem vS(s:List Nat):(bG s).length<=9+s.length:=by grind[bP,bG]
theorem FV{s:List Nat}(h:oct s):oct (bG s):=bT (dI _) h
def ckS:List Nat->Nat×Nat->Nat×Nat
 |[],p=>p
 |b::l,p=>ckS l ((p.1+b)%65521,(p.2+(p.1+b)%65521)%65521)
def ckN(l:List Nat):Nat:=(ckS l (1,0)).2*65536+(ckS l (1,0)).1
theorem adH(l:List Nat)(p:Nat×Nat)(h:p.1<65521/\p.2<65521):(ckS l p).1<65521/\(ckS l p).2<65521:=by
 induction l generalizing p with
 |nil=>exact h
 |cons b l i=>exact i _ ⟨kQ _ Om,kQ _ Om⟩
def Ec(l:List Nat):ckN l<4294967296:=by grind[adH,ckN]
def ckB(l:List Nat):List Nat:=[ckN l / 16777216,ckN l / 65536%256,ckN l / 256%256,ckN l%256]
theorem Tm(l:List Nat):oct (ckB l):=by have:=Ec l;intro b hb;grind[ckB]
def bK(t:Nat)(b:List Nat):List Nat:=t::ai b.length++b
def jR(t:Nat)(b:List Nat):List Nat:=bK t b++ckB (bK t b)
theorem agD(t:Nat)(b:List Nat):(jR t b).length<=b.length+14:=by grind[bP,jR,bK,ckB]
theorem UG{t:Nat}{b:List Nat}(a:t<256)(h:oct b):oct (jR t b):=bT (bT (Ie a (dI _)) h) (Tm _)
def bvS(l:List Nat)(n:Nat):bv l++[V.c (.int .u8 (n:Int))]=bv (l++[n]):=by simp[bv]
theorem bvC(n:Nat)(l:List Nat):V.c (.int .u8 (n:Int))::bv l=bv (n::l):=rfl
def afS(n:Nat):Int.fdiv (n:Int) (2^min 8 IntKind.i64.bits)=((n / 256:Nat):Int):=by show Int.fdiv (n:Int) ((256:Nat):Int)=_;grind
abbrev ob(id:Nat)(l:List Nat):V:=.sl (.own id 5) 1 (bv l)
def JE(n:Nat)(k:n<9223372036854775808):Gxx 56 [vi n] (ob 0 (ai n)):=by
 unfold ai;by_cases h:n<248
 .rw[ah h];have a:IntKind.u8.wrap (n:Int)=((n:Nat):Int):=by rw[IntKind.wrap_u8];omega
  refine gI oW ?_;exact wR a ae (ids [0])
 .rw[ag h];have hb:beF 8 n=beB n:=rfl;have b:=MM 8 n;rw[hb]at b;generalize beB n=B at *;refine gI oW ?_;refine wT ae ?_;refine aJ (fun x:Nat×Nat×List Nat=>mkA [(0,vi (x.2.1:Nat)),(3,ob 0 x.2.2)] [] 1 (fun _=>.top)) (fun x=>x.2.1<256^x.1/\x.1<=8/\beF x.1 x.2.1++x.2.2=B/\x.2.1<=n) (fun x=>x.2.1) (8,n,[]) [] [] ?_ ⟨by simp only;omega,az _,by simp only;rw[gV];exact hb,az _⟩ ?_
  .exact kE;all_goals first|exact iT rfl|skip
  .rintro⟨f,m,acc⟩ ⟨h1,h2,h3,h4⟩;simp only at h1 h2 h3 h4;have j:m<18446744073709551616:=sF h1 (qL dX h2);have i:acc.length<=8:=by rw[<-h3,aN]at b;omega
   have c:=aA acc;rcases gG m with rfl|d
   .rw[ab5,iY]at h3;subst h3;have a:IntKind.u8.wrap (247+(acc.length:Int))=((247+acc.length:Nat):Int):=by rw[IntKind.wrap_u8];omega
    exact wR (aI c a) ae (ids [1])
   .cases f with
    |zero=>simp at h1;omega
    |succ f =>
    rw[ab9 f m d,bZ]at h3;have a:IntKind.u8.wrap (m:Int)=((m%256:Nat):Int):=by rw[IntKind.wrap_u8];omega
    have g:=afS m;refine wT (Ac c a g) ?_;refine dn (f,m / 256,m%256::acc) [1] [] ⟨?_,by omega,h3,by simp only;omega⟩ (by show m / 256<m;omega) ?_
    .show m / 256<256^f;rw[Gu]at h1;exact Nat.div_lt_of_lt_mul Om
    .exact kE
def rq(n:Int)(h:0<=n/\n<9223372036854775808):Gxx 56 [vi n] (ob 0 (ai n.toNat)):=by have:=JE n.toNat Om;rwa [Int.toNat_of_nonneg h.1]at this
theorem pM(n:Int)(h:0<=n/\n<9223372036854775808):Gxx 56 [vi n] (fzb (ai n.toNat)):=(rq n h).fzr rfl (aC _)
def aie(x:Int)(hx:0<=x/\x<18446744073709551616):Gxx 141 [vu x] (ob 0 (eY x)):=by
 refine gI oW ?_;refine wT ae ?_;refine aJ (fun j:Nat=>mkA [(0,vu x),(3,ob 0 ((eY x).take j)),(4,vi (7-(j:Int)))] [] 1 (fun _=>.top)) (fun j=>j<=8) (fun j=>8-j) 0 [] [] ?_ (ax _) ?_
 .exact kE;all_goals first|exact iT rfl|skip
 .intro j hj;replace hj:j<=8:=hj;have h:=aA ((eY x).take j);rw[bI,qg,qj hj]at h;rcases au j 8 with a|g
  .have c:(8*(7-(j:Int))).toNat=8*(7-j):=Om;have f:min (8*(7-j)) IntKind.u64.bits=8*(7-j):=qj (show 8*(7-j)<=64 by omega);have d:IntKind.u8.wrap (x.fdiv (2^min (8*(7-j)) IntKind.u64.bits))=((u8i (x.fdiv (2^(8*(7-j)))):Nat):Int):=by rw[f,FY]
   have b:bv ((eY x).take j)++[V.c (.int .u8 ((u8i (x.fdiv (2^(8*(7-j)))):Nat):Int))]=bv ((eY x).take (j+1)):=by rw[bvS,mP (by rw[qg];exact a)];simp[eY]
   refine wT (Ad h c d b) ?_;exact bE (j+1) [0] [] a
  .have:j=8:=Om;subst this;rw[oz (by rw[qg];exact az _)];exact wR h ae (ids [0])
def SK{s:List Nat}(ho:oct s):uI (sB s)=bv s:=adr ho
def ah7(s:List Nat)(ho:oct s)(hl:s.length<=1000000):Gxx 142 [vs s] (ob 0 (bG s)):=by have h1:=JE s.length Om;have c:=bP s.length;have h:=aA (ai s.length);have b:=aA s;have ha:=dE (ai s.length) s;have a:=SK ho;unfold bG;generalize ai s.length=u at *;refine gI oW ?_;exact wR (Ad h b a @ha) h1 (ids [0])
def TP(l:List Nat)(i:Nat)(h:i<l.length):l.drop i=l.getD i 0::l.drop (i+1):=by simp_all
theorem Jj(a b:Nat):Int.tmod ((a:Int)+(b:Int)) 65521=(((a+b)%65521:Nat):Int):=rfl
def U3(l:List Nat)(ho:oct l)(hl:l.length<=10000000):Gxx 143 [fzb l] (.c (.int .u32 (ckN l:Nat))):=by
 have a:=aA l;unfold ckN;generalize f:ckS l (1,0)=P;refine gI oW ?_;refine wT ae ?_;refine aJ (fun x:Nat×Nat×Nat=>mkA [(0,fzb l),(3,.c (.int .u32 (x.2.1:Nat))),(4,.c (.int .u32 (x.2.2:Nat))),(5,vi (x.1:Nat))] [] 0 (fun _=>.top)) (fun x=>x.1<=l.length/\x.2.1<65521/\x.2.2<65521/\ckS (l.drop x.1) (x.2.1,x.2.2)=P) (fun x=>l.length-x.1) (0,1,0) [] [] ?_ ⟨ax _,by decide,by decide,f⟩ ?_
 .exact kE
 .rintro⟨i,u,v⟩ ⟨h1,h2,h3,h4⟩;simp only at h1 h2 h3 h4;rcases au i l.length with h|g
  .have hg:=lY l i h;have j:=kw ho i;rw[TP l i h]at h4;generalize l.getD i 0=c at *;have b:=Jj u c;have d:=Jj v ((u+c)%65521);have r:(u+c)%65521<65521:=kQ _ Om;refine wT (Ad a @hg b d) ?_;refine dn (i+1,(u+c)%65521,(v+(u+c)%65521)%65521) [] [] ⟨h,kQ _ Om,kQ _ Om,h4⟩ (by show l.length-(i+1)<l.length-i;omega) ?_;exact kE
  .have:i=l.length:=Om;subst this;rw[jM]at h4;have h5:(u,v)=P:=h4;subst h5;exact wR a ae ay
def MZ(n:Nat)(h:n<4294967296):IntKind.u8.wrap ((n:Int).fdiv (2^min 24 IntKind.u32.bits))=((n / 16777216:Nat):Int):=by
 have e:(n:Int).fdiv (2^min 24 IntKind.u32.bits)=((n / 16777216:Nat):Int):=by show Int.fdiv (n:Int) ((16777216:Nat):Int)=_;grind
 rw[IntKind.wrap_u8];omega
def MX(n:Nat):IntKind.u8.wrap ((n:Int).fdiv (2^min 16 IntKind.u32.bits))=((n / 65536%256:Nat):Int):=by
 have e:(n:Int).fdiv (2^min 16 IntKind.u32.bits)=((n / 65536:Nat):Int):=by show Int.fdiv (n:Int) ((65536:Nat):Int)=_;grind
 rw[IntKind.wrap_u8];omega
def ck8(n:Nat):IntKind.u8.wrap ((n:Int).fdiv (2^min 8 IntKind.u32.bits))=((n / 256%256:Nat):Int):=by
 have e:(n:Int).fdiv (2^min 8 IntKind.u32.bits)=((n / 256:Nat):Int):=by show Int.fdiv (n:Int) ((256:Nat):Int)=_;grind
 rw[IntKind.wrap_u8];omega
theorem ck0(n:Nat):IntKind.u8.wrap (n:Int)=((n%256:Nat):Int):=by rfl
theorem bv4(a b c d:Nat):[V.c (.int .u8 (a:Int)),V.c (.int .u8 (b:Int)),V.c (.int .u8 (c:Int)),V.c (.int .u8 (d:Int))]=bv [a,b,c,d]:=rfl
def EK(t:Nat)(b:List Nat)(q:t<256)(ho:oct b)(hl:b.length<=1048576):Gxx 55 [.c (.int .u8 (t:Nat)),fzb b] (.tup [fzb (jR t b),vi 0]):=by
 have h1:=JE b.length Om;have r:=bP b.length;have g:=aA (ai b.length);have f:=aA b;have j:oct (bK t b):=bT (Ie q (dI _)) ho;have p:(bK t b).length=1+(ai b.length).length+b.length:=by unfold bK;simp only[aN,dB];omega
 have h2:=U3 (bK t b) j Om;have i:=Ec (bK t b);have d:=MZ _ i;have a:=MX (ckN (bK t b));have l:=ck8 (ckN (bK t b));have k:=ck0 (ckN (bK t b));have n:V.c (.int .u8 (t:Int))::(bv (ai b.length)++bv b)=bv (bK t b):=by unfold bK;rw[mO,<-bvC,<-dE]
 have m:jR t b=bK t b++[ckN (bK t b) / 16777216,ckN (bK t b) / 65536%256,ckN (bK t b) / 256%256,ckN (bK t b)%256]:=rfl;rw[m];refine Good.fzt (vs:=[ob 0 (bK t b++[ckN (bK t b) / 16777216,ckN (bK t b) / 65536%256,ckN (bK t b) / 256%256,ckN (bK t b)%256]),vi 0]) ?_ rfl ⟨aC _,aC _,trivial⟩;have h:=aA (bK t b);generalize bK t b=F at *;generalize ckN F=c at *;refine gI oW ?_;(repeat' first|refine wP (A8 g f h n d a l k (aI @mO.{0} @iY.{0})) (aI h1 h2) ?_|refine tS ?_ ?_<;>intro s|fail);all_goals(refine rT [0] ?_;first|rfl|simp only[pgo,simprocAttr]|skip)
 all_goals(rw[bv4,dE];rfl)
def iH(b:Bool):List Nat:=if b=true then[1]else[0]
def G5(b:Bool):oct (iH b):=by cases b<;>exact yT dX
def qZ(b:Bool):(iH b).length=1:=by cases b<;>rfl
def aii(b:Bool):Gxx 140 [vb b] (ob 0 (iH b)):=by
 cases b
 .refine gI oW ?_;exact wR ae ae (ids [0])
 .refine gI oW ?_;exact wR ae ae (ids [0])
theorem Hl(b:Bool):Gxx 140 [vb b] (fzb (iH b)):=(aii b).fzr rfl (aC _)
theorem Vg(x:Int)(hx:0<=x/\x<18446744073709551616):Gxx 141 [vu x] (fzb (eY x)):=(aie x hx).fzr rfl (aC _)
theorem N8(s:List Nat)(ho:oct s)(hl:s.length<=1000000):Gxx 142 [vs s] (fzb (bG s)):=(ah7 s ho hl).fzr rfl (aC _)
def Lj(c:Cm)(k:List Nat)(w:Int)(row:Nat):Cm :=
 ⟨c.d,c.z,c.s,c.c.set (xY c.s c.z row k).toNat (lC (c.c.getD (xY c.s c.z row k).toNat 0) w 4294967295).1,c.b||(lC (c.c.getD (xY c.s c.z row k).toNat 0) w 4294967295).2⟩
def kV(c:Cm)(k:List Nat)(w:Int):Nat->Cm
 |0=>c
 |n+1=>Lj (kV c k w n) k w n
theorem aaF(a b m:Int)(hm:0<=m):0<=(lC a b m).1/\(lC a b m).1<=m:=by have h1:=Ia a;have h2:=Ia b;grind[amx,lC]
def YD(c:Cm)(k:List Nat)(w:Int)(n:Nat):(kV c k w n).d=c.d/\(kV c k w n).z=c.z/\(kV c k w n).s=c.s/\(kV c k w n).c.length=c.c.length:=by
 induction n with
 |zero=>exact⟨rfl,rfl,rfl,rfl⟩
 |succ n i=>simp[kV,Lj];exact i
def aaJ{a b:Int}{l:List Int}(h:lQ a b l=true)(i:Nat)(n:Int)(c:a<=n/\n<=b):lQ a b (l.set i n)=true:=by grind[lQ,hx]
def aqo(c:Cm)(k:List Nat)(w:Int)(h:lQ 0 4294967295 c.c=true)(n:Nat):lQ 0 4294967295 (kV c k w n).c=true:=by
 induction n with
 |zero=>exact h
 |succ n i=>exact aaJ i _ _ (aaF _ _ _ dX)
def yJ(c:Cm)(k:List Nat)(w:Int):Cm×Int:=if vCm c≠0 then(Cm.o,vCm c)else if iW k w≠0 then(Cm.o,iW k w)else(kV c k w c.d.toNat,0)
def Bv{c:Cm}(h:vCm c=0):(1<=c.d/\c.d<=8)/\(1<=c.z/\c.z<=64)/\(c.c.length:Int)=c.d*c.z/\lQ 0 4294967295 c.c=true:=by grind[vCm]
def Tv:wkV (.agg [vi 0,vi 0,vu 0,nls,vb false]) (.agg (cmF Cm.o)):=.inr ⟨_,_,rfl,rfl,⟨.inl rfl,.inl rfl,.inl rfl,jB _ _,.inl rfl,trivial⟩⟩
def ahB(c:Cm)(k:List Nat)(w:Int)(ho:oct k):Gxx 274 [.agg (cmF c),.agg [vs k,vi w]] (.tup [.agg (cmF (yJ c k w).1),vi (yJ c k w).2]):=by
 have h1:=JF c;have h2:=CO k w;unfold yJ;by_cases c1:vCm c=0
 .rw[ag Om];rw[c1]at h1;by_cases E:iW k w=0
  .rw[ag Om];rw[E]at h2;obtain⟨I,i2,X,J⟩:=Bv c1;obtain⟨j1,Y⟩:=F9 E;have hm:=xx I i2;have hd:=YD c k w;have y:=aqo c k w J;have f:=fun(r:Nat) (t:(r:Int)<c.d)=>S9 c.s c.z r c.d k i2.1 ⟨by omega,t⟩
   have v:kV c k w 0=c:=rfl;have N:∀n,kV c k w (n+1)=Lj (kV c k w n) k w n:=fun _=>rfl
   have x:=fun(n:Nat) (hn:(n:Int)<=7)=>aig (kV c k w n) n k ho Om (by rw[(hd n).2.1];exact i2) Y
   have M:cmF (kV c k w c.d.toNat)=[vi c.d,vi c.z,vu c.s,fzi (kV c k w c.d.toNat).c,vb (kV c k w c.d.toNat).b]:=by show[vi (kV c k w c.d.toNat).d,vi (kV c k w c.d.toNat).z,vu (kV c k w c.d.toNat).s,_,_]=_;rw[(hd _).1,(hd _).2.1,(hd _).2.2.1]
   refine Good.fzt (vs:=[.agg [vi c.d,vi c.z,vu c.s,.sl (.own 0 3) 1 (iv (kV c k w c.d.toNat).c),vb (kV c k w c.d.toNat).b],vi 0]) ?_ rfl (by simp only;rw[M];exact⟨aC _,aC _,trivial⟩);generalize hR:kV c k w=R at *;obtain⟨d,z,s,l,b⟩:=c;simp only at I i2 X J hd f v⊢;have U:=bV l;refine gI oW ?_;refine wS @bV (aI h1 h2) ?_;refine aJ (fun r:Nat=>mkA [(2,.ref 0 0),(3,.ref 1 0),(4,.ref 2 0),(8,vi r)] [(0,(45,[vi d,vi z,vu s,.sl (.own 0 3) 1 (iv (R r).c),vb (R r).b])),(1,(268,[vs k,vi w])),(2,(45,[vi 0,vi 0,vu 0,nls,vb false]))] 3 (fun _=>.top)) (fun r=>r<=d.toNat) (fun r=>d.toNat-r) 0 [3] [0,1,2] ?_ (ax _) ?_
   ·(refine kM ?_ ?_;(repeat'(first|exact ae|refine dQ _ _ rfl rfl ?_ ?_));all_goals(try simp only[pgm,simprocAttr]);all_goals(try(repeat' apply aI));all_goals(try exact gz));all_goals first|(exact fE rfl (by rw[v]))|(exact kZ (by rw[v]))|skip
   .intro r t;replace t:r<=d.toNat:=t;rcases au r d.toNat with A|S
    .have C:(r:Int)<d:=Om;have hq:=f r C;have p:=x r Om;obtain⟨F,d2,G,L⟩:=hd r;have h:=N r;have j:=y r;generalize P:R r=q at *;obtain⟨qd,qz,qs,u,Z⟩:=q;simp only at F d2 G L p j h;subst F;subst d2;subst G;rw[Lj]at h;simp only at h;generalize Q:xY qs qz (r:Int) k=ci at *;have m:ci.toNat<u.length:=Om;have hg:=lh u ci.toNat m;have H:=BM j m;generalize T:u.getD ci.toNat 0=g at *;have i:=Ha g w 4294967295 dX (by unfold W64;omega) (by unfold W64;omega);generalize lC g w 4294967295=a at *;obtain⟨a1,K⟩:=a;simp only at i h;have W:=bV u;cases Z<;>cases K
     all_goals
      refine wS (Ac @bV @hg @VW) (aI p i) ?_
      (refine bL (r+1) [0] [0,1,2] (A) ?_;(refine kM ?_ ?_;(repeat'(first|exact ae|refine dQ _ _ rfl rfl ?_ ?_));all_goals(try simp only[pgm,simprocAttr]);all_goals(try(repeat' apply aI));all_goals(try exact gz)))
      all_goals first|(exact fE rfl (by rw[h]))|(exact kZ (by rw[h];rfl))|skip
    .have:r=d.toNat:=Om;subst this;exact wR @bV ae (ids [0])
  .rw[ah Om];refine Good.fzt (vs:=[.agg [vi 0,vi 0,vu 0,nls,vb false],vi (iW k w)]) ?_ rfl ⟨Tv,aC _,trivial⟩;refine gI oW ?_;exact wR ae (aI h1 h2) ay
 .rw[ah Om];refine Good.fzt (vs:=[.agg [vi 0,vi 0,vu 0,nls,vb false],vi (vCm c)]) ?_ rfl ⟨Tv,aC _,trivial⟩;refine gI oW ?_;exact wR ae h1 ay
def vLl(l:Ll):Int:=if ¬(2<=l.p/\l.p<=8)then 5 else if l.r.length≠2^l.p.toNat then 18 else if lQ 0 (65-l.p) l.r=true then 0 else 5
def yX{p:Int}(hp:2<=p/\p<=8):IntKind.i64.wrap (1*2^min p.toNat IntKind.i64.bits)=((2^p.toNat:Nat):Int)/\2^p.toNat<=256/\1<=2^p.toNat:=by have:p=2\/p=3\/p=4\/p=5\/p=6\/p=7\/p=8:=Om;rcases this with rfl|rfl|rfl|rfl|rfl|rfl|rfl<;>exact⟨by decide,by decide,by decide⟩
def JH(x:Ll)(hx:x.r.length<=1000000):Gxx 135 [.agg (llF x)] (vi (vLl x)):=by
 obtain⟨p,s,l⟩:=x;simp only at hx;unfold vLl;simp only;have u:=bV l;by_cases c1:2<=p/\p<=8
 .rw[ag (by simpa using c1)];have k:=pO p 2 8 c1;obtain⟨j,f,g⟩:=yX c1;by_cases m:l.length=2^p.toNat
  .rw[ag Om];rw[<-m]at j f g;refine gI oW ?_;refine wS (aI j @bV) k ?_;refine aJ (fun i:Nat=>mkA [(1,.ref 0 0),(3,vi i)] [(0,(47,llF ⟨p,s,l⟩))] 1 (fun _=>.top)) (fun i=>i<=l.length/\lQ 0 (65-p) (l.take i)=true) (fun i=>l.length-i) 0 [] [0] ?_ ⟨ax _,rfl⟩ ?_
   .exact kE
   .rintro i ⟨hi,ha⟩;rcases au i l.length with h|t
    .have hg:=lh l i h;have hx:=Ja (a:=0) (b:=65-p) h;have r:=Jb (a:=0) (b:=65-p) h;rw[ha]at r;generalize l.getD i 0=n at *;by_cases c:0<=n/\n<=65-p
     .have d:=pO n 0 (65-p) c;refine wS (aI @bV @hg) d ?_;exact bE (i+1) [] [0] ⟨h,by rw[r,eU c];rfl⟩
     .have d:=zZ n 0 (65-p);rw[Ai c]at d;rw[hx c,ag Aa];exact wR (aI @bV @hg) d ay
    .have:i=l.length:=Om;subst this;rw[gB]at ha;rw[ha,ah rfl];exact wR @bV ae ay
  .rw[ah m];generalize v:2^p.toNat=q at *;refine gI oW ?_;exact wR (aI j @bV) k ay
 .rw[ah c1];have k:=zZ p 2 8;rw[Ai c1]at k;refine gI oW ?_;exact wR ae k ay
def GI(h:Int)(j:Nat):Int:=bits .and .u64 (h.fdiv (2^min j IntKind.u64.bits)) 1
def ui(h:Int):Nat->Int
 |0=>1
 |j+1=>if GI h j=0 then 1+ui h j else 1
def Qm(h:Int)(j:Nat):1<=ui h j/\ui h j<=j+1:=by induction j<;>grind[ui]
def yY(p s:Int)(k:List Nat):Int:=(uT (lq s 256) k).fdiv (2^min (64-p).toNat IntKind.u64.bits)
def KW(p s:Int)(k:List Nat):Int:=ui (uT (lq s 256) k) (64-p).toNat
def Yt(p s:Int)(k:List Nat)(hp:2<=p/\p<=8):0<=yY p s k/\yY p s k<((2^p.toNat:Nat):Int):=by
 have h:=JM (lq s 256) k;unfold yY;generalize uT (lq s 256) k=x at *;have:p=2\/p=3\/p=4\/p=5\/p=6\/p=7\/p=8:=Om;have key:∀m:Nat,1<=m->∀n:Int,x<n*(m:Int)->0<=x.fdiv (m:Int)/\x.fdiv (m:Int)<n:=by intro m hm n a;rw[axh _ Om];exact⟨Int.ediv_nonneg h.1 Om,Int.ediv_lt_of_lt_mul Om a⟩
 rcases this with rfl|rfl|rfl|rfl|rfl|rfl|rfl
 .exact key (2^62) dX 4 Om
 .exact key (2^61) dX 8 Om
 .exact key (2^60) dX 16 Om
 .exact key (2^59) dX 32 Om
 .exact key (2^58) dX 64 Om
 .exact key (2^57) dX 128 Om
 .exact key (2^56) dX 256 Om
def ahR(p s:Int)(k:List Nat)(ho:oct k)(hp:2<=p/\p<=8)(hk:1<=k.length/\k.length<=32):Gxx 304 [vi p,vu s,vs k] (.tup [vi (yY p s k),vi (KW p s k),vi 0]):=by
 have x:=pO p 2 8 hp;have m:=EL k;rw[VM hk]at m;have y:=U5 (lq s 256) (QM _ _) k ho Om;have A:=JM (lq s 256) k;have C:=Yt p s k hp;have r:=(yX hp).2.1;have i:yY p s k=(uT (lq s 256) k).fdiv (2^min (64-p).toNat IntKind.u64.bits):=rfl;unfold KW;generalize yY p s k=E at *;generalize uT (lq s 256) k=h at *;refine gI oW ?_;(repeat' first|refine wP ae (Ac x m y) ?_|refine cU (Va _) ?_|refine tS ?_ ?_<;>intro b|fail);refine aJ (fun j:Nat×Int=>mkA [(0,vi p),(9,vu h),(11,vi j.2),(12,vi ((j.1:Int)-1))] [] 0 (fun _=>.top)) (fun j=>(j.1:Int)<=64-p/\1<=j.2/\j.2+ui h j.1-1=ui h (64-p).toNat) (fun j=>j.1) ((64-p).toNat,1) [] [] ?_ ⟨by simp only;omega,by simp only;omega,by simp only;omega⟩ ?_
 .exact kE;all_goals exact eF Om
 .rintro⟨j,q⟩ ⟨hj,f,d⟩;simp only at hj f d;have v:=Qm h j;have t:=Qm h (64-p).toNat;cases j with
  |zero =>have n:ui h 0=1:=rfl;rw[n]at d;have:q=ui h (64-p).toNat:=Om;subst this;(repeat'(first|(simp(disch:=first|exact dqz|fail) only[pgz,simprocAttr,<-i])|((with_reducible first|apply lD|apply lJ|apply lH)<;>intro b<;>(try simp only[b])<;>(try simp only[pgd]at b))|(with_reducible refine cK ?_)));exact rE []
  |succ j =>
   have u:=Qm h j;have g:ui h (j+1)=if GI h j=0 then 1+ui h j else 1:=rfl
   have c:(((j+1:Nat):Int)-1)=(j:Int):=Om;have a:((j:Int)+1-1)=(j:Int):=Om;have l:IntKind.u64.wrap (j:Int)=(j:Int):=ZX _ Om Om;by_cases hb:GI h j=0
   .rw[g,ah hb]at d;unfold GI at hb;refine wT (Ad c a l @hb) ?_;refine dn (j,q+1) [] [] ⟨by simp only;omega,by simp only;omega,by simp only;omega⟩ (by show j<j+1;omega) ?_;exact kE
   .rw[g,ag hb]at d;have:q=ui h (64-p).toNat:=Om;subst this;unfold GI at hb;(repeat'(first|(simp(disch:=first|exact dqz|fail) only[pgz,simprocAttr,c,a,l,hb,<-i])|((with_reducible first|apply lD|apply lJ|apply lH)<;>intro b<;>(try simp only[b])<;>(try simp only[pgd]at b))|(with_reducible refine cK ?_)));exact rE []
def yK(l:Ll)(k:List Nat)(w:Int):Ll×Int:=if vLl l≠0 then(Ll.o,vLl l)else if iW k w≠0 then(Ll.o,iW k w)else(⟨l.p,l.s,l.r.set (yY l.p l.s k).toNat (max (l.r.getD (yY l.p l.s k).toNat 0) (KW l.p l.s k))⟩,0)
def Bz{l:Ll}(h:vLl l=0):(2<=l.p/\l.p<=8)/\l.r.length=2^l.p.toNat/\lQ 0 (65-l.p) l.r=true:=by grind[vLl]
def Wx:wkV (.agg [vi 0,vu 0,nls]) (.agg (llF Ll.o)):=.inr ⟨_,_,rfl,rfl,⟨.inl rfl,.inl rfl,jB _ _,trivial⟩⟩
def ahD(x:Ll)(k:List Nat)(w:Int)(ho:oct k)(hx:x.r.length<=1000000):Gxx 275 [.agg (llF x),.agg [vs k,vi w]] (.tup [.agg (llF (yK x k w).1),vi (yK x k w).2]):=by
 have h1:=JH x hx;have h2:=CO k w;unfold yK;by_cases c1:vLl x=0
 .rw[ag Om];rw[c1]at h1;by_cases c:iW k w=0
  .rw[ag Om];rw[c]at h2;obtain⟨i,i2,j⟩:=Bz c1;obtain⟨n,m⟩:=F9 c;have a:=Yt x.p x.s k i;have hp:=(yX i).2;have b:=ahR x.p x.s k ho i m;obtain⟨p,s,l⟩:=x;simp only at i i2 j a hp b hx⊢;rw[<-i2]at a;generalize yY p s k=r at *;generalize KW p s k=rk at *;have h:r.toNat<l.length:=Om;have hg:=lh l r.toNat h;generalize d:l.getD r.toNat 0=g at *;have f:=bV l;refine Good.fzt (vs:=[.agg [vi p,vu s,.sl (.own 0 3) 1 (iv (l.set r.toNat (max g rk)))],vi 0]) ?_ rfl ⟨aC _,aC _,trivial⟩;refine gI oW ?_;exact wR (Ac @bV @hg @VW) (Ac h1 h2 b) (ids [3])
  .rw[ah Om];refine Good.fzt (vs:=[.agg [vi 0,vu 0,nls],vi (iW k w)]) ?_ rfl ⟨Wx,aC _,trivial⟩;refine gI oW ?_;exact wR ae (aI h1 h2) ay
 .rw[ah Om];refine Good.fzt (vs:=[.agg [vi 0,vu 0,nls],vi (vLl x)]) ?_ rfl ⟨Wx,aC _,trivial⟩;refine gI oW ?_;exact wR ae h1 ay
def gK(f:Nat->Int):Nat->Nat->Int
 |0,_=>0
 |n+1,i=>if f i≠0 then f i else gK f n (i+1)
theorem agL(f:Nat->Int)(n i:Nat)(h:f i≠0):gK f (n+1) i=f i:=ah h
theorem agK(f:Nat->Int)(n i:Nat)(h:f i=0):gK f (n+1) i=gK f n (i+1):=ag Om
def G9(f:Nat->Int):∀n i,gK f n i=0->∀j,i<=j->j<i+n->f j=0:=by
 intro n
 induction n with
 |zero=>intro i _ j h1 h2;omega
 |succ n a =>
  intro i h j h1 h2;by_cases hf:f i=0
  .rw[agK f n i hf]at h;rcases Nat.eq_or_lt_of_le h1 with rfl|h3
   .exact hf
   .exact a (i+1) h j h3 Om
  .rw[agL f n i hf]at h;exact absurd h hf
abbrev eD:En:=([],0,0)
def wJ(l:List En)(i:Nat):Int :=
 if oL (l.getD i eD).1=false then 7
 else if ¬((1<=(l.getD i eD).2.1/\(l.getD i eD).2.1<=1099511627776)/\(0<=(l.getD i eD).2.2/\(l.getD i eD).2.2<=(l.getD i eD).2.1-1))then 5
 else if di (l.take i) (l.getD i eD).1>=0 then 9
 else if 0<i/\bfE (l.getD (i-1) eD) (l.getD i eD)=false then 19 else 0
def vTp(t:Tp):Int:=if ¬((1<=t.z/\t.z<=32)/\(0<=t.t/\t.t<=1099511627776))then 5 else if(t.e.length:Int) > t.z then 11 else gK (wJ t.e) t.e.length 0
def uS(n a b:Int):Gxx 222 [vi n,vi a,vi b] (vb (decide (a<=n/\n<=b))):=by have h:=zZ n a b;rwa [inb,<-Bool.decide_and]at h
theorem JK(x:Tp)(ho:octE x.e)(u:x.e.length<=1000000):Gxx 136 [.agg (tpF x)] (vi (vTp x)):=by
 obtain⟨z,t,l,b⟩:=x;simp only at ho u;unfold vTp;simp only;have r:=bJ l;have v:=uS z 1 32;have k2:=uS t 0 1099511627776;generalize n:gK (wJ l) l.length 0=E;refine gI oW ?_;(repeat' first|refine wP @bJ (aI v k2) ?_|refine tS ?_ ?_<;>intro p|fail);all_goals first|exact rG ay|skip
 refine aJ (fun i:Nat=>mkA [(1,.ref 0 0),(3,vi i)] [(0,(50,tpF ⟨z,t,l,b⟩))] 1 (fun _=>.top)) (fun i=>i<=l.length/\gK (wJ l) (l.length-i) i=E) (fun i=>l.length-i) 0 [] [0] ?_ ⟨ax _,n⟩ ?_
 .exact kE
 .rintro i ⟨hi,he⟩;rcases au i l.length with h|s
  .have hg:=jP l i h;have c:=jP l (i-1) Om;have d:((i:Int)-1).toNat=i-1:=Om;rw[show l.length-i=(l.length-(i+1))+1 by omega,gK,wJ.eq_1 l i]at he;have k:=EL (l.getD i eD).1;have g:=Ob (l.take i) (l.getD i eD).1 (amY ho i) (oN ho i) (by simp only[bI];omega);have a:=NP (l.take i) (l.getD i eD).1;have f:=afM l i;have hb:=UX (l.getD (i-1) eD) (l.getD i eD);have j:=uS (l.getD i eD).2.1 1 1099511627776;have m:=uS (l.getD i eD).2.2 0 ((l.getD i eD).2.1-1);generalize bfE (l.getD (i-1) eD) (l.getD i eD)=A at *;generalize di (l.take i) (l.getD i eD).1=C at *;generalize l.getD i eD=x at *;generalize l.getD (i-1) eD=y at *;obtain⟨G,xc,F⟩:=x;simp only at k g j m a he hg hb;(repeat' first|refine wP (Af @pgv @hg f d c @bJ) (Ae k j m g hb) ?_|refine tS ?_ ?_<;>intro p|fail);all_goals first|exact rG ay|exact bE (i+1) [] [0] ⟨h,by grind⟩
  .obtain rfl:i=l.length:=Om;rw[zC]at he;have q:0=E:=he;exact wG @bJ ae ay
def jU(t:Tp):Int:=if t.e.length=0\/(t.e.length:Int)≠t.z then 0 else(t.e.getD (t.e.length-1) eD).2.1
def ahL(x:Tp)(a:x.e.length<=1000000):Gxx 306 [.agg (tpF x)] (vi (jU x)):=by
 obtain⟨z,t,l,b⟩:=x;simp only at a;unfold jU;simp only;have h:=bJ l;by_cases c1:l.length=0
 .rw[ah (.inl c1)];refine gI oW ?_;exact wR @bJ ae ay
 .by_cases c:(l.length:Int)=z
  .rw[ag Om];have hg:=jP l (l.length-1) Om;generalize l.getD (l.length-1) eD=y at *;have hi:((l.length:Int)-1).toNat=l.length-1:=Om;refine gI oW ?_;exact wR (Ac @bJ @hi @hg) ae ay
  .rw[ah (.inr c)];refine gI oW ?_;exact wR @bJ ae ay
def cu(a b:Int):Int×Bool:=lC a b 1099511627776
theorem yx(a b:Int)(ha:W64 a)(hb:W64 b):Gxx 305 [vi a,vi b] (.tup [vi (cu a b).1,vb (cu a b).2]):=aiu a b ha hb
def MG(a b:Int):0<=(cu a b).1/\(cu a b).1<=1099511627776:=by grind[gq,cu,lC]
def xn(t:Tp)(k:List Nat)(w:Int):List En×Bool :=
 if 0<=di t.e k then(t.e.set (di t.e k).toNat ((t.e.getD (di t.e k).toNat eD).1,(cu (t.e.getD (di t.e k).toNat eD).2.1 w).1,(t.e.getD (di t.e k).toNat eD).2.2),(cu (t.e.getD (di t.e k).toNat eD).2.1 w).2)
 else if(t.e.length:Int)<t.z then(t.e++[(k,w,0)],false)
 else(t.e.set (t.e.length-1) (k,(cu (jU t) w).1,min (jU t) ((cu (jU t) w).1-1)),(cu (jU t) w).2)
def Ap(t:Tp)(k:List Nat)(w:Int):Tp×Int :=
 if vTp t≠0 then(Tp.o,vTp t)else if iW k w≠0 then(Tp.o,iW k w)else(⟨t.z,(cu t.t w).1,srt bfE (xn t k w).1,t.b||(cu t.t w).2||(xn t k w).2⟩,0)
def zo{t:Tp}(h:vTp t=0):(1<=t.z/\t.z<=32)/\(0<=t.t/\t.t<=1099511627776)/\(t.e.length:Int)<=t.z/\∀i,i<t.e.length->wJ t.e i=0:=by
 unfold vTp at h;split at h
 .cases h
 .rename_i h1;split at h
  .cases h
  .have h1:=o8 h1;exact⟨h1.1,h1.2,by omega,fun i hi=>G9 _ _ _ h i (ax _) Om⟩
def CB{l:List En}{i:Nat}(h:wJ l i=0):oL (l.getD i eD).1=true/\(1<=(l.getD i eD).2.1/\(l.getD i eD).2.1<=1099511627776)/\0<=(l.getD i eD).2.2/\(l.getD i eD).2.2<=(l.getD i eD).2.1-1:=by grind[wJ]
def Zv:wkV (.agg [vi 0,vi 0,nls,vb false]) (.agg (tpF Tp.o)):=.inr ⟨_,_,rfl,rfl,⟨.inl rfl,.inl rfl,jB _ _,.inl rfl,trivial⟩⟩
def ahG(x:Tp)(k:List Nat)(w:Int)(ho:oct k)(hx:octE x.e)(M:x.e.length<=1000000):Gxx 276 [.agg (tpF x),.agg [vs k,vi w]] (.tup [.agg (tpF (Ap x k w).1),vi (Ap x k w).2]):=by
 have h1:=JK x hx M;have h2:=CO k w;unfold Ap;by_cases c1:vTp x=0
 .rw[ag Om];rw[c1]at h1;by_cases K:iW k w=0
  .rw[ag Om];rw[K]at h2;obtain⟨X,i2,Y,N⟩:=zo c1;obtain⟨Z,j2⟩:=F9 K;have C:W64 w:=by unfold W64;omega
   have i:=yx x.t w (by unfold W64;omega) C;have k2:=Ob x.e k hx ho Om;have U:=NP x.e k;refine Good.fzt (vs:=[.agg [vi x.z,vi (cu x.t w).1,.sl (.own 0 215) 3 (ev (srt bfE (xn x k w).1)),vb (x.b||(cu x.t w).2||(xn x k w).2)],vi 0]) ?_ rfl ⟨aC _,aC _,trivial⟩;have T:=bJ x.e;by_cases F:0<=di x.e k
   .have n:xn x k w=(x.e.set (di x.e k).toNat ((x.e.getD (di x.e k).toNat eD).1,(cu (x.e.getD (di x.e k).toNat eD).2.1 w).1,(x.e.getD (di x.e k).toNat eD).2.2),(cu (x.e.getD (di x.e k).toNat eD).2.1 w).2):=ah F;rw[n];have r:(di x.e k).toNat<x.e.length:=Om;have hg:=jP x.e (di x.e k).toNat r;have g:=CB (N _ r);have j:=yx (x.e.getD (di x.e k).toNat eD).2.1 w (by unfold W64;omega) C;generalize x.e.getD (di x.e k).toNat eD=y at *;obtain⟨H,s,G⟩:=y;simp only at hg g j⊢;have h:=GY x.e (di x.e k).toNat H (cu s w).1 G;have d:=NZ (x.e.set (di x.e k).toNat (H,(cu s w).1,G)) (by rw[nI];omega);generalize f:x.e.set (di x.e k).toNat (H,(cu s w).1,G)=m at *;have c:=EF 0 215 3 (srt bfE m);generalize di x.e k=L at *;generalize cu x.t w=a at *;generalize cu s w=u at *;obtain⟨I,J⟩:=a;obtain⟨R,S⟩:=u;simp only at i j h⊢;obtain⟨z,t,l,b⟩:=x;simp only at *;refine gI oD ?_;(repeat' first|refine wPA (Ac @bJ @hg h) (Ae h1 h2 i k2 j) ?_|refine cF d c ?_|refine tS ?_ ?_<;>intro A|fail);all_goals exact rE [13]
   .by_cases Q:(x.e.length:Int)<x.z
    .have n:xn x k w=(x.e++[(k,w,0)],false):=by unfold xn;rw[ag F,ah Q]
     rw[n];have h:=uO x.e k w 0;have d:=NZ (x.e++[(k,w,0)]) (by simp;omega);generalize f:x.e++[(k,w,0)]=m at *;have c:=EF 0 215 3 (srt bfE m);generalize di x.e k=L at *;generalize cu x.t w=a at *;obtain⟨I,J⟩:=a;simp only at i⊢;obtain⟨z,t,l,b⟩:=x;simp only at *;refine gI oD ?_;(repeat' first|refine wPA (aI @bJ h) (Ad h1 h2 i k2) ?_|refine cF d c ?_|refine tS ?_ ?_<;>intro A|fail);all_goals exact rE [14]
     all_goals skip
    .have n:xn x k w=(x.e.set (x.e.length-1) (k,(cu (jU x) w).1,min (jU x) ((cu (jU x) w).1-1)),(cu (jU x) w).2):=by unfold xn;rw[ag F,ag Q]
     rw[n];have p:x.e.length-1<x.e.length:=Om;have q:jU x=(x.e.getD (x.e.length-1) eD).2.1:=ag Om;have g:=CB (N _ p);have W:1<=jU x/\jU x<=1099511627776:=by rw[q];exact g.2.1
     have j:=yx (jU x) w (by unfold W64;omega) C;have P:=ahL x M;have v:=MG (jU x) w;have h:=GY x.e (x.e.length-1) k (cu (jU x) w).1 (min (jU x) ((cu (jU x) w).1-1));have d:=NZ (x.e.set (x.e.length-1) (k,(cu (jU x) w).1,min (jU x) ((cu (jU x) w).1-1))) (by rw[nI];omega);have hg:=jP x.e (x.e.length-1) p;generalize f:x.e.set (x.e.length-1) (k,(cu (jU x) w).1,min (jU x) ((cu (jU x) w).1-1))=m at *;generalize x.e.getD (x.e.length-1) eD=y at *;have c:=EF 0 215 3 (srt bfE m);clear q;generalize di x.e k=L at *;generalize jU x=E at *;generalize cu x.t w=a at *;generalize cu E w=u at *;obtain⟨I,J⟩:=a;obtain⟨R,S⟩:=u;simp only at i j h v⊢;obtain⟨z,t,l,b⟩:=x;simp only at *;have hi:((l.length:Int)-1).toNat=l.length-1:=Om;cases b
     .refine gI oD ?_;(repeat' first|refine wPA (Ad @bJ @hi @hg h) (Af h1 h2 i k2 j P) ?_|refine cF d c ?_|refine tS ?_ ?_<;>intro A|fail);all_goals exact rE [13]
     .refine gI oD ?_;(repeat' first|refine wPA (Ad @bJ @hi @hg h) (Af h1 h2 i k2 j P) ?_|refine cF d c ?_|refine tS ?_ ?_<;>intro A|fail);all_goals exact rE [13]
  .rw[ah Om];refine Good.fzt (vs:=[.agg [vi 0,vi 0,nls,vb false],vi (iW k w)]) ?_ rfl ⟨Zv,aC _,trivial⟩;refine gI oD ?_;exact wRA ae (aI h1 h2) ay
 .rw[ah Om];refine Good.fzt (vs:=[.agg [vi 0,vi 0,nls,vb false],vi (vTp x)]) ?_ rfl ⟨Zv,aC _,trivial⟩;refine gI oD ?_;exact wRA ae h1 ay
def kD(x:En):List En->List En
 |[]=>[x]
 |y::l=>if kl x.1 y.1=true then x::y::l else y::kD x l
theorem VE(x y:En)(l:List En):kD x (y::l)=if kl x.1 y.1=true then x::y::l else y::kD x l:=rfl
theorem ajF(x:En)(l:List En):(kD x l).length=l.length+1:=by induction l<;>grind[kD]
def ajG(x z:En)(l:List En):z∈kD x l↔z=x\/z∈l:=by
 induction l with
 |nil=>simp[kD]
 |cons y l i =>grind[kD]
def uV(x:En)(d:Bool)(l:List En):List En:=if d=true then l else kD x l
def Vh(l:List En)(x:En)(F:l.length<=1000000):Gxx 308 [fzv l,.agg [vs x.1,vi x.2.1,vi x.2.2]] (.sl (.own 0 215) 3 (ev (kD x l))):=by
 have u:=bJ l;refine gI oW ?_;refine wT ae ?_;refine aJ (fun s:Nat×Bool×List En=>mkA [(0,fzv l),(3,.ref 0 0),(5,.sl (.own 0 215) 3 (ev s.2.2)),(6,vb s.2.1),(7,vi s.1)] [(0,(215,[vs x.1,vi x.2.1,vi x.2.2]))] 1 (fun _=>.top)) (fun s=>s.1<=l.length/\s.2.2.length<=s.1+1/\(s.2.2.length=s.1\/s.2.1=true)/\s.2.2++uV x s.2.1 (l.drop s.1)=kD x l) (fun s=>l.length-s.1) (0,false,[]) [] [0] ?_ ⟨ax _,ax _,.inl rfl,rfl⟩ ?_
 .exact kE;all_goals first|exact iT rfl|skip
 .rintro⟨i,d,o⟩ ⟨hi,r,m,ho⟩;simp only at hi r m ho;have hol:=bJ o;rcases au i l.length with f|v
  .rw[ET l i ([],0,0) f]at ho;have hg:=jP l i f;generalize l.getD i ([],0,0)=y at *;obtain⟨a,b,c⟩:=y;obtain⟨g,xc,j⟩:=x;simp only at hg ho⊢;have s1:=uO o g xc j;have s2:=uO o a b c;have E:=uO (o++[(g,xc,j)]) a b c;have A:(ev (o++[(g,xc,j)])).length=o.length+1:=by rw[bJ];simp
   have C:(o++[(g,xc,j)]).length=o.length+1:=Aa;generalize q:o++[(g,xc,j)]=t at *;cases d
   .cases hk:kl g a
    .have n:uV (g,xc,j) false ((a,b,c)::l.drop (i+1))=(a,b,c)::kD (g,xc,j) (l.drop (i+1)):=by unfold uV;rw[VE];simp[hk]
     rw[n]at ho;refine wT (Ae @pgv @iO @hg @hk @s2) ?_;refine dn (i+1,false,o++[(a,b,c)]) [0] [0] ⟨f,by simp only[aN,dB,o9];omega,.inl (by simp only[aN,dB,o9];rcases m with h|h;omega;cases h),by rw[<-ho];simp[uV]⟩ (by show l.length-(i+1)<l.length-i;omega) ?_;exact kE
    .have n:uV (g,xc,j) false ((a,b,c)::l.drop (i+1))=(g,xc,j)::(a,b,c)::(l.drop (i+1)):=by unfold uV;rw[VE];simp[hk]
     rw[n]at ho;refine wT (Ag @pgv @iO @hg @hk @s1 E A) ?_;refine dn (i+1,true,t++[(a,b,c)]) [0] [0] ⟨f,(by show(t++[((a,b,c):En)]).length<=i+1+1;rw[aN,C];simp only[dB,o9];rcases m with h|h;omega;cases h),.inr rfl,by rw[<-ho,<-q];simp[uV]⟩ (by show l.length-(i+1)<l.length-i;omega) ?_;exact kE
   .have n:uV (g,xc,j) true ((a,b,c)::l.drop (i+1))=(a,b,c)::(l.drop (i+1)):=by unfold uV;simp
    rw[n]at ho;refine wT (Ad @pgv @iO @hg @s2) ?_;refine dn (i+1,true,o++[(a,b,c)]) [0] [0] ⟨f,by simp only[aN,dB,o9];omega,.inr rfl,by rw[<-ho];simp[uV]⟩ (by show l.length-(i+1)<l.length-i;omega) ?_;exact kE
  .have:i=l.length:=Om;subst this;rw[jM]at ho;cases d
   .have k:o++[x]=kD x l:=ho;have s1:=uO o x.1 x.2.1 x.2.2;have p:ev (o++[(x.1,x.2.1,x.2.2)])=ev (kD x l):=mV ev k;exact wR (Ac @bJ @s1 p) ae (ids [0])
   .have k:o=kD x l:=by rw[<-ho];simp[uV]
    subst k;exact wR @bJ ae (ids [0])
def lm(d:Int):List En->List En
 |[]=>[]
 |y::l=>if y.2.1 > d then(y.1,y.2.1-d,0)::lm d l else lm d l
theorem Wy(d:Int)(y:En)(l:List En):lm d (y::l)=if y.2.1 > d then(y.1,y.2.1-d,0)::lm d l else lm d l:=rfl
theorem WA(d:Int)(l:List En):(lm d l).length<=l.length:=by
 induction l with
 |nil=>exact az _
 |cons y l i=>unfold lm;split<;>simp<;>omega
def cin(l:List En):Prop:=∀e∈l,1<=e.2.1/\e.2.1<=1099511627776
def adE{l:List En}(h:cin l){i:Nat}(hi:i<l.length):1<=(l.getD i ([],0,0)).2.1/\(l.getD i ([],0,0)).2.1<=1099511627776:=by
 have:l.getD i ([],0,0)=l[i]:=by simp[hi]
 rw[this];exact h _ (ji hi)
def ain(l:List En)(d:Int)(hl:cin l)(hd:1<=d/\d<=1099511627776)(n:l.length<=1000000):Gxx 309 [fzv l,vi d] (.sl (.own 0 215) 3 (ev (lm d l))):=by
 have k:=bJ l;refine gI oW ?_;refine wT ae ?_;refine aJ (fun s:Nat×List En=>mkA [(0,fzv l),(1,vi d),(5,.sl (.own 0 215) 3 (ev s.2)),(6,vi s.1)] [] 1 (fun _=>.top)) (fun s=>s.1<=l.length/\s.2.length<=s.1/\s.2++lm d (l.drop s.1)=lm d l) (fun s=>l.length-s.1) (0,[]) [] [] ?_ ⟨ax _,ax _,rfl⟩ ?_
 .exact kE;all_goals first|exact iT rfl|skip
 .rintro⟨i,o⟩ ⟨hi,b,ho⟩;simp only at hi b ho;have hol:=bJ o;rcases au i l.length with h|m
  .rw[ET l i ([],0,0) h]at ho;have hg:=jP l i h;have j:=adE hl h;generalize l.getD i ([],0,0)=y at *;obtain⟨g,c,p⟩:=y;simp only at hg j;rw[Wy]at ho;simp only at ho;have s1:=uO o g (c-d) 0;by_cases f:c > d
   .rw[ah f]at ho;refine wT (Ac @bJ @hg @s1) ?_;refine dn (i+1,o++[(g,c-d,0)]) [0] [] ⟨h,by simp only[aN,dB,o9];omega,by rw[<-ho];simp⟩ (by show l.length-(i+1)<l.length-i;omega) ?_;exact kE
   .rw[ag f]at ho;refine wT (aI @bJ @hg) ?_;refine dn (i+1,o) [0] [] ⟨h,by simp only;omega,ho⟩ (by show l.length-(i+1)<l.length-i;omega) ?_;exact kE
  .have:i=l.length:=Om;subst this;rw[jM]at ho;have a:o=lm d l:=by rw[<-ho];simp[lm]
   subst a;exact wR @bJ ae (ids [0])
def leK(a b:List Nat):Bool:=kl a b||decide (a=b)
def uN(l:List En)(i:Nat):Int :=
 if oL (l.getD i eD).1=false then 7
 else if ¬((1<=(l.getD i eD).2.1/\(l.getD i eD).2.1<=1099511627776)/\(l.getD i eD).2.2=0)then 5
 else if 0<i/\leK (l.getD i eD).1 (l.getD (i-1) eD).1=true then 19 else 0
def vFq(t:Fq):Int:=if ¬((1<=t.z/\t.z<=32)/\(0<=t.t/\t.t<=1099511627776)/\(0<=t.l/\t.l<=1099511627776))then 5 else if(t.e.length:Int) > t.z then 11 else gK (uN t.e) t.e.length 0
theorem JG(x:Fq)(ho:octE x.e)(r:x.e.length<=1000000):Gxx 137 [.agg (fqF x)] (vi (vFq x)):=by
 obtain⟨z,t,lo,l,b⟩:=x;simp only at ho r;unfold vFq;simp only;have p:=bJ l;have s:=uS z 1 32;have k2:=uS t 0 1099511627776;have u:=uS lo 0 1099511627776;generalize j:gK (uN l) l.length 0=E;refine gI oW ?_;(repeat' first|refine wP @bJ (Ac s k2 u) ?_|refine tS ?_ ?_<;>intro m|fail);all_goals first|exact rG ay|skip
 refine aJ (fun i:Nat=>mkA [(1,.ref 0 0),(3,vi i)] [(0,(52,fqF ⟨z,t,lo,l,b⟩))] 1 (fun _=>.top)) (fun i=>i<=l.length/\gK (uN l) (l.length-i) i=E) (fun i=>l.length-i) 0 [] [0] ?_ ⟨ax _,j⟩ ?_
 .exact kE
 .rintro i ⟨hi,he⟩;rcases au i l.length with h|q
  .have hg:=jP l i h;have a:=jP l (i-1) Om;have c:((i:Int)-1).toNat=i-1:=Om;have hd:=vF (oN ho i) (oN ho (i-1));rw[show l.length-i=(l.length-(i+1))+1 by omega,gK,uN.eq_1 l i]at he;have k:=EL (l.getD i eD).1;have g:=uS (l.getD i eD).2.1 1 1099511627776;generalize l.getD i eD=x at *;generalize l.getD (i-1) eD=y at *;obtain⟨f,xc,v⟩:=x;simp only at k g he hg hd;have d:(kl f y.1||decide (sB f=sB y.1))=leK f y.1:=by rw[hd];rfl
   (repeat' first|refine wP (Ag @pgv @iO d @hg c a @bJ) (aI k g) ?_|refine tS ?_ ?_<;>intro m|fail);all_goals first|exact rG ay|exact bE (i+1) [] [0] ⟨h,by grind⟩
  .obtain rfl:i=l.length:=Om;rw[zC]at he;have n:0=E:=he;exact wG @bJ ae ay
def gp(w:Int)(l:List En):Int:=l.foldl (fun m e=>min m e.2.1) w
theorem WT(l:List En):∀w,gp w l<=w:=by
 induction l with
 |nil=>intro w;exact rZ _
 |cons e l i=>intro w;have:=i (min w e.2.1);simp[gp]at *;omega
def WS(l:List En)(h:cin l):∀w,1<=w->1<=gp w l:=by
 induction l with
 |nil=>intro w a;exact a
 |cons e l i =>intro w a;have h1:=h e Aa;have:=i (fun e he=>h e (by simp[he])) (min w e.2.1) Om;assumption
def amj(w:Int)(l:List En)(i:Nat)(h:i<l.length):gp w (l.take (i+1))=min (gp w (l.take i)) (l.getD i ([],0,0)).2.1:=by grind[gp,List.take_succ_eq_append_getElem,List.getD]
def sW(t:Fq)(k:List Nat)(w:Int):List En×Int×Bool :=
 if 0<=di t.e k then(t.e.set (di t.e k).toNat ((t.e.getD (di t.e k).toNat eD).1,(cu (t.e.getD (di t.e k).toNat eD).2.1 w).1,(t.e.getD (di t.e k).toNat eD).2.2),t.l,(cu (t.e.getD (di t.e k).toNat eD).2.1 w).2)
 else if(t.e.length:Int)<t.z then(kD (k,w,0) t.e,t.l,false)
 else(if w > gp w t.e then kD (k,w-gp w t.e,0) (lm (gp w t.e) t.e)else lm (gp w t.e) t.e,(cu t.l (gp w t.e)).1,(cu t.l (gp w t.e)).2)
def Am(t:Fq)(k:List Nat)(w:Int):Fq×Int :=
 if vFq t≠0 then(Fq.o,vFq t)else if iW k w≠0 then(Fq.o,iW k w)else(⟨t.z,(cu t.t w).1,(sW t k w).2.1,(sW t k w).1,t.b||(cu t.t w).2||(sW t k w).2.2⟩,0)
def Cj{l:List En}{i:Nat}(h:uN l i=0):oL (l.getD i eD).1=true/\(1<=(l.getD i eD).2.1/\(l.getD i eD).2.1<=1099511627776)/\(l.getD i eD).2.2=0:=by grind[uN]
def zl{t:Fq}(h:vFq t=0):(1<=t.z/\t.z<=32)/\(0<=t.t/\t.t<=1099511627776)/\(0<=t.l/\t.l<=1099511627776)/\(t.e.length:Int)<=t.z/\∀i,i<t.e.length->uN t.e i=0:=by
 unfold vFq at h;split at h
 .cases h
 .rename_i h1;split at h
  .cases h
  .have h1:=o8 h1;exact⟨h1.1,h1.2.1,h1.2.2,by omega,fun i hi=>G9 _ _ _ h i (ax _) Om⟩
theorem adF{l:List En}(h:∀i,i<l.length->uN l i=0):cin l:=by intro e he;obtain⟨i,hi,rfl⟩:=List.getElem_of_mem he;have:=(Cj (h i hi)).2.1;grind
def UB:wkV (.agg [vi 0,vi 0,vi 0,nls,vb false]) (.agg (fqF Fq.o)):=.inr ⟨_,_,rfl,rfl,⟨.inl rfl,.inl rfl,.inl rfl,jB _ _,.inl rfl,trivial⟩⟩
def ahC(x:Fq)(k:List Nat)(w:Int)(ho:oct k)(hx:octE x.e)(L:x.e.length<=1000000):Gxx 277 [.agg (fqF x),.agg [vs k,vi w]] (.tup [.agg (fqF (Am x k w).1),vi (Am x k w).2]):=by
 have h1:=JG x hx L;have h2:=CO k w;unfold Am;by_cases c1:vFq x=0
 .rw[ag Om];rw[c1]at h1;by_cases Q:iW k w=0
  .rw[ag Om];rw[Q]at h2;obtain⟨i1,i2,i2',i3,Z⟩:=zl c1;have d:=adF Z;obtain⟨j1,j2⟩:=F9 Q;have Y:W64 w:=by unfold W64;omega
   have m:=yx x.t w (by unfold W64;omega) Y;have k2:=Ob x.e k hx ho Om;have hfr:=NP x.e k;refine Good.fzt (vs:=[.agg [vi x.z,vi (cu x.t w).1,vi (sW x k w).2.1,.sl (.own 0 215) 3 (ev (sW x k w).1),vb (x.b||(cu x.t w).2||(sW x k w).2.2)],vi 0]) ?_ rfl ⟨aC _,aC _,trivial⟩;have hel:=bJ x.e;by_cases M:0<=di x.e k
   .have n:sW x k w=(x.e.set (di x.e k).toNat ((x.e.getD (di x.e k).toNat eD).1,(cu (x.e.getD (di x.e k).toNat eD).2.1 w).1,(x.e.getD (di x.e k).toNat eD).2.2),x.l,(cu (x.e.getD (di x.e k).toNat eD).2.1 w).2):=ah M;rw[n];have h:(di x.e k).toNat<x.e.length:=Om;have hg:=jP x.e (di x.e k).toNat h;have E:=Cj (Z _ h);have j:=yx (x.e.getD (di x.e k).toNat eD).2.1 w (by unfold W64;omega) Y;generalize x.e.getD (di x.e k).toNat eD=y at *;obtain⟨P,u,N⟩:=y;simp only at hg E j⊢;have q:=GY x.e (di x.e k).toNat P (cu u w).1 N;generalize U:x.e.set (di x.e k).toNat (P,(cu u w).1,N)=R at *;generalize di x.e k=S at *;generalize cu x.t w=a at *;generalize cu u w=v at *;obtain⟨A,C⟩:=a;obtain⟨b1,b2⟩:=v;simp only at m j q⊢;obtain⟨z,t,lo,l,b⟩:=x;simp only at *;refine gI oD ?_;exact wRA (Ac @bJ @hg q) (Ae h1 h2 m k2 j) (ids [11])
   .by_cases q2:(x.e.length:Int)<x.z
    .have n:sW x k w=(kD (k,w,0) x.e,x.l,false):=by unfold sW;rw[ag M,ah q2]
     rw[n];have f:=Vh x.e (k,w,0) L;have g:=EF 0 215 3 (kD (k,w,0) x.e);generalize kD (k,w,0) x.e=R at *;generalize di x.e k=S at *;generalize cu x.t w=a at *;obtain⟨A,C⟩:=a;simp only at m f⊢;obtain⟨z,t,lo,l,b⟩:=x;simp only at *;refine gI oD ?_;(repeat' first|refine wPA @bJ (Ad h1 h2 m k2) ?_|refine cF f g ?_|refine tS ?_ ?_<;>intro T|fail);all_goals exact rE [15]
    .have n:sW x k w=(if w > gp w x.e then kD (k,w-gp w x.e,0) (lm (gp w x.e) x.e)else lm (gp w x.e) x.e,(cu x.l (gp w x.e)).1,(cu x.l (gp w x.e)).2):=by unfold sW;rw[ag M,ag q2]
     rw[n];have X:=WT x.e w;have W:=WS x.e d w Om;have s:=ain x.e (gp w x.e) d Om L;have r:=EF 0 215 3 (lm (gp w x.e) x.e);have hll:=WA (gp w x.e) x.e;have f:=Vh (lm (gp w x.e) x.e) (k,w-gp w x.e,0) Om;have g:=EF 0 215 3 (kD (k,w-gp w x.e,0) (lm (gp w x.e) x.e));have j:=yx x.l (gp w x.e) (by unfold W64;omega) (by unfold W64;omega);have K:=fun i (hi:i<x.e.length)=>amj w x.e i hi
     have F:gp w (x.e.take 0)=w:=by simp[gp]
     have G:gp w (x.e.take x.e.length)=gp w x.e:=by rw[gB]
     have J:=fun i=>WT (x.e.take i) w
     have H:=fun i=>WS (x.e.take i) (fun e he=>d e (Gq he)) w Om
     generalize kD (k,w-gp w x.e,0) (lm (gp w x.e) x.e)=e3 at *;generalize lm (gp w x.e) x.e=R at *;generalize di x.e k=S at *;generalize cu x.t w=a at *;generalize cu x.l (gp w x.e)=v at *;obtain⟨A,C⟩:=a;obtain⟨b1,b2⟩:=v;simp only at m j f⊢;obtain⟨z,t,lo,l,b⟩:=x;simp only at *;obtain⟨bb,p⟩:∃c,c=(b||C):=⟨_,rfl⟩;rw[<-p];cases b
     all_goals
      refine gI oD ?_
      refine wSA @bJ (Ad h1 h2 m k2) ?_
      refine aJ (fun i:Nat=>mkA [(3,.ref 0 0),(4,.ref 1 0),(8,.ref 2 0),(12,vi (gp w (l.take i))),(13,vi i)] [(0,(268,[vs k,vi w])),(1,(52,[vi 0,vi 0,vi 0,nls,vb false])),(2,(52,[vi z,vi A,vi lo,.sl (.own 0 215) 3 (ev l),vb bb]))] 3 (fun _=>.top)) (fun i=>i<=l.length) (fun i=>l.length-i) 0 [11] [1,2,13] ?_ (ax _) ?_
      ·(refine kM ?_ ?_;(repeat'(first|exact ae|refine dQ _ _ rfl rfl ?_ ?_));all_goals(try simp only[pgm,simprocAttr]);all_goals(try(repeat' apply aI));all_goals(try exact gz))
       all_goals first|exact eF (by rw[F])|exact kZ (by rw[p];rfl)|skip
      .intro i hi
       replace hi:i<=l.length:=hi
       rcases au i l.length with h|hge
       .have hg:=jP l i h
        have I:=K i h
        generalize l.getD i ([],0,0)=y at *
        obtain⟨P,u,N⟩:=y
        simp only at hg I
        refine wSA (aI @bJ @hg) ae ?_
        exact bE (i+1) [0] [0,1,2] h
       .have:i=l.length:=Om
        subst this
        rw[G]
        by_cases q3:w > gp w l
        .rw[ah q3]
         (repeat' first|refine wPA @bJ j ?_|refine cF s r ?_|refine cF f g ?_|refine tS ?_ ?_<;>intro T|fail)
         all_goals exact rE [4]
        .rw[ag q3]
         (repeat' first|refine wPA @bJ j ?_|refine cF s r ?_|refine tS ?_ ?_<;>intro T|fail)
         all_goals exact rE [3]
  .rw[ah Om];refine Good.fzt (vs:=[.agg [vi 0,vi 0,vi 0,nls,vb false],vi (iW k w)]) ?_ rfl ⟨UB,aC _,trivial⟩;refine gI oD ?_;exact wRA ae (aI h1 h2) ay
 .rw[ah Om];refine Good.fzt (vs:=[.agg [vi 0,vi 0,vi 0,nls,vb false],vi (vFq x)]) ?_ rfl ⟨UB,aC _,trivial⟩;refine gI oD ?_;exact wRA ae h1 ay
theorem kY{p:Prop}(h:p:=by
  refine kM ?_ ?_;(repeat'(first|exact ae|refine dQ _ _ rfl rfl ?_ ?_));all_goals(try simp only[pgm,simprocAttr])
  all_goals(try(repeat' apply aI))
  all_goals first|exact gz|exact fE rfl Aa):p:=h
theorem bY{ι:Type}{S:ι->St}{I:ι->Prop}{μ:ι->Nat}{i:ι}{s:St}(j:ι)(l m:List Nat)(h1:I j)(h2:μ j<μ i:=by first|omega|(simp only[dB];omega))(h3:Keep l m s (S j):=by exact kY):uH S I μ i s:=dn j l m h1 h2 h3
def svS(l:List (List Nat))(x:List Nat):sv l++[V.c (.string (sB x))]=sv (l++[x]):=by simp[sv]
def Zo(l:List (List Nat))(i:Nat)(k:List Nat):(sv l).set i (vs k)=sv (l.set i k):=by simp[sv,zB]
def Zn(l:List (List Nat))(n:Nat):(sv l).drop n=sv (l.drop n):=by simp[sv,L8]
def Vm(l:List (List Nat))(L:l.length<=1000000):Gxx 332 [fzs l] (.sl (.own 0 9) 1 (sv (srt kl l))):=by
 have I:=jA l;refine gI oW ?_;refine wT ae ?_;refine aJ (fun x:Nat×List (List Nat)=>mkA [(0,fzs l),(3,.sl (.own 0 9) 1 (sv x.2.reverse)),(4,vi x.1)] [] 1 (fun _=>.top)) (fun x=>x.1<=l.length/\x.2.length=x.1/\rU kl x.2 (l.drop x.1)=rU kl [] l) (fun x=>l.length-x.1) (0,[]) [] [] ?_ ⟨ax _,rfl,rfl⟩ ?_
 .exact kE;all_goals first|exact iT rfl|skip
 .rintro⟨i,acc⟩ ⟨hi,ha,k⟩;simp only at hi ha k;have A:(sv acc.reverse).length=i:=by rw[jA,Rq,ha]
  rcases au i l.length with c|J
  .rw[ET l i [] c]at k;have hg:=qJ l i c;generalize l.getD i []=x at *;have F:sv acc.reverse++[vs x]=sv (mov acc x []):=by rw[svS];unfold mov;rfl
   have C:(sv (mov acc x [])).length=i+1:=by rw[jA,AO,ha];rfl
   (repeat'(first|(simp(disch:=first|exact dqz|fail) only[pgz,simprocAttr,hg,jA,F,C,A])|((with_reducible first|apply lD|apply lJ|apply lH)<;>intro H<;>(try simp only[H])<;>(try simp only[pgd]at H))|(with_reducible refine cK ?_)));refine aJ (fun y:List (List Nat)×List (List Nat)=>mkA [(0,fzs l),(3,.sl (.own 0 9) 1 (sv (mov y.1 x y.2))),(4,vi i),(5,vi y.1.length)] [] 1 (fun _=>.top)) (fun y=>y.1.length+y.2.length=i/\(fH kl x y.1).reverse++y.2=(fH kl x acc).reverse) (fun y=>y.1.length) (acc,[]) [0] [] ?_ ⟨by simp[ha],by simp⟩ ?_
   ·(refine kM ?_ ?_;(repeat'(first|exact ae|refine dQ _ _ rfl rfl ?_ ?_));all_goals(try simp only[pgm,simprocAttr]);all_goals(try(repeat' apply aI));all_goals(try exact gz));all_goals exact eF Om
   .rintro⟨p,t⟩ ⟨g,h⟩;simp only at g h;have d:=AO p x t;have a:(sv (mov p x t)).length=i+1:=by rw[jA,d];omega
    cases p with
    |nil =>rw[AL kl [] x t (.inl rfl)]at h;refine wT a ?_;refine dn (i+1,fH kl x acc) [0] [] ⟨c,by simp only;rw[BQ,ha],by simp only;rw[<-k];rfl⟩ (by show l.length-(i+1)<l.length-i;omega) ?_;refine kL ?_;all_goals exact fE rfl (by rw[h])
    |cons y p =>
     have v:=qJ (mov (y::p) x t) (p.length+1) (by rw[d];simp only[dB];omega);have u:=qJ (mov (y::p) x t) p.length (by rw[d];simp only[dB];omega);have K:(mov (y::p) x t).getD (p.length+1) []=x:=J6 (y::p) x t _;rw[K]at v;rw[J7]at u;have n:(((y::p).length:Nat):Int)=(p.length:Int)+1:=Aa;have q:((p.length:Int)+1).toNat=p.length+1:=Om;have r:((p.length:Int)+1-1)=(p.length:Int):=Om;cases b:kl x y
     .rw[AL kl (y::p) x t (.inr ⟨y,p,rfl,b⟩)]at h;refine wT (Ah n q r a v u @iO b) ?_;refine dn (i+1,fH kl x acc) [0] [] ⟨c,by simp only;rw[BQ,ha],by simp only;rw[<-k];rfl⟩ (by show l.length-(i+1)<l.length-i;omega) ?_;refine kL ?_;all_goals exact fE rfl (by rw[h])
     .rw[H8 kl y p x t b]at h;have G:=J8 y p x t;have f:(sv (mov (y::p) x t)).set (p.length+1) (vs y)=sv ((mov (y::p) x t).set (p.length+1) y):=Zo _ _ _;have j:(sv ((mov (y::p) x t).set (p.length+1) y)).set p.length (vs x)=sv (mov p x (y::t)):=by rw[Zo];exact mV sv G
      have s:(sv ((mov (y::p) x t).set (p.length+1) y)).length=i+1:=by rw[jA,nI,d];simp only[dB]at g⊢;omega
      have m:(sv ((mov (y::p) x t).set (p.length+1) y))[p.length]?=some (vs y):=by rw[<-f,L6 Om,u]
      generalize(mov (y::p) x t).set (p.length+1) y=M at f j s m;refine wT (A8 n q r a v u f j (Ad s m @iO b)) ?_;refine dn (p,y::t) [0] [] ⟨by simp only[dB]at g⊢;omega,h⟩ (by show p.length<(y::p).length;simp) ?_;refine kL ?_;all_goals(simp only[pgo,f,j];first|exact ae|exact fE rfl rfl)
  .have:i=l.length:=Om;subst this;rw[jM]at k;have E:acc=rU kl [] l:=k;refine wT @jA ?_;(refine rT [0] ?_;first|rfl|simp only[pgo,simprocAttr]|skip);all_goals(unfold srt;rw[E];rfl)
def air(n:Int):Gxx 310 [vi n] (vb (decide (0<=n/\n<=1073741824))):=by
 by_cases h1:0<=n
 .by_cases h2:n<=1073741824
  .rw[eU ⟨h1,h2⟩];refine gI oW ?_;exact wR ae ae ay
  .rw[dK Om];refine gI oW ?_;exact wR ae ae ay
 .rw[dK Om];refine gI oW ?_;exact wR ae ae ay
def zS(l:List (List Nat))(i:Nat):Int:=if oL (l.getD i [])=false then 7 else if 0<i/\kl (l.getD i []) (l.getD (i-1) [])=true then 19 else 0
def pJ(z:Int)(v:List (List (List Nat)))(h:Nat):Int:=if((v.getD h []).length:Int)>=z then 11 else gK (zS (v.getD h [])) (v.getD h []).length 0
def unR(v:List (List (List Nat))):Nat->Int
 |0=>0
 |n+1=>unR v n+(v.getD n []).length*2^n
def ND(t:Int)(v:List (List (List Nat))):Int:=if 0<v.length/\(v.getD (v.length-1) []).length=0 then 18 else if unR v v.length≠t then 17 else 0
def vRk(x:Rk):Int:=if ¬(((2<=x.z/\x.z<=32)/\x.z%2=0)/\(0<=x.t/\x.t<=1099511627776)/\(0<=x.l/\x.l<=1099511627776))then 5 else if x.v.length > 41 then 11
 else if gK (pJ x.z x.v) x.v.length 0≠0 then gK (pJ x.z x.v) x.v.length 0 else ND x.t x.v
def octL(l:List (List Nat)):Prop:=∀e∈l,oct e
theorem Ic{l:List (List Nat)}(h:octL l)(i:Nat):oct (l.getD i []):=by
 rcases au i l.length with hi|hi
 .have:l.getD i []=l[i]:=by simp[hi]
  rw[this];exact h _ (ji hi)
 .grind[vk]
def ZJ(v:List (List (List Nat)))(n:Nat)(c:n<=41)(h:∀i,i<n->(v.getD i []).length<32):0<=unR v n/\unR v n<=n*35184372088832:=by
 induction n with
 |zero=>exact⟨rZ _,rZ _⟩
 |succ n a =>obtain⟨h1,h2⟩:=a Om (fun i hi=>h i Om);have h3:=h n Om;have h4:2^n<=2^40:=qL dX Om;have h5:(v.getD n []).length*2^n<=32*2^40:=Nat.mul_le_mul Om h4;have b:(((v.getD n []).length*2^n:Nat):Int)=((v.getD n []).length:Int)*2^n:=Aa;simp only[unR];omega
def YV(l n:Nat)(hl:l<32)(h:n<=40):IntKind.i64.wrap ((l:Int)*2^min n IntKind.i64.bits)=(l:Int)*2^n/\0<=(l:Int)*2^n/\(l:Int)*2^n<=35184372088832:=by have h4:2^n<=2^40:=qL dX h;have h5:l*2^n<=32*2^40:=Nat.mul_le_mul Om h4;have a:min n IntKind.i64.bits=n:=qj (show n<=64 by omega);grind[QY]
def JI(x:Rk)(hv:∀l∈x.v,octL l)(U:x.v.length<=1000000)(C:∀l∈x.v,l.length<=1000000):Gxx 138 [.agg (rkF x)] (vi (vRk x)):=by
 obtain⟨z,t,lo,v,b⟩:=x;simp only at hv U C
 have G:∀i,octL (v.getD i []):=fun i=>by
  rcases au i v.length with hi|hi
  .have:v.getD i []=v[i]:=by simp[List.getD,hi]
   rw[this];exact hv _ (ji hi)
  .have:v.getD i []=[]:=by simp[List.getD,hi]
   rw[this];intro e he;cases he
 unfold vRk;simp only;have g:=kF v;have X:=uS z 2 32;have k2:=uS t 0 1099511627776;have Z:=uS lo 0 1099511627776;have M:2<=z->z.tmod 2=z%2:=fun h=>LX Om
 generalize P:gK (pJ z v) v.length 0=E;refine gI oW ?_;(repeat' first|refine wP (aI @kF M) (Ac X k2 Z) ?_|refine tS ?_ ?_<;>intro H|fail);all_goals first|exact rG ay|skip
 refine aJ (fun i:Nat=>mkA [(1,.ref 0 0),(3,vi (unR v i)),(4,vi i)] [(0,(55,rkF ⟨z,t,lo,v,b⟩))] 1 (fun _=>.top)) (fun i=>i<=v.length/\gK (pJ z v) (v.length-i) i=E/\∀j,j<i->(v.getD j []).length<32) (fun i=>v.length-i) 0 [] [0] ?_ ⟨ax _,P,fun j hj=>by omega⟩ ?_
 .exact kY
 .rintro h ⟨hi,he,c⟩;rcases au h v.length with r|R
  .have hg:=uY v h r;have J:=G h;have W:=ZJ v h Om c;rw[show v.length-h=(v.length-(h+1))+1 by omega,gK]at he;have q:pJ z v h=if((v.getD h []).length:Int)>=z then 11 else gK (zS (v.getD h [])) (v.getD h []).length 0:=rfl
   have s:unR v (h+1)=unR v h+(v.getD h []).length*2^h:=rfl
   have k:(v.getD h []).length<32->∀j,j<h+1->(v.getD j []).length<32:=fun N j hj=>by
    rcases au j h with h1|h1
    .exact c j h1
    .obtain rfl:j=h:=Om;exact N
   generalize v.getD h []=a at *;have f:=jA a;generalize unR v h=S at *;(repeat' first|refine wQ (Ad @pgv g @hg f) ?_|refine tS ?_ ?_<;>intro H|fail);all_goals first|exact rG ay|skip
   have d:=k Om;obtain⟨F,K,L⟩:=YV a.length h Om Om;rw[ag Om]at q;refine aJ (fun i:Nat=>mkA [(1,.ref 0 0),(3,vi S),(4,vi h),(5,vi i)] [(0,(55,rkF ⟨z,t,lo,v,b⟩))] 1 (fun _=>.top)) (fun i=>i<=a.length/\gK (zS a) (a.length-i) i=pJ z v h) (fun i=>a.length-i) 0 [] [0] ?_ ⟨ax _,q.symm⟩ ?_
   .exact kE
   .rintro i ⟨T,n⟩;rcases au i a.length with m|I
    .have y:=qJ a i m;have A:=qJ a (i-1) Om;have p:((i:Int)-1).toNat=i-1:=Om;rw[show a.length-i=(a.length-(i+1))+1 by omega,gK,zS.eq_1 a i]at n;have Y:=EL (a.getD i []);generalize a.getD i []=xk at *;generalize a.getD (i-1) []=yk at *;(repeat' first|refine wP (Ah @pgv g @hg f y A p @iO) Y ?_|refine tS ?_ ?_<;>intro H|fail);all_goals first|exact rG ay|exact bE (i+1) [] [0] ⟨m,by grind⟩
    .obtain rfl:i=a.length:=Om;rw[zC]at n;have u:0=pJ z v h:=n;rw[<-u,ag Om]at he;refine wT (Ae @pgv g @hg f F) ?_;(refine bL (h+1) [] [0] (⟨r,he,d⟩) ?_;(refine kM ?_ ?_;(repeat'(first|exact ae|refine dQ _ _ rfl rfl ?_ ?_));all_goals(try simp only[pgm,simprocAttr]);all_goals(try(repeat' apply aI));all_goals(try exact gz)));all_goals first|exact eF (by rw[s])|skip
  .obtain rfl:h=v.length:=Om;rw[zC]at he;have Q:0=E:=he;unfold ND;have p:((v.length:Int)-1).toNat=v.length-1:=Om;have hg:=fun hq:0<v.length=>uY v (v.length-1) Om
   have f:=jA (v.getD (v.length-1) []);generalize v.getD (v.length-1) []=a at *;exact wG (Ae @pgv g @hg f p) ae ay
def pwI(h:Nat):Int:=IntKind.i64.wrap (1*2^min h IntKind.i64.bits)
theorem Yk(h:Nat):IntKind.i64.wrap (1*2^min h IntKind.i64.bits)=pwI h:=rfl
def Yl(h:Nat):W64 (pwI h):=by unfold pwI W64;rw[IntKind.wrap_i64];omega
theorem aaU(n:Int):bits .and .i64 n 1=n%2:=qm n 1 dX
def Sz(co:List Nat)(i:Int):xU co i=0\/xU co i=1:=by grind[xU,aaU]
def aug(a b:List (List Nat)):sv a++sv b=sv (a++b):=by simp[sv]
def agi(l:List (List Nat)):V.flatL (sv l)=true:=by
 induction l with
 |nil=>rfl
 |cons a l i=>simp[sv,V.flatL,V.flat]at i⊢;simpa using i
theorem Uw(id:Nat)(e:TypeId)(l:List (List Nat)):(V.sl (.own id e) 1 (sv l)).flat=true:=agi l
theorem yl(i k:Nat)(e:TypeId)(xs:List V):V.free (.sl (.own i e) k xs)=false:=rfl
def evN(l:List (List Nat))(c n:Nat):List (List Nat):=(List.range n).map fun j=>l.getD (c+2*j) []
def Ug(l:List (List Nat))(c n:Nat):evN l c n++[l.getD (c+2*n) []]=evN l c (n+1):=by simp[evN,BI]
def NH(l:List (List Nat))(c n:Nat):(evN l c n).length=n:=by simp[evN]
abbrev Stl:=Nat×List (List Nat)×Int×Int×List (List (List Nat))
def jK(v:List (List (List Nat)))(s:Stl):List (List Nat):=srt kl (if s.1<v.length then v.getD s.1 []++s.2.1 else s.2.1)
def vO(v:List (List (List Nat)))(z:Int)(co:List Nat)(s:Stl):Stl :=
 if((jK v s).length:Int)<z then(s.1+1,[],s.2.2.1,s.2.2.2.1,s.2.2.2.2++[jK v s])
 else(s.1+1,evN (jK v s) (xU co s.2.2.2.1).toNat ((jK v s).length / 2),(cu s.2.2.1 (pwI s.1)).1,s.2.2.2.1+1,s.2.2.2.2++[(jK v s).drop ((jK v s).length / 2*2)])
def vN(v:List (List (List Nat)))(z:Int)(co:List Nat):Nat->Stl->Stl
 |0,s=>s
 |f+1,s=>if s.1<v.length\/0<s.2.1.length then vN v z co f (vO v z co s)else s
def zg(v:List (List (List Nat)))(M:Nat)(s:Stl):Nat:=(v.length-s.1)*(M+1)+s.2.1.length
def Zk(v:List (List (List Nat)))(s:Stl):(jK v s).length=(if s.1<v.length then(v.getD s.1 []).length else 0)+s.2.1.length:=by grind[jK,Y7]
def atW(v:List (List (List Nat)))(z:Int)(g:2<=z)(co:List Nat)(M:Nat)(b:∀i,(v.getD i []).length<=M)(s:Stl)(f:s.2.1.length<=M)(d:s.1<v.length\/0<s.2.1.length) :
  (vO v z co s).2.1.length<=M/\zg v M (vO v z co s)<zg v M s:=by
 have hl:=Zk v s
 obtain⟨h,c,lo,a,o⟩:=s
 have key:(vO v z co (h,c,lo,a,o)).1=h+1/\(vO v z co (h,c,lo,a,o)).2.1.length<=(jK v (h,c,lo,a,o)).length / 2:=by
  unfold vO;by_cases q:((jK v (h,c,lo,a,o)).length:Int)<z
  .grind
  .rw[ag q];exact⟨rfl,by simp only[NH];omega⟩
 unfold zg
 rcases au h v.length with h1|h1
 .have e:v.length-h=(v.length-(h+1))+1:=Om;grind[Nat.succ_mul]
 .grind
def pX:Nat->List (List (List Nat))->List (List (List Nat))
 |0,l=>l
 |f+1,l=>if 0<l.length/\(l.getD (l.length-1) []).length=0 then pX f (l.take (l.length-1))else l
def DJ(v:List (List (List Nat)))(z l:Int)(co:List Nat)(at':Int)(M:Nat):Stl:=vN v z co (v.length*(M+1)) (0,[],l,at',[])
def atV(v:List (List (List Nat)))(z:Int)(co:List Nat):∀(f:Nat) (s:Stl),(vN v z co f s).2.2.2.2.length<=s.2.2.2.2.length+f:=by intro f;induction f<;>grind[vN,vO]
def ait(v:List (List (List Nat)))(z l:Int)(co:List Nat)(at':Int)(M:Nat)(hz:2<=z/\z<=32)(U:oct co)(hM:∀i,(v.getD i []).length<=M)(hM2:M<=10000)(hv:v.length<=100)(hl:W64 l)(ha:0<=at'/\at'<=1073741824) :
  Gxx 312 [fzl v,vi z,vi l,fzb co,vi at'] (.tup [fzl (pX (DJ v z l co at' M).2.2.2.2.length (DJ v z l co at' M).2.2.2.2),vi (DJ v z l co at' M).2.2.1,vi (DJ v z l co at' M).2.2.2.1]):=by
 have m:=kF v
 have hF:v.length*(M+1)<=100*10001:=Nat.mul_le_mul hv Om
 unfold DJ
 generalize hR:vN v z co (v.length*(M+1)) (0,[],l,at',[])=R
 refine gI oW ?_
 refine wT ae ?_
 refine aJ (fun x:Nat×Stl=>mkA [(0,fzl v),(1,vi z),(2,vi x.2.2.2.1),(3,fzb co),(4,vi x.2.2.2.2.1),(13,.sl (.own 0 66) 1 (lv x.2.2.2.2.2)),(14,.sl (.own 1 9) 1 (sv x.2.2.1)),(15,vi x.2.1)] [] 2 (fun _=>.top))
  (fun x=>zg v M x.2<=x.1/\x.2.2.1.length<=M/\W64 x.2.2.2.1/\vN v z co x.1 x.2=R/\x.1+x.2.1=v.length*(M+1)/\x.2.2.2.2.2.length=x.2.1/\0<=x.2.2.2.2.1/\x.2.2.2.2.1<=1073741824+x.2.1) (fun x=>x.1) (v.length*(M+1),(0,[],l,at',[])) [] [] ?_ ⟨by simp[zg],ax _,hl,hR,rfl,rfl,ha.1,by simp only;omega⟩ ?_
 .exact kE;all_goals first|exact iT rfl|skip
 .rintro⟨f,h,c,lo,a,o⟩ ⟨i1,i2,Y,n,i5,Z,i7,i8⟩;simp only at i1 i2 Y n i5 Z i7 i8;have p:=jA c;have hol:=kF o;by_cases C:h<v.length\/0<c.length
  .have b:=atW v z hz.1 co M hM (h,c,lo,a,o) i2 C;have W:=Zk v (h,c,lo,a,o);have d:vO v z co (h,c,lo,a,o)=if((jK v (h,c,lo,a,o)).length:Int)<z then(h+1,[],lo,a,o++[jK v (h,c,lo,a,o)])else(h+1,evN (jK v (h,c,lo,a,o)) (xU co a).toNat ((jK v (h,c,lo,a,o)).length / 2),(cu lo (pwI h)).1,a+1,o++[(jK v (h,c,lo,a,o)).drop ((jK v (h,c,lo,a,o)).length / 2*2)]):=rfl
   cases f with
   |zero=>exact absurd b.2 Om
   |succ f =>
   have e:vN v z co (f+1) (h,c,lo,a,o)=vN v z co f (vO v z co (h,c,lo,a,o)):=ah C;rw[e]at n;by_cases s:h<v.length
   .have G:jK v (h,c,lo,a,o)=srt kl (v.getD h []++c):=by unfold jK;simp only[ah s]
    have hg:=uY v h s;have hlM:=hM h;simp only[ah s]at W;have r:=Vm (v.getD h []++c) (by rw[aN];omega);rw[<-G]at r;have A:=Uw 0 9 (jK v (h,c,lo,a,o));have u:=U2 co U a Om;have t:=Sz co a;generalize jK v (h,c,lo,a,o)=cur at *;have k:=jA cur;have Q:=aug (v.getD h []) c;have E:=jA (v.getD h []);generalize v.getD h []++c=lc at *;generalize v.getD h []=P at *;by_cases q1:(cur.length:Int)<z
    .rw[ah q1]at d;rw[d]at b n;have q:=CY o cur;(repeat' first|refine wQ (A8 @pgv @yl @dM @uF @oq @zD.{0,0} m p (Af @hol @hg Q k q E)) ?_|refine cF r A ?_|refine tS ?_ ?_<;>intro C|fail);refine dn (f,(h+1,[],lo,a,o++[cur])) [0,1] [] ⟨by have:=b.2;show zg v M (h+1,[],lo,a,o++[cur])<=f;omega,ax _,Y,n,by simp only;omega,by simp[Z],i7,by simp only;omega⟩ (by show f<f+1;omega) ?_;exact kE;all_goals exact iT rfl
    .rw[ag q1]at d;rw[d]at b n;have k5:=yx lo (pwI h) Y (Yl h);have har:=MG lo (pwI h);have ed:(cur.length:Int).tdiv 2=((cur.length / 2:Nat):Int):=by rw[Int.tdiv_eq_ediv_of_nonneg Om];omega
     have em:(((cur.length / 2:Nat):Int)*2).toNat=cur.length / 2*2:=Om;have I:=Zn cur (cur.length / 2*2);have q:=CY o (cur.drop (cur.length / 2*2))
     obtain⟨cn,H,S⟩:∃cn:Nat,xU co a=(cn:Int)/\cn<=1:=by
      rcases t with h|h
      .exact⟨0,h,by decide⟩
      .exact⟨1,h,by decide⟩
     rw[H]at u d b n;rw[fC]at d b n;(repeat' first|refine wP (A8 @pgv @yl @dM @uF @oq @zD.{0,0} m p (Af @hol @hg Q k E @ed)) u ?_|refine cF r A ?_|refine tS ?_ ?_<;>intro C|fail);refine aJ (fun j:Nat=>mkA [(0,fzl v),(1,vi z),(2,vi lo),(3,fzb co),(4,vi a),(13,.sl (.own 0 66) 1 (lv o)),(14,.sl (.own 1 9) 1 (sv (evN cur cn j))),(15,vi h),(16,.sl (.own 2 9) 1 (sv cur)),(17,vi (((cur.length / 2:Nat):Int)*2)),(18,vi ((cn:Int)+2*j))] [] 3 (fun _=>.top)) (fun j=>j<=cur.length / 2) (fun j=>cur.length / 2-j) 0 [0,1,3] [] ?_ (ax _) ?_
     .exact kE;all_goals exact iT rfl
     .intro j hj;replace hj:j<=cur.length / 2:=hj;have y:(sv (evN cur cn j)).length=j:=by rw[jA,NH]
      rcases au j (cur.length / 2)with L|hjg
      .have K:((cn:Int)+2*(j:Int)).toNat=cn+2*j:=Om;have J:=qJ cur (cn+2*j) Om;have N:sv (evN cur cn j)++[vs (cur.getD (cn+2*j) [])]=sv (evN cur cn (j+1)):=by rw[svS,Ug]
       refine wT (Af @pgv k K J N y) ?_;exact bE (j+1) [0,1,2] [] L;all_goals first|exact eF Om|skip
      .have:j=cur.length / 2:=Om;subst this;refine wS (A8 @pgv @yl @dM @uF @oq @zD.{0,0} m p (Ag @hol k y @em I q @Yk)) k5 ?_;refine dn (f,(h+1,evN cur cn (cur.length / 2),(cu lo (pwI h)).1,a+1,o++[cur.drop (cur.length / 2*2)])) [0,1] [] ⟨by have:=b.2;show zg v M (h+1,evN cur cn (cur.length / 2),(cu lo (pwI h)).1,a+1,o++[cur.drop (cur.length / 2*2)])<=f;omega,b.1,by simp only;unfold W64;omega,n,by simp only;omega,by simp[Z],by simp only;omega,by simp only;omega⟩ (by show f<f+1;omega) ?_;exact kE
   .have hca:0<c.length:=by rcases C with h|h;exact absurd h s;exact h
    have G:jK v (h,c,lo,a,o)=srt kl c:=by unfold jK;simp only[ag s]
    simp only[ag s]at W;have r:=Vm c Om;rw[<-G]at r;have A:=Uw 0 9 (jK v (h,c,lo,a,o));have u:=U2 co U a Om;have t:=Sz co a;generalize jK v (h,c,lo,a,o)=cur at *;have k:=jA cur;by_cases q1:(cur.length:Int)<z
    .rw[ah q1]at d;rw[d]at b n;have q:=CY o cur;(repeat' first|refine wQ (A8 @pgv @yl @dM @uF @oq @zD.{0,0} m p (Ac @hol k q)) ?_|refine cF r A ?_|refine tS ?_ ?_<;>intro C|fail);refine dn (f,(h+1,[],lo,a,o++[cur])) [0,1] [] ⟨by have:=b.2;show zg v M (h+1,[],lo,a,o++[cur])<=f;omega,ax _,Y,n,by simp only;omega,by simp[Z],i7,by simp only;omega⟩ (by show f<f+1;omega) ?_;exact kE;all_goals exact iT rfl
    .rw[ag q1]at d;rw[d]at b n;have k5:=yx lo (pwI h) Y (Yl h);have har:=MG lo (pwI h);have ed:(cur.length:Int).tdiv 2=((cur.length / 2:Nat):Int):=by rw[Int.tdiv_eq_ediv_of_nonneg Om];omega
     have em:(((cur.length / 2:Nat):Int)*2).toNat=cur.length / 2*2:=Om;have I:=Zn cur (cur.length / 2*2);have q:=CY o (cur.drop (cur.length / 2*2))
     obtain⟨cn,H,S⟩:∃cn:Nat,xU co a=(cn:Int)/\cn<=1:=by
      rcases t with h|h
      .exact⟨0,h,by decide⟩
      .exact⟨1,h,by decide⟩
     rw[H]at u d b n;rw[fC]at d b n;(repeat' first|refine wP (A8 @pgv @yl @dM @uF @oq @zD.{0,0} m p (Ac @hol k @ed)) u ?_|refine cF r A ?_|refine tS ?_ ?_<;>intro C|fail);refine aJ (fun j:Nat=>mkA [(0,fzl v),(1,vi z),(2,vi lo),(3,fzb co),(4,vi a),(13,.sl (.own 0 66) 1 (lv o)),(14,.sl (.own 1 9) 1 (sv (evN cur cn j))),(15,vi h),(16,.sl (.own 2 9) 1 (sv cur)),(17,vi (((cur.length / 2:Nat):Int)*2)),(18,vi ((cn:Int)+2*j))] [] 3 (fun _=>.top)) (fun j=>j<=cur.length / 2) (fun j=>cur.length / 2-j) 0 [0,1,2] [] ?_ (ax _) ?_
     .exact kE;all_goals exact iT rfl
     .intro j hj;replace hj:j<=cur.length / 2:=hj;have y:(sv (evN cur cn j)).length=j:=by rw[jA,NH]
      rcases au j (cur.length / 2)with L|hjg
      .have K:((cn:Int)+2*(j:Int)).toNat=cn+2*j:=Om;have J:=qJ cur (cn+2*j) Om;have N:sv (evN cur cn j)++[vs (cur.getD (cn+2*j) [])]=sv (evN cur cn (j+1)):=by rw[svS,Ug]
       refine wT (Af @pgv k K J N y) ?_;exact bE (j+1) [0,1,2] [] L;all_goals first|exact eF Om|skip
      .have:j=cur.length / 2:=Om;subst this;refine wS (A8 @pgv @yl @dM @uF @oq @zD.{0,0} m p (Ag @hol k y @em I q @Yk)) k5 ?_;refine dn (f,(h+1,evN cur cn (cur.length / 2),(cu lo (pwI h)).1,a+1,o++[cur.drop (cur.length / 2*2)])) [0,1] [] ⟨by have:=b.2;show zg v M (h+1,evN cur cn (cur.length / 2),(cu lo (pwI h)).1,a+1,o++[cur.drop (cur.length / 2*2)])<=f;omega,b.1,by simp only;unfold W64;omega,n,by simp only;omega,by simp[Z],by simp only;omega,by simp only;omega⟩ (by show f<f+1;omega) ?_;exact kE
  .have e:vN v z co f (h,c,lo,a,o)=(h,c,lo,a,o):=by
    cases f with
    |zero=>rfl
    |succ f=>exact ag C
   rw[e]at n;subst n;simp only;refine wT (Ac m p @hol) ?_;refine alA 0 ?_;refine wT m ?_;generalize hT:pX o.length o=T;refine aJ (fun x:Nat×List (List (List Nat))=>mkA [(2,vi lo),(4,vi a),(13,fzl x.2)] [] 0 (fun _=>.top)) (fun x=>x.2.length<=x.1/\pX x.1 x.2=T/\x.2.length<=10000000) (fun x=>x.1) (o.length,o) [] [] ?_ ⟨az _,hT,by simp only;omega⟩ ?_
   .exact kE
   .rintro⟨g,o⟩ ⟨n1,F,n3⟩;simp only at n1 F n3;have hol:=kF o;by_cases q6:0<o.length
    .have hg:=uY o (o.length-1) Om;have X:((o.length:Int)-1).toNat=o.length-1:=Om;cases g with
     |zero=>exact absurd q6 Om
     |succ g =>
     have e:pX (g+1) o=if 0<o.length/\(o.getD (o.length-1) []).length=0 then pX g (o.take (o.length-1))else o:=rfl
     rw[e]at F;have htk:=alH o (o.length-1);generalize o.getD (o.length-1) []=P at *;have k:=jA P;by_cases q7:P.length=0
     .rw[ah ⟨q6,q7⟩]at F;refine wT (Af @pgv @hol @hg k X @htk) ?_;refine dn (g,o.take (o.length-1)) [] [] ⟨by simp only[bI];omega,F,by simp only[bI];omega⟩ (by show g<g+1;omega) ?_;exact kE
     .rw[ag Om]at F;subst F;exact wR (Ae @pgv @hol @hg k X) ae ay
    .have e:pX g o=o:=by
      cases g with
      |zero=>rfl
      |succ g=>exact ag (fun h=>q6 h.1)
     rw[e]at F;subst F;exact wR (aI @pgv @hol) ae ay
def mg(v:List (List (List Nat)))(n:Nat):List (List (List Nat)):=v++List.replicate (n-v.length) []
theorem Vy(v:List (List (List Nat)))(n:Nat):(mg v n).length=max v.length n:=by grind[mg]
def Oo(v:List (List (List Nat)))(n:Nat)(h:n<=v.length):mg v n=v:=by simp_all[mg]
def aiJ(v:List (List (List Nat)))(n:Nat)(h:v.length<=n):mg v n++[[]]=mg v (n+1):=by unfold mg;rw[show n+1-v.length=(n-v.length)+1 by omega,List.replicate_succ',bZ]
theorem Vx(v:List (List (List Nat)))(n i:Nat):(mg v n).getD i []=v.getD i []:=by grind[mg]
def Ip(k:List Nat)(v:List (List (List Nat)))(p:Nat):List (List (List Nat)):=(mg v (p+1)).set p (v.getD p []++[k])
def uf(k:List Nat)(ps:List Int)(v:List (List (List Nat))):Nat->List (List (List Nat))
 |0=>v
 |i+1=>Ip k (uf k ps v i) (ps.getD i 0).toNat
def aiD(l:List (List (List Nat)))(p:Nat)(x:List (List Nat))(i n:Nat)(h:∀i,(l.getD i []).length<=n)(hx:x.length<=n):((l.set p x).getD i []).length<=n:=by
 rcases au p l.length with hp|hp
 .by_cases he:p=i
  .grind
  .simp_all
 .grind[List.set_eq_of_length_le]
def Yj(k:List Nat)(ps:List Int)(v:List (List (List Nat)))(a:∀i,(ps.getD i 0).toNat<=62)(M:Nat)(h:∀i,(v.getD i []).length<=M)(hv:v.length<=63)(i:Nat):(uf k ps v i).length<=63/\∀j,((uf k ps v i).getD j []).length<=M+i:=by
 induction i with
 |zero=>exact⟨hv,h⟩
 |succ i b =>
  refine⟨?_,fun j => ?_⟩
  .grind[Ip,uf,Vy]
  .refine aiD _ _ _ _ _ (fun j => ?_) ?_
   .grind[Vx]
   .grind
def Ye(n:Int)(m i:Nat)(hm:0<m):0<=(je n m).getD i 0/\(je n m).getD i 0<=m-1:=by grind[je,List.getElem?_eq_getElem,List.getElem_mem,List.getD,List.getElem?_eq_none]
def zn{x:Rk}(h:vRk x=0):((2<=x.z/\x.z<=32)/\x.z%2=0)/\(0<=x.t/\x.t<=1099511627776)/\(0<=x.l/\x.l<=1099511627776)/\x.v.length<=41/\∀i,(x.v.getD i []).length<=31:=by
 unfold vRk at h;split at h
 .cases h
 .rename_i h1;have h1:=o8 h1;split at h
  .cases h
  .split at h
   .omega
   .rename_i h3;have h3:=o8 h3;refine⟨h1.1,h1.2.1,h1.2.2,by omega,fun i => ?_⟩;rcases au i x.v.length with hi|hi
    .have h4:=G9 _ _ _ h3 i (ax _) Om;grind[pJ]
    .grind
def tY(x:Rk)(k:List Nat)(w:Int):List (List (List Nat)):=uf k (je w 63) x.v (je w 63).length
def xH(x:Rk)(k:List Nat)(w:Int)(co:List Nat)(at':Int):Stl:=DJ (tY x k w) x.z x.l co at' 100
def uX(x:Rk)(k:List Nat)(w:Int)(co:List Nat)(at':Int):Rk×Int×Int :=
 if vRk x≠0 then(Rk.o,0,vRk x)else if iW k w≠0 then(Rk.o,0,iW k w)else if ¬(0<=at'/\at'<=1073741824)then(Rk.o,0,5)
 else if(cu x.t w).2=true then(⟨x.z,x.t,x.l,x.v,true⟩,at',0)
 else(⟨x.z,(cu x.t w).1,(xH x k w co at').2.2.1,pX (xH x k w co at').2.2.2.2.length (xH x k w co at').2.2.2.2,x.b⟩,(xH x k w co at').2.2.2.1,0)
def Ql:wkV (.agg [vi 0,vi 0,vi 0,nls,vb false]) (.agg (rkF Rk.o)):=.inr ⟨_,_,rfl,rfl,⟨.inl rfl,.inl rfl,.inl rfl,jB _ _,.inl rfl,trivial⟩⟩
def ahE(x:Rk)(k:List Nat)(w:Int)(co:List Nat)(at':Int)(ho:oct k)(N:oct co)(hv:∀l∈x.v,octL l)(hn:x.v.length<=1000000)(W:∀l∈x.v,l.length<=1000000) :
  Gxx 278 [.agg (rkF x),.agg [vs k,vi w],fzb co,vi at'] (.tup [.agg (rkF (uX x k w co at').1),vi (uX x k w co at').2.1,vi (uX x k w co at').2.2]):=by
 have h1:=JI x hv hn W
 have h2:=CO k w
 have h3:=air at'
 unfold uX
 by_cases c1:vRk x=0
 .rw[ag Om];rw[c1]at h1;by_cases c2:iW k w=0
  .rw[ag Om];rw[c2]at h2;by_cases s:0<=at'/\at'<=1073741824
   .rw[ag (fun h=>h s)];rw[eU s]at h3;obtain⟨i1,i2,i3,i4,i5⟩:=zn c1;obtain⟨j1,j2⟩:=F9 c2;have L:=yx x.t w (by unfold W64;omega) (by unfold W64;omega);by_cases j:(cu x.t w).2=true
    .rw[ah j];generalize cu x.t w=a at *;obtain⟨M,a2⟩:=a;simp only at j L;subst j;obtain⟨z,t,lo,v,b⟩:=x;simp only at *;refine gI oW ?_;exact wR ae (Ad h1 h2 h3 L) ay
    .rw[ag j];have k2:=ahS w Om;have I:=fun i=>Ye w 63 i dX
     have hpl:=Yf w 63;have g:=fun i=>Yj k (je w 63) x.v (fun i=>by have:=I i;omega) 31 i5 Om i
     have r:=ait (tY x k w) x.z x.l co at' 100 Om N (fun i=>by have:=(g (je w 63).length).2 i;unfold tY;omega) Om (by have:=(g (je w 63).length).1;unfold tY;omega) (by unfold W64;omega) s;have hR:DJ (tY x k w) x.z x.l co at' 100=xH x k w co at':=rfl;rw[hR]at r;generalize xH x k w co at'=R at *;generalize pX R.2.2.2.2.length R.2.2.2.2=T at *;unfold tY at r;have hp0:uf k (je w 63) x.v 0=x.v:=rfl;have X:∀i,uf k (je w 63) x.v (i+1)=Ip k (uf k (je w 63) x.v i) ((je w 63).getD i 0).toNat:=fun _=>rfl
     generalize hps2:je w 63=ps at *;generalize cu x.t w=a at *;obtain⟨M,a2⟩:=a;simp only at j L;have j:a2=false:=by simpa using j
     subst j;obtain⟨z,t,lo,v,b⟩:=x;simp only at *;have hvl:=kF v;have f:=bV ps;refine pR (zM (fun d=>bif d == 85 then true else false) [] mix) Tryz.func278 rfl Tryz.results278 rfl Za (fP Za) ?_;refine wS (aI @pgF @kF) (Ae h1 h2 h3 L k2) ?_;refine aJ (fun i:Nat=>mkA [(2,fzb co),(3,vi at'),(4,.ref 0 0),(5,.ref 1 0),(8,.ref 2 0),(13,vi M),(15,.sl (.own 0 66) 1 (lv (uf k ps v i))),(16,fzi ps),(17,vi i)] [(0,(55,rkF ⟨z,t,lo,v,b⟩)),(1,(268,[vs k,vi w])),(2,(55,[vi 0,vi 0,vi 0,nls,vb false]))] 3 (fun _=>.top)) (fun i=>i<=ps.length) (fun i=>ps.length-i) 0 [3] [0,1,2] ?_ (ax _) ?_
     .exact kE
     .intro i hi;replace hi:i<=ps.length:=hi;have hcl:=(g i).1;have hlc:=kF (uf k ps v i);rcases au i ps.length with E|hge
      .have hg:=lh ps i E;have hpi:=I i;have q:=X i;generalize u:uf k ps v i=cur at *;generalize hpp:ps.getD i 0=p' at *;obtain⟨p,rfl⟩:∃p:Nat,p'=p:=⟨p'.toNat,by omega⟩;rw[fC]at q;refine wT (Ac @pgF f @hg) ?_;refine aJ (fun m:Nat=>mkA [(2,fzb co),(3,vi at'),(4,.ref 0 0),(5,.ref 1 0),(8,.ref 2 0),(13,vi M),(15,.sl (.own 0 66) 1 (lv (mg cur m))),(16,fzi ps),(17,vi i)] [(0,(55,rkF ⟨z,t,lo,v,b⟩)),(1,(268,[vs k,vi w])),(2,(55,[vi 0,vi 0,vi 0,nls,vb false]))] 3 (fun _=>.top)) (fun m=>cur.length<=m/\(m=cur.length\/m<=p+1)) (fun m=>p+1-m) cur.length [0] [0,1,2] ?_ ⟨az _,.inl rfl⟩ ?_
       .refine kL ?_;all_goals exact fE rfl (by rw[Oo _ _ (az _)])
       .rintro m ⟨F,S⟩;have n:=Vy cur m;rw[Nat.max_eq_right F]at n;have A:=kF (mg cur m);have P:=aiJ cur m F;have C:=CY (mg cur m) [];rw[P]at C;rcases au p m with H|H
        .have U:mg cur m=mg cur (p+1):=by
          rcases S with rfl|h
          .rw[Oo _ _ (az _),Oo _ _ H]
          .have:m=p+1:=Om;rw[this]
         have y:=uY (mg cur m) p Om;rw[Vx]at y;have J:Ip k cur p=(mg cur m).set p (cur.getD p []++[k]):=by unfold Ip;rw[U]
         rw[J]at q;have c:=alG (mg cur m) p (cur.getD p []++[k]);rw[<-q]at c;have Q:=(g i).2 p;rw[u]at Q;generalize mg cur m=G at *;generalize cur.getD p []=K at *;have Y:=jA K;have Z:=svS K k;refine wT (A8 @pgF @pgv @yl @dM @uF @oq @zD.{0,0} f (Ag @hg A n y Y Z c)) ?_;(refine bL (i+1) [0] [0,1,2] E ?_;refine kL ?_);all_goals exact fE rfl c
        .refine wT (Af @pgF @pgv f @hg A n) ?_;(refine bL (m+1) [0] [0,1,2] ⟨by omega,.inr Om⟩ ?_;refine kL ?_);all_goals exact aiz rfl (by rw[<-C];exact TW (.inr (.inl ⟨rfl,rfl,1,rfl⟩)) _)
      .have:i=ps.length:=Om;subst this;(repeat' first|refine wQ (Ad @pgF @pgv f @id_eq.{1}) ?_|refine cG [0] r ?_|refine tS ?_ ?_<;>intro hc|fail);exact rE []
   .rw[ah s];rw[dK s]at h3;refine Good.fzt (vs:=[.agg [vi 0,vi 0,vi 0,nls,vb false],vi 0,vi 5]) ?_ rfl ⟨Ql,aC _,aC _,trivial⟩;refine gI oW ?_;exact wR ae (Ac h1 h2 h3) ay
  .rw[ah Om];refine Good.fzt (vs:=[.agg [vi 0,vi 0,vi 0,nls,vb false],vi 0,vi (iW k w)]) ?_ rfl ⟨Ql,aC _,aC _,trivial⟩;refine gI oW ?_;exact wR ae (aI h1 h2) ay
 .rw[ah Om];refine Good.fzt (vs:=[.agg [vi 0,vi 0,vi 0,nls,vb false],vi 0,vi (vRk x)]) ?_ rfl ⟨Ql,aC _,aC _,trivial⟩;refine gI oW ?_;exact wR ae h1 ay
def gX(t:Tl):List Nat:=ai t.t.toNat++ai t.i.toNat++iH t.b
def aZ(l:List Int):List Nat:=l.flatMap fun n=>ai n.toNat
def jD(c:Cm):List Nat:=ai c.d.toNat++ai c.z.toNat++eY c.s++aZ c.c++iH c.b
def l7(x:Ll):List Nat:=ai x.p.toNat++eY x.s++x.r.map u8i
def eu(e:En):List Nat:=bG e.1++ai e.2.1.toNat++ai e.2.2.toNat
def jG(t:Tp):List Nat:=ai t.z.toNat++ai t.t.toNat++iH t.b++ai t.e.length++t.e.flatMap eu
def eP(e:En):List Nat:=bG e.1++ai e.2.1.toNat
def jE(t:Fq):List Nat:=ai t.z.toNat++ai t.t.toNat++ai t.l.toNat++iH t.b++ai t.e.length++t.e.flatMap eP
def dW(l:List (List Nat)):List Nat:=ai l.length++l.flatMap bG
def jF(x:Rk):List Nat:=ai x.z.toNat++ai x.t.toNat++ai x.l.toNat++iH x.b++ai x.v.length++x.v.flatMap dW
def zk(l:List Int)(i:Nat)(h:i<l.length):aZ (l.take (i+1))=aZ (l.take i)++ai (l.getD i 0).toNat:=by grind[aZ,List.take_succ_eq_append_getElem,List.getD]
def zU{α:Type}(f:α->List Nat)(d:α)(l:List α)(i:Nat)(h:i<l.length):(l.take (i+1)).flatMap f=(l.take i).flatMap f++f (l.getD i d):=by grind[List.take_succ_eq_append_getElem,List.getD]
def CJ{α:Type}(f:α->List Nat)(B:Nat)(l:List α)(h:∀x∈l,(f x).length<=B):(l.flatMap f).length<=l.length*B:=by
 induction l with
 |nil=>simp
 |cons a l i =>
  have h1:=h a Aa;have h2:=i fun x hx=>h x (by simp[hx])
  simp only[List.flatMap_cons,aN,dB,Nat.succ_mul];omega
def wX{α:Type}(f:α->List Nat)(B:Nat)(l:List α)(i:Nat)(h:∀x∈l,(f x).length<=B):((l.take i).flatMap f).length<=l.length*B:=by refine iZ (CJ f B (l.take i) fun x hx=>h x (Gq hx)) (vY _ ?_);grind
def ahu(t:Tl)(h:vTl t=0):Gxx 49 [.agg (tlF t)] (.tup [fzb (gX t),vi 0]):=by
 have h1:=JJ t;rw[h]at h1
 have j:(0<=t.t/\t.t<=4294967295)/\(0<=t.i/\t.i<=4294967295):=by
  unfold vTl at h;split at h
  .omega
  .cases h
 have h2:=rq t.t Om;have h3:=pM t.i Om;have h4:=Hl t.b;have l:=bP t.t.toNat;have k:=bP t.i.toNat;have m:=qZ t.b;unfold gX;generalize ai t.t.toNat=a at *;generalize ai t.i.toNat=b at *;have ha:=aA a;have hb:=aA b;have g:=dE a b;have d:=aA (a++b);rw[aN]at d;generalize iH t.b=c at *;have i:=aA c;have f:=dE (a++b) c;refine Good.fzt (vs:=[ob 0 (a++b++c),vi 0]) ?_ rfl ⟨aC _,aC _,trivial⟩;obtain⟨n,t2,p⟩:=t;simp only at *;refine gI oW ?_;exact wR (Af @ha @hb g d i f) (Ad h1 h2 h3 h4) (ids [1])
def ahq(c:Cm)(h:vCm c=0)(I:0<=c.s/\c.s<18446744073709551616):Gxx 50 [.agg (cmF c)] (.tup [fzb (jD c),vi 0]):=by
 have h1:=JF c;rw[h]at h1;obtain⟨J,i2,M,K⟩:=Bv h;have hm:=xx J i2;have h2:=rq c.d Om;have h3:=pM c.z Om;have h4:=Hl c.b;have h5:=Vg c.s I;have N:=bP c.d.toNat;have P:=bP c.z.toNat;have Q:=qZ c.b;have R:=qg c.s;have m:=fun i (hi:i<c.c.length)=>BM K hi
 have y:=fun i (hi:i<c.c.length)=>zk c.c i hi
 have v:=fun i=>wX (fun n:Int=>ai n.toNat) 9 c.c i (fun x _=>bP _)
 unfold jD;generalize hA:ai c.d.toNat++ai c.z.toNat++eY c.s=A;have E:A.length<=26:=by rw[<-hA];simp only[aN];omega
 refine Good.fzt (vs:=[ob 0 (A++aZ c.c++iH c.b),vi 0]) ?_ rfl ⟨aC _,aC _,trivial⟩;generalize ai c.d.toNat=a at *;generalize ai c.z.toNat=b at *;generalize eY c.s=e at *;generalize iH c.b=f at *;have ha:=aA a;have hb:=aA b;have he:=aA e;have hf:=aA f;have t:=dE a b;have k:=aA (a++b);rw[aN]at k;have p:=dE (a++b) e;obtain⟨d,z,s,l,bb⟩:=c;simp only at *;have r:=bV l;refine gI oW ?_;refine wS (Ag @ha @hb @he t k p @hA) (Ad h1 h2 h3 h5) ?_;refine aJ (fun i:Nat=>mkA [(1,.ref 0 0),(5,ob 0 (A++aZ (l.take i))),(6,vi i)] [(0,(45,cmF ⟨d,z,s,l,bb⟩))] 1 (fun _=>.top)) (fun i=>i<=l.length) (fun i=>l.length-i) 0 [1] [0] ?_ (ax _) ?_
 .refine kL ?_;all_goals first|exact fE rfl (by simp[aZ])|skip
 .intro i hi;replace hi:i<=l.length:=hi;have q:=aA (A++aZ (l.take i));have G:(A++aZ (l.take i)).length<=100000:=by have:=v i;rw[aN];show A.length+(aZ (l.take i)).length<=_;unfold aZ;omega
  rcases au i l.length with j|F
  .have hg:=lh l i j;have hx:=m i j;have H:=y i j;have L:=pM (l.getD i 0) Om;have k2:=bP (l.getD i 0).toNat;have g:=dE (A++aZ (l.take i)) (ai (l.getD i 0).toNat);rw[bZ A,<-H]at g;generalize ai (l.getD i 0).toNat=u at *;generalize l.getD i 0=n at *;have C:=aA u;refine wS (Ae r @hg q C g) L ?_;exact bE (i+1) [0] [0] j
  .have:i=l.length:=Om;subst this;rw[gB]at *;have g:=dE (A++aZ l) f;exact wR (Ad r q @hf g) h4 (ids [0])
def ahs(x:Ll)(h:vLl x=0)(q:0<=x.s/\x.s<18446744073709551616)(p:x.r.length<=1000000):Gxx 51 [.agg (llF x)] (.tup [fzb (l7 x),vi 0]):=by
 have h1:=JH x p;rw[h]at h1;obtain⟨r,i2,t⟩:=Bz h;have h2:=rq x.p Om;have h5:=Vg x.s q;have v:=bP x.p.toNat;have y:=qg x.s;unfold l7;generalize hA:ai x.p.toNat++eY x.s=A;have j:A.length<=17:=by rw[<-hA];simp only[aN];omega
 refine Good.fzt (vs:=[ob 0 (A++x.r.map u8i),vi 0]) ?_ rfl ⟨aC _,aC _,trivial⟩;generalize ai x.p.toNat=a at *;generalize eY x.s=e at *;have ha:=aA a;have he:=aA e;have d:=dE a e;obtain⟨z,s,l⟩:=x;simp only at *;have c:=bV l;refine gI oW ?_;refine wS (Ad @ha @he d @hA) (Ac h1 h2 h5) ?_;refine aJ (fun i:Nat=>mkA [(1,.ref 0 0),(5,ob 0 (A++(l.take i).map u8i)),(6,vi i)] [(0,(47,llF ⟨z,s,l⟩))] 1 (fun _=>.top)) (fun i=>i<=l.length) (fun i=>l.length-i) 0 [1] [0] ?_ (ax _) ?_
 .exact kE;all_goals first|exact fE rfl Aa|skip
 .intro i hi;replace hi:i<=l.length:=hi;have g:=aA (A++(l.take i).map u8i);have m:(A++(l.take i).map u8i).length<=2000000:=by simp only[aN,aj,bI];omega
  rcases au i l.length with b|k
  .have hg:=lh l i b;have hx:=FY (l.getD i 0)
   have f:bv (A++(l.take i).map u8i)++[V.c (.int .u8 ((u8i (l.getD i 0):Nat):Int))]=bv (A++(l.take (i+1)).map u8i):=by
    have e:(l.take (i+1)).map u8i=(l.take i).map u8i++[u8i (l.getD i 0)]:=by rw[mP b,nJ];simp[List.getD,b]
    rw[bvS,bZ,<-e]
   generalize u8i (l.getD i 0)=u at *;generalize l.getD i 0=n at *;refine wT (Ae c @hg g @hx f) ?_;exact bE (i+1) [0] [0] b
  .have:i=l.length:=Om;subst this;rw[gB];exact wR c ae (ids [0])
def NF(e:En)(h:e.1.length<=32):(eu e).length<=59:=by grind[vS,bP,eu]
def wY{α:Type}(l:List α)(i:Nat)(d:α)(h:i<l.length):l.getD i d∈l:=by grind
def nz{α:Type}{l:List α}{x:α}(d:α)(h:x∈l):∃i,i<l.length/\l.getD i d=x:=by obtain⟨i,hi,rfl⟩:=List.getElem_of_mem h;exact⟨i,hi,by simp[hi]⟩
def ahv(t:Tp)(h:vTp t=0)(ho:octE t.e)(X:t.e.length<=1000000):Gxx 52 [.agg (tpF t)] (.tup [fzb (jG t),vi 0]):=by
 have h1:=JK t ho X;rw[h]at h1;obtain⟨i1,i2,i3,Y⟩:=zo h;have C:=fun i (hi:i<t.e.length)=>CB (Y i hi)
 have h2:=rq t.z Om;have h3:=pM t.t Om;have h4:=Hl t.b;have h5:=pM (t.e.length:Int) Om;rw[fC]at h5;have l2:=bP t.z.toNat;have l3:=bP t.t.toNat;have l4:=qZ t.b;have l5:=bP t.e.length;have E:∀i,i<t.e.length->(t.e.getD i eD).1.length<=32:=fun i hi=>by have:=(C i hi).1;rw[ry]at this;exact this.2
 have J:=fun i (hi:i<t.e.length)=>zU eu eD t.e i hi
 have I:=fun i=>wX eu 59 t.e i (fun x hx=>by obtain⟨j,hj,he⟩:=nz eD hx;exact NF x (by rw[<-he];exact E j hj))
 unfold jG;generalize hA:ai t.z.toNat++ai t.t.toNat++iH t.b++ai t.e.length=A;have S:A.length<=28:=by rw[<-hA];simp only[aN];omega
 refine Good.fzt (vs:=[ob 0 (A++t.e.flatMap eu),vi 0]) ?_ rfl ⟨aC _,aC _,trivial⟩;generalize ai t.z.toNat=a at *;generalize ai t.t.toNat=b at *;generalize iH t.b=f at *;generalize ai t.e.length=e at *;have ha:=aA a;have hb:=aA b;have he:=aA e;have hf:=aA f;have G:=dE a b;have m:=aA (a++b);rw[aN]at m;have s:=dE (a++b) f;have d:=aA (a++b++f);rw[aN,aN]at d;have n:=dE (a++b++f) e;obtain⟨z,tt,l,bb⟩:=t;simp only at *;have p:=bJ l;have hol:=fun i=>oN ho i
 refine gI oW ?_;refine wS (A8 p @ha @hb @he @hf G m s (Ac d n @hA)) (Ae h1 h2 h3 h4 h5) ?_;refine aJ (fun i:Nat=>mkA [(1,.ref 0 0),(5,ob 0 (A++(l.take i).flatMap eu)),(6,vi i)] [(0,(50,tpF ⟨z,tt,l,bb⟩))] 1 (fun _=>.top)) (fun i=>i<=l.length) (fun i=>l.length-i) 0 [1] [0] ?_ (ax _) ?_
 .refine kL ?_;all_goals first|exact fE rfl Aa|skip
 .intro i hi;replace hi:i<=l.length:=hi;have H:=aA (A++(l.take i).flatMap eu);have W:(A++(l.take i).flatMap eu).length<=100000000:=by have:=I i;rw[aN];omega
  rcases au i l.length with g|U
  .have hg:=jP l i g;have hx:=C i g;have q:=J i g;have hk:=E i g;have F:=hol i;generalize l.getD i ([],0,0)=y at *;obtain⟨k,c,r⟩:=y;simp only at hg hx q hk F;have Z:=N8 k F Om;have k2:=pM c Om;have k3:=pM r Om;have q1:=vS k;have q2:=bP c.toNat;have q3:=bP r.toNat;have T:eu (k,c,r)=bG k++ai c.toNat++ai r.toNat:=rfl;rw[T]at q;generalize(l.take i).flatMap eu=M at *;generalize bG k=u at *;generalize ai c.toNat=v at *;generalize ai r.toNat=w at *;have K:=aA u;have L:=aA v;have N:=aA w;have p1:=dE (A++M) u;have P:=aA (A++M++u);rw[aN]at P;have p3:=dE (A++M++u) v;have Q:=aA (A++M++u++v);rw[aN,aN]at Q;have R:=dE (A++M++u++v) w;have p6:A++M++u++v++w=A++(l.take (i+1)).flatMap eu:=by rw[q];simp only[bZ]
   rw[p6]at R;refine wS (A8 p @hg H K L N @p1 P (Ac @p3 Q R)) (Ac Z k2 k3) ?_;exact bE (i+1) [0] [0] g
  .have:i=l.length:=Om;subst this;rw[gB];exact wR p ae (ids [0])
def NE(e:En)(h:e.1.length<=32):(eP e).length<=50:=by grind[vS,bP,eP]
def ahr(t:Fq)(h:vFq t=0)(ho:octE t.e)(Z:t.e.length<=1000000):Gxx 53 [.agg (fqF t)] (.tup [fzb (jE t),vi 0]):=by
 have h1:=JG t ho Z;rw[h]at h1;obtain⟨i1,i2,i2',i3,i4⟩:=zl h;have E:=fun i (hi:i<t.e.length)=>Cj (i4 i hi)
 have h2:=rq t.z Om;have h3:=pM t.t Om;have H:=pM t.l Om;have h4:=Hl t.b;have h5:=pM (t.e.length:Int) Om;rw[fC]at h5;have l2:=bP t.z.toNat;have l3:=bP t.t.toNat;have l3':=bP t.l.toNat;have l4:=qZ t.b;have l5:=bP t.e.length;have F:∀i,i<t.e.length->(t.e.getD i eD).1.length<=32:=fun i hi=>by have:=(E i hi).1;rw[ry]at this;exact this.2
 have L:=fun i (hi:i<t.e.length)=>zU eP eD t.e i hi
 have K:=fun i=>wX eP 50 t.e i (fun x hx=>by obtain⟨j,hj,he⟩:=nz eD hx;exact NE x (by rw[<-he];exact F j hj))
 unfold jE;generalize hA:ai t.z.toNat++ai t.t.toNat++ai t.l.toNat++iH t.b++ai t.e.length=A;have T:A.length<=37:=by rw[<-hA];simp only[aN];omega
 refine Good.fzt (vs:=[ob 0 (A++t.e.flatMap eP),vi 0]) ?_ rfl ⟨aC _,aC _,trivial⟩;generalize ai t.z.toNat=a at *;generalize ai t.t.toNat=b at *;generalize ai t.l.toNat=c at *;generalize iH t.b=f at *;generalize ai t.e.length=e at *;have ha:=aA a;have hb:=aA b;have W:=aA c;have he:=aA e;have hf:=aA f;have I:=dE a b;have n:=aA (a++b);rw[aN]at n;have s:=dE (a++b) c;have d:=aA (a++b++c);rw[aN,aN]at d;have C:=dE (a++b++c) f;have g:=aA (a++b++c++f);rw[aN,aN,aN]at g;have p:=dE (a++b++c++f) e;obtain⟨z,tt,tl,l,bb⟩:=t;simp only at *;have q:=bJ l;have hol:=fun i=>oN ho i
 refine gI oW ?_;refine wS (A8 q @ha @hb W @he @hf I n (Af s d C g p @hA)) (Af h1 h2 h3 H h4 h5) ?_;refine aJ (fun i:Nat=>mkA [(1,.ref 0 0),(5,ob 0 (A++(l.take i).flatMap eP)),(6,vi i)] [(0,(52,fqF ⟨z,tt,tl,l,bb⟩))] 1 (fun _=>.top)) (fun i=>i<=l.length) (fun i=>l.length-i) 0 [1] [0] ?_ (ax _) ?_
 .refine kL ?_;all_goals first|exact fE rfl Aa|skip
 .intro i hi;replace hi:i<=l.length:=hi;have J:=aA (A++(l.take i).flatMap eP);have Y:(A++(l.take i).flatMap eP).length<=100000000:=by have:=K i;rw[aN];omega
  rcases au i l.length with m|X
  .have hg:=jP l i m;have hx:=E i m;have r:=L i m;have hk:=F i m;have G:=hol i;generalize l.getD i ([],0,0)=y at *;obtain⟨k,c,S⟩:=y;simp only at hg hx r hk G;have k1:=N8 k G Om;have k2:=pM c Om;have q1:=vS k;have q2:=bP c.toNat;have U:eP (k,c,S)=bG k++ai c.toNat:=rfl;rw[U]at r;generalize(l.take i).flatMap eP=M at *;generalize bG k=u at *;generalize ai c.toNat=v at *;have N:=aA u;have P:=aA v;have p1:=dE (A++M) u;have Q:=aA (A++M++u);rw[aN]at Q;have R:=dE (A++M++u) v;have p6:A++M++u++v=A++(l.take (i+1)).flatMap eP:=by rw[r];simp only[bZ]
   rw[p6]at R;refine wS (Ah q @hg J N P @p1 Q R) (aI k1 k2) ?_;exact bE (i+1) [0] [0] m
  .have:i=l.length:=Om;subst this;rw[gB];exact wR q ae (ids [0])
theorem OT(l:List (List Nat))(h:∀k∈l,k.length<=32)(hl:l.length<=31):(dW l).length<=1280:=by have h1:=bP l.length;have h2:=CJ bG 41 l (fun k hk=>by have:=vS k;have:=h k hk;omega);grind[dW]
def IK{x:Rk}(h:vRk x=0):∀i,i<x.v.length->∀k∈x.v.getD i [],k.length<=32:=by
 intro i hi k hk;have h3:gK (pJ x.z x.v) x.v.length 0=0:=by grind[vRk]
 have h4:=G9 _ _ _ h3 i (ax _) Om;unfold pJ at h4;split at h4
 .cases h4
 .obtain⟨j,hj,he⟩:=nz [] hk;have h5:=G9 _ _ _ h4 j (ax _) Om;grind[zS,oL]
def aht(x:Rk)(h:vRk x=0)(hv:∀l∈x.v,octL l)(hn:x.v.length<=1000000)(T:∀l∈x.v,l.length<=1000000):Gxx 54 [.agg (rkF x)] (.tup [fzb (jF x),vi 0]):=by
 have h1:=JI x hv hn T;rw[h]at h1;have p:=IK h;obtain⟨i1,i2,i2',i3,i4⟩:=zn h;have h2:=rq x.z Om;have h3:=pM x.t Om;have H:=pM x.l Om;have h4:=Hl x.b;have h5:=pM (x.v.length:Int) Om;rw[fC]at h5;have l2:=bP x.z.toNat;have l3:=bP x.t.toNat;have l3':=bP x.l.toNat;have l4:=qZ x.b;have l5:=bP x.v.length;have U:=fun i (hi:i<x.v.length)=>zU dW [] x.v i hi
 have S:=fun i=>wX dW 1280 x.v i (fun l hl=>by obtain⟨j,hj,he⟩:=nz [] hl;rw[<-he];exact OT _ (p j hj) (i4 j))
 unfold jF;generalize hA:ai x.z.toNat++ai x.t.toNat++ai x.l.toNat++iH x.b++ai x.v.length=A;have hAl:A.length<=37:=by rw[<-hA];simp only[aN];omega
 refine Good.fzt (vs:=[ob 0 (A++x.v.flatMap dW),vi 0]) ?_ rfl ⟨aC _,aC _,trivial⟩;generalize ai x.z.toNat=a at *;generalize ai x.t.toNat=b at *;generalize ai x.l.toNat=c at *;generalize iH x.b=f at *;generalize ai x.v.length=e at *;have ha:=aA a;have hb:=aA b;have hc:=aA c;have he:=aA e;have hf:=aA f;have J:=dE a b;have r:=aA (a++b);rw[aN]at r;have v:=dE (a++b) c;have g:=aA (a++b++c);rw[aN,aN]at g;have C:=dE (a++b++c) f;have m:=aA (a++b++c++f);rw[aN,aN,aN]at m;have s:=dE (a++b++c++f) e
 have hol:∀i,octL (x.v.getD i []):=fun i=>by
  rcases au i x.v.length with hi|hi
  .exact hv _ (wY _ _ _ hi)
  .rw[List.getD,Gi hi];intro e he;cases he
 obtain⟨z,tt,tl,l,bb⟩:=x;simp only at *;have n:=kF l;refine gI oW ?_;refine wS (A8 n @ha @hb @hc @he @hf J r (Af v g C m s @hA)) (Af h1 h2 h3 H h4 h5) ?_;refine aJ (fun i:Nat=>mkA [(1,.ref 0 0),(5,ob 0 (A++(l.take i).flatMap dW)),(6,vi i)] [(0,(55,rkF ⟨z,tt,tl,l,bb⟩))] 1 (fun _=>.top)) (fun i=>i<=l.length) (fun i=>l.length-i) 0 [1] [0] ?_ (ax _) ?_
 .refine kL ?_;all_goals first|exact fE rfl Aa|skip
 .intro i hi;replace hi:i<=l.length:=hi;have K:=aA (A++(l.take i).flatMap dW);have hl2:(A++(l.take i).flatMap dW).length<=100000000:=by have:=S i;rw[aN];omega
  rcases au i l.length with q|hge
  .have hg:=uY l i q;have G:=U i q;have hk:=p i q;have W:=hol i;have hlen:=i4 i;generalize l.getD i []=y at *;have t:=jA y;have k2:=pM (y.length:Int) Om;rw[fC]at k2;have q2:=bP y.length;have hE:dW y=ai y.length++y.flatMap bG:=rfl;rw[hE,<-bZ]at G;have Q:=fun j (hj:j<y.length)=>zU bG [] y j hj
   have R:=fun j=>wX bG 41 y j (fun k P=>by have:=vS k;have:=hk k P;omega)
   generalize ai y.length=u at *;have Y:=aA u;have p1:=dE (A++(l.take i).flatMap dW) u;have p2:(A++(l.take i).flatMap dW++u).length<=100000009:=by rw[aN];omega
   have p3:A++(l.take i).flatMap dW++u++y.flatMap bG=A++(l.take (i+1)).flatMap dW:=by rw[G];simp only[bZ]
   generalize I:(l.take (i+1)).flatMap dW=MN at *;generalize A++(l.take i).flatMap dW=M at *;refine wS (Af n @hg t K Y @p1) k2 ?_;generalize M++u=N at *;refine aJ (fun j:Nat=>mkA [(1,.ref 0 0),(5,ob 0 (N++(y.take j).flatMap bG)),(6,vi i),(7,vi j)] [(0,(55,rkF ⟨z,tt,tl,l,bb⟩))] 1 (fun _=>.top)) (fun j=>j<=y.length) (fun j=>y.length-j) 0 [0] [0] ?_ (ax _) ?_
   .refine kL ?_;all_goals first|exact fE rfl Aa|skip
   .intro j hj;replace hj:j<=y.length:=hj;have E:=aA (N++(y.take j).flatMap bG);have hl3:(N++(y.take j).flatMap bG).length<=200000000:=by have:=R j;rw[aN];omega
    rcases au j y.length with d|hge2
    .have L:=qJ y j d;have hkl:=hk _ (wY y j [] d);have X:=Ic W j;have F:=Q j d;have k3:=N8 (y.getD j []) X Om;have q3:=vS (y.getD j []);have p5:=dE (N++(y.take j).flatMap bG) (bG (y.getD j []));rw[bZ N,<-F]at p5;generalize bG (y.getD j [])=w at *;generalize y.getD j []=k at *;have Z:=aA w;refine wS (Ag n @hg L t E Z @p5) k3 ?_;exact bE (j+1) [0] [0] d
    .have:j=y.length:=Om;subst this;rw[gB,p3];refine wT (Ac n @hg t) ?_;(refine bL (i+1) [0] [0] q ?_;refine kL ?_);all_goals exact fE rfl (by rw[I])
  .have:i=l.length:=Om;subst this;rw[gB];exact wR n ae (ids [0])
def Lu{α:Type}(d:α){a b:List α}{i:Nat}(ha:i<a.length)(hb:i<b.length)(h:a.take i=b.take i)(he:a.getD i d=b.getD i d):a.take (i+1)=b.take (i+1):=by rw[mP ha,mP hb,h];simp only[List.getD,dY ha,dY hb,Gv]at he;rw[he]
def Lt{α:Type}{a b:List α}(hl:a.length=b.length)(h:a.take a.length=b.take a.length):a=b:=by rw[gB,hl,gB]at h;exact h
theorem J9{α:Type}[DecidableEq α]{a b:List α}(h:¬(a.length:Int)=b.length):decide (a=b)=false:=dK fun e=>h (by rw[e])
def U9(a b:List Int)(p:a.length<=1000000)(l:b.length<=1000000):Gxx 226 [fzi a,fzi b] (vb (decide (a=b))):=by
 have c:=bV a;have d:=bV b;have n:=J9 (a:=a) (b:=b);refine gI oW ?_;(repeat' first|refine wQ (aI c d) ?_|refine tS ?_ ?_<;>intro j|fail);all_goals first|exact rG ay|skip
 have hl:a.length=b.length:=Om;refine aJ (fun i:Nat=>mkA [(0,fzi a),(1,fzi b),(5,vi i)] [] 0 (fun _=>.top)) (fun i=>i<=a.length/\a.take i=b.take i) (fun i=>a.length-i) 0 [] [] ?_ ⟨ax _,rfl⟩ ?_
 .exact kE
 .rintro i ⟨hi,he⟩;rcases au i a.length with f|k
  .have hg:=lh a i f;have g:=lh b i Om;have hx:=Lu (0:Int) f Om he;have m:a.getD i 0≠b.getD i 0->decide (a=b)=false:=fun h=>dK fun h2=>h (by rw[h2])
   generalize a.getD i 0=x at *;generalize b.getD i 0=y at *;(repeat' first|refine wQ (Ad c d @hg g) ?_|refine tS ?_ ?_<;>intro j|fail);all_goals first|exact rG ay|exact bE (i+1) [] [] ⟨f,hx Om⟩
  .obtain rfl:i=a.length:=Om;rw[eU (Lt hl he)];exact wR (aI c d) ae ay
def U8(a b:List En)(ha:octE a)(hb:octE b)(u:a.length<=1000000)(r:b.length<=1000000):Gxx 227 [fzv a,fzv b] (vb (decide (a=b))):=by
 have d:=bJ a;have f:=bJ b;have t:=J9 (a:=a) (b:=b);refine gI oW ?_;(repeat' first|refine wQ (aI d f) ?_|refine tS ?_ ?_<;>intro n|fail);all_goals first|exact rG ay|skip
 have hl:a.length=b.length:=Om;refine aJ (fun i:Nat=>mkA [(0,fzv a),(1,fzv b),(5,vi i)] [] 0 (fun _=>.top)) (fun i=>i<=a.length/\a.take i=b.take i) (fun i=>a.length-i) 0 [] [] ?_ ⟨ax _,rfl⟩ ?_
 .exact kE
 .rintro i ⟨hi,he⟩;rcases au i a.length with g|p
  .have hg:=jP a i g;have j:=jP b i Om;have hx:=Lu (([],0,0):En) g Om he;have hd:=vF (oN ha i) (oN hb i);have l:a.getD i ([],0,0)≠b.getD i ([],0,0)->decide (a=b)=false:=fun h=>dK fun h2=>h (by rw[h2])
   generalize a.getD i ([],0,0)=x at *;generalize b.getD i ([],0,0)=y at *;obtain⟨k,c,e⟩:=x;obtain⟨s,m,e'⟩:=y;simp only at hg j hd;have h3:(decide (k=s)&&(c == m&&e == e'))=false->decide (a=b)=false:=fun h=>l fun q=>by cases q;simp at h
   (repeat' first|refine wQ (A8 d f @hg j @hd @vW @xN @xM (Ac @qi @nH @vV)) ?_|refine tS ?_ ?_<;>intro n|fail);all_goals first|exact rG ay|exact bE (i+1) [] [] ⟨g,hx (by grind)⟩
  .obtain rfl:i=a.length:=Om;rw[eU (Lt hl he)];exact wR (aI d f) ae ay
def vH(a b:Cm):Bool:=decide (a.d=b.d/\a.z=b.z/\a.s=b.s/\a.b=b.b/\a.c=b.c)
def ah0(a b:Cm)(c:a.c.length<=1000000)(h:b.c.length<=1000000):Gxx 144 [.agg (cmF a),.agg (cmF b)] (vb (vH a b)):=by have k:=U9 a.c b.c c h;unfold vH;obtain⟨x,x1,x2,f,g⟩:=a;obtain⟨y0,y,y2,y3,y4⟩:=b;simp only at *;refine gI oW ?_;(repeat' first|refine wP (Af @vW @xN @xM @qi @nH @vV) k ?_|refine tS ?_ ?_<;>intro d|fail);all_goals(refine rT [] ?_;simp only[pgo,simprocAttr];try grind)
def vJ(a b:Ll):Bool:=decide (a.p=b.p/\a.s=b.s/\a.r=b.r)
def ah2(a b:Ll)(c:a.r.length<=1000000)(h:b.r.length<=1000000):Gxx 145 [.agg (llF a),.agg (llF b)] (vb (vJ a b)):=by have k:=U9 a.r b.r c h;unfold vJ;obtain⟨x,x1,x2⟩:=a;obtain⟨y0,y,y2⟩:=b;simp only at *;refine gI oW ?_;(repeat' first|refine wP (Af @vW @xN @xM @qi @nH @vV) k ?_|refine tS ?_ ?_<;>intro d|fail);all_goals(refine rT [] ?_;simp only[pgo,simprocAttr];try grind)
def vM(a b:Tp):Bool:=decide (a.z=b.z/\a.t=b.t/\a.b=b.b/\a.e=b.e)
def ah4(a b:Tp)(ho:octE a.e)(c:octE b.e)(d:a.e.length<=1000000)(h:b.e.length<=1000000):Gxx 146 [.agg (tpF a),.agg (tpF b)] (vb (vM a b)):=by have k:=U8 a.e b.e ho c d h;unfold vM;obtain⟨x,x1,x2,g⟩:=a;obtain⟨y0,y,y2,y3⟩:=b;simp only at *;refine gI oW ?_;(repeat' first|refine wP (Af @vW @xN @xM @qi @nH @vV) k ?_|refine tS ?_ ?_<;>intro f|fail);all_goals(refine rT [] ?_;simp only[pgo,simprocAttr];try grind)
def vI(a b:Fq):Bool:=decide (a.z=b.z/\a.t=b.t/\a.l=b.l/\a.b=b.b/\a.e=b.e)
def ah1(a b:Fq)(ho:octE a.e)(c:octE b.e)(d:a.e.length<=1000000)(h:b.e.length<=1000000):Gxx 147 [.agg (fqF a),.agg (fqF b)] (vb (vI a b)):=by have k:=U8 a.e b.e ho c d h;unfold vI;obtain⟨x,x1,x2,g,i⟩:=a;obtain⟨y0,y,y2,y3,y4⟩:=b;simp only at *;refine gI oW ?_;(repeat' first|refine wP (Af @vW @xN @xM @qi @nH @vV) k ?_|refine tS ?_ ?_<;>intro f|fail);all_goals(refine rT [] ?_;simp only[pgo,simprocAttr];try grind)
def vK(a b:Rk):Bool:=decide (a.z=b.z/\a.t=b.t/\a.l=b.l/\a.b=b.b/\a.v=b.v)
def ah3(a b:Rk)(ha:∀l∈a.v,octL l)(hb:∀l∈b.v,octL l)(X:a.v.length<=1000000)(P:b.v.length<=1000000)(hm:∀l∈a.v,l.length<=1000000)(F:∀l∈b.v,l.length<=1000000):Gxx 148 [.agg (rkF a),.agg (rkF b)] (vb (vK a b)):=by
 have hA:∀i,octL (a.v.getD i [])/\(a.v.getD i []).length<=1000000:=fun i=>by
  rcases au i a.v.length with hi|hi
  .exact⟨ha _ (wY _ _ _ hi),hm _ (wY _ _ _ hi)⟩
  .rw[List.getD,Gi hi];exact⟨(fun e he=>by cases he),by simp⟩
 have hB:∀i,octL (b.v.getD i [])/\(b.v.getD i []).length<=1000000:=fun i=>by
  rcases au i b.v.length with hi|hi
  .exact⟨hb _ (wY _ _ _ hi),F _ (wY _ _ _ hi)⟩
  .rw[List.getD,Gi hi];exact⟨(fun e he=>by cases he),by simp⟩
 unfold vK;obtain⟨z,t,l,v,bb⟩:=a;obtain⟨C,A,u,c,m⟩:=b;simp only at *;have d:=kF v;have f:=kF c;have W:=J9 (a:=v) (b:=c);have h1:decide (v=c)=false->decide (z=C/\t=A/\l=u/\bb=m/\v=c)=false:=fun h=>dK fun e=>of_decide_eq_false h e.2.2.2.2
 refine gI oW ?_;(repeat' first|refine wQ (Ah d f @vW @xN @xM @qi @nH @vV) ?_|refine tS ?_ ?_<;>intro I|fail);all_goals first|exact rG ay|skip
 have T:v.length=c.length:=Om;have L:decide (z=C/\t=A/\l=u/\bb=m/\v=c)=decide (v=c):=by grind
 rw[L];refine aJ (fun i:Nat=>mkA [(2,.ref 0 0),(3,.ref 1 0),(5,vi i)] [(0,(55,rkF ⟨z,t,l,v,bb⟩)),(1,(55,rkF ⟨C,A,u,c,m⟩))] 2 (fun _=>.top)) (fun i=>i<=v.length/\v.take i=c.take i) (fun i=>v.length-i) 0 [] [0,1] ?_ ⟨ax _,rfl⟩ ?_
 .exact kE
 .rintro i ⟨hi,he⟩;rcases au i v.length with p|M
  .have hg:=uY v i p;have n:=uY c i Om;have hx:=Lu ([]:List (List Nat)) p Om he;have R:=hA i;have S:=hB i;have Q:v.getD i []≠c.getD i []->decide (v=c)=false:=fun h=>dK fun h2=>h (by rw[h2])
   generalize v.getD i []=x at *;generalize c.getD i []=y at *;have q:=jA x;have r:=jA y;have h2:=J9 (a:=x) (b:=y);(repeat' first|refine wQ (Af d f @hg n q r) ?_|refine tS ?_ ?_<;>intro I|fail);all_goals first|exact rG ay|skip
   have U:x.length=y.length:=Om;refine aJ (fun j:Nat=>mkA [(2,.ref 0 0),(3,.ref 1 0),(5,vi i),(6,vi j)] [(0,(55,rkF ⟨z,t,l,v,bb⟩)),(1,(55,rkF ⟨C,A,u,c,m⟩))] 2 (fun _=>.top)) (fun j=>j<=x.length/\x.take j=y.take j) (fun j=>x.length-j) 0 [] [0,1] ?_ ⟨ax _,rfl⟩ ?_
   .exact kE
   .rintro j ⟨hj,s⟩;rcases au j x.length with g|J
    .have N:=qJ x j g;have E:=qJ y j Om;have G:=Lu ([]:List Nat) g Om s;have hd:=vF (Ic R.1 j) (Ic S.1 j);have K:x.getD j []≠y.getD j []->x≠y:=fun h h2=>h (by rw[h2])
     generalize x.getD j []=k at *;generalize y.getD j []=Y at *;(repeat' first|refine wQ (A8 d f @hg n q r N E (Ac @hd @vW @xN)) ?_|refine tS ?_ ?_<;>intro I|fail);all_goals first|exact rG ay|exact bE (j+1) [] [0,1] ⟨g,G (by grind)⟩
    .obtain rfl:j=x.length:=Om;have H:=Lt U s;refine wT (Af d f @hg n q r) ?_;exact bE (i+1) [] [0,1] ⟨p,hx H⟩
  .obtain rfl:i=v.length:=Om;rw[eU (Lt T he)];exact wR (aI d f) ae ay
abbrev skC(s:Sk)(a b c d e:V):List V:=[vi s.p.k,vi s.p.z,vi s.p.d,vu s.p.s,vi s.tl.t,vi s.tl.i,vb s.tl.b,vi s.cm.d,vi s.cm.z,vu s.cm.s,a,vb s.cm.b,vi s.ll.p,vu s.ll.s,b,vi s.tp.z,vi s.tp.t,c,vb s.tp.b,vi s.fq.z,vi s.fq.t,vi s.fq.l,d,vb s.fq.b,vi s.rk.z,vi s.rk.t,vi s.rk.l,e,vb s.rk.b]
def orN(x:V)(y:V):Prop:=x=y\/(x=nls/\∃k,y = .sl .fz k [])
def Ii{x y:V}(h:orN x y):wk1 x y:=by
 rcases h with rfl|⟨rfl,k,rfl⟩
 .exact .inl rfl
 .exact jB _ _
def YY(s:Sk){a b c d e:V}(ha:orN a (fzi s.cm.c))(hb:orN b (fzi s.ll.r))(h:orN c (fzv s.tp.e))(hd:orN d (fzv s.fq.e))(he:orN e (fzl s.rk.v)):wkV (.agg (skC s a b c d e)) (.agg (skF s)):=by refine .inr ⟨_,_,rfl,rfl,?_⟩;(repeat'(first|exact ae|refine Gh (.inl rfl) ?_|refine Gh (Ii ha) ?_|refine Gh (Ii hb) ?_|refine Gh (Ii h) ?_|refine Gh (Ii hd) ?_|refine Gh (Ii he) ?_))
theorem Fg(k:Nat):orN nls (.sl .fz k []):=.inr ⟨rfl,k,rfl⟩
structure Sk.Ok (s:Sk):Prop where
 ps:0<=s.p.s/\s.p.s<18446744073709551616
 cs:0<=s.cm.s/\s.cm.s<18446744073709551616
 ls:0<=s.ll.s/\s.ll.s<18446744073709551616
 cn:s.cm.c.length<=1000000
 ln:s.ll.r.length<=1000000
 to:octE s.tp.e
 tn:s.tp.e.length<=1000000
 fo:octE s.fq.e
 fn:s.fq.e.length<=1000000
 ro:∀l∈s.rk.v,octL l
 rn:s.rk.v.length<=1000000
 rm:∀l∈s.rk.v,l.length<=1000000
def gu(s:Sk):Sk:=⟨s.p,if s.p.k=1 then s.tl else Tl.o,if s.p.k=2 then s.cm else Cm.o,if s.p.k=3 then s.ll else Ll.o,if s.p.k=4 then s.tp else Tp.o,if s.p.k=5 then s.fq else Fq.o,if s.p.k=6 then s.rk else Rk.o⟩
def anm{s:Sk}(h:s.Ok):(gu s).Ok:=by obtain⟨a,_,_,_,_,_,_,_,_,_,_,_⟩:=h;refine⟨a,?_,?_,?_,?_,?_,?_,?_,?_,?_,?_,?_⟩;all_goals(simp[gu];split<;>first|assumption|exact⟨by decide,by decide⟩|exact ax _|(intro e he;cases he))
def skN(s:Sk):List V:=skC s (if s.p.k=2 then fzi s.cm.c else nls) (if s.p.k=3 then fzi s.ll.r else nls) (if s.p.k=4 then fzv s.tp.e else nls) (if s.p.k=5 then fzv s.fq.e else nls) (if s.p.k=6 then fzl s.rk.v else nls)
def skU(s:Sk):Prop:=(s.p.k=1\/s.tl=Tl.o)/\(s.p.k=2\/s.cm=Cm.o)/\(s.p.k=3\/s.ll=Ll.o)/\(s.p.k=4\/s.tp=Tp.o)/\(s.p.k=5\/s.fq=Fq.o)/\(s.p.k=6\/s.rk=Rk.o)
def Ih{p:Prop}[Decidable p]{x:V}(k:Nat)(h:p\/x = .sl .fz k []):orN (if p then x else nls) x:=by
 split
 .exact .inl rfl
 .grind[Fg]
def FP{s:Sk}(h:skU s):wkV (.agg (skN s)) (.agg (skF s)) :=
 YY s (Ih _ (h.2.1.imp_right fun e=>by rw[e];rfl)) (Ih _ (h.2.2.1.imp_right fun e=>by rw[e];rfl)) (Ih _ (h.2.2.2.1.imp_right fun e=>by rw[e];rfl)) (Ih _ (h.2.2.2.2.1.imp_right fun e=>by rw[e];rfl)) (Ih _ (h.2.2.2.2.2.imp_right fun e=>by rw[e];rfl))
def aiH{f:FuncId}{args:List V}{s:Sk}(a:skU s)(h:Gxx f args (.tup [.agg (skN s),vi 0])):Gxx f args (.tup [.agg (skF s),vi 0]):=by
 refine Good.fzt h ?_ ?_
 .unfold skN;(repeat' split)<;>rfl
 .have:V.mapL (fun _=>Tag.fz) id [.agg (skN s),vi 0]=[.agg (skN s),vi 0]:=by unfold skN;(repeat' split)<;>rfl
  rw[this];exact⟨FP a,aC _,trivial⟩
def YZ(s:Sk):(V.agg (skN s)).noRef=true/\(V.agg (skN s)).map (fun _=>Tag.fz) id = .agg (skN s):=by unfold skN;(repeat' split)<;>exact⟨rfl,rfl⟩
def aiI{f:FuncId}{args:List V}{s:Sk}(a:skU s)(h:Gxx f args (.agg (skN s))):Gxx f args (.agg (skF s)):=Good.fzr h (YZ s).1 (by rw[V.erase,(YZ s).2];exact FP a)
def aio(s:Sk):Gxx 139 [.agg (skF s)] (.agg (skF (gu s))):=by
 refine aiI (by grind[skU,gu]) ?_;obtain⟨⟨pk,pz,pd,ps⟩,⟨I,t2,J⟩,⟨c1,c,a,b,d⟩,⟨p,q,r⟩,⟨f,g,h,i⟩,⟨j,k,l,m,n⟩,⟨C,E,F,G,H⟩⟩:=s;rcases(Om:pk=1\/pk=2\/pk=3\/pk=4\/pk=5\/pk=6\/(pk≠1/\pk≠2/\pk≠3/\pk≠4/\pk≠5/\pk≠6))with rfl|rfl|rfl|rfl|rfl|rfl|⟨t,u,v,x,y,A⟩
 all_goals
  simp[skN,gu, *]
  refine gI oD ?_
  exact wRA ae ae ay
def samP(a b:Pm):Prop:=a.k=b.k/\a.z=b.z/\a.d=b.d/\a.s=b.s
instance (a b:Pm):Decidable (samP a b):=by unfold samP;infer_instance
def samT(a b:Tl):Prop:=a.t=b.t/\a.i=b.i/\a.b=b.b
instance (a b:Tl):Decidable (samT a b):=by unfold samT;infer_instance
def jy(a b:Sk):Bool:=decide (samP a.p b.p)&&(decide (samT a.tl b.tl)&&(vH a.cm b.cm&&(vJ a.ll b.ll&&(vM a.tp b.tp&&(vI a.fq b.fq&&vK a.rk b.rk)))))
def Uf(a b:Pm):((a.k == b.k)&&((a.z == b.z)&&((a.d == b.d)&&(a.s == b.s))))=decide (samP a b):=by grind[samP]
def afF(a b:Tl):((a.t == b.t)&&((a.i == b.i)&&(a.b == b.b)))=decide (samT a b):=by grind[samT]
def ahZ(a b:Sk)(ha:a.Ok)(hb:b.Ok):Gxx 57 [.agg (skF a),.agg (skF b)] (vb (jy a b)):=by
 have A:=ah0 a.cm b.cm ha.cn hb.cn;have k2:=ah2 a.ll b.ll ha.ln hb.ln;have C:=ah4 a.tp b.tp ha.to hb.to ha.tn hb.tn;have E:=ah1 a.fq b.fq ha.fo hb.fo ha.fn hb.fn;have F:=ah3 a.rk b.rk ha.ro hb.ro ha.rn hb.rn ha.rm hb.rm;have m:=Uf a.p b.p;have s:=afF a.tl b.tl;unfold jy;generalize decide (samP a.p b.p)=x1 at *;generalize decide (samT a.tl b.tl)=x2 at *;generalize vH a.cm b.cm=X at *;generalize vJ a.ll b.ll=Y at *;generalize vM a.tp b.tp=Z at *;generalize vI a.fq b.fq=x6 at *;generalize vK a.rk b.rk=x7 at *;clear ha hb;obtain⟨⟨pk,pz,pd,ps⟩,⟨t1,t2,t3⟩,⟨c1,c2,c3,c4,c5⟩,⟨l1,l2,l3⟩,⟨n,p,q,r⟩,⟨f1,f2,f3,f4,f5⟩,⟨r1,r2,r3,r4,r5⟩⟩:=a;obtain⟨⟨K,M,J,L⟩,⟨T,U,W⟩,⟨h,i,j,k,l⟩,⟨G,H,I⟩,⟨c,d,f,g⟩,⟨t,u,v,x,y⟩,⟨N,P,Q,R,S⟩⟩:=b;simp only at *;cases x1;rotate_left;cases x2;rotate_left;cases X;rotate_left;cases Y;rotate_left;cases Z;rotate_left;cases x6;rotate_left;cases x7
 all_goals
  refine gI oW ?_
  exact wR (Af @xM @qi @nH @vV m s) (Ae A k2 C E F) ay
def gU(s:Sk):Int:=if s.p.k=1 then vTl s.tl else if s.p.k=2 then vCm s.cm else if s.p.k=3 then vLl s.ll else if s.p.k=4 then vTp s.tp else if s.p.k=5 then vFq s.fq else vRk s.rk
def parP(s:Sk):Prop:=if s.p.k=1 then True else if s.p.k=2 then s.cm.d=s.p.d/\s.cm.z=s.p.z/\s.cm.s=s.p.s else if s.p.k=3 then s.ll.p=s.p.z/\s.ll.s=s.p.s else if s.p.k=4 then s.tp.z=s.p.z else if s.p.k=5 then s.fq.z=s.p.z else s.rk.z=s.p.z
instance (s:Sk):Decidable (parP s):=by unfold parP;infer_instance
def vSk(s:Sk):Int:=if vp s.p.k s.p.z s.p.d s.p.s≠0 then vp s.p.k s.p.z s.p.d s.p.s else if gU s≠0 then gU s else if parP s then(if jy s (gu s)=true then 0 else 18)else 18
def zY(s:Sk)(ok:s.Ok):Gxx 48 [.agg (skF s)] (vi (vSk s)):=by
 have h1:=Vf s.p.k s.p.z s.p.d s.p.s;by_cases h:vp s.p.k s.p.z s.p.d s.p.s=0
 .have hk:s.p.k=1\/s.p.k=2\/s.p.k=3\/s.p.k=4\/s.p.k=5\/s.p.k=6:=by unfold vp at h;repeat' split at h<;>omega
  rw[h]at h1;have a:=JJ s.tl;have b:=JF s.cm;have c:=JH s.ll ok.ln;have d:=JK s.tp ok.to ok.tn;have f:=JG s.fq ok.fo ok.fn;have g:=JI s.rk ok.ro ok.rn ok.rm;have h3:=aio s;have h4:=ahZ s (gu s) ok (anm ok);unfold vSk gU parP;rw[ag (fun y=>y h)];generalize jy s (gu s)=N at *;generalize gu s=s' at *;generalize vTl s.tl=v1 at *;generalize vCm s.cm=P at *;generalize vLl s.ll=Q at *;generalize vTp s.tp=R at *;generalize vFq s.fq=S at *;generalize vRk s.rk=T at *;clear ok h;obtain⟨⟨pk,pz,pd,ps⟩,⟨K,t2,L⟩,⟨c1,i,j,k,l⟩,⟨A,C,E⟩,⟨m,n,p,q⟩,⟨r,t,u,v,x⟩,⟨F,G,H,I,J⟩⟩:=s;simp only at *;rcases hk with rfl|rfl|rfl|rfl|rfl|rfl
  all_goals
   simp only[Int.reduceEq,reduceIte]
   refine gI oG ?_
   (repeat' first|refine wPG (Af @xM @qi @nH @vV @vW @xN) (A8 h1 h3 h4 a b c d f g) ?_|refine tS ?_ ?_<;>intro M|fail)
   all_goals(refine rT [] ?_;simp only[pgo,simprocAttr];try simp_all)
 .unfold vSk;rw[ah h];generalize vp s.p.k s.p.z s.p.d s.p.s=e at *;obtain⟨⟨pk,pz,pd,ps⟩,⟨K,t2,L⟩,⟨c1,i,j,k,l⟩,⟨A,C,E⟩,⟨m,n,p,q⟩,⟨r,t,u,v,x⟩,⟨F,G,H,I,J⟩⟩:=s;simp only at *;refine gI oD ?_;exact wRA ae h1 ay
end Go.Proofs.YtopbmdnbdpjheaaGreat
