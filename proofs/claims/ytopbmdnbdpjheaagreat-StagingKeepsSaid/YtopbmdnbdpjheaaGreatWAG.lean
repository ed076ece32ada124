/-
  Merged texts.
-/
import Derived.Test.YtopbmdnbdpjheaaGreatWAF
import Derived.Test.YtopbmdnbdpjheaaGreatWAE
set_option linter.all false
set_option linter.unusedVariables false
set_option linter.unusedSimpArgs false
set_option linter.unusedSectionVars false
set_option linter.defProp false
set_option maxRecDepth 100000
set_option maxHeartbeats 8000000
namespace Go.Proofs.YtopbmdnbdpjheaaGreat
open Go Go.Pg
def W64(n:Int):Prop := -9223372036854775808<=n/\n<=9223372036854775807
def gq(n:Int):Int:=if n<0 then 0 else n
def Ia(n:Int):0<=gq n/\(gq n<=0\/gq n<=n):=by grind[gq]
theorem amx{n:Int}(h:0<=n):gq n=n:=ag Om
def amb(n:Int):max n 0=gq n:=by grind[gq]
def Og(n:Int):Gxx 265 [vi n] (vi (gq n)):=by
 refine gI oW ?_;(repeat' first|refine wQ (aI @mmT @amb) ?_|refine tS ?_ ?_<;>intro h|fail);all_goals exact rE []
 all_goals first|(congr 2;unfold gq;split<;>omega)|skip
def lC(a b m:Int):Int×Bool:=if gq a > gq m\/gq b > gq m-gq a then(gq m,true)else(gq a+gq b,false)
def Ha(a b m:Int)(hm:m<=4611686018427387904)(ha:W64 a)(hb:W64 b):Gxx 190 [vi a,vi b,vi m] (.tup [vi (lC a b m).1,vb (lC a b m).2]):=by
 have h1:=Ia a;have h2:=Ia b;have h3:=Ia m;obtain⟨d,f⟩:=ha;obtain⟨b0,g⟩:=hb;have e:lC a b m=if gq a > gq m\/gq b > gq m-gq a then(gq m,true)else(gq a+gq b,false):=rfl
 refine gI oW ?_;by_cases c1:gq a > gq m
 .rw[ah (.inl c1)]at e;rw[e];(repeat' first|refine wO ?_|refine cU (Og _) ?_|refine tS ?_ ?_<;>intro h|fail);exact rE []
 .by_cases c:gq b > gq m-gq a
  .rw[ah (.inr c)]at e;rw[e];(repeat' first|refine wO ?_|refine cU (Og _) ?_|refine tS ?_ ?_<;>intro h|fail);exact rE []
  .rw[ag Om]at e;rw[e];(repeat' first|refine wO ?_|refine cU (Og _) ?_|refine tS ?_ ?_<;>intro h|fail);exact rE []
def aiu(a b:Int)(ha:W64 a)(hb:W64 b):Gxx 305 [vi a,vi b] (.tup [vi (lC a b 1099511627776).1,vb (lC a b 1099511627776).2]):=by refine gI oW ?_;(repeat'(first|(simp(disch:=first|exact dqz|fail) only[pgz,simprocAttr,Tryz.f305])|((with_reducible show eX _ _ _ _ _ _);first|refine oH _ (Ha _ _ _ dX ha hb) rfl rfl rfl rfl ?_)|((with_reducible first|apply lD|apply lJ|apply lH)<;>intro h<;>(try simp only[h])<;>(try simp only[pgd]at h))|(with_reducible refine cK ?_)));all_goals exact rE []
def yR(x:Int):Int :=
 bits .xor .u64 (IntKind.u64.wrap (bits .xor .u64 (IntKind.u64.wrap (bits .xor .u64 x (x.fdiv (2^min 30 IntKind.u64.bits))*13787848793156543929)) ((IntKind.u64.wrap (bits .xor .u64 x (x.fdiv (2^min 30 IntKind.u64.bits))*13787848793156543929)).fdiv (2^min 27 IntKind.u64.bits))*10723151780598845931))
  ((IntKind.u64.wrap (bits .xor .u64 (IntKind.u64.wrap (bits .xor .u64 x (x.fdiv (2^min 30 IntKind.u64.bits))*13787848793156543929)) ((IntKind.u64.wrap (bits .xor .u64 x (x.fdiv (2^min 30 IntKind.u64.bits))*13787848793156543929)).fdiv (2^min 27 IntKind.u64.bits))*10723151780598845931)).fdiv (2^min 31 IntKind.u64.bits))
def NY(x:Int):Gxx 341 [vu x] (vu (yR x)):=by unfold yR;refine gI oW ?_;exact wR ae ae ay
def FN(s row:Int):Int:=yR (bits .xor .u64 s (IntKind.u64.wrap ((row+1)*15074714826142052245)))
def ahY(s row:Int)(a:0<=row/\row<=7):Gxx 340 [vu s,vi row] (vu (FN s row)):=by refine gI oW ?_;(repeat' first|refine wO ?_|refine cU (NY _) ?_|refine tS ?_ ?_<;>intro h|fail);exact rE []
def lq(s:Int)(n:Nat):List Int:=(List.range n).map fun(i:Nat)=>yR (IntKind.u64.wrap (s+IntKind.u64.wrap (((i:Int)+1)*11400714819323198485)))
def QM(s:Int)(n:Nat):(lq s n).length=n:=by simp[lq]
def auk(s:Int)(n:Nat):lq s n++[yR (IntKind.u64.wrap (s+IntKind.u64.wrap (((n:Int)+1)*11400714819323198485)))]=lq s (n+1):=by simp[lq,BI]
def Va(s:Int):Gxx 331 [vu s] (fzu (lq s 256)):=by
 refine Good.fzr (r:=.sl (.own 0 39) 1 (uv (lq s 256))) ?_ rfl (.inl (.inl rfl));refine gI oW ?_;refine wT ae ?_;refine aJ (fun i:Nat=>mkA [(0,vu s),(3,.sl (.own 0 39) 1 (uv (lq s i))),(4,vu ((i:Int)+1))] [] 1 (fun _=>.top)) (fun i=>i<=256) (fun i=>256-i) 0 [] [] ?_ (ax _) ?_
 .exact kE;all_goals first|exact iT rfl|exact eF Om|skip
 .intro i hi;replace hi:i<=256:=hi;have hl:=QM s i;have c:=F7 (lq s i);rcases au i 256 with h|a
  .have b:=auk s i;(repeat' first|refine wQ (Ad @auX b @F7 @hl) ?_|refine cU (NY _) ?_|refine tS ?_ ?_<;>intro d|fail);exact bE (i+1) [0] [] h
  .have:i=256:=Om;subst this;exact wR ae ae (ids [0])
def lK(t:List Int)(h:Int)(c i:Nat):Int:=IntKind.u64.wrap (bits .xor .u64 (bits .or .u64 (IntKind.u64.wrap (h*2^min 5 IntKind.u64.bits)) (h.fdiv (2^min 59 IntKind.u64.bits))) (t.getD ((c+i)%256) 0)*1099511628211)
def Ov(t:List Int):Int->Nat->List Nat->Int
 |h,_,[]=>h
 |h,i,c::cs=>Ov t (lK t h c i) (i+1) cs
def uT(t:List Int)(k:List Nat):Int:=yR (Ov t (t.getD (k.length%256) 0) 0 k)
def ae7(l:List Nat)(i:Nat)(h:i<l.length):l.drop i=l.getD i 0::l.drop (i+1):=by simp_all
theorem aut(a b:Nat):Int.tmod ((a:Int)+(b:Int)) 256=(((a+b)%256:Nat):Int):=rfl
theorem auu(a:Nat):Int.tmod (a:Int) 256=((a%256:Nat):Int):=rfl
def U5(t:List Int)(f:t.length=256)(k:List Nat)(ho:oct k)(hk:k.length<=1000000):Gxx 330 [fzu t,vs k] (.tup [vu (uT t k),vi 0]):=by
 have n:=F7 t;have g:=ZM t (k.length%256) Om;have j:k.length%256<256:=kQ _ Om;refine gI oW ?_;refine wT (Ad @F7 f @auu g) ?_;refine aJ (fun x:Int×Nat=>mkA [(0,fzu t),(1,vs k),(6,vu x.1),(7,vi x.2)] [] 0 (fun _=>.top)) (fun x=>x.2<=k.length/\uT t k=yR (Ov t x.1 x.2 (k.drop x.2))) (fun x=>k.length-x.2) (t.getD (k.length%256) 0,0) [] [] ?_ ⟨ax _,rfl⟩ ?_
 .exact kE
 .rintro⟨h,i⟩ ⟨hi,he⟩;simp only at hi he;rcases au i k.length with a|m
  .rw[ae7 k i a]at he;have d:=kw ho i;generalize b:k.getD i 0=c at he d;have h1:=ZM t ((c+i)%256) Om;have l:(c+i)%256<256:=kQ _ Om;refine wT (Ae @F7 f b @aut @h1) ?_;refine dn (lK t h c i,i+1) [] [] ⟨a,he⟩ (by show k.length-(i+1)<k.length-i;omega) ?_;exact kE
  .have:i=k.length:=Om;subst this;rw[jM]at he;rw[he];(repeat' first|refine wO ?_|refine cU (NY _) ?_|refine tS ?_ ?_<;>intro d|fail);exact rE []
def FC(n:Int)(i:Nat):Bool:=bits .and .i64 (n.fdiv (2^min i IntKind.i64.bits)) 1 == 1
def je(n:Int)(i:Nat):List Int:=((List.range i).filter (FC n)).map fun(j:Nat)=>(j:Int)
def apm(n:Int)(i:Nat)(h:FC n i=true):je n i++[(i:Int)]=je n (i+1):=by simp[je,BI,h]
def apl(n:Int)(i:Nat)(h:FC n i=false):je n i=je n (i+1):=by simp[je,BI,h]
def Yf(n:Int)(i:Nat):(je n i).length<=i:=by grind[je]
def ahS(n:Int)(c:0<n):Gxx 311 [vi n] (fzi (je n 63)):=by
 refine Good.fzr (r:=.sl (.own 0 3) 1 (iv (je n 63))) ?_ rfl (.inl (.inl rfl));refine gI oW ?_;refine wT ae ?_;refine aJ (fun i:Nat=>mkA [(0,vi n),(3,.sl (.own 0 3) 1 (iv (je n i))),(4,vi i)] [] 1 (fun _=>.top)) (fun i=>i<=63) (fun i=>63-i) 0 [] [] ?_ (ax _) ?_
 .exact kE;all_goals first|exact iT rfl|skip
 .intro i hi;replace hi:i<=63:=hi;have hl:=Yf n i;have b:=bV (je n i);rcases au i 63 with h|a
  .cases hp:FC n i
   .have hf:=apl n i hp;unfold FC at hp;refine wT @hp ?_;(refine bL (i+1) [0] [] h ?_;refine kL ?_);all_goals exact fE rfl (by rw[hf])
   .have hf:=apm n i hp;unfold FC at hp;refine wT (Ac @hp @OJ @hf) ?_;exact bE (i+1) [0] [] h
  .have:i=63:=Om;subst this;exact wR ae ae (ids [0])
def xU(co:List Nat)(i:Int):Int:=if i<0\/i.tdiv 8>=co.length then 0 else bits .and .i64 (((co.getD (i.tdiv 8).toNat 0:Nat):Int).fdiv (2^min (7-i.tmod 8).toNat IntKind.i64.bits)) 1
def U2(co:List Nat)(h:oct co)(i:Int)(hi:i<=9223372036854775807):Gxx 333 [fzb co,vi i] (vi (xU co i)):=by
 unfold xU;have d:=aA co;refine gI oW ?_;by_cases c1:i<0
 .rw[ah (.inl c1)];exact wR ae ae ay
 .have a:i.tdiv 8=i / 8:=Int.tdiv_eq_ediv_of_nonneg Om;have b:i.tmod 8=i%8:=LX Om;rw[a,b];by_cases c:i / 8>=co.length
  .rw[ah (.inr c)];exact wR (aI a @aA) ae ay
  .rw[ag Om];have hg:=lY co (i / 8).toNat Om;have f:=kw h (i / 8).toNat;exact wR (Ad a b @aA @hg) ae ay
def inb(n a b:Int):Bool:=decide (a<=n)&&decide (n<=b)
def mZ(n a b:Int):(inb n a b=true)=(a<=n/\n<=b):=by simp[inb]
def nU(n a b:Int):(inb n a b=false)=¬(a<=n/\n<=b):=by rw[<-mZ,Rl]
def JQ{n a b:Int}(h:a<=n/\n<=b):inb n a b=true:=by rw[mZ];exact h
def Ai{n a b:Int}(h:¬(a<=n/\n<=b)):inb n a b=false:=by rw[nU];exact h
def aik(n a b:Int):Gxx 299 [vi n,vi a,vi b] (vb (inb n a b)):=by
 refine gI oW ?_;by_cases h1:a<=n<;>by_cases h2:n<=b
 all_goals
  refine wT ae ?_
  (refine rT [] ?_;first|rfl|simp only[pgo,simprocAttr]|skip)
  try(rw[show inb n a b=_ from by first|exact JQ ⟨h1,h2⟩|exact Ai Om])
def aiw(n a b:Int):Gxx 221 [vi n,vi a,vi b] (vb (inb n a b)):=by
 refine gI oW ?_;by_cases h1:a<=n<;>by_cases h2:n<=b
 all_goals
  refine wT ae ?_
  (refine rT [] ?_;first|rfl|simp only[pgo,simprocAttr]|skip)
  try(rw[show inb n a b=_ from by first|exact JQ ⟨h1,h2⟩|exact Ai Om])
def zZ(n a b:Int):Gxx 222 [vi n,vi a,vi b] (vb (inb n a b)):=by
 refine gI oW ?_;by_cases h1:a<=n<;>by_cases h2:n<=b
 all_goals
  refine wT ae ?_
  (refine rT [] ?_;first|rfl|simp only[pgo,simprocAttr]|skip)
  try(rw[show inb n a b=_ from by first|exact JQ ⟨h1,h2⟩|exact Ai Om])
def vp(k z d s:Int):Int :=
 if k=1 then(if z=0/\d=0/\s=0 then 0 else 10)
 else if k=2 then(if 1<=d/\d<=8/\1<=z/\z<=64 then 0 else 5)
 else if k=3 then(if 2<=z/\z<=8 then(if d=0 then 0 else 10)else 5)
 else if k=4\/k=5 then(if 1<=z/\z<=32 then(if d=0/\s=0 then 0 else 10)else 5)
 else if k=6 then(if 2<=z/\z<=32/\z%2=0 then(if d=0/\s=0 then 0 else 10)else 5)
 else 8
theorem QQ(a b:Int)(h:0<=a):a.tmod b=a%b:=LX h
abbrev pV(k z d s:Int):List V:=[vi k,vi z,vi d,vu s]
def aic(k z d s:Int):Gxx 253 [.agg (pV k z d s)] (vi (vp k z d s)):=by
 refine gI oW ?_;skip;(repeat' first|refine wQ @QQ ?_|refine cU (aik _ _ _) ?_|refine tX (aI @mZ @nU) ?_ ?_<;>intro h|fail);all_goals(refine rT [] ?_;first|rfl|simp only[pgo,simprocAttr]|skip)
 (all_goals(unfold vp;(repeat' split)<;>first|rfl|(exfalso;omega)))
def Vf(k z d s:Int):Gxx 132 [.agg (pV k z d s)] (vi (vp k z d s)):=by
 refine gI oW ?_;(repeat' first|refine wQ @QQ ?_|refine cU (aiw _ _ _) ?_|refine tX (aI @mZ @nU) ?_ ?_<;>intro h|fail);all_goals(refine rT [] ?_;first|rfl|simp only[pgo,simprocAttr]|skip)
 (all_goals(unfold vp;(repeat' split)<;>first|rfl|(exfalso;omega)))
theorem pO(n a b:Int)(h:a<=n/\n<=b):Gxx 222 [vi n,vi a,vi b] (vb true):=by have:=zZ n a b;rwa [JQ h]at this
def Gf{k z d s:Int}(h:vp k z d s=0):k=1\/k=2\/k=3\/k=4\/k=5\/k=6:=by grind[vp]
def vTl(t:Tl):Int:=if(0<=t.t/\t.t<=4294967295)/\(0<=t.i/\t.i<=4294967295)/\t.i<=t.t then 0 else 5
def JJ(t:Tl):Gxx 133 [.agg (tlF t)] (vi (vTl t)):=by
 obtain⟨a,b,s⟩:=t;skip;refine gI oW ?_;(repeat' first|refine wO ?_|refine cU (zZ _ _ _) ?_|refine tX (aI @mZ @nU) ?_ ?_<;>intro h|fail);all_goals(refine rT [] ?_;first|rfl|simp only[pgo,simprocAttr]|skip)
 all_goals(unfold vTl;simp only;(repeat' split)<;>first|rfl|(exfalso;omega))
def I8(a b:Tl):Tl:=⟨(lC a.t b.t 4294967295).1,(lC a.i b.i 4294967295).1,a.b||b.b||(lC a.t b.t 4294967295).2||(lC a.i b.i 4294967295).2⟩
def aif(a b:Tl)(h1:W64 a.t)(h2:W64 a.i)(h3:W64 b.t)(h4:W64 b.i):Gxx 302 [.agg (tlF a),.agg (tlF b)] (.agg (tlF (I8 a b))):=by
 obtain⟨c,d,h⟩:=a;obtain⟨f,g,i⟩:=b;simp only at h1 h2 h3 h4;unfold I8;simp only;have k:=Ha c f 4294967295 dX h1 h3;have k2:=Ha d g 4294967295 dX h2 h4;generalize lC c f 4294967295=x at *;generalize lC d g 4294967295=y at *;obtain⟨x1,x2⟩:=x;obtain⟨l,y2⟩:=y;simp only at k k2⊢;refine gI oW ?_;cases h<;>cases i<;>cases x2<;>cases y2
 all_goals
  (repeat' first|refine wP ae (aI k k2) ?_|refine tX (aI @mZ @nU) ?_ ?_<;>intro j|fail)
  exact rE []
def Hw(t:Tl)(k:List Nat)(w:Int):Tl×Int:=if vTl t≠0 then(Tl.o,vTl t)else if iW k w≠0 then(Tl.o,iW k w)else(I8 t ⟨w,1,false⟩,0)
def ZR{t:Tl}(h:vTl t=0):W64 t.t/\W64 t.i:=by grind[vTl,W64]
def F9{k:List Nat}{w:Int}(h:iW k w=0):(1<=w/\w<=4294967295)/\1<=k.length/\k.length<=32:=by grind[iW]
def ahF(t:Tl)(k:List Nat)(w:Int):Gxx 273 [.agg (tlF t),.agg [vs k,vi w]] (.tup [.agg (tlF (Hw t k w).1),vi (Hw t k w).2]):=by
 have h1:=JJ t;have h2:=CO k w;unfold Hw;by_cases c1:vTl t=0
 .rw[ag Om];rw[c1]at h1;by_cases c:iW k w=0
  .rw[ag Om];rw[c]at h2;have h3:=aif t ⟨w,1,false⟩ (ZR c1).1 (ZR c1).2 (show W64 w from by have:=F9 c;unfold W64;omega) (show W64 1 from⟨by decide,by decide⟩);generalize I8 t ⟨w,1,false⟩=r at *;refine gI oW ?_;(repeat' first|refine wP ae (Ac h1 h2 h3) ?_|refine tX (aI @mZ @nU) ?_ ?_<;>intro h|fail);exact rE []
  .rw[ah Om];refine gI oW ?_;(repeat' first|refine wP ae (aI h1 h2) ?_|refine tX (aI @mZ @nU) ?_ ?_<;>intro h|fail);exact rE []
 .rw[ah Om];refine gI oW ?_;(repeat' first|refine wP ae h1 ?_|refine tX (aI @mZ @nU) ?_ ?_<;>intro h|fail);exact rE []
def xx{d z:Int}(hd:1<=d/\d<=8)(h:1<=z/\z<=64):0<=d*z/\d*z<=512:=by refine⟨Int.mul_nonneg Om Om,?_⟩;have h1:d*z<=8*z:=Int.mul_le_mul_of_nonneg_right hd.2 Om;omega
def lQ(a b:Int)(l:List Int):Bool:=l.all fun n=>decide (a<=n/\n<=b)
def Jb{a b:Int}{l:List Int}{i:Nat}(h:i<l.length):lQ a b (l.take (i+1))=(lQ a b (l.take i)&&decide (a<=l.getD i 0/\l.getD i 0<=b)):=by grind[lQ,List.take_succ_eq_append_getElem,List.getD]
def Ja{a b:Int}{l:List Int}{i:Nat}(h:i<l.length)(c:¬(a<=l.getD i 0/\l.getD i 0<=b)):lQ a b l=false:=by grind[lQ,List.getElem_mem]
def BM{a b:Int}{l:List Int}(h:lQ a b l=true){i:Nat}(hi:i<l.length):a<=l.getD i 0/\l.getD i 0<=b:=by simp_all[lQ]
def vCm(c:Cm):Int:=if ¬(1<=c.d/\c.d<=8/\1<=c.z/\c.z<=64)then 5 else if(c.c.length:Int)≠c.d*c.z then 18 else if lQ 0 4294967295 c.c=true then 0 else 5
def JF(c:Cm):Gxx 134 [.agg (cmF c)] (vi (vCm c)):=by
 obtain⟨d,z,s,l,b⟩:=c;unfold vCm;simp only;have t:=bV l;by_cases c1:1<=d/\d<=8/\1<=z/\z<=64
 .rw[ag (by simpa using c1)];have k:=pO d 1 8 Om;have k2:=pO z 1 64 Om;have hm:=xx ⟨c1.1,c1.2.1⟩ c1.2.2;by_cases j:(l.length:Int)=d*z
  .rw[ag Om];generalize g:d*z=q at *;refine gI oW ?_;(repeat' first|refine wP (aI g @bV) (aI k k2) ?_|refine tX (aI @mZ @nU) ?_ ?_<;>intro h|fail);refine aJ (fun i:Nat=>mkA [(1,.ref 0 0),(3,vi i)] [(0,(45,cmF ⟨d,z,s,l,b⟩))] 1 (fun _=>.top)) (fun i=>i<=l.length/\lQ 0 4294967295 (l.take i)=true) (fun i=>l.length-i) 0 [] [0] ?_ ⟨ax _,rfl⟩ ?_
   .exact kE
   .rintro i ⟨hi,ha⟩;rcases au i l.length with f|r
    .have hg:=lh l i f;have hx:=Ja (a:=0) (b:=4294967295) f;have p:=Jb (a:=0) (b:=4294967295) f;rw[ha]at p;generalize l.getD i 0=n at *;by_cases h:0<=n/\n<=4294967295
     .have m:=pO n 0 4294967295 h;(repeat' first|refine wP (aI @bV @hg) m ?_|refine tX (aI @mZ @nU) ?_ ?_<;>intro h|fail);exact bE (i+1) [] [0] ⟨f,by rw[p,eU h];rfl⟩
     .have m:=zZ n 0 4294967295;rw[Ai h]at m;rw[hx h,ag Aa];(repeat' first|refine wP (aI @bV @hg) m ?_|refine tX (aI @mZ @nU) ?_ ?_<;>intro h|fail);exact rE []
    .have:i=l.length:=Om;subst this;rw[gB]at ha;rw[ha,ah rfl];(repeat' first|refine wQ @bV ?_|refine tX (aI @mZ @nU) ?_ ?_<;>intro h|fail);exact rE []
  .rw[ah j];generalize g:d*z=q at *;refine gI oW ?_;(repeat' first|refine wP (aI g @bV) (aI k k2) ?_|refine tX (aI @mZ @nU) ?_ ?_<;>intro h|fail);exact rE []
 .rw[ah c1];by_cases j:1<=d/\d<=8
  .have k:=pO d 1 8 j;have k2:=zZ z 1 64;rw[Ai Om]at k2;refine gI oW ?_;(repeat' first|refine wP ae (aI k k2) ?_|refine tX (aI @mZ @nU) ?_ ?_<;>intro h|fail);exact rE []
  .have k:=zZ d 1 8;rw[Ai j]at k;refine gI oW ?_;(repeat' first|refine wP ae k ?_|refine tX (aI @mZ @nU) ?_ ?_<;>intro h|fail);exact rE []
def auE(n:Int):0<=IntKind.u64.wrap n/\IntKind.u64.wrap n<18446744073709551616:=by rw[IntKind.wrap_u64];omega
theorem amk(x:Int):0<=yR x/\yR x<18446744073709551616:=auE _
theorem JM(t:List Int)(k:List Nat):0<=uT t k/\uT t k<18446744073709551616:=amk _
def BU(s row z:Int)(k:List Nat):Int:=(uT (lq (FN s row) 256) k).tmod z
def Nb(s row z:Int)(k:List Nat)(a:1<=z):0<=BU s row z k/\BU s row z k<z:=by unfold BU;have h:=(JM (lq (FN s row) 256) k).1;rw[LX h];exact⟨Int.emod_nonneg _ Om,Int.emod_lt_of_pos _ Om⟩
def ag2(s row z:Int)(k:List Nat)(ho:oct k)(a:0<=row/\row<=7)(b:1<=z/\z<=64)(hk:1<=k.length/\k.length<=32):Gxx 329 [vu s,vi row,vi z,vs k] (.tup [vi (BU s row z k),vi 0]):=by have f:=pO row 0 7 a;have k2:=pO z 1 64 b;have c:=EL k;rw[VM hk]at c;have g:=U5 (lq (FN s row) 256) (QM _ _) k ho Om;have d:=Nb s row z k b.1;have i:=JM (lq (FN s row) 256) k;unfold BU at *;generalize uT (lq (FN s row) 256) k=h at *;refine gI oW ?_;(repeat' first|refine wP ae (Ae f k2 c (ahY s row a) g) ?_|refine cU (Va _) ?_|refine tX (aI @mZ @nU) ?_ ?_<;>intro d|fail);exact rE []
def xY(s z row:Int)(k:List Nat):Int:=row*z+BU s row z k
def S9(s z row d:Int)(k:List Nat)(b:1<=z)(a:0<=row/\row<d):0<=xY s z row k/\xY s z row k<d*z:=by have h:=Nb s row z k b;unfold xY;have h1:0<=row*z:=Int.mul_nonneg a.1 Om;have h2:(row+1)*z<=d*z:=Int.mul_le_mul_of_nonneg_right Om Om;grind
def aig(c:Cm)(row:Int)(k:List Nat)(ho:oct k)(f:0<=row/\row<=7)(h:1<=c.z/\c.z<=64)(hk:1<=k.length/\k.length<=32):Gxx 303 [.agg (cmF c),vi row,vs k] (vi (xY c.s c.z row k)):=by obtain⟨d,z,s,l,b⟩:=c;simp only at h⊢;have m:=ag2 s row z k ho f h hk;have i:=Nb s row z k h.1;have a:=S9 s z row 8 k h.1 Om;have hm:0<=row*z:=Int.mul_nonneg f.1 Om;have j:row*z<=7*z:=Int.mul_le_mul_of_nonneg_right f.2 Om;unfold xY at *;generalize BU s row z k=q at *;generalize g:row*z=r at *;refine gI oW ?_;(repeat' first|refine wP g m ?_|refine tX (aI @mZ @nU) ?_ ?_<;>intro i|fail);exact rE []
end Go.Proofs.YtopbmdnbdpjheaaGreat
section
namespace Go.Proofs.YtopbmdnbdpjheaaGreat
open Go Go.Pg
def kl(a b:List Nat):Bool:=Op.bytesLess (sB a).toList (sB b).toList
theorem iO(a b:List Nat):Op.bytesLess (sB a).toList (sB b).toList=kl a b:=rfl
def octE(l:List En):Prop:=∀e∈l,oct e.1
theorem oN{l:List En}(h:octE l)(i:Nat):oct (l.getD i ([],0,0)).1:=by
 rcases au i l.length with hi|hi
 .have:l.getD i ([],0,0)=l[i]:=by simp[hi]
  rw[this];exact h _ (ji hi)
 .grind[vk]
theorem amY{l:List En}(h:octE l)(n:Nat):octE (l.take n):=fun e he=>h e (Gq he)
def bfE(a b:En):Bool:=decide (b.2.1<a.2.1)||(decide (a.2.1=b.2.1)&&kl a.1 b.1)
def UX(a b:En):Gxx 225 [.agg [vs a.1,vi a.2.1,vi a.2.2],.agg [vs b.1,vi b.2.1,vi b.2.2]] (vb (bfE a b)):=by
 obtain⟨k,c1,d⟩:=a;obtain⟨k2,c,f⟩:=b;unfold bfE;simp only;refine gI oW ?_;by_cases h1:c<c1
 .rw[eU h1];exact wR @iO ae ay
 .rw[dK h1];by_cases h2:c1=c
  .rw[eU h2];cases hk:kl k k2
   .exact wR (aI @iO @hk) ae ay
   .exact wR (aI @iO @hk) ae ay
  .rw[dK h2];exact wR @iO ae ay
def uQ(k:List Nat):Nat->List En->Int
 |_,[] => -1
 |i,e::l=>if e.1=k then i else uQ k (i+1) l
def di(l:List En)(k:List Nat):Int:=uQ k 0 l
theorem agm(k:List Nat):∀(l:List En) (i:Nat),uQ k i l = -1\/(i:Int)<=uQ k i l/\uQ k i l<i+l.length:=by
 intro l
 induction l with
 |nil=>intro i;exact .inl rfl
 |cons e l a =>grind[uQ]
def NP(l:List En)(k:List Nat):di l k = -1\/0<=di l k/\di l k<l.length:=by grind[agm,di]
def ae6(l:List En)(i:Nat)(h:i<l.length):l.drop i=l.getD i ([],0,0)::l.drop (i+1):=by simp_all
def Ob(l:List En)(k:List Nat)(hl:octE l)(ho:oct k)(f:l.length<=1000000):Gxx 224 [fzv l,vs k] (vi (di l k)):=by
 have b:=bJ l;refine gI oW ?_;refine wT ae ?_;refine aJ (fun i:Nat=>mkA [(0,fzv l),(1,vs k),(5,vi i)] [] 0 (fun _=>.top)) (fun i=>i<=l.length/\di l k=uQ k i (l.drop i)) (fun i=>l.length-i) 0 [] [] ?_ ⟨ax _,rfl⟩ ?_
 .exact kE
 .rintro i ⟨hi,he⟩;rcases au i l.length with h|c
  .rw[ae6 l i h]at he;have hg:=jP l i h;have a:=oN hl i;generalize l.getD i ([],0,0)=x at *;obtain⟨d,xc,g⟩:=x;simp only at hg a;unfold uQ at he;have hd:=vF a ho;by_cases hx:d=k
   .rw[ah hx]at he;rw[he];rw[eU hx]at hd;exact wR (Ac @bJ @hg @hd) ae ay
   .rw[ag hx]at he;rw[dK hx]at hd;refine wT (Ac @bJ @hg @hd) ?_;exact bE (i+1) [] [] ⟨h,he⟩
  .have:i=l.length:=Om;subst this;rw[jM]at he;rw[he];exact wR @bJ ae ay
section
variable {α:Type}
def fH(b:α->α->Bool)(x:α):List α->List α
 |[]=>[x]
 |y::ys=>if b x y=true then y::fH b x ys else x::y::ys
def rU(b:α->α->Bool):List α->List α->List α
 |acc,[]=>acc
 |acc,x::l=>rU b (fH b x acc) l
def srt(b:α->α->Bool)(l:List α):List α:=(rU b [] l).reverse
theorem BQ(b:α->α->Bool)(x:α)(l:List α):(fH b x l).length=l.length+1:=by induction l<;>grind[fH]
theorem xW(b:α->α->Bool)(x z:α)(l:List α):z∈fH b x l↔z=x\/z∈l:=by
 induction l with
 |nil=>simp[fH]
 |cons y ys i =>grind[fH]
theorem asj(b:α->α->Bool)(l:List α):∀acc,(rU b acc l).length=acc.length+l.length:=by
 induction l with
 |nil=>intro acc;rfl
 |cons x l i=>intro acc;rw[rU,i,BQ];simp;omega
theorem asl(b:α->α->Bool)(z:α)(l:List α):∀acc,z∈rU b acc l↔z∈acc\/z∈l:=by
 induction l with
 |nil=>intro acc;simp[rU]
 |cons x l i =>grind[rU,xW]
theorem Y7(b:α->α->Bool)(l:List α):(srt b l).length=l.length:=by simp[srt,asj]
theorem Y8(b:α->α->Bool)(z:α)(l:List α):z∈srt b l↔z∈l:=by simp[srt,asl]
def mov(p:List α)(x:α)(t:List α):List α:=p.reverse++x::t
theorem AO(p:List α)(x:α)(t:List α):(mov p x t).length=p.length+1+t.length:=by grind[mov]
theorem J6(p:List α)(x:α)(t:List α)(d:α):(mov p x t).getD p.length d=x:=by grind[mov]
theorem J7(y:α)(p:List α)(x:α)(t:List α)(d:α):(mov (y::p) x t).getD p.length d=y:=by grind[mov]
theorem J8(y:α)(p:List α)(x:α)(t:List α):((mov (y::p) x t).set (p.length+1) y).set p.length x=mov p x (y::t):=by grind[mov]
theorem WW(l:List α)(x:α):l++[x]=mov l.reverse x []:=by simp[mov]
theorem AL(b:α->α->Bool)(p:List α)(x:α)(t:List α)(h:p=[]\/∃y q,p=y::q/\b x y=false):(fH b x p).reverse++t=mov p x t:=by grind[fH,mov]
theorem H8(b:α->α->Bool)(y:α)(p:List α)(x:α)(t:List α)(h:b x y=true):(fH b x (y::p)).reverse++t=(fH b x p).reverse++y::t:=by grind[fH]
end
def ET{α:Type}(l:List α)(i:Nat)(d:α)(h:i<l.length):l.drop i=l.getD i d::l.drop (i+1):=by simp_all
def NZ(l:List En)(L:l.length<=1000000):Gxx 307 [fzv l] (.sl (.own 0 215) 3 (ev (srt bfE l))):=by
 have I:=bJ l;refine gI oW ?_;refine wT ae ?_;refine aJ (fun x:Nat×List En=>mkA [(0,fzv l),(3,.sl (.own 0 215) 3 (ev x.2.reverse)),(4,vi x.1)] [] 1 (fun _=>.top)) (fun x=>x.1<=l.length/\x.2.length=x.1/\rU bfE x.2 (l.drop x.1)=rU bfE [] l) (fun x=>l.length-x.1) (0,[]) [] [] ?_ ⟨ax _,rfl,rfl⟩ ?_
 .exact kE;all_goals first|exact iT rfl|skip
 .rintro⟨i,acc⟩ ⟨hi,ha,k⟩;simp only at hi ha k;have A:(ev acc.reverse).length=i:=by rw[bJ,Rq,ha]
  rcases au i l.length with c|J
  .rw[ET l i ([],0,0) c]at k;have hg:=jP l i c;generalize l.getD i ([],0,0)=x at *;have F:ev acc.reverse++[V.agg [vs x.1,vi x.2.1,vi x.2.2]]=ev (mov acc x []):=by rw[uO];unfold mov;rfl
   have C:(ev (mov acc x [])).length=i+1:=by rw[bJ,AO,ha];rfl
   (repeat'(first|(simp(disch:=first|exact dqz|fail) only[pgz,simprocAttr,hg,bJ,F,C,A])|((with_reducible first|apply lD|apply lJ|apply lH)<;>intro H<;>(try simp only[H])<;>(try simp only[pgd]at H))|(with_reducible refine cK ?_)));refine aJ (fun y:List En×List En=>mkA [(0,fzv l),(3,.sl (.own 0 215) 3 (ev (mov y.1 x y.2))),(4,vi i),(5,vi y.1.length)] [] 1 (fun _=>.top)) (fun y=>y.1.length+y.2.length=i/\(fH bfE x y.1).reverse++y.2=(fH bfE x acc).reverse) (fun y=>y.1.length) (acc,[]) [0] [] ?_ ⟨by simp[ha],by simp⟩ ?_
   ·(refine kM ?_ ?_;(repeat'(first|exact ae|refine dQ _ _ rfl rfl ?_ ?_));all_goals(try simp only[pgm,simprocAttr]);all_goals(try(repeat' apply aI));all_goals(try exact gz));all_goals exact eF Om
   .rintro⟨p,t⟩ ⟨g,h⟩;simp only at g h;have d:=AO p x t;have a:(ev (mov p x t)).length=i+1:=by rw[bJ,d];omega
    cases p with
    |nil =>rw[AL bfE [] x t (.inl rfl)]at h;refine wT a ?_;refine dn (i+1,fH bfE x acc) [0] [] ⟨c,by simp only;rw[BQ,ha],by simp only;rw[<-k];rfl⟩ (by show l.length-(i+1)<l.length-i;omega) ?_;refine kL ?_;all_goals exact fE rfl (by rw[h])
    |cons y p =>
     have v:=jP (mov (y::p) x t) (p.length+1) (by rw[d];simp only[dB];omega);have u:=jP (mov (y::p) x t) p.length (by rw[d];simp only[dB];omega);have K:(mov (y::p) x t).getD (p.length+1) ([],0,0)=x:=J6 (y::p) x t _;rw[K]at v;rw[J7]at u;have hb:=UX x y;have n:(((y::p).length:Nat):Int)=(p.length:Int)+1:=Aa;have q:((p.length:Int)+1).toNat=p.length+1:=Om;have r:((p.length:Int)+1-1)=(p.length:Int):=Om;cases b:bfE x y
     .rw[AL bfE (y::p) x t (.inr ⟨y,p,rfl,b⟩)]at h;rw[b]at hb;refine wS (Af n q r a v u) hb ?_;refine dn (i+1,fH bfE x acc) [0] [] ⟨c,by simp only;rw[BQ,ha],by simp only;rw[<-k];rfl⟩ (by show l.length-(i+1)<l.length-i;omega) ?_;refine kL ?_;all_goals exact fE rfl (by rw[h])
     .rw[H8 bfE y p x t b]at h;rw[b]at hb;have G:=J8 y p x t;have f:(ev (mov (y::p) x t)).set (p.length+1) (V.agg [vs y.1,vi y.2.1,vi y.2.2])=ev ((mov (y::p) x t).set (p.length+1) y):=GY _ _ _ _ _;have j:(ev ((mov (y::p) x t).set (p.length+1) y)).set p.length (V.agg [vs x.1,vi x.2.1,vi x.2.2])=ev (mov p x (y::t)):=by rw[GY];exact mV ev G
      have s:(ev ((mov (y::p) x t).set (p.length+1) y)).length=i+1:=by rw[bJ,nI,d];simp only[dB]at g⊢;omega
      have m:(ev ((mov (y::p) x t).set (p.length+1) y))[p.length]?=some (V.agg [vs y.1,vi y.2.1,vi y.2.2]):=by rw[<-f,L6 Om,u]
      generalize(mov (y::p) x t).set (p.length+1) y=M at f j s m;refine wS (A8 n q r a v u f j (aI s m)) hb ?_;refine dn (p,y::t) [0] [] ⟨by simp only[dB]at g⊢;omega,h⟩ (by show p.length<(y::p).length;simp) ?_;refine kL ?_;all_goals(simp only[pgo,f,j];first|exact ae|exact fE rfl rfl)
  .have:i=l.length:=Om;subst this;rw[jM]at k;have E:acc=rU bfE [] l:=k;refine wT @bJ ?_;(refine rT [0] ?_;first|rfl|simp only[pgo,simprocAttr]|skip);all_goals(unfold srt;rw[E];rfl)
def agc(l:List En):V.flatL (ev l)=true:=by
 induction l with
 |nil=>rfl
 |cons a l i=>simp[ev,V.flatL,V.flat]at i⊢;simpa using i
theorem EF(id:Nat)(e:TypeId)(k:Nat)(l:List En):(V.sl (.own id e) k (ev l)).flat=true:=agc l
end Go.Proofs.YtopbmdnbdpjheaaGreat
end
namespace Go.Proofs.YtopbmdnbdpjheaaGreat
open Go Go.Pg
def ltB(x y:Bd):Bool:=kl x.n y.n||(decide (sB x.n=sB y.n)&&decide (x.f<y.f))
def jo(x:Bd)(l:List Bd):List Bd:=(fH ltB x l.reverse).reverse
def Sv(l:List Bd)(i:Nat)(x:Bd):(aS l).set i (.agg [vs x.n,vi x.o,vi x.f,vi x.t])=aS (l.set i x):=by simp[zB]
def Vl(l:List Bd)(x:Bd)(hl:l.length<=100000):Gxx 214 [.sl .fz 4 (aS l),.agg (bdF x)] (.sl (.own 0 142) 4 (aS (jo x l))):=by
 generalize L:jo x l=E;have G:Fits (aS l).length 40:=by rw[aj];exact⟨by simp only[maxLen];omega,by omega⟩
 have H:Fits ((aS l).length+1) 40:=by rw[aj];exact⟨by simp only[maxLen];omega,by omega⟩
 have K:(aS l)++[V.agg [vs x.n,vi x.o,vi x.f,vi x.t]]=aS (mov l.reverse x []):=by rw[<-WW];simp
 have I:(aS (mov l.reverse x [])).length=l.length+1:=by rw[aj,AO];simp
 refine pR (zM (fun d=>bif d == 10 then true else false) [] mix) Tryz.func214 rfl Tryz.results214 rfl Za (fP Za) ?_;(repeat'(first|(simp(disch:=first|exact dqz|fail) only[pgz,simprocAttr,pgF,aj,G,H,K,I])|(refine tS ?_ ?_<;>intro A)|(with_reducible refine cK ?_)));refine aJ (fun y:List Bd×List Bd=>mkA [(5,.sl (.own 0 142) 4 (aS (mov y.1 x y.2))),(6,vi y.1.length)] [] 1 (fun _=>.top)) (fun y=>y.1.length+y.2.length=l.length/\(fH ltB x y.1).reverse++y.2=E) (fun y=>y.1.length) (l.reverse,[]) [1] [] ?_ ⟨by simp,by simp;exact L⟩ ?_
 ·(refine kM ?_ ?_;(repeat'(first|exact ae|refine dQ _ _ rfl rfl ?_ ?_));all_goals(try simp only[pgm,simprocAttr]);all_goals(try(repeat' apply aI));all_goals(try exact gz));all_goals first|exact eF (by simp only[Rq];omega)|exact fE rfl rfl|skip
 .rintro⟨p,t⟩ ⟨q,a⟩;simp only at q a;have n:=AO p x t;have b:(aS (mov p x t)).length=l.length+1:=by rw[aj,n];omega
  cases p with
  |nil =>rw[AL ltB [] x t (.inl rfl)]at a;subst a;(repeat'(first|(simp(disch:=first|exact dqz|fail) only[pgz,simprocAttr,pgF,b])|(refine tS ?_ ?_<;>intro A)|(with_reducible refine cK ?_)));exact rE [0]
  |cons y p =>
   have v:=jZ (mov (y::p) x t) (p.length+1) (by rw[n];simp only[dB];omega);have u:=jZ (mov (y::p) x t) p.length (by rw[n];simp only[dB];omega);have M:(mov (y::p) x t).getD (p.length+1) bd0=x:=J6 (y::p) x t _;rw[M]at v;rw[J7]at u;have i:(((y::p).length:Nat):Int)=(p.length:Int)+1:=Aa;have j:((p.length:Int)+1).toNat=p.length+1:=Om;have k:((p.length:Int)+1-1)=(p.length:Int):=Om;have s:ltB x y=false->((mov (y::p) x t))=E:=fun h=>by rw[AL ltB (y::p) x t (.inr ⟨y,p,rfl,h⟩)]at a;exact a
   have J:=J8 y p x t;have c:(aS (mov (y::p) x t)).set (p.length+1) (V.agg [vs y.n,vi y.o,vi y.f,vi y.t])=aS ((mov (y::p) x t).set (p.length+1) y):=Sv _ _ _;have f:(aS ((mov (y::p) x t).set (p.length+1) y)).set p.length (V.agg [vs x.n,vi x.o,vi x.f,vi x.t])=aS (mov p x (y::t)):=by rw[Sv];exact mV aS J
   have m:(aS ((mov (y::p) x t).set (p.length+1) y)).length=l.length+1:=by rw[aj,nI,n];simp only[dB]at q⊢;omega
   have g:(aS ((mov (y::p) x t).set (p.length+1) y))[p.length]?=some (V.agg [vs y.n,vi y.o,vi y.f,vi y.t]):=by rw[<-c,L6 Om,u]
   cases hk:kl x.n y.n
   .by_cases F:sB x.n=sB y.n
    .have C:decide (sB x.n=sB y.n)=true:=eU F;by_cases hf:x.f<y.f
     .rw[H8 ltB y p x t (by simp[ltB,hk,F,hf])]at a;generalize(mov (y::p) x t).set (p.length+1) y=N at c f m g;(repeat'(first|(simp(disch:=first|exact dqz|fail) only[pgz,simprocAttr,pgF,i,j,k,b,v,u,c,f,m,g,iO,hk,C])|(refine tS ?_ ?_<;>intro A)|(with_reducible refine cK ?_)));refine dn (p,y::t) [0] [] ⟨by simp only[dB]at q⊢;omega,a⟩ (by show p.length<(y::p).length;simp) ?_;(refine kM ?_ ?_;(repeat'(first|exact ae|refine dQ _ _ rfl rfl ?_ ?_));all_goals(try simp only[pgm,simprocAttr]);all_goals(try(repeat' apply aI));all_goals(try exact gz));all_goals(simp only[pgo,c,f];first|exact ae|exact fE rfl rfl)
     .have r:=s (by simp[ltB,hk,hf]);subst r;(repeat'(first|(simp(disch:=first|exact dqz|fail) only[pgz,simprocAttr,pgF,i,j,k,b,v,u,iO,hk,C])|(refine tS ?_ ?_<;>intro A)|(with_reducible refine cK ?_)));exact rE [0]
    .have r:=s (by simp[ltB,hk,F]);subst r;(repeat'(first|(simp(disch:=first|exact dqz|fail) only[pgz,simprocAttr,pgF,i,j,k,b,v,u,iO,hk,F])|(refine tS ?_ ?_<;>intro A)|(with_reducible refine cK ?_)));exact rE [0]
   .rw[H8 ltB y p x t (by simp[ltB,hk])]at a;generalize(mov (y::p) x t).set (p.length+1) y=N at c f m g;(repeat'(first|(simp(disch:=first|exact dqz|fail) only[pgz,simprocAttr,pgF,i,j,k,b,v,u,c,f,m,g,iO,hk])|(refine tS ?_ ?_<;>intro A)|(with_reducible refine cK ?_)));refine dn (p,y::t) [0] [] ⟨by simp only[dB]at q⊢;omega,a⟩ (by show p.length<(y::p).length;simp) ?_;(refine kM ?_ ?_;(repeat'(first|exact ae|refine dQ _ _ rfl rfl ?_ ?_));all_goals(try simp only[pgm,simprocAttr]);all_goals(try(repeat' apply aI));all_goals(try exact gz));all_goals(simp only[pgo,c,f];first|exact ae|exact fE rfl rfl)
end Go.Proofs.YtopbmdnbdpjheaaGreat
namespace Go.Pg
open Go
def zt{P:Program}[Tb P](hm:P.follows .mixedOrders=true)(F:Nat->Bool)(ids:List Nat){ex:List Nat}{id:Nat}{l:List Oper}{Q:Exit->St->Prop}{s:St}(hl:uM P F (l.map (·.dst)) l Q l [] (s.freezeAll ids)):wpS (dU ex) P (.region id l.toArray true) Q s :=
 .inr fun id' C c L a w g h f S=>by obtain⟨b,d,_⟩:=S.freezeAll ids;exact zM F [] hm id' C l.toArray _ c _ b a w g h rfl (by rw[f];simpa[dF,TM,uM]using hl) d
def abZ{ι:Type}{S:ι->St}{I:ι->Prop}{μ:ι->Nat}{i:ι}{e:Nat->V}{bx:BX}{n:Nat}{h:Nat->V}(id:Nat)(H:uH S I μ i ⟨bD (frz id) e,df (frz id) bx,n,bD (frz id) h⟩):uH S I μ i ⟨e,bx,n,h⟩:=by obtain⟨m,s,h1,a,h2⟩:=H;exact⟨m,s,h1,(Weak.freeze ⟨e,bx,n,h⟩ id).trans a,h2⟩
def ajP(o:Oper):Bool:=match o.op with | .indexAddr _ _ _=>true|_=>false
def stH(ops:List Oper):Bool:=ops.any VP&&ops.all okA && !ops.any ajP
def dH:Dw:=⟨fun P _ ops K s=>if stH ops.toList=true then Ce P ops K s else Et P ops K s,[],[]⟩
instance:Plain dH:=⟨rfl⟩
def TN{P:Program}[Tb P](hm:P.follows .mixedOrders=true):nN P dH:=by
 intro id C ops K Q s L a w d b c h S;subst c;simp only[dH]at h;split at h
 .exact Jr hm id C ops Q s L a w d b h S
 .exact Es [] hm id C ops _ Q s L a w d b rfl h S
def avy(P:Program)[Tb P](x y:Code)(Q:Exit->St->Prop)(s:St):wpS dH P (.seq x y) Q s=wpS dH P x (nD dH P y Q) s:=by
 have:pI dH.cuts (gm y)=false:=by cases h:gm y<;>rfl
 simp only[wpS,this,nD,cond_false]
def avl(P:Program)[Tb P](id:Nat)(l:List Oper)(Q:Exit->St->Prop)(s:St):wpS dH P (.region id l.toArray true) Q s=gJ P (stH l) l Q s:=by simp only[wpS,if_true,dH,gJ];cases h:stH l<;>rfl
def TU{P:Program}[Tb P]{e:Nat->V}{b:BX}{n:Nat}{h:Nat->V}{l:List Oper}{Q:Exit->St->Prop}(h1:stH l=true)(h2:alC P n l Q l [] 0 ⟨e,b,n+l.length,h⟩):gJ P (stH l) l Q ⟨e,b,n,h⟩:=by rw[h1];exact h2
def TT{P:Program}[Tb P]{l:List Oper}{Q:Exit->St->Prop}{s:St}(h1:stH l=false)(h2:nP P (l.map (·.dst)) l Q l [] s):gJ P (stH l) l Q s:=by rw[h1];exact h2
def pgH:=aI @avy @avl
def Ka.ren(f:Nat->Nat):Ka->Ka
 | .q=>.q
 | .rb b=>.rb (f b)
 | .xb b=>.xb (f b)
 | .z=>.z
def adO{f:Nat->Nat}(hf:∀i j,i≠j->f i≠f j)(a b:Ka)(h:pG a b=true):pG (a.ren f) (b.ren f)=true:=by cases a<;>cases b<;>simp_all[pG,Ka.ren]<;>exact hf _ _ h
def Ua(f:Nat->Nat):∀(os:List Oper) (a:List Ka) (k:Nat),oJ k os (a.map (Ka.ren f))=(oJ k os a).map fun x=>(x.1,x.2.1,x.2.2.ren f)
 |[],a,k=>by cases a<;>rfl
 |o::os,[],k=>rfl
 |o::os,κ::a,k=>by show _::oJ (k+1) os (a.map (Ka.ren f))=_;rw[Ua f os a (k+1)];rfl
def adB{ops:List Oper}{a k:List Ka}(f:Nat->Nat)(hf:∀i j,i≠j->f i≠f j)(he:a.map (Ka.ren f)=k)(h:qU ops a=true):qU ops k=true:=by
 subst he
 unfold qU at *
 simp only[lL,aj]at h⊢
 refine⟨h.1,?_⟩
 rw[Ua]
 have h2:=h.2
 clear h
 generalize oJ 0 ops a=l at *
 induction l with
 |nil=>rfl
 |cons x r c =>
  simp only[GL,dm,lL,List.all_map,lM,Function.comp_apply]at h2⊢;refine⟨fun y b => ?_,c h2.2⟩;have:=h2.1 y b;simp only[LV,xP,lL]at this⊢;rcases this with⟨h3,h4⟩|⟨h3,h4⟩
  .refine .inl ⟨?_,h4⟩;generalize x.2.2=κ at *;cases κ<;>first|rfl|cases h3
  .exact .inr ⟨adO hf _ _ h3,h4⟩
def nmF(l:List Nat)(i:Nat):Nat:=if h:i<l.length then l[i]else l.foldr max 0+i+1
def amO{l:List Nat}(h:l.Nodup)(i j:Nat)(a:i≠j):nmF l i≠nmF l j:=by
 have hm:∀(l:List Nat) x,x∈l->x<=l.foldr max 0:=by
  intro l x hx
  induction l with
  |nil=>cases hx
  |cons y r b =>
   rcases fG.1 hx with rfl|hx
   .exact Nat.le_max_left _ _
   .exact iZ (b hx) (Nat.le_max_right _ _)
 unfold nmF;split<;>split
 .exact fun e=>a ((List.getElem_inj h).1 e)
 .have:=hm l _ (ji (by assumption:i<l.length));omega
 .have:=hm l _ (ji (by assumption:j<l.length));omega
 .omega
theorem Jh{ops:List Oper}{k:List Ka}{q:Prop}(l:List Nat)(a:List Ka)(hl:l.Nodup)(b:q)(he:a.map (Ka.ren (nmF l))=k)(h:qU ops a=true):qU ops k=true/\q:=⟨adB (nmF l) (amO hl) he h,b⟩
def nlA(x:V):Option V:=match x with | .ref b o=>some (.ref b o) | .el t k xs i o=>some (.el t k xs i o) | .fn f fs cs=>some (.fn f fs cs)|_=>none
theorem asT(P:Program)[Tb P](n0 i:Nat)(s:St)(d:Option Nat)(ty:TypeId)(pos:String)(a:Array Edge)(g:Option (Nat×Bool))(K:Ka->St->Prop)(x:Operand):jg P n0 i s ⟨d,.nilCheck x,ty,pos,a,g⟩ K=pU s d (nlA (s.ev x)) K:=rM _ _ _ _
theorem amM(b o:Nat):nlA (.ref b o)=some (.ref b o):=rfl
def alF:=pga
def xB:=aI @asT @amM
end Go.Pg
namespace Go.Proofs.YtopbmdnbdpjheaaGreat
open Go Go.Pg
def nmA(c:Int)(l:List Bd):List (List Nat):=(l.filter fun b=>gQ b.f b.t c).map (·.n)
def O6(c:Int)(l:List Bd)(i:Nat)(h:i<l.length):nmA c (l.take (i+1))=if gQ (l.getD i bd0).f (l.getD i bd0).t c=true then nmA c (l.take i)++[(l.getD i bd0).n]else nmA c (l.take i):=by unfold nmA;rw[mP h,gW,dY h,List.filter_append,nJ];by_cases a:gQ l[i].f l[i].t c=true<;>simp[a]
def Kq(c:Int)(l:List Bd):(nmA c l).length<=l.length:=by unfold nmA;rw[aj];exact List.length_filter_le _ _
abbrev ssV(l:List (List Nat)):List V:=l.map vs
def DL(l:List (List Nat))(i:Nat)(h:i<l.length):(ssV l)[i]?=some (vs (l.getD i [])):=by simp[h,List.getD]
def Y9(l:List (List Nat))(x:List Nat):ssV l++[vs x]=ssV (l++[x]):=Aa
def ww(c:Int)(l:List Bd):Prop:=∀i,i<l.length->gQ (l.getD i bd0).f (l.getD i bd0).t c=true->∀j,j<(nmA c (l.take i)).length->kl ((nmA c (l.take i)).getD j []) (l.getD i bd0).n=true
def U6(l:List Bd)(c:Int)(hl:l.length<=100000)(ha:ww c l):Gxx 112 [.sl .fz 4 (aS l),vi c] (.sl .fz 1 (ssV (nmA c l))):=by
 refine pR (zM (fun d=>bif d == 70 then true else false) [] mix) Tryz.func112 rfl Tryz.results112 rfl Za (fP Za) ?_;(repeat'(first|(simp(disch:=first|exact dqz|fail) only[pgz,simprocAttr,pgF])|(refine tS ?_ ?_<;>intro g)|(with_reducible refine cK ?_)));refine aJ (fun i:Nat=>mkA [(0,.sl .fz 4 (aS l)),(1,vi c),(5,.sl .fz 1 (ssV (nmA c (l.take i)))),(6,vi i)] [] 0 (fun _=>.top)) (fun i=>i<=l.length) (fun i=>l.length-i) 0 [] [] ?_ (ax _) ?_
 .exact kX;all_goals first|exact iT rfl|skip
 .rintro i hi;rcases au i l.length with h|x
  .have hg:=jZ l i h;have hx:=O6 c l i h;have j:=ha i h;have m:=Hf (l.getD i bd0).f (l.getD i bd0).t c;have hm:=Kq c (l.take i);rw[bI]at hm;generalize nmA c (l.take i)=o at *;generalize l.getD i bd0=b at *;cases r:gQ b.f b.t c
   .rw[r]at m hx;rw[ag Aa]at hx;subst hx;(repeat'(first|(simp(disch:=first|exact dqz|fail) only[pgz,simprocAttr,pgF,aj,hg])|((with_reducible show eX _ _ _ _ _ _);refine cU m ?_)|(refine tS ?_ ?_<;>intro g)|(with_reducible refine cK ?_)));exact bX (i+1) [] [] h
   .rw[r]at m hx;rw[ah rfl]at hx;have j:=j r;(repeat'(first|(simp(disch:=first|exact dqz|fail) only[pgz,simprocAttr,pgF,aj,hg])|((with_reducible show eX _ _ _ _ _ _);refine cU m ?_)|(refine tS ?_ ?_<;>intro g)|(with_reducible refine cK ?_)));refine aJ (fun k:Nat=>mkA [(0,.sl .fz 4 (aS l)),(1,vi c),(5,.sl .fz 1 (ssV o)),(6,vi i),(7,vi k)] [] 0 (fun _=>.top)) (fun k=>k<=o.length) (fun k=>o.length-k) 0 [] [] ?_ (ax _) ?_
    .exact kX
    .rintro k hk;rcases au k o.length with a|y
     .have q:=DL o k a;have j:=j k a;(repeat'(first|(simp(disch:=first|exact dqz|fail) only[pgz,simprocAttr,pgF,aj,hg,q,iO,j])|(refine tS ?_ ?_<;>intro g)|(with_reducible refine cK ?_)));exact bX (k+1) [] [] a
     .have:k=o.length:=Om;subst this;have f:=Y9 o b.n;rw[<-hx]at f;have u:Fits (ssV o).length 16:=by rw[aj];exact⟨by simp only[maxLen];omega,by omega⟩
      have n:Fits ((ssV o).length+1) 16:=by rw[aj];exact⟨by simp only[maxLen];omega,by omega⟩
      have p:Fits ((ssV (nmA c (l.take (i+1)))).length+([]:List V).length) 16:=by rw[hx,aj,aN];simp only[dB,o9];exact⟨by simp only[maxLen];omega,by omega⟩
      have v:Fits ((ssV (nmA c (l.take (i+1)))).length+0) 16:=p;have A:(ssV o).take o.length=ssV o:=oz Aa;have hd:(ssV o).drop o.length=[]:=BF Aa;have s:slV Tryz.prog 66 (.sl .fz 1 (ssV o)) none (some (vi o.length))=some (.sl .fz 1 (ssV o)):=by rw[QB _ _ _ _ _ _ Om Aa,ah Za,fC,A]
      have t:slV Tryz.prog 66 (.sl .fz 1 (ssV o)) (some (vi o.length)) none=some (.sl .fz 1 []):=by rw[Y3 _ _ _ _ _ _ Om Aa,ah Za,fC,hd]
      (repeat'(first|(simp(disch:=first|exact dqz|fail) only[pgz,simprocAttr,pgF,aj,hg,u,n,f,s,t,gV])|(refine tS ?_ ?_<;>intro g)|(with_reducible refine cK ?_)));refine abZ 0 ?_;exact bX (i+1) [] [] h
  .have:i=l.length:=Om;subst this;(repeat'(first|(simp(disch:=first|exact dqz|fail) only[pgz,simprocAttr,pgF,aj,gB])|(refine tS ?_ ?_<;>intro g)|(with_reducible refine cK ?_)));exact rE []
def vCh(l:List Vr):Prop:=∀i,i<l.length->(1<=(l.getD i vr0).f/\0<=(l.getD i vr0).t/\0<=(l.getD i vr0).z/\((l.getD i vr0).t=0\/(l.getD i vr0).f<(l.getD i vr0).t))/\(0<i->(l.getD (i-1) vr0).t≠0/\(l.getD (i-1) vr0).t<=(l.getD i vr0).f)
def Ve(l:List Vr)(hl:l.length<=1000000)(hv:vCh l):Gxx 218 [.sl .fz 4 (vrV l)] (vi 0):=by
 refine gI oW ?_;(repeat' first|refine wQ @aj.{0,0} ?_|refine tS ?_ ?_<;>intro a|fail);refine aJ (fun i:Nat=>mkA [(0,.sl .fz 4 (vrV l)),(3,vi i)] [] 0 (fun _=>.top)) (fun i=>i<=l.length) (fun i=>l.length-i) 0 [] [] ?_ (ax _) ?_
 .exact kX
 .rintro i hi;rcases au i l.length with h|g
  .have hg:=rX l i h;obtain⟨⟨h1,h2,h3,h4⟩,h5⟩:=hv i h;rcases gG i with d|d
   .subst d;rcases h4 with h4|h4
    ·(repeat' first|refine wQ (aI @aj.{0,0} @hg) ?_|refine tS ?_ ?_<;>intro a|fail);exact bX (0+1) [] [] h
    .have f:(l.getD 0 vr0).t≠0:=Om;(repeat' first|refine wQ (aI @aj.{0,0} @hg) ?_|refine tS ?_ ?_<;>intro a|fail);exact bX (0+1) [] [] h
   .have b:=rX l (i-1) Om;have c:((i:Int)-1).toNat=i-1:=Om;obtain⟨f,j⟩:=h5 d;rcases h4 with h4|h4
    ·(repeat' first|refine wQ (Ad @aj.{0,0} @hg c b) ?_|refine tS ?_ ?_<;>intro a|fail);exact bX (i+1) [] [] h
    .have k:(l.getD i vr0).t≠0:=Om;(repeat' first|refine wQ (Ad @aj.{0,0} @hg c b) ?_|refine tS ?_ ?_<;>intro a|fail);exact bX (i+1) [] [] h
  .have:i=l.length:=Om;subst this;(repeat' first|refine wQ @aj.{0,0} ?_|refine tS ?_ ?_<;>intro a|fail);exact rE []
def XL(l:List Vr)(hl:l.length<=1000000)(hv:vCh l):Gxx 216 [.sl .fz 4 (vrV l)] (vi 0):=by
 refine gI oW ?_;(repeat' first|refine wQ @aj.{0,0} ?_|refine tS ?_ ?_<;>intro a|fail);refine aJ (fun i:Nat=>mkA [(0,.sl .fz 4 (vrV l)),(5,.sl .fz 4 (vrV l)),(6,vi l.length),(7,vi i)] [] 0 (fun _=>.top)) (fun i=>i<=l.length) (fun i=>l.length-i) 0 [] [] ?_ (ax _) ?_
 .exact kX
 .rintro i hi;rcases au i l.length with h|g
  .have hg:=rX l i h;obtain⟨⟨h1,h2,h3,h4⟩,h5⟩:=hv i h;rcases gG i with d|d
   .subst d;rcases h4 with h4|h4
    ·(repeat' first|refine wQ (aI @aj.{0,0} @hg) ?_|refine tS ?_ ?_<;>intro a|fail);exact bX (0+1) [] [] h
    .have f:(l.getD 0 vr0).t≠0:=Om;(repeat' first|refine wQ (aI @aj.{0,0} @hg) ?_|refine tS ?_ ?_<;>intro a|fail);exact bX (0+1) [] [] h
   .have b:=rX l (i-1) Om;have c:((i:Int)-1).toNat=i-1:=Om;obtain⟨f,j⟩:=h5 d;rcases h4 with h4|h4
    ·(repeat' first|refine wQ (Ad @aj.{0,0} @hg c b) ?_|refine tS ?_ ?_<;>intro a|fail);exact bX (i+1) [] [] h
    .have k:(l.getD i vr0).t≠0:=Om;(repeat' first|refine wQ (Ad @aj.{0,0} @hg c b) ?_|refine tS ?_ ?_<;>intro a|fail);exact bX (i+1) [] [] h
  .have:i=l.length:=Om;subst this;(repeat' first|refine wQ @aj.{0,0} ?_|refine tS ?_ ?_<;>intro a|fail);exact rE []
abbrev obV(l:List (Int×List Vr)):List V:=l.map fun o=>.agg [vi o.1,.sl .fz 4 (vrV o.2)]
def Ib(l:List (Int×List Vr))(i:Nat)(h:i<l.length):(obV l)[i]?=some (.agg [vi (l.getD i (0,[])).1,.sl .fz 4 (vrV (l.getD i (0,[])).2)]):=by simp[h,List.getD]
def ixA{α:Type}(k:Int):List (Int×α)->Nat->Int
 |[],_ => -1
 |x::r,i=>if x.1=k then i else ixA k r (i+1)
def VZ{α:Type}(k:Int)(d:Int×α)(l:List (Int×α))(i:Nat)(h:i<l.length):ixA k (l.drop i) i=if(l.getD i d).1=k then(i:Int)else ixA k (l.drop (i+1)) (i+1):=by rw[zx h,gW,dY h];rfl
def Vk(l:List (Int×List Vr))(k:Int)(hl:l.length<=1000000):Gxx 183 [.sl .fz 2 (obV l),vi k] (vi (ixA k l 0)):=by
 generalize c:ixA k l 0=E;refine gI oW ?_;(repeat' first|refine wO ?_|refine tS ?_ ?_<;>intro a|fail);refine aJ (fun i:Nat=>mkA [(0,.sl .fz 2 (obV l)),(1,vi k),(5,vi i)] [] 0 (fun _=>.top)) (fun i=>i<=l.length/\ixA k (l.drop i) i=E) (fun i=>l.length-i) 0 [] [] ?_ ⟨ax _,c⟩ ?_
 .exact kX
 .rintro i ⟨hi,he⟩;rcases au i l.length with h|d
  .have hg:=Ib l i h;rw[VZ k (0,[]) l i h]at he;by_cases b:(l.getD i (0,[])).1=k
   .rw[ah b]at he;subst he;(repeat' first|refine wQ (Ac @aj.{0,0} @hg b) ?_|refine tS ?_ ?_<;>intro a|fail);exact rE []
   .rw[ag b]at he;(repeat' first|refine wQ (aI @aj.{0,0} @hg) ?_|refine tS ?_ ?_<;>intro a|fail);exact bX (i+1) [] [] ⟨h,he⟩
  .have:i=l.length:=Om;subst this;rw[jM]at he;have he : -1=E:=he;subst he;(repeat' first|refine wQ @aj.{0,0} ?_|refine tS ?_ ?_<;>intro a|fail);exact rE []
abbrev paV(l:List (Int×Int×List Nat)):List V:=l.map fun o=>.agg [vi o.1,vi o.2.1,.sl .fz 1 (bv o.2.2)]
def Ij(l:List (Int×Int×List Nat))(i:Nat)(h:i<l.length):(paV l)[i]?=some (.agg [vi (l.getD i (0,0,[])).1,vi (l.getD i (0,0,[])).2.1,.sl .fz 1 (bv (l.getD i (0,0,[])).2.2)]):=by simp[h,List.getD]
def Oc(c:Int)(l:List (Int×Int×List Nat))(k:Int)(hl:l.length<=1000000):Gxx 211 [.agg [vi c,.sl .fz 3 (paV l)],vi k] (vi (ixA k l 0)):=by
 generalize d:ixA k l 0=E;refine gI oW ?_;(repeat' first|refine wO ?_|refine tS ?_ ?_<;>intro a|fail);refine aJ (fun i:Nat=>mkA [(1,vi k),(2,.ref 0 0),(5,vi i)] [(0,(31,[vi c,.sl .fz 3 (paV l)]))] 1 (fun _=>.top)) (fun i=>i<=l.length/\ixA k (l.drop i) i=E) (fun i=>l.length-i) 0 [] [0] ?_ ⟨ax _,d⟩ ?_
 .exact kX
 .rintro i ⟨hi,he⟩;rcases au i l.length with h|f
  .have hg:=Ij l i h;rw[VZ k (0,0,[]) l i h]at he;by_cases b:(l.getD i (0,0,[])).1=k
   .rw[ah b]at he;subst he;(repeat' first|refine wQ (Ac @aj.{0,0} @hg b) ?_|refine tS ?_ ?_<;>intro a|fail);exact rE []
   .rw[ag b]at he;(repeat' first|refine wQ (aI @aj.{0,0} @hg) ?_|refine tS ?_ ?_<;>intro a|fail);exact bX (i+1) [] [0] ⟨h,he⟩
  .have:i=l.length:=Om;subst this;rw[jM]at he;have he : -1=E:=he;subst he;(repeat' first|refine wQ @aj.{0,0} ?_|refine tS ?_ ?_<;>intro a|fail);exact rE []
def ag6(c:Int)(l:List (Int×Int×List Nat))(k:Int)(hl:l.length<=1000000)(i:Nat)(hi:i<l.length)(hx:ixA k l 0=i)(f:(l.getD i (0,0,[])).2.2.length<=1048576):Gxx 185 [.agg [vi c,.sl .fz 3 (paV l)],vi k] (.tup [.sl (.own 0 5) 1 (bv (l.getD i (0,0,[])).2.2),vi 0]):=by
 have a:=Oc c l k hl;rw[hx]at a;have hg:=Ij l i hi;generalize(l.getD i (0,0,[])).2.2=d at *;have h:Fits (bv d).length 1:=by rw[aA];exact⟨by simp only[maxLen];omega,by omega⟩
 refine gI oW ?_;(repeat' first|refine wP (Ac @aj.{0,0} @hg h) a ?_|refine tS ?_ ?_<;>intro b|fail);exact rE [1]
abbrev Pa:=Int×Int×List Nat
def ltA(x y:Pa):Bool:=decide (x.1<y.1)
def jH(x:Pa)(l:List Pa):List Pa:=(fH ltA x l.reverse).reverse
def X3(l:List Pa)(i:Nat)(x:Pa):(paV l).set i (.agg [vi x.1,vi x.2.1,.sl .fz 1 (bv x.2.2)])=paV (l.set i x):=by simp[zB]
def UW(c:Int)(l:List Pa)(d:List Nat)(n:Nat)(hl:l.length<=100000)(hd:d.length<=1024)(g:(l.length:Int)<c)(N:1<=n)(h1:∀m:Nat,1<=m->m<n->0<=ixA (m:Int) l 0)(h2:ixA (n:Int) l 0<0)(U:n<=1000000) :
  Gxx 114 [.agg [vi c,.sl .fz 3 (paV l)],.sl .fz 1 (bv d)] (.tup [.agg [vi c,.sl (.own 0 224) 3 (paV (jH (n,1,d) l))],vi n,vi 0]):=by
 generalize P:jH (n,1,d) l=E
 refine gI (fJ [] mix) ?_
 (repeat' first|refine wU (Ac @pgE @aj.{0,0} @aA) ?_|refine tE ?_ ?_<;>intro g|fail)
 refine aJ (fun m:Nat=>mkA [(1,.sl .fz 1 (bv d)),(2,.ref 0 0),(4,.ref 1 0),(7,vi m)] [(0,(31,[vi c,.sl .fz 3 (paV l)])),(1,(31,[vi 0,.c (.slice none 0 0)]))] 2 (fun _=>.top)) (fun m=>1<=m/\m<=n) (fun m=>n-m) 1 [] [0,1] ?_ ⟨az _,N⟩ ?_
 .exact kX
 .rintro m ⟨hm,R⟩;have L:=Oc c l m Om;rcases au m n with F|Q
  .have h3:=h1 m hm F;(repeat' first|refine wEX @pgE L ?_|refine tE ?_ ?_<;>intro g|fail);exact bX (m+1) [] [0,1] ⟨by omega,F⟩
  .have:m=n:=Om;subst this;have K:Fits (bv d).length 1:=by rw[aA];exact⟨by simp only[maxLen];omega,by omega⟩
   have k:Fits (paV l).length 40:=by rw[aj];exact⟨by simp only[maxLen];omega,by omega⟩
   have q:Fits ((paV l).length+1) 40:=by rw[aj];exact⟨by simp only[maxLen];omega,by omega⟩
   have M:(paV l)++[V.agg [vi m,vi 1,.sl .fz 1 (bv d)]]=paV (mov l.reverse ((m:Int),1,d) []):=by rw[<-WW];simp
   have I:(paV (mov l.reverse ((m:Int),1,d) [])).length=l.length+1:=by rw[aj,AO];simp
   (repeat' first|refine wEX (Ad @pgE K k q) L ?_|refine tE ?_ ?_<;>intro g|fail);refine zt mix (fun d=>bif d == 36 then true else false) [2] ?_;(repeat'(first|(simp(disch:=first|exact dqz|fail) only[pgz,simprocAttr,pgE,pgF,id_eq.{1},K,k,q,M,I])|(refine tE ?_ ?_<;>intro g)|(with_reducible refine sQ ?_)|(refine mM _ _ _ _ _ ?_)|(with_reducible refine cK ?_)));generalize hx:(((m:Int),1,d):Pa)=x at *;have S:x.1=m:=by rw[<-hx]
   refine aJ (fun y:List Pa×List Pa=>mkA [(2,.ref 0 0),(4,.ref 1 0),(7,vi m),(9,.sl (.own 0 224) 3 (paV (mov y.1 x y.2))),(10,vi y.1.length)] [(0,(31,[vi c,.sl .fz 3 (paV l)])),(1,(31,[vi 0,.c (.slice none 0 0)]))] 2 (fun _=>.top)) (fun y=>y.1.length+y.2.length=l.length/\(fH ltA x y.1).reverse++y.2=E) (fun y=>y.1.length) (l.reverse,[]) [4] [0,1] ?_ ⟨by simp,by simp;exact P⟩ ?_
   ·(refine kM ?_ ?_;(repeat'(first|exact ae|refine dQ _ _ rfl rfl ?_ ?_));all_goals(try simp only[pgm,simprocAttr]);all_goals(try(repeat' apply aI));all_goals(try exact gz));all_goals first|exact eF (by simp only[Rq];omega)|skip
   .rintro⟨p,t⟩ ⟨i,h⟩;simp only at i h;have b:=AO p x t;have a:(paV (mov p x t)).length=l.length+1:=by rw[aj,b];omega
    cases p with
    |nil =>rw[AL ltA [] x t (.inl rfl)]at h;subst h;(repeat' first|refine wU (aI @pgE a) ?_|refine tE ?_ ?_<;>intro g|fail);exact rE [0]
    |cons y p =>
     have H:=Ij (mov (y::p) x t) (p.length+1) (by rw[b];simp only[dB];omega);have G:=Ij (mov (y::p) x t) p.length (by rw[b];simp only[dB];omega);have T:(mov (y::p) x t).getD (p.length+1) (0,0,[])=x:=J6 (y::p) x t _;rw[T]at H;rw[J7]at G;have u:(((y::p).length:Nat):Int)=(p.length:Int)+1:=Aa;have v:((p.length:Int)+1).toNat=p.length+1:=Om;have A:((p.length:Int)+1-1)=(p.length:Int):=Om;by_cases r:x.1<y.1
     .rw[H8 ltA y p x t (by simp[ltA,r])]at h;have J:=J8 y p x t;have f:(paV (mov (y::p) x t)).set (p.length+1) (V.agg [vi y.1,vi y.2.1,.sl .fz 1 (bv y.2.2)])=paV ((mov (y::p) x t).set (p.length+1) y):=X3 _ _ _;have j:(paV ((mov (y::p) x t).set (p.length+1) y)).set p.length (V.agg [vi x.1,vi x.2.1,.sl .fz 1 (bv x.2.2)])=paV (mov p x (y::t)):=by rw[X3];exact mV paV J
      have C:(paV ((mov (y::p) x t).set (p.length+1) y)).length=l.length+1:=by rw[aj,nI,b];simp only[dB]at i⊢;omega
      have s:(paV ((mov (y::p) x t).set (p.length+1) y))[p.length]?=some (V.agg [vi y.1,vi y.2.1,.sl .fz 1 (bv y.2.2)]):=by rw[<-f,L6 Om,G]
      generalize(mov (y::p) x t).set (p.length+1) y=W at f j C s;(repeat' first|refine wU (A8 @pgE u v A a H G f (Ac j C s)) ?_|refine tE ?_ ?_<;>intro g|fail);refine dn (p,y::t) [0] [0,1] ⟨by simp only[dB]at i⊢;omega,h⟩ (by show p.length<(y::p).length;simp) ?_;(refine kM ?_ ?_;(repeat'(first|exact ae|refine dQ _ _ rfl rfl ?_ ?_));all_goals(try simp only[pgm,simprocAttr]);all_goals(try(repeat' apply aI));all_goals(try exact gz));all_goals(simp only[pgo,f,j];first|exact ae|exact fE rfl rfl)
     .rw[AL ltA (y::p) x t (.inr ⟨y,p,rfl,by simp[ltA,r]⟩)]at h;subst h;(repeat' first|refine wU (Ag @pgE u v A a H G) ?_|refine tE ?_ ?_<;>intro g|fail);exact rE [0]
def nT(i:Nat)(l:List Pa):List Pa:=l.set i ((l.getD i (0,0,[])).1,(l.getD i (0,0,[])).2.1+1,(l.getD i (0,0,[])).2.2)
def ahz(c:Int)(l:List Pa)(n:Int)(i:Nat)(hl:l.length<=100000)(hi:i<l.length)(hx:ixA n l 0=i)(h1:0<=(l.getD i (0,0,[])).2.1/\(l.getD i (0,0,[])).2.1<=1000000000):Gxx 120 [.agg [vi c,.sl .fz 3 (paV l)],vi n] (.tup [.agg [vi c,.sl (.own 0 224) 3 (paV (nT i l))],vi 0]):=by
 have k:=Oc c l n Om;rw[hx]at k;have hg:=Ij l i hi;have h:Fits (paV l).length 40:=by rw[aj];exact⟨by simp only[maxLen];omega,by omega⟩
 have a:(paV l).set i (.agg [vi (l.getD i (0,0,[])).1,vi ((l.getD i (0,0,[])).2.1+1),.sl .fz 1 (bv (l.getD i (0,0,[])).2.2)])=paV (nT i l):=by simp[nT,zB]
 refine gI oW ?_;(repeat' first|refine wP (Ad @aj.{0,0} @hg h a) k ?_|refine tS ?_ ?_<;>intro b|fail);exact rE [2]
def cvB(l:List Nat)(s:St)(d:Option Nat)(K:Kd->St->Prop):zL Tryz.prog s d 60 9 (.sl .fz 1 (bv l)) K=K (kq [.sl .fz 1 (bv l)] (vs l)) (s.put d (vs l)):=x8 (P:=Tryz.prog) s d 60 9 .fz l K Za Za Za Za
def shA(o w:List (List Nat))(n:Nat):List Bool:=(List.range n).map fun i=>decide (i<o.length)&&decide (sB (o.getD i [])=sB (w.getD i []))
def KZ(o w:List (List Nat))(n:Nat)(b:Bool)(h:b=(decide (n<o.length)&&decide (sB (o.getD n [])=sB (w.getD n [])))):(shA o w n).map vb++[vb b]=(shA o w (n+1)).map vb:=by simp[shA,BI,h]
def AY(l:List (List Nat))(i:Nat)(h:i<l.length):(pgV l)[i]?=some (.sl .fz 1 (bv (l.getD i []))):=by simp[h,List.getD]
def ah5(o w:List (List Nat))(hl:o.length<=100000)(k:w.length<=100000)(ho:∀i,(o.getD i []).length<=1048576)(j:∀i,(w.getD i []).length<=1048576):Gxx 119 [.sl .fz 1 (pgV o),.sl .fz 1 (pgV w)] (.sl (.own 0 4) 1 ((shA o w w.length).map vb)):=by
 refine gI oW ?_;(repeat' first|refine wO ?_|refine tS ?_ ?_<;>intro b|fail);refine aJ (fun i:Nat=>mkA [(0,.sl .fz 1 (pgV o)),(1,.sl .fz 1 (pgV w)),(5,.sl (.own 0 4) 1 ((shA o w i).map vb)),(6,vi i)] [] 1 (fun _=>.top)) (fun i=>i<=w.length) (fun i=>w.length-i) 0 [] [] ?_ (ax _) ?_
 .exact kX;all_goals first|exact iT rfl|skip
 .rintro i hi;rcases au i w.length with a|g
  .have hg:=AY w i a;have f:Fits (((shA o w i).map vb).length+1) 1:=by rw[aj,shA,aj,List.length_range];exact⟨by simp only[maxLen];omega,by omega⟩
   rcases au i o.length with h1|h1
   .have c:=AY o i h1;have d:=KZ o w i (decide (sB (o.getD i [])=sB (w.getD i []))) (by simp[h1]);(repeat' first|refine wQ (Af @aj.{0,0} @hg c f d @cvB) ?_|refine tS ?_ ?_<;>intro b|fail);exact bX (i+1) [0] [] a
   .have d:=KZ o w i false (by simp;intro h;omega);(repeat' first|refine wQ (Ad @aj.{0,0} @hg f d) ?_|refine tS ?_ ?_<;>intro b|fail);exact bX (i+1) [0] [] a
  .have:i=w.length:=Om;subst this;(repeat' first|refine wQ @aj.{0,0} ?_|refine tS ?_ ?_<;>intro b|fail);exact rE [0]
theorem Aq{α:Type}(k:Int):∀(l:List (Int×α)) (i:Nat),(k∈l.map (·.1)->0<=ixA k l i)/\(k∉l.map (·.1)->ixA k l i = -1)
 |[],i=>⟨(fun h=>by cases h),fun _=>rfl⟩
 |x::r,i=>by have a:=Aq k r (i+1);grind[ixA]
def pig(n:Nat):∀l:List Int,(∀m:Nat,1<=m->m<=n->(m:Int)∈l)->n<=l.length:=by
 induction n with
 |zero=>intro l _;omega
 |succ n i =>intro l h;have h2:=i (l.erase ((n+1:Nat):Int)) (fun m hm a=>(List.mem_erase_of_ne Om).2 (h m hm Om));grind
def frN(l:List Int):Nat->Nat->Nat
 |0,n=>n
 |f+1,n=>if(n:Int)∈l then frN l f (n+1)else n
def UC(l:List Int):∀(f n:Nat),1<=n->(∀m:Nat,1<=m->m<n->(m:Int)∈l)->l.length<n+f->n<=frN l f n/\(∀m:Nat,1<=m->m<frN l f n->(m:Int)∈l)/\((frN l f n:Nat):Int)∉l
 |0,n,h1,h,hf=>by
  refine⟨az _,h,fun hm => ?_⟩
  have:=pig n l (fun m a b=>by
   rcases au m n with h2|h2
   .grind
   .have:m=n:=Om;subst this;exact hm)
  omega
 |f+1,n,h1,h,hf=>by
  unfold frN;by_cases q:(n:Int)∈l
  .obtain⟨h2,h3⟩:=UC l f (n+1) Om (fun m a b=>by
    rcases au m n with h2|h2
    .grind
    .have:m=n:=Om;subst this;exact q) Om
   grind
  .grind
def alN(pa:List Pa):Nat:=frN (pa.map (·.1)) (pa.length+1) 1
def I9(pa:List Pa):1<=alN pa/\(∀m:Nat,1<=m->m<alN pa->0<=ixA (m:Int) pa 0)/\ixA ((alN pa:Nat):Int) pa 0<0/\alN pa<=pa.length+1:=by
 obtain⟨h1,h2,h3⟩:=UC (pa.map (·.1)) (pa.length+1) 1 (az _) (fun m a b=>by omega) (by rw[aj];omega);refine⟨h1,fun m a b=>(Aq _ _ _).1 (h2 m a b),?_,?_⟩
 .grind[Aq,alN]
 .have:=pig (alN pa-1) (pa.map (·.1)) (fun m a b=>h2 m a (by unfold alN at b;omega));grind
theorem OE(x:Pa)(l:List Pa):(jH x l).length=l.length+1:=by simp[jH,BQ]
def alS(pa:List Pa)(ps:List (List Nat)):Nat->List Pa×List Int
 |0=>(pa,[])
 |n+1=>(jH ((alN (alS pa ps n).1:Nat),1,ps.getD n []) (alS pa ps n).1,(alS pa ps n).2++[((alN (alS pa ps n).1:Nat):Int)])
def MI(pa:List Pa)(ps:List (List Nat))(n:Nat):(alS pa ps n).1.length=pa.length+n/\(alS pa ps n).2.length=n:=by induction n<;>grind[alS,OE]
abbrev pnV(l:List (Int×Int)):List V:=l.map fun p=>.agg [vi p.1,vi p.2]
def qE(l:List (Int×Int))(i:Nat)(h:i<l.length):(pnV l)[i]?=some (.agg [vi (l.getD i (0,0)).1,vi (l.getD i (0,0)).2]):=by simp[h,List.getD]
def vPn(l:List (Int×Int)):Prop:=∀i,i<l.length->(0<=(l.getD i (0,0)).1/\1<=(l.getD i (0,0)).2/\(l.getD i (0,0)).2<=1024)/\(0<i->(l.getD (i-1) (0,0)).1<(l.getD i (0,0)).1)
def aid(l:List (Int×Int))(hl:l.length<=1000000)(hv:vPn l):Gxx 191 [.sl .fz 2 (pnV l)] (vi 0):=by
 refine gI oW ?_;(repeat' first|refine wO ?_|refine tS ?_ ?_<;>intro b|fail);refine aJ (fun i:Nat=>mkA [(0,.sl .fz 2 (pnV l)),(3,vi i)] [] 0 (fun _=>.top)) (fun i=>i<=l.length) (fun i=>l.length-i) 0 [] [] ?_ (ax _) ?_
 .exact kX
 .rintro i hi;rcases au i l.length with h|f
  .have hg:=qE l i h;obtain⟨⟨h1,h2,h3⟩,h4⟩:=hv i h;rcases gG i with a|a
   .subst a;(repeat' first|refine wQ (aI @aj.{0,0} @hg) ?_|refine tS ?_ ?_<;>intro b|fail);exact bX (0+1) [] [] h
   .have c:=qE l (i-1) Om;have d:((i:Int)-1).toNat=i-1:=Om;have h5:=h4 a;(repeat' first|refine wQ (Ad @aj.{0,0} @hg d c) ?_|refine tS ?_ ?_<;>intro b|fail);exact bX (i+1) [] [] h
  .have:i=l.length:=Om;subst this;(repeat' first|refine wQ @aj.{0,0} ?_|refine tS ?_ ?_<;>intro b|fail);exact rE []
def XM(l:List (Int×Int))(hl:l.length<=1000000)(hv:vPn l):Gxx 178 [.sl .fz 2 (pnV l)] (vi 0):=by
 refine gI oW ?_;(repeat' first|refine wQ @aj.{0,0} ?_|refine tS ?_ ?_<;>intro b|fail);refine aJ (fun i:Nat=>mkA [(0,.sl .fz 2 (pnV l)),(5,.sl .fz 2 (pnV l)),(6,vi l.length),(7,vi i)] [] 0 (fun _=>.top)) (fun i=>i<=l.length) (fun i=>l.length-i) 0 [] [] ?_ (ax _) ?_
 .exact kX
 .rintro i hi;rcases au i l.length with h|f
  .have hg:=qE l i h;obtain⟨⟨h1,h2,h3⟩,h4⟩:=hv i h;rcases gG i with a|a
   .subst a;(repeat' first|refine wQ (aI @aj.{0,0} @hg) ?_|refine tS ?_ ?_<;>intro b|fail);exact bX (0+1) [] [] h
   .have c:=qE l (i-1) Om;have d:((i:Int)-1).toNat=i-1:=Om;have h5:=h4 a;(repeat' first|refine wQ (Ad @aj.{0,0} @hg d c) ?_|refine tS ?_ ?_<;>intro b|fail);exact bX (i+1) [] [] h
  .have:i=l.length:=Om;subst this;(repeat' first|refine wQ @aj.{0,0} ?_|refine tS ?_ ?_<;>intro b|fail);exact rE []
def sumP(l:List (Int×Int)):Nat->Int
 |0=>0
 |i+1=>sumP l i+(l.getD i (0,0)).2
theorem QL(l:List (Int×Int))(hv:vPn l):∀i,i<=l.length->0<=sumP l i/\sumP l i<=1024*i
 |0,_=>by simp[sumP]
 |i+1,h=>by have a:=QL l hv i Om;have h1:=(hv i Om).1;have e:sumP l (i+1)=sumP l i+(l.getD i (0,0)).2:=rfl;omega
def aoy(l:List (Int×Int))(hl:l.length<=1000000)(hv:vPn l):Gxx 129 [.sl .fz 2 (pnV l)] (vi (sumP l l.length)):=by
 refine gI oW ?_;(repeat' first|refine wQ @aj.{0,0} ?_|refine tS ?_ ?_<;>intro a|fail);refine aJ (fun i:Nat=>mkA [(3,vi (sumP l i)),(6,.sl .fz 2 (pnV l)),(7,vi l.length),(8,vi i)] [] 0 (fun _=>.top)) (fun i=>i<=l.length) (fun i=>l.length-i) 0 [] [] ?_ (ax _) ?_
 .exact kX
 .rintro i hi;have g:=QL l hv i hi;rcases au i l.length with h|f
  .have hg:=qE l i h;obtain⟨⟨h1,h2,h3⟩,h4⟩:=hv i h;have e:sumP l (i+1)=sumP l i+(l.getD i (0,0)).2:=rfl;have b:max (l.getD i (0,0)).2 0=(l.getD i (0,0)).2:=Om;have c:min (l.getD i (0,0)).2 1099511627776=(l.getD i (0,0)).2:=Om;have d:min (sumP l i+(l.getD i (0,0)).2) 1099511627776=sumP l (i+1):=Om;(repeat' first|refine wQ (Ae @aj.{0,0} @hg b c d) ?_|refine tS ?_ ?_<;>intro a|fail);exact bX (i+1) [] [] h
  .have:i=l.length:=Om;subst this;(repeat' first|refine wQ @aj.{0,0} ?_|refine tS ?_ ?_<;>intro a|fail);exact rE []
def Vb(l:List (Int×Int))(hl:l.length<=1000000)(hv:vPn l):Gxx 95 [.sl .fz 2 (pnV l)] (vi (sumP l l.length)):=by
 refine gI oW ?_;(repeat' first|refine wO ?_|refine tS ?_ ?_<;>intro a|fail);refine aJ (fun i:Nat=>mkA [(0,.sl .fz 2 (pnV l)),(3,vi (sumP l i)),(4,vi i)] [] 0 (fun _=>.top)) (fun i=>i<=l.length) (fun i=>l.length-i) 0 [] [] ?_ (ax _) ?_
 .exact kX
 .rintro i hi;have g:=QL l hv i hi;rcases au i l.length with h|c
  .have hg:=qE l i h;obtain⟨⟨h1,h2,h3⟩,h4⟩:=hv i h;have e:sumP l (i+1)=sumP l i+(l.getD i (0,0)).2:=rfl;have k:=Ha (sumP l i) (l.getD i (0,0)).2 1099511627776 dX (by unfold W64;omega) (by unfold W64;omega)
   have b:lC (sumP l i) (l.getD i (0,0)).2 1099511627776=(sumP l (i+1),false):=by
    have n:gq (sumP l i)=sumP l i:=by unfold gq;omega
    have d:gq (l.getD i (0,0)).2=(l.getD i (0,0)).2:=by unfold gq;omega
    have f:gq 1099511627776=1099511627776:=dX;unfold lC;rw[n,d,f,ag Om,e]
   rw[b]at k;(repeat' first|refine wP (aI @aj.{0,0} @hg) k ?_|refine tS ?_ ?_<;>intro a|fail);exact bX (i+1) [] [] h
  .have:i=l.length:=Om;subst this;(repeat' first|refine wQ @aj.{0,0} ?_|refine tS ?_ ?_<;>intro a|fail);exact rE []
def fQ(c:Int):List (Int×Int)->List (Int×Int)
 |[]=>[(c,1)]
 |p::r=>if c<p.1 then(c,1)::p::r else if c=p.1 then(p.1,p.2+1)::r else p::fQ c r
def Gx(c:Int)(d:Bool)(l:List (Int×Int)):List (Int×Int):=if d=true then l else fQ c l
def Il(l:List (Int×Int))(a b:Int):pnV l++[.agg [vi a,vi b]]=pnV (l++[(a,b)]):=Aa
def agW(l:List (Int×Int))(c:Int)(hl:l.length<=100000)(hv:vPn l)(b:0<=c)(hf:∀i,i<l.length->(l.getD i (0,0)).2<1024):Gxx 96 [.sl .fz 2 (pnV l),vi c] (.tup [.sl (.own 0 145) 2 (pnV (fQ c l)),vi 0]):=by
 have u:=aid l Om hv;generalize t:fQ c l=E;refine gI oW ?_;(repeat' first|refine wP ae u ?_|refine tS ?_ ?_<;>intro b|fail);refine aJ (fun i:Nat=>mkA [(0,.sl .fz 2 (pnV l)),(1,vi c),(7,vi i)] [] 0 (fun _=>.top)) (fun i=>i<=l.length) (fun i=>l.length-i) 0 [] [] ?_ (ax _) ?_
 .exact kX
 .rintro i hi;rcases au i l.length with a|n
  .have hg:=qE l i a;have h1:=hf i a;by_cases p:(l.getD i (0,0)).1=c
   ·(repeat' first|refine wQ (Ac @aj.{0,0} @hg p) ?_|refine tS ?_ ?_<;>intro b|fail);exact bX (i+1) [] [] a
   ·(repeat' first|refine wQ (Ac @aj.{0,0} @hg p) ?_|refine tS ?_ ?_<;>intro b|fail);exact bX (i+1) [] [] a
  .have:i=l.length:=Om;subst this;(repeat' first|refine wQ @aj.{0,0} ?_|refine tS ?_ ?_<;>intro b|fail);refine aJ (fun s:Nat×Bool×List (Int×Int)=>mkA [(0,.sl .fz 2 (pnV l)),(1,vi c),(8,.sl (.own 0 145) 2 (pnV s.2.2)),(9,vb s.2.1),(10,vi s.1)] [] 1 (fun _=>.top)) (fun s=>s.1<=l.length/\(s.2.2.length<=s.1+1/\(s.2.1=false->s.2.2.length<=s.1))/\s.2.2++Gx c s.2.1 (l.drop s.1)=E) (fun s=>l.length-s.1) (0,false,[]) [] [] ?_ ⟨ax _,⟨ax _,fun _=>az _⟩,t⟩ ?_
   .exact kX;all_goals first|exact iT rfl|skip
   .rintro⟨i,d,o⟩ ⟨hi,⟨ho,f⟩,he⟩;simp only at hi ho f he;rcases au i l.length with a|n
    .have hg:=qE l i a;have h1:=(hv i a).1;rw[ET l i (0,0) a]at he;generalize l.getD i (0,0)=y at *;obtain⟨j,k⟩:=y;simp only at hg he h1;have g:Fits ((pnV o).length+1) 16:=by rw[aj];exact⟨by simp only[maxLen];omega,by omega⟩
     have m:Fits ((pnV (o++[(c,1)])).length+1) 16:=by rw[aj,aN];simp only[dB,o9];exact⟨by simp only[maxLen];omega,by omega⟩
     cases d
     .have f:=f rfl;by_cases q:c<j
      ·(repeat' first|refine wQ (Ae @aj.{0,0} @hg @Il g m) ?_|refine tS ?_ ?_<;>intro b|fail);refine dn (i+1,true,o++[(c,1)]++[(j,k)]) [0] [0] ⟨a,⟨by simp;omega,fun h=>by cases h⟩,by rw[<-he];simp[Gx,fQ,q]⟩ (by show l.length-(i+1)<l.length-i;omega) ?_;(refine kM ?_ ?_;(repeat'(first|exact ae|refine dQ _ _ rfl rfl ?_ ?_));all_goals(try simp only[pgm,simprocAttr]);all_goals(try(repeat' apply aI));all_goals(try exact gz))
      .by_cases r:c=j
       .subst r;(repeat' first|refine wQ (Ad @aj.{0,0} @hg @Il g) ?_|refine tS ?_ ?_<;>intro b|fail);refine dn (i+1,true,o++[(c,k+1)]) [0] [0] ⟨a,⟨by simp;omega,fun h=>by cases h⟩,by rw[<-he];simp[Gx,fQ]⟩ (by show l.length-(i+1)<l.length-i;omega) ?_;(refine kM ?_ ?_;(repeat'(first|exact ae|refine dQ _ _ rfl rfl ?_ ?_));all_goals(try simp only[pgm,simprocAttr]);all_goals(try(repeat' apply aI));all_goals(try exact gz))
       ·(repeat' first|refine wQ (Ad @aj.{0,0} @hg @Il g) ?_|refine tS ?_ ?_<;>intro b|fail);refine dn (i+1,false,o++[(j,k)]) [0] [0] ⟨a,⟨by simp;omega,fun _=>by simp;omega⟩,by rw[<-he];simp[Gx,fQ,q,r]⟩ (by show l.length-(i+1)<l.length-i;omega) ?_;(refine kM ?_ ?_;(repeat'(first|exact ae|refine dQ _ _ rfl rfl ?_ ?_));all_goals(try simp only[pgm,simprocAttr]);all_goals(try(repeat' apply aI));all_goals(try exact gz))
     ·(repeat' first|refine wQ (Ad @aj.{0,0} @hg @Il g) ?_|refine tS ?_ ?_<;>intro b|fail);refine dn (i+1,true,o++[(j,k)]) [0] [0] ⟨a,⟨by simp;omega,fun h=>by cases h⟩,by rw[<-he];simp[Gx]⟩ (by show l.length-(i+1)<l.length-i;omega) ?_;(refine kM ?_ ?_;(repeat'(first|exact ae|refine dQ _ _ rfl rfl ?_ ?_));all_goals(try simp only[pgm,simprocAttr]);all_goals(try(repeat' apply aI));all_goals(try exact gz))
    .have:i=l.length:=Om;subst this;rw[jM]at he;have g:Fits ((pnV o).length+1) 16:=by rw[aj];exact⟨by simp only[maxLen];omega,by omega⟩
     cases d
     .have he:o++[(c,1)]=E:=he;subst he;(repeat' first|refine wQ (Ac @aj.{0,0} @Il g) ?_|refine tS ?_ ?_<;>intro b|fail);exact rE [0]
     .have he:o++[]=E:=he;rw[gV]at he;subst he;(repeat' first|refine wQ @aj.{0,0} ?_|refine tS ?_ ?_<;>intro b|fail);exact rE [0]
structure Cf where
 se:Int
 na:Int
 pg:Int
 z:Int
 pn:Int
 cm:Int
 ch:Int
abbrev cfF(c:Cf):List V:=[vi c.se,vi c.na,vi c.pg,vi c.z,vi c.pn,vi c.cm,vi c.ch]
structure Sto where
 c:Cf
 m:Int
 la:Int
 ob:List (Int × List Vr)
 bi:List Bd
 pi:List (Int × Int)
 pa:List Pa
abbrev stF(s:Sto):List V:=[vi s.c.se,vi s.c.na,vi s.c.pg,vi s.c.z,vi s.c.pn,vi s.c.cm,vi s.c.ch,vi s.m,vi s.la,.sl .fz 2 (obV s.ob),.sl .fz 4 (aS s.bi),.sl .fz 2 (pnV s.pi),vi s.c.pg,.sl .fz 3 (paV s.pa)]
structure Sml (s:Sto):Prop where
 ob:s.ob.length<=100000
 bi:s.bi.length<=100000
 pi:s.pi.length<=100000
 pa:s.pa.length<=100000
 ch:∀o∈s.ob,o.2.length<=100000
def NV(s:Sto):Gxx 113 [.agg (stF s)] (vi s.pa.length):=by obtain⟨⟨c1,c,a,b,d,f,g⟩,m,la,ob,bi,pi,pa⟩:=s;refine gI oW ?_;(repeat' first|refine wQ @aj.{0,0} ?_|refine tS ?_ ?_<;>intro h|fail);exact rE []
def EJ(s:Sto)(h:Sml s)(k:List Nat):Gxx 111 [.agg (stF s),vs k] (vb (lkA k s.m s.bi).2):=by have a:=NW s.bi k s.m (by have:=h.bi;omega);obtain⟨⟨c1,c,b,d,f,g,i⟩,m,la,ob,bi,pi,pa⟩:=s;refine gI oW ?_;(repeat' first|refine wP ae a ?_|refine tS ?_ ?_<;>intro j|fail);exact rE []
def pnB(c:Int):List (Int×Int)->Bool
 |[]=>false
 |p::r=>if p.1=c then true else pnB c r
def aip(s:Sto)(r:Sml s)(c:Int):Gxx 181 [.agg (stF s),vi c] (vb (pnB c s.pi)):=by
 have hl:=r.pi;obtain⟨⟨c1,d,f,g,j,k,n⟩,m,la,ob,bi,l,pa⟩:=s;simp only at hl;generalize p:pnB c l=E;refine gI oW ?_;(repeat' first|refine wO ?_|refine tS ?_ ?_<;>intro a|fail);refine aJ (fun i:Nat=>mkA [(1,vi c),(2,.ref 0 0),(5,vi i)] [(0,(33,stF ⟨⟨c1,d,f,g,j,k,n⟩,m,la,ob,bi,l,pa⟩))] 1 (fun _=>.top)) (fun i=>i<=l.length/\pnB c (l.drop i)=E) (fun i=>l.length-i) 0 [] [0] ?_ ⟨ax _,p⟩ ?_
 .exact kX
 .rintro i ⟨hi,he⟩;rcases au i l.length with h|q
  .have hg:=qE l i h;rw[ET l i (0,0) h]at he;unfold pnB at he;by_cases b:(l.getD i (0,0)).1=c
   .rw[ah b]at he;subst he;(repeat' first|refine wQ (Ac @aj.{0,0} @hg b) ?_|refine tS ?_ ?_<;>intro a|fail);exact rE []
   .rw[ag b]at he;(repeat' first|refine wQ (aI @aj.{0,0} @hg) ?_|refine tS ?_ ?_<;>intro a|fail);exact bX (i+1) [] [0] ⟨h,he⟩
  .have:i=l.length:=Om;subst this;rw[jM]at he;subst he;(repeat' first|refine wQ @aj.{0,0} ?_|refine tS ?_ ?_<;>intro a|fail);exact rE []
def Vp(a b c:Int):Gxx 154 [vi a,vi b,vi c] (vb (decide (b<=a)&&decide (a<=c))):=by
 by_cases h1:b<=a
 .simp only[h1,decide_true,qi];refine gI oW ?_;(repeat' first|refine wO ?_|refine tS ?_ ?_<;>intro h|fail);exact rE []
 .simp only[h1,decide_false,nH];refine gI oW ?_;(repeat' first|refine wO ?_|refine tS ?_ ?_<;>intro h|fail);exact rE []
def nG(s:Sto)(c:Int):Int:=if 0<=c/\c<=s.m then(if c=s.m\/pnB c s.pi=true then 0 else 17)else 5
def Ho(s:Sto)(b:Sml s)(c:Int):Gxx 83 [.agg (stF s),vi c] (vi (nG s c)):=by
 have k:=Vp c 0 s.m;have k2:=aip s b c;unfold nG;obtain⟨⟨c1,d,f,g,i,j,n⟩,m,la,ob,bi,l,pa⟩:=s;simp only at k k2⊢;by_cases h1:0<=c
 .by_cases h2:c<=m
  .simp only[h1,h2,decide_true,xJ]at k;rw[ah ⟨h1,h2⟩];by_cases h3:c=m
   .rw[ah (.inl h3)];subst h3;refine gI oW ?_;(repeat' first|refine wP ae k ?_|refine tS ?_ ?_<;>intro a|fail);exact rE []
   .cases h4:pnB c l
    .rw[ag (by simp[h3])];rw[h4]at k2;refine gI oW ?_;(repeat' first|refine wP ae (aI k k2) ?_|refine tS ?_ ?_<;>intro a|fail);exact rE []
    .rw[ah (.inr rfl)];rw[h4]at k2;refine gI oW ?_;(repeat' first|refine wP ae (aI k k2) ?_|refine tS ?_ ?_<;>intro a|fail);exact rE []
  .simp only[h1,h2,decide_true,decide_false,vV]at k;rw[ag (fun h=>h2 h.2)];refine gI oW ?_;(repeat' first|refine wP ae k ?_|refine tS ?_ ?_<;>intro a|fail);exact rE []
 .simp only[h1,decide_false,nH]at k;rw[ag (fun h=>h1 h.1)];refine gI oW ?_;(repeat' first|refine wP ae k ?_|refine tS ?_ ?_<;>intro a|fail);exact rE []
structure AtV (s:Sto) (k:List Nat) (c:Int) (i x:Nat):Prop where
 lk:lkA k c s.bi=((s.ob.getD i (0,[])).1,true)
 ix:ixA (s.ob.getD i (0,[])).1 s.ob 0=i
 il:i<s.ob.length
 fv:fvA c (s.ob.getD i (0,[])).2 0=((x:Int),true)
 xl:x<(s.ob.getD i (0,[])).2.length
abbrev verOf(s:Sto)(i x:Nat):Vr:=(s.ob.getD i (0,[])).2.getD x vr0
def Hm(s:Sto)(b:Sml s)(k:List Nat)(c:Int)(i x:Nat)(h:AtV s k c i x):Gxx 84 [.agg (stF s),vs k,vi c] (.tup [vi i,.agg (vrF (verOf s i x)),vb true]):=by
 have d:=NW s.bi k c (by have:=b.bi;omega);have k2:=Vk s.ob (s.ob.getD i (0,[])).1 (by have:=b.ob;omega);have hm:(s.ob.getD i (0,[]))∈s.ob:=by rw[gW,dY h.il];exact ji h.il
 have f:=ahx (s.ob.getD i (0,[])).2 c (by have:=b.ch _ hm;omega);rw[h.lk]at d;rw[h.ix]at k2;rw[h.fv]at f;have hg:=Ib s.ob i h.il;have a:=rX (s.ob.getD i (0,[])).2 x h.xl;have h1:=h.il;have h2:=h.xl;clear h hm;unfold verOf;generalize s.ob.getD i (0,[])=o at *;obtain⟨u,oc⟩:=o;simp only at *;generalize oc.getD x vr0=v at *;obtain⟨y,A,C,vp⟩:=v;obtain⟨⟨c1,g,j,n,p,q,r⟩,m,la,ob,bi,l,pa⟩:=s;refine gI oW ?_;(repeat' first|refine wP (Ac @aj.{0,0} @hg a) (Ac d k2 f) ?_|refine tS ?_ ?_<;>intro t|fail);exact rE []
def au3:wkV (.agg [vi 0,vi 0,vi 0,nls]) (.agg (vrF vr0)):=.inr ⟨_,_,rfl,rfl,⟨.inl rfl,.inl rfl,.inl rfl,jB _ _,trivial⟩⟩
def Oi(s:Sto)(a:Sml s)(k:List Nat)(c:Int)(h:(lkA k c s.bi).2=false):Gxx 84 [.agg (stF s),vs k,vi c] (.tup [vi 0,.agg (vrF vr0),vb false]):=by have b:=NW s.bi k c (by have:=a.bi;omega);have k2:=Vk s.ob (lkA k c s.bi).1 (by have:=a.ob;omega);rw[h]at b;generalize(lkA k c s.bi).1=q at *;generalize ixA q s.ob 0=j at *;obtain⟨⟨c1,d,f,g,i,n,p⟩,m,la,ob,bi,l,pa⟩:=s;refine Good.fzt (vs:=[vi 0,.agg [vi 0,vi 0,vi 0,nls],vb false]) ?_ rfl ⟨aC _,au3,aC _,trivial⟩;refine gI oW ?_;(repeat' first|refine wP ae (aI b k2) ?_|refine tS ?_ ?_<;>intro r|fail);exact rE []
def Hg(s:Sto)(a:Sml s)(k:List Nat)(c:Int)(i x:Nat)(h:AtV s k c i x)(hv:nG s c=0):Gxx 30 [.agg (stF s),vs k,vi c] (.tup [vi (s.ob.getD i (0,[])).1,vi (verOf s i x).f,vi 0]):=by have b:=Ho s a c;have k2:=Hm s a k c i x h;rw[hv]at b;have hg:=Ib s.ob i h.il;generalize verOf s i x=v at *;have d:=h.il;clear h hv;generalize s.ob.getD i (0,[])=o at *;obtain⟨t,oc⟩:=o;obtain⟨u,y,A,vp⟩:=v;obtain⟨⟨c1,f,g,j,n,p,q⟩,m,la,ob,bi,l,pa⟩:=s;simp only at *;refine gI oW ?_;(repeat' first|refine wP (aI @aj.{0,0} @hg) (aI b k2) ?_|refine tS ?_ ?_<;>intro r|fail);exact rE []
def Oa(s:Sto)(a:Sml s)(k:List Nat)(c:Int)(h:(lkA k c s.bi).2=false)(hv:nG s c=0):Gxx 30 [.agg (stF s),vs k,vi c] (.tup [vi 0,vi 0,vi 8]):=by have b:=Ho s a c;have k2:=Oi s a k c h;rw[hv]at b;obtain⟨⟨c1,d,f,g,i,j,n⟩,m,la,ob,bi,l,pa⟩:=s;refine gI oW ?_;(repeat' first|refine wP ae (aI b k2) ?_|refine tS ?_ ?_<;>intro p|fail);exact rE []
def PgOk(pa:List Pa)(p:List Int)(js:Nat->Nat):Prop:=∀i,i<p.length->ixA (p.getD i 0) pa 0=(js i:Int)/\js i<pa.length/\(pa.getD (js i) (0,0,[])).2.2.length<=1024
def datA(pa:List Pa)(js:Nat->Nat)(n:Nat):List (List Nat):=(List.range n).map fun i=>(pa.getD (js i) (0,0,[])).2.2
def TG(pa:List Pa)(js:Nat->Nat)(n:Nat):pgV (datA pa js n)++[.sl .fz 1 (bv (pa.getD (js n) (0,0,[])).2.2)]=pgV (datA pa js (n+1)):=by simp[datA,BI]
theorem qW(pa:List Pa)(js:Nat->Nat)(n:Nat):(datA pa js n).length=n:=by simp[datA]
def EN(p:List Int)(i:Nat)(h:i<p.length):(p.map vi)[i]?=some (vi (p.getD i 0)):=by grind
def Vo(s:Sto)(u:Sml s)(v:Vr)(js:Nat->Nat)(hp:PgOk s.pa v.p js)(hl:v.p.length<=100000):Gxx 86 [.agg (stF s),.agg (vrF v)] (.sl .fz 1 (pgV (datA s.pa js v.p.length))):=by
 refine Good.fzr (r:=.sl (.own 0 60) 1 (pgV (datA s.pa js v.p.length))) ?_ rfl (.inl (.inl rfl));have a:=u.pa;obtain⟨⟨c1,d,c,f,g,j,k⟩,m,la,ob,bi,l,pa⟩:=s;obtain⟨y,A,C,p⟩:=v;simp only at hp hl a;refine gI oW ?_;(repeat' first|refine wO ?_|refine tS ?_ ?_<;>intro b|fail);refine aJ (fun i:Nat=>mkA [(2,.ref 0 0),(3,.ref 1 0),(5,.sl (.own 0 60) 1 (pgV (datA pa js i))),(6,vi i)] [(0,(33,stF ⟨⟨c1,d,c,f,g,j,k⟩,m,la,ob,bi,l,pa⟩)),(1,(113,[vi y,vi A,vi C,.sl .fz 1 (p.map vi)]))] 2 (fun _=>.top)) (fun i=>i<=p.length) (fun i=>p.length-i) 0 [] [0,1] ?_ (ax _) ?_
 .exact kX;all_goals first|exact iT rfl|skip
 .rintro i hi;rcases au i p.length with h|q
  .have hg:=EN p i h;obtain⟨h1,h2,h3⟩:=hp i h;have x:=ag6 c pa (p.getD i 0) Om (js i) h2 h1 Om;have t:=TG pa js i;have n:Fits ((pgV (datA pa js i)).length+1) 24:=by rw[aj,qW];exact⟨by simp only[maxLen];omega,by omega⟩
   (repeat' first|refine wP (Af @aj.{0,0} @hg t n @EG @MQ) x ?_|refine tS ?_ ?_<;>intro b|fail);exact bX (i+1) [0] [0,1] h
  .have:i=p.length:=Om;subst this;(repeat' first|refine wQ @aj.{0,0} ?_|refine tS ?_ ?_<;>intro b|fail);exact rE [0]
theorem GX(pa:List Pa)(p:List Int)(js:Nat->Nat)(hp:PgOk pa p js):∀q∈datA pa js p.length,q.length<=1024:=by intro q h;simp[datA]at h;obtain⟨i,hi,rfl⟩:=h;exact(hp i hi).2.2
def JD(s:Sto)(a:Sml s)(k:List Nat)(c:Int)(i x:Nat)(h:AtV s k c i x)(hv:nG s c=0)(js:Nat->Nat)(hp:PgOk s.pa (verOf s i x).p js)(hl:(verOf s i x).p.length<=100000):Gxx 31 [.agg (stF s),vs k,vi c] (.tup [fzb (datA s.pa js (verOf s i x).p.length).flatten,vi 0]):=by have b:=Ho s a c;have k2:=Hm s a k c i x h;have d:=Vo s a _ js hp hl;have f:=ahJ (datA s.pa js (verOf s i x).p.length) (by rw[qW];exact hl) (GX _ _ _ hp);rw[hv]at b;generalize u:verOf s i x=v at *;obtain⟨y,A,C,vp⟩:=v;clear h hv hp a;obtain⟨⟨c1,g,j,n,p,q,r⟩,m,la,ob,bi,l,pa⟩:=s;simp only at *;refine gI oW ?_;(repeat' first|refine wP ae (Ad b k2 d f) ?_|refine tS ?_ ?_<;>intro t|fail);exact rE []
def ahQ(s:Sto)(a:Sml s)(c:Int)(hv:nG s c=0)(hp:vPn s.pi)(h:s.c.pn<=sumP s.pi s.pi.length):Gxx 33 [.agg (stF s),vi c] (.tup [.agg (stF s),vi 14]):=by have k:=Ho s a c;have k2:=Vb s.pi (by have:=a.pi;omega) hp;rw[hv]at k;obtain⟨⟨c1,b,d,f,g,i,j⟩,m,la,ob,bi,l,pa⟩:=s;simp only at *;generalize sumP l l.length=tot at *;refine gI oW ?_;(repeat' first|refine wP ae (aI k k2) ?_|refine tS ?_ ?_<;>intro n|fail);exact rE []
def ahP(s:Sto)(a:Sml s)(c:Int)(hv:nG s c=0)(hp:vPn s.pi)(h:sumP s.pi s.pi.length<s.c.pn)(d:0<=c)(hf:∀i,i<s.pi.length->(s.pi.getD i (0,0)).2<1024):Gxx 33 [.agg (stF s),vi c] (.tup [.agg (stF {s with pi:=fQ c s.pi}),vi 0]):=by have k:=Ho s a c;have k2:=Vb s.pi (by have:=a.pi;omega) hp;have q:=agW s.pi c a.pi hp d hf;rw[hv]at k;obtain⟨⟨c1,f,b,g,j,n,p⟩,m,la,ob,bi,l,pa⟩:=s;simp only at *;generalize sumP l l.length=tot at *;refine Good.fzt (vs:=[.agg [vi c1,vi f,vi b,vi g,vi j,vi n,vi p,vi m,vi la,.sl .fz 2 (obV ob),.sl .fz 4 (aS bi),.sl (.own 0 145) 2 (pnV (fQ c l)),vi b,.sl .fz 3 (paV pa)],vi 0]) ?_ rfl ⟨aC _,aC _,trivial⟩;refine gI oW ?_;(repeat' first|refine wP ae (Ac k k2 q) ?_|refine tS ?_ ?_<;>intro d|fail);exact rE [2]
def vCf(c:Cf):Prop:=(1<=c.se/\c.se<=64)/\(1<=c.na/\c.na<=64)/\(1<=c.pg/\c.pg<=16384)/\(8<=c.z/\c.z<=1024)/\(1<=c.pn/\c.pn<=1024)/\(1<=c.cm/\c.cm<=1048576)/\(1<=c.ch/\c.ch<=64)
def DX{a b c:Int}(h1:b<=a/\a<=c):Gxx 154 [vi a,vi b,vi c] (vb true):=by have k:=Vp a b c;simpa[h1.1,h1.2]using k
def aib(c:Cf)(h:vCf c):Gxx 70 [.agg (cfF c)] (vi 0):=by obtain⟨h1,h2,h3,h4,h5,a,b⟩:=h;have k:=DX h1;have k2:=DX h2;have d:=DX h3;have f:=DX h4;have g:=DX h5;have i:=DX a;have j:=DX b;obtain⟨c1,l,m,n,p,q,r⟩:=c;refine gI oW ?_;(repeat' first|refine wP ae (Ag k k2 d f g i j) ?_|refine tS ?_ ?_<;>intro s|fail);exact rE []
def ahN(c:Cf)(h:vCf c):Gxx 25 [.agg (cfF c)] (.tup [.agg (stF ⟨c,0,0,[],[],[],[]⟩),vi 0]):=by have k:=aib c h;obtain⟨c1,b,a,d,f,g,i⟩:=c;refine Good.fzt (vs:=[.agg [vi c1,vi b,vi a,vi d,vi f,vi g,vi i,vi 0,vi 0,nls,nls,nls,vi a,nls],vi 0]) ?_ rfl ⟨.inr ⟨_,_,rfl,rfl,⟨.inl rfl,.inl rfl,.inl rfl,.inl rfl,.inl rfl,.inl rfl,.inl rfl,.inl rfl,.inl rfl,jB _ _,jB _ _,jB _ _,.inl rfl,jB _ _,trivial⟩⟩,aC _,trivial⟩;refine gI oW ?_;(repeat' first|refine wP ae k ?_|refine tS ?_ ?_<;>intro j|fail);exact rE []
def O9(b:Bd):Prop:=(oct b.n/\iK b.n=true)/\1<=b.o/\1<=b.f/\0<=b.t/\(b.t=0\/b.f<b.t)
def Fh(a b:Bd):Prop:=(kl a.n b.n=true/\sB a.n≠sB b.n)\/(sB a.n=sB b.n/\kl a.n b.n=false/\a.f<b.f/\a.t≠0/\a.t<=b.f)
def D9(a b:Bd):Prop:=a.o=b.o->(a.t≠0/\a.t<=b.f)\/(b.t≠0/\b.t<=a.f)
def vBd(l:List Bd):Prop:=∀i,i<l.length->O9 (l.getD i bd0)/\(0<i->Fh (l.getD (i-1) bd0) (l.getD i bd0))/\∀k,k<i->D9 (l.getD k bd0) (l.getD i bd0)
def N9(l:List Bd)(hl:l.length<=100000)(hv:vBd l):Gxx 212 [.sl .fz 4 (aS l)] (vi 0):=by
 refine gI oW ?_;(repeat' first|refine wO ?_|refine tS ?_ ?_<;>intro d|fail);refine aJ (fun i:Nat=>mkA [(0,.sl .fz 4 (aS l)),(3,vi i)] [] 0 (fun _=>.top)) (fun i=>i<=l.length) (fun i=>l.length-i) 0 [] [] ?_ (ax _) ?_
 .exact kX
 .rintro i hi;rcases au i l.length with c|v
  .have hg:=jZ l i c;obtain⟨⟨⟨y,h1⟩,h2,h3,h4,h5⟩,f,Q⟩:=hv i c;have j:=yD (l.getD i bd0).n y;rw[h1]at j;have u:(l.getD i bd0).t≠0->¬(l.getD i bd0).t<=(l.getD i bd0).f:=fun h=>by omega
   generalize l.getD i bd0=b at *;obtain⟨bn,bo,P,bt⟩:=b;simp only at hg y h1 h2 h3 h4 h5 u j;rcases gG i with x|x
   .subst x;rcases h5 with h5|h5
    ·(repeat' first|refine wP (aI @aj.{0,0} @hg) j ?_|refine tS ?_ ?_<;>intro d|fail);exact bX (0+1) [] [] c
    .have A:bt≠0:=Om;(repeat' first|refine wP (aI @aj.{0,0} @hg) j ?_|refine tS ?_ ?_<;>intro d|fail);exact bX (0+1) [] [] c
   .have g:=jZ l (i-1) Om;have n:((i:Int)-1).toNat=i-1:=Om;have f:=f x;generalize l.getD (i-1) bd0=a at *;obtain⟨M,N,L,at'⟩:=a;unfold Fh at f;simp only at g f;rcases f with⟨f,q⟩|⟨f,q,C,E,F⟩
    .rcases h5 with h5|h5
     ·(repeat' first|refine wP (Ag @aj.{0,0} @hg g n @iO f q) j ?_|refine tS ?_ ?_<;>intro d|fail);exact bX (i+1) [] [] c
     .have A:bt≠0:=Om;(repeat' first|refine wP (Ag @aj.{0,0} @hg g n @iO f q) j ?_|refine tS ?_ ?_<;>intro d|fail);exact bX (i+1) [] [] c
    .rcases h5 with h5|h5
     ·(repeat' first|refine wP (Ag @aj.{0,0} @hg g n @iO f q) j ?_|refine tS ?_ ?_<;>intro d|fail);exact bX (i+1) [] [] c
     .have A:bt≠0:=Om;(repeat' first|refine wP (Ag @aj.{0,0} @hg g n @iO f q) j ?_|refine tS ?_ ?_<;>intro d|fail);exact bX (i+1) [] [] c
  .have:i=l.length:=Om;subst this;(repeat' first|refine wQ @aj.{0,0} ?_|refine tS ?_ ?_<;>intro d|fail);refine aJ (fun i:Nat=>mkA [(0,.sl .fz 4 (aS l)),(6,vi i)] [] 0 (fun _=>.top)) (fun i=>i<=l.length) (fun i=>l.length-i) 0 [] [] ?_ (ax _) ?_
   .exact kX
   .rintro i hi;rcases au i l.length with c|v
    .have hg:=jZ l i c;have m:=(hv i c).2.2;(repeat' first|refine wQ @aj.{0,0} ?_|refine tS ?_ ?_<;>intro d|fail);refine aJ (fun k:Nat=>mkA [(0,.sl .fz 4 (aS l)),(6,vi i),(7,vi k)] [] 0 (fun _=>.top)) (fun k=>k<=i) (fun k=>i-k) 0 [] [] ?_ (ax _) ?_
     .exact kX
     .rintro k hk;rcases au k i with p|K
      .have r:=jZ l k Om;have m:=m k p;obtain⟨⟨_,_,_,G,H⟩,_⟩:=hv k Om;obtain⟨⟨_,_,_,I,J⟩,_⟩:=hv i c;generalize l.getD i bd0=b at *;generalize l.getD k bd0=a at *;unfold D9 at m;by_cases ho:b.o=a.o
       .have h1:gQ a.f a.t b.f=false/\gQ b.f b.t a.f=false:=by
         unfold gQ;rcases m ho.symm with⟨h1,h2⟩|⟨h1,h2⟩
         .have s:¬b.f<a.t:=Om;have t:¬b.f<=a.f:=Om;simp[s,t,h1]
         .have s:¬a.f<b.t:=Om;have t:¬a.f<=b.f:=Om;simp[s,t,h1]
        have j:=Hf a.f a.t b.f;have k2:=Hf b.f b.t a.f;rw[h1.1]at j;rw[h1.2]at k2;(repeat' first|refine wP (Ad @aj.{0,0} @hg r @ho) (aI j k2) ?_|refine tS ?_ ?_<;>intro d|fail);exact bX (k+1) [] [] p
       ·(repeat' first|refine wQ (Ad @aj.{0,0} @hg r @ho) ?_|refine tS ?_ ?_<;>intro d|fail);exact bX (k+1) [] [] p
      .have:k=i:=Om;subst this;(repeat' first|refine wO ?_|refine tS ?_ ?_<;>intro d|fail);exact bX (k+1) [] [] c
    .have:i=l.length:=Om;subst this;(repeat' first|refine wQ @aj.{0,0} ?_|refine tS ?_ ?_<;>intro d|fail);exact rE []
def xy(l:List Bd)(c:Int):Prop:=∀i,i<l.length->(l.getD i bd0).f<=c/\(l.getD i bd0).t<=c
def agZ(l:List Bd)(k:List Nat)(o c:Int)(hl:l.length<=100000)(hv:vBd l)(hk:oct k)(m:iK k=true)(ho:1<=o)(a:1<=c)(g:xy l c)(f:∀i,i<l.length->(l.getD i bd0).t=0->sB (l.getD i bd0).n≠sB k/\(l.getD i bd0).o≠o) :
  Gxx 115 [.sl .fz 4 (aS l),vs k,vi o,vi c] (.tup [.sl (.own 0 142) 4 (aS (jo ⟨k,o,c,0⟩ l)),vi 0]):=by
 have n:=N9 l hl hv
 have k2:=yD k hk
 rw[m]at k2
 have p:=Oe l c Om g
 have q:=Vl l ⟨k,o,c,0⟩ hl
 refine gI oW ?_
 (repeat' first|refine wP ae (Ac n k2 p) ?_|refine tS ?_ ?_<;>intro a|fail)
 refine aJ (fun i:Nat=>mkA [(0,.sl .fz 4 (aS l)),(1,vs k),(2,vi o),(3,vi c),(11,vi i)] [] 0 (fun _=>.top)) (fun i=>i<=l.length) (fun i=>l.length-i) 0 [] [] ?_ (ax _) ?_
 .exact kX
 .rintro i hi;rcases au i l.length with h|j
  .have hg:=jZ l i h;have h1:=f i h;generalize l.getD i bd0=b at *;by_cases d:b.t=0
   .have h2:decide (sB b.n=sB k)=false:=dK (h1 d).1;have h3:=(h1 d).2;(repeat' first|refine wQ (Ad @aj.{0,0} @hg d @h2) ?_|refine tS ?_ ?_<;>intro a|fail);exact bX (i+1) [] [] h
   ·(repeat' first|refine wQ (Ac @aj.{0,0} @hg d) ?_|refine tS ?_ ?_<;>intro a|fail);exact bX (i+1) [] [] h
  .have:i=l.length:=Om;subst this;(repeat' first|refine wP @aj.{0,0} q ?_|refine tS ?_ ?_<;>intro a|fail);exact rE [0]
def fM(l:List Bd)(j:Nat)(c:Int):List Bd:=l.set j {l.getD j bd0 with t:=c}
def Js(l:List Bd)(j:Nat)(c:Int):(aS l).set j (.agg [vs (l.getD j bd0).n,vi (l.getD j bd0).o,vi (l.getD j bd0).f,vi c])=aS (fM l j c):=by simp_all[fM]
def zQ(l:List Bd)(j:Nat)(c:Int):(fM l j c).length=l.length:=by simp[fM]
def ah8(l:List Bd)(k:List Nat)(c:Int)(j:Nat)(hl:l.length<=100000)(hv:vBd l)(hk:oct k)(g:iK k=true)(f:1<=c)(d:xy l c)(hj:opA k l 0=j)(a:j<l.length)(hf:(l.getD j bd0).f<c) :
  Gxx 126 [.sl .fz 4 (aS l),vs k,vi c] (.tup [.sl (.own 0 142) 4 (aS (fM l j c)),vi 0]):=by
 have i:=N9 l hl hv
 have k2:=yD k hk
 rw[g]at k2
 have m:=Oe l c Om d
 have b:=Oh l k Om
 rw[hj]at b
 have hg:=jZ l j a
 have he:=Js l j c
 have h:Fits (aS l).length 40:=by rw[aj];exact⟨by simp only[maxLen];omega,by omega⟩
 refine gI oW ?_
 (repeat' first|refine wP (Ad @aj.{0,0} @hg h @he) (Ad i k2 m b) ?_|refine tS ?_ ?_<;>intro f|fail)
 exact rE [0]
def ahV(l:List Bd)(k m:List Nat)(c:Int)(j:Nat)(hl:l.length<=100000)(hv:vBd l)(hk:oct k)(q:iK k=true)(a:oct m)(d:iK m=true)(p:1<=c)(n:xy l c)(hj:opA k l 0=j)(b:j<l.length)(hf:(l.getD j bd0).f<c)(hm:opA m l 0 = -1) :
  Gxx 128 [.sl .fz 4 (aS l),vs k,vs m,vi c] (.tup [.sl (.own 0 142) 4 (aS (jo ⟨m,(l.getD j bd0).o,c,0⟩ (fM l j c))),vi 0]):=by
 have r:=N9 l hl hv
 have k2:=yD k hk
 rw[q]at k2
 have i:=yD m a
 rw[d]at i
 have s:=Oe l c Om n
 have f:=Oh l k Om
 rw[hj]at f
 have g:=Oh l m Om
 rw[hm]at g
 have hg:=jZ l j b
 have he:=Js l j c
 have h:Fits (aS l).length 40:=by rw[aj];exact⟨by simp only[maxLen];omega,by omega⟩
 have t:=Vl (fM l j c) ⟨m,(l.getD j bd0).o,c,0⟩ (by rw[zQ];exact hl)
 refine gI oW ?_
 (repeat' first|refine wP (Ae @aj.{0,0} @hg h @he @id_eq.{1}) (Af r k2 s f g i) ?_|refine cG [0] t ?_|refine tS ?_ ?_<;>intro p|fail)
 exact rE [1]
def fU(l:List Vr)(c:Int):List Vr:=l.set (l.length-1) {l.getD (l.length-1) vr0 with t:=c}
def Jk(l:List Vr)(c:Int):(vrV l).set (l.length-1) (.agg [vi (l.getD (l.length-1) vr0).f,vi c,vi (l.getD (l.length-1) vr0).z,.sl .fz 1 ((l.getD (l.length-1) vr0).p.map vi)])=vrV (fU l c):=by simp[fU,zB]
def ag0(l:List Vr)(c:Int)(hl:l.length<=1000000)(hv:vCh l)(d:0<l.length)(h1:(l.getD (l.length-1) vr0).t=0)(h2:(l.getD (l.length-1) vr0).f<c):Gxx 125 [.sl .fz 4 (vrV l),vi c] (.tup [.sl (.own 0 113) 4 (vrV (fU l c)),vi 0]):=by
 have k:=Ve l hl hv;have hg:=rX l (l.length-1) Om;have h:((l.length:Int)-1).toNat=l.length-1:=Om;have a:=Jk l c;have b:Fits (vrV l).length 48:=by rw[aj];exact⟨by simp only[maxLen];omega,by omega⟩
 have hp:0<(vrV l).length:=by rw[aj];omega
 refine gI oW ?_;(repeat' first|refine wP (Af @aj.{0,0} h @hg @h1 b a) k ?_|refine tS ?_ ?_<;>intro a|fail);exact rE [0]
def qP(l:List Vr)(v:Vr):List Vr:=(if 0<l.length/\(l.getD (l.length-1) vr0).t=0 then fU l v.f else l)++[v]
def QX(l:List Vr)(v:Vr):vrV l++[.agg [vi v.f,vi v.t,vi v.z,.sl .fz 1 (v.p.map vi)]]=vrV (l++[v]):=Aa
def agX(l:List Vr)(v:Vr)(hl:l.length<=1000000)(hv:vCh l)(d:0<l.length)(h1:1<=v.f)(h2:v.t=0)(h3:0<=v.z)(h4:(l.getD (l.length-1) vr0).f<v.f)(h5:(l.getD (l.length-1) vr0).t=0):Gxx 121 [.sl .fz 4 (vrV l),.agg (vrF v)] (.tup [.sl (.own 0 113) 4 (vrV (fU l v.f++[v])),vi 0]):=by
 have k:=Ve l hl hv;have hg:=rX l (l.length-1) Om;have b:((l.length:Int)-1).toNat=l.length-1:=Om;have c:Fits (vrV l).length 48:=by rw[aj];exact⟨by simp only[maxLen];omega,by omega⟩
 have a:=Jk l v.f;have ha:=QX (fU l v.f) v;have h:Fits ((vrV (fU l v.f)).length+1) 48:=by rw[aj,fU,nI];exact⟨by simp only[maxLen];omega,by omega⟩
 obtain⟨f,t,z,p⟩:=v;simp only at h1 h2 h3 h4 a ha h;subst h2;refine gI oW ?_;(repeat' first|refine wP (Ah @aj.{0,0} b @hg c @ha h @h5 a) k ?_|refine tS ?_ ?_<;>intro a|fail);exact rE [1]
def ahX(s:Sto)(c:Sml s)(k t:List Nat)(f:oct t)(d:iK t=true)(e:Int)(he:((lkA k s.m s.bi).2=false/\e=8)\/((lkA k s.m s.bi).2=true/\(lkA t s.m s.bi).2=true/\e=9)\/((lkA k s.m s.bi).2=true/\(lkA t s.m s.bi).2=false/\s.c.cm<=s.m/\e=14)) :
  Gxx 43 [.agg (stF s),vs k,vs t] (.tup [.agg (stF s),vi 0,vi e]):=by
 have a:=yD t f
 rw[d]at a
 have k2:=EJ s c k
 have b:=EJ s c t
 obtain⟨⟨c1,g,i,j,n,p,q⟩,m,la,ob,bi,l,pa⟩:=s
 simp only at *
 rcases he with⟨h1,rfl⟩|⟨h1,h2,rfl⟩|⟨h1,h2,h3,rfl⟩
 .rw[h1]at k2;refine gI oW ?_;(repeat' first|refine wP ae (aI a k2) ?_|refine tS ?_ ?_<;>intro h|fail);exact rE []
 .rw[h1]at k2;rw[h2]at b;refine gI oW ?_;(repeat' first|refine wP ae (Ac a k2 b) ?_|refine tS ?_ ?_<;>intro h|fail);exact rE []
 .rw[h1]at k2;rw[h2]at b;refine gI oW ?_;(repeat' first|refine wP ae (Ac a k2 b) ?_|refine tS ?_ ?_<;>intro h|fail);exact rE []
def ahW(s:Sto)(b:Sml s)(k t:List Nat)(hk:oct k)(h:iK k=true)(i:oct t)(g:iK t=true)(j:Nat)(h1:(lkA k s.m s.bi).2=true)(h2:(lkA t s.m s.bi).2=false)(h3:s.m<s.c.cm)(x:s.c.cm<=1048576)(C:0<=s.m)(hv:vBd s.bi)(y:xy s.bi (s.m+1))(hj:opA k s.bi 0=j)(a:j<s.bi.length)(hf:(s.bi.getD j bd0).f<s.m+1)(hm:opA t s.bi 0 = -1) :
  Gxx 43 [.agg (stF s),vs k,vs t] (.tup [.agg (stF {s with m:=s.m+1,bi:=jo ⟨t,(s.bi.getD j bd0).o,s.m+1,0⟩ (fM s.bi j (s.m+1))}),vi (s.m+1),vi 0]):=by
 have c:=yD t i
 rw[g]at c
 have k2:=EJ s b k
 have d:=EJ s b t
 rw[h1]at k2
 rw[h2]at d
 have n:=ahV s.bi k t (s.m+1) j b.bi hv hk h i g Om y hj a hf hm
 obtain⟨⟨c1,p,f,q,r,u,v⟩,m,la,ob,bi,l,pa⟩:=s
 simp only at *
 generalize jo ⟨t,(bi.getD j bd0).o,m+1,0⟩ (fM bi j (m+1))=A at *
 refine Good.fzt (vs:=[.agg [vi c1,vi p,vi f,vi q,vi r,vi u,vi v,vi (m+1),vi la,.sl .fz 2 (obV ob),.sl (.own 0 142) 4 (aS A),.sl .fz 2 (pnV l),vi f,.sl .fz 3 (paV pa)],vi (m+1),vi 0]) ?_ rfl ⟨aC _,aC _,aC _,trivial⟩
 refine gI (TN mix) ?_
 (repeat'(first|(simp(disch:=first|exact dqz|fail) only[pgz,simprocAttr,pga,pgH])|((with_reducible show eX _ _ _ _ _ _);first|refine cU c ?_|refine cU k2 ?_|refine cU d ?_|refine cU n ?_)|((with_reducible show mX _ _ _ _ _ _ _);first|refine cA c ?_|refine cA k2 ?_|refine cA d ?_|refine cA n ?_)|(refine tS ?_ ?_<;>intro E)|(with_reducible refine cKA ?_)|((with_reducible show gJ _ _ _ _ _);first|refine lG (by decide +kernel) ?_|refine lF (by decide +kernel) ?_|refine TU (by decide +kernel) ?_|refine TT (by decide +kernel) ?_)|(with_reducible refine cK ?_)))
 exact rE [2]
def mY(ob:List (Int×List Vr))(i:Nat)(c:Int):List (Int×List Vr):=ob.set i ((ob.getD i (0,[])).1,fU (ob.getD i (0,[])).2 c)
def ahg(s:Sto)(a:Sml s)(k:List Nat)(h:(lkA k s.m s.bi).2=false):Gxx 41 [.agg (stF s),vs k] (.tup [.agg (stF s),vi 0,vi 8]):=by have k2:=Oi s a k s.m h;obtain⟨⟨c1,c,b,d,f,g,i⟩,m,la,ob,bi,l,pa⟩:=s;refine gI oW ?_;(repeat' first|refine wP ae k2 ?_|refine tS ?_ ?_<;>intro j|fail);exact rE []
def ahh(s:Sto)(a:Sml s)(k:List Nat)(i x:Nat)(h:AtV s k s.m i x)(hf:s.c.cm<=s.m):Gxx 41 [.agg (stF s),vs k] (.tup [.agg (stF s),vi 0,vi 14]):=by have k2:=Hm s a k s.m i x h;generalize verOf s i x=v at *;obtain⟨p,q,r,vp⟩:=v;clear h;obtain⟨⟨c1,c,b,d,f,g,j⟩,m,la,ob,bi,l,pa⟩:=s;simp only at *;refine gI oW ?_;(repeat' first|refine wP ae k2 ?_|refine tS ?_ ?_<;>intro n|fail);exact rE []
def ahf(s:Sto)(b:Sml s)(k:List Nat)(hk:oct k)(p:iK k=true)(i x j:Nat)(h:AtV s k s.m i x)(h3:s.m<s.c.cm)(H:s.c.cm<=1048576)(K:0<=s.m)(hv:vBd s.bi)(t:xy s.bi (s.m+1))(hj:opA k s.bi 0=j)(q:j<s.bi.length)(hf:(s.bi.getD j bd0).f<s.m+1)
  (n:vCh (s.ob.getD i (0,[])).2) (d:0<(s.ob.getD i (0,[])).2.length) (f:((s.ob.getD i (0,[])).2.getD ((s.ob.getD i (0,[])).2.length-1) vr0).t=0) (c:((s.ob.getD i (0,[])).2.getD ((s.ob.getD i (0,[])).2.length-1) vr0).f<s.m+1) :
  Gxx 41 [.agg (stF s),vs k] (.tup [.agg (stF {s with m:=s.m+1,ob:=mY s.ob i (s.m+1),bi:=fM s.bi j (s.m+1)}),vi (s.m+1),vi 0]):=by
 have k2:=Hm s b k s.m i x h
 generalize verOf s i x=v at *
 obtain⟨N,P,Q,vp⟩:=v
 have a:=h.il
 have hm:(s.ob.getD i (0,[]))∈s.ob:=by rw[gW,dY a];exact ji a
 have u:=Good.fzt (ws:=[.sl .fz 4 (vrV (fU (s.ob.getD i (0,[])).2 (s.m+1))),vi 0]) (ag0 (s.ob.getD i (0,[])).2 (s.m+1) (by have:=b.ch _ hm;omega) n d f c) rfl ⟨aC _,aC _,trivial⟩
 have y:=ah8 s.bi k (s.m+1) j b.bi hv hk p Om t hj q hf
 have hg:=Ib s.ob i a
 have I:Fits (obV s.ob).length 32:=by rw[aj];exact⟨by simp only[maxLen];have:=b.ob;omega,by have:=b.ob;omega⟩
 have g:(obV s.ob).set i (.agg [vi (s.ob.getD i (0,[])).1,.sl .fz 4 (vrV (fU (s.ob.getD i (0,[])).2 (s.m+1)))])=obV (mY s.ob i (s.m+1)):=by simp[mY,zB]
 clear h hm b hv t n c f d hf
 generalize mY s.ob i (s.m+1)=no at *
 generalize s.ob.getD i (0,[])=o at *
 obtain⟨M,oc⟩:=o
 obtain⟨⟨c1,A,r,C,E,F,G⟩,m,la,ob,bi,l,pa⟩:=s
 simp only at *
 generalize fU oc (m+1)=L at *
 generalize fM bi j (m+1)=J at *
 refine Good.fzt (vs:=[.agg [vi c1,vi A,vi r,vi C,vi E,vi F,vi G,vi (m+1),vi la,.sl (.own 0 134) 2 (obV no),.sl (.own 1 142) 4 (aS J),.sl .fz 2 (pnV l),vi r,.sl .fz 3 (paV pa)],vi (m+1),vi 0]) ?_ rfl ⟨aC _,aC _,aC _,trivial⟩
 refine gI (TN mix) ?_
 (repeat'(first|(simp(disch:=first|exact dqz|fail) only[pgz,simprocAttr,pga,pgH,aj,hg,I,g])|((with_reducible show eX _ _ _ _ _ _);first|refine cU k2 ?_|refine cU u ?_|refine cU y ?_)|((with_reducible show mX _ _ _ _ _ _ _);first|refine cA k2 ?_|refine cA u ?_|refine cA y ?_)|(refine tS ?_ ?_<;>intro n)|(with_reducible refine cKA ?_)|((with_reducible show gJ _ _ _ _ _);first|refine lG (by decide +kernel) ?_|refine lF (by decide +kernel) ?_|refine TU (by decide +kernel) ?_|refine TT (by decide +kernel) ?_)|(with_reducible refine cK ?_)))
 exact rE [3,4]
def fD(s:Sto)(k b:List Nat):Sto :=
 {s with m:=s.m+1,la:=s.la+1,ob:=s.ob++[(s.la+1,[⟨s.m+1,0,b.length,(alS s.pa (ckP s.c.z.toNat b (nPg s.c.z.toNat b)) (nPg s.c.z.toNat b)).2⟩])],bi:=jo ⟨k,s.la+1,s.m+1,0⟩ s.bi,pa:=(alS s.pa (ckP s.c.z.toNat b (nPg s.c.z.toNat b)) (nPg s.c.z.toNat b)).1}
theorem QD(z:Int)(b:List Nat)(h:8<=z/\z<=1024):QC z b = .tup [.sl (.own 0 60) 1 (pgV (ckP z.toNat b (nPg z.toNat b))),vi 0]:=ag Om
def ag4(s:Sto)(d:Sml s)(k b:List Nat)(hk:oct k)(t:iK k=true)(hb:b.length<=1048576)(y:8<=s.c.z/\s.c.z<=1024)(ha:ww s.m s.bi)(r:s.m<=1048576)(e:Int)
  (he:(65536<b.length/\e=11)\/(b.length<=65536/\(lkA k s.m s.bi).2=true/\e=9)\/(b.length<=65536/\(lkA k s.m s.bi).2=false/\(s.c.na<=(nmA s.m s.bi).length\/s.c.cm<=s.m\/s.c.pg<s.pa.length+nPg s.c.z.toNat b)/\e=14)) :
  Gxx 37 [.agg (stF s),vs k,.sl .fz 1 (bv b)] (.tup [.agg (stF s),vi 0,vi e]):=by
 have a:=N7 b s.c.z hb
 rw[QD _ _ y]at a
 have a:=Good.fzt (ws:=[.sl .fz 1 (pgV (ckP s.c.z.toNat b (nPg s.c.z.toNat b))),vi 0]) a rfl ⟨aC _,aC _,trivial⟩
 have k2:=yD k hk
 rw[t]at k2
 have c:=EJ s d k
 have g:=U6 s.bi s.m d.bi ha
 have i:=NV s
 have v:=d.pa
 have q:=d.bi
 have x:nPg s.c.z.toNat b<=1048576+1024:=by unfold nPg;refine iZ (Nat.div_le_self _ _) Om
 have f:=sN s.c.z.toNat b (nPg s.c.z.toNat b)
 have u:=Kq s.m s.bi
 generalize nmA s.m s.bi=A at *
 generalize nPg s.c.z.toNat b=np at *
 generalize ckP s.c.z.toNat b np=ps at *
 obtain⟨⟨c1,j,n,C,E,p,F⟩,m,la,ob,bi,l,pa⟩:=s
 simp only at *
 rcases he with⟨h1,rfl⟩|⟨h1,h2,rfl⟩|⟨h1,h2,h3,rfl⟩
 .refine gI oW ?_;(repeat' first|refine wP @aA (aI a k2) ?_|refine tS ?_ ?_<;>intro h|fail);exact rE []
 .rw[h2]at c;refine gI oW ?_;(repeat' first|refine wP @aA (Ac a k2 c) ?_|refine tS ?_ ?_<;>intro h|fail);exact rE []
 .rw[h2]at c;by_cases G:j<=A.length
  .refine gI oW ?_;(repeat' first|refine wP (aI @aA @aj.{0,0}) (Ae a k2 c g i) ?_|refine tS ?_ ?_<;>intro h|fail);exact rE []
  .by_cases H:p<=m
   .refine gI oW ?_;(repeat' first|refine wP (aI @aA @aj.{0,0}) (Ae a k2 c g i) ?_|refine tS ?_ ?_<;>intro h|fail);exact rE []
   .have I:n<pa.length+np:=Om;refine gI oW ?_;(repeat' first|refine wP (Ac @aA @aj.{0,0} f) (Ae a k2 c g i) ?_|refine tS ?_ ?_<;>intro h|fail);exact rE []
def ag3(s:Sto)(c:Sml s)(k b:List Nat)(hk:oct k)(J:iK k=true)(hb:b.length<=65536)(hz:8<=s.c.z/\s.c.z<=1024)(ha:ww s.m s.bi)(h0:0<=s.m)(U:s.m<s.c.cm)(I:s.c.cm<=1048576)(X:0<=s.la/\s.la<=s.m)(h1:(lkA k s.m s.bi).2=false)(h2:(nmA s.m s.bi).length<s.c.na)(h3:s.pa.length+nPg s.c.z.toNat b<=s.c.pg)(h4:s.c.pg<=16384)
  (hv:vBd s.bi) (S:xy s.bi (s.m+1)) (R:∀i,i<s.bi.length->(s.bi.getD i bd0).t=0->sB (s.bi.getD i bd0).n≠sB k/\(s.bi.getD i bd0).o≠s.la+1) :
  Gxx 37 [.agg (stF s),vs k,.sl .fz 1 (bv b)] (.tup [.agg (stF (fD s k b)),vi (s.m+1),vi 0]):=by
 have g:=N7 b s.c.z Om
 rw[QD _ _ hz]at g
 have g:=Good.fzt (ws:=[.sl .fz 1 (pgV (ckP s.c.z.toNat b (nPg s.c.z.toNat b))),vi 0]) g rfl ⟨aC _,aC _,trivial⟩
 have k2:=yD k hk
 rw[J]at k2
 have x:=EJ s c k
 rw[h1]at x
 have K:=U6 s.bi s.m c.bi ha
 have L:=NV s
 have k6:=agZ s.bi k (s.la+1) (s.m+1) c.bi hv hk J Om Om S R
 have Z:=c.pa
 have T:=c.bi
 have hol:=c.ob
 have h:=sN s.c.z.toNat b (nPg s.c.z.toNat b)
 have t:=GM s.c.z.toNat b (nPg s.c.z.toNat b)
 have Y:=Kq s.m s.bi
 unfold fD
 generalize nmA s.m s.bi=nm at *
 generalize nPg s.c.z.toNat b=np at *
 generalize ckP s.c.z.toNat b np=ps at *
 generalize jo ⟨k,s.la+1,s.m+1,0⟩ s.bi=nb at *
 obtain⟨⟨c1,C,j,E,F,G,H⟩,m,la,ob,bi,l,pa⟩:=s
 simp only at *
 refine Good.fzt (vs:=[.agg [vi c1,vi C,vi j,vi E,vi F,vi G,vi H,vi (m+1),vi (la+1),.sl (.own 0 134) 2 (obV (ob++[(la+1,[⟨m+1,0,b.length,(alS pa ps np).2⟩])])),.sl (.own 1 142) 4 (aS nb),.sl .fz 2 (pnV l),vi j,.sl .fz 3 (paV (alS pa ps np).1)],vi (m+1),vi 0]) ?_ rfl ⟨aC _,aC _,aC _,trivial⟩
 refine gI (fJ [] mix) ?_
 (repeat' first|refine wEX (Ad @pgE @aA @aj.{0,0} h) (Ae g k2 x K L) ?_|refine tE ?_ ?_<;>intro a|fail)
 refine mM _ _ _ _ _ ?_
 (repeat' first|refine wED (Ad @pgE @aA @aj.{0,0} h) (Ae g k2 x K L) ?_|refine tE ?_ ?_<;>intro a|fail)
 refine aJ (fun i:Nat=>mkA [(1,vs k),(3,.ref 0 0),(6,.ref 1 0),(9,.sl .fz 1 (pgV ps)),(11,.ref 2 0),(12,vi i)] [(0,(33,stF ⟨⟨c1,C,j,E,F,G,H⟩,m+1,la+1,ob,bi,l,(alS pa ps i).1⟩)),(1,(33,[vi 0,vi 0,vi 0,vi 0,vi 0,vi 0,vi 0,vi 0,vi 0,nls,nls,nls,vi 0,nls])),(2,(113,[vi (m+1),vi 0,vi b.length,.sl (.own 0 3) 1 ((alS pa ps i).2.map vi)]))] 3 (fun _=>.top)) (fun i=>i<=np) (fun i=>np-i) 0 [] [0,1,2] ?_ (ax _) ?_
 ·(refine kM ?_ ?_;(repeat'(first|exact ae|refine dQ _ _ rfl rfl ?_ ?_));all_goals(try simp only[pgm,simprocAttr]);all_goals(try(repeat' apply aI));all_goals(try exact gz));all_goals first|exact iT rfl|(show Gen _ _ (V.sl .fz 3 (paV pa)) (V.sl .fz 3 (paV pa));simp only[jS])
 .rintro i hi;rcases au i np with u|W
  .obtain⟨M,N,P,a4⟩:=I9 (alS pa ps i).1;obtain⟨b1,Q⟩:=MI pa ps i;have hg:=AY ps i Om;have hm:(ps.getD i []).length<=1024:=by have:=t (ps.getD i []) (by rw[gW,dY (Om:i<ps.length)];exact ji _);omega
   have y:=UW j (alS pa ps i).1 (ps.getD i []) (alN (alS pa ps i).1) Om hm Om M N P Om;have hx:alS pa ps (i+1)=(jH ((alN (alS pa ps i).1:Nat),1,ps.getD i []) (alS pa ps i).1,(alS pa ps i).2++[((alN (alS pa ps i).1:Nat):Int)]):=rfl;have r:(alS pa ps i).2.map vi++[vi (alN (alS pa ps i).1:Nat)]=(alS pa ps (i+1)).2.map vi:=by rw[hx];simp
   have p:Fits (((alS pa ps i).2.map vi).length+1) 8:=by rw[aj,Q];exact⟨by simp only[maxLen];omega,by omega⟩
   have f:jH ((alN (alS pa ps i).1:Nat),1,ps.getD i []) (alS pa ps i).1=(alS pa ps (i+1)).1:=rfl;rw[f]at y;clear hx f;generalize(alN (alS pa ps i).1:Nat)=an at *;generalize alS pa ps i=A at *;generalize n:alS pa ps (i+1)=A2 at *;(repeat' first|refine wV (Ac @pgE @aj.{0,0} h) ?_|refine tE ?_ ?_<;>intro a|fail);refine oh mix ?_;(repeat'(first|(simp(disch:=first|exact dqz|fail) only[pgz,simprocAttr,pgE,pga,aj,h,hg])|((with_reducible show eX _ _ _ _ _ _);refine cU y ?_)|((with_reducible show mX _ _ _ _ _ _ _);first|refine cA y ?_)|(refine tE ?_ ?_<;>intro a)|(with_reducible refine cKA ?_)|((with_reducible show gJ _ _ _ _ _);first|refine lG (by decide +kernel) ?_|refine lF (by decide +kernel) ?_)|refine xK ?_|fail));refine zt mix (fun _=>false) [9] ?_;(repeat'(first|(simp(disch:=first|exact dqz|fail) only[pgz,simprocAttr,pgE,pgF,id_eq.{1},r,p])|(refine tE ?_ ?_<;>intro a)|(with_reducible refine sQ ?_)|(refine mM _ _ _ _ _ ?_)|(with_reducible refine cK ?_)));(refine bL (i+1) [0] [0,1,2] (u) ?_;(refine kM ?_ ?_;(repeat'(first|exact ae|refine dQ _ _ rfl rfl ?_ ?_));all_goals(try simp only[pgm,simprocAttr]);all_goals(try(repeat' apply aI));all_goals(try exact gz)));all_goals(rw[n];first|exact fE rfl rfl|simp only[jS])
  .have:i=np:=Om;subst this;have v:obV ob++[V.agg [vi (la+1),.sl .fz 4 [.agg [vi (m+1),vi 0,vi b.length,.sl .fz 1 ((alS pa ps i).2.map vi)]]]]=obV (ob++[(la+1,[⟨m+1,0,b.length,(alS pa ps i).2⟩])]):=Aa;have p:Fits (obV ob).length 32:=by rw[aj];exact⟨by simp only[maxLen];omega,by omega⟩
   have q:Fits ((obV ob).length+1) 32:=by rw[aj];exact⟨by simp only[maxLen];omega,by omega⟩
   generalize(ob++[(la+1,[(⟨m+1,0,b.length,(alS pa ps i).2⟩:Vr)])])=nob at *;(repeat' first|refine wV (Ac @pgE @aj.{0,0} h) ?_|refine tE ?_ ?_<;>intro a|fail);refine zt mix (fun d=>bif d == 114 then true else bif d == 116 then true else false) [0] ?_;(repeat'(first|(simp(disch:=first|exact dqz|fail) only[pgz,simprocAttr,pgE,pgF,id_eq.{1},v,p,q])|((with_reducible show eX _ _ _ _ _ _);refine cU k6 ?_)|(refine tE ?_ ?_<;>intro a)|(with_reducible refine cK ?_)));refine oh mix ?_;(repeat'(first|(simp(disch:=first|exact dqz|fail) only[pgz,simprocAttr,pgE,pga,id_eq.{1},aj])|(refine tE ?_ ?_<;>intro a)|(with_reducible refine cKA ?_)|((with_reducible show gJ _ _ _ _ _);first|refine lG (by decide +kernel) ?_|refine lF (by decide +kernel) ?_)|refine xK ?_|fail));exact rE [3,4]
def uU(n:Int)(pa:List Pa):List Pa:=nT (ixA n pa 0).toNat pa
def puS(pa:List Pa)(ps:List (List Nat))(sh:List Bool)(op:List Int):Nat->List Pa×List Int
 |0=>(pa,[])
 |n+1=>if sh.getD n false=true then(uU (op.getD n 0) (puS pa ps sh op n).1,(puS pa ps sh op n).2++[op.getD n 0])else(jH ((alN (puS pa ps sh op n).1:Nat),1,ps.getD n []) (puS pa ps sh op n).1,(puS pa ps sh op n).2++[((alN (puS pa ps sh op n).1:Nat):Int)])
def frC(sh:List Bool):Nat->Nat
 |0=>0
 |n+1=>if sh.getD n false=true then frC sh n else frC sh n+1
def zV(sh:List Bool)(n m:Nat)(h:n<=m):frC sh n<=frC sh m/\frC sh n<=n:=by
 constructor
 .induction m with
  |zero=>grind
  |succ m i=>grind[frC]
 .induction n with
  |zero=>exact az _
  |succ n i=>unfold frC;split<;>omega
def PgN(pa:List Pa)(op:List Int)(B:Int):Prop:=(∀n∈op,n∈pa.map (·.1))/\∀p∈pa,0<=p.2.1/\p.2.1<=B
def CW{α:Type}(k:Int):∀(l:List (Int×α)) (i:Nat),k∈l.map (·.1)->∃j:Nat,ixA k l i=(j:Int)/\i<=j/\j<i+l.length/\∀d,(l.getD (j-i) d).1=k
 |x::r,i,h=>by
  unfold ixA;by_cases q:x.1=k
  .grind
  .rw[ag q];have h2:k∈r.map (·.1):=by grind
   obtain⟨j,h3,h4,h5,a⟩:=CW k r (i+1) h2;refine⟨j,h3,by omega,by simp;omega,fun d => ?_⟩;have e:j-i=(j-(i+1))+1:=Om;simp_all
theorem Oz(i:Nat)(pa:List Pa):(nT i pa).map (·.1)=pa.map (·.1):=by grind[nT,List.map_set,List.getD,List.set_getElem_self,List.set_eq_of_length_le]
theorem aaz{pa:List Pa}{op:List Int}{B:Int}(h:PgN pa op B)(i:Nat)(hi:i<pa.length):PgN (nT i pa) op (B+1):=by
 refine⟨fun n a=>by rw[Oz];exact h.1 n a,fun p hp => ?_⟩;rcases Rt hp with h1|h1
 .have:=h.2 p h1;omega
 .have:=h.2 (pa.getD i (0,0,[])) (by rw[gW,dY hi];exact ji hi);grind
theorem aaA{pa:List Pa}{op:List Int}{B:Int}(h:PgN pa op B)(x:Pa)(hx:x.2.1=1)(hB:0<=B):PgN (jH x pa) op (B+1):=by
 refine⟨fun n a => ?_,fun p hp => ?_⟩
 .have h1:=h.1 n a;simp_all[jH,xW]
 .simp[jH,xW]at hp;rcases hp with rfl|hp
  .omega
  .have:=h.2 p hp;omega
def P5{pa:List Pa}{op:List Int}{B:Int}(h:PgN pa op B)(hB:0<=B)(ps:List (List Nat))(sh:List Bool)(b:∀i,sh.getD i false=true->i<op.length)(n:Nat) :
  PgN (puS pa ps sh op n).1 op (B+n)/\(puS pa ps sh op n).1.length=pa.length+frC sh n/\(puS pa ps sh op n).2.length=n:=by
 induction n with
 |zero=>exact⟨by simpa[puS]using h,rfl,rfl⟩
 |succ n a =>
  obtain⟨h1,h2,h3⟩:=a;unfold puS frC;cases q:sh.getD n false
  .grind[OE,aaA]
  .have hm:op.getD n 0∈op:=by grind
   obtain⟨j,h4,_,h5,_⟩:=CW (op.getD n 0) _ 0 (h1.1 _ hm);grind[uU,nT,aaz]
def pk(l:List Nat):List Nat×Nat :=
 if(oL l&&Ik l)=true then(l,0)else
 if l.length=0 then([],1)else
 if l.getD 0 0≠37 then([],1)else
 if okB (l.drop 1) ((l.drop 1).length / 2)=false then([],1)else
 if(l.drop 1).length%2≠0 then([],1)else
 if oL (prs (l.drop 1) ((l.drop 1).length / 2))=false then([],1)else
 if Ik (prs (l.drop 1) ((l.drop 1).length / 2))=true then([],1)else(prs (l.drop 1) ((l.drop 1).length / 2),0)
def dig(l:List Nat):Nat:=l.foldl (fun x c=>10*x+(c-48)) 0
def Je(l:List Nat):List Nat:=if Ou l [45]=true then l.drop 1 else l
def ab1(b:List Nat)(n:Bool):Bool:=decide (b.length<1)||decide (12<b.length)||(b.getD 0 0 == 48&&(decide (1<b.length)||n))
def PU(l:List Nat):Int×Nat :=
 if ab1 (Je l) (Ou l [45])=true then(0,1)else
 if(Je l).all (fun c=>bt c 48 57)=false then(0,1)else
 (if Ou l [45]=true then-(dig (Je l):Int)else(dig (Je l):Int),0)
theorem LH(ψ:V->V)(f:Nat->V):unE (bD ψ f)=bD ψ (unE f):=rfl
theorem LJ(ψ:V->V)(f:Nat->V):unH (bD ψ f)=bD ψ (unH f):=rfl
theorem aK(args:List V)(e:Nat->V)(b:BX)(n:Nat)(h:Nat->V):EO args ⟨e,b,n,h⟩=⟨qw args 0,b,n,bM e h⟩:=rfl
theorem aH(P:Program)(a:List ResultVar)(s':St)(r:V)(s:St):JR P a s' r .ret s=yH P a s' r s:=rfl
theorem aG(P:Program)(a:List ResultVar)(s':St)(r:V)(s:St):JR P a s' r .normal s=yH P a s' r s:=rfl
def bC{P:Program}{a:List ResultVar}{s':St}{r:V}{e:Nat->V}{b:BX}{n:Nat}{h:Nat->V}(h1:kH P ⟨e,b,n,h⟩ a=some r)(h2:(⟨unE h,b,n,unH h⟩:St)=s'):yH P a s' r ⟨e,b,n,h⟩:=⟨h1,by subst h2;exact⟨rfl,rfl,rfl,az _⟩⟩
def ng{P:Program}{d:List ResultVar}{e':Nat->V}{a:BX}{n':Nat}{c:Nat->V}{r:V}{e:Nat->V}{b:BX}{n:Nat}{h:Nat->V}(h1:kH P ⟨e,b,n,h⟩ d=some r)(h2:unE h=e')(h3:unH h=c)(h4:b=a)(h5:n<=n'):yH P d ⟨e',a,n',c⟩ r ⟨e,b,n,h⟩:=by trivial
end Go.Proofs.YtopbmdnbdpjheaaGreat
