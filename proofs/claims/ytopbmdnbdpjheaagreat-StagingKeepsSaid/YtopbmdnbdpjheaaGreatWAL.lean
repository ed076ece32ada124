/-
  Merged texts.
-/
import Derived.Test.YtopbmdnbdpjheaaGreatWAK
import Derived.Test.YtopbmdnbdpjheaaGreatWAJ
import Derived.Test.YtopbmdnbdpjheaaGreatWAI
import Derived.Test.YtopbmdnbdpjheaaGreatWAF
import Derived.Lib.Bytealg
import Derived.Laws.Externs
set_option linter.all false
set_option linter.unusedVariables false
set_option linter.unusedSimpArgs false
set_option linter.unusedSectionVars false
set_option linter.defProp false
set_option maxRecDepth 100000
set_option maxHeartbeats 8000000
namespace Go.Proofs.YtopbmdnbdpjheaaGreat
open Go Go.Pg
theorem amX{l:List En}(h:octE l)(i:Nat)(e:En)(he:oct e.1):octE (l.set i e):=by
 intro x hx;rcases Rt hx with h1|rfl
 .exact h x h1
 .exact he
def ajK(t:Tp)(k:List Nat)(w:Int)(ho:octE t.e)(hk:oct k)(h:t.e.length<=1000000):octE (Ap t k w).1.e/\(Ap t k w).1.e.length<=1000000:=by
 unfold Ap;split
 .exact⟨(fun e he=>by cases he),ax _⟩
 .rename_i h1;have h1:=o8 h1;split
  .exact⟨(fun e he=>by cases he),ax _⟩
  .have h2:=zo h1;grind[octE,xn,oN,Y8,Y7]
theorem alB(d:Int){l:List En}(h:octE l):octE (lm d l):=by
 induction l with
 |nil=>exact h
 |cons y l i=>grind[octE,Wy]
theorem ajH(x:En){l:List En}(hx:oct x.1)(h:octE l):octE (kD x l):=by
 intro e he;rcases(ajG x e l).1 he with rfl|he
 .exact hx
 .exact h e he
def ajE(t:Fq)(k:List Nat)(w:Int)(ho:octE t.e)(hk:oct k)(h:t.e.length<=1000000):octE (Am t k w).1.e/\(Am t k w).1.e.length<=1000000:=by
 unfold Am;split
 .exact⟨(fun e he=>by cases he),ax _⟩
 .rename_i h1;have h1:=o8 h1;split
  .exact⟨(fun e he=>by cases he),ax _⟩
  .have h2:=zl h1;grind[WA,sW,amX,oN,ajH,ajF,alB]
def tN(v:List (List (List Nat))):Prop:=∀l∈v,octL l
def Xn{v:List (List (List Nat))}(h:tN v)(i:Nat):octL (v.getD i []):=by
 rcases au i v.length with hi|hi
 .exact h _ (wY _ _ _ hi)
 .rw[List.getD,Gi hi];intro e he;cases he
def amZ{v:List (List (List Nat))}(h:tN v)(i:Nat)(l:List (List Nat))(hl:octL l):tN (v.set i l):=by
 intro x hx;rcases Rt hx with h1|rfl
 .exact h x h1
 .exact hl
def apF(k:List Nat)(hk:oct k)(ps:List Int)(v:List (List (List Nat)))(hv:tN v)(i:Nat):tN (uf k ps v i):=by
 induction i with
 |zero=>exact hv
 |succ i a =>
  refine amZ ?_ _ _ ?_
  .intro l hl;rcases iG.1 hl with h1|h1
   .exact a l h1
   .rw[List.eq_of_mem_replicate h1];intro e he;cases he
  .intro e he;rcases iG.1 he with h1|h1
   .exact Xn a _ e h1
   .grind
def IE(s:Stl):Prop:=octL s.2.1/\∀l∈s.2.2.2.2,octL l/\l.length<=32
theorem atU(v:List (List (List Nat)))(z:Int)(b:z<=32)(co:List Nat)(s:Stl)(hv:tN v)(h:IE s):IE (vO v z co s):=by
 obtain⟨h1,h2⟩:=h
 have a:octL (jK v s):=by
  intro e he;unfold jK at he;rw[Y8]at he;split at he
  .rcases iG.1 he with he|he
   .exact Xn hv _ e he
   .exact h1 e he
  .exact h1 e he
 unfold vO;split
 .refine⟨(fun e he=>by cases he),fun l hl => ?_⟩;grind
 .refine⟨?_,fun l hl => ?_⟩
  .intro e he;grind[evN,Ic]
  .rcases iG.1 hl with hl|hl
   .grind
   .rw[jX.1 hl];exact⟨fun e he=>a e (BG he),by rw[eH];omega⟩
def atT(v:List (List (List Nat)))(z:Int)(h:z<=32)(co:List Nat)(hv:tN v):∀(f:Nat) (s:Stl),IE s->IE (vN v z co f s):=by intro f;induction f<;>grind[vN,atU]
def aux:∀(f:Nat) (l:List (List (List Nat))),(∀x∈pX f l,x∈l)/\(pX f l).length<=l.length:=by intro f;induction f<;>grind[pX,hx]
theorem ajI(x:Rk)(k:List Nat)(w:Int)(co:List Nat)(at':Int)(hk:oct k)(hv:tN x.v)(n:x.v.length<=1000000)(hm:∀l∈x.v,l.length<=1000000) :
  tN (uX x k w co at').1.v/\(uX x k w co at').1.v.length<=1000000/\∀l∈(uX x k w co at').1.v,l.length<=1000000:=by
 have a:tN []/\([]:List (List (List Nat))).length<=1000000/\∀l∈([]:List (List (List Nat))),l.length<=1000000:=⟨(fun l hl=>by cases hl),ax _,fun l hl=>by cases hl⟩
 unfold uX
 split
 .exact a
 .rename_i h1;have h1:=o8 h1;split
  .exact a
  .split
   .exact a
   .split
    .grind
    .obtain⟨p,i2,q,r,m⟩:=zn h1;have c:=Yj k (je w 63) x.v (fun i=>by have:=Ye w 63 i dX;omega) 31 m Om (je w 63).length;have f:=apF k hk (je w 63) x.v hv (je w 63).length;have b:=atT (tY x k w) x.z Om co f ((tY x k w).length*(100+1)) (0,[],x.l,at',[]) ⟨(fun e he=>by cases he),(fun l hl=>by cases hl)⟩;have d:=atV (tY x k w) x.z co ((tY x k w).length*(100+1)) (0,[],x.l,at',[]);have g:(tY x k w).length<=63:=c.1;obtain⟨t,t2⟩:=aux (xH x k w co at').2.2.2.2.length (xH x k w co at').2.2.2.2;have j:(xH x k w co at').2.2.2.2.length<=0+(tY x k w).length*(100+1):=d;have h:IE (xH x k w co at'):=b;show tN (pX _ _)/\(pX _ _).length<=_/\∀l∈pX _ _,_;exact⟨fun l hl=>(h.2 l (t l hl)).1,by omega,fun l hl=>by have:=(h.2 l (t l hl)).2;omega⟩
abbrev zer(n:Nat):List Int:=List.replicate n 0
def aih(d z s:Int)(h:1<=d/\d<=8/\1<=z/\z<=64):Gxx 266 [vi d,vi z,vu s] (.tup [.agg (cmF ⟨d,z,s,zer (d*z).toNat,false⟩),vi 0]):=by
 refine Good.fzt (vs:=[.agg [vi d,vi z,vu s,.sl (.own 0 3) 1 (iv (zer (d*z).toNat)),vb false],vi 0]) ?_ rfl ⟨aC _,aC _,trivial⟩;have k:=pO d 1 8 ⟨h.1,h.2.1⟩;have k2:=pO z 1 64 h.2.2;have hm:=xx (d:=d) (z:=z) ⟨h.1,h.2.1⟩ h.2.2;have a:∀n:Nat,List.replicate n (V.c (.int .i64 0))=iv (zer n):=fun n=>by simp[iv]
 refine gI oW ?_;exact wR a (aI k k2) (ids [1])
def aim(p s:Int)(h:2<=p/\p<=8):Gxx 267 [vi p,vu s] (.tup [.agg (llF ⟨p,s,zer (2^p.toNat)⟩),vi 0]):=by
 refine Good.fzt (vs:=[.agg [vi p,vu s,.sl (.own 0 3) 1 (iv (zer (2^p.toNat)))],vi 0]) ?_ rfl ⟨aC _,aC _,trivial⟩;have k:=pO p 2 8 h;obtain⟨hm,b,_⟩:=yX h;have a:∀n:Nat,List.replicate n (V.c (.int .i64 0))=iv (zer n):=fun n=>by simp[iv]
 generalize 2^p.toNat=q at hm b⊢;refine gI oW ?_;exact wR (aI a @hm) k (ids [1])
def aiv(p:Int)(h:1<=p/\p<=32):Gxx 268 [vi p] (.tup [.agg (tpF ⟨p,0,[],false⟩),vi 0]):=by refine Good.fzt (vs:=[.agg [vi p,vi 0,nls,vb false],vi 0]) ?_ rfl ⟨.inr ⟨_,_,rfl,rfl,⟨.inl rfl,.inl rfl,jB _ _,.inl rfl,trivial⟩⟩,aC _,trivial⟩;have k:=pO p 1 32 h;refine gI oW ?_;exact wR ae k ay
def aij(p:Int)(h:1<=p/\p<=32):Gxx 269 [vi p] (.tup [.agg (fqF ⟨p,0,0,[],false⟩),vi 0]):=by refine Good.fzt (vs:=[.agg [vi p,vi 0,vi 0,nls,vb false],vi 0]) ?_ rfl ⟨.inr ⟨_,_,rfl,rfl,⟨.inl rfl,.inl rfl,.inl rfl,jB _ _,.inl rfl,trivial⟩⟩,aC _,trivial⟩;have k:=pO p 1 32 h;refine gI oW ?_;exact wR ae k ay
def ais(p:Int)(h:2<=p/\p<=32/\p%2=0):Gxx 270 [vi p] (.tup [.agg (rkF ⟨p,0,0,[],false⟩),vi 0]):=by refine Good.fzt (vs:=[.agg [vi p,vi 0,vi 0,nls,vb false],vi 0]) ?_ rfl ⟨.inr ⟨_,_,rfl,rfl,⟨.inl rfl,.inl rfl,.inl rfl,jB _ _,.inl rfl,trivial⟩⟩,aC _,trivial⟩;have k:=pO p 2 32 ⟨h.1,h.2.1⟩;have a:p.tmod 2=p%2:=LX Om;refine gI oW ?_;exact wR a k ay
def Dh(p:Pm):Sk :=
 if p.k=1 then⟨p,Tl.o,Cm.o,Ll.o,Tp.o,Fq.o,Rk.o⟩
 else if p.k=2 then⟨p,Tl.o,⟨p.d,p.z,p.s,zer (p.d*p.z).toNat,false⟩,Ll.o,Tp.o,Fq.o,Rk.o⟩
 else if p.k=3 then⟨p,Tl.o,Cm.o,⟨p.z,p.s,zer (2^p.z.toNat)⟩,Tp.o,Fq.o,Rk.o⟩
 else if p.k=4 then⟨p,Tl.o,Cm.o,Ll.o,⟨p.z,0,[],false⟩,Fq.o,Rk.o⟩
 else if p.k=5 then⟨p,Tl.o,Cm.o,Ll.o,Tp.o,⟨p.z,0,0,[],false⟩,Rk.o⟩
 else⟨p,Tl.o,Cm.o,Ll.o,Tp.o,Fq.o,⟨p.z,0,0,[],false⟩⟩
def aab{z d s:Int}(h:vp 2 z d s=0):1<=d/\d<=8/\1<=z/\z<=64:=by grind[vp]
def aac{z d s:Int}(h:vp 3 z d s=0):2<=z/\z<=8:=by grind[vp]
def avC{z d s:Int}(h:vp 4 z d s=0):1<=z/\z<=32:=by grind[vp]
def avD{z d s:Int}(h:vp 5 z d s=0):1<=z/\z<=32:=by grind[vp]
def avE{z d s:Int}(h:vp 6 z d s=0):2<=z/\z<=32/\z%2=0:=by grind[vp]
def amD(p:Pm)(c:0<=p.s/\p.s<18446744073709551616)(h:vp p.k p.z p.d p.s=0):(Dh p).Ok:=by
 have b:(0:Int)<=0/\(0:Int)<18446744073709551616:=⟨by decide,by decide⟩;have a:octE []:=fun e he=>by cases he
 have v:tN []:=fun e he=>by cases he
 have m0:∀l∈([]:List (List (List Nat))),l.length<=1000000:=fun e he=>by cases he
 obtain⟨k,z,d,s⟩:=p;simp only at c h;unfold Dh;split
 .exact⟨c,b,b,ax _,ax _,a,ax _,a,ax _,v,ax _,m0⟩
 .split
  .rename_i hk;subst hk;have h2:=aab h;have hm:=xx (d:=d) (z:=z) ⟨h2.1,h2.2.1⟩ h2.2.2;exact⟨c,c,b,by simp;omega,ax _,a,ax _,a,ax _,v,ax _,m0⟩
  .split
   .rename_i hk;subst hk;have h2:=(yX (aac h)).2.1;exact⟨c,b,c,ax _,by simp;omega,a,ax _,a,ax _,v,ax _,m0⟩
   .split
    .exact⟨c,b,b,ax _,ax _,a,ax _,a,ax _,v,ax _,m0⟩
    .split
     .exact⟨c,b,b,ax _,ax _,a,ax _,a,ax _,v,ax _,m0⟩
     .exact⟨c,b,b,ax _,ax _,a,ax _,a,ax _,v,ax _,m0⟩
def ahM(p:Pm)(h:vp p.k p.z p.d p.s=0):Gxx 192 [.agg (pmF p)] (.tup [.agg (skF (Dh p)),vi 0]):=by
 have hv:=Vf p.k p.z p.d p.s;rw[h]at hv;have hk:=Gf h;obtain⟨k,z,d,s⟩:=p;simp only at h hv hk;rcases hk with rfl|rfl|rfl|rfl|rfl|rfl
 all_goals
  refine aiH (by simp[skU,Dh]) ?_
  first|have c:=aih d z s (aab h)|have c:=aim z s (aac h)|have c:=aiv z (avC h)|have c:=ais z (avE h)|have c:=hv
  first|have a:=aij z (avD h)|have a:=hv
  simp only[skN,Dh,Int.reduceEq,reduceIte]
  generalize zer (d*z).toNat=Z at *
  generalize zer (2^z.toNat)=Z at *
  refine gI oD ?_
  exact wRA ae (Ac hv c a) ay
def xq(s:Sk)(k:List Nat)(w:Int)(co:List Nat)(at':Int):Sk×Int×Int :=
 if vSk s≠0 then(Sk.o,0,vSk s)else if iW k w≠0 then(Sk.o,0,iW k w)else if ¬(0<=at'/\at'<=1073741824)then(Sk.o,0,5)
 else if s.p.k=1 then(⟨s.p,(Hw s.tl k w).1,s.cm,s.ll,s.tp,s.fq,s.rk⟩,at',0)
 else if s.p.k=2 then(⟨s.p,s.tl,(yJ s.cm k w).1,s.ll,s.tp,s.fq,s.rk⟩,at',0)
 else if s.p.k=3 then(⟨s.p,s.tl,s.cm,(yK s.ll k w).1,s.tp,s.fq,s.rk⟩,at',0)
 else if s.p.k=4 then(⟨s.p,s.tl,s.cm,s.ll,(Ap s.tp k w).1,s.fq,s.rk⟩,at',0)
 else if s.p.k=5 then(⟨s.p,s.tl,s.cm,s.ll,s.tp,(Am s.fq k w).1,s.rk⟩,at',0)
 else(⟨s.p,s.tl,s.cm,s.ll,s.tp,s.fq,(uX s.rk k w co at').1⟩,(uX s.rk k w co at').2.1,0)
def Qz:Sk.o.Ok:=⟨⟨by decide,by decide⟩,⟨by decide,by decide⟩,⟨by decide,by decide⟩,ax _,ax _,(fun e he=>by cases he),ax _,(fun e he=>by cases he),ax _,(fun e he=>by cases he),ax _,(fun e he=>by cases he)⟩
def ajJ(s:Sk)(ok:s.Ok)(k:List Nat)(w:Int)(co:List Nat)(at':Int)(hk:oct k):(xq s k w co at').1.Ok:=by
 have a:(0:Int)<=0/\(0:Int)<18446744073709551616:=⟨by decide,by decide⟩;unfold xq;split
 .exact Qz
 .split
  .exact Qz
  .split
   .exact Qz
   .split
    .exact⟨ok.ps,ok.cs,ok.ls,ok.cn,ok.ln,ok.to,ok.tn,ok.fo,ok.fn,ok.ro,ok.rn,ok.rm⟩
    .split
     .have h:(0<=(yJ s.cm k w).1.s/\(yJ s.cm k w).1.s<18446744073709551616)/\(yJ s.cm k w).1.c.length<=1000000:=by
       unfold yJ;split
       .exact⟨a,ax _⟩
       .have:=YD s.cm k w s.cm.d.toNat;show(0<=(kV s.cm k w s.cm.d.toNat).s/\_)/\(kV s.cm k w s.cm.d.toNat).c.length<=_;rw[this.2.2.1,this.2.2.2];exact⟨ok.cs,ok.cn⟩
      exact⟨ok.ps,h.1,ok.ls,h.2,ok.ln,ok.to,ok.tn,ok.fo,ok.fn,ok.ro,ok.rn,ok.rm⟩
     .split
      .have h:(0<=(yK s.ll k w).1.s/\(yK s.ll k w).1.s<18446744073709551616)/\(yK s.ll k w).1.r.length<=1000000:=by
        unfold yK;split
        .exact⟨a,ax _⟩
        .exact⟨ok.ls,by simp only[nI];exact ok.ln⟩
       exact⟨ok.ps,ok.cs,h.1,ok.cn,h.2,ok.to,ok.tn,ok.fo,ok.fn,ok.ro,ok.rn,ok.rm⟩
      .split
       .have h:=ajK s.tp k w ok.to hk ok.tn;exact⟨ok.ps,ok.cs,ok.ls,ok.cn,ok.ln,h.1,h.2,ok.fo,ok.fn,ok.ro,ok.rn,ok.rm⟩
       .split
        .have h:=ajE s.fq k w ok.fo hk ok.fn;exact⟨ok.ps,ok.cs,ok.ls,ok.cn,ok.ln,ok.to,ok.tn,h.1,h.2,ok.ro,ok.rn,ok.rm⟩
        .have h:=ajI s.rk k w co at' hk ok.ro ok.rn ok.rm;exact⟨ok.ps,ok.cs,ok.ls,ok.cn,ok.ln,ok.to,ok.tn,ok.fo,ok.fn,h.1,h.2.1,h.2.2⟩
def Lc:wkV (.agg (skC Sk.o nls nls nls nls nls)) (.agg (skF Sk.o)):=YY Sk.o (Fg _) (Fg _) (Fg _) (Fg _) (Fg _)
def aiq(n:Int):Gxx 272 [vi n] (vb (decide (0<=n/\n<=1073741824))):=by
 by_cases h1:0<=n
 .by_cases h2:n<=1073741824
  .rw[eU ⟨h1,h2⟩];refine gI oW ?_;exact wR ae ae ay
  .rw[dK (fun h=>h2 h.2)];refine gI oW ?_;exact wR ae ae ay
 .rw[dK (fun h=>h1 h.1)];refine gI oW ?_;exact wR ae ae ay
def ahA(s:Sk)(ok:s.Ok)(k:List Nat)(w:Int)(co:List Nat)(at':Int)(ho:oct k)(b:oct co):Gxx 193 [.agg (skF s),.agg [vs k,vi w],fzb co,vi at'] (.tup [.agg (skF (xq s k w co at').1),vi (xq s k w co at').2.1,vi (xq s k w co at').2.2]):=by
 have h1:=zY s ok;have h2:=CO k w;have h3:=aiq at';unfold xq;by_cases q:vSk s=0
 .rw[ag (fun h=>h q)];rw[q]at h1;by_cases c:iW k w=0
  .rw[ag (fun h=>h c)];rw[c]at h2;by_cases a:0<=at'/\at'<=1073741824
   .rw[ag (fun h=>h a)];rw[eU a]at h3
    have d:vp s.p.k s.p.z s.p.d s.p.s=0:=by
     unfold vSk at q;split at q
     .rename_i h;exact absurd q h
     .rename_i h;exact o8 h
    have m:=ahF s.tl k w;have n:=ahB s.cm k w ho;have p:=ahD s.ll k w ho ok.ln;have r:=ahG s.tp k w ho ok.to ok.tn;have t:=ahC s.fq k w ho ok.fo ok.fn;have u:=ahE s.rk k w co at' ho b ok.ro ok.rn ok.rm;generalize Hw s.tl k w=I at *;generalize yJ s.cm k w=f at *;generalize yK s.ll k w=g at *;generalize Ap s.tp k w=i at *;generalize Am s.fq k w=j at *;generalize uX s.rk k w co at'=l at *;clear ok q;have hk:=Gf d;clear d;obtain⟨⟨pk,pz,pd,ps⟩,⟨X,t2,Y⟩,⟨c1,v,x,y,A⟩,⟨N,P,Q⟩,⟨C,E,F,G⟩,⟨H,J,K,L,M⟩,⟨R,S,T,U,W⟩⟩:=s;obtain⟨⟨_,_,_⟩,_⟩:=I;obtain⟨⟨_,_,_,_,_⟩,_⟩:=f;obtain⟨⟨_,_,_⟩,_⟩:=g;obtain⟨⟨_,_,_,_⟩,_⟩:=i;obtain⟨⟨_,_,_,_,_⟩,_⟩:=j;obtain⟨⟨_,_,_,_,_⟩,_,_⟩:=l;simp only at *;rcases hk with rfl|rfl|rfl|rfl|rfl|rfl
    all_goals
     simp only[Int.reduceEq,reduceIte]
     refine gI oD ?_
     exact wRA ae (A8 h1 h2 h3 m n p r t u) ay
   .rw[ah a];rw[dK a]at h3;refine Good.fzt (vs:=[.agg (skC Sk.o nls nls nls nls nls),vi 0,vi 5]) ?_ rfl ⟨Lc,aC _,aC _,trivial⟩;refine gI oD ?_;exact wRA ae (Ac h1 h2 h3) ay
  .rw[ah c];refine Good.fzt (vs:=[.agg (skC Sk.o nls nls nls nls nls),vi 0,vi (iW k w)]) ?_ rfl ⟨Lc,aC _,aC _,trivial⟩;refine gI oD ?_;exact wRA ae (aI h1 h2) ay
 .rw[ah q];refine Good.fzt (vs:=[.agg (skC Sk.o nls nls nls nls nls),vi 0,vi (vSk s)]) ?_ rfl ⟨Lc,aC _,aC _,trivial⟩;refine gI oD ?_;exact wRA ae h1 ay
def art(n:Nat):Int.fdiv (n:Int) (2^min 1 IntKind.i64.bits)=((n / 2:Nat):Int):=by show Int.fdiv (n:Int) ((2:Nat):Int)=_;grind
def arx(n:Nat):Int.fdiv (n:Int) (2^min 3 IntKind.i64.bits)=((n / 8:Nat):Int):=by show Int.fdiv (n:Int) ((8:Nat):Int)=_;grind
def ary(n:Nat):Int.fdiv (n:Int) (2^min 4 IntKind.i64.bits)=((n / 16:Nat):Int):=by show Int.fdiv (n:Int) ((16:Nat):Int)=_;grind
def arz(n:Nat):Int.fdiv (n:Int) (2^min 5 IntKind.i64.bits)=((n / 32:Nat):Int):=by show Int.fdiv (n:Int) ((32:Nat):Int)=_;grind
def arA(n:Nat):Int.fdiv (n:Int) (2^min 6 IntKind.i64.bits)=((n / 64:Nat):Int):=by show Int.fdiv (n:Int) ((64:Nat):Int)=_;grind
def arB(n:Nat):Int.fdiv (n:Int) (2^min 7 IntKind.i64.bits)=((n / 128:Nat):Int):=by show Int.fdiv (n:Int) ((128:Nat):Int)=_;grind
def arC(n:Nat):Int.fdiv (n:Int) (2^min 8 IntKind.i64.bits)=((n / 256:Nat):Int):=by show Int.fdiv (n:Int) ((256:Nat):Int)=_;grind
def arD(n:Nat):Int.fdiv (n:Int) (2^min 9 IntKind.i64.bits)=((n / 512:Nat):Int):=by show Int.fdiv (n:Int) ((512:Nat):Int)=_;grind
def aru(n:Nat):Int.fdiv (n:Int) (2^min 10 IntKind.i64.bits)=((n / 1024:Nat):Int):=by show Int.fdiv (n:Int) ((1024:Nat):Int)=_;grind
def arv(n:Nat):Int.fdiv (n:Int) (2^min 11 IntKind.i64.bits)=((n / 2048:Nat):Int):=by show Int.fdiv (n:Int) ((2048:Nat):Int)=_;grind
def arw(n:Nat):Int.fdiv (n:Int) (2^min 12 IntKind.i64.bits)=((n / 4096:Nat):Int):=by show Int.fdiv (n:Int) ((4096:Nat):Int)=_;grind
def aaM(n:Nat):bits .and .i64 (n:Int) 1=((n%2:Nat):Int):=Eq.trans (show _=(n:Int)%2 from qm (n:Int) 1 dX) rfl
def aaO(n:Nat):bits .and .i64 (n:Int) 3=((n%4:Nat):Int):=Eq.trans (show _=(n:Int)%4 from qm (n:Int) 2 dX) rfl
def aaQ(n:Nat):bits .and .i64 (n:Int) 7=((n%8:Nat):Int):=Eq.trans (show _=(n:Int)%8 from qm (n:Int) 3 dX) rfl
def aaR(n:Nat):bits .and .i64 (n:Int) 15=((n%16:Nat):Int):=Eq.trans (show _=(n:Int)%16 from qm (n:Int) 4 dX) rfl
def aaS(n:Nat):bits .and .i64 (n:Int) 31=((n%32:Nat):Int):=Eq.trans (show _=(n:Int)%32 from qm (n:Int) 5 dX) rfl
def aaT(n:Nat):bits .and .i64 (n:Int) 63=((n%64:Nat):Int):=Eq.trans (show _=(n:Int)%64 from qm (n:Int) 6 dX) rfl
def aaN(n:Nat):bits .and .i64 (n:Int) 65535=((n%65536:Nat):Int):=Eq.trans (show _=(n:Int)%65536 from qm (n:Int) 16 dX) rfl
def aaP(n:Nat):bits .and .i64 (n:Int) 16777215=((n%16777216:Nat):Int):=Eq.trans (show _=(n:Int)%16777216 from qm (n:Int) 24 dX) rfl
def shB:=A8 @art @arx @ary @arz @arA @arB @arC @arD (Ac @aru @arv (@arw))
def anB:=Ah @aaM @aaO @aaQ @aaR @aaS @aaT @aaN (@aaP)
theorem tmN(a b:Nat):Int.tmod (a:Int) (b:Int)=((a%b:Nat):Int):=rfl
theorem tdN(a b:Nat):Int.tdiv (a:Int) (b:Int)=((a / b:Nat):Int):=rfl
def atN(l:List Int)(i:Nat):Nat:=if l.length=0 then i%65536 else(l.getD (i%l.length) 0%65536).toNat+i / l.length
theorem GH(l:List Int)(i:Nat):atN l i<=65535+i:=by
 unfold atN;split
 .omega
 .have:=Nat.div_le_self i l.length;omega
def Sj(n:Int):bits .and .i64 n 65535=(((n%65536).toNat:Nat):Int):=by grind[aaY]
def He(l:List Int)(i:Nat)(hl:l.length<=9223372036854775807)(hi:i<=1000000):Gxx 34 [fzi l,vi i] (vi (atN l i:Nat)):=by
 have a:=bV l;unfold atN;by_cases h:l.length=0
 .rw[ah h];refine gI oW ?_;exact wR (aI a @anB) ae ay
 .rw[ag h];have b:i%l.length<l.length:=kQ _ Om;have hg:=lh l (i%l.length) b;have c:=tmN i l.length;have d:=tdN i l.length;have f:=Sj (l.getD (i%l.length) 0);have g:=Nat.div_le_self i l.length;have hb:(l.getD (i%l.length) 0%65536).toNat<65536:=Om;generalize(l.getD (i%l.length) 0%65536).toNat=x at *;generalize l.getD (i%l.length) 0=y at *;generalize i%l.length=j at *;generalize i / l.length=k at *;refine gI oW ?_;exact wR (Ae a c d @hg f) ae ay
def wB(n:Nat):Int:=if n / 4096%16=14 then 1+((n%65536*65537%4294967295:Nat):Int)else if n / 4096%16=15 then 4294967295-((n%4:Nat):Int)else 1+((n / 16%8:Nat):Int)
def EQ(n:Nat):List Nat×Int:=(ER n,wB n)
theorem tmW(a:Nat):Int.tmod ((a:Int)*65537) 4294967295=((a*65537%4294967295:Nat):Int):=rfl
def ahH(n:Nat)(h:n<=1000000000):Gxx 194 [vi n] (.agg [vs (EQ n).1,vi (EQ n).2]):=by
 have hk:=ahK (n:Int);have e:=tmW (n%65536);unfold EQ wB;simp only;by_cases h1:n / 4096%16=14
 .rw[ah h1];refine gI oW ?_;exact wR (Ac @shB @anB e) hk ay
 .rw[ag h1];by_cases h2:n / 4096%16=15
  .rw[ah h2];refine gI oW ?_;exact wR (Ac @shB @anB e) hk ay
  .rw[ag h2];refine gI oW ?_;exact wR (Ac @shB @anB e) hk ay
def qx(l:List Int)(n:Nat):List (List Nat×Int):=(List.range n).map fun i=>EQ (atN l i)
def OI(l:List Int)(n:Nat):(qx l n).length=n:=by simp[qx]
def aks(l:List Int)(n:Nat):itv (qx l n)++[V.agg [vs (EQ (atN l n)).1,vi (EQ (atN l n)).2]]=itv (qx l (n+1)):=by simp[qx,itv,BI]
def ahI(l:List Int)(n:Nat)(hl:l.length<=9223372036854775807)(g:n<=1000):Gxx 99 [fzi l,vi n] (fzt (qx l n)):=by
 refine Good.fzr (r:=.sl (.own 0 268) 2 (itv (qx l n))) ?_ rfl (aC _);refine gI oW ?_;refine wT ae ?_;refine aJ (fun i:Nat=>mkA [(0,fzi l),(1,vi n),(5,.sl (.own 0 268) 2 (itv (qx l i))),(6,vi i)] [] 1 (fun _=>.top)) (fun i=>i<=n) (fun i=>n-i) 0 [] [] ?_ (ax _) ?_
 .exact kE;all_goals exact iT rfl
 .intro i hi;replace hi:i<=n:=hi;have b:=VU (qx l i);have h:=OI l i;rcases au i n with c|f
  .have h1:=He l i hl Om;have h2:=ahH (atN l i) (by have:=GH l i;omega);have d:=aks l i;generalize atN l i=a at *;refine wS (Ac b h d) (aI h1 h2) ?_;exact bE (i+1) [0] [] c
  .have:i=n:=Om;subst this;exact wR ae ae (ids [0])
def qG(n:Nat):Pm :=
 if n%6=0 then⟨1,0,0,0⟩else if n%6=1 then⟨2,1+((n / 16%4:Nat):Int),1+((n / 8%2:Nat):Int),((n / 256%4:Nat):Int)⟩else if n%6=2 then⟨3,2+((n / 8%2:Nat):Int),0,((n / 256%4:Nat):Int)⟩
 else if n%6=3 then⟨4,1+((n / 8%4:Nat):Int),0,0⟩else if n%6=4 then⟨5,1+((n / 8%4:Nat):Int),0,0⟩else⟨6,2+2*((n / 8%2:Nat):Int),0,0⟩
def Yh(n:Nat):vp (qG n).k (qG n).z (qG n).d (qG n).s=0:=by unfold qG;(repeat' split)<;>simp[vp]<;>omega
def Yg(n:Nat):0<=(qG n).s/\(qG n).s<18446744073709551616:=by grind[qG]
theorem tm6(n:Nat):Int.tmod (n:Int) 6=((n%6:Nat):Int):=rfl
def ahO(n:Nat)(b:n<=1000000000):Gxx 98 [vi n] (.agg (pmF (qG n))):=by
 have e:=tm6 n;have a:n%6<6:=kQ _ Om;unfold qG;rcases(show n%6=0\/n%6=1\/n%6=2\/n%6=3\/n%6=4\/n%6=5 by omega)with h|h|h|h|h|h
 all_goals
  simp only[h]at e⊢
  refine gI oW ?_
  exact wR (Ac @shB @anB e) ae ay
def pK(p:Pm)(its:List (List Nat×Int))(co:List Nat):Nat->Sk×Int
 |0=>(Dh p,0)
 |i+1=>((xq (pK p its co i).1 (its.getD i ([],0)).1 (its.getD i ([],0)).2 co (pK p its co i).2).1,(xq (pK p its co i).1 (its.getD i ([],0)).1 (its.getD i ([],0)).2 co (pK p its co i).2).2.1)
def Uk(p:Pm)(h:0<=p.s/\p.s<18446744073709551616)(hv:vp p.k p.z p.d p.s=0)(its:List (List Nat×Int))(ho:∀x∈its,oct x.1)(co:List Nat)(i:Nat):(pK p its co i).1.Ok:=by
 induction i with
 |zero=>exact amD p h hv
 |succ i a =>refine ajJ _ a _ _ _ _ ?_;grind[vk]
def ahw(p:Pm)(s:0<=p.s/\p.s<18446744073709551616)(hv:vp p.k p.z p.d p.s=0)(its:List (List Nat×Int))(t:its.length<=1000000)(ho:∀x∈its,oct x.1)(co:List Nat)(f:oct co) :
  Gxx 97 [.agg (pmF p),fzt its,fzb co] (.agg (skF (pK p its co its.length).1)):=by
 have h1:=ahM p hv
 have c:=VU its
 have j:=Uk p s hv its ho co
 have n:pK p its co 0=(Dh p,0):=rfl
 have q:∀i,pK p its co (i+1)=((xq (pK p its co i).1 (its.getD i ([],0)).1 (its.getD i ([],0)).2 co (pK p its co i).2).1,(xq (pK p its co i).1 (its.getD i ([],0)).1 (its.getD i ([],0)).2 co (pK p its co i).2).2.1):=fun _=>rfl
 generalize pK p its co=F at *
 obtain⟨pk,pz,pd,ps⟩:=p
 refine gI oW ?_
 refine wS ae h1 ?_
 refine aJ (fun i:Nat=>mkA [(1,fzt its),(2,fzb co),(6,.ref 0 0),(7,.ref 1 0),(9,vi (F i).2),(10,vi i)] [(0,(57,skC Sk.o nls nls nls nls nls)),(1,(57,skF (F i).1))] 2 (fun _=>.top)) (fun i=>i<=its.length) (fun i=>its.length-i) 0 [] [1,2] ?_ (ax _) ?_
 .rw[n];exact kE
 .intro i hi;replace hi:i<=its.length:=hi;rcases au i its.length with h|r
  .have hg:=akt its i h;have k:=ho _ (wY its i ([],0) h);have b:=q i;have d:=j i;generalize its.getD i ([],0)=x at *;have h2:=ahA (F i).1 d x.1 x.2 co (F i).2 k f;have l:=mV Prod.fst b;have m:=mV Prod.snd b;simp only at l m;rw[<-l,<-m]at h2;generalize F i=G at *;obtain⟨g,a⟩:=G;refine wS (aI c @hg) h2 ?_;exact bE (i+1) [] [0,1] h
  .have:i=its.length:=Om;subst this;exact wR c ae ay
def fK(s:Sk):List Nat:=if s.p.k=1 then gX s.tl else if s.p.k=2 then jD s.cm else if s.p.k=3 then l7 s.ll else if s.p.k=4 then jG s.tp else if s.p.k=5 then jE s.fq else jF s.rk
def dw(s:Sk):List Nat:=if vSk s≠0 then[]else jR 83 (ai s.p.k.toNat++fK s)
def qf{s:Sk}(h:vSk s=0):vp s.p.k s.p.z s.p.d s.p.s=0/\gU s=0:=by grind[vSk]
theorem wW{α:Type}(f:α->List Nat)(l:List α)(h:∀x∈l,oct (f x)):oct (l.flatMap f):=by intro b hb;obtain⟨x,hx,hb⟩:=List.mem_flatMap.1 hb;exact h x hx b hb
theorem zO(s:Sk)(ok:s.Ok)(h:vSk s=0):oct (fK s)/\(fK s).length<=100000:=by
 obtain⟨h1,h2⟩:=qf h;unfold fK;unfold gU at h2;have U:=fun n=>bP n
 split
 .unfold gX;refine⟨bT (bT (dI _) (dI _)) (G5 _),?_⟩;have:=U s.tl.t.toNat;have:=U s.tl.i.toNat;have:=qZ s.tl.b;grind
 .rename_i u;rw[ag u]at h2;split
  .rename_i q;rw[ah q]at h2;obtain⟨i,i2,f,c⟩:=Bv h2;have hm:=xx i i2;unfold jD;refine⟨bT (bT (bT (bT (dI _) (dI _)) (Q7 _)) (wW _ _ fun _ _=>dI _)) (G5 _),?_⟩;have:=U s.cm.d.toNat;have:=U s.cm.z.toNat;have:=qZ s.cm.b;have:=qg s.cm.s;have d:=CJ (fun n:Int=>ai n.toNat) 9 s.cm.c (fun x _=>U _);have t:s.cm.c.length<=512:=Om;have v:(aZ s.cm.c).length<=s.cm.c.length*9:=d;grind
  .rename_i q;rw[ag q]at h2;split
   .rename_i m;rw[ah m]at h2;obtain⟨i,i2,f⟩:=Bz h2;have hp:=(yX i).2.1;unfold l7;refine⟨bT (bT (dI _) (Q7 _)) (fun b hb=>by obtain⟨x,_,rfl⟩:=dP.1 hb;exact ZE _),?_⟩;have:=U s.ll.p.toNat;have:=qg s.ll.s;simp only[aN,aj];omega
   .rename_i m;rw[ag m]at h2;split
    .rename_i p;rw[ah p]at h2;obtain⟨i,i2,f,c⟩:=zo h2;unfold jG;refine⟨bT (bT (bT (bT (dI _) (dI _)) (G5 _)) (dI _)) (wW _ _ fun e he=>bT (bT (FV (ok.to e he)) (dI _)) (dI _)),?_⟩;have:=U s.tp.z.toNat;have:=U s.tp.t.toNat;have:=qZ s.tp.b;have:=U s.tp.e.length;have d:=CJ eu 59 s.tp.e (fun x hx=>by obtain⟨j,hj,he⟩:=nz eD hx;refine NF x ?_;have:=(CB (c j hj)).1;rw[ry,he]at this;exact this.2);have t:s.tp.e.length<=32:=Om;simp only[aN];omega
    .rename_i p;rw[ag p]at h2;split
     .rename_i r;rw[ah r]at h2;obtain⟨i,i2,g,f,c⟩:=zl h2;unfold jE;refine⟨bT (bT (bT (bT (bT (dI _) (dI _)) (dI _)) (G5 _)) (dI _)) (wW _ _ fun e he=>bT (FV (ok.fo e he)) (dI _)),?_⟩;have:=U s.fq.z.toNat;have:=U s.fq.t.toNat;have:=U s.fq.l.toNat;have:=qZ s.fq.b;have:=U s.fq.e.length;have d:=CJ eP 50 s.fq.e (fun x hx=>by obtain⟨j,hj,he⟩:=nz eD hx;refine NE x ?_;have:=(Cj (c j hj)).1;rw[ry,he]at this;exact this.2);have t:s.fq.e.length<=32:=Om;simp only[aN];omega
     .rename_i r;rw[ag r]at h2;have a:=IK h2;obtain⟨i,i2,g,f,c⟩:=zn h2;unfold jF;refine⟨bT (bT (bT (bT (bT (dI _) (dI _)) (dI _)) (G5 _)) (dI _)) (wW _ _ fun l hl=>bT (dI _) (wW _ _ fun k hk=>FV (ok.ro l hl k hk))),?_⟩;have:=U s.rk.z.toNat;have:=U s.rk.t.toNat;have:=U s.rk.l.toNat;have:=qZ s.rk.b;have:=U s.rk.v.length;have d:=CJ dW 1280 s.rk.v (fun l hl=>by obtain⟨j,hj,he⟩:=nz [] hl;rw[<-he];exact OT _ (a j hj) (c j));simp only[aN];omega
def Ny(s:Sk)(ok:s.Ok):oct (dw s)/\(dw s).length<=100100:=by grind[dw,vk,zO,bP,UG,bT,dI,agD,ai,fK]
theorem Xh:wkV nls (fzb []):=.inl (jB _ _)
def ahj(s:Sk)(ok:s.Ok)(h:vSk s≠0):Gxx 18 [.agg (skF s)] (.tup [fzb (dw s),vi (vSk s)]):=by have h1:=zY s ok;have e:dw s=[]:=ah h;rw[e];refine Good.fzt (vs:=[nls,vi (vSk s)]) ?_ rfl ⟨Xh,aC _,trivial⟩;generalize vSk s=v at *;clear ok e;obtain⟨⟨pk,pz,pd,ps⟩,⟨E,t2,F⟩,⟨c1,c,a,b,d⟩,⟨q,r,t⟩,⟨f,g,i,j⟩,⟨k,l,m,n,p⟩,⟨u,x,y,A,C⟩⟩:=s;refine gI oW ?_;exact wR ae h1 ay
def ahk(s:Sk)(ok:s.Ok)(h:vSk s=0)(hk:s.p.k=1):Gxx 18 [.agg (skF s)] (.tup [fzb (dw s),vi (vSk s)]):=by
 have h1:=zY s ok;rw[h]at h1⊢;obtain⟨_,hp⟩:=qf h;have hbo:=zO s ok h;have a:fK s=gX s.tl:=by simp[fK,hk]
 have b:gU s=0:=hp;unfold gU at hp;simp only[hk,Int.reduceEq,reduceIte]at hp;have e:dw s=jR 83 (ai (1:Int).toNat++gX s.tl):=by unfold dw;rw[ag Om,hk,a]
 rw[e];rw[a]at hbo;have h2:=ahu s.tl hp;have h3:=rq (1:Int) ⟨by decide,by decide⟩;have N:=bP (1:Int).toNat;have f:=dI (1:Int).toNat;generalize gX s.tl=B at *;generalize ai (1:Int).toNat=u at *;have h4:=EK 83 (u++B) dX (bT f hbo.1) (by rw[aN];omega);have q:=aA u;have c:=aA B;have d:=dE u B;clear ok e a b h hp;obtain⟨⟨pk,pz,pd,ps⟩,⟨L,t2,M⟩,⟨c1,g,i,j,k⟩,⟨C,E,F⟩,⟨l,m,n,p⟩,⟨r,t,v,x,y⟩,⟨G,H,I,J,K⟩⟩:=s;simp only at *;subst hk;refine gI oW ?_;(repeat' first|refine wP (Ad q c d @id_eq.{1}) (Ac h1 h2 h3) ?_|refine cG [1] h4 ?_|refine tS ?_ ?_<;>intro A|fail);exact rE []
def ahl(s:Sk)(ok:s.Ok)(h:vSk s=0)(hk:s.p.k=2):Gxx 18 [.agg (skF s)] (.tup [fzb (dw s),vi (vSk s)]):=by
 have h1:=zY s ok;rw[h]at h1⊢;obtain⟨_,hp⟩:=qf h;have hbo:=zO s ok h;have a:fK s=jD s.cm:=by simp[fK,hk]
 have b:gU s=0:=hp;unfold gU at hp;simp only[hk,Int.reduceEq,reduceIte]at hp;have e:dw s=jR 83 (ai (2:Int).toNat++jD s.cm):=by unfold dw;rw[ag Om,hk,a]
 rw[e];rw[a]at hbo;have h2:=ahq s.cm hp ok.cs;have h3:=rq (2:Int) ⟨by decide,by decide⟩;have N:=bP (2:Int).toNat;have f:=dI (2:Int).toNat;generalize jD s.cm=B at *;generalize ai (2:Int).toNat=u at *;have h4:=EK 83 (u++B) dX (bT f hbo.1) (by rw[aN];omega);have q:=aA u;have c:=aA B;have d:=dE u B;clear ok e a b h hp;obtain⟨⟨pk,pz,pd,ps⟩,⟨L,t2,M⟩,⟨c1,g,i,j,k⟩,⟨C,E,F⟩,⟨l,m,n,p⟩,⟨r,t,v,x,y⟩,⟨G,H,I,J,K⟩⟩:=s;simp only at *;subst hk;refine gI oW ?_;(repeat' first|refine wP (Ad q c d @id_eq.{1}) (Ac h1 h2 h3) ?_|refine cG [1] h4 ?_|refine tS ?_ ?_<;>intro A|fail);exact rE []
def ahm(s:Sk)(ok:s.Ok)(h:vSk s=0)(hk:s.p.k=3):Gxx 18 [.agg (skF s)] (.tup [fzb (dw s),vi (vSk s)]):=by
 have h1:=zY s ok;rw[h]at h1⊢;obtain⟨_,hp⟩:=qf h;have hbo:=zO s ok h;have a:fK s=l7 s.ll:=by simp[fK,hk]
 have b:gU s=0:=hp;unfold gU at hp;simp only[hk,Int.reduceEq,reduceIte]at hp;have e:dw s=jR 83 (ai (3:Int).toNat++l7 s.ll):=by unfold dw;rw[ag Om,hk,a]
 rw[e];rw[a]at hbo;have h2:=ahs s.ll hp ok.ls ok.ln;have h3:=rq (3:Int) ⟨by decide,by decide⟩;have N:=bP (3:Int).toNat;have f:=dI (3:Int).toNat;generalize l7 s.ll=B at *;generalize ai (3:Int).toNat=u at *;have h4:=EK 83 (u++B) dX (bT f hbo.1) (by rw[aN];omega);have q:=aA u;have c:=aA B;have d:=dE u B;clear ok e a b h hp;obtain⟨⟨pk,pz,pd,ps⟩,⟨L,t2,M⟩,⟨c1,g,i,j,k⟩,⟨C,E,F⟩,⟨l,m,n,p⟩,⟨r,t,v,x,y⟩,⟨G,H,I,J,K⟩⟩:=s;simp only at *;subst hk;refine gI oW ?_;(repeat' first|refine wP (Ad q c d @id_eq.{1}) (Ac h1 h2 h3) ?_|refine cG [1] h4 ?_|refine tS ?_ ?_<;>intro A|fail);exact rE []
def ahn(s:Sk)(ok:s.Ok)(h:vSk s=0)(hk:s.p.k=4):Gxx 18 [.agg (skF s)] (.tup [fzb (dw s),vi (vSk s)]):=by
 have h1:=zY s ok;rw[h]at h1⊢;obtain⟨_,hp⟩:=qf h;have hbo:=zO s ok h;have a:fK s=jG s.tp:=by simp[fK,hk]
 have b:gU s=0:=hp;unfold gU at hp;simp only[hk,Int.reduceEq,reduceIte]at hp;have e:dw s=jR 83 (ai (4:Int).toNat++jG s.tp):=by unfold dw;rw[ag Om,hk,a]
 rw[e];rw[a]at hbo;have h2:=ahv s.tp hp ok.to ok.tn;have h3:=rq (4:Int) ⟨by decide,by decide⟩;have N:=bP (4:Int).toNat;have f:=dI (4:Int).toNat;generalize jG s.tp=B at *;generalize ai (4:Int).toNat=u at *;have h4:=EK 83 (u++B) dX (bT f hbo.1) (by rw[aN];omega);have q:=aA u;have c:=aA B;have d:=dE u B;clear ok e a b h hp;obtain⟨⟨pk,pz,pd,ps⟩,⟨L,t2,M⟩,⟨c1,g,i,j,k⟩,⟨C,E,F⟩,⟨l,m,n,p⟩,⟨r,t,v,x,y⟩,⟨G,H,I,J,K⟩⟩:=s;simp only at *;subst hk;refine gI oW ?_;(repeat' first|refine wP (Ad q c d @id_eq.{1}) (Ac h1 h2 h3) ?_|refine cG [1] h4 ?_|refine tS ?_ ?_<;>intro A|fail);exact rE []
def aho(s:Sk)(ok:s.Ok)(h:vSk s=0)(hk:s.p.k=5):Gxx 18 [.agg (skF s)] (.tup [fzb (dw s),vi (vSk s)]):=by
 have h1:=zY s ok;rw[h]at h1⊢;obtain⟨_,hp⟩:=qf h;have hbo:=zO s ok h;have a:fK s=jE s.fq:=by simp[fK,hk]
 have b:gU s=0:=hp;unfold gU at hp;simp only[hk,Int.reduceEq,reduceIte]at hp;have e:dw s=jR 83 (ai (5:Int).toNat++jE s.fq):=by unfold dw;rw[ag Om,hk,a]
 rw[e];rw[a]at hbo;have h2:=ahr s.fq hp ok.fo ok.fn;have h3:=rq (5:Int) ⟨by decide,by decide⟩;have N:=bP (5:Int).toNat;have f:=dI (5:Int).toNat;generalize jE s.fq=B at *;generalize ai (5:Int).toNat=u at *;have h4:=EK 83 (u++B) dX (bT f hbo.1) (by rw[aN];omega);have q:=aA u;have c:=aA B;have d:=dE u B;clear ok e a b h hp;obtain⟨⟨pk,pz,pd,ps⟩,⟨L,t2,M⟩,⟨c1,g,i,j,k⟩,⟨C,E,F⟩,⟨l,m,n,p⟩,⟨r,t,v,x,y⟩,⟨G,H,I,J,K⟩⟩:=s;simp only at *;subst hk;refine gI oW ?_;(repeat' first|refine wP (Ad q c d @id_eq.{1}) (Ac h1 h2 h3) ?_|refine cG [1] h4 ?_|refine tS ?_ ?_<;>intro A|fail);exact rE []
def ahp(s:Sk)(ok:s.Ok)(h:vSk s=0)(hk:s.p.k=6):Gxx 18 [.agg (skF s)] (.tup [fzb (dw s),vi (vSk s)]):=by
 have h1:=zY s ok;rw[h]at h1⊢;obtain⟨_,hp⟩:=qf h;have hbo:=zO s ok h;have a:fK s=jF s.rk:=by simp[fK,hk]
 have b:gU s=0:=hp;unfold gU at hp;simp only[hk,Int.reduceEq,reduceIte]at hp;have e:dw s=jR 83 (ai (6:Int).toNat++jF s.rk):=by unfold dw;rw[ag Om,hk,a]
 rw[e];rw[a]at hbo;have h2:=aht s.rk hp ok.ro ok.rn ok.rm;have h3:=rq (6:Int) ⟨by decide,by decide⟩;have N:=bP (6:Int).toNat;have f:=dI (6:Int).toNat;generalize jF s.rk=B at *;generalize ai (6:Int).toNat=u at *;have h4:=EK 83 (u++B) dX (bT f hbo.1) (by rw[aN];omega);have q:=aA u;have c:=aA B;have d:=dE u B;clear ok e a b h hp;obtain⟨⟨pk,pz,pd,ps⟩,⟨L,t2,M⟩,⟨c1,g,i,j,k⟩,⟨C,E,F⟩,⟨l,m,n,p⟩,⟨r,t,v,x,y⟩,⟨G,H,I,J,K⟩⟩:=s;simp only at *;subst hk;refine gI oW ?_;(repeat' first|refine wP (Ad q c d @id_eq.{1}) (Ac h1 h2 h3) ?_|refine cG [1] h4 ?_|refine tS ?_ ?_<;>intro A|fail);exact rE []
def ahi(s:Sk)(ok:s.Ok):Gxx 18 [.agg (skF s)] (.tup [fzb (dw s),vi (vSk s)]):=by
 by_cases h:vSk s=0
 .rcases Gf (qf h).1 with hk|hk|hk|hk|hk|hk
  .exact ahk s ok h hk
  .exact ahl s ok h hk
  .exact ahm s ok h hk
  .exact ahn s ok h hk
  .exact aho s ok h hk
  .exact ahp s ok h hk
 .exact ahj s ok h
def jJ(l:List Int):Sk:=(pK (qG (atN l 0)) (qx (l.drop (min l.length 2)) (atN l 1%8)) (uJ (atN l 9)) (atN l 1%8)).1
theorem VT(l:List Int)(n:Nat):∀x∈qx l n,oct x.1:=by intro x hx;obtain⟨i,_,rfl⟩:=dP.1 hx;exact(akR _).1
def Y0(l:List Int):(jJ l).Ok:=Uk _ (Yg _) (Yh _) _ (VT _ _) _ _
def VV(l:List Int)(n:Nat):(iv l).drop n=iv (l.drop n):=by simp[iv,L8]
def ami(a:Nat):(min (a:Int) 2).toNat=min a 2:=Om
def ah6(l:List Int)(hl:l.length<=9223372036854775807):Gxx 35 [fzi l] (.agg (skF (jJ l))):=by have c:=He l 0 hl Om;have d:=He l 1 hl Om;have f:=He l 9 hl Om;have b0:=GH l 0;have g:=GH l 1;have i:=GH l 9;have h1:=ahO (atN l 0) Om;have h2:=ahI (l.drop (min l.length 2)) (atN l 1%8) (by rw[eH];omega) Om;have h3:=ag1 ((atN l 9:Nat):Int);have h4:=ahw (qG (atN l 0)) (Yg _) (Yh _) (qx (l.drop (min l.length 2)) (atN l 1%8)) (by rw[OI];omega) (VT _ _) (uJ (atN l 9)) (adN _).1;rw[OI]at h4;have e:(pK (qG (atN l 0)) (qx (l.drop (min l.length 2)) (atN l 1%8)) (uJ (atN l 9)) (atN l 1%8)).1=jJ l:=rfl;rw[e]at h4;have a:=bV l;have h:=VV l (min l.length 2);have b:=ami l.length;generalize jJ l=S at *;generalize qG (atN l 0)=p at *;generalize qx (l.drop (min l.length 2)) (atN l 1%8)=its at *;generalize uJ (atN l 9)=co at *;generalize atN l 0=n0 at *;generalize atN l 1=G at *;generalize atN l 9=H at *;clear e;obtain⟨⟨pk,pz,pd,ps⟩,⟨Q,t2,R⟩,⟨c1,j,k,m,n⟩,⟨C,E,F⟩,⟨q,r,s,t⟩,⟨u,v,x,y,A⟩,⟨K,L,M,N,P⟩⟩:=S;obtain⟨qk,J,qd,I⟩:=p;refine gI oW ?_;exact wR (Af @pgv @mmF a b h @anB) (Ag c d f h1 h2 h3 h4) ay
def nmB(a:Nat):List Nat:=[[97],[98],[99]].getD (a%3) []
def aiB(k:Nat)(h:k<3):([.c (.string ⟨#[97]⟩),.c (.string ⟨#[98]⟩),.c (.string ⟨#[99]⟩)]:List V)[k]?=some (vs ([[97],[98],[99]].getD k [])):=(dX:∀k,k<3->k=0\/k=1\/k=2) k h |>.elim (fun e=>by subst e;rfl) fun e=>e.elim (fun e=>by subst e;rfl) fun e=>by subst e;rfl
def Xi(a:Nat):oct (nmB a)/\iK (nmB a)=true:=by have h:=kQ a (show 3 > 0 by decide);unfold nmB;generalize a%3=k at *;rcases(Om:k=0\/k=1\/k=2)with rfl|rfl|rfl;all_goals exact⟨fun x hx=>by simp at hx;omega,by decide⟩
theorem auv(a:Nat):Int.tmod (a:Int) 3=((a%3:Nat):Int):=rfl
def JC(a:Nat)(ha:a<16777216):Gxx 16 [vi a] (vs (nmB a)):=by have hg:=aiB (a%3) (kQ _ dX);have e:a%16777216=a:=Md ha;have hm:=kQ a (show 3 > 0 by decide);unfold nmB;generalize hk:a%3=k at *;refine gI oW ?_;(repeat' first|refine wQ (Ae @anB e @auv @hk @hg) ?_|refine tS ?_ ?_<;>intro h|fail);exact rE []
def g4(l:List Int)(k:Nat):Int:=l.getD (k%4) 0
def JL(a b c d:Int)(k:Nat):([vi a,vi b,vi c,vi d]:List V)[k%4]?=some (vi (g4 [a,b,c,d] k)):=by have h:=kQ k (show 4 > 0 by decide);unfold g4;generalize k%4=k at *;rcases(Om:k=0\/k=1\/k=2\/k=3)with rfl|rfl|rfl|rfl<;>rfl
def cfB(a:Nat):Cf:=⟨2+((a%2:Nat):Int),2+((a / 2%2:Nat):Int),g4 [60,12,6,30] (a / 4),g4 [8,16,40,200] (a / 16),g4 [8,3,2,5] (a / 64),g4 [100,6,30,12] (a / 256),1+((a / 1024%4:Nat):Int)⟩
def sh2(n:Nat):Int.fdiv (n:Int) (2^min 2 IntKind.i64.bits)=((n / 4:Nat):Int):=by show Int.fdiv (n:Int) ((4:Nat):Int)=_;grind
def U4(a:Nat):Gxx 8 [vi a] (.agg (cfF (cfB a))):=by have q:=JL 60 12 6 30 (a / 4);have b:=JL 8 16 40 200 (a / 16);have c:=JL 8 3 2 5 (a / 64);have d:=JL 100 6 30 12 (a / 256);have m:=kQ (a / 4) (show 4 > 0 by decide);have f:=kQ (a / 16) (show 4 > 0 by decide);have g:=kQ (a / 64) (show 4 > 0 by decide);have i:=kQ (a / 256) (show 4 > 0 by decide);unfold cfB;refine gI oD ?_;(repeat'(first|(simp(disch:=first|exact dqz|fail) only[pgz,simprocAttr,pga,anB,shB,sh2,q,b,c,d])|(refine tS ?_ ?_<;>intro h)|(with_reducible refine cKA ?_)|((with_reducible show gJ _ _ _ _ _);first|refine lG (by decide +kernel) ?_|refine lF (by decide +kernel) ?_)|(with_reducible refine cK ?_)));exact rE []
abbrev prF(b:Nat)(s:Sto):List V:=.ref b 0::stF s
theorem SMod.here{N:SN}{b n:Nat}{u:Sto}{e:Nat->V}{bx B:Bx}{h:Nat->V}{m:Nat}{r:V}{N':SN}(c:n<=m)(a:∀k∈N'.D b,k∈N.D b\/n<=k)(H:StAt B m b u N')(hb:∀k,k<n->k∉N.D b->B k=bx k):Chg e bx n h (N.D b) (SMod N b n u r) ⟨e,B,m,h⟩ r :=
 ⟨B,m,rfl,hb,rfl,c,N',a,H⟩
def aao{Q:List Nat->Prop}{s:Sto}(H:OkS Q s){l:List Int}(hl:l.length<=9223372036854775807){i:Nat}(hi:i<l.length)(hi2:i<=100)(hq:(dw (jJ (l.drop i))).length<=65536->Q (dw (jJ (l.drop i)))) :
  ∃u,Nx Q s u/\(atN l i%8<=2->OkC s (nmB (atN l i / 8)) (dw (jJ (l.drop i)))->u=fD s (nmB (atN l i / 8)) (dw (jJ (l.drop i))))/\∀e bx n h b N,StAt bx n b s N->GoodE Tryz.prog 12 [.agg (prF b s),fzi l,vi i] ⟨e,bx,n,h⟩ (Chg e bx n h (N.D b) (SMod N b n u (.tup [.agg (prF b u),vb true]))):=by
 have I:=He l i hl Om
 have ha:=GH l i
 generalize atN l i=a at *
 have k2:=JC (a / 8) Om
 have k5:=JC (a / 64) Om
 obtain⟨n1,n2⟩:=Xi (a / 8)
 obtain⟨n3,n4⟩:=Xi (a / 64)
 have j:=Y0 (l.drop i)
 have k3:=ah6 (l.drop i) (by rw[eH];omega)
 have k4:=ahi _ j
 obtain⟨d1,d2⟩:=Ny _ j
 have R:=bV l
 have P:=VV l i
 have m8:=kQ a (show 8 > 0 by decide)
 generalize dw (jJ (l.drop i))=d at *
 generalize vSk (jJ (l.drop i))=vd at *
 generalize jJ (l.drop i)=sk at *
 generalize hk:nmB (a / 8)=k at *
 generalize nmB (a / 64)=kt at *
 generalize M:a%8=r at *
 have fin:∀{u:Sto} {e bx n h b N} {B:Bx} {m:Nat} {N':SN},n<=m->(∀k∈N'.D b,k∈N.D b\/n<=k)->StAt B m b u N'->(∀k,k<n->k∉N.D b->B k=bx k)->Chg e bx n h (N.D b) (SMod N b n u (.tup [.agg (prF b u),vb true])) ⟨e,B,m,h⟩ (.tup [.agg (prF b u),vb true]):=fun h1 h2 h3 h4=>SMod.here h1 h2 h3 h4
 rcases(Om:(r=0\/r=1\/r=2)\/(r=3\/r=4)\/r=5\/r=6\/r=7)with hr|hr|rfl|rfl|rfl
 case' inl =>
  obtain⟨u,y,x,t,J,K,G⟩:=abU H n1 n2 d1 Om hq
  refine⟨u,t,fun _=>G,fun e bx n h b N p => ?_⟩
  rcases hr with rfl|rfl|rfl
 case' inr.inl =>
  obtain⟨u,y,x,t,J,K⟩:=abW (k:=k) H d1 Om hq
  refine⟨u,t,fun h=>by omega,fun e bx n h b N p => ?_⟩
  rcases hr with rfl|rfl
 case' inr.inr.inl =>
  obtain⟨u,y,x,t,J,K⟩:=abV H n1 n2
  refine⟨u,t,fun h=>by omega,fun e bx n h b N p => ?_⟩
 case' inr.inr.inr.inl =>
  obtain⟨u,x,t,J,K,_,_⟩:=ML H
  refine⟨u,t,fun h=>by omega,fun e bx n h b N p => ?_⟩
 case' inr.inr.inr.inr =>
  obtain⟨u,y,x,t,J,K⟩:=abX H n1 n2 n3 n4
  refine⟨u,t,fun h=>by omega,fun e bx n h b N p => ?_⟩
 all_goals
  have hbn:=p.lt.1
  have v:(n=n+1)=False:=eq_false Om
  have A:(n+1=n)=False:=eq_false Om
 case inr.inr.inr.inr =>
  refine lg (fJ [] mix) Tryz.func12 rfl Tryz.results12 rfl Za (fP Za) ?_
  (repeat' first|refine wEX (A8 @pgE @aX @aK @bu @bz @pgv @anB @shB (Ae M R P v A)) (Ad I k2 k3 k4) ?_|refine tE ?_ ?_<;>intro G|fail)
  have hnd:([151,152,153,154,155,156,157,150,158,159,30,31]:List Nat).Nodup:=dX
  obtain⟨Inv,f⟩:∃Inv:(Nat->Bool)->Bx->Nat->Prop,Inv=fun S B m=>B n=some (35,prF b s)/\B (n+1)=some (35,[.c (.pointer none),y0,y0,y0,y0,y0,y0,y0,y0,y0,yn,yn,yn,y0,yn])/\(S 6=false/\m=n+2/\(∀k,k<n->B k=bx k)\/S 6=true/\n+2<=m/\(∀k,k<n->k∉N.D b->B k=bx k)/\∃N':SN,(∀k∈N'.D b,k∈N.D b\/n+2<=k)/\StAt B m b u N'):=⟨_,rfl⟩
  have hk:∀(S:Nat->Bool) B m i,6≠i->Inv S B m->Inv (ins S i) B m:=fun S B m i h=>by rw[f];simp only[iy h];exact id
  refine Yu mix (fun _:Unit=>[(151,.ref n 0),(152,.ref b 0),(153,vs k),(154,vi a),(155,vi (a / 64:Nat)),(156,vs kt),(157,.tup [vi y,vi x]),(150,.tup [vi y,vi x]),(158,vi y),(159,vi x),(30,vi y),(31,vi x)]) (fun S _ B m=>Inv S B m) () (e:=ja [(3,.ref n 0),(6,.ref (n+1) 0),(8,vi a),(9,vs k)]) (mJ (lI ?_) (fun c=>.inl rfl) (az _)) ?_ dX dX ?_ ?_
  .exact eE
  .rw[f]
   refine⟨?_,?_,.inl ⟨rfl,rfl,fun k hk => ?_⟩⟩
   .simp only[upd,v,A,if_true,if_false]
   .simp only[upd,v,A,if_true,if_false]
   .simp only[upd]
    repeat rw[ag Om]
  .intro S _ B m i o ho hi j he hcl g
   rcases(by have:i<12:=hi;omega:i=0\/i=1\/i=2\/i=3\/i=4\/i=5\/i=6\/i=7\/i=8\/i=9\/i=10\/i=11)with rfl|rfl|rfl|rfl|rfl|rfl|rfl|rfl|rfl|rfl|rfl|rfl
   all_goals(simp only[vX,zy,aO]at ho;subst ho)
   .simp(disch:=first|exact dqz|fail) only[pgz,simprocAttr,j,pgE,aX,anB,shB,bH,dA]
    exact⟨(),B,m,hk S B m 0 dX g,ig 0 rfl hnd rfl rfl⟩
   .have s0:=he 0 dX
    have L:=g
    rw[f]at L
    have L:=L.1
    simp(disch:=first|exact dqz|fail) only[pgz,simprocAttr,j,pgE,aX,anB,shB,L,bH,dA,s0]
    exact⟨(),B,m,hk S B m 1 dX g,ig 1 rfl hnd rfl rfl⟩
   .simp(disch:=first|exact dqz|fail) only[pgz,simprocAttr,j,pgE,aX,anB,shB,bH,dA]
    exact⟨(),B,m,hk S B m 2 dX g,ig 2 rfl hnd rfl rfl⟩
   .simp(disch:=first|exact dqz|fail) only[pgz,simprocAttr,j,pgE,aX,anB,shB,bH,dA]
    exact⟨(),B,m,hk S B m 3 dX g,ig 3 rfl hnd rfl rfl⟩
   .have s3:=he 3 dX
    simp(disch:=first|exact dqz|fail) only[pgz,simprocAttr,j,pgE,aX,anB,shB,bH,dA,s3]
    exact⟨(),B,m,hk S B m 4 dX g,ig 4 rfl hnd rfl rfl⟩
   .have s4:=he 4 dX
    simp(disch:=first|exact dqz|fail) only[pgz,simprocAttr,j,pgE,aX,bH,dA]
    exact SV rfl k5 (by simp only[dm,dS,pgo,simprocAttr,bH,dA,s4]) (hK:=⟨(),B,m,hk S B m 5 dX g,ig 5 rfl hnd rfl rfl⟩)
   .have s1:=he 1 dX
    have s2:=he 2 dX
    have s5:=he 5 dX
    simp(disch:=first|exact dqz|fail) only[pgz,simprocAttr,j,pgE,aX,bH,dA]
    rw[f]at g
    rcases g with⟨L,q2,⟨_,rfl,q4⟩|⟨h5,_⟩⟩
    case inr=>rw[j]at h5;cases h5
    refine qR rfl (K _ _ _ _ _ N (p.of (Nat.le_add_right n 2) fun k hk=>q4 k (p.ltD k hk))) (by simp only[dm,dS,pgo,simprocAttr,bH,dA,s1,s2,s5]) ?_
    rintro s' r ⟨B1,q,rfl,c1,rfl,c2,N',E,F⟩
    exact⟨(),B1,q,by rw[f];exact⟨by rw[c1 n Om fun hm=>by have:=p.ltD n hm;omega];exact L,by rw[c1 (n+1) Om fun hm=>by have:=p.ltD (n+1) hm;omega];exact q2,.inr ⟨ni S 6,c2,fun k I k2=>by rw[c1 k Om k2,q4 k I],N',E,F⟩⟩,ig 6 rfl hnd rfl rfl⟩
   .have s6:=he 6 dX
    simp(disch:=first|exact dqz|fail) only[pgz,simprocAttr,j,pgE,aX,anB,shB,bH,dA,s6]
    exact⟨(),B,m,hk S B m 7 dX g,ig 7 rfl hnd rfl rfl⟩
   .have s7:=he 7 dX
    simp(disch:=first|exact dqz|fail) only[pgz,simprocAttr,j,pgE,aX,anB,shB,bH,dA,s7]
    exact⟨(),B,m,hk S B m 8 dX g,ig 8 rfl hnd rfl rfl⟩
   .have s7:=he 7 dX
    simp(disch:=first|exact dqz|fail) only[pgz,simprocAttr,j,pgE,aX,anB,shB,bH,dA,s7]
    exact⟨(),B,m,hk S B m 9 dX g,ig 9 rfl hnd rfl rfl⟩
   .have s8:=he 8 dX
    simp(disch:=first|exact dqz|fail) only[pgz,simprocAttr,j,pgE,aX,anB,shB,bH,dA,s8]
    exact⟨(),B,m,hk S B m 10 dX g,ig 10 rfl hnd rfl rfl⟩
   .have s9:=he 9 dX
    simp(disch:=first|exact dqz|fail) only[pgz,simprocAttr,j,pgE,aX,anB,shB,bH,dA,s9]
    exact⟨(),B,m,hk S B m 11 dX g,ig 11 rfl hnd rfl rfl⟩
  .intro S _ B1 q C g
   rw[f]at g
   obtain⟨U,W,⟨h5,_⟩|⟨_,c2,c1,N',E,F⟩⟩:=g
   .rw[C 6 dX]at h5;cases h5
   have T:=C 11 dX
   have X:(q+11=n)=False:=eq_false Om
   have Y:(q+11=n+1)=False:=eq_false Om
   have Z:(n=q+11)=False:=eq_false Om
   have e6:(n+1=q+11)=False:=eq_false Om
   (repeat' first|refine wV (Ae @pgE @aX @bu @bz @pgv) ?_|refine tE ?_ ?_<;>intro G|fail)
   refine oh mix ?_
   (repeat'(first|(simp(disch:=first|exact dqz|fail) only[pgz,simprocAttr,pgE,alF,xB,bu,bz,anB,shB,v,A,X,Y,Z,e6,U,W,bH,dA,T])|(refine tC ?_;first|refine cU k5 ?_|refine cU J ?_)|((with_reducible show mX _ _ _ _ _ _ _);first|refine cA k5 ?_|refine cA J ?_)|(refine tE ?_ ?_<;>intro G)|refine xK ?_|fail))
   refine Jh [n,q+11] [.q,.rb 0,.q,.q,.q,.q,.q,.q,.q,.q,.q,.xb 1,.xb 1,.q,.q] (by simp;omega) ?_ rfl Za
   (repeat' first|refine wV (A8 @pgE @bu @bz v A X Y Z (Af @e6 U W @bH @dA T)) ?_|refine tE ?_ ?_<;>intro G|fail)
   refine kz (fin (B:=_) (m:=q+15) (N':=N') Om (fun k hk => ?_) (F.of Om fun k hk => ?_) fun k I k2 => ?_) (ng ?_ (aP _ _) (aQ _ _) rfl (az _))
   .rcases E k hk with h|h
    .exact .inl h
    .exact .inr Om
   .have h1:=F.ltD k hk
    have h2:k<n\/n+2<=k:=(E k hk).imp (p.ltD k) id
    simp only[upd]
    repeat rw[ag Om]
   .simp only[upd]
    repeat rw[ag Om]
    exact c1 k I k2
   .simp(disch:=first|exact dqz|fail) only[pgz,simprocAttr,pgr,bH,dA]
 all_goals
  refine lg (fJ [8,14,19,24] mix) Tryz.func12 rfl Tryz.results12 rfl Za (fP Za) ?_
  (repeat' first|refine wED (A8 @pgE @aX @aK @bu @bz @pgv @anB @shB (Ae M R P v A)) (Ad I k2 k3 k4) ?_|refine tE ?_ ?_<;>intro G|fail)
  refine qR rfl (K _ _ _ _ _ N (p.of (Nat.le_add_right n 2) fun k hk => ?_)) rfl ?_
  .have:=p.ltD k hk
   simp only[upd]
   repeat rw[ag Om]
  rintro s' r ⟨B1,q,rfl,c1,rfl,c2,N',E,F⟩
  have U:=c1 n Om fun hm=>by have:=p.ltD n hm;omega
  have W:=c1 (n+1) Om fun hm=>by have:=p.ltD (n+1) hm;omega
  simp only[upd,v,A,if_true,if_false]at U W
  have X:(q=n)=False:=eq_false Om
  have Y:(q=n+1)=False:=eq_false Om
  have Z:(n=q)=False:=eq_false Om
  have e6:(n+1=q)=False:=eq_false Om
  (repeat' first|refine wED (A8 @pgE @aX @bu @bz @pgv v A X (Ae Y Z @e6 U W)) J ?_|refine tE ?_ ?_<;>intro G|fail)
  refine kz (fin (B:=_) (m:=q+1) (N':=N') Om (fun k hk => ?_) (F.of Om fun k hk => ?_) fun k I k2 => ?_) (ng ?_ (aP _ _) (aQ _ _) rfl (az _))
  .rcases E k hk with h|h
   .exact .inl h
   .exact .inr Om
  .have h1:=F.ltD k hk
   have h2:k<n\/n+2<=k:=(E k hk).imp (p.ltD k) id
   simp only[upd]
   repeat rw[ag Om]
  .simp only[upd]
   repeat rw[ag Om]
   rw[c1 k Om k2]
   simp only[upd]
   repeat rw[ag Om]
  .simp(disch:=first|exact dqz|fail) only[pgz,simprocAttr,pgr]
def be:Nat->Nat->List Nat
 |0,_=>[]
 |k+1,n=>be k (n / 256)++[n%256]
def dg:Nat->Nat->Nat
 |0,_=>0
 |f+1,n=>if n=0 then 0 else dg f (n / 256)+1
theorem MO:∀(k n:Nat),(be k n).length=k:=by intro k;induction k<;>grind[be]
theorem ab7:∀(f n:Nat),beF f n=be (dg f n) n:=by
 intro f
 induction f with
 |zero=>intro n;rfl
 |succ f i =>
  intro n;unfold beF dg;by_cases h:n=0
  .rw[ah h,ah h];rfl
  .rw[ag h,ag h,i];rfl
theorem ZH{n:Nat}(h:n<248):ai n=[n]:=ah h
def ZG{n:Nat}(h:¬n<248):ai n=(247+dg 8 n)::be (dg 8 n) n:=by grind[beB,dg,ab7,MO,ai]
def xR:∀(k n:Nat),be (k+1) n=(n / 256^k%256)::be k n:=by
 intro k
 induction k with
 |zero=>intro n;simp[be]
 |succ k i=>grind[be,Nat.div_div_eq_div_mul,Nat.pow_succ,Nat.mul_comm]
def Nw:∀(f n:Nat),n<256^f->n<256^dg f n/\(0<n->256^(dg f n-1)<=n/\1<=dg f n)/\dg f n<=f:=by
 intro f
 induction f with
 |zero=>intro n h;simp at h;subst h;simp[dg]
 |succ f i =>
  intro n h;unfold dg;split
  .rename_i b;subst b;simp
  .rename_i b;have hd:n / 256<256^f:=by rw[Nat.div_lt_iff_lt_mul Om];rw[Gu]at h;exact h
   obtain⟨h1,h2,h3⟩:=i (n / 256) hd;refine⟨?_,fun _=>⟨?_,by omega⟩,by omega⟩
   .rw[Gu];omega
   .rw[uC];rcases gG (n / 256)with a|a
    .have:dg f (n / 256)=0:=by rw[a];cases f<;>rfl
     rw[this];simp;omega
    .obtain⟨h4,h5⟩:=h2 a;have:256^dg f (n / 256)=256^(dg f (n / 256)-1)*256:=by rw[<-Gu];congr 1;omega
     rw[this];omega
def aeT{n k:Nat}(h:n<256^8)(a:0<n):0<n / 256^k↔k<dg 8 n:=by
 obtain⟨h1,h2,h3⟩:=Nw 8 n h;obtain⟨h2,h4⟩:=h2 a;constructor
 .intro hp;rcases au k (dg 8 n)with hk|hk
  .exact hk
  .have:256^dg 8 n<=256^k:=qL Om hk;rw[Nat.div_eq_of_lt Om]at hp;omega
 .intro hk;have:256^k<=256^(dg 8 n-1):=qL Om Om;exact Nat.div_pos Om (Nat.pow_pos Om)
def YW(a k:Nat)(h:k<=8):Int.fdiv (a:Int) (2^min (Int.toNat (8*(k:Int))) IntKind.i64.bits)=((a / 256^k:Nat):Int):=by
 have e:min (Int.toNat (8*(k:Int))) IntKind.i64.bits=8*k:=by simp[IntKind.bits];omega
 have b:(256^k:Nat)=2^(8*k):=by rw[Nat.pow_mul]
 grind
theorem u8m(a:Nat):IntKind.u8.wrap (a:Int)=((a%256:Nat):Int):=by rfl
def PD(n:Nat)(H:n<=4611686018427387904):Gxx 174 [vi n] (.tup [ob 0 (ai n),vi 0]):=by
 by_cases h3:n<248
 .rw[ZH h3];have c:=u8m n;rw[Md Om]at c;refine gI oW ?_;exact wR c ae (ids [0])
 .rw[ZG h3];have v:n<256^8:=Om;obtain⟨A,i,C⟩:=Nw 8 n v;have l:=(i Om).2;refine gI oW ?_;refine wT ae ?_;refine aJ (fun k:Nat=>mkA [(0,vi n),(4,vi k)] [] 0 (fun _=>.top)) (fun k=>1<=k/\k<=dg 8 n) (fun k=>8-k) 1 [] [] ?_ ⟨by omega,l⟩ ?_
  .exact kE
  .rintro k ⟨E,F⟩;have a:=aeT (k:=k) v Om;have s:=YW n k Om;rcases au k (dg 8 n)with hk|hk
   .have hp:=a.2 hk;generalize n / 256^k=q at *;refine wT s ?_;exact bE (k+1) [] [] ⟨by omega,hk⟩
   .have p:dg 8 n=k:=Om;have r:¬0<n / 256^k:=fun h=>by have:=a.1 h;omega
    have c:IntKind.u8.wrap ((247:Int)+(k:Int))=((247+k:Nat):Int):=by rw[IntKind.wrap_u8];omega
    have f:∀m,m<k->(247+k)::be (k-(m+1)) (n / 256^(m+1))++[n / 256^m%256]=(247+k)::be (k-m) (n / 256^m):=by intro m hm;rw[show k-m=(k-(m+1))+1 by omega,be,Nat.div_div_eq_div_mul,<-Gu];rfl
    rw[p];generalize n / 256^k=q at r s;have G:q=0:=Om;subst G;have t:k<8\/8<=k:=Om;rcases t with h|h
    all_goals
     (repeat' first|refine wQ (aI s c) ?_|refine tS ?_ ?_<;>intro d|fail)
     refine aJ (fun j:Nat=>mkA [(0,vi n),(5,ob 0 ((247+k)::be (k-j) (n / 256^j))),(6,vi ((j:Int)-1))] [] 1 (fun _=>.top)) (fun j=>j<=k) (fun j=>j) k [0] [] ?_ (az _) ?_
     ·(refine kM ?_ ?_;(repeat'(first|exact ae|refine dQ _ _ rfl rfl ?_ ?_));all_goals(try simp only[pgm,simprocAttr]);all_goals(try(repeat' apply aI));all_goals(try exact gz))
      all_goals first|exact fE rfl (by rw[zC];rfl)|exact eF Om|skip
     .intro j hj
      replace hj:j<=k:=hj
      cases j with
      |zero =>
       (repeat'(first|(simp(disch:=first|exact dqz|fail) only[pgz,simprocAttr,Nat.sub_zero,Nat.pow_zero,Nat.div_one])|((with_reducible first|apply lD|apply lJ|apply lH)<;>intro d<;>(try simp only[d])<;>(try simp only[pgd]at d))|(with_reducible refine cK ?_)))
       exact rE [0]
      |succ m =>
       have hb:=f m Om
       have hl:((247+k)::be (k-(m+1)) (n / 256^(m+1))).length<=9:=by simp[MO];omega
       have u:=YW n m Om
       have x:(m:Int)+1-1=(m:Int):=Om
       have y:=u8m (n / 256^m)
       have b:=bvS ((247+k)::be (k-(m+1)) (n / 256^(m+1))) (n / 256^m%256)
       rw[hb]at b
       have g:=aA ((247+k)::be (k-(m+1)) (n / 256^(m+1)))
       (repeat' first|refine wQ (Ae x u y b g) ?_|refine tS ?_ ?_<;>intro d|fail)
       exact bY m [0] [] (Om)
def aoc(x:Int)(hx:0<=x/\x<18446744073709551616):Gxx 244 [vu x] (ob 0 (eY x)):=by
 refine gI oW ?_;refine wT ae ?_;refine aJ (fun j:Nat=>mkA [(0,vu x),(3,ob 0 ((eY x).take j)),(4,vi (56-8*(j:Int)))] [] 1 (fun _=>.top)) (fun j=>j<=8) (fun j=>8-j) 0 [] [] ?_ (ax _) ?_
 .exact kY
 .intro j hj;replace hj:j<=8:=hj;have h:=aA ((eY x).take j);rw[bI,qg,qj hj]at h;rcases au j 8 with a|g
  .have c:(56-8*(j:Int)).toNat=8*(7-j):=Om;have f:min (8*(7-j)) IntKind.u64.bits=8*(7-j):=qj (show 8*(7-j)<=64 by omega);have d:IntKind.u8.wrap (x.fdiv (2^min (8*(7-j)) IntKind.u64.bits))=((u8i (x.fdiv (2^(8*(7-j)))):Nat):Int):=by rw[f,FY]
   have b:bv ((eY x).take j)++[V.c (.int .u8 ((u8i (x.fdiv (2^(8*(7-j)))):Nat):Int))]=bv ((eY x).take (j+1)):=by rw[bvS,mP (by rw[qg];exact a)];simp[eY]
   refine wT (Ad h c d b) ?_;exact bY (j+1) [0] [] a
  .have:j=8:=Om;subst this;rw[oz (by rw[qg];exact az _)];exact wR h ae (ids [0])
def an9(s:List Nat)(ho:oct s)(hl:s.length<=65536):Gxx 248 [vs s] (.tup [ob 0 (bG s),vi 0]):=by have h1:=PD s.length Om;have c:=bP s.length;have h:=aA (ai s.length);have b:=aA s;have ha:=dE (ai s.length) s;have a:=SK ho;unfold bG;generalize ai s.length=u at *;refine gI oW ?_;exact wR (Ad h b a @ha) h1 (ids [0])
def Pq(l:List Nat)(ho:oct l)(hl:l.length<=10000000):Gxx 155 [fzb l] (.c (.int .u32 (ckN l:Nat))):=by
 have h:=aA l;unfold ckN;generalize g:ckS l (1,0)=P;refine gI oW ?_;refine wT h ?_;refine aJ (fun x:Nat×Nat×Nat=>mkA [(3,.c (.int .u32 (x.2.1:Nat))),(4,.c (.int .u32 (x.2.2:Nat))),(7,fzb l),(8,vi l.length),(9,vi (x.1:Nat))] [] 0 (fun _=>.top)) (fun x=>x.1<=l.length/\x.2.1<65521/\x.2.2<65521/\ckS (l.drop x.1) (x.2.1,x.2.2)=P) (fun x=>l.length-x.1) (0,1,0) [] [] ?_ ⟨ax _,by decide,by decide,g⟩ ?_
 .exact kE
 .rintro⟨i,u,v⟩ ⟨h1,h2,h3,h4⟩;simp only at h1 h2 h3 h4;rcases au i l.length with a|j
  .have hg:=lY l i a;have k:=kw ho i;rw[TP l i a]at h4;generalize l.getD i 0=c at *;have d:=Jj u c;have f:=Jj v ((u+c)%65521);have r:(u+c)%65521<65521:=kQ _ Om;refine wT (Ad h @hg d f) ?_;refine dn (i+1,(u+c)%65521,(v+(u+c)%65521)%65521) [] [] ⟨a,kQ _ Om,kQ _ Om,h4⟩ (by show l.length-(i+1)<l.length-i;omega) ?_;exact kE
  .have:i=l.length:=Om;subst this;rw[jM]at h4;have h5:(u,v)=P:=h4;subst h5;have b:IntKind.u32.wrap ((v:Int)*2^min 16 IntKind.u32.bits)=((v*65536:Nat):Int):=by show IntKind.u32.wrap ((v:Int)*((65536:Nat):Int))=_;rw[<-Int.natCast_mul];exact ZW _ Om Om
   refine wT (aI h b) ?_;exact rE [];all_goals first|(congr 2;omega)|skip
def aog(t:Nat)(b:List Nat)(q:t<256)(ho:oct b)(hl:b.length<=1048576):Gxx 175 [.c (.int .u8 (t:Nat)),fzb b] (.tup [fzb (jR t b),vi 0]):=by
 have h1:=PD b.length Om;have r:=bP b.length;have g:=aA (ai b.length);have f:=aA b;have j:oct (bK t b):=bT (Ie q (dI _)) ho;have p:(bK t b).length=1+(ai b.length).length+b.length:=by unfold bK;simp only[aN,dB];omega
 have h2:=Pq (bK t b) j Om;have i:=Ec (bK t b);have d:=MZ _ i;have a:=MX (ckN (bK t b));have l:=ck8 (ckN (bK t b));have k:=ck0 (ckN (bK t b));have n:V.c (.int .u8 (t:Int))::(bv (ai b.length)++bv b)=bv (bK t b):=by unfold bK;rw[mO,<-bvC,<-dE]
 have m:jR t b=bK t b++[ckN (bK t b) / 16777216,ckN (bK t b) / 65536%256,ckN (bK t b) / 256%256,ckN (bK t b)%256]:=rfl;rw[m];refine Good.fzt (vs:=[ob 0 (bK t b++[ckN (bK t b) / 16777216,ckN (bK t b) / 65536%256,ckN (bK t b) / 256%256,ckN (bK t b)%256]),vi 0]) ?_ rfl ⟨aC _,aC _,trivial⟩;have h:=aA (bK t b);generalize bK t b=F at *;generalize ckN F=c at *;refine gI oW ?_;(repeat' first|refine wP (A8 g f h n d a l k (aI @mO.{0} @iY.{0})) (aI h1 h2) ?_|refine tS ?_ ?_<;>intro s|fail);all_goals(refine rT [1] ?_;first|rfl|simp only[pgo,simprocAttr]|skip)
 all_goals(rw[bv4,dE];rfl)
end Go.Proofs.YtopbmdnbdpjheaaGreat
section
namespace Go.Proofs.YtopbmdnbdpjheaaGreat
open Go Go.Pg
def Pz(n:Int)(h:0<=n/\n<=4611686018427387904):Gxx 174 [vi n] (.tup [ob 0 (ai n.toNat),vi 0]):=by obtain⟨m,rfl⟩:=Rn h.1;exact PD m Om
def yV(n:Int)(h:0<=n/\n<=4611686018427387904):Gxx 174 [vi n] (.tup [fzb (ai n.toNat),vi 0]) :=
 Good.fzt (vs:=[ob 0 (ai n.toNat),vi 0]) (Pz n h) rfl ⟨aC _,aC _,trivial⟩
def Py(s:List Nat)(ho:oct s)(hl:s.length<=65536):Gxx 248 [vs s] (.tup [fzb (bG s),vi 0]) :=
 Good.fzt (vs:=[ob 0 (bG s),vi 0]) (an9 s ho hl) rfl ⟨aC _,aC _,trivial⟩
theorem XH(x:Int)(hx:0<=x/\x<18446744073709551616):Gxx 244 [vu x] (fzb (eY x)):=(aoc x hx).fzr rfl (aC _)
def ve(xs:List Int):Prop:=∀y∈xs,0<=y/\y<=4611686018427387904
def Dj{xs:List Int}(h:ve xs){i:Nat}(hi:i<xs.length):0<=xs.getD i 0/\xs.getD i 0<=4611686018427387904 :=
 h _ (by rw[gW,dY hi];exact ji hi)
theorem DU(xs:List Int):(aZ xs).length<=xs.length*9:=CJ _ 9 xs fun _ _=>bP _
def pzi(id:Nat):Nat->V->V
 |0,v=>v
 |_+1,v=>aF id v
def apj(id:Nat)(v:V):aF id (aF id v)=aF id v:=by grind[Yc,aF]
def P8(id:Nat)(b:BX):df (pzi id 0) b=b:=by
 have h:pzi id 0=fun v=>v:=rfl
 funext t;show(b t).map _=_;rw[h];cases b t with|none=>rfl|some x=>simp
def Yn(id i:Nat)(v:V):aF id (pzi id i v)=pzi id (i+1) v:=by cases i with|zero=>rfl|succ i=>exact apj id v
def P9(id i:Nat)(e:Nat->V):bD (aF id) (bD (pzi id i) e)=bD (pzi id (i+1)) e:=by funext t;exact Yn id i (e t)
def P7(id i:Nat)(b:BX):df (aF id) (df (pzi id i) b)=df (pzi id (i+1)) b:=by
 funext t;show((b t).map _).map _=(b t).map _
 cases b t with
 |none=>rfl
 |some x=>simp[Yn]
def Qa{id k:Nat}(h:0<k):pzi id k=aF id:=by cases k with|zero=>omega|succ k=>rfl
def XW(xs:List Int)(hx:ve xs)(f:xs.length<=1000):Gxx 241 [.c (.slice none 0 0),.sl .fz 1 (iv xs)] (ob 0 (aZ xs)):=by
 have a:=bV xs;refine gI oW ?_;refine wT a ?_;refine aJ (fun i:Nat=>mkA [(0,ob 0 (aZ (xs.take i))),(9,.sl .fz 1 (iv xs)),(10,vi xs.length),(11,vi i)] [] 1 (fun _=>.top)) (fun i=>i<=xs.length) (fun i=>xs.length-i) 0 [] [] ?_ (ax _) ?_
 .exact kY
 .intro i hi;replace hi:i<=xs.length:=hi;have c:=aA (aZ (xs.take i));have j:(aZ (xs.take i)).length<=9000:=by have:=DU (xs.take i);rw[bI]at this;omega
  rcases au i xs.length with h|g
  .have hg:=lh xs i h;have k:=yV _ (Dj hx h);have f:=zk xs i h;have k2:=bP (xs.getD i 0).toNat;have b:=dE (aZ (xs.take i)) (ai (xs.getD i 0).toNat);rw[<-f]at b;generalize ai (xs.getD i 0).toNat=u at *;generalize xs.getD i 0=n at *;have d:=aA u;refine wS (Ae a @hg c d b) k ?_;exact bY (i+1) [0] [] h
  .have:i=xs.length:=Om;subst this;rw[gB]at *;exact wR (aI a c) ae (ids [0])
def aoU(xs:List Int)(hx:ve xs)(f:xs.length<=1000):Gxx 247 [.c (.slice none 0 0),.sl .fz 1 (iv xs)] (ob 0 (aZ xs)):=by
 have a:=bV xs;refine gI oW ?_;refine wT a ?_;refine aJ (fun i:Nat=>mkA [(0,ob 0 (aZ (xs.take i))),(9,.sl .fz 1 (iv xs)),(10,vi xs.length),(11,vi i)] [] 1 (fun _=>.top)) (fun i=>i<=xs.length) (fun i=>xs.length-i) 0 [] [] ?_ (ax _) ?_
 .exact kY
 .intro i hi;replace hi:i<=xs.length:=hi;have c:=aA (aZ (xs.take i));have j:(aZ (xs.take i)).length<=9000:=by have:=DU (xs.take i);rw[bI]at this;omega
  rcases au i xs.length with h|g
  .have hg:=lh xs i h;have k:=yV _ (Dj hx h);have f:=zk xs i h;have k2:=bP (xs.getD i 0).toNat;have b:=dE (aZ (xs.take i)) (ai (xs.getD i 0).toNat);rw[<-f]at b;generalize ai (xs.getD i 0).toNat=u at *;generalize xs.getD i 0=n at *;have d:=aA u;refine wS (Ae a @hg c d b) k ?_;exact bY (i+1) [0] [] h
  .have:i=xs.length:=Om;subst this;rw[gB]at *;exact wR (aI a c) ae (ids [0])
section
variable (e:Nat->V) (bx:BX) (n:Nat) (h:Nat->V)
theorem axe(id:Nat)(l:List Nat)(xs:List Int)(hx:ve xs)(hn:xs.length<=1000)(hp:0<xs.length)(hl:l.length<=100000000)(hid:id<n) :
  Gxz 247 [.sl (.own id 5) 1 (bv l),.sl .fz 1 (iv xs)] ⟨e,bx,n,h⟩ ⟨bD (aF id) e,df (aF id) bx,n,bD (aF id) h⟩ (.sl (.own id 5) 1 (bv (l++aZ xs))):=by
 have hil:=bV xs
 refine gZ oW ?_
 refine wT (Ad @aK @aH @aG @hil) ?_
 refine rF (fun i:Nat=>[(0,.sl (.own id 5) 1 (bv (l++aZ (xs.take i)))),(9,.sl .fz 1 (iv xs)),(10,vi xs.length),(11,vi i)]) (fun i=>df (pzi id i) bx) (fun _=>n) (fun i=>bD (pzi id i) (bM e h)) (fun i=>i<=xs.length) (fun i=>xs.length-i) 0 ?_ (fun b=>.inl (by rw[P8])) (az _) rfl (ax _) ?_
 ·((try simp only[lu,lw,jQ,kW,pgo,simprocAttr,jb,lN]);try(repeat'(first|exact ae|rfl|apply aI)));all_goals first|exact mV (fun z=>V.sl (.own id 5) 1 (bv z)) (by simp[aZ])|skip
 .intro i hi;replace hi:i<=xs.length:=hi;have hbl:=aA (l++aZ (xs.take i));have hl2:(l++aZ (xs.take i)).length<=100009000:=by have:=DU (xs.take i);rw[bI]at this;rw[aN];omega
  rcases au i xs.length with hlt|hge
  .have hg:=lh xs i hlt;have k1:=yV _ (Dj hx hlt);have hn:=zk xs i hlt;have k2:=bP (xs.getD i 0).toNat;have hap:=dE (l++aZ (xs.take i)) (ai (xs.getD i 0).toNat);rw[bZ l,<-hn]at hap;generalize ai (xs.getD i 0).toNat=u at *;generalize xs.getD i 0=m at *;have hul:=aA u;refine wS (A8 @aH @aG @hil @hg @hbl @hul @hap @P9 @P7) k1 ?_;refine qo (i+1) hlt Om ?_ (fun _=>.inl rfl) (by split<;>omega) rfl;((try simp only[lu,lw,jQ,kW,pgo,simprocAttr,jb,lN]);try(repeat'(first|exact ae|rfl|apply aI)))
  .have:i=xs.length:=Om;subst this;rw[gB,Qa hp]at *;refine wT (Ad @aH @aG @hil @hbl) ?_;refine bC (aW _ _ _) ?_;rw[LH,LJ,aP,aQ]
end
def aoS(xs:List Int)(hx:ve xs)(f:xs.length<=1000):Gxx 250 [.c (.slice none 0 0),.sl .fz 1 (iv xs)] (ob 0 (aZ xs)):=by
 have a:=bV xs;refine gI oW ?_;refine wT a ?_;refine aJ (fun i:Nat=>mkA [(0,ob 0 (aZ (xs.take i))),(9,.sl .fz 1 (iv xs)),(10,vi xs.length),(11,vi i)] [] 1 (fun _=>.top)) (fun i=>i<=xs.length) (fun i=>xs.length-i) 0 [] [] ?_ (ax _) ?_
 .exact kY
 .intro i hi;replace hi:i<=xs.length:=hi;have c:=aA (aZ (xs.take i));have j:(aZ (xs.take i)).length<=9000:=by have:=DU (xs.take i);rw[bI]at this;omega
  rcases au i xs.length with h|g
  .have hg:=lh xs i h;have k:=yV _ (Dj hx h);have f:=zk xs i h;have k2:=bP (xs.getD i 0).toNat;have b:=dE (aZ (xs.take i)) (ai (xs.getD i 0).toNat);rw[<-f]at b;generalize ai (xs.getD i 0).toNat=u at *;generalize xs.getD i 0=n at *;have d:=aA u;refine wS (Ae a @hg c d b) k ?_;exact bY (i+1) [0] [] h
  .have:i=xs.length:=Om;subst this;rw[gB]at *;exact wR (aI a c) ae (ids [0])
section
variable (e:Nat->V) (bx:BX) (n:Nat) (h:Nat->V)
theorem axc(id:Nat)(l:List Nat)(xs:List Int)(hx:ve xs)(hn:xs.length<=1000)(hp:0<xs.length)(hl:l.length<=100000000)(hid:id<n) :
  Gxz 250 [.sl (.own id 5) 1 (bv l),.sl .fz 1 (iv xs)] ⟨e,bx,n,h⟩ ⟨bD (aF id) e,df (aF id) bx,n,bD (aF id) h⟩ (.sl (.own id 5) 1 (bv (l++aZ xs))):=by
 have hil:=bV xs
 refine gZ oW ?_
 refine wT (Ad @aK @aH @aG @hil) ?_
 refine rF (fun i:Nat=>[(0,.sl (.own id 5) 1 (bv (l++aZ (xs.take i)))),(9,.sl .fz 1 (iv xs)),(10,vi xs.length),(11,vi i)]) (fun i=>df (pzi id i) bx) (fun _=>n) (fun i=>bD (pzi id i) (bM e h)) (fun i=>i<=xs.length) (fun i=>xs.length-i) 0 ?_ (fun b=>.inl (by rw[P8])) (az _) rfl (ax _) ?_
 ·((try simp only[lu,lw,jQ,kW,pgo,simprocAttr,jb,lN]);try(repeat'(first|exact ae|rfl|apply aI)));all_goals first|exact mV (fun z=>V.sl (.own id 5) 1 (bv z)) (by simp[aZ])|skip
 .intro i hi;replace hi:i<=xs.length:=hi;have hbl:=aA (l++aZ (xs.take i));have hl2:(l++aZ (xs.take i)).length<=100009000:=by have:=DU (xs.take i);rw[bI]at this;rw[aN];omega
  rcases au i xs.length with hlt|hge
  .have hg:=lh xs i hlt;have k1:=yV _ (Dj hx hlt);have hn:=zk xs i hlt;have k2:=bP (xs.getD i 0).toNat;have hap:=dE (l++aZ (xs.take i)) (ai (xs.getD i 0).toNat);rw[bZ l,<-hn]at hap;generalize ai (xs.getD i 0).toNat=u at *;generalize xs.getD i 0=m at *;have hul:=aA u;refine wS (A8 @aH @aG @hil @hg @hbl @hul @hap @P9 @P7) k1 ?_;refine qo (i+1) hlt Om ?_ (fun _=>.inl rfl) (by split<;>omega) rfl;((try simp only[lu,lw,jQ,kW,pgo,simprocAttr,jb,lN]);try(repeat'(first|exact ae|rfl|apply aI)))
  .have:i=xs.length:=Om;subst this;rw[gB,Qa hp]at *;refine wT (Ad @aH @aG @hil @hbl) ?_;refine bC (aW _ _ _) ?_;rw[LH,LJ,aP,aQ]
end
def aoT(xs:List Int)(hx:ve xs)(f:xs.length<=1000):Gxx 252 [.c (.slice none 0 0),.sl .fz 1 (iv xs)] (ob 0 (aZ xs)):=by
 have a:=bV xs;refine gI oW ?_;refine wT a ?_;refine aJ (fun i:Nat=>mkA [(0,ob 0 (aZ (xs.take i))),(9,.sl .fz 1 (iv xs)),(10,vi xs.length),(11,vi i)] [] 1 (fun _=>.top)) (fun i=>i<=xs.length) (fun i=>xs.length-i) 0 [] [] ?_ (ax _) ?_
 .exact kY
 .intro i hi;replace hi:i<=xs.length:=hi;have c:=aA (aZ (xs.take i));have j:(aZ (xs.take i)).length<=9000:=by have:=DU (xs.take i);rw[bI]at this;omega
  rcases au i xs.length with h|g
  .have hg:=lh xs i h;have k:=yV _ (Dj hx h);have f:=zk xs i h;have k2:=bP (xs.getD i 0).toNat;have b:=dE (aZ (xs.take i)) (ai (xs.getD i 0).toNat);rw[<-f]at b;generalize ai (xs.getD i 0).toNat=u at *;generalize xs.getD i 0=n at *;have d:=aA u;refine wS (Ae a @hg c d b) k ?_;exact bY (i+1) [0] [] h
  .have:i=xs.length:=Om;subst this;rw[gB]at *;exact wR (aI a c) ae (ids [0])
section
variable (e:Nat->V) (bx:BX) (n:Nat) (h:Nat->V)
theorem axd(id:Nat)(l:List Nat)(xs:List Int)(hx:ve xs)(hn:xs.length<=1000)(hp:0<xs.length)(hl:l.length<=100000000)(hid:id<n)(j:Nat)(hj:(j == id)=false) :
  Gxz 252 [.sl (.own id 5) 1 (bv l),.sl (.own j 3) 1 (iv xs)] ⟨e,bx,n,h⟩ ⟨bD (aF id) e,df (aF id) bx,n,bD (aF id) h⟩ (.sl (.own id 5) 1 (bv (l++aZ xs))):=by
 have hil:=bV xs
 refine gZ oW ?_
 refine wT (Ad @aK @aH @aG @hil) ?_
 refine rF (fun i:Nat=>[(0,.sl (.own id 5) 1 (bv (l++aZ (xs.take i)))),(9,.sl (.own j 3) 1 (iv xs)),(10,vi xs.length),(11,vi i)]) (fun i=>df (pzi id i) bx) (fun _=>n) (fun i=>bD (pzi id i) (bM e h)) (fun i=>i<=xs.length) (fun i=>xs.length-i) 0 ?_ (fun b=>.inl (by rw[P8])) (az _) rfl (ax _) ?_
 ·((try simp only[lu,lw,jQ,kW,pgo,simprocAttr,jb,lN]);try(repeat'(first|exact ae|rfl|apply aI)));all_goals first|exact mV (fun z=>V.sl (.own id 5) 1 (bv z)) (by simp[aZ])|skip
 .intro i hi;replace hi:i<=xs.length:=hi;have hbl:=aA (l++aZ (xs.take i));have hl2:(l++aZ (xs.take i)).length<=100009000:=by have:=DU (xs.take i);rw[bI]at this;rw[aN];omega
  rcases au i xs.length with hlt|hge
  .have hg:=lh xs i hlt;have k1:=yV _ (Dj hx hlt);have hn:=zk xs i hlt;have k2:=bP (xs.getD i 0).toNat;have hap:=dE (l++aZ (xs.take i)) (ai (xs.getD i 0).toNat);rw[bZ l,<-hn]at hap;generalize ai (xs.getD i 0).toNat=u at *;generalize xs.getD i 0=m at *;have hul:=aA u;refine wS (A8 @aH @aG @hil @hj @hg @hbl @hul @hap (aI @P9 @P7)) k1 ?_;refine qo (i+1) hlt Om ?_ (fun _=>.inl rfl) (by split<;>omega) rfl;((try simp only[lu,lw,jQ,kW,pgo,simprocAttr,jb,lN]);try(repeat'(first|exact ae|rfl|apply aI)));all_goals first|exact ag (by rw[hj];exact gy)|skip
  .have:i=xs.length:=Om;subst this;rw[gB,Qa hp]at *;refine wT (Ad @aH @aG @hil @hbl) ?_;refine bC (aW _ _ _) ?_;rw[LH,LJ,aP,aQ]
end
def aoR(x:Int)(hx:0<=x/\x<=4611686018427387904):Gxx 243 [.c (.slice none 0 0),vi x] (ob 0 (ai x.toNat)):=by have k:=yV x hx;have k2:=bP x.toNat;generalize ai x.toNat=u at *;have h:=aA u;refine gI oW ?_;exact wR h k (ids [0])
def LQ(e:Nat->V)(bx:BX)(n:Nat)(h:Nat->V)(id:Nat)(l:List Nat)(x:Int)(hx:0<=x/\x<=4611686018427387904)(hl:l.length<=100000000)(hid:id<n) :
  Gxz 243 [.sl (.own id 5) 1 (bv l),vi x] ⟨e,bx,n,h⟩ ⟨bD (aF id) e,df (aF id) bx,n,bD (aF id) h⟩ (.sl (.own id 5) 1 (bv (l++ai x.toNat))):=by
 have k:=yV x hx
 have k2:=bP x.toNat
 have a:=dE l (ai x.toNat)
 generalize ai x.toNat=u at *
 have c:=aA u
 have b:=aA l
 refine gZ oW ?_
 refine wS (Af @aK @aH @aG c b a) k ?_
 refine bC (aW _ _ _) ?_
 rw[LH,LJ,aP,aQ]
 congr 1
 split<;>omega
end Go.Proofs.YtopbmdnbdpjheaaGreat
end
namespace Go.Proofs.YtopbmdnbdpjheaaGreat
open Go Go.Pg
def PN(t:Tl):Gxx 240 [.agg (tlF t)] (vi (vTl t)):=by
 obtain⟨a,b,s⟩:=t;unfold vTl;simp only;by_cases c1:(0<=a/\a<=4294967295)/\(0<=b/\b<=4294967295)/\b<=a
 .rw[ah c1];refine gI oW ?_;exact wR ae ae ay
 .rw[ag c1];by_cases h1:0<=a
  .by_cases h2:a<=4294967295
   .by_cases h3:0<=b
    .have h4:¬b<=a:=Om;refine gI oW ?_;exact wR ae ae ay
    .refine gI oW ?_;exact wR ae ae ay
   .refine gI oW ?_;exact wR ae ae ay
  .refine gI oW ?_;exact wR ae ae ay
def XZ(d z:Int)(h:1<=d/\d<=8/\1<=z/\z<=64):Gxx 159 [vi d,vi z] (vb true):=by refine gI oW ?_;exact wR ae ae ay
def X0(d z:Int)(h:¬(1<=d/\d<=8/\1<=z/\z<=64)):Gxx 159 [vi d,vi z] (vb false):=by
 by_cases h1:1<=d
 .by_cases h2:d<=8
  .by_cases h3:1<=z
   .refine gI oW ?_;exact wR ae ae ay
   .refine gI oW ?_;exact wR ae ae ay
  .refine gI oW ?_;exact wR ae ae ay
 .refine gI oW ?_;exact wR ae ae ay
def PI(c:Cm):Gxx 242 [.agg (cmF c)] (vi (vCm c)):=by
 obtain⟨d,z,s,l,b⟩:=c;unfold vCm;simp only;have t:=bV l;by_cases c1:1<=d/\d<=8/\1<=z/\z<=64
 .rw[ag (by simpa using c1)];have k:=XZ d z c1;have hm:=xx ⟨c1.1,c1.2.1⟩ c1.2.2;by_cases m:(l.length:Int)=d*z
  .rw[ag Om];generalize f:d*z=p at *;refine gI oW ?_;refine wS (aI f @bV) k ?_;refine aJ (fun i:Nat=>mkA [(21,fzi l),(22,vi l.length),(23,vi i)] [] 1 (fun _=>.top)) (fun i=>i<=l.length/\lQ 0 4294967295 (l.take i)=true) (fun i=>l.length-i) 0 [] [] ?_ ⟨ax _,rfl⟩ ?_
   .exact kE
   .rintro i ⟨hi,ha⟩;rcases au i l.length with h|r
    .have hg:=lh l i h;have hx:=Ja (a:=0) (b:=4294967295) h;have j:=Jb (a:=0) (b:=4294967295) h;rw[ha]at j;generalize l.getD i 0=n at *;by_cases g:0<=n/\n<=4294967295
     .refine wT (aI @bV @hg) ?_;exact bE (i+1) [] [] ⟨h,by rw[j,eU g];rfl⟩
     .rw[hx g,ag Aa];by_cases q:0<=n
      .exact wR (aI @bV @hg) ae ay
      .exact wR (aI @bV @hg) ae ay
    .have:i=l.length:=Om;subst this;rw[gB]at ha;rw[ha,ah rfl];exact wR @bV ae ay
  .rw[ah m];generalize f:d*z=p at *;refine gI oW ?_;exact wR (aI f @bV) k ay
 .rw[ah c1];have k:=X0 d z c1;refine gI oW ?_;exact wR ae k ay
def XP(p:Int)(h:2<=p/\p<=8):Gxx 161 [vi p] (vb true):=by refine gI oW ?_;exact wR ae ae ay
def XQ(p:Int)(h:¬(2<=p/\p<=8)):Gxx 161 [vi p] (vb false):=by
 by_cases h1:2<=p
 .refine gI oW ?_;exact wR ae ae ay
 .refine gI oW ?_;exact wR ae ae ay
def PL(x:Ll)(hx:x.r.length<=1000000):Gxx 163 [.agg (llF x)] (vi (vLl x)):=by
 obtain⟨p,s,l⟩:=x;simp only at hx;unfold vLl;simp only;have u:=bV l;by_cases c1:2<=p/\p<=8
 .rw[ag (by simpa using c1)];have k:=XP p c1;obtain⟨f,c,d⟩:=yX c1;by_cases g:l.length=2^p.toNat
  .rw[ag Om];rw[<-g]at f c d;refine gI oW ?_;refine wS (aI f @bV) k ?_;refine aJ (fun i:Nat=>mkA [(1,.ref 0 0),(17,fzi l),(18,vi l.length),(19,vi i)] [(0,(47,llF ⟨p,s,l⟩))] 1 (fun _=>.top)) (fun i=>i<=l.length/\lQ 0 (65-p) (l.take i)=true) (fun i=>l.length-i) 0 [] [0] ?_ ⟨ax _,rfl⟩ ?_
   .exact kE
   .rintro i ⟨hi,ha⟩;rcases au i l.length with h|t
    .have hg:=lh l i h;have hx:=Ja (a:=0) (b:=65-p) h;have m:=Jb (a:=0) (b:=65-p) h;rw[ha]at m;generalize l.getD i 0=n at *;by_cases j:0<=n/\n<=65-p
     .refine wT (aI @bV @hg) ?_;exact bE (i+1) [] [0] ⟨h,by rw[m,eU j];rfl⟩
     .rw[hx j,ag Aa];by_cases r:0<=n
      .exact wR (aI @bV @hg) ae ay
      .exact wR (aI @bV @hg) ae ay
    .have:i=l.length:=Om;subst this;rw[gB]at ha;rw[ha,ah rfl];exact wR @bV ae ay
  .rw[ah g];generalize v:2^p.toNat=q at *;refine gI oW ?_;exact wR (aI f @bV) k ay
 .rw[ah c1];have k:=XQ p c1;refine gI oW ?_;exact wR ae k ay
def auI:ai 0=[0]:=dX
def auJ:ai 1=[1]:=dX
def XF(t:Tl)(h:vTl t=0):Gxx 156 [.agg (tlF t)] (.tup [fzb (gX t),vi 0]):=by
 have h1:=PN t;rw[h]at h1
 have d:(0<=t.t/\t.t<=4294967295)/\(0<=t.i/\t.i<=4294967295):=by
  unfold vTl at h;split at h
  .omega
  .cases h
 refine Good.fzt (vs:=[ob 0 (gX t),vi 0]) ?_ rfl ⟨aC _,aC _,trivial⟩;obtain⟨a,i,b⟩:=t;have h2:=XW [a,i,0] (by intro y c;simp at c;simp only at d;omega) Aa;have h3:=XW [a,i,1] (by intro y c;simp at c;simp only at d;omega) Aa;have f:aZ [a,i,0]=gX ⟨a,i,false⟩:=by simp[aZ,gX,auI,iH,bZ]
 have g:aZ [a,i,1]=gX ⟨a,i,true⟩:=by simp[aZ,gX,auJ,iH,bZ]
 rw[f]at h2;rw[g]at h3;cases b
 .generalize gX ⟨a,i,false⟩=u at *;refine gI oW ?_;(repeat' first|refine wP @id_eq.{1} h1 ?_|refine cG [1] h2 ?_|refine tS ?_ ?_<;>intro j|fail);all_goals exact rE [2]
 .generalize gX ⟨a,i,true⟩=u at *;refine gI oW ?_;(repeat' first|refine wP @id_eq.{1} h1 ?_|refine cG [1] h3 ?_|refine tS ?_ ?_<;>intro j|fail);all_goals exact rE [2]
def an4(x:Ll)(h:vLl x=0)(q:0<=x.s/\x.s<18446744073709551616)(p:x.r.length<=1000000):Gxx 256 [.agg (llF x)] (.tup [fzb (l7 x),vi 0]):=by
 have h1:=PL x p;rw[h]at h1;obtain⟨r,i2,t⟩:=Bz h;have h2:=Pz x.p Om;have h5:=XH x.s q;have v:=bP x.p.toNat;have y:=qg x.s;unfold l7;generalize hA:ai x.p.toNat++eY x.s=A;have j:A.length<=17:=by rw[<-hA];simp only[aN];omega
 refine Good.fzt (vs:=[ob 0 (A++x.r.map u8i),vi 0]) ?_ rfl ⟨aC _,aC _,trivial⟩;generalize ai x.p.toNat=a at *;generalize eY x.s=e at *;have ha:=aA a;have he:=aA e;have d:=dE a e;obtain⟨z,s,l⟩:=x;simp only at *;have c:=bV l;refine gI oW ?_;refine wS (Ae @ha @he d @hA c) (Ac h1 h2 h5) ?_;refine aJ (fun i:Nat=>mkA [(5,ob 0 (A++(l.take i).map u8i)),(26,.sl .fz 1 (iv l)),(27,vi l.length),(28,vi i)] [] 1 (fun _=>.top)) (fun i=>i<=l.length) (fun i=>l.length-i) 0 [1] [] ?_ (ax _) ?_
 .exact kY
 .intro i hi;replace hi:i<=l.length:=hi;have g:=aA (A++(l.take i).map u8i);have m:(A++(l.take i).map u8i).length<=2000000:=by simp only[aN,aj,bI];omega
  rcases au i l.length with b|k
  .have hg:=lh l i b;have hx:=FY (l.getD i 0)
   have f:bv (A++(l.take i).map u8i)++[V.c (.int .u8 ((u8i (l.getD i 0):Nat):Int))]=bv (A++(l.take (i+1)).map u8i):=by
    have e:(l.take (i+1)).map u8i=(l.take i).map u8i++[u8i (l.getD i 0)]:=by rw[mP b,nJ];simp[List.getD,b]
    rw[bvS,bZ,<-e]
   generalize u8i (l.getD i 0)=u at *;generalize l.getD i 0=n at *;refine wT (Ae c @hg g @hx f) ?_;exact bY (i+1) [0] [] b
  .have:i=l.length:=Om;subst this;rw[gB];exact wR c ae (ids [0])
def XC(c:Cm)(h:vCm c=0)(G:0<=c.s/\c.s<18446744073709551616):Gxx 160 [.agg (cmF c)] (.tup [fzb (jD c),vi 0]):=by
 have h1:=PI c;rw[h]at h1;obtain⟨H,i2,J,I⟩:=Bv h;have hm:=xx H i2;have h2:=aoR c.d Om;have h5:=XH c.s G;have K:=bP c.d.toNat;have L:=bP c.z.toNat;have M:=qg c.s;have h3:=fun e bx n h (hid:1<n)=>LQ e bx n h 1 (ai c.d.toNat) c.z Om Om hid
 have p:=fun i (hi:i<c.c.length)=>BM I hi
 have v:=fun i (hi:i<c.c.length)=>zk c.c i hi
 have u:=fun i=>wX (fun n:Int=>ai n.toNat) 9 c.c i (fun x _=>bP _)
 unfold jD;generalize hA:ai c.d.toNat++ai c.z.toNat++eY c.s=A;have y:A.length<=26:=by rw[<-hA];simp only[aN];omega
 refine Good.fzt (vs:=[ob 0 (A++aZ c.c++iH c.b),vi 0]) ?_ rfl ⟨aC _,aC _,trivial⟩;generalize ai c.d.toNat=a at *;generalize ai c.z.toNat=b at *;generalize eY c.s=e at *;have ha:=aA a;have hb:=aA b;have he:=aA e;have j:=aA (a++b);rw[aN]at j;have q:=dE (a++b) e;obtain⟨d,z,s,l,bb⟩:=c;simp only at *;have f:=bV l;refine gI oW ?_;(repeat' first|refine wP (Ag @ha @hb @he j q @hA f) (Ac h1 h2 h5) ?_|refine aU _ (h3 _ _ _ _ Om) rfl ?_|refine tS ?_ ?_<;>intro t|fail);refine aJ (fun i:Nat=>mkA [(1,.ref 0 0),(5,ob 0 (A++aZ (l.take i))),(25,.sl .fz 1 (iv l)),(26,vi l.length),(27,vi i)] [(0,(45,cmF ⟨d,z,s,l,bb⟩))] 1 (fun _=>.top)) (fun i=>i<=l.length) (fun i=>l.length-i) 0 [1] [0] ?_ (ax _) ?_
 ·(refine kM ?_ ?_;(repeat'(first|exact ae|refine dQ _ _ rfl rfl ?_ ?_));all_goals(try simp only[pgm,simprocAttr]);all_goals(try(repeat' apply aI));all_goals(try exact gz));all_goals first|exact fE rfl (by simp[aZ])|exact eF Om|skip
 .intro i hi;replace hi:i<=l.length:=hi;have m:=aA (A++aZ (l.take i));have E:(A++aZ (l.take i)).length<=100000:=by have:=u i;rw[aN];show A.length+(aZ (l.take i)).length<=_;unfold aZ;omega
  rcases au i l.length with g|C
  .have hg:=lh l i g;have hx:=p i g;have F:=v i g;have k:=fun e bx n h (hid:0<n)=>LQ e bx n h 0 (A++aZ (l.take i)) (l.getD i 0) Om Om hid
   rw[bZ A,<-F]at k;generalize l.getD i 0=n at *;(repeat' first|refine wQ (Ac f @hg m) ?_|refine aU _ (k _ _ _ _ Om) rfl ?_|refine tS ?_ ?_<;>intro t|fail);exact bY (i+1) [0] [0] g
  .have:i=l.length:=Om;subst this;rw[gB]at *;cases bb
   .have k:=fun e bx n h (hid:0<n)=>LQ e bx n h 0 (A++aZ l) 0 Om Om hid
    have r:ai (Int.toNat 0)=iH false:=dX;rw[r]at k;(repeat' first|refine wQ (aI f m) ?_|refine aU _ (k _ _ _ _ Om) rfl ?_|refine tS ?_ ?_<;>intro t|fail);exact rE [0]
   .have k:=fun e bx n h (hid:0<n)=>LQ e bx n h 0 (A++aZ l) 1 Om Om hid
    have r:ai (Int.toNat 1)=iH true:=dX;rw[r]at k;(repeat' first|refine wQ (aI f m) ?_|refine aU _ (k _ _ _ _ Om) rfl ?_|refine tS ?_ ?_<;>intro t|fail);exact rE [0]
def ao4(z:Int):Gxx 297 [vi z] (vb (decide (1<=z/\z<=32))):=by refine gI oW ?_;exact wG ae ae ay
def ao7(z:Int):Gxx 294 [vi z] (vb (decide (1<=z/\z<=32))):=by refine gI oW ?_;exact wG ae ae ay
def ao6(z:Int):Gxx 298 [vi z] (vb (decide (2<=z/\z<=32/\z%2=0))):=by refine gI oW ?_;exact wG @QQ ae ay
theorem PK(x:Fq)(ho:octE x.e)(q:x.e.length<=1000000):Gxx 249 [.agg (fqF x)] (vi (vFq x)):=by
 obtain⟨z,t,lo,l,b⟩:=x;simp only at ho q;unfold vFq;simp only;have n:=bJ l;have r:=ao4 z;generalize g:gK (uN l) l.length 0=E;refine gI oW ?_;(repeat' first|refine wP @bJ r ?_|refine tS ?_ ?_<;>intro j|fail);all_goals first|exact rG ay|skip
 refine aJ (fun i:Nat=>mkA [(1,.ref 0 0),(36,fzv l),(37,vi l.length),(38,vi i)] [(0,(52,fqF ⟨z,t,lo,l,b⟩))] 1 (fun _=>.top)) (fun i=>i<=l.length/\gK (uN l) (l.length-i) i=E) (fun i=>l.length-i) 0 [] [0] ?_ ⟨ax _,g⟩ ?_
 .exact kE
 .rintro i ⟨hi,he⟩;rcases au i l.length with h|p
  .have hg:=jP l i h;have a:=jP l (i-1) Om;have c:((i:Int)-1).toNat=i-1:=Om;have hd:=vF (oN ho i) (oN ho (i-1));rw[show l.length-i=(l.length-(i+1))+1 by omega,gK]at he;have k:=Oj (l.getD i eD).1;rw[uN.eq_1 l i]at he;generalize l.getD i eD=x at *;generalize l.getD (i-1) eD=y at *;obtain⟨f,xc,s⟩:=x;simp only at k he hg hd;have d:(kl f y.1||decide (sB f=sB y.1))=leK f y.1:=by rw[hd];rfl
   (repeat' first|refine wP (Ag @pgv @iO d @hg c a @bJ) k ?_|refine tS ?_ ?_<;>intro j|fail);all_goals first|exact rG ay|exact bE (i+1) [] [0] ⟨h,by grind⟩
  .obtain rfl:i=l.length:=Om;rw[zC]at he;have m:0=E:=he;exact wG @bJ ae ay
def PM(x:Rk)(hv:∀l∈x.v,octL l)(T:x.v.length<=1000000)(C:∀l∈x.v,l.length<=1000000):Gxx 251 [.agg (rkF x)] (vi (vRk x)):=by
 obtain⟨z,t,lo,v,b⟩:=x;simp only at hv T C
 have G:∀i,octL (v.getD i []):=fun i=>by
  rcases au i v.length with hi|hi
  .have:v.getD i []=v[i]:=by simp[List.getD,hi]
   rw[this];exact hv _ (ji hi)
  .have:v.getD i []=[]:=by simp[List.getD,hi]
   rw[this];intro e he;cases he
 unfold vRk;simp only;have k:=kF v;have W:=ao6 z;generalize N:gK (pJ z v) v.length 0=E;refine gI oW ?_;(repeat' first|refine wP @kF W ?_|refine tS ?_ ?_<;>intro H|fail);all_goals first|exact rG ay|skip
 refine aJ (fun i:Nat=>mkA [(1,.ref 0 0),(3,vi (unR v i)),(38,fzl v),(39,vi v.length),(40,vi i)] [(0,(55,rkF ⟨z,t,lo,v,b⟩))] 1 (fun _=>.top)) (fun i=>i<=v.length/\gK (pJ z v) (v.length-i) i=E/\∀j,j<i->(v.getD j []).length<32) (fun i=>v.length-i) 0 [] [0] ?_ ⟨ax _,N,fun j h=>by omega⟩ ?_
 .exact kE;all_goals first|exact eF rfl|skip
 .rintro h ⟨hi,he,c⟩;rcases au h v.length with r|Q
  .have hg:=uY v h r;have J:=G h;have U:=ZJ v h Om c;rw[show v.length-h=(v.length-(h+1))+1 by omega,gK]at he;have q:pJ z v h=if((v.getD h []).length:Int)>=z then 11 else gK (zS (v.getD h [])) (v.getD h []).length 0:=rfl
   have s:unR v (h+1)=unR v h+(v.getD h []).length*2^h:=rfl
   have m:(v.getD h []).length<32->∀j,j<h+1->(v.getD j []).length<32:=fun M j hj=>by
    rcases au j h with h1|h1
    .exact c j h1
    .obtain rfl:j=h:=Om;exact M
   generalize v.getD h []=a at *;have f:=jA a;generalize unR v h=S at *;(repeat' first|refine wQ (Ad @pgv k @hg f) ?_|refine tS ?_ ?_<;>intro H|fail);all_goals first|exact rG ay|skip
   have d:=m Om;obtain⟨F,K,L⟩:=YV a.length h Om Om;rw[ag Om]at q;refine aJ (fun i:Nat=>mkA [(1,.ref 0 0),(3,vi S),(4,vi h),(5,fzs a),(38,fzl v),(39,vi v.length),(40,vi h),(50,fzs a),(51,vi a.length),(52,vi i)] [(0,(55,rkF ⟨z,t,lo,v,b⟩))] 1 (fun _=>.top)) (fun i=>i<=a.length/\gK (zS a) (a.length-i) i=pJ z v h) (fun i=>a.length-i) 0 [] [0] ?_ ⟨ax _,q.symm⟩ ?_
   .exact kE
   .rintro i ⟨R,g⟩;rcases au i a.length with n|I
    .have y:=qJ a i n;have A:=qJ a (i-1) Om;have p:((i:Int)-1).toNat=i-1:=Om;rw[show a.length-i=(a.length-(i+1))+1 by omega,gK]at g;have X:=Oj (a.getD i []);rw[zS.eq_1 a i]at g;generalize a.getD i []=Z at *;generalize a.getD (i-1) []=yk at *;(repeat' first|refine wP (Ah @pgv k @hg f y A p @iO) X ?_|refine tS ?_ ?_<;>intro H|fail);all_goals first|exact rG ay|exact bE (i+1) [] [0] ⟨n,by grind⟩
    .obtain rfl:i=a.length:=Om;rw[zC]at g;have u:0=pJ z v h:=g;rw[<-u,ag Om]at he;refine wT (Ae @pgv k @hg f F) ?_;(refine bL (h+1) [] [0] (⟨r,he,d⟩) ?_;(refine kM ?_ ?_;(repeat'(first|exact ae|refine dQ _ _ rfl rfl ?_ ?_));all_goals(try simp only[pgm,simprocAttr]);all_goals(try(repeat' apply aI));all_goals(try exact gz)));all_goals first|exact eF (by rw[s])|skip
  .obtain rfl:h=v.length:=Om;rw[zC]at he;have P:0=E:=he;unfold ND;have p:((v.length:Int)-1).toNat=v.length-1:=Om;have hg:=fun Y:0<v.length=>uY v (v.length-1) Om
   have f:=jA (v.getD (v.length-1) []);generalize v.getD (v.length-1) []=a at *;exact wG (Ae @pgv k @hg f p) ae ay
def yj(b:Bool):Int:=if b=true then 1 else 0
def NM(b:Bool):0<=yj b/\yj b<=4611686018427387904:=by cases b<;>decide
def NL(b:Bool):ai (yj b).toNat=iH b:=by cases b<;>decide
def nC{x:Int}{xs:List Int}(h:0<=x/\x<=4611686018427387904)(h2:ve xs):ve (x::xs):=by
 intro y a;rcases fG.1 a with e|e
 .omega
 .exact h2 y e
theorem Fa:ve []:=fun y h=>nomatch h
theorem F5(x:Int)(xs:List Int):aZ (x::xs)=ai x.toNat++aZ xs:=rfl
theorem F6:aZ []=[]:=rfl
def XE(x:Rk)(h:vRk x=0)(hv:∀l∈x.v,octL l)(hn:x.v.length<=1000000)(H:∀l∈x.v,l.length<=1000000):Gxx 172 [.agg (rkF x)] (.tup [fzb (jF x),vi 0]):=by
 have h1:=PM x hv hn H;rw[h]at h1;have d:=IK h;obtain⟨i1,i2,i2',i3,T⟩:=zn h;have h2:=aoT [x.z,x.t,x.l,yj x.b,(x.v.length:Int)] (nC Om (nC Om (nC Om (nC (NM _) (nC Om Fa))))) Aa;have Q:aZ [x.z,x.t,x.l,yj x.b,(x.v.length:Int)]=ai x.z.toNat++ai x.t.toNat++ai x.l.toNat++iH x.b++ai x.v.length:=by simp only[F5,F6,NL,fC,gV,bZ]
 rw[Q]at h2;have l2:=bP x.z.toNat;have l3:=bP x.t.toNat;have P:=bP x.l.toNat;have l4:=qZ x.b;have l5:=bP x.v.length;have I:=fun i (hi:i<x.v.length)=>zU dW [] x.v i hi
 have G:=fun i=>wX dW 1280 x.v i (fun l hl=>by obtain⟨j,hj,he⟩:=nz [] hl;rw[<-he];exact OT _ (d j hj) (T j))
 unfold jF;generalize hA:ai x.z.toNat++ai x.t.toNat++ai x.l.toNat++iH x.b++ai x.v.length=A at *;have X:A.length<=37:=by rw[<-hA];simp only[aN];omega
 clear hA l2 l3 P l4 l5 Q;refine Good.fzt (vs:=[ob 0 (A++x.v.flatMap dW),vi 0]) ?_ rfl ⟨aC _,aC _,trivial⟩;have s:=aA A
 have hol:∀i,octL (x.v.getD i []):=fun i=>by
  rcases au i x.v.length with hi|hi
  .exact hv _ (wY _ _ _ hi)
  .rw[List.getD,Gi hi];intro e he;cases he
 obtain⟨z,tt,tl,l,bb⟩:=x;simp only at *;have c:=kF l;cases bb
 all_goals
  refine gI oW ?_
  (repeat'(first|(simp(disch:=first|exact dqz|fail) only[pgz,simprocAttr,c,s,id_eq.{1}])|((with_reducible show eX _ _ _ _ _ _);first|refine cU h1 ?_|refine SY [1] _ (h2) rfl rfl rfl rfl ?_)|((with_reducible first|apply lD|apply lJ|apply lH)<;>intro a<;>(try simp only[a])<;>(try simp only[pgd]at a))|(with_reducible refine cK ?_)))
  refine aJ (fun i:Nat=>mkA [(6,ob 0 (A++(l.take i).flatMap dW)),(33,.sl .fz 1 (lv l)),(34,vi l.length),(35,vi i)] [] 1 (fun _=>.top)) (fun i=>i<=l.length) (fun i=>l.length-i) 0 [2] [] ?_ (ax _) ?_
  .exact kY
  .intro i hi
   replace hi:i<=l.length:=hi
   have t:=aA (A++(l.take i).flatMap dW)
   have hl2:(A++(l.take i).flatMap dW).length<=90000000:=by have:=G i;rw[aN];omega
   rcases au i l.length with f|Z
   .have hg:=uY l i f
    have q:=I i f
    have hk:=d i f
    have J:=hol i
    have S:=T i
    generalize l.getD i []=y at *
    have g:=jA y
    have Y:dW y=ai y.length++y.flatMap bG:=rfl
    rw[Y,<-bZ]at q
    have k2:=fun e bx n h (id j:Nat) (hid:id<n) hj=>axd e bx n h id (A++(l.take i).flatMap dW) [(y.length:Int)] (nC Om Fa) Aa Aa Om hid j hj
    have W:aZ [(y.length:Int)]=ai y.length:=by simp only[F5,F6,fC,gV]
    rw[W]at k2
    have q2:=bP y.length
    have E:=fun j (hj:j<y.length)=>zU bG [] y j hj
    have F:=fun j=>wX bG 41 y j (fun k C=>by have:=vS k;have:=hk k C;omega)
    generalize ai y.length=u at *
    have p2:(A++(l.take i).flatMap dW++u).length<=90000009:=by rw[aN];omega
    have p3:A++(l.take i).flatMap dW++u++y.flatMap bG=A++(l.take (i+1)).flatMap dW:=by rw[q];simp only[bZ]
    generalize r:(l.take (i+1)).flatMap dW=MN at *
    generalize A++(l.take i).flatMap dW=M at *
    (repeat'(first|(simp(disch:=first|exact dqz|fail) only[pgz,simprocAttr,c,hg,g,t])|((with_reducible show eX _ _ _ _ _ _);first|refine aU _ (k2 _ _ _ _ _ _ Om rfl) rfl ?_)|((with_reducible first|apply lD|apply lJ|apply lH)<;>intro a<;>(try simp only[a])<;>(try simp only[pgd]at a))|(with_reducible refine cK ?_)))
    generalize M++u=N at *
    refine aJ (fun j:Nat=>mkA [(6,ob 0 (N++(y.take j).flatMap bG)),(33,.sl .fz 1 (lv l)),(34,vi l.length),(35,vi i),(44,.sl .fz 1 (sv y)),(45,vi y.length),(46,vi j)] [] 1 (fun _=>.top)) (fun j=>j<=y.length) (fun j=>y.length-j) 0 [0] [] ?_ (ax _) ?_
    .exact kY
    .intro j hj
     replace hj:j<=y.length:=hj
     have m:=aA (N++(y.take j).flatMap bG)
     have hl3:(N++(y.take j).flatMap bG).length<=95000000:=by have:=F j;rw[aN];omega
     rcases au j y.length with b|R
     .have v:=qJ y j b
      have hkl:=hk _ (wY y j [] b)
      have K:=Ic J j
      have p:=E j b
      have k3:=Py (y.getD j []) K Om
      have q3:=vS (y.getD j [])
      have U:=dE (N++(y.take j).flatMap bG) (bG (y.getD j []))
      rw[bZ N,<-p]at U
      generalize bG (y.getD j [])=w at *
      generalize y.getD j []=k at *
      have L:=aA w
      (repeat'(first|(simp(disch:=first|exact dqz|fail) only[pgz,simprocAttr,c,hg,v,g,m,L,U])|((with_reducible show eX _ _ _ _ _ _);first|refine cU k3 ?_)|((with_reducible first|apply lD|apply lJ|apply lH)<;>intro a<;>(try simp only[a])<;>(try simp only[pgd]at a))|(with_reducible refine cK ?_)))
      exact bY (j+1) [0] [] b
     .have:j=y.length:=Om
      subst this
      rw[gB,p3]
      (repeat'(first|(simp(disch:=first|exact dqz|fail) only[pgz,simprocAttr,c,hg,g])|((with_reducible first|apply lD|apply lJ|apply lH)<;>intro a<;>(try simp only[a])<;>(try simp only[pgd]at a))|(with_reducible refine cK ?_)))
      (refine bL (i+1) [0] [] (f) ?_;(refine kM ?_ ?_;(repeat'(first|exact ae|refine dQ _ _ rfl rfl ?_ ?_));all_goals(try simp only[pgm,simprocAttr]);all_goals(try(repeat' apply aI));all_goals(try exact gz)))
      all_goals first|exact fE rfl (by rw[r])|exact eF Om|skip
   .have:i=l.length:=Om
    subst this
    rw[gB]
    (repeat'(first|(simp(disch:=first|exact dqz|fail) only[pgz,simprocAttr,c])|((with_reducible first|apply lD|apply lJ|apply lH)<;>intro a<;>(try simp only[a])<;>(try simp only[pgd]at a))|(with_reducible refine cK ?_)))
    exact rE [0]
def Tz:∀(a b:List UInt8),Lib.compareBytes a b=if Op.bytesLess a b=true then -1 else if Op.bytesLess b a=true then 1 else 0
 |[],[]=>rfl
 |[],_::_=>rfl
 |_::_,[]=>rfl
 |x::a,y::b=>by have h:=Tz a b;unfold Lib.compareBytes;simp[Op.bytesLess];grind
def xZ(a b:List Nat):Int:=if kl a b=true then -1 else if kl b a=true then 1 else 0
def avI(a b:List Nat):GoodX Tryz.prog 344 [vs a,vs b] (vi (xZ a b)):=by rintro L w c ⟨_,_,rfl,rfl,_,_,rfl,rfl,rfl⟩;refine⟨_,?_,rfl⟩;rw[run_callFunc_extern Tryz.func344 Za Za Za (e:=Extern.BytealgCompare.compare) Za];show((Extern.BytealgCompare.compare #[.string (sB a),.string (sB b)]).run Tryz.prog w).andThen _=_;rw[Lib.run_compareString,Tz,<-ByteArray.toList_eq,<-ByteArray.toList_eq];rfl
def anN(a b:List Nat):Gxx 339 [vs a,vs b] (vi (xZ a b)):=by refine gI oW ?_;(repeat' first|refine wO ?_|refine cZ ((avI a b).z _) ?_|refine tS ?_ ?_<;>intro h|fail);exact rE []
def aox(a b:List Nat):Gxx 327 [vs a,vs b] (vi (xZ a b)):=by refine gI oW ?_;exact wR ae (anN a b) ay
def Fz(a:Int):Gxx 293 [vi a] (vb false):=by refine gI oW ?_;exact wR ae ae ay
def GN(a b:Int):Int:=if a<b then -1 else if b<a then 1 else 0
def anO(a b:Int):Gxx 326 [vi a,vi b] (vi (GN a b)):=by
 unfold GN;by_cases h1:a<b
 .rw[ah h1];refine gI oW ?_;exact wR ae (aI (Fz a) (Fz b)) ay
 .rw[ag h1];by_cases h2:b<a
  .rw[ah h2];refine gI oW ?_;exact wR ae (aI (Fz a) (Fz b)) ay
  .rw[ag h2];refine gI oW ?_;exact wR ae (aI (Fz a) (Fz b)) ay
def yw:List Int->Int
 |[]=>0
 |x::l=>if x=0 then yw l else x
def aol(l:List Int)(g:l.length<=1000000):Gxx 325 [fzi l] (vi (yw l)):=by
 have h:=bV l;refine gI oW ?_;refine wT h ?_;refine aJ (fun i:Nat=>mkA [(3,vi 0),(6,fzi l),(7,vi l.length),(8,vi i)] [] 0 (fun _=>.top)) (fun i=>i<=l.length/\yw (l.drop i)=yw l) (fun i=>l.length-i) 0 [] [] ?_ ⟨ax _,rfl⟩ ?_
 .exact kE
 .rintro i ⟨hi,he⟩;rcases au i l.length with a|f
  .have hg:=lh l i a;rw[zx a]at he;have c:l.getD i 0=l[i]:=by simp[List.getD,a]
   rw[c]at hg;generalize l[i]=x at *;by_cases d:x=0
   .subst d;have b:yw (l.drop (i+1))=yw l:=he;refine wT (aI h @hg) ?_;exact bE (i+1) [] [] ⟨a,b⟩
   .have b:x=yw l:=by rw[<-he];exact(ag d).symm
    rw[<-b];exact wR (aI h @hg) ae ay
  .have:i=l.length:=Om;subst this;rw[jM]at he;rw[<-he];exact wR h ae ay
def Ee(a b:En):Int:=if b.2.1<a.2.1 then -1 else if a.2.1<b.2.1 then 1 else xZ a.1 b.1
def adL(a b:En):yw [GN b.2.1 a.2.1,xZ a.1 b.1]=Ee a b:=by grind[Ee,GN,yw,xZ]
theorem adM{a b:List Nat}:xZ a b<0↔kl a b=true:=by grind[xZ,kl]
def adK(a b:En):decide (Ee a b<0)=bfE a b:=by grind[Ee,bfE,adM]
def aoK(a b:En):Gxx 296 [.agg [vs a.1,vi a.2.1,vi a.2.2],.agg [vs b.1,vi b.2.1,vi b.2.2]] (vi (Ee a b)):=by have h1:=anO b.2.1 a.2.1;have h2:=aox a.1 b.1;have h3:=aol [GN b.2.1 a.2.1,xZ a.1 b.1] Aa;rw[adL]at h3;refine gI oW ?_;exact wR ae (Ac h1 h2 h3) ay
def Vt{l m:List Nat}{b a:Nat}(h:(m.contains b&&m.idxOf b == a)=true):Gen l m (.mh false b) (.mh false a):=by simp at h;refine .inr (.inl ⟨by simp[V.any,EZ,h.1],by simp[V.map,h.2]⟩)
def Vq{l m:List Nat}{ps p:List Me}(h:∀e∈ps,∃u,e.2.1 = .c u)(hp:ps=p):GenL l m (mpF ps) (mpF p):=by
 subst hp
 induction ps with
 |nil=>trivial
 |cons x r i =>obtain⟨k,v,b⟩:=x;obtain⟨u,rfl⟩:∃u,v = .c u:=h _ (.head _);exact⟨IY (ku _ _ _),IY (ku _ _ _),IY (ku _ _ _),i fun e he=>h e (.tail _ he)⟩
theorem abY{a b:ByteArray}:(a == b)=true↔a=b:=by obtain⟨a⟩:=a;obtain⟨b⟩:=b;show(a == b)=true↔_;grind
def Bl(l:List En):Nat->List Me
 |0=>[]
 |n+1=>Bl l n++[(.string (sB (l.getD n eD).1),.c (.bool true),n)]
def Qw(l:List En):∀n,∀e∈Bl l n,∃u,e.2.1 = .c u
 |n+1,e,h=>by
  rcases iG.1 h with h|h
  .exact Qw l n e h
  .grind
def WE(k:Value)(e:Me):∀(ps:List Me) (i:Nat),mIx ps k i=some none->mIx (ps++[e]) k i=(qY k e.1).map fun b=>if b=true then some (i+ps.length,e.2.1)else none
 |[],i,_=>by grind[mIx]
 |(a,v,b)::ps,i,h=>by
  rw[mO];unfold mIx at h⊢;split at h
  .cases h
  .rw[WE k e ps (i+1) h,dB,show i+1+ps.length=i+(ps.length+1) by omega]
  .cases h
def WF(k:Value)(e:Me)(x:Nat×V):∀(ps:List Me) (i:Nat),mIx ps k i=some (some x)->mIx (ps++[e]) k i=some (some x)
 |(a,v,b)::ps,i,h=>by
  rw[mO];unfold mIx at h⊢;split at h
  .exact h
  .exact WF k e x ps (i+1) h
  .cases h
def UA(l:List En)(k:List Nat):di l k>=0↔∃e∈l,e.1=k:=by
 have:∀(l:List En) (i:Nat),uQ k i l>=0↔∃e∈l,e.1=k:=by
  intro l
  induction l with
  |nil=>intro i;simp[uQ]
  |cons x l a =>grind[uQ]
 exact this l 0
def aq2(l:List En)(ho:octE l)(k:List Nat)(hk:oct k):∀n,n<=l.length->if di (l.take n) k>=0 then ∃j,mIx (Bl l n) (.string (sB k)) 0=some (some (j,.c (.bool true)))else mIx (Bl l n) (.string (sB k)) 0=some none:=by
 intro n
 induction n with
 |zero=>intro _;rfl
 |succ n i =>
  intro f;have i:=i Om;have d:=oN ho n;have b:(sB k == sB (l.getD n eD).1)=true↔(l.getD n eD).1=k:=by grind[Qv,abY]
  have a:di (l.take (n+1)) k>=0↔((l.getD n eD).1=k\/di (l.take n) k>=0):=by
   have:l.take (n+1)=l.take n++[l.getD n eD]:=by grind[List.take_succ_eq_append_getElem,List.getD]
   rw[UA,UA,this];simp only[iG,jX,or_and_right,exists_or,exists_eq_left];exact or_comm
  have c:qY (.string (sB k)) (.string (sB (l.getD n eD).1))=some (sB k == sB (l.getD n eD).1):=rfl;by_cases h2:di (l.take n) k>=0
  .rw[ah h2]at i;obtain⟨j,hj⟩:=i;rw[ah (a.2 (.inr h2))];exact⟨j,WF _ _ _ _ _ hj⟩
  .rw[ag h2]at i;have h5:=WE (.string (sB k)) (.string (sB (l.getD n eD).1),.c (.bool true),n) _ _ i;rw[c]at h5;by_cases h1:(l.getD n eD).1=k
   .rw[ah (a.2 (.inl h1))];exact⟨_,h5.trans (by rw[b.2 h1];rfl)⟩
   .rw[ag (fun h=>(a.1 h).elim h1 h2)];refine h5.trans ?_;rw[show(sB k == sB (l.getD n eD).1)=false from Bool.eq_false_iff.2 fun h=>h1 (b.1 h)];rfl
def alI{ps:List Me}{c:Nat}{k:Value}{x:V}(h:mIx ps k 0=some none):yN ps c k x=some (c+1,ps++[(k,x,c)]):=by grind[yN]
def O0:ny Tryz.prog 336=some (9,4):=Za
def ZA:lV Tryz.prog 4=some (.bool false):=Za
def VS:iU Tryz.prog 9=true:=Za
theorem PO(x:Tp)(ho:octE x.e)(hn:x.e.length<=1000000):Gxx 246 [.agg (tpF x)] (vi (vTp x)):=by
 obtain⟨z,t,l,b⟩:=x;simp only at ho hn;unfold vTp;simp only;have hel:=bJ l;have k1:=ao7 z;generalize hE:gK (wJ l) l.length 0=E;refine gI oW ?_;(repeat' first|refine wP (Ad @pgp @O0 @mQ.{0,0} @bJ) k1 ?_|refine tS ?_ ?_<;>intro hc|fail);all_goals first|exact rG ay|skip
 refine aJ (fun i:Nat=>mkA [(1,.ref 0 0),(3,.mh false 1),(28,fzv l),(29,vi l.length),(30,vi i)] [(0,(50,tpF ⟨z,t,l,b⟩)),(1,(336,mpC i (Bl l i)))] 2 (fun _=>.top)) (fun i=>i<=l.length/\gK (wJ l) (l.length-i) i=E) (fun i=>l.length-i) 0 [] [0,1] ?_ ⟨ax _,hE⟩ ?_
 ·(refine kM ?_ ?_;(repeat'(first|exact ae|refine dQ _ _ rfl rfl ?_ ?_));all_goals(try simp only[pgm,simprocAttr]);all_goals(try(repeat' apply aI));all_goals(try exact gz));all_goals first|exact Vt rfl|exact Vq (Qw l 0) rfl|skip
 .rintro i ⟨hi,he⟩;rcases au i l.length with hlt|hge
  .have hg:=jP l i hlt;have hg1:=jP l (i-1) Om;have hi1:((i:Int)-1).toNat=i-1:=Om;have hox:=oN ho i;rw[show l.length-i=(l.length-(i+1))+1 by omega,gK]at he;have k3:=Oj (l.getD i eD).1;have k4:=aq2 l ho (l.getD i eD).1 hox i hi;have hsm:Bl l i++[(.string (sB (l.getD i eD).1),.c (.bool true),i)]=Bl l (i+1):=rfl;have hsc:=Qw l (i+1);rw[wJ.eq_1 l i]at he;have hb:=aoK (l.getD (i-1) eD) (l.getD i eD);have hlt5:=adK (l.getD (i-1) eD) (l.getD i eD);generalize Ee (l.getD (i-1) eD) (l.getD i eD)=cc at *;generalize bfE (l.getD (i-1) eD) (l.getD i eD)=bf at *;generalize l.getD i eD=x at *;generalize l.getD (i-1) eD=y at *;obtain⟨xk,xc,xe⟩:=x;simp only at hox k3 k4 he hg hb hsm;generalize Bl l i=M at *;by_cases q3:di (l.take i) xk>=0
   .rw[ah q3]at k4 he;obtain⟨j,k4⟩:=k4;(repeat' first|refine wP (A8 @pgp @O0 @ZA @mQ.{0,0} @dZ.{0,0} @Pi @VS @k4 (aI @hg @bJ)) k3 ?_|refine tS ?_ ?_<;>intro hc|fail);all_goals exact rG ay
   .rw[ag q3]at k4 he;have k6:=(alI (c:=i) (x:=.c (.bool true)) k4).trans (by rw[hsm]);(repeat' first|refine wP (A8 @pgp @O0 @ZA @mQ.{0,0} @dZ.{0,0} @Pi @VS @k4 (Ae @k6 @hg @hi1 @hg1 @bJ)) (aI k3 hb) ?_|refine tS ?_ ?_<;>intro hc|fail);all_goals first|exact rG ay|skip
    all_goals
     (refine bL (i+1) [] [0,1] (⟨hlt,by grind⟩) ?_;(refine kM ?_ ?_;(repeat'(first|exact ae|refine dQ _ _ rfl rfl ?_ ?_));all_goals(try simp only[pgm,simprocAttr]);all_goals(try(repeat' apply aI));all_goals(try exact gz)))
     all_goals first|exact Vt rfl|exact Vq hsc rfl|exact(show Gen _ _ (fzv l) (fzv l)from IY (jS _ _ _ _))|skip
  .obtain rfl:i=l.length:=Om;rw[zC]at he;have he0:0=E:=he;exact wG @bJ ae ay
def XG(t:Tp)(h:vTp t=0)(ho:octE t.e)(L:t.e.length<=1000000):Gxx 166 [.agg (tpF t)] (.tup [fzb (jG t),vi 0]):=by
 have h1:=PO t ho L;rw[h]at h1;obtain⟨X,i2,Y,N⟩:=zo h;have g:=fun i (hi:i<t.e.length)=>CB (N i hi)
 have m:∀i,i<t.e.length->(t.e.getD i eD).1.length<=32:=fun i hi=>by have:=(g i hi).1;rw[ry]at this;exact this.2
 have C:=fun i (hi:i<t.e.length)=>zU eu eD t.e i hi
 have v:=fun i=>wX eu 59 t.e i (fun x hx=>by obtain⟨j,hj,he⟩:=nz eD hx;exact NF x (by rw[<-he];exact m j hj))
 have h2:=aoU [t.z,t.t,yj t.b,(t.e.length:Int)] (nC Om (nC Om (nC (NM _) (nC Om Fa)))) Aa;have F:aZ [t.z,t.t,yj t.b,(t.e.length:Int)]=ai t.z.toNat++ai t.t.toNat++iH t.b++ai t.e.length:=by simp only[F5,F6,NL,fC,gV,bZ]
 rw[F]at h2;have Q:=bP t.z.toNat;have R:=bP t.t.toNat;have S:=qZ t.b;have T:=bP t.e.length;unfold jG;generalize hA:ai t.z.toNat++ai t.t.toNat++iH t.b++ai t.e.length=A at *;have H:A.length<=28:=by rw[<-hA];simp only[aN];omega
 clear hA Q R S T F;refine Good.fzt (vs:=[ob 0 (A++t.e.flatMap eu),vi 0]) ?_ rfl ⟨aC _,aC _,trivial⟩;have r:=aA A;obtain⟨z,tt,l,bb⟩:=t;simp only at *;have b:=bJ l;have hol:=fun i=>oN ho i
 cases bb
 all_goals
  refine pR (zM (fun d=>bif d == 48 then true else false) [] mix) Tryz.func166 rfl Tryz.results166 rfl Za (fP Za) ?_
  (repeat' first|refine wQ (Ad @pgF b r @id_eq.{1}) ?_|refine cU h1 ?_|refine cG [1] h2 ?_|refine tS ?_ ?_<;>intro G|fail)
  refine aJ (fun i:Nat=>mkA [(6,ob 0 (A++(l.take i).flatMap eu)),(29,.sl .fz 3 (ev l)),(30,vi l.length),(31,vi i)] [] 1 (fun _=>.top)) (fun i=>i<=l.length) (fun i=>l.length-i) 0 [2] [] ?_ (ax _) ?_
  .exact kY
  .intro i hi
   replace hi:i<=l.length:=hi
   have s:=aA (A++(l.take i).flatMap eu)
   have K:(A++(l.take i).flatMap eu).length<=90000000:=by have:=v i;rw[aN];omega
   rcases au i l.length with a|J
   .have hg:=jP l i a
    have hx:=g i a
    have f:=C i a
    have hk:=m i a
    have p:=hol i
    generalize l.getD i ([],0,0)=y at *
    obtain⟨k,c,q⟩:=y
    simp only at hg hx f hk p
    have P:=Py k p Om
    have Z:=vS k
    have I:eu (k,c,q)=bG k++ai c.toNat++ai q.toNat:=rfl
    rw[I]at f
    have k2:=fun e bx n h (id:Nat) (hid:id<n)=>axe e bx n h id (A++(l.take i).flatMap eu++bG k) [c,q] (nC Om (nC Om Fa)) Aa Aa (by rw[aN];omega) hid
    have W:A++(l.take i).flatMap eu++bG k++aZ [c,q]=A++(l.take (i+1)).flatMap eu:=by rw[f];simp only[F5,F6,gV,bZ]
    rw[W]at k2
    generalize(l.take i).flatMap eu=M at *
    generalize bG k=u at *
    have E:=aA u
    have U:=dE (A++M) u
    (repeat' first|refine wQ (Af @pgF b @hg s E U) ?_|refine cU P ?_|refine aU _ (k2 _ _ _ _ _ Om) rfl ?_|refine tS ?_ ?_<;>intro G|fail)
    exact bY (i+1) [0] [] a
   .have:i=l.length:=Om
    subst this
    rw[gB]
    (repeat' first|refine wQ (aI @pgF b) ?_|refine tS ?_ ?_<;>intro G|fail)
    exact rE [0]
def XD(t:Fq)(h:vFq t=0)(ho:octE t.e)(N:t.e.length<=1000000):Gxx 169 [.agg (fqF t)] (.tup [fzb (jE t),vi 0]):=by
 have h1:=PK t ho N;rw[h]at h1;obtain⟨Z,i2,P,i3,Q⟩:=zl h;have g:=fun i (hi:i<t.e.length)=>Cj (Q i hi)
 have m:∀i,i<t.e.length->(t.e.getD i eD).1.length<=32:=fun i hi=>by have:=(g i hi).1;rw[ry]at this;exact this.2
 have v:=fun i (hi:i<t.e.length)=>zU eP eD t.e i hi
 have s:=fun i=>wX eP 50 t.e i (fun x hx=>by obtain⟨j,hj,he⟩:=nz eD hx;exact NE x (by rw[<-he];exact m j hj))
 have h2:=aoS [t.z,t.t,t.l,yj t.b,(t.e.length:Int)] (nC Om (nC Om (nC Om (nC (NM _) (nC Om Fa))))) Aa;have F:aZ [t.z,t.t,t.l,yj t.b,(t.e.length:Int)]=ai t.z.toNat++ai t.t.toNat++ai t.l.toNat++iH t.b++ai t.e.length:=by simp only[F5,F6,NL,fC,gV,bZ]
 rw[F]at h2;have S:=bP t.z.toNat;have T:=bP t.t.toNat;have E:=bP t.l.toNat;have U:=qZ t.b;have W:=bP t.e.length;unfold jE;generalize hA:ai t.z.toNat++ai t.t.toNat++ai t.l.toNat++iH t.b++ai t.e.length=A at *;have I:A.length<=37:=by rw[<-hA];simp only[aN];omega
 clear hA S T E U W F;refine Good.fzt (vs:=[ob 0 (A++t.e.flatMap eP),vi 0]) ?_ rfl ⟨aC _,aC _,trivial⟩;have q:=aA A;obtain⟨z,tt,lo,l,bb⟩:=t;simp only at *;have b:=bJ l;have hol:=fun i=>oN ho i
 cases bb
 all_goals
  refine pR (zM (fun d=>bif d == 48 then true else false) [] mix) Tryz.func169 rfl Tryz.results169 rfl Za (fP Za) ?_
  (repeat' first|refine wQ (Ad @pgF b q @id_eq.{1}) ?_|refine cU h1 ?_|refine cG [1] h2 ?_|refine tS ?_ ?_<;>intro G|fail)
  refine aJ (fun i:Nat=>mkA [(6,ob 0 (A++(l.take i).flatMap eP)),(31,.sl .fz 3 (ev l)),(32,vi l.length),(33,vi i)] [] 1 (fun _=>.top)) (fun i=>i<=l.length) (fun i=>l.length-i) 0 [2] [] ?_ (ax _) ?_
  .exact kY
  .intro i hi
   replace hi:i<=l.length:=hi
   have r:=aA (A++(l.take i).flatMap eP)
   have L:(A++(l.take i).flatMap eP).length<=90000000:=by have:=s i;rw[aN];omega
   rcases au i l.length with a|K
   .have hg:=jP l i a
    have hx:=g i a
    have f:=v i a
    have hk:=m i a
    have p:=hol i
    generalize l.getD i ([],0,0)=y at *
    obtain⟨k,c,H⟩:=y
    simp only at hg hx f hk p
    have R:=Py k p Om
    have q1:=vS k
    have J:eP (k,c,H)=bG k++ai c.toNat:=rfl
    rw[J]at f
    have k2:=fun e bx n h (id:Nat) (hid:id<n)=>axc e bx n h id (A++(l.take i).flatMap eP++bG k) [c] (nC Om Fa) Aa Aa (by rw[aN];omega) hid
    have Y:A++(l.take i).flatMap eP++bG k++aZ [c]=A++(l.take (i+1)).flatMap eP:=by rw[f];simp only[F5,F6,gV,bZ]
    rw[Y]at k2
    generalize(l.take i).flatMap eP=M at *
    generalize bG k=u at *
    have C:=aA u
    have X:=dE (A++M) u
    (repeat' first|refine wQ (Af @pgF b @hg r C X) ?_|refine cU R ?_|refine aU _ (k2 _ _ _ _ _ Om) rfl ?_|refine tS ?_ ?_<;>intro G|fail)
    exact bY (i+1) [0] [] a
   .have:i=l.length:=Om
    subst this
    rw[gB]
    (repeat' first|refine wQ (aI @pgF b) ?_|refine tS ?_ ?_<;>intro G|fail)
    exact rE [0]
def aoJ(s:Sk)(ok:s.Ok)(hk:s.p.k=1\/s.p.k=2\/s.p.k=3\/s.p.k=4\/s.p.k=5\/s.p.k=6):Gxx 254 [.agg (skF s)] (vi (gU s)):=by
 have h1:=PN s.tl;have h2:=PI s.cm;have h3:=PL s.ll ok.ln;have h4:=PO s.tp ok.to ok.tn;have h5:=PK s.fq ok.fo ok.fn;have h:=PM s.rk ok.ro ok.rn ok.rm;have e:gU s=if s.p.k=1 then vTl s.tl else if s.p.k=2 then vCm s.cm else if s.p.k=3 then vLl s.ll else if s.p.k=4 then vTp s.tp else if s.p.k=5 then vFq s.fq else vRk s.rk:=rfl
 generalize gU s=r at *;generalize vTl s.tl=a at *;generalize vCm s.cm=b at *;generalize vLl s.ll=c at *;generalize vTp s.tp=d at *;generalize vFq s.fq=f at *;generalize vRk s.rk=g at *;clear ok;obtain⟨⟨pk,pz,pd,ps⟩,⟨K,t2,L⟩,⟨c1,i,j,k,l⟩,⟨A,C,E⟩,⟨m,n,p,q⟩,⟨t,u,v,x,y⟩,⟨F,G,H,I,J⟩⟩:=s;simp only at *;rcases hk with rfl|rfl|rfl|rfl|rfl|rfl
 .obtain rfl:r=a:=e;refine gI oW ?_;exact wR ae h1 ay
 .obtain rfl:r=b:=e;refine gI oW ?_;exact wR ae h2 ay
 .obtain rfl:r=c:=e;refine gI oW ?_;exact wR ae h3 ay
 .obtain rfl:r=d:=e;refine gI oW ?_;exact wR ae h4 ay
 .obtain rfl:r=f:=e;refine gI oW ?_;exact wR ae h5 ay
 .obtain rfl:r=g:=e;refine gI oW ?_;exact wR ae h ay
def oQ(s:Sk):Pm:=⟨s.p.k,if s.p.k=2 then s.cm.z else if s.p.k=3 then s.ll.p else if s.p.k=4 then s.tp.z else if s.p.k=5 then s.fq.z else if s.p.k=6 then s.rk.z else 0,
 if s.p.k=2 then s.cm.d else 0,if s.p.k=2 then s.cm.s else if s.p.k=3 then s.ll.s else 0⟩
def XX(s:Sk)(hk:s.p.k=1\/s.p.k=2\/s.p.k=3\/s.p.k=4\/s.p.k=5\/s.p.k=6):Gxx 79 [.agg (skF s)] (.agg (pmF (oQ s))):=by
 obtain⟨⟨pk,pz,pd,ps⟩,⟨A,t2,C⟩,⟨c1,c,a,b,d⟩,⟨p,q,r⟩,⟨f,g,h,i⟩,⟨j,k,l,m,n⟩,⟨t,u,v,x,y⟩⟩:=s;unfold oQ;simp only at *;rcases hk with rfl|rfl|rfl|rfl|rfl|rfl
 .refine gI oG ?_;exact wRG ae ae ay
 .refine gI oG ?_;exact wRG ae ae ay
 .refine gI oG ?_;exact wRG ae ae ay
 .refine gI oG ?_;exact wRG ae ae ay
 .refine gI oG ?_;exact wRG ae ae ay
 .refine gI oG ?_;exact wRG ae ae ay
def ao9(s:Sk)(h:vp s.p.k s.p.z s.p.d s.p.s=0):samP (oQ s) s.p↔parP s:=by
 have hk:=Gf h;obtain⟨⟨pk,pz,pd,ps⟩,⟨C,t2,E⟩,⟨c1,c,a,b,d⟩,⟨q,r,t⟩,⟨f,g,i,j⟩,⟨k,l,m,n,p⟩,⟨u,v,x,y,A⟩⟩:=s;unfold vp at h;simp only at *;rcases hk with rfl|rfl|rfl|rfl|rfl|rfl
 all_goals
  simp only[samP,oQ,parP]at *
  simp at h⊢
  try omega
def aoW(s:Sk)(hk:s.p.k=1)(ok:s.Ok):Gxx 255 [.agg (skF s)] (vb (jy s (gu s))):=by
 have F:=ok.cn;have G:=ok.ln;have H:=ok.tn;have I:=ok.fn;have J:=ok.rn;clear ok;obtain⟨⟨pk,pz,pd,ps⟩,⟨C,t2,E⟩,⟨c1,c,a,b,d⟩,⟨p,q,r⟩,⟨f,g,h,i⟩,⟨j,k,l,m,n⟩,⟨t,u,v,x,y⟩⟩:=s;simp only at *;subst hk;have A:jy ⟨⟨1,pz,pd,ps⟩,⟨C,t2,E⟩,⟨c1,c,a,b,d⟩,⟨p,q,r⟩,⟨f,g,h,i⟩,⟨j,k,l,m,n⟩,⟨t,u,v,x,y⟩⟩ (gu ⟨⟨1,pz,pd,ps⟩,⟨C,t2,E⟩,⟨c1,c,a,b,d⟩,⟨p,q,r⟩,⟨f,g,h,i⟩,⟨j,k,l,m,n⟩,⟨t,u,v,x,y⟩⟩)=decide (c1=0/\c=0/\a=0/\b.length=0/\d=false/\p=0/\q=0/\r.length=0/\f=0/\g=0/\h.length=0/\i=false/\j=0/\k=0/\l=0/\m.length=0/\n=false/\t=0/\u=0/\v=0/\x.length=0/\y=false):=by rw[DY];simp[jy,gu,samP,samT,vH,vJ,vM,vI,vK,Tl.o,Cm.o,Ll.o,Tp.o,Fq.o,Rk.o,and_assoc,and_comm,and_left_comm]
 rw[A];clear A;refine gI oD ?_;(repeat' first|refine wPA (Ah @bJ @bV @kF @ql.{0} @xJ @List.append_eq.{0} @mO.{0} @iY.{0}) ae ?_|refine tS ?_ ?_<;>intro K|fail);all_goals(refine rT [] ?_;first|rfl|skip)
 all_goals(simp only[pgo,simprocAttr];first|rfl|simp_all)
def aoX(s:Sk)(hk:s.p.k=2)(ok:s.Ok):Gxx 255 [.agg (skF s)] (vb (jy s (gu s))):=by
 have F:=ok.cn;have G:=ok.ln;have H:=ok.tn;have I:=ok.fn;have J:=ok.rn;clear ok;obtain⟨⟨pk,pz,pd,ps⟩,⟨u,t2,v⟩,⟨c1,x,y,A,C⟩,⟨l,k,m⟩,⟨a,b,c,d⟩,⟨f,g,h,i,j⟩,⟨q,n,p,r,t⟩⟩:=s;simp only at *;subst hk;have E:jy ⟨⟨2,pz,pd,ps⟩,⟨u,t2,v⟩,⟨c1,x,y,A,C⟩,⟨l,k,m⟩,⟨a,b,c,d⟩,⟨f,g,h,i,j⟩,⟨q,n,p,r,t⟩⟩ (gu ⟨⟨2,pz,pd,ps⟩,⟨u,t2,v⟩,⟨c1,x,y,A,C⟩,⟨l,k,m⟩,⟨a,b,c,d⟩,⟨f,g,h,i,j⟩,⟨q,n,p,r,t⟩⟩)=decide (u=0/\t2=0/\v=false/\l=0/\k=0/\m.length=0/\a=0/\b=0/\c.length=0/\d=false/\f=0/\g=0/\h=0/\i.length=0/\j=false/\q=0/\n=0/\p=0/\r.length=0/\t=false):=by rw[DY];simp[jy,gu,samP,samT,vH,vJ,vM,vI,vK,Tl.o,Cm.o,Ll.o,Tp.o,Fq.o,Rk.o,and_assoc,and_comm,and_left_comm]
 rw[E];clear E;refine gI oD ?_;(repeat' first|refine wPA (Ah @bJ @bV @kF @ql.{0} @xJ @List.append_eq.{0} @mO.{0} @iY.{0}) ae ?_|refine tS ?_ ?_<;>intro K|fail);all_goals(refine rT [] ?_;first|rfl|skip)
 all_goals(simp only[pgo,simprocAttr];first|rfl|simp_all)
def aoY(s:Sk)(hk:s.p.k=3)(ok:s.Ok):Gxx 255 [.agg (skF s)] (vb (jy s (gu s))):=by
 have F:=ok.cn;have G:=ok.ln;have H:=ok.tn;have I:=ok.fn;have J:=ok.rn;clear ok;obtain⟨⟨pk,pz,pd,ps⟩,⟨v,t2,x⟩,⟨c1,c,a,b,d⟩,⟨A,C,E⟩,⟨f,g,h,i⟩,⟨j,k,l,m,n⟩,⟨q,p,r,t,u⟩⟩:=s;simp only at *;subst hk;have y:jy ⟨⟨3,pz,pd,ps⟩,⟨v,t2,x⟩,⟨c1,c,a,b,d⟩,⟨A,C,E⟩,⟨f,g,h,i⟩,⟨j,k,l,m,n⟩,⟨q,p,r,t,u⟩⟩ (gu ⟨⟨3,pz,pd,ps⟩,⟨v,t2,x⟩,⟨c1,c,a,b,d⟩,⟨A,C,E⟩,⟨f,g,h,i⟩,⟨j,k,l,m,n⟩,⟨q,p,r,t,u⟩⟩)=decide (v=0/\t2=0/\x=false/\c1=0/\c=0/\a=0/\b.length=0/\d=false/\f=0/\g=0/\h.length=0/\i=false/\j=0/\k=0/\l=0/\m.length=0/\n=false/\q=0/\p=0/\r=0/\t.length=0/\u=false):=by rw[DY];simp[jy,gu,samP,samT,vH,vJ,vM,vI,vK,Tl.o,Cm.o,Ll.o,Tp.o,Fq.o,Rk.o,and_assoc,and_comm,and_left_comm]
 rw[y];clear y;refine gI oD ?_;(repeat' first|refine wPA (Ah @bJ @bV @kF @ql.{0} @xJ @List.append_eq.{0} @mO.{0} @iY.{0}) ae ?_|refine tS ?_ ?_<;>intro K|fail);all_goals(refine rT [] ?_;first|rfl|skip)
 all_goals(simp only[pgo,simprocAttr];first|rfl|simp_all)
def aoZ(s:Sk)(hk:s.p.k=4)(ok:s.Ok):Gxx 255 [.agg (skF s)] (vb (jy s (gu s))):=by
 have F:=ok.cn;have G:=ok.ln;have H:=ok.tn;have I:=ok.fn;have J:=ok.rn;clear ok;obtain⟨⟨pk,pz,pd,ps⟩,⟨u,t2,v⟩,⟨c1,c,a,b,d⟩,⟨l,k,m⟩,⟨y,A,C,E⟩,⟨f,g,h,i,j⟩,⟨q,n,p,r,t⟩⟩:=s;simp only at *;subst hk;have x:jy ⟨⟨4,pz,pd,ps⟩,⟨u,t2,v⟩,⟨c1,c,a,b,d⟩,⟨l,k,m⟩,⟨y,A,C,E⟩,⟨f,g,h,i,j⟩,⟨q,n,p,r,t⟩⟩ (gu ⟨⟨4,pz,pd,ps⟩,⟨u,t2,v⟩,⟨c1,c,a,b,d⟩,⟨l,k,m⟩,⟨y,A,C,E⟩,⟨f,g,h,i,j⟩,⟨q,n,p,r,t⟩⟩)=decide (u=0/\t2=0/\v=false/\c1=0/\c=0/\a=0/\b.length=0/\d=false/\l=0/\k=0/\m.length=0/\f=0/\g=0/\h=0/\i.length=0/\j=false/\q=0/\n=0/\p=0/\r.length=0/\t=false):=by rw[DY];simp[jy,gu,samP,samT,vH,vJ,vM,vI,vK,Tl.o,Cm.o,Ll.o,Tp.o,Fq.o,Rk.o,and_assoc,and_comm,and_left_comm]
 rw[x];clear x;refine gI oD ?_;(repeat' first|refine wPA (Ah @bJ @bV @kF @ql.{0} @xJ @List.append_eq.{0} @mO.{0} @iY.{0}) ae ?_|refine tS ?_ ?_<;>intro K|fail);all_goals(refine rT [] ?_;first|rfl|skip)
 all_goals(simp only[pgo,simprocAttr];first|rfl|simp_all)
def ao0(s:Sk)(hk:s.p.k=5)(ok:s.Ok):Gxx 255 [.agg (skF s)] (vb (jy s (gu s))):=by
 have F:=ok.cn;have G:=ok.ln;have H:=ok.tn;have I:=ok.fn;have J:=ok.rn;clear ok;obtain⟨⟨pk,pz,pd,ps⟩,⟨t,t2,u⟩,⟨c1,c,a,b,d⟩,⟨l,j,k⟩,⟨f,g,h,i⟩,⟨x,y,A,C,E⟩,⟨q,m,n,p,r⟩⟩:=s;simp only at *;subst hk;have v:jy ⟨⟨5,pz,pd,ps⟩,⟨t,t2,u⟩,⟨c1,c,a,b,d⟩,⟨l,j,k⟩,⟨f,g,h,i⟩,⟨x,y,A,C,E⟩,⟨q,m,n,p,r⟩⟩ (gu ⟨⟨5,pz,pd,ps⟩,⟨t,t2,u⟩,⟨c1,c,a,b,d⟩,⟨l,j,k⟩,⟨f,g,h,i⟩,⟨x,y,A,C,E⟩,⟨q,m,n,p,r⟩⟩)=decide (t=0/\t2=0/\u=false/\c1=0/\c=0/\a=0/\b.length=0/\d=false/\l=0/\j=0/\k.length=0/\f=0/\g=0/\h.length=0/\i=false/\q=0/\m=0/\n=0/\p.length=0/\r=false):=by rw[DY];simp[jy,gu,samP,samT,vH,vJ,vM,vI,vK,Tl.o,Cm.o,Ll.o,Tp.o,Fq.o,Rk.o,and_assoc,and_comm,and_left_comm]
 rw[v];clear v;refine gI oD ?_;(repeat' first|refine wPA (Ah @bJ @bV @kF @ql.{0} @xJ @List.append_eq.{0} @mO.{0} @iY.{0}) ae ?_|refine tS ?_ ?_<;>intro K|fail);all_goals(refine rT [] ?_;first|rfl|skip)
 all_goals(simp only[pgo,simprocAttr];first|rfl|simp_all)
def ao1(s:Sk)(hk:s.p.k=6)(ok:s.Ok):Gxx 255 [.agg (skF s)] (vb (jy s (gu s))):=by
 have F:=ok.cn;have G:=ok.ln;have H:=ok.tn;have I:=ok.fn;have J:=ok.rn;clear ok;obtain⟨⟨pk,pz,pd,ps⟩,⟨t,t2,u⟩,⟨c1,c,a,b,d⟩,⟨p,q,r⟩,⟨f,g,h,i⟩,⟨j,k,l,m,n⟩,⟨x,y,A,C,E⟩⟩:=s;simp only at *;subst hk;have v:jy ⟨⟨6,pz,pd,ps⟩,⟨t,t2,u⟩,⟨c1,c,a,b,d⟩,⟨p,q,r⟩,⟨f,g,h,i⟩,⟨j,k,l,m,n⟩,⟨x,y,A,C,E⟩⟩ (gu ⟨⟨6,pz,pd,ps⟩,⟨t,t2,u⟩,⟨c1,c,a,b,d⟩,⟨p,q,r⟩,⟨f,g,h,i⟩,⟨j,k,l,m,n⟩,⟨x,y,A,C,E⟩⟩)=decide (t=0/\t2=0/\u=false/\c1=0/\c=0/\a=0/\b.length=0/\d=false/\p=0/\q=0/\r.length=0/\f=0/\g=0/\h.length=0/\i=false/\j=0/\k=0/\l=0/\m.length=0/\n=false):=by rw[DY];simp[jy,gu,samP,samT,vH,vJ,vM,vI,vK,Tl.o,Cm.o,Ll.o,Tp.o,Fq.o,Rk.o,and_assoc,and_comm,and_left_comm]
 rw[v];clear v;refine gI oD ?_;(repeat' first|refine wPA (Ah @bJ @bV @kF @ql.{0} @xJ @List.append_eq.{0} @mO.{0} @iY.{0}) ae ?_|refine tS ?_ ?_<;>intro K|fail);all_goals(refine rT [] ?_;first|rfl|skip)
 all_goals(simp only[pgo,simprocAttr];first|rfl|simp_all)
def aoV(s:Sk)(ok:s.Ok)(hk:s.p.k=1\/s.p.k=2\/s.p.k=3\/s.p.k=4\/s.p.k=5\/s.p.k=6):Gxx 255 [.agg (skF s)] (vb (jy s (gu s))):=by
 rcases hk with hk|hk|hk|hk|hk|hk
 .exact aoW s hk ok
 .exact aoX s hk ok
 .exact aoY s hk ok
 .exact aoZ s hk ok
 .exact ao0 s hk ok
 .exact ao1 s hk ok
def XK(s:Sk)(ok:s.Ok):Gxx 173 [.agg (skF s)] (vi (vSk s)):=by
 have h1:=aic s.p.k s.p.z s.p.d s.p.s;have e:vSk s=if vp s.p.k s.p.z s.p.d s.p.s≠0 then vp s.p.k s.p.z s.p.d s.p.s else if gU s≠0 then gU s else if parP s then(if jy s (gu s)=true then 0 else 18)else 18:=rfl
 by_cases h:vp s.p.k s.p.z s.p.d s.p.s=0
 .rw[ag Om]at e;have hk:=Gf h;have hp:=ao9 s h;have h2:=aoJ s ok hk;have h3:=XX s hk;have h4:=aoV s ok hk;have a:=Uf (oQ s) s.p;rw[h]at h1;generalize vSk s=r at *;generalize gU s=v at *;by_cases c1:v=0
  .subst c1;rw[ag Om]at e;generalize oQ s=q at *;by_cases c:parP s
   .rw[ah c]at e;rw[eU (hp.2 c)]at a;generalize jy s (gu s)=o at *;clear hp c ok h;obtain⟨⟨pk,pz,pd,ps⟩,⟨K,t2,L⟩,⟨c1,c,b,d,f⟩,⟨u,y,A⟩,⟨g,i,j,k⟩,⟨l,m,n,p,t⟩,⟨C,E,F,G,H⟩⟩:=s;obtain⟨qk,J,qd,I⟩:=q;simp only at *;cases o
    .obtain rfl:r=18:=e;refine gI oW ?_;exact wR a (Ad h1 h2 h3 h4) ay
    .obtain rfl:r=0:=e;refine gI oW ?_;exact wR a (Ad h1 h2 h3 h4) ay
   .rw[ag c]at e;rw[dK (fun x=>c (hp.1 x))]at a;clear hp c ok h;obtain⟨⟨pk,pz,pd,ps⟩,⟨K,t2,L⟩,⟨c1,c,b,d,f⟩,⟨u,y,A⟩,⟨g,i,j,k⟩,⟨l,m,n,p,t⟩,⟨C,E,F,G,H⟩⟩:=s;obtain⟨qk,J,qd,I⟩:=q;simp only at *;subst e;refine gI oW ?_;exact wR a (Ac h1 h2 h3) ay
  .rw[ah c1]at e;subst e;refine gI oW ?_;exact wR ae (aI h1 h2) ay
 .rw[ah h]at e;generalize vp s.p.k s.p.z s.p.d s.p.s=v at *;rw[e];refine gI oW ?_;exact wR ae h1 ay
end Go.Proofs.YtopbmdnbdpjheaaGreat
