/-
  Merged texts.
-/
import Derived.Sort.Walk0
import Derived.Test.YtopbmdnbdpjheaaGreatWAK
import Derived.Test.YtopbmdnbdpjheaaGreatWAL
set_option linter.all false
set_option linter.unusedVariables false
set_option linter.unusedSimpArgs false
set_option linter.unusedSectionVars false
set_option linter.defProp false
set_option maxRecDepth 100000
set_option maxHeartbeats 8000000
namespace Go.Proofs.YtopbmdnbdpjheaaGreat
open Go Go.Pg
theorem axv{a b m:Int}(ha:0<=a/\a<=m)(hb:0<=b):lC a b m=(min (a+b) m,decide (a+b > m)):=by grind[lC,amx]
def ay4{t:Tl}{w:Int}(h:vTl t=0)(a:1<=w):vTl (I8 t ⟨w,1,false⟩)=0:=by grind[vTl,I8,axv]
def u8(x:List Nat):List UInt8:=(sB x).data.toList
theorem UU(a b:List Nat):kl a b=decide (u8 a<u8 b):=by unfold kl;rw[Go.Proofs.bytesLess_eq,Lib.toList_data,Lib.toList_data];rfl
def ayf{α:Type}(b:α->α->Bool)(x:α)(l:List α):(fH b x l).Perm (x::l):=by
 induction l with
 |nil=>exact List.Perm.refl _
 |cons y ys i =>
  unfold fH;split
  .exact(List.Perm.cons y i).trans (List.Perm.swap x y ys)
  .simp_all
def ayO{α:Type}(b:α->α->Bool)(l:List α):∀acc,(rU b acc l).Perm (acc++l):=by
 induction l with
 |nil=>intro acc;rw[gV];exact List.Perm.refl _
 |cons x l i =>intro acc;refine(i _).trans (((ayf b x acc).append_right l).trans ?_);exact List.perm_middle.symm
def ayR{α:Type}(b:α->α->Bool)(l:List α):(srt b l).Perm l:=(List.reverse_perm _).trans (ayO b l [])
def ayg{α:Type}(b:α->α->Bool)(le:α->α->Prop)(h1:∀x y,b x y=true->le x y)(h2:∀x y,b x y=false->le y x)(tr:∀x y z,le x y->le y z->le x z)(x:α)(l:List α)(hl:l.Pairwise fun p q=>le q p):(fH b x l).Pairwise fun p q=>le q p:=by
 induction l with
 |nil=>simp[fH]
 |cons y ys i =>grind[fH,xW,List.pairwise_cons]
def axX{α:Type}(b:α->α->Bool)(le:α->α->Prop)(h1:∀x y,b x y=true->le x y)(h2:∀x y,b x y=false->le y x)(tr:∀x y z,le x y->le y z->le x z)(l:List α):(srt b l).Pairwise le:=by
 have key:∀l acc,acc.Pairwise (fun p q=>le q p)->(rU b acc l).Pairwise fun p q=>le q p:=by
  intro l
  induction l with
  |nil=>intro acc h;exact h
  |cons x l i=>intro acc h;exact i _ (ayg b le h1 h2 tr x acc h)
 grind[srt,List.Pairwise.nil]
theorem axw(a b:En):bfE a b=true↔b.2.1<a.2.1\/(a.2.1=b.2.1/\u8 a.1<u8 b.1):=by grind[bfE,UU]
theorem axF(a b:En):bfE a b=false↔¬(b.2.1<a.2.1\/(a.2.1=b.2.1/\u8 a.1<u8 b.1)):=by grind[axw]
def aye{a b c:En}(h1:bfE a b=true)(h2:bfE b c=true):bfE a c=true:=by grind[axw]
def ayd{a b c:En}(h1:bfE a b=false)(h2:bfE b c=false):bfE a c=false:=by grind[axF,u8]
def ayc{a b:En}(ha:oct a.1)(hb:oct b.1)(h1:bfE a b=false)(h2:bfE b a=false):a.1=b.1:=by grind[axF,u8,Qv,sB]
theorem axx(v:List (List (List Nat)))(i j:Nat)(l:List (List Nat))(hi:i<v.length):(v.set i l).getD j []=if j=i then l else v.getD j []:=by grind
def axH(x:En):En:=(x.1,x.2.1,min x.2.2 (x.2.1-1))
def x9(l:List En):List En:=l.map axH
def axC{x:Tp}(h:vTp x=0):∀y∈x.e,(1<=y.2.1/\y.2.1<=1099511627776)/\0<=y.2.2/\y.2.2<=y.2.1-1:=by intro y a;obtain⟨i,hi,rfl⟩:=List.getElem_of_mem a;have h1:=(CB ((zo h).2.2.2 i hi)).2;grind
def axJ{l:List En}(h:∀y∈l,y.2.2<=y.2.1-1):x9 l=l:=by
 conv=>rhs;rw[<-List.map_id l]
 apply List.map_congr_left;intro y a;show(y.1,y.2.1,min y.2.2 (y.2.1-1))=y;grind
def axq(a b:Int)(ha:0<=a/\a<=1099511627776)(hb:0<=b):a<=(cu a b).1:=by grind[amx,cu,lC]
def prE(t:Tp)(k:List Nat)(w:Int):List En :=
 if 0<=di t.e k then t.e.set (di t.e k).toNat ((t.e.getD (di t.e k).toNat eD).1,(cu (t.e.getD (di t.e k).toNat eD).2.1 w).1,(t.e.getD (di t.e k).toNat eD).2.2)
 else if(t.e.length:Int)<t.z then t.e++[(k,w,0)]
 else t.e.set (t.e.length-1) (k,(cu (jU t) w).1,jU t)
def axt{l:List En}{i:Nat}{v y:En}(h:y∈l.set i v):y∈l\/y=v:=by grind
theorem axI(l:List En)(i:Nat)(v:En)(h:∀y∈l,y.2.2<=y.2.1-1):x9 (l.set i v)=l.set i (axH v):=by have:=axJ h;simp_all[x9]
def ayH{x:Tp}(hv:vTp x=0)(k:List Nat)(w:Int)(g:1<=w):x9 (prE x k w)=(xn x k w).1:=by
 have hm:=axC hv;have a:∀y∈x.e,y.2.2<=y.2.1-1:=fun y b=>(hm y b).2.2
 have d:=NP x.e k;unfold prE xn;by_cases q:0<=di x.e k
 .rw[ah q,ah q];have f:(di x.e k).toNat<x.e.length:=Om;have b:x.e.getD (di x.e k).toNat eD∈x.e:=by grind
  have h1:=hm _ b;generalize x.e.getD (di x.e k).toNat eD=y at *;have h2:=axq y.2.1 w ⟨by omega,h1.1.2⟩ Om;rw[axI _ _ _ a];show x.e.set _ (y.1,(cu y.2.1 w).1,min y.2.2 ((cu y.2.1 w).1-1))=_;rw[Int.min_eq_left Om]
 .rw[ag q,ag q];by_cases c:(x.e.length:Int)<x.z
  .rw[ah c,ah c];apply axJ;intro y b;rcases iG.1 b with h|h
   .grind
   .grind
  .rw[ag c,ag c];exact axI _ _ _ a
theorem ayI{x:Tp}(hv:vTp x=0)(k:List Nat)(w:Int):((prE x k w).length:Int)<=x.z:=by have h3:=(zo hv).2.2.1;grind[prE]
theorem axr(k:List Nat):∀(l:List En) (i:Nat),uQ k i l<0->∀y∈l,y.1≠k:=by intro l;induction l<;>grind[uQ]
def ayS{x:Tp}(h:vTp x=0):x.e.Pairwise fun a b=>a.1≠b.1:=by
 rw[List.pairwise_iff_getElem];intro i j hi hj c he;have h1:=(zo h).2.2.2 j hj;have h2:di (x.e.take j) (x.e[j]).1<0:=by grind[wJ]
 refine axr _ _ _ h2 x.e[i] ?_ he;grind[List.mem_iff_getElem]
def ayG{x:Tp}(hv:vTp x=0)(k:List Nat)(w:Int):(prE x k w).Pairwise fun a b=>a.1≠b.1:=by
 have hd:=ayS hv;have h:=NP x.e k;unfold prE;split
 .have c:(di x.e k).toNat<x.e.length:=Om;have hm:(x.e.set (di x.e k).toNat ((x.e[(di x.e k).toNat]).1,(cu (x.e[(di x.e k).toNat]).2.1 w).1,(x.e[(di x.e k).toNat]).2.2)).map (fun y=>y.1)=x.e.map (fun y=>y.1):=by apply IW;grind
  have h1:=List.pairwise_map (f:=fun y:En=>y.1) (R:=fun a b=>a≠b) (l:=x.e);grind
 .have d:=axr k x.e 0 (by have:di x.e k=uQ k 0 x.e:=rfl;omega);split
  .grind
  .grind[List.pairwise_iff_getElem]
def ayJ{x:Tp}(ho:octE x.e)(k:List Nat)(hk:oct k)(w:Int):octE (prE x k w):=by
 intro y a;unfold prE at a;split at a
 .rcases axt a with h|h
  .exact ho y h
  .grind[oN]
 .split at a
  .rcases iG.1 a with h|h
   .exact ho y h
   .grind
  .rcases axt a with h|h
   .exact ho y h
   .grind
theorem ayU{a b:List Nat}(ha:oct a)(hb:oct b)(h:u8 a=u8 b):a=b:=by grind[Qv,u8,sB]
theorem axQ{a b:List Nat}(ha:oct a)(hb:oct b)(h:a≠b):kl a b = !kl b a:=by grind[UU,u8,ayU]
theorem axK(k:List Nat):∀(l:List En) (i:Nat),0<=uQ k i l->∃z∈l,z.1=k
 |y::l,i,h=>by
  by_cases a:y.1=k
  .grind
  .have e:uQ k i (y::l)=uQ k (i+1) l:=ag a;rw[e]at h;obtain⟨z,b,hk⟩:=axK k l (i+1) h;grind
theorem axR{a b c:List Nat}(h1:kl a b=true)(h2:kl b c=true):kl a c=true:=by grind[UU]
def ayo{x:Fq}(ho:octE x.e)(h:vFq x=0):x.e.Pairwise fun a b=>kl a.1 b.1=true:=by
 have c:∀i,i+1<x.e.length->kl (x.e.getD i eD).1 (x.e.getD (i+1) eD).1=true:=fun i hi=>by have h1:=(zl h).2.2.2.2 (i+1) hi;grind[uN,leK,axQ,oN,kl]
 have f:∀d i,i+d+1<x.e.length->kl (x.e.getD i eD).1 (x.e.getD (i+d+1) eD).1=true:=by
  intro d
  induction d with
  |zero=>intro i hi;exact c i hi
  |succ d k=>intro i hi;exact axR (k i Om) (c (i+d+1) Om)
 rw[List.pairwise_iff_getElem];intro i j hi hj g;have:=f (j-i-1) i Om;rw[show i+(j-i-1)+1=j by omega]at this;simpa[List.getD,hi,hj]using this
def ayy{x:Tp}(h:vTp x=0):0<=jU x/\jU x<=1099511627776:=by
 unfold jU;split
 .omega
 .have hl:x.e.length-1<x.e.length:=Om;have:=axC h (x.e.getD (x.e.length-1) eD) (wY _ _ _ hl);omega
theorem ayl{l:List En}{k:List Nat}(h:0<=di l k):∃z∈l,z.1=k:=axK k l 0 h
def ayk{l:List En}{k:List Nat}{z:En}(h:z∈l)(hk:z.1=k):0<=di l k:=by grind[axr,di,uQ]
theorem axs(d:Int):∀(l:List En),∀z∈lm d l,∃y∈l,y.1=z.1
 |y::l,z,h=>by
  rw[Wy]at h;split at h
  .rcases fG.1 h with rfl|h
   .grind
   .obtain⟨u,a,he⟩:=axs d l z h;grind
  .obtain⟨u,a,he⟩:=axs d l z h;grind
def axB(d:Int):∀(l:List En),(l.Pairwise fun a b=>kl a.1 b.1=true)->(lm d l).Pairwise fun a b=>kl a.1 b.1=true
 |[],h=>by simp[lm]
 |y::l,h=>by
  rw[uz]at h;rw[Wy];split
  .rw[uz];refine⟨fun z c => ?_,axB d l h.2⟩;grind[axs]
  .exact axB d l h.2
theorem ayA(d:Int)(l:List En)(k:List Nat)(h:¬0<=di l k):∀y∈lm d l,y.1≠k:=fun y a=>by obtain⟨u,b,he⟩:=axs d l y a;grind[axr,di]
abbrev kS(l:List En):Prop:=l.Pairwise fun a b=>kl a.1 b.1=true
theorem axP{a b:List Nat}(h:kl a b=true):kl b a=false:=by grind[UU]
def ax9{b:Int}{l:List Int}(h:lQ 0 b l=true)(a:0<=b)(i:Nat):0<=l.getD i 0/\l.getD i 0<=b:=by
 rcases au i l.length with hi|hi
 .have:=List.all_eq_true.1 h _ (ji hi);grind
 .grind
def ayY{c:Cm}(h:vCm c=0)(k:List Nat)(w:Int)(n:Nat):vCm (kV c k w n)=0:=by obtain⟨h1,h2,h3,h4⟩:=Bv h;simp_all[YD,vCm,aqo]
def ayX{d z s:Int}(h:1<=d/\d<=8/\1<=z/\z<=64):vCm ⟨d,z,s,zer (d*z).toNat,false⟩=0:=by have a:0<=d*z:=Int.mul_nonneg Om Om;grind[vCm,lQ]
def axy(l:Ll)(k:List Nat):Ll:=⟨l.p,l.s,l.r.set (yY l.p l.s k).toNat (max (l.r.getD (yY l.p l.s k).toNat 0) (KW l.p l.s k))⟩
def ay0{l:Ll}(h:vLl l=0)(k:List Nat):vLl (axy l k)=0:=by obtain⟨h1,h2,h3⟩:=Bz h;have b:=Qm (uT (lq l.s 256) k) (64-l.p).toNat;have hg:=ax9 h3 Om (yY l.p l.s k).toNat;have a:KW l.p l.s k=ui (uT (lq l.s 256) k) (64-l.p).toNat:=rfl;have hm:0<=max (l.r.getD (yY l.p l.s k).toNat 0) (KW l.p l.s k)/\max (l.r.getD (yY l.p l.s k).toNat 0) (KW l.p l.s k)<=65-l.p:=Om;simp_all[axy,vLl,aaJ]
def ay1{p s:Int}(h:2<=p/\p<=8):vLl ⟨p,s,zer (2^p.toNat)⟩=0:=by grind[vLl,lQ]
theorem NI(f:Nat->Int):∀n i,(∀j,i<=j->j<i+n->f j=0)->gK f n i=0
 |0,_,_=>rfl
 |n+1,i,h=>by rw[agK f n i (h i (az _) Om)];exact NI f n (i+1) fun j h1 h2=>h j Om Om
def ayP{L:List En}(hd:L.Pairwise fun a b=>a.1≠b.1)(ho:octE L):(srt bfE L).Pairwise (fun a b=>bfE a b=true)/\(srt bfE L).Pairwise fun a b=>a.1≠b.1:=by
 have c:(srt bfE L).Pairwise fun a b=>a.1≠b.1:=(ayR bfE L).symm.pairwise hd (fun h=>jY h)
 have d:(srt bfE L).Pairwise fun a b=>bfE b a=false:=axX bfE (fun a b=>bfE b a=false)
  (fun x y h=>by
   cases q:bfE y x
   .rfl
   .have:=aye h q
    rw[axw]at this
    rcases this with h|⟨_,h⟩
    .omega
    .exact absurd h (List.lt_irrefl _))
  (fun x y h=>h) (fun x y z h1 h2=>ayd h2 h1) L
 refine⟨?_,c⟩;refine List.Pairwise.imp_of_mem ?_ (List.Pairwise.and d c);rintro a b ha hb ⟨h1,h2⟩;cases q:bfE a b
 .exact absurd (ayc (ho a ((Y8 _ _ _).1 ha)) (ho b ((Y8 _ _ _).1 hb)) q h1) h2
 .rfl
theorem axL{l:List En}{i:Nat}(h:i<l.length):l.getD i eD=l[i]:=by grind
def ax7{t:Tp}(h:1<=t.z/\t.z<=32)(d:0<=t.t/\t.t<=1099511627776)(hl:(t.e.length:Int)<=t.z)(hm:∀y∈t.e,oL y.1=true/\(1<=y.2.1/\y.2.1<=1099511627776)/\0<=y.2.2/\y.2.2<=y.2.1-1)
  (hd:t.e.Pairwise fun a b=>a.1≠b.1) (f:t.e.Pairwise fun a b=>bfE a b=true):vTp t=0:=by
 unfold vTp
 rw[ag (fun q=>q ⟨h,d⟩),ag Om]
 refine NI _ _ _ fun j _ hj => ?_
 have hj:j<t.e.length:=Om
 have h1:=hm _ (ji hj)
 unfold wJ
 rw[axL hj,h1.1,ag dX,ag (fun q=>q ⟨h1.2.1,h1.2.2⟩),ag,ag]
 .grind[axL,List.pairwise_iff_getElem]
 .intro c;obtain⟨z,h,hk⟩:=ayl c;obtain⟨i,hi,rfl⟩:=D5.1 h;rw[List.getElem_take]at hk;grind[List.pairwise_iff_getElem]
def ayT{x:Tp}(h:vTp x=0):∀y∈x.e,oL y.1=true:=fun y a=>by obtain⟨i,hi,rfl⟩:=D5.1 a;have:=(CB ((zo h).2.2.2 i hi)).1;grind
def ay5{x:Tp}(h:vTp x=0)(ho:octE x.e){k:List Nat}{w:Int}(hk:oct k)(hi:iW k w=0):vTp (Ap x k w).1=0:=by
 obtain⟨A,C,E,F⟩:=zo h;obtain⟨G,r⟩:=F9 hi;have t:oL k=true:=VM ⟨r.1,r.2⟩;have hf:=ayH h k w Om;have f:(xn x k w).1.Pairwise fun a b=>a.1≠b.1:=by rw[<-hf];unfold x9;rw[List.pairwise_map];exact ayG h k w
 have n:octE (xn x k w).1:=by rw[<-hf];intro z v;obtain⟨y,c,rfl⟩:=dP.1 v;exact ayJ ho k hk w y c
 have g:((xn x k w).1.length:Int)<=x.z:=by rw[<-hf];unfold x9;rw[aj];exact ayI h k w
 have d:=ayy h
 have i:∀y∈(xn x k w).1,oL y.1=true/\(1<=y.2.1/\y.2.1<=1099511627776)/\0<=y.2.2/\y.2.2<=y.2.1-1:=by
  intro y c;have hx:∀y∈x.e,oL y.1=true/\(1<=y.2.1/\y.2.1<=1099511627776)/\0<=y.2.2/\y.2.2<=y.2.1-1:=fun y c=>⟨ayT h y c,axC h y c⟩
  have u:=axq (jU x) w d Om;have l:=axv (m:=1099511627776) d (show 0<=w by omega);have p:(cu (jU x) w).1=min (jU x+w) 1099511627776:=by unfold cu;rw[l]
  unfold xn at c;split at c
  .rename_i q;have s:=NP x.e k;have hg:=hx _ (wY x.e (di x.e k).toNat eD Om);rcases axt c with c|rfl
   .grind
   .have h1:=axq (x.e.getD (di x.e k).toNat eD).2.1 w Om Om;have h2:=MG (x.e.getD (di x.e k).toNat eD).2.1 w;exact⟨hg.1,⟨by simp only;omega,h2.2⟩,hg.2.2.1,by simp only;omega⟩
  .grind
 have j:=ayP f n;unfold Ap;rw[ag Om,ag Om];exact ax7 A (MG _ _) (by simp only[Y7];exact g) (fun y c=>i y ((Y8 _ _ _).1 c)) j.2 j.1
def ayn{x:Fq}(h:vFq x=0):∀y∈x.e,(1<=y.2.1/\y.2.1<=1099511627776)/\y.2.2=0:=fun y a=>by obtain⟨i,hi,rfl⟩:=D5.1 a;have:=Cj ((zl h).2.2.2.2 i hi);grind
def axM{x:En}{l:List En}(hx:oct x.1)(ho:octE l)(c:kS l)(b:∀y∈l,y.1≠x.1):kS (kD x l):=by
 induction l with
 |nil=>exact List.pairwise_singleton _ _
 |cons y l i =>
  have a:=uz.1 c;rw[VE];split
  .grind[axR,List.pairwise_cons]
  .rename_i q;have d:kl y.1 x.1=true:=by rw[axQ (ho y (List.mem_cons_self ..)) hx (b y (List.mem_cons_self ..)),Bool.eq_false_iff.2 q];rfl
   refine uz.2 ⟨fun z h => ?_,i (fun z h=>ho z (DZ _ h)) a.2 (fun z h=>b z (DZ _ h))⟩;rcases(ajG x z l).1 h with rfl|h
   .exact d
   .grind
def ax4{t:Fq}(c:1<=t.z/\t.z<=32)(b:0<=t.t/\t.t<=1099511627776)(hl:0<=t.l/\t.l<=1099511627776)(h:(t.e.length:Int)<=t.z)
  (hm:∀y∈t.e,oL y.1=true/\(1<=y.2.1/\y.2.1<=1099511627776)/\y.2.2=0) (a:kS t.e):vFq t=0:=by
 grind[vFq,NI,uN,leK,axP,List.pairwise_iff_getElem]
def aym{x:Fq}(h:vFq x=0):∀y∈x.e,oL y.1=true:=fun y a=>by obtain⟨i,hi,rfl⟩:=D5.1 a;have:=(Cj ((zl h).2.2.2.2 i hi)).1;grind
def ayv{l:List En}(h:kS l)(i:Nat)(c e:Int):kS (l.set i ((l.getD i eD).1,c,e)):=by
 rcases au i l.length with hi|hi
 .have d:(l.set i ((l.getD i eD).1,c,e)).map (·.1)=l.map (·.1):=by grind[List.map_set,List.set_getElem_self]
  have h1:(l.map (·.1)).Pairwise fun a b=>kl a b=true:=List.pairwise_map.2 h
  grind
 .grind[List.set_eq_of_length_le]
theorem ayB(w:Int)(l:List En):gp w l=w\/∃y∈l,y.2.1=gp w l:=by
 induction l generalizing w with
 |nil=>exact .inl rfl
 |cons x l i =>have e:gp w (x::l)=gp (min w x.2.1) l:=rfl;grind
theorem axA(d:Int):∀(l:List En),∀z∈lm d l,∃y∈l,y.1=z.1/\y.2.1 > d/\z.2=(y.2.1-d,0)
 |y::l,z,h=>by
  rw[Wy]at h;split at h
  .rcases fG.1 h with rfl|h
   .grind
   .obtain⟨u,a,he⟩:=axA d l z h;grind
  .obtain⟨u,a,he⟩:=axA d l z h;grind
theorem axz(d:Int):∀(l:List En),(lm d l).length=l.countP fun y=>decide (y.2.1 > d)
 |[]=>rfl
 |y::l=>by
  rw[Wy,List.countP_cons];split
  .rename_i q;rw[dB,axz d l,ah (eU q)]
  .rename_i q;rw[axz d l,ag (by simpa using q)];rfl
def ayz{d:Int}{l:List En}(h:∃y∈l,y.2.1<=d):(lm d l).length<l.length:=by grind[axz,List.countP_eq_length]
def ayZ{x:Fq}(h:vFq x=0)(ho:octE x.e){k:List Nat}{w:Int}(hk:oct k)(hi:iW k w=0):vFq (Am x k w).1=0/\(Am x k w).2=0:=by
 obtain⟨F,L,m,G,H⟩:=zl h;obtain⟨M,n⟩:=F9 hi;have t:oL k=true:=VM ⟨n.1,n.2⟩;have j:=ayo ho h;have hx:∀y∈x.e,oL y.1=true/\(1<=y.2.1/\y.2.1<=1099511627776)/\y.2.2=0:=fun y a=>⟨aym h y a,ayn h y a⟩
 unfold Am;rw[ag Om,ag Om];refine⟨?_,rfl⟩
 have key:(0<=(sW x k w).2.1/\(sW x k w).2.1<=1099511627776)/\((sW x k w).1.length:Int)<=x.z/\(∀y∈(sW x k w).1,oL y.1=true/\(1<=y.2.1/\y.2.1<=1099511627776)/\y.2.2=0)/\kS (sW x k w).1:=by
  unfold sW;split
  .rename_i q;have s:=NP x.e k;have hg:=hx _ (wY x.e (di x.e k).toNat eD Om);refine⟨m,by simp only[nI];exact G,fun y a => ?_,ayv j _ _ _⟩;rcases axt a with a|rfl
   .grind
   .have h1:=axq (x.e.getD (di x.e k).toNat eD).2.1 w Om Om;have h2:=MG (x.e.getD (di x.e k).toNat eD).2.1 w;exact⟨hg.1,⟨by simp only;omega,h2.2⟩,hg.2.2⟩
  .rename_i q;have i:∀y∈x.e,y.1≠k:=fun y a he=>q (ayk a he)
   split
   .rename_i I;refine⟨m,by simp only[ajF];omega,fun y a => ?_,axM hk ho j i⟩;rcases(ajG _ y _).1 a with rfl|a
    .grind
    .grind
   .rename_i I;have A:=WT x.e w;have C:=WS x.e (adF H) w Om;have g:=alB (gp w x.e) ho;have b:=axB (gp w x.e) x.e j;have f:=ayA (gp w x.e) x.e k q;have v:=WA (gp w x.e) x.e;have c:∀y∈lm (gp w x.e) x.e,oL y.1=true/\(1<=y.2.1/\y.2.1<=1099511627776)/\y.2.2=0:=fun y a=>by obtain⟨u,E,p,K,r⟩:=axA _ _ y a;have:=hx u E;rw[<-p,r];exact⟨this.1,⟨by simp only;omega,by simp only;omega⟩,rfl⟩
    refine⟨MG _ _,?_,?_,?_⟩
    .simp only;split
     .rename_i J
      have:=ayz (d:=gp w x.e) (l:=x.e) (by
       rcases ayB w x.e with h|⟨y,a,h⟩
       .omega
       .exact⟨y,a,by omega⟩)
      rw[ajF];omega
     .omega
    .simp only;split
     .rename_i J;intro y a;rcases(ajG _ y _).1 a with rfl|a
      .grind
      .grind
     .exact c
    .simp only;split
     .exact axM hk g b f
     .exact b
 exact ax4 F (MG _ _) key.1 key.2.1 key.2.2.1 key.2.2.2
abbrev VLs:=List (List (List Nat))
def axS{v:VLs}{i:Nat}(h:v.length<=i):v.getD i []=[]:=by grind
theorem axu{u v:VLs}:∀{n:Nat},(∀i,i<n->(u.getD i []).length=(v.getD i []).length)->unR u n=unR v n
 |0,_=>rfl
 |n+1,h=>by show unR u n+_=unR v n+_;rw[axu (fun i hi=>h i Om),h n Om]
def ax3{u v:VLs}{p d:Nat}(h1:∀i,i≠p->(u.getD i []).length=(v.getD i []).length)(h2:(u.getD p []).length=(v.getD p []).length+d):∀n,p<n->unR u n=unR v n+(d:Int)*2^p
 |n+1,h=>by
  show unR u n+_=unR v n+_+_;by_cases hp:p=n
  .subst hp;grind[axu,Int.add_mul]
  .rw[ax3 h1 h2 n Om,h1 n (fun h=>hp h.symm)];omega
def axD{v:VLs}{n:Nat}(h:v.length<=n):unR v n=unR v v.length:=by
 induction n with
 |zero=>rw[show v.length=0 by omega]
 |succ n i =>
  rcases au n v.length with a|a
  .have:v.length=n+1:=Om;rw[this]
  .show unR v n+_=_;rw[i a,axS a];simp
theorem axE(v:VLs):∀n,0<=unR v n
 |0=>rZ _
 |n+1=>by have:=axE v n;grind[unR]
def pw2(ps:List Int):Nat->Int
 |0=>0
 |i+1=>pw2 ps i+2^(ps.getD i 0).toNat
def axU(l:List Int)(x:Int):∀i,i<=l.length->pw2 (l++[x]) i=pw2 l i
 |0,_=>rfl
 |i+1,h=>by show pw2 _ i+_=pw2 _ i+_;rw[axU l x i Om,gW,List.getElem?_append_left Om,<-gW]
def ayK(l:List Int)(x:Int):pw2 (l++[x]) (l++[x]).length=pw2 l l.length+2^x.toNat:=by simp_all[pw2,axU]
def ayF(n i:Nat)(hi:i<=63):FC (n:Int) i=decide (n / 2^i%2=1):=by
 unfold FC;have e:min i IntKind.i64.bits=i:=qj (show i<=64 by omega);rw[aaU,e,axh _ (Int.pow_nonneg dX)];have a:((n:Int) / 2^i)%2=((n / 2^i%2:Nat):Int):=by norm_cast
 rw[a,DY];simp only[beq_iff_eq,Ru];omega
def axV(n:Nat):∀m,m<=64->pw2 (je n m) (je n m).length=((n%2^m:Nat):Int)
 |0,_=>by
  have:n%2^0=0:=by simp[Nat.mod_one]
  rw[this];rfl
 |m+1,h=>by
  have i:=axV n m Om;have hp:=ayF n m Om;have a:n%2^(m+1)=n%2^m+2^m*(n / 2^m%2):=Nat.mod_pow_succ;by_cases q:n / 2^m%2=1
  .rw[<-apm n m (by rw[hp];exact eU q),ayK,i,a,q,Nat.mul_one,BD];norm_cast
  .simp_all[apl]
def ayW(k:List Nat)(v:VLs)(p n:Nat)(h:p<n):unR (Ip k v p) n=unR v n+2^p:=by have hl:=Vy v (p+1);have:=ax3 (u:=Ip k v p) (v:=v) (p:=p) (d:=1) (fun i hi=>by unfold Ip;rw[axx _ _ _ _ Om,ag hi,Vx]) (by unfold Ip;rw[axx _ _ _ _ Om];simp) n h;omega
def ax1(k:List Nat)(ps:List Int)(v:VLs)(n:Nat)(h:∀i,(ps.getD i 0).toNat<n):∀i,unR (uf k ps v i) n=unR v n+pw2 ps i
 |0=>by simp[uf,pw2]
 |i+1=>by show unR (Ip k (uf k ps v i) (ps.getD i 0).toNat) n=unR v n+(pw2 ps i+_);rw[ayW _ _ _ _ (h i),ax1 k ps v n h i,Int.add_assoc]
def keyL(l:List (List Nat)):Prop:=∀k∈l,oL k=true
abbrev leL(l:List (List Nat)):Prop:=l.Pairwise fun a b=>kl b a=false
def ayQ(l:List (List Nat)):leL (srt kl l):=axX kl (fun a b=>kl b a=false) (fun x y h=>axP h) (fun x y h=>h) (fun x y z h1 h2=>by rw[UU,decide_eq_false_iff_not]at *;exact fun h3=>absurd h3 (List.not_lt.2 (List.le_trans (List.not_lt.1 h1) (List.not_lt.1 h2)))) l
def ax2(o:VLs)(c:List (List Nat)):unR (o++[c]) (o.length+1)=unR o o.length+(c.length:Int)*2^o.length:=by grind[unR,axu]
structure StI (v:VLs) (z:Int) (s:Stl):Prop where
 len:s.2.2.2.2.length=s.1
 un:unR s.2.2.2.2 s.1+(s.2.1.length:Int)*2^s.1=unR v s.1
 ca:keyL s.2.1
 lv:∀l∈s.2.2.2.2,(l.length:Int)<z/\leL l/\keyL l
 lo:0<=s.2.2.1/\s.2.2.1<=1099511627776
theorem axN{v:VLs}(h:∀l∈v,keyL l)(i:Nat):keyL (v.getD i []):=by
 rcases au i v.length with hi|hi
 .grind
 .rw[axS hi];intro k hk;cases hk
def StI.step{v:VLs}{z:Int}{co:List Nat}{s:Stl}(t:2<=z)(hv:∀l∈v,keyL l)(h:StI v z s):StI v z (vO v z co s):=by
 have hl:=Zk v s;have hg:(if s.1<v.length then(v.getD s.1 []).length else 0)=(v.getD s.1 []).length:=by grind
 rw[hg]at hl
 have hk:keyL (jK v s):=by
  intro k hk;unfold jK at hk;have hk:=(Y8 _ _ _).1 hk;split at hk
  .rcases iG.1 hk with hk|hk
   .exact axN hv _ k hk
   .exact h.ca k hk
  .exact h.ca k hk
 have n:leL (jK v s):=by unfold jK;exact ayQ _
 have g:=h.un;have a:=h.len;have i:unR v (s.1+1)=unR v s.1+((v.getD s.1 []).length:Int)*2^s.1:=rfl;have hb:=Sz co s.2.2.2.1;unfold vO;split
 .rename_i q;refine⟨by simp[a],?_,(fun k hk=>by cases hk),fun l c => ?_,h.lo⟩
  .show unR (s.2.2.2.2++[jK v s]) (s.1+1)+(([]:List (List Nat)).length:Int)*2^(s.1+1)=unR v (s.1+1);rw[i,<-g,<-a,ax2,hl,a];simp only[o9,BD,Int.add_mul,Int.natCast_zero,Int.zero_mul];omega
  .rcases iG.1 c with d|d
   .exact h.lv l d
   .grind
 .rename_i q;have m:(jK v s).length=2*((jK v s).length / 2)+(jK v s).length%2:=Om;have f:((jK v s).drop ((jK v s).length / 2*2)).length=(jK v s).length%2:=by rw[eH];omega
  refine⟨by simp[a],?_,fun k b => ?_,fun l c => ?_,MG _ _⟩
  .show unR (s.2.2.2.2++[(jK v s).drop ((jK v s).length / 2*2)]) (s.1+1)+((evN (jK v s) (xU co s.2.2.2.1).toNat ((jK v s).length / 2)).length:Int)*2^(s.1+1)=unR v (s.1+1);rw[i,<-g,<-a,ax2,NH,f,a];have p:((v.getD s.1 []).length:Int)*2^s.1+(s.2.1.length:Int)*2^s.1=((jK v s).length:Int)*2^s.1:=by rw[hl,BD,Int.add_mul]
   have r:((jK v s).length:Int)*2^s.1=(((jK v s).length / 2:Nat):Int)*(2^s.1*2)+(((jK v s).length%2:Nat):Int)*2^s.1:=by grind
   rw[Int.pow_succ];omega
  .unfold evN at b;obtain⟨j,hj,rfl⟩:=dP.1 b;have hj:=List.mem_range.1 hj;exact hk _ (wY _ _ _ Om)
  .rcases iG.1 c with d|d
   .exact h.lv l d
   .rw[jX.1 d];exact⟨by rw[f];omega,n.sublist (List.drop_sublist _ _),fun k b=>hk k (BG b)⟩
def StI.go{v:VLs}{z:Int}{co:List Nat}(a:2<=z)(hv:∀l∈v,keyL l):∀(f:Nat) (s:Stl),StI v z s->StI v z (vN v z co f s)
 |0,s,h=>h
 |f+1,s,h=>by
  unfold vN;split
  .exact StI.go a hv f _ (h.step a hv)
  .exact h
def axZ{v:VLs}{z:Int}{co:List Nat}{M:Nat}(b:2<=z)(a:∀i,(v.getD i []).length<=M):∀(f:Nat) (s:Stl),zg v M s<=f->s.2.1.length<=M->v.length<=(vN v z co f s).1/\(vN v z co f s).2.1.length=0
 |0,s,h,_=>by show v.length<=s.1/\s.2.1.length=0;grind[zg]
 |f+1,s,h,c=>by
  unfold vN;split
  .rename_i q;obtain⟨h1,h2⟩:=atW v z b co M a s c q;exact axZ b a f _ Om h1
  .omega
def axY{v:VLs}{z:Int}{co:List Nat}:∀(f:Nat) (s:Stl),s.2.2.2.1<=(vN v z co f s).2.2.2.1/\(vN v z co f s).2.2.2.1<=s.2.2.2.1+f
 |0,s=>⟨rZ _,by show s.2.2.2.1<=_;omega⟩
 |f+1,s=>by
  unfold vN;split
  .have:=axY (v:=v) (z:=z) (co:=co) f (vO v z co s);grind[vO]
  .omega
def ax0:∀(f:Nat) (l:VLs),l.length<=f->(0<(pX f l).length->0<((pX f l).getD ((pX f l).length-1) []).length)/\unR (pX f l) (pX f l).length=unR l l.length
 |0,l,h=>⟨fun h2=>by have:(pX 0 l).length=l.length:=rfl;omega,rfl⟩
 |f+1,l,h=>by
  unfold pX;split
  .obtain⟨n,a⟩:∃n,l.length=n+1:=⟨l.length-1,by omega⟩;have hl:(l.take (l.length-1)).length=n:=by rw[bI];omega
   obtain⟨h1,h2⟩:=ax0 f (l.take (l.length-1)) Om;grind[unR,axu]
  .omega
theorem ax5{x:Rk}(r:(2<=x.z/\x.z<=32)/\x.z%2=0)(p:0<=x.t/\x.t<=1099511627776)(hl:0<=x.l/\x.l<=1099511627776)(hv:∀l∈x.v,(l.length:Int)<x.z/\leL l/\keyL l)
  (he:0<x.v.length->0<(x.v.getD (x.v.length-1) []).length) (k:unR x.v x.v.length=x.t):vRk x=0:=by
 have f:x.v.length<=41:=by
  rcases au x.v.length 42 with h|h
  .omega
  .exfalso;have he:=he Om;obtain⟨n,g⟩:∃n,x.v.length=n+1:=⟨x.v.length-1,by omega⟩;rw[g,uC]at he;have h1:unR x.v (n+1)=unR x.v n+((x.v.getD n []).length:Int)*2^n:=rfl;have h2:=axE x.v n;have h3:2^41<=2^n:=qL dX Om;have h4:1*2^n<=(x.v.getD n []).length*2^n:=vY _ he;have h5:(((x.v.getD n []).length*2^n:Nat):Int)=((x.v.getD n []).length:Int)*2^n:=Aa;rw[<-h5]at h1;rw[g]at k;generalize(x.v.getD n []).length*2^n=a at *;omega
 have c:∀i,i<x.v.length->pJ x.z x.v i=0:=fun i hi=>by
  obtain⟨h1,h2,h3⟩:=hv _ (wY x.v i [] hi);unfold pJ;rw[ag Om];generalize x.v.getD i []=l at *;refine NI _ _ _ fun j _ hj => ?_
  have hj:j<l.length:=Om;have e:∀m (hm:m<l.length),l.getD m []=l[m]:=fun m hm=>by rw[gW,dY hm];rfl
  unfold zS;rw[e j hj,h3 _ (ji hj),ag dX,ag];rintro⟨d,hb⟩;rw[e (j-1) Om]at hb;have h4:kl l[j] l[j-1]=false:=List.pairwise_iff_getElem.1 h2 (j-1) j Om hj Om;rw[h4]at hb;cases hb
 have d:gK (pJ x.z x.v) x.v.length 0=0:=NI _ _ _ fun j _ hj=>c j Om
 unfold vRk
 rw[ag (fun q=>q ⟨r,p,hl⟩),ag Om,ag (fun q=>q d)]
 unfold ND
 rw[ag (by rintro⟨a,b⟩;have:=he a;omega),ag (fun q=>q k)]
def ayM{v:VLs}{z lo at':Int}{co:List Nat}{b:Bool}(d:(2<=z/\z<=32)/\z%2=0)(hv:∀l∈v,keyL l)(g:∀i,(v.getD i []).length<=100)(a:0<=lo/\lo<=1099511627776)(j:unR v v.length<=1099511627776) :
  vRk ⟨z,unR v v.length,(DJ v z lo co at' 100).2.2.1,pX (DJ v z lo co at' 100).2.2.2.2.length (DJ v z lo co at' 100).2.2.2.2,b⟩=0/\at'<=(DJ v z lo co at' 100).2.2.2.1/\(DJ v z lo co at' 100).2.2.2.1<=at'+v.length*101:=by
 have h:StI v z (DJ v z lo co at' 100):=StI.go d.1.1 hv _ _ ⟨rfl,by simp[unR],(fun k hk=>by cases hk),(fun l hl=>by cases hl),a⟩
 have f:v.length<=(DJ v z lo co at' 100).1/\(DJ v z lo co at' 100).2.1.length=0:=axZ d.1.1 g _ _ (by simp[zg]) (ax _)
 have hA:=axY (v:=v) (z:=z) (co:=co) (v.length*(100+1)) (0,[],lo,at',[])
 refine⟨?_,hA.1,?_⟩
 .generalize DJ v z lo co at' 100=R at *;obtain⟨t,t2⟩:=ax0 R.2.2.2.2.length R.2.2.2.2 (az _);obtain⟨s1,s2⟩:=aux R.2.2.2.2.length R.2.2.2.2;have c:=h.un;rw[axD f.1,<-h.len]at c;refine ax5 d ⟨axE _ _,j⟩ h.lo (fun l hl=>h.lv l (s1 l hl)) t ?_;grind
 .grind[DJ]
def ay2{x:Rk}(h:vRk x=0):(∀l∈x.v,keyL l)/\unR x.v x.v.length=x.t:=by
 unfold vRk at h;split at h
 .cases h
 .split at h
  .cases h
  .split at h
   .omega
   .rename_i h3;have h3:=o8 h3;refine⟨fun l hl k hk => ?_,?_⟩
    .obtain⟨i,hi,rfl⟩:=D5.1 hl;have h4:=G9 _ _ _ h3 i (ax _) Om;have e:x.v.getD i []=x.v[i]:=by rw[gW,dY hi];rfl
     unfold pJ at h4;rw[e]at h4;split at h4
     .cases h4
     .obtain⟨j,hj,rfl⟩:=D5.1 hk;have h5:=G9 _ _ _ h4 j (ax _) Om;grind[zS]
    .grind[ND]
def axO{k:List Nat}(hk:oL k=true)(ps:List Int){v:VLs}(hv:∀l∈v,keyL l):∀i,∀l∈uf k ps v i,keyL l
 |0=>hv
 |i+1=>fun l hl=>by
  have a:=axO hk ps hv i;obtain⟨j,hj,rfl⟩:=D5.1 hl;have h:j<(Ip k (uf k ps v i) (ps.getD i 0).toNat).length:=hj;have e:(Ip k (uf k ps v i) (ps.getD i 0).toNat).getD j []=(Ip k (uf k ps v i) (ps.getD i 0).toNat)[j]'h:=by rw[gW,dY h];rfl
  grind[keyL,Ip,uf,axx,axN,Vx]
def ax8{a b:Int}(ha:0<=a/\a<=1099511627776)(hb:0<=b)(h:¬(cu a b).2=true):(cu a b).1=a+b/\a+b<=1099511627776:=by have e:cu a b=(min (a+b) 1099511627776,decide (a+b > 1099511627776)):=axv ha hb;rw[e]at h⊢;simp only[Ru]at h;exact⟨by simp only;omega,by omega⟩
def ay3{x:Rk}(h:vRk x=0){k:List Nat}{w:Int}(co:List Nat){at':Int}(hi:iW k w=0)(ha:0<=at'/\at'<=1073741824) :
  vRk (uX x k w co at').1=0/\(uX x k w co at').2.2=0/\at'<=(uX x k w co at').2.1/\(uX x k w co at').2.1<=at'+6363:=by
 obtain⟨s,t,u,C,y⟩:=zn h
 obtain⟨j,l⟩:=ay2 h
 obtain⟨E,g⟩:=F9 hi
 unfold uX
 rw[ag Om,ag Om,ag (fun q=>q ha)]
 split
 .exact⟨h,rfl,rZ _,by simp only;omega⟩
 .rename_i q;obtain⟨p,A⟩:=ax8 t Om q;have d:=fun i=>Ye w 63 i dX
  have a:=Yj k (je w 63) x.v (fun i=>by have:=d i;omega) 31 y Om (je w 63).length;have r:=Yf w 63;have c:(tY x k w).length<=63:=a.1;have f:unR (tY x k w) (tY x k w).length=x.t+w:=by rw[<-axD (n:=63) c];unfold tY;rw[ax1 _ _ _ 63 (fun i=>by have:=d i;omega),axD Om,l];obtain⟨m,rfl⟩:∃m:Nat,w=(m:Int):=⟨w.toNat,by omega⟩;rw[axV m 63 dX,Md Om]
  have hm:∀i,((tY x k w).getD i []).length<=100:=fun i=>by have:((tY x k w).getD i []).length<=31+(je w 63).length:=a.2 i;omega
  have:=ayM (v:=tY x k w) (z:=x.z) (lo:=x.l) (at':=at') (co:=co) (b:=x.b) s (axO (VM ⟨g.1,g.2⟩) _ j _) hm u Om;rw[f,<-p]at this;have h2:(xH x k w co at').2.2.2.1<=_:=this.2.2;exact⟨this.1,rfl,this.2.1,by simp only;omega⟩
theorem axW{s:Sk}(h:vSk s=0):gu s=s:=by
 have h1:jy s (gu s)=true:=by
  unfold vSk at h;split at h
  .rename_i q;exact absurd h q
  .split at h
   .rename_i q;exact absurd h q
   .split at h
    .split at h
     .rename_i q;exact q
     .cases h
    .cases h
 generalize gu s=o at *;obtain⟨⟨pk,pz,pd,ps⟩,⟨E,t2,F⟩,⟨c1,c,a,b,d⟩,⟨r,t,u⟩,⟨f,g,i,j⟩,⟨k,l,m,n,p⟩,⟨v,x,y,A,C⟩⟩:=s;obtain⟨⟨_,_,_,_⟩,⟨_,_,_⟩,⟨_,_,_,_,_⟩,⟨_,_,_⟩,⟨_,_,_,_⟩,⟨_,_,_,_,_⟩,⟨_,_,_,_,_⟩⟩:=o;unfold jy vH vJ vM vI vK at h1;simp only[lL,Ru]at h1;simp only[samP,samT]at h1;obtain⟨⟨rfl,rfl,rfl,rfl⟩,⟨rfl,rfl,rfl⟩,⟨rfl,rfl,rfl,rfl,rfl⟩,⟨rfl,rfl,rfl⟩,⟨rfl,rfl,rfl,rfl⟩,⟨rfl,rfl,rfl,rfl,rfl⟩,rfl,rfl,rfl,rfl,rfl⟩:=h1;rfl
def ayL(s:Sk):jy s s=true:=by unfold jy vH vJ vM vI vK samP samT;simp
def ax6{s:Sk}(h:vSk s=0):vp s.p.k s.p.z s.p.d s.p.s=0/\gU s=0/\parP s/\gu s=s:=by
 have h4:=axW h;unfold vSk at h;split at h
 .rename_i q;exact absurd h q
 .rename_i a;split at h
  .rename_i q;exact absurd h q
  .rename_i b;split at h
   .rename_i c;exact⟨o8 a,o8 b,c,h4⟩
   .cases h
theorem BB{s:Sk}(h1:vp s.p.k s.p.z s.p.d s.p.s=0)(h2:gU s=0)(h3:parP s)(h4:gu s=s):vSk s=0:=by unfold vSk;rw[ag (fun q=>q h1),ag (fun q=>q h2),ah h3,h4,ah (ayL s)]
def K1(p:Pm)(x:Tl):Sk:=⟨p,x,Cm.o,Ll.o,Tp.o,Fq.o,Rk.o⟩
def K2(p:Pm)(x:Cm):Sk:=⟨p,Tl.o,x,Ll.o,Tp.o,Fq.o,Rk.o⟩
def K3(p:Pm)(x:Ll):Sk:=⟨p,Tl.o,Cm.o,x,Tp.o,Fq.o,Rk.o⟩
def K4(p:Pm)(x:Tp):Sk:=⟨p,Tl.o,Cm.o,Ll.o,x,Fq.o,Rk.o⟩
def K5(p:Pm)(x:Fq):Sk:=⟨p,Tl.o,Cm.o,Ll.o,Tp.o,x,Rk.o⟩
def K6(p:Pm)(x:Rk):Sk:=⟨p,Tl.o,Cm.o,Ll.o,Tp.o,Fq.o,x⟩
def Kd6(p:Pm)(s:Sk):Prop:=(∃x,p.k=1/\s=K1 p x/\vTl x=0)\/(∃x,p.k=2/\s=K2 p x/\vCm x=0/\x.d=p.d/\x.z=p.z/\x.s=p.s)\/(∃x,p.k=3/\s=K3 p x/\vLl x=0/\x.p=p.z/\x.s=p.s) \/
 (∃x,p.k=4/\s=K4 p x/\vTp x=0/\x.z=p.z)\/(∃x,p.k=5/\s=K5 p x/\vFq x=0/\x.z=p.z)\/(∃x,p.k=6/\s=K6 p x/\vRk x=0/\x.z=p.z)
def ayx{s:Sk}{p:Pm}(hp:s.p=p)(h:vSk s=0):Kd6 p s:=by
 obtain⟨h1,h2,h3,h4⟩:=ax6 h;subst hp;unfold gU at h2;unfold parP at h3;rcases Gf h1 with q|q|q|q|q|q<;>simp[q]at h2 h3
 .exact .inl ⟨s.tl,q,h4.symm.trans (by simp[gu,q,K1]),h2⟩
 .exact .inr (.inl ⟨s.cm,q,h4.symm.trans (by simp[gu,q,K2]),h2,h3⟩)
 .exact .inr (.inr (.inl ⟨s.ll,q,h4.symm.trans (by simp[gu,q,K3]),h2,h3⟩))
 .exact .inr (.inr (.inr (.inl ⟨s.tp,q,h4.symm.trans (by simp[gu,q,K4]),h2,h3⟩)))
 .exact .inr (.inr (.inr (.inr (.inl ⟨s.fq,q,h4.symm.trans (by simp[gu,q,K5]),h2,h3⟩))))
 .exact .inr (.inr (.inr (.inr (.inr ⟨s.rk,q,h4.symm.trans (by simp[gu,q,K6]),h2,h3⟩))))
def l9{s:Sk}{p:Pm}(hv:vp p.k p.z p.d p.s=0)(h:Kd6 p s):vSk s=0/\s.p=p:=by
 rcases h with⟨x,q,rfl,h⟩|⟨x,q,rfl,h⟩|⟨x,q,rfl,h⟩|⟨x,q,rfl,h⟩|⟨x,q,rfl,h⟩|⟨x,q,rfl,h⟩
 .grind[BB,gU,K1,parP,gu]
 .grind[BB,gU,K2,parP,gu]
 .grind[BB,gU,K3,parP,gu]
 .grind[BB,gU,K4,parP,gu]
 .grind[BB,gU,K5,parP,gu]
 .grind[BB,gU,K6,parP,gu]
def ayt{s:Sk}{p:Pm}(hp:s.p=p)(h:vSk s=0){k:List Nat}{w:Int}(hi:iW k w=0)(co:List Nat){at':Int}(ha:0<=at'/\at'<=1073741824) :
  (∀x,p.k=1->s=K1 p x->xq s k w co at'=(K1 p (Hw x k w).1,at',0))/\(∀x,p.k=2->s=K2 p x->xq s k w co at'=(K2 p (yJ x k w).1,at',0))/\(∀x,p.k=3->s=K3 p x->xq s k w co at'=(K3 p (yK x k w).1,at',0)) /\
  (∀x,p.k=4->s=K4 p x->xq s k w co at'=(K4 p (Ap x k w).1,at',0))/\(∀x,p.k=5->s=K5 p x->xq s k w co at'=(K5 p (Am x k w).1,at',0))/\(∀x,p.k=6->s=K6 p x->xq s k w co at'=(K6 p (uX x k w co at').1,(uX x k w co at').2.1,0)):=by
 unfold xq
 rw[ag Om,ag Om,ag (fun q=>q ha),hp]
 refine⟨?_,?_,?_,?_,?_,?_⟩<;>(intro x q e;subst e;simp[q,K1,K2,K3,K4,K5,K6])
def ayr{x:Ll}(h:vLl x=0){k:List Nat}{w:Int}(hi:iW k w=0):(yK x k w).1=axy x k:=by unfold yK;rw[ag Om,ag Om];rfl
def ays{x:Tl}(h:vTl x=0){k:List Nat}{w:Int}(hi:iW k w=0):(Hw x k w).1=I8 x ⟨w,1,false⟩:=by unfold Hw;rw[ag Om,ag Om]
def ayq{x:Cm}(h:vCm x=0){k:List Nat}{w:Int}(hi:iW k w=0):(yJ x k w).1=kV x k w x.d.toNat:=by grind[yJ]
theorem z40:(0:Int)<=0/\(0:Int)<=1099511627776:=⟨by decide,by decide⟩
def ayC(p:Pm)(hv:vp p.k p.z p.d p.s=0):Kd6 p (Dh p):=by
 unfold Dh;rcases Gf hv with q|q|q|q|q|q
 .rw[ah q];exact .inl ⟨_,q,rfl,rfl⟩
 .rw[ag Om,ah q];exact .inr (.inl ⟨_,q,rfl,ayX (aab (by rw[q]at hv;exact hv)),rfl,rfl,rfl⟩)
 .rw[ag Om,ag Om,ah q];exact .inr (.inr (.inl ⟨_,q,rfl,ay1 (aac (by rw[q]at hv;exact hv)),rfl,rfl⟩))
 .rw[ag Om,ag Om,ag Om,ah q];have h:=avC (by rw[q]at hv;exact hv);exact .inr (.inr (.inr (.inl ⟨_,q,rfl,ax7 h z40 (by simp only[o9];omega) (fun y a=>by cases a) List.Pairwise.nil List.Pairwise.nil,rfl⟩)))
 .rw[ag Om,ag Om,ag Om,ag Om,ah q];have h:=avD (by rw[q]at hv;exact hv);exact .inr (.inr (.inr (.inr (.inl ⟨_,q,rfl,ax4 h z40 z40 (by simp only[o9];omega) (fun y a=>by cases a) List.Pairwise.nil,rfl⟩))))
 .rw[ag Om,ag Om,ag Om,ag Om,ag Om];have h:=avE (by rw[q]at hv;exact hv);exact .inr (.inr (.inr (.inr (.inr ⟨_,q,rfl,ax5 ⟨⟨h.1,h.2.1⟩,h.2.2⟩ z40 z40 (fun l hl=>by cases hl) (fun h=>by cases h) rfl,rfl⟩))))
def ayu{s:Sk}{p:Pm}(ok:s.Ok)(hp:s.p=p)(h:vSk s=0){k:List Nat}{w:Int}(hk:oct k)(hi:iW k w=0)(co:List Nat){at':Int}(ha:0<=at'/\at'<=1073741824) :
  (vSk (xq s k w co at').1=0/\(xq s k w co at').1.p=p)/\at'<=(xq s k w co at').2.1/\(xq s k w co at').2.1<=at'+6363:=by
 have hv:=(ax6 h).1
 rw[hp]at hv
 obtain⟨g,i,j,l,m,n⟩:=ayt hp h hi co ha
 obtain⟨y,E⟩:=F9 hi
 have a:at'<=at'/\at'<=at'+6363:=⟨rZ _,by omega⟩
 rcases ayx hp h with⟨x,q,e,v⟩|⟨x,q,e,v⟩|⟨x,q,e,v⟩|⟨x,q,e,v⟩|⟨x,q,e,v⟩|⟨x,q,e,v⟩
 .rw[g x q e];exact⟨l9 hv (.inl ⟨_,q,rfl,by rw[ays v hi];exact ay4 v y.1⟩),a⟩
 .rw[i x q e];obtain⟨d,c,f,A⟩:=YD x k w x.d.toNat;exact⟨l9 hv (.inr (.inl ⟨_,q,rfl,by rw[ayq v.1 hi,d,c,f];exact⟨ayY v.1 _ _ _,v.2⟩⟩)),a⟩
 .rw[j x q e];exact⟨l9 hv (.inr (.inr (.inl ⟨_,q,rfl,by rw[ayr v.1 hi];exact⟨ay0 v.1 k,v.2⟩⟩))),a⟩
 .rw[l x q e];have ho:octE x.e:=by have:=ok.to;rw[e]at this;exact this
  have b:(Ap x k w).1.z=x.z:=by unfold Ap;rw[ag Om,ag Om]
  exact⟨l9 hv (.inr (.inr (.inr (.inl ⟨_,q,rfl,ay5 v.1 ho hk hi,by rw[b];exact v.2⟩)))),a⟩
 .rw[m x q e];have ho:octE x.e:=by have:=ok.fo;rw[e]at this;exact this
  have b:(Am x k w).1.z=x.z:=by unfold Am;rw[ag Om,ag Om]
  exact⟨l9 hv (.inr (.inr (.inr (.inr (.inl ⟨_,q,rfl,(ayZ v.1 ho hk hi).1,by rw[b];exact v.2⟩))))),a⟩
 .rw[n x q e];obtain⟨r,C,t,u⟩:=ay3 v.1 co hi ha;have b:(uX x k w co at').1.z=x.z:=by unfold uX;rw[ag Om,ag Om,ag (fun q=>q ha)];split<;>rfl
  exact⟨l9 hv (.inr (.inr (.inr (.inr (.inr ⟨_,q,rfl,r,by rw[b];exact v.2⟩))))),t,u⟩
def axG{p:Pm}(a:0<=p.s/\p.s<18446744073709551616)(hv:vp p.k p.z p.d p.s=0){its:List (List Nat×Int)}(hi:∀x∈its,oct x.1/\iW x.1 x.2=0)(co:List Nat)(c:its.length<=100):∀i,i<=its.length->(vSk (pK p its co i).1=0/\(pK p its co i).1.p=p)/\0<=(pK p its co i).2/\(pK p its co i).2<=6363*i
 |0,_=>⟨l9 hv (ayC p hv),rZ _,rZ _⟩
 |i+1,h=>by obtain⟨⟨h1,h2⟩,h3,h4⟩:=axG a hv hi co c i Om;obtain⟨g,b⟩:=hi _ (wY its i ([],0) h);obtain⟨f,d,j⟩:=ayu (Uk p a hv its (fun x hx=>(hi x hx).1) co i) h2 h1 g b co (at':=(pK p its co i).2) ⟨h3,by omega⟩;exact⟨f,by show 0<=(xq _ _ _ _ _).2.1;omega,by show(xq _ _ _ _ _).2.1<=_;omega⟩
def ay6(n:Nat):1<=wB n/\wB n<=4294967295:=by unfold wB;(repeat' split)<;>omega
theorem ayN(l:List Int):vSk (jJ l)=0:=by
 have h:(qx (l.drop (min l.length 2)) (atN l 1%8)).length=atN l 1%8:=OI _ _;have:=kQ (atN l 1) (show 8 > 0 by decide);refine(axG (Yg _) (Yh _) (fun x hx => ?_) _ Om _ Om).1.1;obtain⟨j,_,rfl⟩:=dP.1 hx;generalize l.drop (min l.length 2)=l;have h1:=akR (atN l j:Nat);have h2:=ay6 (atN l j)
 have h3:1<=(ER (atN l j:Nat)).length:=by
  unfold ER;split
  .exact(dX:1<=3)
  .exact(dX:∀q,q<12->1<=(Ar.getD q []).length) _ (kQ _ dX)
 refine⟨h1.1,?_⟩;unfold iW EQ;rw[ah ⟨h3,by have:=h1.2;simp only;omega⟩,ah h2]
end Go.Proofs.YtopbmdnbdpjheaaGreat
