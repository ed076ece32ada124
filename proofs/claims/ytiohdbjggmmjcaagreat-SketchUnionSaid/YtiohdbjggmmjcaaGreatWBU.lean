/-
  Merged texts.
-/
import Derived.Test.YtiohdbjggmmjcaaGreatWBR
import Derived.Test.YtiohdbjggmmjcaaGreatWBD
import Derived.Test.YtiohdbjggmmjcaaGreatWBP
import Derived.Test.YtiohdbjggmmjcaaGreatWBK
import Derived.Test.YtiohdbjggmmjcaaGreatWBN
import Derived.Test.YtiohdbjggmmjcaaGreatWBQ
set_option linter.unusedVariables false
set_option linter.unusedSimpArgs false
set_option linter.unusedSectionVars false
set_option linter.defProp false
set_option maxRecDepth 100000
set_option maxHeartbeats 8000000
namespace Go.Proofs.YtiohdbjggmmjcaaGreat
open Go Go.Pg
theorem zg{a b m:Int}(ha:0≤a∧a≤m)(hb:0≤b):lw a b m=(min (a+b) m,decide (a+b > m)):=by
 unfold lw
 rw[oh ha.1,oh hb,oh (show 0≤m by omega)]
 split
 ·rw[decide_eq_true (by omega),show min (a+b) m=m by omega]
 ·rw[decide_eq_false (by omega),show min (a+b) m=a+b by omega]
theorem ajb{x y w m:Int}(hx:0≤x∧x≤m)(hy:0≤y∧y≤m)(hw:0≤w) :
  (lw x (lw y w m).1 m).1=(lw (lw x y m).1 w m).1∧((lw y w m).2||(lw x (lw y w m).1 m).2)=((lw x y m).2||(lw (lw x y m).1 w m).2):=by
 have e1:=zg hy hw
 have e2:=zg hx hy.1
 rw[e1,e2]
 simp only
 rw[zg hx (show 0≤min (y+w) m by omega),zg (show 0≤min (x+y) m∧min (x+y) m≤m by omega) hw]
 refine⟨by simp only;omega, ?_⟩
 simp only
 rw[←Bool.decide_or,←Bool.decide_or]
 exact decide_eq_decide.2 (by omega)
theorem ajc{x m:Int}(hx:0≤x∧x≤m):lw x 0 m=(x,false):=by
 rw[zg hx (Int.le_refl 0),Int.add_zero,decide_eq_false (by omega),show min x m=x by omega]
def ajd(x y:Tl):Tl:=⟨(Bz x ⟨y.t,y.i,false⟩).t,(Bz x ⟨y.t,y.i,false⟩).i,(Bz x ⟨y.t,y.i,false⟩).b||y.b⟩
theorem akD(x y:Tl)(w:Int)(hx:vTl x=0)(hy:vTl y=0)(hw:0≤w):ajd x (Bz y ⟨w,1,false⟩)=Bz (ajd x y) ⟨w,1,false⟩:=by
 have bx:(0≤x.t∧x.t≤4294967295)∧(0≤x.i∧x.i≤4294967295):=by unfold vTl at hx;split at hx;exact⟨by omega,by omega⟩;cases hx
 have by_:(0≤y.t∧y.t≤4294967295)∧(0≤y.i∧y.i≤4294967295):=by unfold vTl at hy;split at hy;exact⟨by omega,by omega⟩;cases hy
 obtain⟨t1,t2⟩:=ajb bx.1 by_.1 hw
 obtain⟨u1,u2⟩:=ajb bx.2 by_.2 (show (0:Int)≤1 by decide)
 unfold ajd Bz
 simp only[Tl.mk.injEq]
 refine⟨t1,u1, ?_⟩
 revert t2 u2
 generalize (lw y.t w 4294967295).2=a
 generalize (lw x.t (lw y.t w 4294967295).1 4294967295).2=b
 generalize (lw x.t y.t 4294967295).2=c
 generalize (lw (lw x.t y.t 4294967295).1 w 4294967295).2=d
 generalize (lw y.i 1 4294967295).2=a'
 generalize (lw x.i (lw y.i 1 4294967295).1 4294967295).2=b'
 generalize (lw x.i y.i 4294967295).2=c'
 generalize (lw (lw x.i y.i 4294967295).1 1 4294967295).2=d'
 generalize x.b=e
 generalize y.b=f
 revert a b c d a' b' c' d' e f
 decide
theorem als(x:Tl)(hx:vTl x=0):ajd x Tl.o=x:=by
 have bx:(0≤x.t∧x.t≤4294967295)∧(0≤x.i∧x.i≤4294967295):=by unfold vTl at hx;split at hx;exact⟨by omega,by omega⟩;cases hx
 unfold ajd Bz Tl.o
 simp only
 rw[ajc bx.1,ajc bx.2]
 simp
theorem ajV{t:Tl}{w:Int}(h:vTl t=0)(hw:1≤w):vTl (Bz t ⟨w,1,false⟩)=0:=by
 have bx:(0≤t.t∧t.t≤4294967295)∧(0≤t.i∧t.i≤4294967295)∧t.i≤t.t:=by unfold vTl at h;split at h;exact⟨by omega,by omega,by omega⟩;cases h
 unfold vTl Bz
 simp only
 rw[zg bx.1 (by omega),zg bx.2.1 (by decide)]
 rw[if_pos]
 simp only
 omega
theorem TS{l m:List Int}(hl:l.length=m.length)(h:∀i,i<l.length→l.getD i 0=m.getD i 0):l=m:=by
 apply List.ext_getElem hl
 intro i h1 h2
 have:=h i h1
 rw[List.getD_eq_getElem?_getD,List.getD_eq_getElem?_getD,List.getElem?_eq_getElem h1,List.getElem?_eq_getElem h2] at this
 exact this
theorem aje(l:List Int)(j i:Nat)(v:Int)(hj:j<l.length):(l.set j v).getD i 0=if j=i then v else l.getD i 0:=by
 rw[List.getD_eq_getElem?_getD,List.getElem?_set]
 split
 ·rename_i h;subst h;simp [hj]
 ·rw[List.getD_eq_getElem?_getD]
theorem ak4(l m:List Int)(j:Nat)(q:Int)(hl:m.length=l.length)(hj:j<l.length) :
  zmx l (m.set j (max (m.getD j 0) q)) m.length=(zmx l m m.length).set j (max ((zmx l m m.length).getD j 0) q):=by
 have h1:=GK l (m.set j (max (m.getD j 0) q)) m.length
 have h2:=GK l m m.length
 refine TS (by rw[List.length_set,h1,h2]) fun i hi => ?_
 rw[h1] at hi
 rw[agz l _ (by rw[List.length_set];exact hl) _ i (by omega) (by omega),aje _ _ _ _ (by omega),aje _ _ _ _ (by omega),agz l m hl _ i (by omega) (by omega)]
 split
 ·rename_i h;subst h
  rw[agz l m hl _ j (by omega) (by omega)]
  omega
 ·rfl
theorem alQ(l:List Int)(n:Nat)(hn:n=l.length)(h:∀i,0≤l.getD i 0):zmx l (zer n) n=l:=by
 subst hn
 have hz:(zer l.length).length=l.length:=List.length_replicate ..
 refine TS (GK _ _ _) fun i hi => ?_
 rw[GK] at hi
 rw[agz l _ hz _ i (by omega) hi]
 have:=h i
 have e:(zer l.length).getD i 0=0:=by
  rw[List.getD_eq_getElem?_getD,List.getElem?_replicate];split<;>rfl
 rw[e];omega
theorem abX(l m:List Int)(b:Bool):∀n,(zcm l m b n).2=true↔b=true∨∃i,i<n∧(lw (l.getD i 0) (m.getD i 0) 4294967295).2=true
 | 0=>by
  show b=true↔_
  exact⟨.inl,fun h=>h.elim id fun⟨i,hi,_⟩=>absurd hi (Nat.not_lt_zero i)⟩
 | n+1=>by
  rw[aiB,Bool.or_eq_true,abX l m b n]
  constructor
  ·rintro ((h|⟨i,hi,h⟩)|h)
   ·exact .inl h
   ·exact .inr ⟨i,by omega,h⟩
   ·exact .inr ⟨n,by omega,h⟩
  ·rintro (h|⟨i,hi,h⟩)
   ·exact .inl (.inl h)
   ·rcases Nat.lt_or_ge i n with hin|hin
    ·exact .inl (.inr ⟨i,hin,h⟩)
    ·have:i=n:=by omega
     subst this;exact .inr h
theorem ak5(l m:List Int)(b:Bool)(j:Nat)(w:Int)(hl:m.length=l.length)(hj:j<l.length)(hw:0≤w)(hL:∀i,0≤l.getD i 0∧l.getD i 0≤4294967295)(hM:∀i,0≤m.getD i 0∧m.getD i 0≤4294967295) :
  zcm l (m.set j (lw (m.getD j 0) w 4294967295).1) (b||(lw (m.getD j 0) w 4294967295).2) m.length=((zcm l m b m.length).1.set j (lw ((zcm l m b m.length).1.getD j 0) w 4294967295).1,(zcm l m b m.length).2||(lw ((zcm l m b m.length).1.getD j 0) w 4294967295).2):=by
 have hg:(zcm l m b m.length).1.getD j 0=(lw (l.getD j 0) (m.getD j 0) 4294967295).1:=agJ l m b _ j (by omega) (by omega)
 obtain⟨a1,a2⟩:=ajb (hL j) (hM j) hw
 have hs:∀i,(m.set j (lw (m.getD j 0) w 4294967295).1).getD i 0=if j=i then (lw (m.getD j 0) w 4294967295).1 else m.getD i 0:=fun i=>aje _ _ _ _ (by omega)
 refine Prod.ext ?_ ?_
 ·have h1:=GL l (m.set j (lw (m.getD j 0) w 4294967295).1) (b||(lw (m.getD j 0) w 4294967295).2) m.length
  have h2:=GL l m b m.length
  refine TS (by rw[List.length_set,h1,h2]) fun i hi => ?_
  rw[h1] at hi
  rw[agJ l _ _ _ i (by omega) (by omega),hs,aje _ _ _ _ (by omega)]
  split
  ·rename_i h;subst h
   rw[hg];exact a1
  ·rw[agJ l m b _ i (by omega) (by omega)]
 ·simp only
  rw[hg,Bool.eq_iff_iff,abX,Bool.or_eq_true,Bool.or_eq_true,abX]
  have a3:((lw (m.getD j 0) w 4294967295).2=true∨(lw (l.getD j 0) (lw (m.getD j 0) w 4294967295).1 4294967295).2=true)↔((lw (l.getD j 0) (m.getD j 0) 4294967295).2=true∨(lw (lw (l.getD j 0) (m.getD j 0) 4294967295).1 w 4294967295).2=true):=by
   rw[←Bool.or_eq_true,←Bool.or_eq_true,a2]
  constructor
  ·rintro ((h|h)|⟨i,hi,h⟩)
   ·exact .inl (.inl h)
   ·rcases a3.1 (.inl h) with h|h
    ·exact .inl (.inr ⟨j,by omega,h⟩)
    ·exact .inr h
   ·rw[hs] at h
    split at h
    ·rename_i e;subst e
     rcases a3.1 (.inr h) with h|h
     ·exact .inl (.inr ⟨j,by omega,h⟩)
     ·exact .inr h
    ·exact .inl (.inr ⟨i,hi,h⟩)
  ·rintro ((h|⟨i,hi,h⟩)|h)
   ·exact .inl (.inl h)
   ·by_cases e:j=i
    ·subst e
     rcases a3.2 (.inl h) with h|h
     ·exact .inl (.inr h)
     ·exact .inr ⟨j,by omega,by rw[hs,if_pos rfl];exact h⟩
    ·exact .inr ⟨i,hi,by rw[hs,if_neg e];exact h⟩
   ·rcases a3.2 (.inr h) with h|h
    ·exact .inl (.inr h)
    ·exact .inr ⟨j,by omega,by rw[hs,if_pos rfl];exact h⟩
theorem alR(l:List Int)(b:Bool)(n:Nat)(hn:n=l.length)(hL:∀i,0≤l.getD i 0∧l.getD i 0≤4294967295):zcm l (zer n) b n=(l,b):=by
 subst hn
 have e:∀i,(zer l.length).getD i 0=0:=fun i=>by rw[List.getD_eq_getElem?_getD,List.getElem?_replicate];split<;>rfl
 refine Prod.ext ?_ ?_
 ·refine TS (GL _ _ _ _) fun i hi => ?_
  rw[GL] at hi
  rw[agJ l _ _ _ i (Nat.le_refl _) hi,e,ajc (hL i)]
 ·simp only
  rw[Bool.eq_iff_iff,abX]
  constructor
  ·rintro (h|⟨i,_,h⟩)
   ·exact h
   ·rw[e,ajc (hL i)] at h;cases h
  ·exact .inl
theorem KJ{b:Int}{l:List Int}(h:ku 0 b l=true)(h0:0≤b)(i:Nat):0≤l.getD i 0∧l.getD i 0≤b:=by
 rw[List.getD_eq_getElem?_getD]
 rcases Nat.lt_or_ge i l.length with hi|hi
 ·rw[List.getElem?_eq_getElem hi,Option.getD_some]
  have:=List.all_eq_true.1 h _ (List.getElem_mem hi)
  simpa using this
 ·rw[List.getElem?_eq_none hi];exact⟨Int.le_refl _,h0⟩
def TT(x y:Cm):Cm:=⟨x.d,x.z,x.s,(zcm x.c y.c (x.b||y.b) y.c.length).1,(zcm x.c y.c (x.b||y.b) y.c.length).2⟩
theorem acE{c:Cm}(h:vCm c=0)(k:List Nat)(w:Int)(n:Nat):vCm (dW c k w n)=0:=by
 obtain⟨h1,h2,h3,h4⟩:=Xr h
 obtain⟨e1,e2,e3,e4⟩:=BB c k w n
 unfold vCm
 rw[e1,e2,e4,if_neg (fun h=>h ⟨h1.1,h1.2,h2.1,h2.2⟩),if_neg (fun h=>h h3),if_pos (D9 c k w h4 n)]
theorem akc(x y:Cm)(hx:vCm x=0)(hy:vCm y=0)(ed:y.d=x.d)(ez:y.z=x.z)(es:y.s=x.s)(k:List Nat)(w:Int)(hw:0≤w)(n:Nat)(hn:n<x.d.toNat):TT x (xP y k w n)=xP (TT x y) k w n:=by
 obtain⟨a1,a2,a3,a4⟩:=Xr hx
 obtain⟨b1,b2,b3,b4⟩:=Xr hy
 have hc:=xO x.s x.z n x.d k (by omega) (by omega)
 have hl:y.c.length=x.c.length:=by
  have h1:(y.c.length:Int)=(x.c.length:Int):=by rw[a3,b3,ed,ez]
  omega
 have hz:=ak5 x.c y.c (x.b||y.b) (rX x.s x.z n k).toNat w hl (by omega) hw (KJ a4 (by decide)) (KJ b4 (by decide))
 unfold TT xP
 simp only[Cm.mk.injEq,true_and,List.length_set,es,ez,←Bool.or_assoc]
 rw[hz]
 exact⟨rfl,rfl⟩
theorem aiC(x y:Cm)(hx:vCm x=0)(hy:vCm y=0)(ed:y.d=x.d)(ez:y.z=x.z)(es:y.s=x.s)(k:List Nat)(w:Int)(hw:0≤w):∀n,n≤x.d.toNat→TT x (dW y k w n)=dW (TT x y) k w n
 | 0,_=>rfl
 | n+1,h=>by
  have ih:=aiC x y hx hy ed ez es k w hw n (by omega)
  obtain⟨e1,e2,e3,e4⟩:=BB y k w n
  show TT x (xP (dW y k w n) k w n)=xP (dW (TT x y) k w n) k w n
  rw[←ih]
  exact akc x _ hx (acE hy k w n) (e1.trans ed) (e2.trans ez) (e3.trans es) k w hw n (by omega)
theorem alu(x:Cm)(hx:vCm x=0)(d z s:Int)(ed:d=x.d)(ez:z=x.z):TT x ⟨d,z,s,zer (d*z).toNat,false⟩=x:=by
 obtain⟨a1,a2,a3,a4⟩:=Xr hx
 subst ed ez
 have hz:=alR x.c (x.b||false) (x.d*x.z).toNat (by omega) (KJ a4 (by decide))
 unfold TT
 simp only[List.length_replicate]
 rw[hz,Bool.or_false]
theorem ajW{d z s:Int}(h:1≤d∧d≤8∧1≤z∧z≤64):vCm ⟨d,z,s,zer (d*z).toNat,false⟩=0:=by
 have h0:0≤d*z:=Int.mul_nonneg (by omega) (by omega)
 unfold vCm
 simp only[List.length_replicate]
 rw[if_neg (fun q=>q h),if_neg (fun q=>q (by omega)),if_pos]
 unfold ku
 rw[List.all_eq_true]
 intro x hx
 rw[List.eq_of_mem_replicate hx];decide
def ajf(x y:Ll):Ll:=⟨x.p,x.s,zmx x.r y.r y.r.length⟩
def akd(l:Ll)(k:List Nat):Ll:=⟨l.p,l.s,l.r.set (xQ l.p l.s k).toNat (max (l.r.getD (xQ l.p l.s k).toNat 0) (FD l.p l.s k))⟩
theorem ajX{l:Ll}(h:vLl l=0)(k:List Nat):vLl (akd l k)=0:=by
 obtain⟨h1,h2,h3⟩:=Xt h
 have hr:=wG (lL (jy l.s 256) k) (64-l.p).toNat
 have hg:=KJ h3 (by omega) (xQ l.p l.s k).toNat
 have hr':FD l.p l.s k=qU (lL (jy l.s 256) k) (64-l.p).toNat:=rfl
 have hm:0≤max (l.r.getD (xQ l.p l.s k).toNat 0) (FD l.p l.s k)∧max (l.r.getD (xQ l.p l.s k).toNat 0) (FD l.p l.s k)≤65-l.p:=by
  rw[hr'];omega
 unfold akd
 generalize max (l.r.getD (xQ l.p l.s k).toNat 0) (FD l.p l.s k)=v at *
 generalize (xQ l.p l.s k).toNat=j at *
 clear hr hr' hg
 unfold vLl
 simp only[List.length_set]
 rw[if_neg (fun q=>q h1),if_neg (fun q=>q h2),if_pos (RD h3 _ _ hm)]
theorem akE(x y:Ll)(hx:vLl x=0)(hy:vLl y=0)(ep:y.p=x.p)(es:y.s=x.s)(k:List Nat):ajf x (akd y k)=akd (ajf x y) k:=by
 obtain⟨a1,a2,a3⟩:=Xt hx
 obtain⟨b1,b2,b3⟩:=Xt hy
 have hg:=wH x.p x.s k a1
 have hl:y.r.length=x.r.length:=by rw[a2,b2,ep]
 have hj:(xQ x.p x.s k).toNat<x.r.length:=by
  rw[a2];clear a1 a2 a3 b1 b2 b3 hl;generalize xQ x.p x.s k=q at *;omega
 have hz:=ak4 x.r y.r (xQ x.p x.s k).toNat (FD x.p x.s k) hl hj
 unfold ajf akd
 simp only[Ll.mk.injEq,true_and,List.length_set,ep,es]
 exact hz
theorem alv(x:Ll)(hx:vLl x=0)(p s:Int)(ep:p=x.p):ajf x ⟨p,s,zer (2^p.toNat)⟩=x:=by
 obtain⟨a1,a2,a3⟩:=Xt hx
 subst ep
 have hz:=alQ x.r (2^x.p.toNat) a2.symm (fun i=>(KJ a3 (by omega) i).1)
 unfold ajf
 simp only[List.length_replicate]
 rw[hz]
theorem ajY{p s:Int}(h:2≤p∧p≤8):vLl ⟨p,s,zer (2^p.toNat)⟩=0:=by
 unfold vLl
 simp only[List.length_replicate]
 rw[if_neg (fun q=>q h),if_neg (fun q=>q rfl),if_pos]
 unfold ku
 rw[List.all_eq_true]
 intro x hx
 rw[List.eq_of_mem_replicate hx]
 exact decide_eq_true (by omega)
theorem adb(f:Nat→Int):∀n i,(∀j,i≤j→j<i+n→f j=0)→lT f n i=0
 | 0,_,_=>rfl
 | n+1,i,h=>by
  rw[jV f n i (h i (Nat.le_refl _) (by omega))]
  exact adb f n (i+1) fun j h1 h2=>h j (by omega) (by omega)
theorem akF{L:List En}(hd:L.Pairwise fun a b=>a.1≠b.1)(ho:octE L):(srt bfE L).Pairwise (fun a b=>bfE a b=true)∧(srt bfE L).Pairwise fun a b=>a.1≠b.1:=by
 have hd2:(srt bfE L).Pairwise fun a b=>a.1≠b.1:=(sS bfE L).symm.pairwise hd (fun h=>Ne.symm h)
 have hs:(srt bfE L).Pairwise fun a b=>bfE b a=false:=Pi bfE (fun a b=>bfE b a=false)
  (fun x y h=>by
   cases q:bfE y x
   ·rfl
   ·have:=NH h q
    rw[Pn] at this
    rcases this with h|⟨_,h⟩
    ·omega
    ·exact absurd h (List.lt_irrefl _))
  (fun x y h=>h) (fun x y z h1 h2=>F9 h2 h1) L
 refine⟨?_,hd2⟩
 refine List.Pairwise.imp_of_mem ?_ (List.Pairwise.and hs hd2)
 rintro a b ha hb ⟨h1,h2⟩
 cases q:bfE a b
 ·exact absurd (Po (ho a ((OO _ _ _).1 ha)) (ho b ((OO _ _ _).1 hb)) q h1) h2
 ·rfl
theorem CV{l:List En}{i:Nat}(h:i<l.length):l.getD i eD=l[i]:=by rw[List.getD_eq_getElem?_getD,List.getElem?_eq_getElem h];rfl
theorem ajK{t:Tp}(hz:1≤t.z∧t.z≤32)(ht:0≤t.t∧t.t≤1099511627776)(hl:(t.e.length:Int)≤t.z)(hm:∀y∈t.e,iQ y.1=true∧(1≤y.2.1∧y.2.1≤1099511627776)∧0≤y.2.2∧y.2.2≤y.2.1-1)
  (hd:t.e.Pairwise fun a b=>a.1≠b.1) (hs:t.e.Pairwise fun a b=>bfE a b=true):vTp t=0:=by
 unfold vTp
 rw[if_neg (fun q=>q ⟨hz,ht⟩),if_neg (by omega)]
 refine adb _ _ _ fun j _ hj => ?_
 have hj:j<t.e.length:=by omega
 have h1:=hm _ (List.getElem_mem hj)
 unfold pO
 rw[CV hj,h1.1,if_neg (by decide),if_neg (fun q=>q ⟨h1.2.1,h1.2.2⟩),if_neg,if_neg]
 ·rintro⟨h0,hb⟩
  rw[CV (show j-1<t.e.length by omega)] at hb
  rw[List.pairwise_iff_getElem.1 hs (j-1) j (by omega) hj (by omega)] at hb
  cases hb
 ·intro hc
  obtain⟨z,hz,hk⟩:=O3 hc
  obtain⟨i,hi,rfl⟩:=List.mem_iff_getElem.1 hz
  rw[List.length_take] at hi
  rw[List.getElem_take] at hk
  exact List.pairwise_iff_getElem.1 hd i j (by omega) hj (by omega) hk
theorem ajL{x:Tp}(h:vTp x=0):∀y∈x.e,iQ y.1=true:=fun y hy=>by
 obtain⟨i,hi,rfl⟩:=List.mem_iff_getElem.1 hy
 have:=(su ((kK h).2.2.2 i hi)).1
 rwa [CV hi] at this
theorem ak6{x:Tp}(h:vTp x=0)(ho:octE x.e){k:List Nat}{w:Int}(hk:oct k)(hi:bT k w=0):vTp (oz x k w).1=0:=by
 obtain⟨i1,i2,i3,i4⟩:=kK h
 obtain⟨w1,w2⟩:=fU hi
 have hkk:iQ k=true:=zT ⟨w2.1,w2.2⟩
 have hf:=Zo h k w (by omega)
 have hdis:(kJ x k w).1.Pairwise fun a b=>a.1≠b.1:=by
  rw[←hf];unfold nM;rw[List.pairwise_map];exact abV h k w
 have hoc:octE (kJ x k w).1:=by
  rw[←hf];intro z hz
  obtain⟨y,hy,rfl⟩:=List.mem_map.1 hz
  exact abW ho k hk w y hy
 have hlen:((kJ x k w).1.length:Int)≤x.z:=by
  rw[←hf];unfold nM;rw[List.length_map];exact abU h k w
 have hlea:=aik h
 have hmem:∀y∈(kJ x k w).1,iQ y.1=true∧(1≤y.2.1∧y.2.1≤1099511627776)∧0≤y.2.2∧y.2.2≤y.2.1-1:=by
  intro y hy
  have hx:∀y∈x.e,iQ y.1=true∧(1≤y.2.1∧y.2.1≤1099511627776)∧0≤y.2.2∧y.2.2≤y.2.1-1:=fun y hy=>⟨ajL h y hy,Zd h y hy⟩
  have hla:=acI (fK x) w hlea (by omega)
  have hle:=zg (m:=1099511627776) hlea (show 0≤w by omega)
  have hle2:(aO (fK x) w).1=min (fK x+w) 1099511627776:=by unfold aO;rw[hle]
  unfold kJ at hy
  split at hy
  ·rename_i q
   have hfr:=lQ x.e k
   have hg:=hx _ (nJ x.e (bi x.e k).toNat eD (by omega))
   rcases FY hy with hy|rfl
   ·exact hx y hy
   ·have h1:=acI (x.e.getD (bi x.e k).toNat eD).2.1 w (by omega) (by omega)
    have h2:=pR (x.e.getD (bi x.e k).toNat eD).2.1 w
    exact⟨hg.1,⟨by simp only;omega,h2.2⟩,hg.2.2.1,by simp only;omega⟩
  ·split at hy
   ·rcases List.mem_append.1 hy with hy|hy
    ·exact hx y hy
    ·rw[List.mem_singleton.1 hy]
     exact⟨hkk,⟨by simp only;omega,by simp only;omega⟩,by simp only;omega,by simp only;omega⟩
   ·rcases FY hy with hy|rfl
    ·exact hx y hy
    ·exact⟨hkk,⟨by simp only;omega,by simp only;omega⟩,by simp only;omega,by simp only;omega⟩
 have hsb:=akF hdis hoc
 unfold oz
 rw[if_neg (by omega),if_neg (by omega)]
 exact ajK i1 (pR _ _) (by simp only[wI];exact hlen) (fun y hy=>hmem y ((OO _ _ _).1 hy)) hsb.2 hsb.1
theorem ak7{x y:Tp}(hx:vTp x=0)(hy:vTp y=0)(hz:x.z=y.z)(ox:octE x.e)(oy:octE y.e):vTp (sZ x y).1=0:=by
 obtain⟨i1,i2,i3,i4⟩:=kK hx
 have hdis:(nM (tJ x y (tu x y y.e.length))).Pairwise fun a b=>a.1≠b.1:=by
  unfold nM;rw[List.pairwise_map];exact aip hx hy _
 have hoc:octE (nM (tJ x y (tu x y y.e.length))):=fun z hz=>by
  obtain⟨u,hu,rfl⟩:=List.mem_map.1 hz
  exact air ox oy _ u hu
 have hsb:=akF hdis hoc
 have hmem:∀z∈nM (tJ x y (tu x y y.e.length)),iQ z.1=true∧(1≤z.2.1∧z.2.1≤1099511627776)∧0≤z.2.2∧z.2.2≤z.2.1-1:=by
  intro z hz
  rw[←agw] at hz
  obtain⟨u,hu,rfl⟩:=List.mem_map.1 hz
  have hkey:iQ u.1=true∧(0≤bi x.e u.1∨0≤bi y.e u.1):=by
   unfold tu at hu
   rcases List.mem_append.1 hu with hu|hu
   ·exact⟨ajL hx u hu,.inl (agt hu rfl)⟩
   ·have hu:=List.mem_of_mem_take (List.mem_filter.1 hu).1
    exact⟨ajL hy u hu,.inr (agt hu rfl)⟩
  have f1:=ail hx u.1
  have f2:=ail hy u.1
  have pos:∀{t:Tp},vTp t=0→0≤bi t.e u.1→1≤(lZ t u.1).1.2.1:=fun {t} ht hf=>by
   have hfr:=lQ t.e u.1
   have hg:=(Zd ht _ (nJ t.e (bi t.e u.1).toNat eD (by omega))).1.1
   unfold lZ
   split
   ·omega
   ·exact hg
  have c1:=zg (m:=1099511627776) f1.1 f2.1.1
  have c2:=zg (m:=1099511627776) f1.2 f2.2.1
  have e1:(aO (lZ x u.1).1.2.1 (lZ y u.1).1.2.1).1=min ((lZ x u.1).1.2.1+(lZ y u.1).1.2.1) 1099511627776:=by unfold aO;rw[c1]
  have e2:(aO (lZ x u.1).1.2.2 (lZ y u.1).1.2.2).1=min ((lZ x u.1).1.2.2+(lZ y u.1).1.2.2) 1099511627776:=by unfold aO;rw[c2]
  have hp:1≤(lZ x u.1).1.2.1+(lZ y u.1).1.2.1:=by
   rcases hkey.2 with h|h
   ·have:=pos hx h;omega
   ·have:=pos hy h;omega
  refine⟨hkey.1, ?_⟩
  unfold fpE wV SC
  simp only
  rw[e1,e2]
  omega
 have hm:sZ x y=(⟨x.z,(aO x.t y.t).1,(srt bfE (nM (tJ x y (tu x y y.e.length)))).take x.z.toNat,x.b||y.b||(aO x.t y.t).2||yw x y (tu x y y.e.length)⟩,0):=by
  unfold sZ;rw[if_neg (by omega),if_neg (by omega),if_neg (fun h=>h hz)]
 rw[hm]
 exact ajK i1 (pR _ _) (by simp only[List.length_take];omega) (fun z hz=>hmem z ((OO _ _ _).1 (List.mem_of_mem_take hz))) (hsb.2.sublist (List.take_sublist _ _)) (hsb.1.sublist (List.take_sublist _ _))
theorem Zm{x:En}{l:List En}(hx:oct x.1)(ho:octE l)(hs:kS l)(hn:∀y∈l,y.1≠x.1):kS (tH x l):=by
 induction l with
 | nil=>exact List.pairwise_singleton _ _
 | cons y l ih =>
  have hs':=List.pairwise_cons.1 hs
  rw[xR]
  split
  ·rename_i q
   refine List.pairwise_cons.2 ⟨fun z hz => ?_,hs⟩
   rcases List.mem_cons.1 hz with rfl|hz
   ·exact q
   ·exact agY q (hs'.1 z hz)
  ·rename_i q
   have q2:kl y.1 x.1=true:=by
    rw[adc (ho y (List.mem_cons_self ..)) hx (hn y (List.mem_cons_self ..)),Bool.eq_false_iff.2 q];rfl
   refine List.pairwise_cons.2 ⟨fun z hz => ?_,ih (fun z hz=>ho z (List.mem_cons_of_mem _ hz)) hs'.2 (fun z hz=>hn z (List.mem_cons_of_mem _ hz))⟩
   rcases (Xz x z l).1 hz with rfl|hz
   ·exact q2
   ·exact hs'.1 z hz
theorem ajg{t:Fq}(hz:1≤t.z∧t.z≤32)(ht:0≤t.t∧t.t≤1099511627776)(hl:0≤t.l∧t.l≤1099511627776)(hn:(t.e.length:Int)≤t.z)
  (hm:∀y∈t.e,iQ y.1=true∧(1≤y.2.1∧y.2.1≤1099511627776)∧y.2.2=0) (hs:kS t.e):vFq t=0:=by
 unfold vFq
 rw[if_neg (fun q=>q ⟨hz,ht,hl⟩),if_neg (by omega)]
 refine adb _ _ _ fun j _ hj => ?_
 have hj:j<t.e.length:=by omega
 have h1:=hm _ (List.getElem_mem hj)
 unfold oC
 rw[CV hj,h1.1,if_neg (by decide),if_neg (fun q=>q h1.2),if_neg]
 rintro⟨h0,hb⟩
 rw[CV (show j-1<t.e.length by omega)] at hb
 have h2:kl (t.e[j-1]).1 (t.e[j]).1=true:=List.pairwise_iff_getElem.1 hs (j-1) j (by omega) hj (by omega)
 unfold leK at hb
 rw[Bool.or_eq_true,decide_eq_true_eq] at hb
 rcases hb with hb|hb
 ·rw[ai1 h2] at hb;cases hb
 ·rw[hb,afq] at h2;cases h2
theorem ajh{x:Fq}(h:vFq x=0):∀y∈x.e,iQ y.1=true:=fun y hy=>by
 obtain⟨i,hi,rfl⟩:=List.mem_iff_getElem.1 hy
 have:=(sF ((jW h).2.2.2.2 i hi)).1
 rwa [CV hi] at this
theorem alx{l:List En}(hs:kS l)(i:Nat)(c e:Int):kS (l.set i ((l.getD i eD).1,c,e)):=by
 rcases Nat.lt_or_ge i l.length with hi|hi
 ·have e1:(l.set i ((l.getD i eD).1,c,e)).map (·.1)=l.map (·.1):=by
   rw[List.map_set,CV hi]
   have:l[i].1=(l.map (·.1))[i]'(by simpa using hi):=by simp
   show (l.map (·.1)).set i l[i].1=_
   rw[this,List.set_getElem_self]
  have h1:(l.map (·.1)).Pairwise fun a b=>kl a b=true:=List.pairwise_map.2 hs
  rw[←e1] at h1
  exact List.pairwise_map.1 h1
 ·rw[List.set_eq_of_length_le hi];exact hs
theorem akG(w:Int)(l:List En):dJ w l=w∨∃y∈l,y.2.1=dJ w l:=by
 induction l generalizing w with
 | nil=>exact .inl rfl
 | cons x l ih =>
  have e:dJ w (x::l)=dJ (min w x.2.1) l:=rfl
  rw[e]
  rcases ih (min w x.2.1) with h|⟨y,hy,h⟩
  ·rw[h]
   rcases Int.le_total w x.2.1 with q|q
   ·exact .inl (Int.min_eq_left q)
   ·exact .inr ⟨x,List.mem_cons_self ..,(Int.min_eq_right q).symm⟩
  ·exact .inr ⟨y,List.mem_cons_of_mem _ hy,h⟩
theorem XT(d:Int):∀(l:List En),∀z∈iU d l,∃y∈l,y.1=z.1∧y.2.1 > d∧z.2=(y.2.1-d,0)
 | [],z,h=>by simp [iU] at h
 | y::l,z,h=>by
  rw[pU] at h
  split at h
  ·rename_i q
   rcases List.mem_cons.1 h with rfl|h
   ·exact⟨y,List.mem_cons_self ..,rfl,q,rfl⟩
   ·obtain⟨u,hu,he⟩:=XT d l z h
    exact⟨u,List.mem_cons_of_mem _ hu,he⟩
  ·obtain⟨u,hu,he⟩:=XT d l z h
   exact⟨u,List.mem_cons_of_mem _ hu,he⟩
theorem XZ(d:Int):∀(l:List En),(iU d l).length=l.countP fun y=>decide (y.2.1 > d)
 | []=>rfl
 | y::l=>by
  rw[pU,List.countP_cons]
  split
  ·rename_i q
   rw[List.length_cons,XZ d l,if_pos (decide_eq_true q)]
  ·rename_i q
   rw[XZ d l,if_neg (by simpa using q)];rfl
theorem ak8{d:Int}{l:List En}(h:∃y∈l,y.2.1≤d):(iU d l).length<l.length:=by
 rw[XZ]
 obtain⟨y,hy,hd⟩:=h
 refine Nat.lt_of_le_of_ne List.countP_le_length fun he => ?_
 have:=List.countP_eq_length.1 he y hy
 simp only[decide_eq_true_eq] at this
 omega
theorem ak9{x:Fq}(h:vFq x=0)(ho:octE x.e){k:List Nat}{w:Int}(hk:oct k)(hi:bT k w=0):vFq (lU x k w).1=0∧(lU x k w).2=0:=by
 obtain⟨i1,i2,i3,i4,i5⟩:=jW h
 obtain⟨w1,w2⟩:=fU hi
 have hkk:iQ k=true:=zT ⟨w2.1,w2.2⟩
 have hs:=mV ho h
 have hx:∀y∈x.e,iQ y.1=true∧(1≤y.2.1∧y.2.1≤1099511627776)∧y.2.2=0:=fun y hy=>⟨ajh h y hy,uZ h y hy⟩
 unfold lU
 rw[if_neg (by omega),if_neg (by omega)]
 refine⟨?_,rfl⟩
 have key:(0≤(dQ x k w).2.1∧(dQ x k w).2.1≤1099511627776)∧((dQ x k w).1.length:Int)≤x.z∧(∀y∈(dQ x k w).1,iQ y.1=true∧(1≤y.2.1∧y.2.1≤1099511627776)∧y.2.2=0)∧kS (dQ x k w).1:=by
  unfold dQ
  split
  ·rename_i q
   have hfr:=lQ x.e k
   have hg:=hx _ (nJ x.e (bi x.e k).toNat eD (by omega))
   refine⟨i3,by simp only[List.length_set];exact i4,fun y hy => ?_,alx hs _ _ _⟩
   rcases FY hy with hy|rfl
   ·exact hx y hy
   ·have h1:=acI (x.e.getD (bi x.e k).toNat eD).2.1 w (by omega) (by omega)
    have h2:=pR (x.e.getD (bi x.e k).toNat eD).2.1 w
    exact⟨hg.1,⟨by simp only;omega,h2.2⟩,hg.2.2⟩
  ·rename_i q
   have hno:∀y∈x.e,y.1≠k:=fun y hy he=>q (agt hy he)
   split
   ·rename_i q2
    refine⟨i3,by simp only[Jj];omega,fun y hy => ?_,Zm hk ho hs hno⟩
    rcases (Xz _ y _).1 hy with rfl|hy
    ·exact⟨hkk,⟨by simp only;omega,by simp only;omega⟩,rfl⟩
    ·exact hx y hy
   ·rename_i q2
    have hm1:=zX x.e w
    have hm2:=zY x.e (MX i5) w (by omega)
    have hlo:=JR (dJ w x.e) ho
    have hls:=zn (dJ w x.e) x.e hs
    have hln:=ajR (dJ w x.e) x.e k q
    have hll:=BF (dJ w x.e) x.e
    have hlm:∀y∈iU (dJ w x.e) x.e,iQ y.1=true∧(1≤y.2.1∧y.2.1≤1099511627776)∧y.2.2=0:=fun y hy=>by
     obtain⟨u,hu,e1,e2,e3⟩:=XT _ _ y hy
     have:=hx u hu
     rw[←e1,e3]
     exact⟨this.1,⟨by simp only;omega,by simp only;omega⟩,rfl⟩
    refine⟨pR _ _, ?_, ?_, ?_⟩
    ·simp only
     split
     ·rename_i q3
      have:=ak8 (d:=dJ w x.e) (l:=x.e) (by
       rcases akG w x.e with h|⟨y,hy,h⟩
       ·omega
       ·exact⟨y,hy,by omega⟩)
      rw[Jj];omega
     ·omega
    ·simp only
     split
     ·rename_i q3
      intro y hy
      rcases (Xz _ y _).1 hy with rfl|hy
      ·exact⟨hkk,⟨by simp only;omega,by simp only;omega⟩,rfl⟩
      ·exact hlm y hy
     ·exact hlm
    ·simp only
     split
     ·exact Zm hk hlo hls hln
     ·exact hls
 exact ajg i1 (pR _ _) key.1 key.2.1 key.2.2.1 key.2.2.2
theorem akH:∀(b a:List En) (s:Bool),kS a→octE a→octE b→kS (fld a s b).1
 | [],a,s,h,_,_=>h
 | y::b,a,s,h,ha,hb=>by
  rw[Ak]
  exact akH b _ _ (agP h ha (hb y (List.mem_cons_self ..))) (aig ha (hb y (List.mem_cons_self ..))) (fun z hz=>hb z (List.mem_cons_of_mem _ hz))
theorem aly{x y:Fq}(hx:vFq x=0)(hy:vFq y=0)(ox:octE x.e)(oy:octE y.e):kS (jnF x y):=by
 have h1:=XX (x.e.length+y.e.length) x.e y.e false (Nat.le_refl _) (mV ox hx) (mV oy hy) ox oy (fun z hz=>(uZ hx z hz).2)
 have h2:=akH y.e x.e false (mV ox hx) ox oy
 rw[h1] at h2
 exact h2
theorem ala{L:List En}{z:Nat}(hz:z<L.length):(iU ((srt bfE L).getD z eD).2.1 L).length≤z:=by
 rw[XZ,←(sS bfE L).countP_eq]
 have hl:=wI bfE L
 have hps:(srt bfE L).Pairwise fun p q=>q.2.1≤p.2.1:=Pi bfE (fun a b=>b.2.1≤a.2.1) (fun x y h=>by
  rcases (Pn x y).1 h with h|⟨h,_⟩<;>omega) (fun x y h=>by
  have:=(NG x y).1 h
  exact Classical.byContradiction fun k=>this (.inl (by omega))) (fun x y z h1 h2=>by omega) L
 generalize srt bfE L=S at *
 rw[CV (show z<S.length by omega)]
 conv=>lhs;arg 2;rw[←List.take_append_drop z S]
 rw[List.countP_append]
 have h1:(S.drop z).countP (fun y=>decide (y.2.1 > (S[z]'(by omega)).2.1))=0:=by
  rw[List.countP_eq_zero]
  intro y hy
  obtain⟨i,hi,rfl⟩:=List.mem_iff_getElem.1 hy
  rw[List.length_drop] at hi
  rw[List.getElem_drop]
  simp only[decide_eq_true_eq]
  rcases Nat.eq_zero_or_pos i with h0|h0
  ·subst h0;simp
  ·have:=List.pairwise_iff_getElem.1 hps z (z+i) (by omega) (by omega) (by omega)
   omega
 have h2:=List.countP_le_length (p:=fun y:En=>decide (y.2.1 > (S[z]'(by omega)).2.1)) (l:=S.take z)
 rw[List.length_take] at h2
 omega
theorem alb{x y:Fq}(hx:vFq x=0)(hy:vFq y=0)(hz:x.z=y.z)(ox:octE x.e)(oy:octE y.e):vFq (qF x y).1=0:=by
 obtain⟨i1,i2,i3,i4,i5⟩:=jW hx
 have hs:=aly hx hy ox oy
 have hm:∀z∈jnF x y,iQ z.1=true∧(1≤z.2.1∧z.2.1≤1099511627776)∧z.2.2=0:=fun z hz=>by
  have hk:iQ z.1=true:=NT (P:=fun z=>iQ z.1=true) _ _ _ (ajh hx) (ajh hy) (fun u hu v hv=>ajh hx u hu) z hz
  exact⟨hk,XY hx hy z hz⟩
 unfold qF
 rw[if_neg (by omega),if_neg (by omega),if_neg (fun h=>h hz)]
 split
 ·rename_i q
  have hlen:x.z.toNat<(jnF x y).length:=by omega
  have hc:=hm _ ((OO bfE _ _).1 (nJ (srt bfE (jnF x y)) x.z.toNat eD (by rw[wI];exact hlen)))
  have hl:=ala hlen
  refine ajg i1 (pR _ _) (pR _ _) (by simp only[DD];omega) (fun z hz => ?_) (zn _ _ hs)
  obtain⟨u,hu,e1,e2,e3⟩:=XT _ _ z hz
  have:=hm u hu
  have hc':1≤DD x y:=hc.2.1.1
  rw[←e1,e3]
  exact⟨this.1,⟨by simp only;omega,by simp only;omega⟩,rfl⟩
 ·exact ajg i1 (pR _ _) (pR _ _) (by simp only;omega) hm hs
abbrev VLs:=List (List (List Nat))
theorem ajM{v:VLs}{i:Nat}(h:v.length≤i):v.getD i []=[]:=by rw[List.getD,List.getElem?_eq_none h];rfl
theorem NU{u v:VLs}:∀{n:Nat},(∀i,i<n→(u.getD i []).length=(v.getD i []).length)→unR u n=unR v n
 | 0,_=>rfl
 | n+1,h=>by
  show unR u n+_=unR v n+_
  rw[NU (fun i hi=>h i (by omega)),h n (by omega)]
theorem ajZ{u v:VLs}{p d:Nat}(h1:∀i,i≠p→(u.getD i []).length=(v.getD i []).length)(h2:(u.getD p []).length=(v.getD p []).length+d):∀n,p<n→unR u n=unR v n+(d:Int)*2^p
 | 0,h=>by omega
 | n+1,h=>by
  show unR u n+_=unR v n+_+_
  by_cases hp:p=n
  ·subst hp
   rw[NU (fun i hi=>h1 i (by omega)),h2,Int.natCast_add,Int.add_mul,←Int.add_assoc]
  ·rw[ajZ h1 h2 n (by omega),h1 n (fun h=>hp h.symm)];omega
theorem X0{v:VLs}{n:Nat}(h:v.length≤n):unR v n=unR v v.length:=by
 induction n with
 | zero=>rw[show v.length=0 by omega]
 | succ n ih =>
  rcases Nat.lt_or_ge n v.length with hn|hn
  ·have:v.length=n+1:=by omega
   rw[this]
  ·show unR v n+_=_
   rw[ih hn,ajM hn];simp
theorem aji(v:VLs):∀n,0≤unR v n
 | 0=>Int.le_refl _
 | n+1=>by
  have:=aji v n
  have h2:(0:Int)≤((v.getD n []).length:Int)*2^n:=Int.mul_nonneg (Int.natCast_nonneg _) (Int.pow_nonneg (by decide))
  show 0≤unR v n+_
  omega
def pw2(ps:List Int):Nat→Int
 | 0=>0
 | i+1=>pw2 ps i+2^(ps.getD i 0).toNat
theorem aj0(l:List Int)(x:Int):∀i,i≤l.length→pw2 (l++[x]) i=pw2 l i
 | 0,_=>rfl
 | i+1,h=>by
  show pw2 _ i+_=pw2 _ i+_
  rw[aj0 l x i (by omega),List.getD_eq_getElem?_getD,List.getElem?_append_left (by omega),←List.getD_eq_getElem?_getD]
theorem akI(l:List Int)(x:Int):pw2 (l++[x]) (l++[x]).length=pw2 l l.length+2^x.toNat:=by
 rw[List.length_append]
 show pw2 (l++[x]) (l.length)+_=_
 rw[aj0 l x _ (Nat.le_refl _)]
 simp
theorem akJ(n i:Nat)(hi:i≤63):Jc (n:Int) i=decide (n / 2^i%2=1):=by
 unfold Jc
 have e:min i IntKind.i64.bits=i:=Nat.min_eq_left (show i≤64 by omega)
 rw[agm,e,Int.fdiv_eq_ediv_of_nonneg _ (Int.pow_nonneg (by decide))]
 have e2:((n:Int) / 2^i)%2=((n / 2^i%2:Nat):Int):=by norm_cast
 rw[e2,Bool.eq_iff_iff]
 simp only[beq_iff_eq,decide_eq_true_eq]
 omega
theorem aj1(n:Nat):∀m,m≤64→pw2 (gY n m) (gY n m).length=((n%2^m:Nat):Int)
 | 0,_=>by
  have:n%2^0=0:=by simp [Nat.mod_one]
  rw[this];rfl
 | m+1,h=>by
  have ih:=aj1 n m (by omega)
  have hp:=akJ n m (by omega)
  have hs:n%2^(m+1)=n%2^m+2^m*(n / 2^m%2):=Nat.mod_pow_succ
  have hb:n / 2^m%2<2:=Nat.mod_lt _ (by decide)
  by_cases q:n / 2^m%2=1
  ·rw[←Xl n m (by rw[hp];exact decide_eq_true q),akI,ih,hs,q,Nat.mul_one,Int.natCast_add]
   norm_cast
  ·rw[←MR n m (by rw[hp];exact decide_eq_false q),ih,hs,show n / 2^m%2=0 by omega,Nat.mul_zero,Nat.add_zero]
theorem alc(k:List Nat)(v:VLs)(p n:Nat)(h:p<n):unR (Dp k v p) n=unR v n+2^p:=by
 have hl:=xW v (p+1)
 have:=ajZ (u:=Dp k v p) (v:=v) (p:=p) (d:=1) (fun i hi=>by unfold Dp;rw[yg _ _ _ _ (by omega),if_neg hi,xX]) (by unfold Dp;rw[yg _ _ _ _ (by omega),if_pos rfl];simp) n h
 rw[this];simp
theorem ajv(k:List Nat)(ps:List Int)(v:VLs)(n:Nat)(h:∀i,(ps.getD i 0).toNat<n):∀i,unR (jL k ps v i) n=unR v n+pw2 ps i
 | 0=>by simp [jL,pw2]
 | i+1=>by
  show unR (Dp k (jL k ps v i) (ps.getD i 0).toNat) n=unR v n+(pw2 ps i+_)
  rw[alc _ _ _ _ (h i),ajv k ps v n h i,Int.add_assoc]
theorem ajw(v u:VLs):∀n i,unR (mF v u i) n=unR v n+unR u (min n i)
 | 0,i=>by rw[Nat.zero_min];rfl
 | n+1,i=>by
  show unR (mF v u i) n+_=unR v n+_+_
  rw[ajw v u n i,GI]
  split
  ·rename_i h
   rw[show min (n+1) i=n+1 by omega,show min n i=n by omega,List.length_append,Int.natCast_add,Int.add_mul]
   show _=_+(unR u n+_)
   omega
  ·rename_i h
   rw[show min (n+1) i=i by omega,show min n i=i by omega,List.append_nil]
   omega
def keyL(l:List (List Nat)):Prop:=∀k∈l,iQ k=true
abbrev leL(l:List (List Nat)):Prop:=l.Pairwise fun a b=>kl b a=false
theorem alz(l:List (List Nat)):leL (srt kl l):=Pi kl (fun a b=>kl b a=false) (fun x y h=>ai1 h) (fun x y h=>h) (fun x y z h1 h2=>by
 rw[Cb,decide_eq_false_iff_not] at *
 exact fun h3=>absurd h3 (List.not_lt.2 (List.le_trans (List.not_lt.1 h1) (List.not_lt.1 h2)))) l
theorem ajx(o:VLs)(c:List (List Nat)):unR (o++[c]) (o.length+1)=unR o o.length+(c.length:Int)*2^o.length:=by
 show unR (o++[c]) o.length+_=_
 rw[NU (v:=o) (fun i hi=>by rw[List.getD_eq_getElem?_getD,List.getElem?_append_left hi,←List.getD_eq_getElem?_getD])]
 simp
structure StI (v:VLs) (z:Int) (s:Stl):Prop where
 len:s.2.2.2.2.length=s.1
 un:unR s.2.2.2.2 s.1+(s.2.1.length:Int)*2^s.1=unR v s.1
 ca:keyL s.2.1
 lv:∀l∈s.2.2.2.2,(l.length:Int)<z∧leL l∧keyL l
 lo:0≤s.2.2.1∧s.2.2.1≤1099511627776
theorem MF{v:VLs}(h:∀l∈v,keyL l)(i:Nat):keyL (v.getD i []):=by
 rcases Nat.lt_or_ge i v.length with hi|hi
 ·exact h _ (nJ _ _ _ hi)
 ·rw[ajM hi];intro k hk;cases hk
theorem StI.step{v:VLs}{z:Int}{co:List Nat}{s:Stl}(hz:2≤z)(hv:∀l∈v,keyL l)(h:StI v z s):StI v z (iH v z co s):=by
 have hl:=uS v s
 have hg:(if s.1<v.length then (v.getD s.1 []).length else 0)=(v.getD s.1 []).length:=by
  split
  ·rfl
  ·rw[ajM (by omega)];rfl
 rw[hg] at hl
 have hk:keyL (dR v s):=by
  intro k hk
  unfold dR at hk
  have hk:=(OO _ _ _).1 hk
  split at hk
  ·rcases List.mem_append.1 hk with hk|hk
   ·exact MF hv _ k hk
   ·exact h.ca k hk
  ·exact h.ca k hk
 have hs:leL (dR v s):=by unfold dR;exact alz _
 have hun:=h.un
 have hlen:=h.len
 have hvn:unR v (s.1+1)=unR v s.1+((v.getD s.1 []).length:Int)*2^s.1:=rfl
 have hb:=zZ co s.2.2.2.1
 unfold iH
 split
 ·rename_i q
  refine⟨by simp [hlen], ?_,(fun k hk=>by cases hk),fun l hl' => ?_,h.lo⟩
  ·show unR (s.2.2.2.2++[dR v s]) (s.1+1)+(([]:List (List Nat)).length:Int)*2^(s.1+1)=unR v (s.1+1)
   rw[hvn,←hun,←hlen,ajx,hl,hlen]
   simp only[List.length_nil,Int.natCast_add,Int.add_mul,Int.natCast_zero,Int.zero_mul]
   omega
  ·rcases List.mem_append.1 hl' with h'|h'
   ·exact h.lv l h'
   ·rw[List.mem_singleton.1 h'];exact⟨q,hs,hk⟩
 ·rename_i q
  have hcn:(dR v s).length=2*((dR v s).length / 2)+(dR v s).length%2:=by omega
  have hdl:((dR v s).drop ((dR v s).length / 2*2)).length=(dR v s).length%2:=by rw[List.length_drop];omega
  refine⟨by simp [hlen], ?_,fun k hk' => ?_,fun l hl' => ?_,pR _ _⟩
  ·show unR (s.2.2.2.2++[(dR v s).drop ((dR v s).length / 2*2)]) (s.1+1)+((evN (dR v s) (wC co s.2.2.2.1).toNat ((dR v s).length / 2)).length:Int)*2^(s.1+1)=unR v (s.1+1)
   rw[hvn,←hun,←hlen,ajx,mD,hdl,hlen]
   have e1:((v.getD s.1 []).length:Int)*2^s.1+(s.2.1.length:Int)*2^s.1=((dR v s).length:Int)*2^s.1:=by rw[hl,Int.natCast_add,Int.add_mul]
   have e2:((dR v s).length:Int)*2^s.1=(((dR v s).length / 2:Nat):Int)*(2^s.1*2)+(((dR v s).length%2:Nat):Int)*2^s.1:=by
    conv=>lhs;rw[hcn]
    rw[Int.natCast_add,Int.add_mul,Int.natCast_mul,Int.mul_comm (2^s.1) 2,←Int.mul_assoc,Int.mul_comm ((2:Nat):Int) _]
    rfl
   rw[Int.pow_succ]
   omega
  ·unfold evN at hk'
   obtain⟨j,hj,rfl⟩:=List.mem_map.1 hk'
   have hj:=List.mem_range.1 hj
   exact hk _ (nJ _ _ _ (by omega))
  ·rcases List.mem_append.1 hl' with h'|h'
   ·exact h.lv l h'
   ·rw[List.mem_singleton.1 h']
    exact⟨by rw[hdl];omega,hs.sublist (List.drop_sublist _ _),fun k hk'=>hk k (List.mem_of_mem_drop hk')⟩
theorem StI.go{v:VLs}{z:Int}{co:List Nat}(hz:2≤z)(hv:∀l∈v,keyL l):∀(f:Nat) (s:Stl),StI v z s→StI v z (kY v z co f s)
 | 0,s,h=>h
 | f+1,s,h=>by
  unfold kY
  split
  ·exact StI.go hz hv f _ (h.step hz hv)
  ·exact h
theorem aj2{v:VLs}{z:Int}{co:List Nat}{M:Nat}(hz:2≤z)(hM:∀i,(v.getD i []).length≤M):∀(f:Nat) (s:Stl),oH v M s≤f→s.2.1.length≤M→v.length≤(kY v z co f s).1∧(kY v z co f s).2.1.length=0
 | 0,s,h,_=>by
  show v.length≤s.1∧s.2.1.length=0
  unfold oH at h
  rcases Nat.lt_or_ge s.1 v.length with hlt|hge
  ·have:M+1≤(v.length-s.1)*(M+1):=Nat.le_mul_of_pos_left _ (by omega)
   omega
  ·exact⟨hge,by omega⟩
 | f+1,s,h,hc=>by
  unfold kY
  split
  ·rename_i q
   obtain⟨h1,h2⟩:=XF v z hz co M hM s hc q
   exact aj2 hz hM f _ (by omega) h1
  ·rename_i q
   exact⟨by omega,by omega⟩
theorem akK{v:VLs}{z:Int}{co:List Nat}:∀(f:Nat) (s:Stl),s.2.2.2.1≤(kY v z co f s).2.2.2.1∧(kY v z co f s).2.2.2.1≤s.2.2.2.1+f
 | 0,s=>⟨Int.le_refl _,by show s.2.2.2.1≤_;omega⟩
 | f+1,s=>by
  unfold kY
  split
  ·have:=akK (v:=v) (z:=z) (co:=co) f (iH v z co s)
   have h1:s.2.2.2.1≤(iH v z co s).2.2.2.1∧(iH v z co s).2.2.2.1≤s.2.2.2.1+1:=by
    unfold iH
    split
    ·exact⟨Int.le_refl _,by simp only;omega⟩
    ·exact⟨by simp only;omega,Int.le_refl _⟩
   omega
  ·omega
theorem ajy:∀(f:Nat) (l:VLs),l.length≤f→(0<(jb f l).length→0<((jb f l).getD ((jb f l).length-1) []).length)∧unR (jb f l) (jb f l).length=unR l l.length
 | 0,l,h=>⟨fun h2=>by
  have:(jb 0 l).length=l.length:=rfl
  omega,rfl⟩
 | f+1,l,h=>by
  unfold jb
  split
  ·rename_i q
   obtain⟨q1,q2⟩:=q
   obtain⟨n,hn⟩:∃n,l.length=n+1:=⟨l.length-1,by omega⟩
   have hl:(l.take (l.length-1)).length=n:=by rw[List.length_take];omega
   obtain⟨h1,h2⟩:=ajy f (l.take (l.length-1)) (by omega)
   refine⟨h1,h2.trans ?_⟩
   rw[hl,hn]
   show _=unR l n+_
   rw[hn,Nat.add_sub_cancel] at q2
   rw[q2,NU (v:=l) (fun i hi=>by rw[List.getD_eq_getElem?_getD,List.getElem?_take,if_pos (by omega),←List.getD_eq_getElem?_getD])]
   simp
  ·rename_i q
   exact⟨fun h2=>by omega,rfl⟩
theorem akL{x:Rk}(hz:(2≤x.z∧x.z≤32)∧x.z%2=0)(ht:0≤x.t∧x.t≤1099511627776)(hl:0≤x.l∧x.l≤1099511627776)(hv:∀l∈x.v,(l.length:Int)<x.z∧leL l∧keyL l)
  (he:0<x.v.length→0<(x.v.getD (x.v.length-1) []).length) (hu:unR x.v x.v.length=x.t):vRk x=0:=by
 have hlen:x.v.length≤41:=by
  rcases Nat.lt_or_ge x.v.length 42 with h|h
  ·omega
  ·exfalso
   have he:=he (by omega)
   obtain⟨n,hn⟩:∃n,x.v.length=n+1:=⟨x.v.length-1,by omega⟩
   rw[hn,Nat.add_sub_cancel] at he
   have h1:unR x.v (n+1)=unR x.v n+((x.v.getD n []).length:Int)*2^n:=rfl
   have h2:=aji x.v n
   have h3:2^41≤2^n:=Nat.pow_le_pow_right (by decide) (by omega)
   have h4:1*2^n≤(x.v.getD n []).length*2^n:=Nat.mul_le_mul_right _ he
   have h5:(((x.v.getD n []).length*2^n:Nat):Int)=((x.v.getD n []).length:Int)*2^n:=by simp
   rw[←h5] at h1
   rw[hn] at hu
   generalize (x.v.getD n []).length*2^n=a at *
   omega
 have hlv:∀i,i<x.v.length→nI x.z x.v i=0:=fun i hi=>by
  obtain⟨h1,h2,h3⟩:=hv _ (nJ x.v i [] hi)
  unfold nI
  rw[if_neg (by omega)]
  generalize x.v.getD i []=l at *
  refine adb _ _ _ fun j _ hj => ?_
  have hj:j<l.length:=by omega
  have e:∀m (hm:m<l.length),l.getD m []=l[m]:=fun m hm=>by rw[List.getD_eq_getElem?_getD,List.getElem?_eq_getElem hm];rfl
  unfold wK
  rw[e j hj,h3 _ (List.getElem_mem hj),if_neg (by decide),if_neg]
  rintro⟨h0,hb⟩
  rw[e (j-1) (by omega)] at hb
  have h4:kl l[j] l[j-1]=false:=List.pairwise_iff_getElem.1 h2 (j-1) j (by omega) hj (by omega)
  rw[h4] at hb;cases hb
 have h0:lT (nI x.z x.v) x.v.length 0=0:=adb _ _ _ fun j _ hj=>hlv j (by omega)
 unfold vRk
 rw[if_neg (fun q=>q ⟨hz,ht,hl⟩),if_neg (by omega),if_neg (fun q=>q h0)]
 unfold Jl
 rw[if_neg (by rintro⟨a,b⟩;have:=he a;omega),if_neg (fun q=>q hu)]
theorem aiN{v:VLs}{z lo at':Int}{co:List Nat}{b:Bool}(hz:(2≤z∧z≤32)∧z%2=0)(hv:∀l∈v,keyL l)(hM:∀i,(v.getD i []).length≤100)(hlo:0≤lo∧lo≤1099511627776)(hu:unR v v.length≤1099511627776) :
  vRk ⟨z,unR v v.length,(jh v z lo co at' 100).2.2.1,jb (jh v z lo co at' 100).2.2.2.2.length (jh v z lo co at' 100).2.2.2.2,b⟩=0∧at'≤(jh v z lo co at' 100).2.2.2.1∧(jh v z lo co at' 100).2.2.2.1≤at'+v.length*101:=by
 have hI:StI v z (jh v z lo co at' 100):=StI.go hz.1.1 hv _ _ ⟨rfl,by simp [unR],(fun k hk=>by cases hk),(fun l hl=>by cases hl),hlo⟩
 have hE:v.length≤(jh v z lo co at' 100).1∧(jh v z lo co at' 100).2.1.length=0:=aj2 hz.1.1 hM _ _ (by simp [oH]) (Nat.zero_le _)
 have hA:=akK (v:=v) (z:=z) (co:=co) (v.length*(100+1)) (0,[],lo,at',[])
 refine⟨?_,hA.1, ?_⟩
 ·generalize jh v z lo co at' 100=R at *
  obtain⟨t1,t2⟩:=ajy R.2.2.2.2.length R.2.2.2.2 (Nat.le_refl _)
  obtain⟨s1,s2⟩:=TG R.2.2.2.2.length R.2.2.2.2
  have hun:=hI.un
  rw[hE.2,X0 hE.1,←hI.len] at hun
  refine akL hz ⟨aji _ _,hu⟩ hI.lo (fun l hl=>hI.lv l (s1 l hl)) t1 ?_
  show unR (jb _ _) _=_
  rw[t2,←hun]
  simp
 ·have:(jh v z lo co at' 100).2.2.2.1≤at'+((v.length*(100+1):Nat):Int):=hA.2
  omega
theorem ajj{x:Rk}(h:vRk x=0):(∀l∈x.v,keyL l)∧unR x.v x.v.length=x.t:=by
 have hin:=Na h
 unfold vRk at h
 split at h
 ·cases h
 ·split at h
  ·cases h
  ·split at h
   ·rename_i h3;exact absurd h h3
   ·rename_i h3
    have h3:=Classical.byContradiction h3
    refine⟨fun l hl k hk => ?_, ?_⟩
    ·obtain⟨i,hi,rfl⟩:=List.mem_iff_getElem.1 hl
     have h4:=MW _ _ _ h3 i (Nat.zero_le _) (by omega)
     have e:x.v.getD i []=x.v[i]:=by rw[List.getD_eq_getElem?_getD,List.getElem?_eq_getElem hi];rfl
     unfold nI at h4
     rw[e] at h4
     split at h4
     ·cases h4
     ·obtain⟨j,hj,rfl⟩:=List.mem_iff_getElem.1 hk
      have h5:=MW _ _ _ h4 j (Nat.zero_le _) (by omega)
      unfold wK at h5
      rw[List.getD_eq_getElem?_getD,List.getElem?_eq_getElem hj] at h5
      split at h5
      ·cases h5
      ·rename_i q;simpa using q
    ·unfold Jl at h
     split at h
     ·cases h
     ·split at h
      ·cases h
      ·rename_i q;exact Classical.byContradiction q
theorem ai0{k:List Nat}(hk:iQ k=true)(ps:List Int){v:VLs}(hv:∀l∈v,keyL l):∀i,∀l∈jL k ps v i,keyL l
 | 0=>hv
 | i+1=>fun l hl=>by
  have ih:=ai0 hk ps hv i
  obtain⟨j,hj,rfl⟩:=List.mem_iff_getElem.1 hl
  have hj':j<(Dp k (jL k ps v i) (ps.getD i 0).toNat).length:=hj
  have e:(Dp k (jL k ps v i) (ps.getD i 0).toNat).getD j []=(Dp k (jL k ps v i) (ps.getD i 0).toNat)[j]'hj':=by rw[List.getD_eq_getElem?_getD,List.getElem?_eq_getElem hj'];rfl
  show keyL ((Dp k (jL k ps v i) (ps.getD i 0).toNat)[j]'hj')
  rw[←e]
  unfold Dp
  rw[yg _ _ _ _ (by rw[xW];omega)]
  split
  ·intro z hz
   rcases List.mem_append.1 hz with hz|hz
   ·exact MF ih _ z hz
   ·rw[List.mem_singleton.1 hz];exact hk
  ·rw[xX];exact MF ih _
theorem aj3{a b:Int}(ha:0≤a∧a≤1099511627776)(hb:0≤b)(h:¬(aO a b).2=true):(aO a b).1=a+b∧a+b≤1099511627776:=by
 have e:aO a b=(min (a+b) 1099511627776,decide (a+b > 1099511627776)):=zg ha hb
 rw[e] at h ⊢
 simp only[decide_eq_true_eq] at h
 exact⟨by simp only;omega,by omega⟩
theorem ald{x:Rk}(h:vRk x=0){k:List Nat}{w:Int}(co:List Nat){at':Int}(hi:bT k w=0)(ha:0≤at'∧at'≤1073741824) :
  vRk (yl x k w co at').1=0∧(yl x k w co at').2.2=0∧at'≤(yl x k w co at').2.1∧(yl x k w co at').2.1≤at'+6363:=by
 obtain⟨i1,i2,i3,i4,i5⟩:=Na h
 obtain⟨a1,a2⟩:=ajj h
 obtain⟨w1,w2⟩:=fU hi
 unfold yl
 rw[if_neg (by omega),if_neg (by omega),if_neg (fun q=>q ha)]
 split
 ·exact⟨h,rfl,Int.le_refl _,by simp only;omega⟩
 ·rename_i q
  obtain⟨e1,e2⟩:=aj3 i2 (by omega) q
  have hps:=fun i=>BI w 63 i (by decide)
  have hin:=BH k (gY w 63) x.v (fun i=>by have:=hps i;omega) 31 i5 (by omega) (gY w 63).length
  have hpl:=wz w 63
  have hlen:(xY x k w).length≤63:=hin.1
  have hun:unR (xY x k w) (xY x k w).length=x.t+w:=by
   rw[←X0 (n:=63) hlen]
   unfold xY
   rw[ajv _ _ _ 63 (fun i=>by have:=hps i;omega),X0 (by omega),a2]
   obtain⟨m,rfl⟩:∃m:Nat,w=(m:Int):=⟨w.toNat,by omega⟩
   rw[aj1 m 63 (by decide),Nat.mod_eq_of_lt (by omega)]
  have hm:∀i,((xY x k w).getD i []).length≤100:=fun i=>by
   have:((xY x k w).getD i []).length≤31+(gY w 63).length:=hin.2 i
   omega
  have:=aiN (v:=xY x k w) (z:=x.z) (lo:=x.l) (at':=at') (co:=co) (b:=x.b) i1 (ai0 (zT ⟨w2.1,w2.2⟩) _ a1 _) hm i3 (by omega)
  rw[hun,←e1] at this
  have h2:(BJ x k w co at').2.2.2.1≤_:=this.2.2
  exact⟨this.1,rfl,this.2.1,by simp only;omega⟩
theorem ale{x y:Rk}(hx:vRk x=0)(hy:vRk y=0)(hz:x.z=y.z)(co:List Nat){at':Int}(ha:0≤at'∧at'≤1073741824):vRk (qE x y co at').1=0:=by
 obtain⟨i1,i2,i3,i4,i5⟩:=Na hx
 obtain⟨j1,j2,j3,j4,j5⟩:=Na hy
 obtain⟨a1,a2⟩:=ajj hx
 obtain⟨b1,b2⟩:=ajj hy
 unfold qE
 rw[if_neg (by omega),if_neg (by omega),if_neg (fun q=>q hz),if_neg (fun q=>q ha)]
 split
 ·exact hx
 ·rename_i q
  obtain⟨e1,e2⟩:=aj3 i2 (by omega) q
  have hpl:=GY x.v y.v 63 (by omega) y.v.length (by omega)
  have hll:=abT x.v y.v i5 j5 y.v.length
  have hk:∀l∈mF x.v y.v y.v.length,keyL l:=fun l hl=>by
   obtain⟨j,hj,rfl⟩:=List.mem_iff_getElem.1 hl
   have e:(mF x.v y.v y.v.length).getD j []=(mF x.v y.v y.v.length)[j]:=by rw[List.getD_eq_getElem?_getD,List.getElem?_eq_getElem hj];rfl
   rw[←e,GI]
   intro k hk
   rcases List.mem_append.1 hk with hk|hk
   ·exact MF a1 _ k hk
   ·split at hk
    ·exact MF b1 _ k hk
    ·cases hk
  have hun:unR (mF x.v y.v y.v.length) (mF x.v y.v y.v.length).length=x.t+y.t:=by
   rw[←X0 (n:=63) hpl,ajw,X0 (by omega),a2,show min 63 y.v.length=y.v.length by omega,b2]
  have:=aiN (v:=mF x.v y.v y.v.length) (z:=x.z) (lo:=(aO x.l y.l).1) (at':=at') (co:=co) (b:=x.b||y.b) i1 hk (fun i=>by have:=hll i;split at this<;>omega) (pR _ _) (by omega)
  rw[hun,←e1] at this
  exact this.1
end Go.Proofs.YtiohdbjggmmjcaaGreat
