/-
  Merged texts.
-/
import Derived.Test.YtiohdbjggmmjcaaGreatWAY
import Derived.Test.YtiohdbjggmmjcaaGreatWAZ
import Derived.Test.YtiohdbjggmmjcaaGreatWBA
import Derived.Test.YtiohdbjggmmjcaaGreatWAW
set_option linter.unusedVariables false
set_option linter.unusedSimpArgs false
set_option linter.unusedSectionVars false
set_option linter.defProp false
set_option maxRecDepth 100000
set_option maxHeartbeats 8000000
section
namespace Go.Proofs.YtiohdbjggmmjcaaGreat
open Go Go.Pg
theorem CE{f:FuncId}{args:List V}{r:V}(h:Pg.Good Tryz.prog f args r):@Pg.Good Tryz.prog nestI f args r:=h
theorem sV{f:FuncId}{args:List V}{s s':St}{r:V}(h:Pg.GoodZ Tryz.prog f args s s' r):@Pg.GoodZ Tryz.prog nestI f args s s' r:=h
theorem afg(v:List (List (List Nat)))(lo a:Int):jX v (0,[],lo,a,[])=v:=by
 cases v with
 | nil=>rfl
 | cons x r=>simp [jX]
theorem wQ(x:V)(hx:x=yn∨x = .sl .nn 1 [])(s:St):GoodZ Tryz.prog 146 [x] s s (.tup []):=by
 rintro C L a w cargs hT S ⟨u,r,rfl,h2,hr⟩
 simp only[Reps] at hr
 subst hr
 have hu:∃p,u = .slice p 0 0:=by
  rcases hx with rfl|rfl
  ·exact⟨none,h2⟩
  ·obtain⟨ad,cap,cells,rfl,_,h3⟩:=h2
   obtain⟨_,_,rfl⟩:=h3
   exact⟨ad,rfl⟩
 obtain⟨p,rfl⟩:=hu
 refine .inl ⟨Jy,(Tryz.slices_Sort_string_none p 0 w).mono ?_⟩
 rintro e w' ⟨rfl,rfl⟩
 exact⟨_,L,rfl,S,#[],rfl,rfl⟩
theorem Ag(o:List (List (List Nat)))(x:List (List Nat))(h:∀j,(o.getD j []).length≤32)(hx:x.length≤32)(j:Nat):((o++[x]).getD j []).length≤32:=by
 simp only[List.getD_eq_getElem?_getD,List.getElem?_append]
 split
 ·have:=h j;rwa [List.getD_eq_getElem?_getD] at this
 ·rcases Nat.eq_zero_or_pos (j-o.length) with h0|h0
  ·rw[h0];exact hx
  ·rw[List.getElem?_eq_none (by simp;omega)];simp
theorem YF(W:List (List (List Nat)))(q:Nat)(h:q<W.length)(hw:W.getD q []=[]):W.set q []=W:=by
 apply List.ext_getElem?
 intro j
 rw[List.getElem?_set]
 split
 ·rename_i hj;subst hj
  first|rw[if_pos h]|skip
  rw[List.getD_eq_getElem?_getD,List.getElem?_eq_getElem h] at hw
  rw[List.getElem?_eq_getElem h]
  exact congrArg some hw.symm
 ·rfl
theorem YG{n id k:Nat}{ys:List V}{v:V}(h:Fr n v)(hi:n≤id):tuO id k ys v=v:=by
 refine Af ?_
 have:=(tY (p:=Tag.gf n) (p':=Tag.is id) (q:=fun b=>decide (n≤b)) (q':=fun _=>false) (fun t ht=>by
  cases t with
  | own i e=>simp [Tag.is] at ht;simp [Tag.gf];omega
  | _=>simp [Tag.is] at ht) (fun b hb=>by cases hb)).1 v h
 exact this
theorem YH{n id k:Nat}{ys:List V}{e:Nat→V}(h:FrE n e)(hi:n≤id):dX (tuO id k ys) e=e:=qy fun t=>YG (h t) hi
theorem acx(id:Nat):(∀v:V,v.any (Tag.is id) (fun _=>false) false=false→v.map (fun t=>if t.is id then .fz else t) (fun b=>b)=v)∧(∀l,V.anyL (Tag.is id) (fun _=>false) false l=false→V.mapL (fun t=>if t.is id then .fz else t) (fun b=>b) l=l):=by
 have ht:∀t:Tag,Tag.is id t=false→(if t.is id=true then Tag.fz else t)=t:=fun t h=>by rw[h];rfl
 refine V.ind ?_ ?_ ?_ ?_ ?_ ?_ ?_ ?_ ?_ ?_ ?_ ?_ ?_
 ·intro v _;rfl
 ·intro _;rfl
 ·intro t k xs _ h;simp only[V.map];rw[ht t h]
 ·intro t es h;simp only[V.map];rw[ht t h]
 ·intro cs ih h;simp only[V.map];rw[ih h]
 ·intro cs ih h;simp only[V.map];rw[ih h]
 ·intro b off h;rfl
 ·intro b be bo bk bn h;rfl
 ·intro t k xs i off _ h;simp only[V.map];rw[ht t h]
 ·intro f fs cs ih1 ih2 h
  simp only[V.any,Bool.or_eq_false_iff] at h
  simp only[V.map];rw[ih1 h.1,ih2 h.2]
 ·intro h;rfl
 ·intro _;rfl
 ·intro x xs ih1 ih2 h
  simp only[V.anyL,Bool.or_eq_false_iff] at h
  simp only[V.mapL];rw[ih1 h.1,ih2 h.2]
theorem qA{id:Nat}{v:V}(h:v.has id=false):frz id v=v:=(acx id).1 v h
theorem Gi{n id:Nat}{v:V}(h:Fr n v)(hi:n≤id):frz id v=v:=by
 have h1:=(tY (p:=Tag.gf n) (p':=Tag.is id) (q:=fun b=>decide (n≤b)) (q':=fun _=>false) (fun t ht=>by
  cases t with
  | own i e=>simp [Tag.is] at ht;simp [Tag.gf];omega
  | _=>simp [Tag.is] at ht) (fun b hb=>by cases hb)).1 v h
 exact qA h1
theorem wU{n id:Nat}{e:Nat→V}(h:FrE n e)(hi:n≤id):dX (frz id) e=e:=qy fun t=>Gi (h t) hi
theorem agM(l:List (List Nat))(x:List Nat):sv l++[vs x]=sv (l++[x]):=by simp [sv]
theorem agN(l:List (List Nat))(n:Nat):(sv l).take n=sv (l.take n):=by simp [sv,List.map_take]
theorem YI{n id:Nat}{v:V}(h:Fr n v)(hi:n≤id):v.has id=false :=
 (tY (p:=Tag.gf n) (p':=Tag.is id) (q:=fun b=>decide (n≤b)) (q':=fun _=>false) (fun t ht=>by
  cases t with
  | own i e=>simp [Tag.is] at ht;simp [Tag.gf];omega
  | _=>simp [Tag.is] at ht) (fun b hb=>by cases hb)).1 v h
theorem ug(ψ φ:V→V)(bx:Bxx):mapB ψ (mapB φ bx)=mapB (fun v=>ψ (φ v)) bx:=by
 funext c
 show ((bx c).map _).map _=(bx c).map _
 cases bx c with
 | none=>rfl
 | some x=>simp
theorem YJ{l:List (List (List Nat))}{N:Nat}(h:∀x∈l,x.length≤N)(j:Nat):(l.getD j []).length≤N:=by
 rw[List.getD_eq_getElem?_getD]
 cases hj:l[j]? with
 | none=>exact Nat.zero_le _
 | some x=>exact h x (List.mem_of_getElem? hj)
theorem Px{l:List (List (List Nat))}{N:Nat}(h:∀j,(l.getD j []).length≤N)(x:List (List Nat))(hx:x∈l):x.length≤N:=by
 obtain⟨j,hj,rfl⟩:=List.mem_iff_getElem.1 hx
 have:=h j
 rwa [List.getD_eq_getElem?_getD,List.getElem?_eq_getElem hj] at this
theorem acy(v:List (List (List Nat)))(s:Stl)(N:Nat)(h1:∀j,(v.getD j []).length+s.2.1.length≤N)(h2:∀j,(s.2.2.2.2.getD j []).length≤N):∀j,((jX v s).getD j []).length≤N:=by
 refine YJ fun x hx => ?_
 unfold jX at hx
 rcases List.mem_append.1 hx with hx|hx
 ·exact Px h2 x hx
 ·split at hx
  ·rcases List.mem_cons.1 hx with rfl|hx
   ·have:=h1 s.1;rw[List.length_append];omega
   ·exact Px (fun j=>by have:=h1 j;omega) x (List.mem_of_mem_drop hx)
  ·split at hx
   ·cases hx
   ·simp at hx;subst hx;have:=h1 0;omega
def tmB(bx:Bxx)(b Lb:Nat)(z t l:Int)(sat:Bool)(m:Nat):Bxx :=
 fun c=>if c=b then some (tRk,[vi z,vi t,vi l,.bs Lb tLs 0 1 m,.c (.bool sat)]) else if c=Lb then (bx Lb).map (fun x=>(x.1,x.2.take m)) else bx c
theorem TD(o:List (List (List Nat)))(m:Nat)(hm:m+1≤o.length):jb (m+1) (o.take (m+1))=if (o.getD m []).length=0 then jb m (o.take m) else o.take (m+1):=by
 have h1:(o.take (m+1)).length=m+1:=by simp;omega
 have h2:(o.take (m+1)).getD m []=o.getD m []:=by simp [List.getD_eq_getElem?_getD,List.getElem?_take]
 simp only[jb,h1,Nat.add_sub_cancel,h2,List.take_take]
 rw[show min m (m+1)=m by omega]
 by_cases h:(o.getD m []).length=0
 ·rw[if_pos ⟨by omega,h⟩,if_pos h]
 ·rw[if_neg (fun h'=>h h'.2),if_neg h]
theorem uj{α:Type}(l:List α)(m i:Nat)(d:α)(h:i<m):(l.take m).getD i d=l.getD i d:=by simp [List.getD_eq_getElem?_getD,List.getElem?_take,h]
theorem Lvs.take{lo n:Nat}{cs:List V}{v:List (List (List Nat))}(h:Lvs lo n cs v)(m:Nat):Lvs lo n (cs.take m) (v.take m):=by
 refine⟨by simp [h.len],fun i hi => ?_,fun i id hi hd => ?_,fun i j id hi hj hd hd' => ?_⟩
 ·simp only[List.length_take] at hi
  rw[uj _ _ _ _ (by omega),uj _ _ _ _ (by omega)]
  exact h.cell i (by omega)
 ·simp only[List.length_take] at hi
  rw[uj _ _ _ _ (by omega)] at hd
  exact h.ids i id (by omega) hd
 ·simp only[List.length_take] at hi hj
  rw[uj _ _ _ _ (by omega)] at hd hd'
  exact h.inj i j id (by omega) (by omega) hd hd'
theorem afh{lo n:Nat}{bx:Bxx}{b Lb:Nat}{z t l:Int}{sat:Bool}{v:List (List (List Nat))}{cs:List V}(h:RkAt lo n bx b Lb z t l sat v cs)(m:Nat)(hm:m≤v.length):RkAt lo n (tmB bx b Lb z t l sat m) b Lb z t l sat (v.take m) (cs.take m):=by
 have:=h.n1;have:=h.n2;have:=h.n3
 have hl:(v.take m).length=m:=by simp;omega
 refine⟨by rw[hl];exact if_pos rfl, ?_,h.lv.take m,h.n1,h.n2,h.n3,fun c x h1 h2 hx => ?_⟩
 ·have e:tmB bx b Lb z t l sat m Lb=(bx Lb).map (fun x=>(x.1,x.2.take m)):=by
   show (if Lb=b then _ else _)=_
   rw[if_neg (by omega),if_pos rfl]
  rw[e]
  rcases h.hL with ⟨h1,h2,h3⟩|h3
  ·left;rw[h1,h2,h3];exact⟨by simp,by simp,rfl⟩
  ·right;rw[h3];rfl
 ·simp only[tmB,if_neg h1,if_neg h2] at hx
  exact h.old c x h1 h2 hx
theorem agO{lo n:Nat}{bx:Bxx}{b Lb:Nat}{z t l:Int}{sat:Bool}{v:List (List (List Nat))}{cs:List V}(h:RkAt lo n bx b Lb z t l sat v cs){c:Nat}{x':TypeId × List V}(hx:tmB bx b Lb z t l sat v.length c=some x'):∃x,bx c=some x∧x.1=x'.1∧uT x.2 x'.2:=by
 have:=h.n1;have:=h.n2
 by_cases h1:c=b
 ·subst h1
  simp only[tmB,if_true,Option.some.injEq] at hx
  subst hx
  exact⟨_,h.hb,rfl,fZ _⟩
 ·by_cases h2:c=Lb
  ·subst h2
   simp only[tmB,if_neg h1,if_true] at hx
   obtain⟨x,hx1,rfl⟩:=Option.map_eq_some_iff.1 hx
   exact⟨x,hx1,rfl,x9 _ _⟩
  ·simp only[tmB,if_neg h1,if_neg h2] at hx
   exact⟨x',hx,rfl,fZ _⟩
theorem YK{bx:Bxx}{b Lb:Nat}{z t l:Int}{sat:Bool}{m:Nat}(hbl:Lb≠b){c:Nat}{x':TypeId × List V}(hx:tmB bx b Lb z t l sat m c=some x'):∃x,upd (tmB bx b Lb z t l sat (m+1)) b (some (tRk,[vi z,vi t,vi l,.bs Lb tLs 0 1 m,.c (.bool sat)])) c=some x∧x.1=x'.1∧uT x.2 x'.2:=by
 by_cases h1:c=b
 ·subst h1
  simp only[tmB,if_true,Option.some.injEq] at hx
  subst hx
  exact⟨_,if_pos rfl,rfl,fZ _⟩
 ·simp only[upd,if_neg h1]
  by_cases h2:c=Lb
  ·subst h2
   simp only[tmB,if_neg h1,if_true] at hx ⊢
   obtain⟨x,hx1,rfl⟩:=Option.map_eq_some_iff.1 hx
   refine⟨(x.1,x.2.take (m+1)),by rw[hx1];rfl,rfl, ?_⟩
   have:=x9 (x.2.take (m+1)) m
   rwa [List.take_take,show min m (m+1)=m by omega] at this
  ·simp only[tmB,if_neg h1,if_neg h2] at hx ⊢
   exact⟨x',hx,rfl,fZ _⟩
theorem JL(a b:Int):W64 (aO a b).1:=by
 have:=pR a b
 unfold W64;omega
theorem oJ{n:Nat}:∀{X:List (Nat × V)},(∀x∈X,Fr n x.2)→FrE n (iP X)
 | [],_,_=>rfl
 | (k,v)::r,h,t=>by
  rw[cO]
  split
  ·exact h _ (List.mem_cons_self ..)
  ·exact oJ (fun x hx=>h x (List.mem_cons_of_mem _ hx)) t
theorem Ah{e:Nat→V}{bx:Bxx}{n id:Nat}{h:Nat→V}(hh:dX (frz id) h=h):Weak ⟨e,bx,n,h⟩ ⟨dX (frz id) e,mapB (frz id) bx,n,h⟩:=by
 have:=Weak.freeze ⟨e,bx,n,h⟩ id
 have e1:St.mapV ⟨e,bx,n,h⟩ (frz id)=⟨dX (frz id) e,mapB (frz id) bx,n,dX (frz id) h⟩:=rfl
 rw[e1,hh] at this
 exact this
section
attribute [local instance 2000] nestI
theorem YL{lo n:Nat}{bx:Bxx}{b Lb:Nat}{z t l:Int}{sat:Bool}{v:List (List (List Nat))}{cs:List V}(H:RkAt lo n bx b Lb z t l sat v cs)(co:List Nat)(at':Int)(M:Nat)(hz:2≤z∧z≤32)(hco:oct co)(hM:∀i,(v.getD i []).length≤M)(hM2:M≤400)(hv:v.length≤100)(hl:W64 l)(ha:0≤at'∧at'≤1073741824)
  (e h:Nat→V) (he:FrE lo e) (hh:FrE lo h):GoodE Tryz.prog 91 [.ref b 0,fzb co,vi at'] ⟨e,bx,n,h⟩
   (fun s' r=>r=vi (jh v z l co at' M).2.2.2.1∧∃n' cs' bx',n≤n'∧RkAt lo n' bx' b Lb z t (jh v z l co at' M).2.2.1 sat (jb (jh v z l co at' M).2.2.2.2.length (jh v z l co at' M).2.2.2.2) cs'∧(∀c,c<lo→c≠b→bx' c=bx c)∧s'=⟨e,bx',n',h⟩):=by
 have hpF:=wE he hh
 have hF:v.length*(M+1)≤100*401:=Nat.mul_le_mul hv (by omega)
 unfold jh
 generalize hR:kY v z co (v.length*(M+1)) (0,[],l,at',[])=R
 refine sQ (eu [18] mix) Tryz.func91 rfl Tryz.results91 rfl (by kernel_rfl) (Nat.le_of_ble_eq_true (by kernel_rfl)) ?_
 (repeat' (first|(simp (disch:=first|exact dqz|fail) only[pgz,simprocAttr,oq,iT,pgE,pgj,dB])|(refine tE ?_ ?_<;>intro hc)|refine xK ?_|fail))
 refine ach mix (ι:=Nat × Stl × (Bxx) × Nat × List V) (fun i=>⟨iP [(0,.ref b 0),(1,fzb co),(2,vi i.2.1.2.2.2.1),(7,vi i.2.1.1)],i.2.2.1,i.2.2.2.1,gm e h⟩)
  (fun i=>RkAt lo i.2.2.2.1 i.2.2.1 b Lb z t i.2.1.2.2.1 sat (jX v i.2.1) i.2.2.2.2∧n≤i.2.2.2.1∧(∀c,c<lo→c≠b→i.2.2.1 c=bx c)∧oH v M i.2.1≤i.1∧i.2.1.2.1.length≤M∧W64 i.2.1.2.2.1∧kY v z co i.1 i.2.1=R∧i.1+i.2.1.1=v.length*(M+1)∧i.2.1.2.2.2.2.length=i.2.1.1∧0≤i.2.1.2.2.2.1∧i.2.1.2.2.2.1≤1073741824+i.2.1.1∧∀j,(i.2.1.2.2.2.2.getD j []).length≤32)
  (fun i=>i.1) rfl ?_ ?_
 ·(repeat' (first|(simp (disch:=first|exact dqz|fail) only[pgz,simprocAttr,iT,pgE,pgj,dB])|(refine tE ?_ ?_<;>intro hc)|refine xK ?_|fail))
  refine⟨(v.length*(M+1),(0,[],l,at',[]),bx,n,cs),⟨by simp only[afg];exact H,Nat.le_refl _,fun _ _ _=>rfl,by simp [oH],Nat.zero_le _,hl,hR,rfl,rfl,ha.1,by simp only;omega,fun j=>by simp⟩, ?_⟩
  refine gK (gp ?_) (fun c => .inl rfl) (Nat.le_refl _)
  ((try simp only[bu,jm,cO,cu,pgo,simprocAttr,and_true,true_and]);try (repeat' (first|exact trivial|rfl|apply aI)))
 rintro⟨f,⟨q,ca,lo',a,o⟩,bx1,n1,cs1⟩ ⟨H1,hn1,ho1,i1,i2,i3,i4,i5,i6,i7,i8,i9⟩
 simp only at H1 hn1 ho1 i1 i2 i3 i4 i5 i6 i7 i8 i9
 have hb:=H1.hb
 have hnx:=H1.n1;have hny:=H1.n2;have hnz:=H1.n3
 by_cases hc:q<v.length∨0<ca.length
 ·have hql:=(Pq v (q,ca,lo',a,o) i6).2 hc
  have hmu:=XF v z hz.1 co M hM (q,ca,lo',a,o) i2 hc
  cases f with
  | zero=>exact absurd hmu.2 (by omega)
  | succ f =>
  have e0:kY v z co (f+1) (q,ca,lo',a,o)=kY v z co f (iH v z co (q,ca,lo',a,o)):=if_pos hc
  rw[e0] at i4
  have ecu:=Yu v (q,ca,lo',a,o) i6
  simp only at ecu
  have hcl:=uS v (q,ca,lo',a,o)
  simp only at hcl
  have hMq:=hM q
  have est:iH v z co (q,ca,lo',a,o)=if ((dR v (q,ca,lo',a,o)).length:Int)<z then (q+1,[],lo',a,o++[dR v (q,ca,lo',a,o)]) else (q+1,evN (dR v (q,ca,lo',a,o)) (wC co a).toNat ((dR v (q,ca,lo',a,o)).length / 2),(aO lo' (pwI q)).1,a+1,o++[(dR v (q,ca,lo',a,o)).drop ((dR v (q,ca,lo',a,o)).length / 2*2)]):=rfl
  have hset:=fun lo2 a2 x=>JH v q ca lo' a lo2 a2 o i6 hc x
  have hadd:=fun lo2 a2 x up hu=>Yv v q ca lo' a lo2 a2 o i6 hc x up hu
  have hWl:(jX v (q,ca,lo',a,o)).length≤50000:=by
   rw[Cj v _ i6];simp only;split
   ·omega
   ·split<;>omega
  have hcu:(dR v (q,ca,lo',a,o)).length≤800:=by rw[hcl];split<;>omega
  have hcM:(dR v (q,ca,lo',a,o)).length≤2*M:=by rw[hcl];split<;>omega
  have hWg:∀j,((jX v (q,ca,lo',a,o)).getD j []).length≤800:=acy v (q,ca,lo',a,o) 800 (fun j=>by have:=hM j;simp only;omega) (fun j=>by have:=i9 j;simp only;omega)
  generalize jX v (q,ca,lo',a,o)=W at *
  generalize dR v (q,ca,lo',a,o)=cur at *
  simp only at hql
  have hlen:=H1.lv.len
  have hL:bx1 Lb=some (tLs,cs1):=by
   rcases H1.hL with ⟨h1,_⟩|h1
   ·rw[h1] at hql;exact absurd hql (by simp)
   ·exact h1
  have hpl:q<cs1.length:=by omega
  have hcell:=H1.lv.cell q hql
  have hget:cs1[q]?=some (cs1.getD q yn):=by rw[List.getD_eq_getElem?_getD,List.getElem?_eq_getElem hpl];rfl
  have hbL:(b == Lb)=false:=by simp;omega
  have hbE:(b=Lb)=False:=eq_false (by omega)
  have hbE2:(Lb=b)=False:=eq_false (by omega)
  have hi0:(0:Int)≤(q:Int):=by omega
  have hto:(q:Int).toNat=q:=by omega
  have hqW:((q:Int)<(W.length:Int))=True:=eq_true (by omega)
  have fin:∀(s2:Stl) (cs2:List V) (e2:Nat→V) (bx2:Bxx) (n2:Nat),iH v z co (q,ca,lo',a,o)=s2→s2.1=q+1→s2.2.1.length≤M→W64 s2.2.2.1→s2.2.2.2.2.length=q+1→(a≤s2.2.2.2.1∧s2.2.2.2.1≤a+1)→(∀j,(s2.2.2.2.2.getD j []).length≤32)→Lvs lo n2 cs2 (jX v s2)→n1≤n2 →
    EnvIs e2 [(0,.ref b 0),(1,fzb co),(2,vi s2.2.2.2.1),(7,vi s2.1)]→(∀c,c<lo→c≠b→bx2 c=bx1 c)→bx2 b=some (tRk,[vi z,vi t,vi s2.2.2.1,.bs Lb tLs 0 1 (jX v s2).length,.c (.bool sat)])→bx2 Lb=some (tLs,cs2) →
    qK (fun i:Nat × Stl × (Bxx) × Nat × List V=>(⟨iP [(0,.ref b 0),(1,fzb co),(2,vi i.2.1.2.2.2.1),(7,vi i.2.1.1)],i.2.2.1,i.2.2.2.1,gm e h⟩:St))
     (fun i=>RkAt lo i.2.2.2.1 i.2.2.1 b Lb z t i.2.1.2.2.1 sat (jX v i.2.1) i.2.2.2.2∧n≤i.2.2.2.1∧(∀c,c<lo→c≠b→i.2.2.1 c=bx c)∧oH v M i.2.1≤i.1∧i.2.1.2.1.length≤M∧W64 i.2.1.2.2.1∧kY v z co i.1 i.2.1=R∧i.1+i.2.1.1=v.length*(M+1)∧i.2.1.2.2.2.2.length=i.2.1.1∧0≤i.2.1.2.2.2.1∧i.2.1.2.2.2.1≤1073741824+i.2.1.1∧∀j,(i.2.1.2.2.2.2.getD j []).length≤32)
     (fun i=>i.1) (f+1,(q,ca,lo',a,o),bx1,n1,cs1) ⟨e2,bx2,n2,gm e h⟩:=by
   intro s2 cs2 e2 bx2 n2 k1 k2 k3 k4 k5 k6 k7 k8 k9 k10 k11 k12 k13
   rw[k1] at hmu i4
   have hR2:=Cf (z':=z) (t':=t) (l':=s2.2.2.1) (sat':=sat) H1 k9 k8
   refine lY (f,s2,rkB lo bx1 b Lb z t s2.2.2.1 sat (jX v s2) cs2,n2,cs2) ⟨hR2,by show n≤n2;omega,fun c hc hcb => ?_,by show oH v M s2≤f;omega,k3,k4,i4,by show f+s2.1=_;omega,by rw[k5,k2],by show 0≤s2.2.2.2.1;omega,by show s2.2.2.2.1≤1073741824+s2.1;omega,k7⟩ (by show f<f+1;omega) (gK (gp k10) (fun c => ?_) (Nat.le_refl _))
   ·show rkB _ _ _ _ _ _ _ _ _ _ c=_
    simp only[rkB,if_neg hcb]
    rw[if_neg (by omega),if_pos hc]
    exact ho1 c hc hcb
   ·show rkB _ _ _ _ _ _ _ _ _ _ c=_∨_
    by_cases hcb:c=b
    ·subst hcb;left
     rw[k12]
     simp [rkB]
    ·by_cases hcL:c=Lb
     ·subst hcL;left
      rw[k13]
      simp [rkB,hcb]
     ·by_cases hcl:c<lo
      ·left;rw[k11 c hcl hcb];simp [rkB,hcb,hcL,hcl]
      ·right;simp [rkB,hcb,hcL,hcl]
  have simple:W.getD q []=[]→∀(e2:Nat→V),EnvIs e2 [(0,.ref b 0),(1,fzb co),(2,vi a),(7,vi (q+1:Nat))] →
    qK (fun i:Nat × Stl × (Bxx) × Nat × List V=>(⟨iP [(0,.ref b 0),(1,fzb co),(2,vi i.2.1.2.2.2.1),(7,vi i.2.1.1)],i.2.2.1,i.2.2.2.1,gm e h⟩:St))
     (fun i=>RkAt lo i.2.2.2.1 i.2.2.1 b Lb z t i.2.1.2.2.1 sat (jX v i.2.1) i.2.2.2.2∧n≤i.2.2.2.1∧(∀c,c<lo→c≠b→i.2.2.1 c=bx c)∧oH v M i.2.1≤i.1∧i.2.1.2.1.length≤M∧W64 i.2.1.2.2.1∧kY v z co i.1 i.2.1=R∧i.1+i.2.1.1=v.length*(M+1)∧i.2.1.2.2.2.2.length=i.2.1.1∧0≤i.2.1.2.2.2.1∧i.2.1.2.2.2.1≤1073741824+i.2.1.1∧∀j,(i.2.1.2.2.2.2.getD j []).length≤32)
     (fun i=>i.1) (f+1,(q,ca,lo',a,o),bx1,n1,cs1) ⟨e2,bx1,n1,gm e h⟩:=fun hw e2 he2=>by
   have hcur0:cur=[]:=by rw[←ecu,hw];rfl
   subst hcur0
   have hs:=hset lo' a []
   rw[YF W q hql hw] at hs
   exact fin (q+1,[],lo',a,o++[[]]) cs1 e2 bx1 n1 (by rw[est,if_pos (by simp only[List.length_nil];omega)]) rfl (Nat.zero_le _) i3 (by simp [i6]) ⟨by simp only;omega,by simp only;omega⟩ (Ag o [] i9 (by simp)) (by rw[←hs];exact H1.lv) (Nat.le_refl _) he2 (fun c _ _=>rfl) (by rw[←hs];exact hb) hL
  rcases hcell with ⟨hc1,hc2⟩|⟨hc1,hc2⟩|⟨id,hc1⟩
  ·rw[hc1] at hget
   (repeat' (first|(simp (disch:=first|exact dqz|fail) only[pgz,simprocAttr,iT,pgE,pgj,dB,hb,hL,hget,hto,Nat.mul_one,Nat.zero_add,hqW])|(refine tC ?_;refine dZ _ ((sV (wQ yn (.inl rfl) _))) rfl ?_)|(refine tE ?_ ?_<;>intro hc)|refine xK ?_|fail))
   refine simple hc2 _ ?_
   ((try simp only[bu,jm,cO,cu,pgo,simprocAttr,and_true,true_and]);try (repeat' (first|exact trivial|rfl|apply aI)))
  ·rw[hc1] at hget
   (repeat' (first|(simp (disch:=first|exact dqz|fail) only[pgz,simprocAttr,iT,pgE,pgj,dB,hb,hL,hget,hto,Nat.mul_one,Nat.zero_add,hqW])|(refine tC ?_;refine dZ _ ((sV (wQ (.sl .nn 1 []) (.inr rfl) _))) rfl ?_)|(refine tE ?_ ?_<;>intro hc)|refine xK ?_|fail))
   refine simple hc2 _ ?_
   ((try simp only[bu,jm,cO,cu,pgo,simprocAttr,and_true,true_and]);try (repeat' (first|exact trivial|rfl|apply aI)))
  ·rw[hc1] at hget
   have hid:id∈V.ids (cs1.getD q yn):=by rw[hc1];simp [V.ids]
   obtain⟨hi2,hi3⟩:=H1.lv.ids q id hql hid
   have hWq:=hWg q
   have hsrt:=acr (W.getD q []) (by omega) id tSt
   rw[ecu] at hsrt
   have hp2:dX (tuO id 1 (sv cur)) (gm e h)=gm e h:=YH hpF hi2
   have hlq:(sv (W.getD q [])).length=(sv cur).length:=by rw[eG,eG,←ecu,wI]
   have hmt:List.map (tuO id 1 (sv cur)) cs1=cs1.set q (.sl (.own id tSt) 1 (sv cur)):=by
    rw[H1.lv.map hql hid (ψ:=tuO id 1 (sv cur)) (fun c hc=>Af hc),hc1,Ae _ _ _ _ _ hlq]
   have hcl2:=eG cur
   have hth:=Ae id 1 (sv cur) tSt _ hlq
   have hmV:∀(e2:Nat→V) (b2:Bxx) (n2:Nat) (h2:Nat→V) (ψ:V→V),St.mapV ⟨e2,b2,n2,h2⟩ ψ=⟨dX ψ e2,mapB ψ b2,n2,dX ψ h2⟩:=fun _ _ _ _ _=>rfl
   by_cases q1:(cur.length:Int)<z
   ·have q1':((cur.length:Int)≥z)=False:=eq_false (by omega)
    (repeat' (first|(simp (disch:=first|exact dqz|fail) only[pgz,simprocAttr,iT,pgE,pgj,acn,dB,hb,hL,hget,hto,Nat.mul_one,Nat.zero_add,hqW,hmV,hp2,hmt,hcl2,hlq,q1'])|(refine tC ?_;refine dZ _ ((sV (hsrt _))) rfl ?_)|(refine tE ?_ ?_<;>intro hc)|refine xK ?_|fail))
    refine fin (q+1,[],lo',a,o++[cur]) (cs1.set q (.sl (.own id tSt) 1 (sv cur))) _ _ n1 (by rw[est,if_pos q1]) rfl (Nat.zero_le _) i3 (by simp [i6]) ⟨by simp only;omega,by simp only;omega⟩ (Ag o cur i9 (by omega)) (by rw[←hset lo' a cur];exact H1.lv.set hql (.inr (.inr ⟨id,rfl⟩)) (Nat.le_refl _) (fun id' h' => .inl (by rw[hc1];simpa [V.ids] using h'))) (Nat.le_refl _) ?_ (fun c h1 h2 => ?_) ?_ ?_
    ·((try simp only[bu,jm,cO,cu,pgo,simprocAttr,and_true,true_and,ac7,Ph,Yo]);try (repeat' (first|exact trivial|rfl|apply aI)))
    ·have h3:c≠Lb:=by omega
     refine kQ (fun x hx => ?_)
     conv=>rhs;rw[←List.map_id x.2]
     exact List.map_congr_left fun w hw=>YG ((H1.old c x h2 h3 hx).2 w hw) hi2
    ·rw[←hset lo' a cur,List.length_set]
     simp only[iG,hb];rfl
    ·simp only[iG,hL,Option.map_some,hmt]
   ·have q1':((cur.length:Int)≥z)=True:=eq_true (by omega)
    have hbit:=CE (agL co hco a (by omega))
    have hp4:dX (aJ (n1+10)) (gm e h)=gm e h:=Oy hpF (by omega)
    have hbU:mapB (aJ (n1+10)) (rkB lo bx1 b Lb z t lo' sat W (cs1.set q .top))=rkB lo bx1 b Lb z t lo' sat W (cs1.set q .top):=by
     refine O9 (fun c x hx w hw => ?_)
     by_cases hcb:c=b
     ·subst hcb
      simp only[rkB,if_true,Option.some.injEq] at hx
      subst hx
      simp only[List.mem_cons,List.not_mem_nil,or_false] at hw
      rcases hw with rfl|rfl|rfl|rfl|rfl<;>rfl
     ·by_cases hcL:c=Lb
      ·subst hcL
       simp only[rkB,if_neg hcb,if_true,Option.some.injEq] at hx
       subst hx
       rcases List.mem_or_eq_of_mem_set hw with hw|rfl
       ·obtain⟨j,hj,rfl⟩:=List.mem_iff_getElem.1 hw
        have hj':j<W.length:=by omega
        have hce:=H1.lv.cell j hj'
        have hids:=H1.lv.ids j
        rw[List.getD_eq_getElem?_getD,List.getElem?_eq_getElem hj] at hce
        unfold aJ
        rw[if_neg]
        have h9:V.has (n1+10) cs1[j]=false:=wO (c:=cs1[j]) hce (fun hm=>by
         have:=(hids (n1+10) hj' (by rw[List.getD_eq_getElem?_getD,List.getElem?_eq_getElem hj];exact hm)).2
         omega)
        rw[h9];simp
       ·show aJ _ .top = .top
        unfold aJ;split<;>rfl
      ·simp only[rkB,if_neg hcb,if_neg hcL] at hx
       split at hx
       ·exact xG ((H1.old c x hcb hcL (hx)).2 w hw) (by omega)
       ·cases hx
    have hbxG:∀ψ:V→V,(∀v,v.has id=false→ψ v=v)→∀c x',rkB lo bx1 b Lb z t lo' sat W (cs1.set q .top) c=some x'→∃x:TypeId × List V,mapB ψ bx1 c=some x∧x.1=x'.1∧uT x.2 x'.2:=by
     intro ψ hψ c x' hx
     by_cases hcb:c=b
     ·subst hcb
      simp only[rkB,if_true,Option.some.injEq] at hx
      subst hx
      refine⟨(tRk,[vi z,vi t,vi lo',.bs Lb tLs 0 1 W.length,.c (.bool sat)].map ψ),by rw[iG,hb];rfl,rfl, ?_⟩
      have e1:[vi z,vi t,vi lo',.bs Lb tLs 0 1 W.length,.c (.bool sat)].map ψ=[vi z,vi t,vi lo',.bs Lb tLs 0 1 W.length,.c (.bool sat)]:=by
       simp only[List.map_cons,List.map_nil]
       rw[hψ (vi z) rfl,hψ (vi t) rfl,hψ (vi lo') rfl,hψ (.bs Lb tLs 0 1 W.length) rfl,hψ (.c (.bool sat)) rfl]
      show uT ([vi z,vi t,vi lo',.bs Lb tLs 0 1 W.length,.c (.bool sat)].map ψ) _
      rw[e1]
      exact fZ _
     ·by_cases hcL:c=Lb
      ·subst hcL
       simp only[rkB,if_neg hcb,if_true,Option.some.injEq] at hx
       subst hx
       refine⟨(tLs,cs1.map ψ),by rw[iG,hL];rfl,rfl, ?_⟩
       show uT (cs1.map ψ) _
       rw[H1.lv.map hql hid hψ]
       have:=JD (cs1.set q (ψ (cs1.getD q yn))) q
       rwa [List.set_set] at this
      ·simp only[rkB,if_neg hcb,if_neg hcL] at hx
       split at hx
       ·rename_i hcl
        refine⟨x', ?_,rfl,fZ _⟩
        rw[kQ (ψ:=ψ) (fun x hx2 => ?_)]
        ·exact hx
        ·conv=>rhs;rw[←List.map_id x.2]
         exact List.map_congr_left fun w hw=>hψ w (YI ((H1.old c x hcb hcL hx2).2 w hw) hi2)
       ·cases hx
    have htm:((cur.length:Nat):Int).tmod 2=((cur.length%2:Nat):Int):=by rw[Int.tmod_eq_emod_of_nonneg (by omega)];omega
    have h01:=zZ co a
    generalize hcn:wC co a=cn at *
    obtain⟨cb,rfl⟩:∃cb:Nat,cn=cb:=⟨cn.toNat,by omega⟩
    have hcb:cb≤1:=by omega
    have hevl:∀k,(sv (evN cur cb k)).length=k:=fun k=>by rw[eG,mD]
    have hup:0<(evN cur cb (cur.length / 2)).length:=by rw[mD];omega
    have htl:(cur.take (cur.length / 2*2)).length=cur.length / 2*2:=by simp;omega
    have hst2:=hadd (aO lo' (pwI q)).1 (a+1) (cur.drop (cur.length / 2*2)) (evN cur cb (cur.length / 2)) hup
    have hX9:∃X9:V,X9=(if cur.length%2=1 then .sl (.own n1 tSt) 1 (sv (cur.drop (cur.length / 2*2))) else yn):=⟨_,rfl⟩
    obtain⟨X9,hX9⟩:=hX9
    have hX9o:cur.length%2=1→X9 = .sl (.own n1 tSt) 1 [vs (cur.getD (cur.length-1) [])]:=fun h=>by
     rw[hX9,if_pos h]
     have h1:cur.length / 2*2=cur.length-1:=by omega
     have h2:cur.length-1<cur.length:=by omega
     rw[h1,List.drop_eq_getElem_cons h2,List.drop_eq_nil_of_le (by omega)]
     simp [sv,List.getD_eq_getElem?_getD,List.getElem?_eq_getElem h2]
    have hX9p:aJ (n1+10) X9=X9:=by
     rw[hX9];split
     ·unfold aJ;rw[if_neg];simp [V.has,V.any,Tag.is]
     ·rfl
    have htl2:(sv (cur.take (cur.length / 2*2))).length=cur.length / 2*2:=by rw[eG,htl]
    have hX9e:cur.length%2=0→X9=yn:=fun h=>by rw[hX9,if_neg (by omega)]
    have hlast:(sv cur)[cur.length-1]?=some (vs (cur.getD (cur.length-1) [])):=by
     have h1:cur.length-1<cur.length:=by omega
     simp [sv,List.getD_eq_getElem?_getD,List.getElem?_eq_getElem h1]
    have hln:(((cur.length:Nat):Int)-1).toNat=cur.length-1:=by omega
    have hp3:dX (frz id) (gm e h)=gm e h:=wU hpF hi2
    (repeat' (first|(simp (disch:=first|exact dqz|fail) only[pgz,simprocAttr,iT,pgE,pgj,acn,pgv,dB,hb,hL,hget,hto,Nat.mul_one,Nat.zero_add,hqW,hmV,hp2,hmt,hcl2,hlq,q1',hlast,hln,hp3])|(refine tC ?_;first|refine dZ _ ((sV (hsrt _))) rfl ?_|refine cU hbit ?_)|(refine tE ?_ ?_<;>intro hc)|refine xK ?_|fail))
    all_goals
     refine sO (ι:=Nat) (fun k=>⟨iP [(0,.ref b 0),(1,fzb co),(2,vi a),(7,vi q),(8,fzs (cur.take (cur.length / 2*2))),(9,X9),(10,.sl (.own (n1+10) tSt) 1 (sv (evN cur cb k))),(11,vi ((cb+2*k:Nat):Int))],rkB lo bx1 b Lb z t lo' sat W (cs1.set q .top),n1+20+k,gm e h⟩) (fun k=>k≤cur.length / 2) (fun k=>cur.length / 2-k) 0 ?_ (Nat.zero_le _) ?_
    ·have hod:cur.length%2=1:=by rw[htm] at hc;omega
     refine kP ?_ (fun c x' hx => ?_) (by omega)
     ·simp only[mQ,pY,pgo,acn,simprocAttr,and_true,hth,oZ]
      refine⟨bJ _,bJ _,bJ _,bJ _, ?_, ?_,FZ (.own (n1+10) tSt) 1,bJ _⟩
      ·rw[agN,show cur.length-1=cur.length / 2*2 by omega];exact bJ _
      ·rw[hX9o hod,if_neg (by simp;omega)];exact bJ _
     ·rw[ug]
      exact hbxG _ (fun v hv=>by rw[Af hv,qA hv]) c x' hx
    ·intro k hk
     have hk':k≤cur.length / 2:=hk
     by_cases hlt:k<cur.length / 2
     ·have hcn1:((((cb+2*k:Nat)):Int)<((cur.length / 2*2:Nat):Int))=True:=eq_true (by omega)
      have hel:(sv (cur.take (cur.length / 2*2)))[cb+2*k]?=some (vs (cur.getD (cb+2*k) [])):=by
       have h1:cb+2*k<cur.length:=by omega
       have h2:cb+2*k<cur.length / 2*2:=by omega
       simp [sv,List.getD_eq_getElem?_getD,List.getElem?_eq_getElem h1,List.getElem?_take,h2]
      have hto2:((cb:Int)+((2*k:Nat):Int)).toNat=cb+2*k:=by omega
      have hFk:Fits (k+1) 16:=sU _ (by omega)
      have hap:=fun (e2:Nat→V) (b2:Bxx) (n2:Nat) (h2:Nat→V) (x:V)=>E5 (e:=e2) (b:=b2) (n:=n2) (h:=h2) tSt 1 16 (n1+10) (sv (evN cur cb k)) [x] (by rw[hevl];exact hFk)
      have hUk:(n1+20+k≤n1+10)=False:=eq_false (by omega)
      have hek:sv (evN cur cb k)++[vs (cur.getD (cb+2*k) [])]=sv (evN cur cb (k+1)):=by rw[agM,wL]
      have hnx3:(cb+2*k)+2=cb+2*(k+1):=by omega
      (repeat' (first|(simp (disch:=first|exact dqz|fail) only[pgz,simprocAttr,iT,pgE,pgj,pgv,dB,htl2,hcn1,hel,hto2,hFk,hp4,hbU,hX9p,hUk,hap,hevl,hek,List.length_cons,List.length_nil])|(refine tE ?_ ?_<;>intro hc)|refine xK ?_|fail))
      refine lY (k+1) hlt (by show cur.length / 2-(k+1)<cur.length / 2-k;omega) (gK (gp ?_) (fun c => .inl rfl) (by show _≤n1+20+(k+1);omega))
      ((try simp only[bu,jm,cO,cu,pgo,simprocAttr,and_true,true_and]);try (repeat' (first|exact trivial|rfl|apply aI)))
      all_goals (first|exact hX9p|exact congrArg vi (by omega)|skip)
     ·have hke:k=cur.length / 2:=by omega
      subst hke
      have hcn0:((((cb+2*(cur.length / 2):Nat)):Int)<((cur.length / 2*2:Nat):Int))=False:=eq_false (by omega)
      have hAdd:=CE (BV lo' (pwI q) 1099511627776 (by decide) i3 (OV q))
      have hB:rkB lo bx1 b Lb z t lo' sat W (cs1.set q .top) b=some (tRk,[vi z,vi t,vi lo',.bs Lb tLs 0 1 W.length,.c (.bool sat)]):=by simp [rkB]
      have hBL:rkB lo bx1 b Lb z t lo' sat W (cs1.set q .top) Lb=some (tLs,cs1.set q .top):=by
       have:Lb≠b:=by omega
       simp [rkB,this]
      have hX9c:X9.cs=some [X9]:=by rw[hX9];split<;>rfl
      have hX91:V.one X9=true:=by rw[hX9];split<;>rfl
      have hs2:=Gf cs1 q X9 .top hpl
      have hle2:(q+1≤(cs1.set q V.top).length)=True:=eq_true (by rw[List.length_set];omega)
      (repeat' (first|(simp (disch:=first|exact dqz|fail) only[pgz,simprocAttr,iT,pgE,pgj,pgv,dB,htl2,hcn0,hto,hB,hBL,hbE,hbE2,hbL,hqW,FO,hX9c,hX91,hs2,hle2,Nat.mul_one,List.length_cons,List.length_nil])|(refine tC ?_;refine cU hAdd ?_)|(refine tE ?_ ?_<;>intro hc)|(with_reducible refine bH ?_)|(refine kw _ _ _ _ _ ?_)|(with_reducible refine cK ?_)))
      (repeat' (first|(simp (disch:=first|exact dqz|fail) only[pgz,simprocAttr,iT,pgE,pgj,pgv,dB,iC])|(refine tE ?_ ?_<;>intro hc)|refine xK ?_|fail))
      have hdr:(cur.drop (cur.length / 2*2)).length≤1:=by simp;omega
      have hlv1:Lvs lo (n1+1) (cs1.set q X9) (W.set q (cur.drop (cur.length / 2*2))):=by
       refine H1.lv.set hql ?_ (by omega) (fun id' h' => .inr ?_)
       ·rw[hX9]
        split
        ·exact .inr (.inr ⟨n1,rfl⟩)
        ·exact .inl ⟨rfl,List.drop_eq_nil_of_le (by omega)⟩
       ·rw[hX9] at h'
        split at h'
        ·simp [V.ids,yn] at h';omega
        ·simp [V.ids,yn] at h'
      have hlv2:Lvs lo (n1+20+cur.length / 2) (cs1.set q X9) (W.set q (cur.drop (cur.length / 2*2))):=hlv1.mono (by omega)
      have hR2:=Cf (z':=z) (t':=t) (l':=(aO lo' (pwI q)).1) (sat':=sat) H1 (by omega) hlv2
      have hfe:FrE lo (iP [(0,.ref b 0),(1,fzb co),(2,vi (a+1)),(7,vi q),(90,.ref b 0),(92,vi ((q+1:Nat):Int)),(93,fzs (evN cur cb (cur.length / 2)))]):=by
       refine oJ ?_
       intro x hx
       simp only[List.mem_cons,List.not_mem_nil,or_false] at hx
       rcases hx with rfl|rfl|rfl|rfl|rfl|rfl|rfl<;>first|exact decide_eq_false (by omega)|rfl
      have hp5:dX (frz (n1+10)) (gm e h)=gm e h:=wU hpF (by omega)
      have hWs:∀i,((W.set q (cur.drop (cur.length / 2*2))).getD i []).length≤100000:=fun i=>by
       rw[yg _ _ _ _ hql]
       split
       ·omega
       ·have:=hWg i;omega
      refine sN ⟨iP [(0,.ref b 0),(1,fzb co),(2,vi (a+1)),(7,vi q),(90,.ref b 0),(92,vi ((q+1:Nat):Int)),(93,fzs (evN cur cb (cur.length / 2)))],rkB lo bx1 b Lb z t (aO lo' (pwI q)).1 sat (W.set q (cur.drop (cur.length / 2*2))) (cs1.set q X9),n1+20+cur.length / 2,gm e h⟩ ?_ rfl (Yx hR2 (q+1) (by omega) (evN cur cb (cur.length / 2)) (by rw[mD];omega) (by rw[List.length_set];omega) hWs _ _ hfe hpF) rfl ?_
      ·refine (Ah (id:=n1+10) hp5).trans (kP ?_ (fun c x' hx => ?_) (Nat.le_refl _))
       ·simp only[mQ,pY,pgo,simprocAttr,and_true,oZ]
        refine⟨bJ _,bJ _,bJ _,bJ _,bJ _, ?_, ?_⟩
        ·exact bJ _
        ·simp only[if_true,beq_self_eq_true]
         exact bJ _
       ·by_cases hcb1:c=b
        ·subst hcb1
         simp only[rkB,if_true,Option.some.injEq,List.length_set] at hx
         subst hx
         refine⟨_,by rw[iG,upd,if_neg (by omega),upd,if_pos rfl];rfl,rfl, ?_⟩
         exact fZ _
        ·by_cases hcL:c=Lb
         ·subst hcL
          simp only[rkB,if_neg hcb1,if_true,Option.some.injEq] at hx
          subst hx
          refine⟨(tLs,(cs1.set q X9).map (frz (n1+10))),by rw[iG,upd,if_pos rfl];rfl,rfl, ?_⟩
          rw[hlv1.mapN (ψ:=frz (n1+10)) (fun c l hc' hid=>qA (wO hc' (fun hm=>by have:=(hid _ hm).2;omega)))]
          exact fZ _
         ·simp only[rkB,if_neg hcb1,if_neg hcL] at hx
          split at hx
          ·rename_i hcl
           refine⟨x', ?_,rfl,fZ _⟩
           rw[kQ (ψ:=frz (n1+10)) (fun x hx2 => ?_)]
           ·rw[upd,if_neg hcL,upd,if_neg hcb1]
            simp only[rkB,if_neg hcb1,if_neg hcL,if_pos hcl]
            exact hx
           ·rw[upd,if_neg hcL,upd,if_neg hcb1] at hx2
            simp only[rkB,if_neg hcb1,if_neg hcL,if_pos hcl] at hx2
            conv=>rhs;rw[←List.map_id x.2]
            exact List.map_congr_left fun w hw=>Gi ((H1.old c x hcb1 hcL hx2).2 w hw) (by omega)
          ·cases hx
      ·rintro s' r ⟨rfl,n2,cs2,k1,k2,rfl⟩
       have hst3:=hst2
       rw[hst3] at k2 ⊢
       (repeat' (first|(simp (disch:=first|exact dqz|fail) only[pgz,simprocAttr,iT,pgE,pgj,pgv,dB,iC])|(refine tE ?_ ?_<;>intro hc)|refine xK ?_|fail))
       refine fin (q+1,evN cur cb (cur.length / 2),(aO lo' (pwI q)).1,a+1,o++[cur.drop (cur.length / 2*2)]) cs2 _ _ n2 (by rw[est,if_neg (by omega)];rfl) rfl (by simp only[mD];omega) (JL lo' (pwI q)) (by simp [i6]) ⟨by simp only;omega,by simp only;omega⟩ (Ag o _ i9 (by omega)) k2 (by omega) ?_ (fun c h1 h2 => ?_) ?_ ?_
       ·exact eE
       ·have h3:c≠Lb:=by omega
        simp only[rkB,if_neg h2,if_neg h3,if_pos h1]
       ·simp only[rkB,if_true]
       ·have h3:Lb≠b:=by omega
        simp only[rkB,if_neg h3,if_true]
    ·have hev:cur.length%2=0:=by rw[htm] at hc;omega
     refine (Ah (id:=id) hp3).trans (kP ?_ (fun c x' hx => ?_) (by omega))
     ·simp only[mQ,pY,pgo,acn,simprocAttr,and_true,hth,oZ]
      refine⟨bJ _,bJ _,bJ _,bJ _, ?_, ?_,FZ (.own (n1+10) tSt) 1,bJ _⟩
      ·rw[List.take_of_length_le (by omega)]
       simp only[pgo,simprocAttr,oZ,if_true,beq_self_eq_true]
       exact bJ _
      ·rw[hX9e hev];exact bJ _
     ·rw[ug]
      exact hbxG _ (fun v hv=>by rw[Af hv,qA hv]) c x' hx
    ·intro k hk
     have hk':k≤cur.length / 2:=hk
     by_cases hlt:k<cur.length / 2
     ·have hcn1:((((cb+2*k:Nat)):Int)<((cur.length / 2*2:Nat):Int))=True:=eq_true (by omega)
      have hel:(sv (cur.take (cur.length / 2*2)))[cb+2*k]?=some (vs (cur.getD (cb+2*k) [])):=by
       have h1:cb+2*k<cur.length:=by omega
       have h2:cb+2*k<cur.length / 2*2:=by omega
       simp [sv,List.getD_eq_getElem?_getD,List.getElem?_eq_getElem h1,List.getElem?_take,h2]
      have hto2:((cb:Int)+((2*k:Nat):Int)).toNat=cb+2*k:=by omega
      have hFk:Fits (k+1) 16:=sU _ (by omega)
      have hap:=fun (e2:Nat→V) (b2:Bxx) (n2:Nat) (h2:Nat→V) (x:V)=>E5 (e:=e2) (b:=b2) (n:=n2) (h:=h2) tSt 1 16 (n1+10) (sv (evN cur cb k)) [x] (by rw[hevl];exact hFk)
      have hUk:(n1+20+k≤n1+10)=False:=eq_false (by omega)
      have hek:sv (evN cur cb k)++[vs (cur.getD (cb+2*k) [])]=sv (evN cur cb (k+1)):=by rw[agM,wL]
      have hnx3:(cb+2*k)+2=cb+2*(k+1):=by omega
      (repeat' (first|(simp (disch:=first|exact dqz|fail) only[pgz,simprocAttr,iT,pgE,pgj,pgv,dB,htl2,hcn1,hel,hto2,hFk,hp4,hbU,hX9p,hUk,hap,hevl,hek,List.length_cons,List.length_nil])|(refine tE ?_ ?_<;>intro hc)|refine xK ?_|fail))
      refine lY (k+1) hlt (by show cur.length / 2-(k+1)<cur.length / 2-k;omega) (gK (gp ?_) (fun c => .inl rfl) (by show _≤n1+20+(k+1);omega))
      ((try simp only[bu,jm,cO,cu,pgo,simprocAttr,and_true,true_and]);try (repeat' (first|exact trivial|rfl|apply aI)))
      all_goals (first|exact hX9p|exact congrArg vi (by omega)|skip)
     ·have hke:k=cur.length / 2:=by omega
      subst hke
      have hcn0:((((cb+2*(cur.length / 2):Nat)):Int)<((cur.length / 2*2:Nat):Int))=False:=eq_false (by omega)
      have hAdd:=CE (BV lo' (pwI q) 1099511627776 (by decide) i3 (OV q))
      have hB:rkB lo bx1 b Lb z t lo' sat W (cs1.set q .top) b=some (tRk,[vi z,vi t,vi lo',.bs Lb tLs 0 1 W.length,.c (.bool sat)]):=by simp [rkB]
      have hBL:rkB lo bx1 b Lb z t lo' sat W (cs1.set q .top) Lb=some (tLs,cs1.set q .top):=by
       have:Lb≠b:=by omega
       simp [rkB,this]
      have hX9c:X9.cs=some [X9]:=by rw[hX9];split<;>rfl
      have hX91:V.one X9=true:=by rw[hX9];split<;>rfl
      have hs2:=Gf cs1 q X9 .top hpl
      have hle2:(q+1≤(cs1.set q V.top).length)=True:=eq_true (by rw[List.length_set];omega)
      (repeat' (first|(simp (disch:=first|exact dqz|fail) only[pgz,simprocAttr,iT,pgE,pgj,pgv,dB,htl2,hcn0,hto,hB,hBL,hbE,hbE2,hbL,hqW,FO,hX9c,hX91,hs2,hle2,Nat.mul_one,List.length_cons,List.length_nil])|(refine tC ?_;refine cU hAdd ?_)|(refine tE ?_ ?_<;>intro hc)|(with_reducible refine bH ?_)|(refine kw _ _ _ _ _ ?_)|(with_reducible refine cK ?_)))
      (repeat' (first|(simp (disch:=first|exact dqz|fail) only[pgz,simprocAttr,iT,pgE,pgj,pgv,dB,iC])|(refine tE ?_ ?_<;>intro hc)|refine xK ?_|fail))
      have hdr:(cur.drop (cur.length / 2*2)).length≤1:=by simp;omega
      have hlv1:Lvs lo (n1+1) (cs1.set q X9) (W.set q (cur.drop (cur.length / 2*2))):=by
       refine H1.lv.set hql ?_ (by omega) (fun id' h' => .inr ?_)
       ·rw[hX9]
        split
        ·exact .inr (.inr ⟨n1,rfl⟩)
        ·exact .inl ⟨rfl,List.drop_eq_nil_of_le (by omega)⟩
       ·rw[hX9] at h'
        split at h'
        ·simp [V.ids,yn] at h';omega
        ·simp [V.ids,yn] at h'
      have hlv2:Lvs lo (n1+20+cur.length / 2) (cs1.set q X9) (W.set q (cur.drop (cur.length / 2*2))):=hlv1.mono (by omega)
      have hR2:=Cf (z':=z) (t':=t) (l':=(aO lo' (pwI q)).1) (sat':=sat) H1 (by omega) hlv2
      have hfe:FrE lo (iP [(0,.ref b 0),(1,fzb co),(2,vi (a+1)),(7,vi q),(90,.ref b 0),(92,vi ((q+1:Nat):Int)),(93,fzs (evN cur cb (cur.length / 2)))]):=by
       refine oJ ?_
       intro x hx
       simp only[List.mem_cons,List.not_mem_nil,or_false] at hx
       rcases hx with rfl|rfl|rfl|rfl|rfl|rfl|rfl<;>first|exact decide_eq_false (by omega)|rfl
      have hp5:dX (frz (n1+10)) (gm e h)=gm e h:=wU hpF (by omega)
      have hWs:∀i,((W.set q (cur.drop (cur.length / 2*2))).getD i []).length≤100000:=fun i=>by
       rw[yg _ _ _ _ hql]
       split
       ·omega
       ·have:=hWg i;omega
      refine sN ⟨iP [(0,.ref b 0),(1,fzb co),(2,vi (a+1)),(7,vi q),(90,.ref b 0),(92,vi ((q+1:Nat):Int)),(93,fzs (evN cur cb (cur.length / 2)))],rkB lo bx1 b Lb z t (aO lo' (pwI q)).1 sat (W.set q (cur.drop (cur.length / 2*2))) (cs1.set q X9),n1+20+cur.length / 2,gm e h⟩ ?_ rfl (Yx hR2 (q+1) (by omega) (evN cur cb (cur.length / 2)) (by rw[mD];omega) (by rw[List.length_set];omega) hWs _ _ hfe hpF) rfl ?_
      ·refine (Ah (id:=n1+10) hp5).trans (kP ?_ (fun c x' hx => ?_) (Nat.le_refl _))
       ·simp only[mQ,pY,pgo,simprocAttr,and_true,oZ]
        refine⟨bJ _,bJ _,bJ _,bJ _,bJ _, ?_, ?_⟩
        ·exact bJ _
        ·simp only[if_true,beq_self_eq_true]
         exact bJ _
       ·by_cases hcb1:c=b
        ·subst hcb1
         simp only[rkB,if_true,Option.some.injEq,List.length_set] at hx
         subst hx
         refine⟨_,by rw[iG,upd,if_neg (by omega),upd,if_pos rfl];rfl,rfl, ?_⟩
         exact fZ _
        ·by_cases hcL:c=Lb
         ·subst hcL
          simp only[rkB,if_neg hcb1,if_true,Option.some.injEq] at hx
          subst hx
          refine⟨(tLs,(cs1.set q X9).map (frz (n1+10))),by rw[iG,upd,if_pos rfl];rfl,rfl, ?_⟩
          rw[hlv1.mapN (ψ:=frz (n1+10)) (fun c l hc' hid=>qA (wO hc' (fun hm=>by have:=(hid _ hm).2;omega)))]
          exact fZ _
         ·simp only[rkB,if_neg hcb1,if_neg hcL] at hx
          split at hx
          ·rename_i hcl
           refine⟨x', ?_,rfl,fZ _⟩
           rw[kQ (ψ:=frz (n1+10)) (fun x hx2 => ?_)]
           ·rw[upd,if_neg hcL,upd,if_neg hcb1]
            simp only[rkB,if_neg hcb1,if_neg hcL,if_pos hcl]
            exact hx
           ·rw[upd,if_neg hcL,upd,if_neg hcb1] at hx2
            simp only[rkB,if_neg hcb1,if_neg hcL,if_pos hcl] at hx2
            conv=>rhs;rw[←List.map_id x.2]
            exact List.map_congr_left fun w hw=>Gi ((H1.old c x hcb1 hcL hx2).2 w hw) (by omega)
          ·cases hx
      ·rintro s' r ⟨rfl,n2,cs2,k1,k2,rfl⟩
       have hst3:=hst2
       rw[hst3] at k2 ⊢
       (repeat' (first|(simp (disch:=first|exact dqz|fail) only[pgz,simprocAttr,iT,pgE,pgj,pgv,dB,iC])|(refine tE ?_ ?_<;>intro hc)|refine xK ?_|fail))
       refine fin (q+1,evN cur cb (cur.length / 2),(aO lo' (pwI q)).1,a+1,o++[cur.drop (cur.length / 2*2)]) cs2 _ _ n2 (by rw[est,if_neg (by omega)];rfl) rfl (by simp only[mD];omega) (JL lo' (pwI q)) (by simp [i6]) ⟨by simp only;omega,by simp only;omega⟩ (Ag o _ i9 (by omega)) k2 (by omega) ?_ (fun c h1 h2 => ?_) ?_ ?_
       ·exact eE
       ·have h3:c≠Lb:=by omega
        simp only[rkB,if_neg h2,if_neg h3,if_pos h1]
       ·simp only[rkB,if_true]
       ·have h3:Lb≠b:=by omega
        simp only[rkB,if_neg h3,if_true]
 ·have hql:=fun h=>hc ((Pq v (q,ca,lo',a,o) i6).1 h)
  have hR5:R=(q,ca,lo',a,o):=by rw[←i4];exact Tj v z co f _ hc
  have hV:jX v (q,ca,lo',a,o)=o:=by
   unfold jX
   simp only
   rw[if_neg (by omega),if_pos (by omega),List.append_nil]
  rw[hV] at H1
  subst hR5
  have hb:=H1.hb
  have hpl:=H1.lv.len
  have hol:o.length≤100000:=by
   have:=Cj v (q,ca,lo',a,o) i6
   rw[hV] at this
   simp only at this
   rw[if_neg (by omega),if_pos (by omega)] at this
   omega
  (repeat' (first|(simp (disch:=first|exact dqz|fail) only[pgz,simprocAttr,iT,pgE,pgj,pgv,dB,hb])|(refine tE ?_ ?_<;>intro hc)|refine xK ?_|fail))
  refine sO (ι:=Nat) (fun m=>⟨iP [(0,.ref b 0),(2,vi a),(12,vi m)],tmB bx1 b Lb z t lo' sat m,n1,gm e h⟩) (fun m=>m≤o.length∧jb m (o.take m)=jb o.length o) (fun m=>m) o.length ?_ ⟨Nat.le_refl _,by rw[List.take_length]⟩ ?_
  ·refine kP (EnvIs.w ?_) (fun c x' hx=>agO H1 hx) (Nat.le_refl _)
   ((try simp only[bu,jm,cO,cu,pgo,simprocAttr,and_true,true_and]);try (repeat' (first|exact trivial|rfl|apply aI)))
  ·rintro m ⟨hm1,hm2⟩
   have hm1:m≤o.length:=hm1
   have hm2:jb m (o.take m)=jb o.length o:=hm2
   have H2:=afh H1 m hm1
   have hb2:=H2.hb
   have hlm:(o.take m).length=m:=by simp;omega
   rw[hlm] at hb2
   have hbLn:Lb≠b:=by have:=H1.n1;have:=H1.n2;omega
   have ext:∀e2:Nat→V,e2 6=vi a→jb o.length o=o.take m→F6 Tryz.prog [.tmp 6] (fun s' r=>r=vi a∧∃n' cs' bx',n≤n'∧RkAt lo n' bx' b Lb z t lo' sat (jb o.length o) cs'∧(∀c,c<lo→c≠b→bx' c=bx c)∧s'=⟨e,bx',n',h⟩) ⟨e2,tmB bx1 b Lb z t lo' sat m,n1,gm e h⟩:=fun e2 h6 ht=>by
    refine F7 ⟨rfl,n1,cs1.take m,_,hn1,by rw[ht];exact H2,fun c h1 h2 => ?_,rfl⟩ ⟨?_,jk _ _,jl _ _,rfl,Nat.le_refl _⟩
    ·have h3:c≠Lb:=by have:=H1.n1;have:=H1.n2;omega
     have e1:tmB bx1 b Lb z t lo' sat m c=bx1 c:=by simp only[tmB,if_neg h2,if_neg h3]
     exact e1.trans (ho1 c h1 h2)
    ·rw[]
     exact congrArg some h6
   cases m with
   | zero =>
    (repeat' (first|(simp (disch:=first|exact dqz|fail) only[pgz,simprocAttr,iT,pgE,pgj,pgv,dB,hb2,iC,gQ,jA])|(refine tE ?_ ?_<;>intro hc)|refine xK ?_|fail))
    exact ext _ rfl hm2.symm
   | succ m =>
    have hq0:m<(o.take (m+1)).length:=by omega
    have hL2:tmB bx1 b Lb z t lo' sat (m+1) Lb=some (tLs,cs1.take (m+1)):=by
     rcases H2.hL with ⟨h1,_⟩|h1
     ·rw[h1] at hq0;exact absurd hq0 (by simp)
     ·exact h1
    have hcell:=H1.lv.cell m (by omega)
    have hget:(cs1.take (m+1))[m]?=some (cs1.getD m yn):=by
     rw[List.getElem?_take,if_pos (by omega),List.getD_eq_getElem?_getD,List.getElem?_eq_getElem (by omega)];rfl
    have hto:(((m:Nat):Int)+1-1).toNat=m:=by omega
    have hts:=TD o m hm1
    have hgt:(((m:Nat):Int)+1 > 0)=True:=eq_true (by omega)
    rcases hcell with ⟨hc1,hc2⟩|⟨hc1,hc2⟩|⟨id,hc1⟩
    ·rw[hc1] at hget
     have h0:(o.getD m []).length=0:=by rw[hc2];rfl
     (repeat' (first|(simp (disch:=first|exact dqz|fail) only[pgz,simprocAttr,iT,pgE,pgj,pgv,dB,hb2,hL2,hget,hto,hgt,iC,Nat.mul_one,gQ,jA])|(refine tE ?_ ?_<;>intro hc)|refine xK ?_|fail))
     refine lY m ⟨by omega,by rw[←hm2,hts,if_pos h0]⟩ (Nat.lt_succ_self m) (kP (EnvIs.w ?_) (fun c x' hx=>YK hbLn hx) (Nat.le_refl _))
     ((try simp only[bu,jm,cO,cu,pgo,simprocAttr,and_true,true_and]);try (repeat' (first|exact trivial|rfl|apply aI)))
     all_goals exact congrArg vi (by omega)
    ·rw[hc1] at hget
     have h0:(o.getD m []).length=0:=by rw[hc2];rfl
     (repeat' (first|(simp (disch:=first|exact dqz|fail) only[pgz,simprocAttr,iT,pgE,pgj,pgv,dB,hb2,hL2,hget,hto,hgt,iC,Nat.mul_one,gQ,jA])|(refine tE ?_ ?_<;>intro hc)|refine xK ?_|fail))
     refine lY m ⟨by omega,by rw[←hm2,hts,if_pos h0]⟩ (Nat.lt_succ_self m) (kP (EnvIs.w ?_) (fun c x' hx=>YK hbLn hx) (Nat.le_refl _))
     ((try simp only[bu,jm,cO,cu,pgo,simprocAttr,and_true,true_and]);try (repeat' (first|exact trivial|rfl|apply aI)))
     all_goals exact congrArg vi (by omega)
    ·rw[hc1] at hget
     have hsl:=eG (o.getD m [])
     by_cases h0:(o.getD m []).length=0
     ·have h0i:((((o.getD m []).length:Nat):Int)=0)=True:=eq_true (by omega)
      (repeat' (first|(simp (disch:=first|exact dqz|fail) only[pgz,simprocAttr,iT,pgE,pgj,pgv,dB,hb2,hL2,hget,hto,hgt,iC,hsl,h0i,Nat.mul_one,gQ,jA])|(refine tE ?_ ?_<;>intro hc)|refine xK ?_|fail))
      refine lY m ⟨by omega,by rw[←hm2,hts,if_pos h0]⟩ (Nat.lt_succ_self m) (kP (EnvIs.w ?_) (fun c x' hx=>YK hbLn hx) (Nat.le_refl _))
      ((try simp only[bu,jm,cO,cu,pgo,simprocAttr,and_true,true_and]);try (repeat' (first|exact trivial|rfl|apply aI)))
      all_goals exact congrArg vi (by omega)
     ·have h0i:((((o.getD m []).length:Nat):Int)=0)=False:=eq_false (by omega)
      (repeat' (first|(simp (disch:=first|exact dqz|fail) only[pgz,simprocAttr,iT,pgE,pgj,pgv,dB,hb2,hL2,hget,hto,hgt,iC,hsl,h0i,Nat.mul_one,gQ,jA])|(refine tE ?_ ?_<;>intro hc)|refine xK ?_|fail))
      exact ext _ rfl (by rw[←hm2,hts,if_neg h0])
end
end Go.Proofs.YtiohdbjggmmjcaaGreat
end
