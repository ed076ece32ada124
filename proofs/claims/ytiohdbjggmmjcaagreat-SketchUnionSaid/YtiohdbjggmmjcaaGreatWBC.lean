/-
  Merged texts.
-/
import Derived.Test.YtiohdbjggmmjcaaGreatWAZ
import Derived.Test.YtiohdbjggmmjcaaGreatWAX
import Derived.Test.YtiohdbjggmmjcaaGreatWBB
import Derived.Test.YtiohdbjggmmjcaaGreatWAS
import Derived.Test.YtiohdbjggmmjcaaGreatWAW
set_option linter.unusedVariables false
set_option linter.unusedSimpArgs false
set_option linter.unusedSectionVars false
set_option linter.defProp false
set_option maxRecDepth 100000
set_option maxHeartbeats 8000000
section
namespace Go.Proofs.YtiohdbjggmmjcaaGreat
open Go Go.Pg
abbrev eV(x:En):V := .agg [vs x.1,vi x.2.1,vi x.2.2]
theorem ahV{β:Type}(f:Nat→β)(c:Nat)(x y:β):upd (upd f c x) c y=upd f c y:=by
 funext t
 simp only[upd]
 split<;>rfl
def wV(x:En):En:=(x.1,x.2.1,min x.2.2 (x.2.1-1))
def nM(l:List En):List En:=l.map wV
def uV(l:List En)(i:Nat):List (Nat × V):=(List.range i).map fun j=>(j,eV (wV (l.getD j ([],0,0))))
theorem Eg(l:List En)(i:Nat):uV l (i+1)=uV l i++[(i,eV (wV (l.getD i ([],0,0))))]:=by simp [uV,List.range_succ]
def sW(l:List En)(i:Nat):List En:=(l.take i).map wV++l.drop i
theorem YM(l:List En)(i:Nat)(h:i≤l.length):(sW l i).length=l.length:=by simp [sW];omega
theorem YN(l:List En):sW l 0=l:=by simp [sW]
theorem JM(l:List En):sW l l.length=nM l:=by simp [sW,nM]
theorem YO(l:List En)(i:Nat)(h:i<l.length):(sW l i).getD i ([],0,0)=l.getD i ([],0,0):=by
 unfold sW
 rw[List.getD_eq_getElem?_getD,List.getElem?_append_right (by simp;omega)]
 simp [List.getD,h,List.length_take,Nat.min_eq_left (Nat.le_of_lt h)]
theorem JO(l:List En)(i:Nat)(h:i<l.length):(sW l i).set i (wV (l.getD i ([],0,0)))=sW l (i+1):=by
 unfold sW
 have hl:((l.take i).map wV).length=i:=by simp;omega
 rw[iR l i ([],0,0) h,List.set_append_right _ _ (by omega),hl,Nat.sub_self,List.set_cons_zero]
 have e:l.take (i+1)=l.take i++[l.getD i ([],0,0)]:=by
  rw[List.take_succ_eq_append_getElem h];congr 2;simp [List.getD,h]
 rw[e]
 simp
theorem acz(l:List En):∀i,i≤l.length→apw (uV l i) (ev l)=ev (sW l i):=by
 intro i
 induction i with
 | zero=>intro _;rw[YN];rfl
 | succ i ih =>
  intro h
  rw[Eg,ab2,ih (by omega),←JO l i h,←o6]
  rfl
section
variable (e:Nat→V) (bx:Bxx) (n:Nat) (h:Nat→V)
def Gj(id:Nat)(l:List En)(v:V):V:=tuO id 3 (ev (srt bfE (nM l))) (wrs id 3 (uV l l.length) v)
theorem CG(id:Nat)(l:List En)(hn:l.length≤1000)(hd:l.Pairwise fun a b=>a.1≠b.1)(ho:octE l)(hc:∀x∈l, -9000000000000000000≤x.2.1∧x.2.1≤9000000000000000000) :
  Gxz 80 [.sl (.own id 119) 3 (ev l)] ⟨e,bx,n,h⟩ ⟨dX (Gj id l) e,mapB (Gj id l) bx,n+l.length,dX (Gj id l) h⟩ (.tup []):=by
 have hel:=aG l
 have hfl:(nM l).length=l.length:=by simp [nM]
 have hfd:(nM l).Pairwise fun a b=>a.1≠b.1:=by unfold nM;rw[List.pairwise_map];exact hd
 have hfo:octE (nM l):=fun x hx=>by obtain⟨y,hy,rfl⟩:=List.mem_map.1 hx;exact ho y hy
 refine GoodZ.leN (bx':=mapB (tuO id 3 (ev (srt bfE (nM l)))) (xM n (mapB (wrs id 3 (uV l l.length)) bx))) (n':=n+l.length) ?_ (Nat.le_refl _) ?_
 ·refine gZ oW Tryz.func80 Tryz.results80 ?_
  refine wS (aI @oq (aI @jK (aI @gU @hel))) trivial ?_
  refine Yb (fun i:Nat=>[(0,.sl (.own id 119) 3 (ev (sW l i))),(4,.sl (.own id 119) 3 (ev (sW l i))),(5,vi l.length),(6,vi i)]) (fun i=>xM n (mapB (wrs id 3 (uV l i)) bx)) (fun i=>n+i) (fun i=>dX (wrs id 3 (uV l i)) (gm e h)) (fun i=>i≤l.length) (fun i=>l.length-i) 0 ?_ (fun b=>by rcases ab5 n (mapB (wrs id 3 (uV l 0)) bx) b with h1|h1;exact .inl (by rw[h1];exact congrFun (Ya id 3 bx) b);exact .inr h1) (Nat.le_refl _) rfl (Nat.zero_le _) ?_
  ·rw[YN]
   ((try simp only[bu,jm,cO,cu,pgo,simprocAttr,and_true,true_and]);try (repeat' (first|exact trivial|rfl|apply aI)))
  ·intro i hi
   replace hi:i≤l.length:=hi
   have hpl:=YM l i hi
   have hel2:(ev (sW l i)).length=l.length:=by rw[aG,hpl]
   rcases Nat.lt_or_ge i l.length with hlt|hge
   ·have hg:=eY (sW l i) i (by omega)
    rw[YO l i hlt] at hg
    have hst:=JO l i hlt
    have hwn:=Eg l i
    have hcx:=hc (l.getD i ([],0,0)) (by rw[List.getD_eq_getElem?_getD,List.getElem?_eq_getElem hlt];exact List.getElem_mem hlt)
    generalize l.getD i ([],0,0)=x at *
    have hes:=o6 (sW l i) i x.1 x.2.1 (min x.2.2 (x.2.1-1))
    have ef:(x.1,x.2.1,min x.2.2 (x.2.1-1))=wV x:=rfl
    rw[ef,hst] at hes
    have ew:∀W:List (Nat × V),W++[(i,V.agg [vs x.1,vi x.2.1,vi (min x.2.2 (x.2.1-1))])]=W++[(i,eV (wV x))]:=fun _=>rfl
    refine wS (aI @ahT (aI @mmF (aI @hel2 (aI @hg (aI @hes (aI @jK @gU)))))) trivial ?_
    refine Yc (i+1) hlt (by omega) ?_ (fun b=>by (try simp only);rw[hwn,ahV];exact SK id 3 i _ (uV l i) bx n (n+i) (by omega) _ b) (by omega) (by (try simp only);rw[hwn,←ew])
    ((try simp only[bu,jm,cO,cu,pgo,simprocAttr,and_true,true_and]);try (repeat' (first|exact trivial|rfl|apply aI)))
    all_goals (simp only[pgo,hes];first|exact trivial|rfl|skip)
   ·have:i=l.length:=by omega
    subst this
    rw[JM] at *
    have hzs:=fun s=>acs (nM l) hfd hfo (by omega) id 119 s
    have hmV:∀(e2:Nat→V) (b2:Bxx) (n2:Nat) (h2:Nat→V) (ψ:V→V),St.mapV ⟨e2,b2,n2,h2⟩ ψ=⟨dX ψ e2,mapB ψ b2,n2,dX ψ h2⟩:=fun _ _ _ _ _=>rfl
    (repeat' first|refine wP (aI @hel2 (aI @hmV (aI @jK @gU))) trivial ?_|refine cZ (hzs _) ?_|refine tS ?_ ?_<;>intro hc|fail)
    refine Fz (P6 _ _) ?_
    rw[OH,OI,OH,OI,jk,jl]
    rfl
 ·intro b
  by_cases hb:b<n
  ·left
   have e1:=congrFun (ug (tuO id 3 (ev (srt bfE (nM l)))) (wrs id 3 (uV l l.length)) bx) b
   have e2:xM n (mapB (wrs id 3 (uV l l.length)) bx) b=mapB (wrs id 3 (uV l l.length)) bx b:=if_pos hb
   have e3:mapB (tuO id 3 (ev (srt bfE (nM l)))) (xM n (mapB (wrs id 3 (uV l l.length)) bx)) b=mapB (tuO id 3 (ev (srt bfE (nM l)))) (mapB (wrs id 3 (uV l l.length)) bx) b:=by rw[iG,iG,e2]
   exact (e3.trans e1).symm
  ·refine .inr (.inr ⟨by omega,fun h0 => ?_⟩)
   rw[iG,h0];rfl
theorem qB(id:Nat)(l:List En)(v:Value):Gj id l (.c v) = .c v:=by unfold Gj;rw[agA];rfl
theorem kR(id:Nat)(l:List En)(b o:Nat):Gj id l (.ref b o) = .ref b o:=by unfold Gj;rw[ab4];rfl
theorem FW(id:Nat)(l:List En)(ty:TypeId):Gj id l (.sl (.own id ty) 3 (ev l)) = .sl (.own id ty) 3 (ev (srt bfE (nM l))):=by
 unfold Gj
 rw[ab3,acz l _ (Nat.le_refl _),JM,Ae]
 rw[aG,aG,wI]
theorem alG(b:Nat)(k:List Nat)(w:Int)(y:En)(hk:oct k)(hy:oct y.1)(hb:bx b=some (45,[vs k,vi w]))(hbn:b<n) :
  Gxz 79 [eV y,.ref b 0] ⟨e,bx,n,h⟩ ⟨e,bx,n+1,h⟩ (vb (decide (y.1=k))):=by
 have hd:=uO hy hk
 have hne:¬b=n:=by omega
 refine GoodZ.leN (bx':=upd bx n (some (119,[vs y.1,vi y.2.1,vi y.2.2]))) (n':=n+1) ?_ (Nat.le_refl _) ?_
 ·refine gZ oW Tryz.func79 Tryz.results79 ?_
  refine wS (aI @oq (aI @jK (aI @gU (aI @hb (aI @hd @hne))))) trivial ?_
  refine Fz (aW _ _ _) ?_
  rw[jk,jl]
 ·intro c
  by_cases hc:c=n
  ·refine .inr (.inr ⟨by omega,fun h0=>h0⟩)
  ·exact .inl (by rw[TY _ _ _ _ hc])
theorem GN(b:Nat)(k:List Nat)(w:Int)(l:List En)(tg:Tag)(ho:octE l)(hk:oct k)(hn:l.length≤1000000)(hb:bx b=some (45,[vs k,vi w]))(hbn:b<n) :
  Gxz 78 [.sl tg 3 (ev l),.fn 79 [] [.ref b 0]] ⟨e,bx,n,h⟩ ⟨e,bx,n+l.length,h⟩ (vi (bi l k)):=by
 have hel:=aG l
 refine gZ oW Tryz.func78 Tryz.results78 ?_
 refine wS (aI @oq (aI @jK (aI @gU @hel))) trivial ?_
 refine Yb (fun i:Nat=>[(0,.sl tg 3 (ev l)),(1,.fn 79 [] [.ref b 0]),(7,vi l.length),(8,vi i)]) (fun _=>bx) (fun i=>n+i) (fun _=>gm e h) (fun i=>i≤l.length∧bi l k=jd k i (l.drop i)) (fun i=>l.length-i) 0 ?_ (fun _ => .inl rfl) (Nat.le_refl _) rfl ⟨Nat.zero_le _,rfl⟩ ?_
 ·((try simp only[bu,jm,cO,cu,pgo,simprocAttr,and_true,true_and]);try (repeat' (first|exact trivial|rfl|apply aI)))
 ·rintro i ⟨hi,he⟩
  rcases Nat.lt_or_ge i l.length with hlt|hge
  ·have hg:=eY l i hlt
   have hox:=fV ho i
   rw[BC l i hlt] at he
   generalize l.getD i ([],0,0)=x at *
   have hz:=fun e h=>alG e bx (n+i) h b k w x hk hox hb (by omega)
   by_cases hx:x.1=k
   ·have hr:bi l k=(i:Int):=by rw[he];exact if_pos hx
    rw[decide_eq_true hx] at hz
    rw[hr]
    (repeat' first|refine wP (aI @hel (aI @hg (aI @jK @gU))) trivial ?_|refine cY (hz _ _) ?_|refine tS ?_ ?_<;>intro hc|fail)
    (refine Xo (by first|exact aW _ _ _|exact bD _ _ _ _|(simp (disch:=first|assumption|omega|(simp only[Fits,maxLen,pgq] at *;omega)) only[pgr,pgo,tyf,simprocAttr];done)|(simp (disch:=first|assumption|omega|(simp only[Fits,maxLen,pgq] at *;omega)) only[pgr,pgo,tyf,simprocAttr];rfl)) (jk _ _) (jl _ _) (by first|rfl|skip) (by first|omega|skip))
   ·have hr:bi l k=jd k (i+1) (l.drop (i+1)):=by rw[he];exact if_neg hx
    rw[decide_eq_false hx] at hz
    (repeat' first|refine wP (aI @hel (aI @hg (aI @jK @gU))) trivial ?_|refine cY (hz _ _) ?_|refine tS ?_ ?_<;>intro hc|fail)
    refine Yc (i+1) ⟨hlt,hr⟩ (by omega) ?_ (fun _ => .inl rfl) (by omega) rfl
    ((try simp only[bu,jm,cO,cu,pgo,simprocAttr,and_true,true_and]);try (repeat' (first|exact trivial|rfl|apply aI)))
  ·have:i=l.length:=by omega
   subst this
   rw[List.drop_length] at he
   have hr:bi l k = -1:=he
   rw[hr]
   refine wS (aI @hel (aI @jK @gU)) trivial ?_
   (refine Xo (by first|exact aW _ _ _|exact bD _ _ _ _|(simp (disch:=first|assumption|omega|(simp only[Fits,maxLen,pgq] at *;omega)) only[pgr,pgo,tyf,simprocAttr];done)|(simp (disch:=first|assumption|omega|(simp only[Fits,maxLen,pgq] at *;omega)) only[pgr,pgo,tyf,simprocAttr];rfl)) (jk _ _) (jl _ _) (by first|rfl|skip) (by first|omega|skip))
theorem JP(b:Nat)(a c:Int)(z t:Int)(en:V)(sa:Bool)(ha:W64 a)(hc:W64 c)(hb:bx b=some (34,[vi z,vi t,en,vb sa])) :
  Gxz 77 [.ref b 0,vi a,vi c] ⟨e,bx,n,h⟩ ⟨e,upd bx b (some (34,[vi z,vi t,en,vb (sa||(aO a c).2)])),n,h⟩ (vi (aO a c).1):=by
 have k1:Gxx 72 [vi a,vi c,vi 1099511627776] (.tup [vi (aO a c).1,vb (aO a c).2]):=BV a c 1099511627776 (by decide) ha hc
 generalize aO a c=r at *
 obtain⟨r1,r2⟩:=r
 simp only at k1 ⊢
 cases sa<;>cases r2
 all_goals
  refine gZ oW Tryz.func77 Tryz.results77 ?_
  refine wS (aI @oq (aI @jK (aI @gU @hb))) k1 ?_
  refine Fz (aW _ _ _) ?_
  rw[jk,jl]
end
theorem Gl(x:Tp)(hn:x.e.length≤1000000):Gxx 76 [.agg (tpF x)] (vi (fK x)):=by
 obtain⟨z,t,l,b⟩:=x
 simp only at hn
 unfold fK
 simp only
 have hel:=aG l
 by_cases c1:l.length=0
 ·rw[if_pos (.inl c1)]
  refine gI oW Tryz.func76 Tryz.results76 ?_
  exact wR @aG trivial ay
 ·by_cases c2:(l.length:Int)=z
  ·rw[if_neg (by omega)]
   have hg:=eY l (l.length-1) (by omega)
   generalize l.getD (l.length-1) eD=y at *
   have hi:((l.length:Int)-1).toNat=l.length-1:=by omega
   refine gI oW Tryz.func76 Tryz.results76 ?_
   exact wR (aI @aG (aI @hi @hg)) trivial ay
  ·rw[if_pos (.inr c2)]
   refine gI oW Tryz.func76 Tryz.results76 ?_
   exact wR @aG trivial ay
end Go.Proofs.YtiohdbjggmmjcaaGreat
end
namespace Go.Proofs.YtiohdbjggmmjcaaGreat
open Go Go.Pg
theorem Gm(ids:List Nat):∀(e:Nat→V) (bx:Bxx) (n:Nat) (h:Nat→V),(St.freezeAll ⟨e,bx,n,h⟩ ids)=⟨dX (kC ids) e,mapB (kC ids) bx,n,dX (kC ids) h⟩:=by
 induction ids with
 | nil =>
  intro e bx n h
  have hb:mapB (kC []) bx=bx:=by
   funext c
   show (bx c).map _=bx c
   cases bx c with
   | none=>rfl
   | some x =>
    have:(fun v=>kC [] v)=(fun v=>v):=rfl
    show some (x.1,List.map (fun v=>kC [] v) x.2)=some x
    rw[this];simp
  have he:∀e:Nat→V,dX (kC []) e=e:=fun e=>rfl
  rw[hb,he,he];rfl
 | cons i ids ih =>
  intro e bx n h
  show St.freezeAll (St.mapV ⟨e,bx,n,h⟩ (frz i)) ids=_
  have e1:St.mapV ⟨e,bx,n,h⟩ (frz i)=⟨dX (frz i) e,mapB (frz i) bx,n,dX (frz i) h⟩:=rfl
  rw[e1,ih,ug]
  rfl
theorem Ai{lo:Nat}{v:V}(hv:Fr lo v):∀(ids:List Nat),(∀i∈ids,lo≤i)→kC ids v=v
 | [],_=>rfl
 | i::ids,h=>by
  rw[pF,Gi hv (h i (List.mem_cons_self ..))]
  exact Ai hv ids (fun j hj=>h j (List.mem_cons_of_mem _ hj))
theorem oK{v:V}(hv:∀i,v.has i=false):∀(ids:List Nat),kC ids v=v
 | []=>rfl
 | i::ids=>by
  rw[pF,qA (hv i)]
  exact oK hv ids
theorem Py(k:Nat)(xs:List V):∀(ids:List Nat),kC ids (.sl .fz k xs) = .sl .fz k xs
 | []=>rfl
 | i::ids=>by
  rw[pF]
  have:frz i (.sl .fz k xs) = .sl .fz k xs:=by simp [oZ,pgo]
  rw[this]
  exact Py k xs ids
theorem JQ(id:Nat)(e:TypeId)(k:Nat)(xs:List V):∀(ids:List Nat),id∈ids→kC ids (.sl (.own id e) k xs) = .sl .fz k xs
 | [],h=>absurd h (by simp)
 | i::ids,h=>by
  rw[pF]
  by_cases hi:i=id
  ·subst hi
   have:frz i (.sl (.own i e) k xs) = .sl .fz k xs:=by simp [oZ,pgo]
   rw[this]
   exact Py k xs ids
  ·have:frz i (.sl (.own id e) k xs) = .sl (.own id e) k xs:=by
    have h2:(id == i)=false:=by simp;omega
    simp [oZ,pgo,h2]
   rw[this]
   exact JQ id e k xs ids (by rcases List.mem_cons.1 h with h|h;exact absurd h.symm hi;exact h)
theorem TE(lo b:Nat)(hb:lo≤b)(cs:List V):(∀v:V,v.any (Tag.gf lo) (fun b=>decide (lo≤b)) false=false→V.fb b cs v=v)∧(∀l,V.anyL (Tag.gf lo) (fun b=>decide (lo≤b)) false l=false→V.fbL b cs l=l):=by
 refine V.ind ?_ ?_ ?_ ?_ ?_ ?_ ?_ ?_ ?_ ?_ ?_ ?_ ?_
 ·intro v _;rfl
 ·intro _;rfl
 ·intro t k xs _ h;rfl
 ·intro t es h;rfl
 ·intro cs ih h;simp only[V.fb];rw[ih h]
 ·intro cs ih h;simp only[V.fb];rw[ih h]
 ·intro j off h
  have h1:decide (lo≤j)=false:=h
  have h2:=of_decide_eq_false h1
  simp only[V.fb];rw[if_neg (by omega)]
 ·intro j be bo bk bn h
  have h1:decide (lo≤j)=false:=h
  have h2:=of_decide_eq_false h1
  simp only[V.fb];rw[if_neg (by omega)]
 ·intro t k xs i off _ h;rfl
 ·intro f fs cs ih1 ih2 h
  simp only[V.any,Bool.or_eq_false_iff] at h
  simp only[V.fb];rw[ih1 h.1,ih2 h.2]
 ·intro h;rfl
 ·intro _;rfl
 ·intro x xs ih1 ih2 h
  simp only[V.anyL,Bool.or_eq_false_iff] at h
  simp only[V.fbL];rw[ih1 h.1,ih2 h.2]
theorem YP{lo b:Nat}{cs:List V}{v:V}(h:Fr lo v)(hb:lo≤b):V.fb b cs v=v:=(TE lo b hb cs).1 v h
def Im(a b:V):Prop:=∀L w u,Rep L w a u→Rep L w b u
theorem Im.rfl{a:V}:Im a a:=fun _ _ _ h=>h
theorem Im.of{a b:V}(h:wkT a b):Im a b:=fun _ _ _ hr=>F5 h hr
theorem agQ(k:Nat):Im (.sl .nn k []) (.sl .fz k []):=by
 rintro L w u ⟨ad,cap,cells,rfl,h1,h2,h3,h4⟩
 exact⟨ad,cap,cells,rfl,h1,by simp,.inl rfl⟩
theorem agR(j:Nat)(e:TypeId)(o:Nat):Im (.bs j e o 1 0) (.sl .fz 1 []):=by
 intro L w u hr
 rcases hr with ⟨_,rfl⟩|⟨g,cap,arr,h1,rfl,h3,h4,h5,h6⟩
 ·exact⟨none,0,[],rfl,rfl,Nat.le_refl _,.inl rfl⟩
 ·exact⟨_,cap,[],rfl,rfl,Nat.zero_le _,.inl rfl⟩
def Ims:List V→List V→Prop
 | [],[]=>True
 | a::xs,b::ys=>Im a b∧Ims xs ys
 | _,_=>False
theorem Ims.rfl:∀{l:List V},Ims l l
 | []=>trivial
 | _::_=>⟨Im.rfl,Ims.rfl⟩
theorem Ims.len:∀{xs ys:List V},Ims xs ys→xs.length=ys.length
 | [],[],_=>by simp
 | a::xs,b::ys,h=>by simp [Ims.len h.2]
 | [],_::_,h=>h.elim
 | _::_,[],h=>h.elim
theorem Ims.reps{L:Lay}{w:World}:∀{xs ys:List V} {us:List Value},Ims xs ys→Reps L w xs us→Reps L w ys us
 | [],[],_,_,h=>h
 | a::xs,b::ys,_,⟨h1,h2⟩,⟨u,r,e,k1,k2⟩=>⟨u,r,e,h1 _ _ _ k1,Ims.reps h2 k2⟩
 | [],_::_,_,h,_=>h.elim
 | _::_,[],_,h,_=>h.elim
theorem afi{xs ys:List V}(hl:xs.length=ys.length)(h:∀j,j<xs.length→Im (xs.getD j yn) (ys.getD j yn)):Ims xs ys:=by
 induction xs generalizing ys with
 | nil=>cases ys with
  | nil=>trivial
  | cons y ys=>simp at hl
 | cons x xs ih=>cases ys with
  | nil=>simp at hl
  | cons y ys =>
   refine⟨h 0 (by simp),ih (by simpa using hl) (fun j hj => ?_)⟩
   have:=h (j+1) (by simp;omega)
   simpa using this
theorem Gn{e:Nat→V}{bx bx':Bxx}{n:Nat}{h:Nat→V}(hb:∀c x',bx' c=some x'→∃x,bx c=some x∧x.1=x'.1∧Ims x.2 x'.2):Weak ⟨e,bx,n,h⟩ ⟨e,bx',n,h⟩:=by
 intro C L a w S
 refine⟨L,S.defers,S.size,S.env,S.hid,fun c x' hc => ?_,S.wf,S.kp⟩
 obtain⟨x,hx,h1,h2⟩:=hb c x' hc
 obtain⟨g,arr,k1,k2,k3⟩:=S.box c x hx
 refine⟨g,arr,k1,by rw[←h1];exact k2, ?_⟩
 rw[←h2.len]
 exact h2.reps k3
def Gp(lo:Nat)(bx:Bxx)(b:Nat)(z t l:Int)(sat:Bool)(v:List (List (List Nat))):Bxx :=
 fun c=>if c=b then some (tRk,[vi z,vi t,vi l,fzl v,.c (.bool sat)]) else if c<lo then bx c else none
theorem YQ{cs:List V}{j id:Nat}(hj:j<cs.length)(h:id∈V.ids (cs.getD j yn)):id∈cs.flatMap V.ids:=by
 refine List.mem_flatMap.2 ⟨cs.getD j yn, ?_,h⟩
 rw[List.getD_eq_getElem?_getD,List.getElem?_eq_getElem hj]
 exact List.getElem_mem hj
theorem YR{lo n:Nat}{bx:Bxx}{b Lb:Nat}{z t l:Int}{sat:Bool}{v:List (List (List Nat))}{cs:List V}(H:RkAt lo n bx b Lb z t l sat v cs){e h:Nat→V}(he:FrE lo e)(hh:FrE lo h):Weak ⟨e,bx,n,h⟩ ⟨e,Gp lo bx b z t l sat v,n,h⟩:=by
 have h1:=H.n1;have h2:=H.n2;have h3:=H.n3
 have hlen:=H.lv.len
 have hids:∀i∈cs.flatMap V.ids,lo≤i:=fun i hi=>by
  obtain⟨c,hc,hic⟩:=List.mem_flatMap.1 hi
  obtain⟨j,hj,rfl⟩:=List.mem_iff_getElem.1 hc
  refine (H.lv.ids j i (by omega) ?_).1
  rw[List.getD_eq_getElem?_getD,List.getElem?_eq_getElem hj];exact hic
 have w1:=Yi ⟨e,bx,n,h⟩ (cs.flatMap V.ids)
 rw[Gm,qy (fun t=>Ai (he t) _ hids),qy (fun t=>Ai (hh t) _ hids)] at w1
 have hmo:∀c x,c≠b→c≠Lb→bx c=some x→mapB (kC (cs.flatMap V.ids)) bx c=some x:=fun c x k1 k2 hx=>by
  rw[kQ (fun y hy => ?_)]
  ·exact hx
  ·conv=>rhs;rw[←List.map_id y.2]
   exact List.map_congr_left fun w hw=>Ai ((H.old c y k1 k2 hy).2 w hw) _ hids
 have hmb:mapB (kC (cs.flatMap V.ids)) bx b=some (tRk,[vi z,vi t,vi l,.bs Lb tLs 0 1 v.length,.c (.bool sat)]):=by
  rw[iG,H.hb]
  show some _=some _
  refine congrArg some (Prod.ext rfl ?_)
  show List.map _ _=_
  simp only[List.map_cons,List.map_nil]
  rw[oK (fun _=>rfl),oK (v:=vi t) (fun _=>rfl),oK (v:=vi l) (fun _=>rfl),oK (v := .bs Lb tLs 0 1 v.length) (fun _=>rfl),oK (v := .c (.bool sat)) (fun _=>rfl)]
 rcases H.hL with ⟨k1,k2,k3⟩|hL
 ·subst k1
  refine w1.trans (Gn fun c x' hx => ?_)
  by_cases hcb:c=b
  ·subst hcb
   simp only[Gp,if_true,Option.some.injEq] at hx
   subst hx
   exact⟨_,hmb,rfl,Im.rfl,Im.rfl,Im.rfl,agR _ _ _,Im.rfl,trivial⟩
  ·simp only[Gp,if_neg hcb] at hx
   split at hx
   ·exact⟨x',hmo c x' hcb (by omega) hx,rfl,Ims.rfl⟩
   ·cases hx
 ·have hcm:Ims (cs.map (kC (cs.flatMap V.ids))) (lv v):=by
   refine afi (by simp [lv,hlen]) fun j hj => ?_
   simp only[List.length_map] at hj
   have e1:(cs.map (kC (cs.flatMap V.ids))).getD j yn=kC (cs.flatMap V.ids) (cs.getD j yn):=by
    simp [List.getD_eq_getElem?_getD,List.getElem?_eq_getElem hj]
   have e2:(lv v).getD j yn=fzs (v.getD j []):=by
    have:j<v.length:=by omega
    simp [lv,List.getD_eq_getElem?_getD,List.getElem?_eq_getElem this]
   rw[e1,e2]
   have hmi:=@YQ cs j
   rcases H.lv.cell j (by omega) with ⟨k1,k2⟩|⟨k1,k2⟩|⟨id,k1⟩
   ·rw[k1,k2,oK (fun _=>rfl)]
    exact Im.of (FZ _ _)
   ·rw[k1,k2,oK (fun _=>rfl)]
    exact agQ 1
   ·rw[k1] at hmi ⊢
    rw[JQ _ _ _ _ _ (hmi (id:=id) hj (by simp [V.ids]))]
    exact Im.rfl
  have w2:Weak ⟨e,mapB (kC (cs.flatMap V.ids)) bx,n,h⟩ ⟨e,fun c=>if c=b then some (tRk,[vi z,vi t,vi l,.bs Lb tLs 0 1 v.length,.c (.bool sat)]) else if c=Lb then some (tLs,lv v) else if c<lo then bx c else none,n,h⟩:=by
   refine Gn fun c x' hx => ?_
   by_cases hcb:c=b
   ·subst hcb
    simp only[if_true,Option.some.injEq] at hx
    subst hx
    exact⟨_,hmb,rfl,Ims.rfl⟩
   ·by_cases hcL:c=Lb
    ·subst hcL
     simp only[if_neg hcb,if_true,Option.some.injEq] at hx
     subst hx
     exact⟨(tLs,cs.map (kC (cs.flatMap V.ids))),by rw[iG,hL];rfl,rfl,hcm⟩
    ·simp only[if_neg hcb,if_neg hcL] at hx
     split at hx
     ·exact⟨x',hmo c x' hcb hcL hx,rfl,Ims.rfl⟩
     ·cases hx
  refine (w1.trans w2).trans ((ace (b:=Lb) (e:=tLs) (cs:=lv v) ?_ ?_).trans ?_)
  ·show (if Lb=b then _ else if Lb=Lb then _ else _)=_
   rw[if_neg (by omega),if_pos rfl]
  ·rw[List.all_eq_true]
   intro x hx
   obtain⟨y,_,rfl⟩:=List.mem_map.1 hx
   rfl
  ·have e1:dX (V.fb Lb (lv v)) e=e:=qy fun t=>YP (he t) h2
   have e2:dX (V.fb Lb (lv v)) h=h:=qy fun t=>YP (hh t) h2
   unfold fbS
   have e3:∀B:Bxx,St.mapV ⟨e,B,n,h⟩ (V.fb Lb (lv v))=⟨e,mapB (V.fb Lb (lv v)) B,n,h⟩:=fun B=>by
    show (⟨dX _ e,mapB _ B,n,dX _ h⟩:St)=_
    rw[e1,e2]
   rw[e3]
   refine Gn fun c x' hx => ?_
   by_cases hcb:c=b
   ·subst hcb
    simp only[Gp,if_true,Option.some.injEq] at hx
    subst hx
    refine⟨(tRk,[vi z,vi t,vi l,.bs Lb tLs 0 1 v.length,.c (.bool sat)].map (V.fb Lb (lv v))),by simp only[upd,if_neg (show ¬c=Lb by omega),if_true];rfl,rfl, ?_⟩
    simp only[List.map_cons,List.map_nil]
    refine⟨Im.rfl,Im.rfl,Im.rfl, ?_,Im.rfl,trivial⟩
    have hlv:=fD v
    have:V.fb Lb (lv v) (.bs Lb tLs 0 1 v.length)=fzl v:=by
     simp only[V.fb,if_true]
     rw[if_pos (by simp;omega),List.drop_zero,List.take_of_length_le (by omega)]
    rw[this]
    exact Im.rfl
   ·simp only[Gp,if_neg hcb] at hx
    split at hx
    ·rename_i hcl
     refine⟨x', ?_,rfl,Ims.rfl⟩
     simp only[upd,if_neg (show ¬c=Lb by omega),if_neg hcb,if_pos hcl]
     rw[hx]
     show some _=some _
     refine congrArg some (Prod.ext rfl ?_)
     show List.map _ x'.2=x'.2
     conv=>rhs;rw[←List.map_id x'.2]
     exact List.map_congr_left fun w hw=>YP ((H.old c x' hcb (by omega) hx).2 w hw) h2
    ·cases hx
end Go.Proofs.YtiohdbjggmmjcaaGreat
