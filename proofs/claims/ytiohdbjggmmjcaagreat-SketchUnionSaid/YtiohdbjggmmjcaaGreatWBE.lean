/-
  Merged texts.
-/
import Derived.Test.YtiohdbjggmmjcaaGreatWBD
import Derived.Test.YtiohdbjggmmjcaaGreatWAW
import Derived.Test.YtiohdbjggmmjcaaGreatWAY
import Derived.Test.YtiohdbjggmmjcaaGreatWBC
set_option linter.unusedVariables false
set_option linter.unusedSimpArgs false
set_option linter.unusedSectionVars false
set_option linter.defProp false
set_option maxRecDepth 100000
set_option maxHeartbeats 8000000
namespace Go.Proofs.YtiohdbjggmmjcaaGreat
open Go Go.Pg
def Gz(v:List (List (List Nat))):Nat→Int
 | 0=>1
 | n+1=>Gz v n+(v.getD n []).length
def ac9(s:Sk):Int:=if s.p.k=1 then 1 else if s.p.k=2 then s.cm.c.length else if s.p.k=3 then s.ll.r.length else if s.p.k=4 then 1+s.tp.e.length else if s.p.k=5 then 1+s.fq.e.length else if s.p.k=6 then Gz s.rk.v s.rk.v.length else 0
theorem acF(v:List (List (List Nat)))(hm:∀l∈v,l.length≤1000000):∀n,n≤v.length→1≤Gz v n∧Gz v n≤1+n*1000000:=by
 intro n
 induction n with
 | zero=>intro _;exact⟨Int.le_refl _,by simp [Gz]⟩
 | succ n ih =>
  intro hn
  have h1:=ih (by omega)
  have h2:(v.getD n []).length≤1000000:=by
   have:v.getD n []=v[n]:=by simp [List.getD,show n<v.length by omega]
   rw[this];exact hm _ (List.getElem_mem _)
  simp only[Gz]
  omega
theorem acG(s:Sk)(ok:s.Ok):Gxx 46 [.agg (skF s)] (vi (ac9 s)):=by
 have b1:=ok.cn
 have b2:=ok.ln
 have b3:=ok.tn
 have b4:=ok.fn
 have b5:=ok.rn
 have b6:=acF s.rk.v ok.rm
 clear ok
 unfold ac9
 obtain⟨⟨pk,pz,pd,ps⟩,⟨t1,t2,t3⟩,⟨c1,c2,c3,c4,c5⟩,⟨l1,l2,l3⟩,⟨e1,e2,e3,e4⟩,⟨f1,f2,f3,f4,f5⟩,⟨r1,r2,r3,r4,r5⟩⟩:=s
 simp only at *
 by_cases h1:pk=1
 ·rw[if_pos h1]
  refine gI oW Tryz.func46 Tryz.results46 ?_
  exact wR (aI @h1 (aI @aG (aI @aZ @fD))) trivial ay
 rw[if_neg h1]
 by_cases h2:pk=2
 ·rw[if_pos h2]
  refine gI oW Tryz.func46 Tryz.results46 ?_
  exact wR (aI @h2 (aI @aG (aI @aZ @fD))) trivial ay
 rw[if_neg h2]
 by_cases h3:pk=3
 ·rw[if_pos h3]
  refine gI oW Tryz.func46 Tryz.results46 ?_
  exact wR (aI @h3 (aI @aG (aI @aZ @fD))) trivial ay
 rw[if_neg h3]
 by_cases h4:pk=4
 ·rw[if_pos h4]
  refine gI oW Tryz.func46 Tryz.results46 ?_
  exact wR (aI @h4 (aI @aG (aI @aZ @fD))) trivial ay
 rw[if_neg h4]
 by_cases h5:pk=5
 ·rw[if_pos h5]
  refine gI oW Tryz.func46 Tryz.results46 ?_
  exact wR (aI @h5 (aI @aG (aI @aZ @fD))) trivial ay
 rw[if_neg h5]
 by_cases h6:pk=6
 ·rw[if_pos h6]
  have hel:=fD r4
  refine gI oW Tryz.func46 Tryz.results46 ?_
  refine wS (aI @h6 (aI @aG (aI @aZ @fD))) trivial ?_
  refine df (fun i:Nat=>mkA [(3,vi (Gz r4 i)),(41,fzl r4),(42,vi r4.length),(43,vi i)] [] 0 (fun _ => .top)) (fun i=>i≤r4.length) (fun i=>r4.length-i) 0 [] [] ?_ (Nat.zero_le _) ?_
  ·exact kE
   all_goals first|exact dE rfl|skip
  ·intro i hi
   replace hi:i≤r4.length:=hi
   rcases Nat.lt_or_ge i r4.length with hlt|hge
   ·have hg:=nG r4 i hlt
    have eun:Gz r4 (i+1)=Gz r4 i+(r4.getD i []).length:=rfl
    have hb:=b6 i hi
    have hb2:=b6 (i+1) hlt
    rw[eun] at hb2
    generalize hlev:r4.getD i []=lev at *
    have hsl:=eG lev
    refine wS (aI @hel (aI @hg @hsl)) trivial ?_
    (refine dh (i+1) [] [] (hlt) (by first|omega|(simp only[List.length_cons];omega)) ?_;(refine dN ?_ ?_ (gu _ _ _) (by decide) (by decide) (by decide) (by decide);(repeat' (first|exact trivial|refine dI _ _ rfl rfl ?_ ?_));all_goals (try simp only[pgs,pgl,pgx,pgf,pgw,di,dL,dm,dM,qc,iO,fO,pgn,simprocAttr]);all_goals (try (repeat' (first|apply aI)));all_goals (try (first|exact trivial|exact dE (by omega)|exact eH rfl|exact bP rfl rfl|exact jq rfl))))
    all_goals first|exact dE (by rw[eun,hlev])|exact dE eun.symm|skip
   ·have:i=r4.length:=by omega
    subst this
    exact wR @hel trivial ay
 rw[if_neg h6]
 refine gI oW Tryz.func46 Tryz.results46 ?_
 exact wR trivial trivial ay
theorem nP(a b:Sk):Gxx 47 [.agg (skF a),.agg (skF b)] (vb (decide (samP a.p b.p))):=by
 refine gI oW Tryz.func47 Tryz.results47 ?_
 exact wR @ac2 trivial ay
abbrev S1:Sk:=⟨⟨1,0,0,0⟩,Tl.o,Cm.o,Ll.o,Tp.o,Fq.o,Rk.o⟩
abbrev S2:Sk:=⟨⟨1,0,0,0⟩,⟨3,1,false⟩,Cm.o,Ll.o,Tp.o,Fq.o,Rk.o⟩
theorem Zb:octE []:=fun _ h=>by cases h
theorem ada(p:Pm)(t:Tl)(h:0≤p.s∧p.s<18446744073709551616):Sk.Ok ⟨p,t,Cm.o,Ll.o,Tp.o,Fq.o,Rk.o⟩ :=
 ⟨h,(⟨by decide,by decide⟩:(0:Int)≤0∧(0:Int)<18446744073709551616),(⟨by decide,by decide⟩:(0:Int)≤0∧(0:Int)<18446744073709551616),Nat.zero_le _,Nat.zero_le _,Zb,Nat.zero_le _,Zb,Nat.zero_le _,(fun _ h=>by cases h),Nat.zero_le _,(fun _ h=>by cases h)⟩
theorem afm:Gxx 45 [.agg [vi 1,vi 0,vi 0,vu 0]] (.tup [.agg (skF S1),vi 0]):=by
 have h1:Gxx 60 [.agg [vi 1,vi 0,vi 0,vu 0]] (vi 0):=lC 1 0 0 0
 refine Good.wkt (vs:=[.agg (skC S1 nls nls nls nls nls),vi 0]) ?_ ⟨iy S1 (aX _) (aX _) (aX _) (aX _) (aX _),aH _,trivial⟩
 refine gI oW Tryz.func45 Tryz.results45 ?_
 exact wR trivial (aI h1 abR) ay
theorem afn:Gxx 45 [.agg [vi 1,vi 1,vi 0,vu 0]] (.tup [.agg (skF Sk.o),vi 10]):=by
 have h1:Gxx 60 [.agg [vi 1,vi 1,vi 0,vu 0]] (vi 10):=lC 1 1 0 0
 refine Good.wkt (vs:=[.agg (skC Sk.o nls nls nls nls nls),vi 10]) ?_ ⟨uX,aH _,trivial⟩
 refine gI oW Tryz.func45 Tryz.results45 ?_
 exact wR trivial h1 ay
theorem NR:Gxx 10 [.agg (skF S1),.agg [vs [97],vi 3],nls,vi 5] (.tup [.agg (skF S2),vi 5,vi 0]):=by
 have h1:Gxx 20 [.agg (skF S1)] (vi 0):=jo S1 (ada _ _ ⟨by decide,by decide⟩)
 have h2:Gxx 23 [.agg [vs [97],vi 3]] (vi 0):=bz [97] 3
 have h3:Gxx 24 [vi 5] (vb true):=abS 5
 have h4:Gxx 25 [.agg (tlF Tl.o),.agg [vs [97],vi 3]] (.tup [.agg [vi 3,vi 1,vb false],vi 0]):=O1 Tl.o [97] 3
 refine Good.wkt (vs:=[.agg (skC S2 nls nls nls nls nls),vi 5,vi 0]) ?_ ⟨iy S2 (aX _) (aX _) (aX _) (aX _) (aX _),aH _,aH _,trivial⟩
 refine gI oW Tryz.func10 Tryz.results10 ?_
 exact wR trivial (aI h1 (aI h2 (aI h3 h4))) ay
theorem Aj:Gxx 13 [] (vb true):=by
 have h4:Gxx 46 [.agg (skF S2)] (vi 1):=acG S2 (ada _ _ ⟨by decide,by decide⟩)
 have ha:(⟨#[97]⟩:ByteArray)=sB [97]:=by rfl
 refine gI oW Tryz.func13 Tryz.results13 ?_
 exact wR @ha (aI afm (aI afn (aI NR h4))) ay
end Go.Proofs.YtiohdbjggmmjcaaGreat
section
namespace Go.Proofs.YtiohdbjggmmjcaaGreat
open Go Go.Pg
theorem TR(n:Int):Pg.Good Tryz.prog 87 [vi n] (vb (decide (0≤n∧n≤1073741824))):=by
 by_cases h1:0≤n
 ·by_cases h2:n≤1073741824
  ·rw[decide_eq_true ⟨h1,h2⟩]
   refine aK (dw mix) Tryz.func87 rfl Tryz.results87 rfl (by kernel_rfl) (Nat.le_of_ble_eq_true (by kernel_rfl)) ?_
   (repeat' (first|(simp (disch:=first|exact dqz|fail) only[pgz,simprocAttr])|(refine tS ?_ ?_<;>intro hc)|(with_reducible refine cK ?_)))
   (refine rT [] ?_;first|rfl|simp only[pgo,simprocAttr]|skip)
  ·rw[decide_eq_false (fun h=>h2 h.2)]
   refine aK (dw mix) Tryz.func87 rfl Tryz.results87 rfl (by kernel_rfl) (Nat.le_of_ble_eq_true (by kernel_rfl)) ?_
   (repeat' (first|(simp (disch:=first|exact dqz|fail) only[pgz,simprocAttr])|(refine tS ?_ ?_<;>intro hc)|(with_reducible refine cK ?_)))
   (refine rT [] ?_;first|rfl|simp only[pgo,simprocAttr]|skip)
 ·rw[decide_eq_false (fun h=>h1 h.1)]
  refine aK (dw mix) Tryz.func87 rfl Tryz.results87 rfl (by kernel_rfl) (Nat.le_of_ble_eq_true (by kernel_rfl)) ?_
  (repeat' (first|(simp (disch:=first|exact dqz|fail) only[pgz,simprocAttr])|(refine tS ?_ ?_<;>intro hc)|(with_reducible refine cK ?_)))
  (refine rT [] ?_;first|rfl|simp only[pgo,simprocAttr]|skip)
def B0(z t lo:Int)(v:List (List (List Nat)))(b:Bool)(k:List Nat)(w:Int):Bxx :=
 upd (upd (upd (fun _=>none) 0 (some (tRk,[vi z,vi t,vi lo,fzl v,vb b]))) 1 (some (45,[vs k,vi w]))) 2 (some (tRk,[y0,y0,y0,yn,yf]))
theorem Zc(n:Nat):FrB n (fun _=>none):=fun k x h=>by cases h
theorem alh(z t lo:Int)(v:List (List (List Nat)))(b:Bool)(k:List Nat)(w:Int):FrB 3 (B0 z t lo v b k w):=by
 refine FrB.upd (FrB.upd (FrB.upd (Zc 3) _ _ ?_) _ _ ?_) _ _ ?_
 all_goals
  intro x hx
  simp only[List.mem_cons,List.not_mem_nil,or_false] at hx
 ·rcases hx with rfl|rfl|rfl|rfl|rfl<;>rfl
 ·rcases hx with rfl|rfl<;>rfl
 ·rcases hx with rfl|rfl|rfl|rfl|rfl<;>rfl
theorem uU(n:Nat):FrE n (fun _ => .top):=fun _=>rfl
theorem CQ{t w:Int}(ht:0≤t∧t≤1099511627776)(hw:0≤w):aO t w=if t+w > 1099511627776 then (1099511627776,true) else (t+w,false):=by
 unfold aO lw
 rw[oh ht.1,oh hw,oh (by decide)]
 by_cases h:t+w > 1099511627776
 ·rw[if_pos (.inr (by omega)),if_pos h]
 ·rw[if_neg (by omega),if_neg h]
theorem acH{t w:Int}(ht:0≤t∧t≤1099511627776)(hw:0≤w)(h:(aO t w).2=true):t+w > 1099511627776:=by
 rw[CQ ht hw] at h
 split at h
 ·assumption
 ·cases h
theorem Pz{t w:Int}(ht:0≤t∧t≤1099511627776)(hw:0≤w)(h:¬(aO t w).2=true):¬t+w > 1099511627776:=by
 rw[CQ ht hw] at h
 split at h
 ·exact absurd rfl h
 ·assumption
theorem RkAt.upd2{lo n:Nat}{bx:Bxx}{b Lb:Nat}{z t l z' t' l':Int}{sat sat':Bool}{v:List (List (List Nat))}{cs:List V}(h:RkAt lo n bx b Lb z t l sat v cs):RkAt lo n (upd bx b (some (tRk,[vi z',vi t',vi l',.bs Lb tLs 0 1 v.length,.c (.bool sat')]))) b Lb z' t' l' sat' v cs:=by
 have:=h.n1;have:=h.n2
 have hL:upd bx b (some (tRk,[vi z',vi t',vi l',.bs Lb tLs 0 1 v.length,.c (.bool sat')])) Lb=bx Lb:=by rw[upd,if_neg (by omega)]
 refine⟨if_pos rfl,by rw[hL];exact h.hL,h.lv,h.n1,h.n2,h.n3,fun c x h1 h2 hx=>h.old c x h1 h2 ?_⟩
 rw[upd,if_neg h1] at hx
 exact hx
theorem RkAt.mono{lo n m:Nat}{bx:Bxx}{b Lb:Nat}{z t l:Int}{sat:Bool}{v:List (List (List Nat))}{cs:List V}(h:RkAt lo n bx b Lb z t l sat v cs)(hm:n≤m):RkAt lo m bx b Lb z t l sat v cs :=
 ⟨h.hb,h.hL,h.lv.mono hm,h.n1,h.n2,by have:=h.n3;omega,h.old⟩
theorem RkAt.mapB{lo n:Nat}{bx:Bxx}{b Lb:Nat}{z t l:Int}{sat:Bool}{v:List (List (List Nat))}{cs:List V}(h:RkAt lo n bx b Lb z t l sat v cs){id:Nat}(hi:n≤id){ψ:V→V}(hψ:∀v,v.has id=false→ψ v=v):mapB ψ bx=bx:=by
 have h1:=h.n1;have h2:=h.n2;have h3:=h.n3
 refine O9 fun c x hx w hw => ?_
 by_cases hcb:c=b
 ·subst hcb
  rw[h.hb] at hx
  simp only[Option.some.injEq] at hx
  subst hx
  simp only[List.mem_cons,List.not_mem_nil,or_false] at hw
  rcases hw with rfl|rfl|rfl|rfl|rfl<;>exact hψ _ rfl
 ·by_cases hcL:c=Lb
  ·subst hcL
   rcases h.hL with ⟨_,_,k3⟩|hL
   ·rw[k3] at hx;cases hx
   ·rw[hL] at hx
    simp only[Option.some.injEq] at hx
    subst hx
    have:=h.lv.mapN (ψ:=ψ) (fun c l hc hid=>hψ c (wO hc (fun hm=>by have:=(hid _ hm).2;omega)))
    obtain⟨j,hj,rfl⟩:=List.mem_iff_getElem.1 hw
    have h9:=congrArg (fun l=>l[j]?) this
    simp only[List.getElem?_map,List.getElem?_eq_getElem hj,Option.map_some,Option.some.injEq] at h9
    exact h9
  ·exact hψ _ (YI ((h.old c x hcb hcL hx).2 w hw) (by omega))
section
attribute [local instance 2000] nestI
theorem ajr(x:Rk)(k:List Nat)(w:Int)(co:List Nat)(at':Int)(ho:oct k)(hco:oct co)(hv:∀l∈x.v,octL l)(hn:x.v.length≤1000000)(hn2:∀l∈x.v,l.length≤1000000) :
  Pg.Good Tryz.prog 30 [.agg (rkF x),.agg [vs k,vi w],fzb co,vi at'] (.tup [.agg (rkF (yl x k w co at').1),vi (yl x k w co at').2.1,vi (yl x k w co at').2.2]):=by
 have h1:=CE (ac3 x hv hn hn2)
 have h2:=CE (bz k w)
 have h3:=CE (TR at')
 unfold yl
 by_cases c1:vRk x=0
 ·rw[if_neg (by omega)]
  rw[c1] at h1
  by_cases c2:bT k w=0
  ·rw[if_neg (by omega)]
   rw[c2] at h2
   by_cases c3:0≤at'∧at'≤1073741824
   ·rw[if_neg (fun h=>h c3)]
    rw[decide_eq_true c3] at h3
    obtain⟨i1,i2,i3,i4,i5⟩:=Na c1
    obtain⟨j1,j2⟩:=fU c2
    obtain⟨z,t,lo,v,b⟩:=x
    simp only at *
    refine aK (eu [9,17,19] mix) Tryz.func30 rfl Tryz.results30 rfl (by kernel_rfl) (Nat.le_of_ble_eq_true (by kernel_rfl)) ?_
    (repeat' (first|(simp (disch:=first|exact dqz|fail) only[pgz,simprocAttr,iT,pgE,pgj,pgv,dB,iC])|(refine tC ?_;first|refine cU h1 ?_|refine cU h2 ?_|refine cU h3 ?_)|(refine tE ?_ ?_<;>intro hc)|refine xK ?_|fail))
    have hl31:∀i,(v.getD i []).length≤1000:=fun i=>by have:=i5 i;omega
    have hfe:FrE 3 (iP [(2,fzb co),(3,vi at'),(4,.ref 0 0),(5,.ref 1 0),(8,.ref 2 0),(31,.agg [vi z,vi t,vi lo,fzl v,.c (.bool b)])]):=by
     refine oJ ?_
     intro x hx
     simp only[List.mem_cons,List.not_mem_nil,or_false] at hx
     rcases hx with rfl|rfl|rfl|rfl|rfl|rfl<;>rfl
    refine sN ⟨iP [(2,fzb co),(3,vi at'),(4,.ref 0 0),(5,.ref 1 0),(8,.ref 2 0),(31,.agg [vi z,vi t,vi lo,fzl v,.c (.bool b)])],B0 z t lo v b k w,3,fun _ => .top⟩ ?_ rfl (Yz 3 _ z t lo b v (by omega) hl31 _ _ hfe (uU 3) (alh z t lo v b k w)) rfl ?_
    ·refine gK (gp ?_) (fun c => .inl rfl) (Nat.le_refl _)
     ((try simp only[bu,jm,cO,cu,pgo,simprocAttr,and_true,true_and]);try (repeat' (first|exact trivial|rfl|apply aI)))
    rintro s' r ⟨Lb,cs,n1,q1,q2,q3,rfl,rfl⟩
    have hB0:cpB 3 (B0 z t lo v b k w) Lb v.length cs 0=some (tRk,[vi z,vi t,vi lo,fzl v,.c (.bool b)]):=by simp [cpB,B0,upd,show ¬0=Lb by omega]
    have hB1:cpB 3 (B0 z t lo v b k w) Lb v.length cs 1=some (45,[vs k,vi w]):=by simp [cpB,B0,upd,show ¬1=Lb by omega]
    have hB2:cpB 3 (B0 z t lo v b k w) Lb v.length cs 2=some (tRk,[y0,y0,y0,yn,yf]):=by simp [cpB,B0,upd,show ¬2=Lb by omega]
    (repeat' (first|(simp (disch:=first|exact dqz|fail) only[pgz,simprocAttr,iT,pgE,pgj,pgv,dB,iC,hB0,hB1,hB2])|(refine tE ?_ ?_<;>intro hc)|(with_reducible refine cK ?_)))
    have hLb:Lb≠2:=by omega
    have hR1:RkAt 3 n1 (upd (cpB 3 (B0 z t lo v b k w) Lb v.length cs) 2 (some (tRk,[vi z,vi t,vi lo,.bs Lb tLs 0 1 v.length,.c (.bool b)]))) 2 Lb z t lo b v cs:=by
     refine⟨if_pos rfl, ?_,q3,by omega,q1,q2,fun c x' k1 k2 hx => ?_⟩
     ·have e1:upd (cpB 3 (B0 z t lo v b k w) Lb v.length cs) 2 (some (tRk,[vi z,vi t,vi lo,.bs Lb tLs 0 1 v.length,.c (.bool b)])) Lb=if v.length=0 then none else some (tLs,cs):=by
       rw[upd,if_neg hLb];exact if_pos rfl
      rw[e1]
      by_cases hv0:v.length=0
      ·left
       have hvn:=List.eq_nil_of_length_eq_zero hv0
       exact⟨hvn,List.eq_nil_of_length_eq_zero (by rw[q3.len];exact hv0),if_pos hv0⟩
      ·right;exact if_neg hv0
     ·rw[upd,if_neg k1] at hx
      simp only[cpB,if_neg k2] at hx
      split at hx
      ·rename_i hc3;exact⟨hc3,alh z t lo v b k w c x' hx⟩
      ·cases hx
    have hfe2:FrE 3 (iP [(2,fzb co),(3,vi at'),(4,.ref 0 0),(5,.ref 1 0),(8,.ref 2 0)]):=by
     refine oJ ?_
     intro x hx
     simp only[List.mem_cons,List.not_mem_nil,or_false] at hx
     rcases hx with rfl|rfl|rfl|rfl|rfl<;>rfl
    by_cases c4:(aO t w).2=true
    ·rw[if_pos c4]
     refine Yh ((gK (gp (X:=[(2,fzb co),(3,vi at'),(4,.ref 0 0),(5,.ref 1 0),(8,.ref 2 0)]) ?_) (fun c => .inl rfl) (Nat.le_refl _)).trans (YR hR1 hfe2 (uU 3))) ?_
     ·exact eE
     have hgt:(t+w > 1099511627776)=True:=eq_true (acH (by omega) (by omega) c4)
     have hO0:∀B,Gp 3 B 2 z t lo b v 0=B 0:=fun B=>rfl
     have hO1:∀B,Gp 3 B 2 z t lo b v 1=B 1:=fun B=>rfl
     have hO2:∀B,Gp 3 B 2 z t lo b v 2=some (tRk,[vi z,vi t,vi lo,fzl v,.c (.bool b)]):=fun B=>rfl
     (repeat' (first|(simp (disch:=first|exact dqz|fail) only[pgz,simprocAttr,iT,pgE,pgj,pgv,dB,iC,hO0,hO1,hO2,hB0,hB1,hgt])|(refine tE ?_ ?_<;>intro hc)|refine xK ?_|fail))
     (refine rT [] ?_;first|rfl|simp only[pgo,simprocAttr]|skip)
    ·rw[if_neg c4]
     have hgt:(t+w > 1099511627776)=False:=eq_false (Pz (by omega) (by omega) c4)
     have hps:=fun i=>BI w 63 i (by decide)
     have hpl:=wz w 63
     have hin:=fun i=>BH k (gY w 63) v (fun i=>by have:=hps i;omega) 31 i5 (by omega) i
     have h5:=CE (akk w (by omega) (by omega))
     have hil:=aZ (gY w 63)
     refine bH ?_
     (repeat' (first|(simp (disch:=first|exact dqz|fail) only[pgz,simprocAttr,iT,pgE,pgj,pgv,dB,iC,hB0,hB1,hgt,hil])|(refine tC ?_;refine cU h5 ?_)|(refine tE ?_ ?_<;>intro hc)|refine xK ?_|fail))
     have hav:(aO t w).1=t+w:=by rw[CQ (by omega) (by omega),if_neg (Pz (by omega) (by omega) c4)]
     have hset:jh (jL k (gY w 63) v (gY w 63).length) z lo co at' 100=BJ ⟨z,t,lo,v,b⟩ k w co at':=rfl
     rw[hav,←hset]
     have hpn:∀i,jL k (gY w 63) v (i+1)=Ci (jL k (gY w 63) v i) ((gY w 63).getD i 0).toNat [k]:=fun _=>rfl
     generalize gY w 63=ps at *
     have hR2:RkAt 3 n1 (upd (upd (cpB 3 (B0 z t lo v b k w) Lb v.length cs) 2 (some (tRk,[vi z,vi t,vi lo,.bs Lb tLs 0 1 v.length,.c (.bool b)]))) 2 (some (tRk,[vi z,vi (t+w),vi lo,.bs Lb tLs 0 1 v.length,.c (.bool b)]))) 2 Lb z (t+w) lo b v cs:=hR1.upd2
     refine sO (ι:=Nat × (Bxx) × Nat × List V) (fun i=>⟨iP [(2,fzb co),(3,vi at'),(5,.ref 1 0),(8,.ref 2 0),(50,fzi ps),(51,vi ps.length),(52,vi i.1)],i.2.1,i.2.2.1,fun _ => .top⟩) (fun i=>RkAt 3 i.2.2.1 i.2.1 2 Lb z (t+w) lo b (jL k ps v i.1) i.2.2.2∧i.2.1 1=some (45,[vs k,vi w])∧i.1≤ps.length) (fun i=>ps.length-i.1) (0,upd (upd (cpB 3 (B0 z t lo v b k w) Lb v.length cs) 2 (some (tRk,[vi z,vi t,vi lo,.bs Lb tLs 0 1 v.length,.c (.bool b)]))) 2 (some (tRk,[vi z,vi (t+w),vi lo,.bs Lb tLs 0 1 v.length,.c (.bool b)])),n1,cs) ?_ ⟨hR2, ?_,Nat.zero_le _⟩ ?_
     ·refine gK (gp ?_) (fun c => .inl rfl) (by show _≤n1;omega)
      ((try simp only[bu,jm,cO,cu,pgo,simprocAttr,and_true,true_and]);try (repeat' (first|exact trivial|rfl|apply aI)))
     ·exact hB1
     ·rintro⟨i,bx1,n2,cs1⟩ ⟨H1,ho1,hi⟩
      simp only at H1 ho1 hi
      have hb:=H1.hb
      have hcl:=(hin i).1
      have hcl2:=(hin i).2
      rcases Nat.lt_or_ge i ps.length with hlt|hge
      ·have hg:=kF ps i hlt
       have hpi:=hps i
       have hnx:=hpn i
       generalize hpp:ps.getD i 0=p' at *
       obtain⟨p,rfl⟩:∃p:Nat,p'=p:=⟨p'.toNat,by omega⟩
       rw[Int.toNat_natCast] at hnx
       have hlt2:((i:Int)<(ps.length:Int))=True:=eq_true (by omega)
       (repeat' (first|(simp (disch:=first|exact dqz|fail) only[pgz,simprocAttr,iT,pgE,pgj,pgv,dB,iC,ho1,hlt2,hg,hil])|(refine tE ?_ ?_<;>intro hc)|(with_reducible refine cK ?_)))
       have H2:=H1.mono (m:=n2+1) (by omega)
       have hfe3:FrE 3 (iP [(2,fzb co),(3,vi at'),(5,.ref 1 0),(8,.ref 2 0),(50,fzi ps),(51,vi ps.length),(52,vi i),(56,vi p),(59,fzs [k])]):=by
        refine oJ ?_
        intro x hx
        simp only[List.mem_cons,List.not_mem_nil,or_false] at hx
        rcases hx with rfl|rfl|rfl|rfl|rfl|rfl|rfl|rfl|rfl<;>rfl
       have htf:dX (frz n2) (fun _=>V.top)=fun _=>V.top:=wU (uU 3) (by have:=H1.n2;have:=H1.n3;omega)
       refine sN ⟨iP [(2,fzb co),(3,vi at'),(5,.ref 1 0),(8,.ref 2 0),(50,fzi ps),(51,vi ps.length),(52,vi i),(56,vi p),(59,fzs [k])],bx1,n2+1,fun _ => .top⟩ ?_ rfl (Yx H2 p (by omega) [k] (by simp) (by omega) (fun j=>by have:=hcl2 j;omega) _ _ hfe3 (uU 3)) rfl ?_
       ·refine (Ah (id:=n2) htf).trans (kP ?_ (fun c x' hx => ?_) (Nat.le_refl _))
        ·simp only[mQ,pY,pgo,simprocAttr,and_true,oZ,if_true,beq_self_eq_true]
         exact⟨bJ _,bJ _,bJ _,bJ _,bJ _,bJ _,bJ _,bJ _,bJ _⟩
        ·rw[H1.mapB (Nat.le_refl _) (fun v hv=>qA hv)]
         exact⟨x',hx,rfl,fZ _⟩
       ·rintro s' r ⟨rfl,n3,cs2,k1,k2,rfl⟩
        rw[←hnx] at k2 ⊢
        (repeat' (first|(simp (disch:=first|exact dqz|fail) only[pgz,simprocAttr,iT,pgE,pgj,pgv,dB,iC])|(refine tE ?_ ?_<;>intro hc)|refine xK ?_|fail))
        have hLn:Lb≠1:=by have:=H1.n2;omega
        refine lY (i+1,rkB 3 bx1 2 Lb z (t+w) lo b (jL k ps v (i+1)) cs2,n3,cs2) ⟨Cf (z':=z) (t':=t+w) (l':=lo) (sat':=b) H2 k1 k2, ?_,by show i+1≤ps.length;omega⟩ (by show ps.length-(i+1)<ps.length-i;omega) (gK (gp ?_) (fun c => .inl rfl) (Nat.le_refl _))
        ·show rkB 3 bx1 2 Lb z (t+w) lo b (jL k ps v (i+1)) cs2 1=_
         simp only[rkB,if_neg (show ¬1=2 by omega),if_neg (show ¬1=Lb by omega),if_pos (show 1<3 by omega)]
         exact ho1
        ·exact eE
      ·have hie:i=ps.length:=by omega
       subst hie
       have hlt2:((ps.length:Int)<(ps.length:Int))=False:=eq_false (by omega)
       (repeat' (first|(simp (disch:=first|exact dqz|fail) only[pgz,simprocAttr,iT,pgE,pgj,pgv,dB,iC,ho1,hlt2,hil])|(refine tE ?_ ?_<;>intro hc)|(with_reducible refine cK ?_)))
       have hfe3:FrE 3 (iP [(8,.ref 2 0),(62,fzb co),(63,vi at')]):=by
        refine oJ ?_
        intro x hx
        simp only[List.mem_cons,List.not_mem_nil,or_false] at hx
        rcases hx with rfl|rfl|rfl<;>rfl
       refine sN ⟨iP [(8,.ref 2 0),(62,fzb co),(63,vi at')],bx1,n2,fun _ => .top⟩ ?_ rfl (YL H1 co at' 100 (by omega) hco (fun j=>by have:=hcl2 j;omega) (by omega) (by omega) (by unfold W64;omega) c3 _ _ hfe3 (uU 3)) rfl ?_
       ·refine gK (gp ?_) (fun c => .inl rfl) (Nat.le_refl _)
        ((try simp only[bu,jm,cO,cu,pgo,simprocAttr,and_true,true_and]);try (repeat' (first|exact trivial|rfl|apply aI)))
       ·rintro s' r ⟨rfl,n3,cs2,bx2,k1,H3,k3,rfl⟩
        generalize jh (jL k ps v ps.length) z lo co at' 100=R at *
        (repeat' (first|(simp (disch:=first|exact dqz|fail) only[pgz,simprocAttr,iT,pgE,pgj,pgv,dB,iC])|(refine tE ?_ ?_<;>intro hc)|(with_reducible refine cK ?_)))
        have hfe4:FrE 3 (iP [(8,.ref 2 0),(9,vi R.2.2.2.1)]):=by
         refine oJ ?_
         intro x hx
         simp only[List.mem_cons,List.not_mem_nil,or_false] at hx
         rcases hx with rfl|rfl<;>rfl
        refine Yh ((gK (gp (X:=[(8,.ref 2 0),(9,vi R.2.2.2.1)]) ?_) (fun c => .inl rfl) (Nat.le_refl _)).trans (YR H3 hfe4 (uU 3))) ?_
        ·exact eE
        have hO2:∀l' v',Gp 3 bx2 2 z (t+w) l' b v' 2=some (tRk,[vi z,vi (t+w),vi l',fzl v',.c (.bool b)]):=fun _ _=>rfl
        (repeat' (first|(simp (disch:=first|exact dqz|fail) only[pgz,simprocAttr,iT,pgE,pgj,pgv,dB,iC,hO2])|(refine tE ?_ ?_<;>intro hc)|refine xK ?_|fail))
        (refine rT [] ?_;first|rfl|simp only[pgo,simprocAttr]|skip)
   ·rw[if_pos c3]
    rw[decide_eq_false c3] at h3
    refine Good.fzt (vs:=[.agg [vi 0,vi 0,vi 0,nls,vb false],vi 0,vi 5]) ?_ rfl ⟨xZ,aH _,aH _,trivial⟩
    obtain⟨z,t,lo,v,b⟩:=x
    refine aK (eu [9,17,19] mix) Tryz.func30 rfl Tryz.results30 rfl (by kernel_rfl) (Nat.le_of_ble_eq_true (by kernel_rfl)) ?_
    (repeat' (first|(simp (disch:=first|exact dqz|fail) only[pgz,simprocAttr,iT,pgE,pgj,pgv,dB,iC])|(refine tC ?_;first|refine cU h1 ?_|refine cU h2 ?_|refine cU h3 ?_)|(refine tE ?_ ?_<;>intro hc)|refine xK ?_|fail))
    (refine rT [] ?_;first|rfl|simp only[pgo,simprocAttr]|skip)
  ·rw[if_pos c2]
   refine Good.fzt (vs:=[.agg [vi 0,vi 0,vi 0,nls,vb false],vi 0,vi (bT k w)]) ?_ rfl ⟨xZ,aH _,aH _,trivial⟩
   obtain⟨z,t,lo,v,b⟩:=x
   have c2':(bT k w=0)=False:=eq_false c2
   refine aK (eu [9,17,19] mix) Tryz.func30 rfl Tryz.results30 rfl (by kernel_rfl) (Nat.le_of_ble_eq_true (by kernel_rfl)) ?_
   (repeat' (first|(simp (disch:=first|exact dqz|fail) only[pgz,simprocAttr,iT,pgE,pgj,pgv,dB,iC,c2'])|(refine tC ?_;first|refine cU h1 ?_|refine cU h2 ?_|refine cU h3 ?_)|(refine tE ?_ ?_<;>intro hc)|refine xK ?_|fail))
   (refine rT [] ?_;first|rfl|simp only[pgo,simprocAttr]|skip)
 ·rw[if_pos c1]
  refine Good.fzt (vs:=[.agg [vi 0,vi 0,vi 0,nls,vb false],vi 0,vi (vRk x)]) ?_ rfl ⟨xZ,aH _,aH _,trivial⟩
  obtain⟨z,t,lo,v,b⟩:=x
  have c1':(vRk ⟨z,t,lo,v,b⟩=0)=False:=eq_false c1
  refine aK (eu [9,17,19] mix) Tryz.func30 rfl Tryz.results30 rfl (by kernel_rfl) (Nat.le_of_ble_eq_true (by kernel_rfl)) ?_
  (repeat' (first|(simp (disch:=first|exact dqz|fail) only[pgz,simprocAttr,iT,pgE,pgj,pgv,dB,iC,c1'])|(refine tC ?_;first|refine cU h1 ?_|refine cU h2 ?_|refine cU h3 ?_)|(refine tE ?_ ?_<;>intro hc)|refine xK ?_|fail))
  (refine rT [] ?_;first|rfl|simp only[pgo,simprocAttr]|skip)
end
theorem ajC(x:Rk)(k:List Nat)(w:Int)(co:List Nat)(at':Int)(ho:oct k)(hco:oct co)(hv:∀l∈x.v,octL l)(hn:x.v.length≤1000000)(hn2:∀l∈x.v,l.length≤1000000) :
  Pg.Good Tryz.prog 30 [.agg (rkF x),.agg [vs k,vi w],fzb co,vi at'] (.tup [.agg (rkF (yl x k w co at').1),vi (yl x k w co at').2.1,vi (yl x k w co at').2.2]):=ajr x k w co at' ho hco hv hn hn2
end Go.Proofs.YtiohdbjggmmjcaaGreat
end
