/-
  Merged texts.
-/
import Derived.Test.YtiohdbjggmmjcaaGreatWAT
import Derived.Test.YtiohdbjggmmjcaaGreatWAP
import Derived.Test.YtiohdbjggmmjcaaGreatWAQ
import Derived.Test.YtiohdbjggmmjcaaGreatWAR
import Derived.Test.YtiohdbjggmmjcaaGreatWAS
set_option linter.unusedVariables false
set_option linter.unusedSimpArgs false
set_option linter.unusedSectionVars false
set_option linter.defProp false
set_option maxRecDepth 100000
set_option maxHeartbeats 8000000
namespace Go.Proofs.YtiohdbjggmmjcaaGreat
open Go Go.Pg
def iJ(v:List (List (List Nat)))(n:Nat):List (List (List Nat)):=v++List.replicate (n-v.length) []
theorem xW(v:List (List (List Nat)))(n:Nat):(iJ v n).length=max v.length n:=by simp [iJ];omega
theorem qx(v:List (List (List Nat)))(n:Nat)(h:n≤v.length):iJ v n=v:=by
 have:n-v.length=0:=by omega
 simp [iJ,this]
theorem MZ(v:List (List (List Nat)))(n:Nat)(h:v.length≤n):iJ v n++[[]]=iJ v (n+1):=by
 unfold iJ
 rw[show n+1-v.length=(n-v.length)+1 by omega,List.replicate_succ',List.append_assoc]
theorem xX(v:List (List (List Nat)))(n i:Nat):(iJ v n).getD i []=v.getD i []:=by
 unfold iJ
 rcases Nat.lt_or_ge i v.length with h|h
 ·simp [List.getD,List.getElem?_append,h]
 ·rw[List.getD,List.getD,List.getElem?_append_right h,List.getElem?_eq_none (l:=v) h]
  rcases Nat.lt_or_ge (i-v.length) (n-v.length) with h2|h2
  ·simp [List.getElem?_replicate,h2]
  ·simp [List.getElem?_replicate,Nat.not_lt.2 h2]
def Dp(k:List Nat)(v:List (List (List Nat)))(p:Nat):List (List (List Nat)):=(iJ v (p+1)).set p (v.getD p []++[k])
def jL(k:List Nat)(ps:List Int)(v:List (List (List Nat))):Nat→List (List (List Nat))
 | 0=>v
 | i+1=>Dp k (jL k ps v i) (ps.getD i 0).toNat
theorem Jn(l:List (List (List Nat)))(p:Nat)(x:List (List Nat))(i n:Nat)(h:∀i,(l.getD i []).length≤n)(hx:x.length≤n):((l.set p x).getD i []).length≤n:=by
 rw[List.getD]
 rcases Nat.lt_or_ge p l.length with hp|hp
 ·by_cases he:p=i
  ·subst he;rw[List.getElem?_set_self hp];exact hx
  ·rw[List.getElem?_set_ne he];exact h i
 ·rw[List.set_eq_of_length_le hp];exact h i
theorem BH(k:List Nat)(ps:List Int)(v:List (List (List Nat)))(hps:∀i,(ps.getD i 0).toNat≤62)(M:Nat)(hM:∀i,(v.getD i []).length≤M)(hv:v.length≤63)(i:Nat):(jL k ps v i).length≤63∧∀j,((jL k ps v i).getD j []).length≤M+i:=by
 induction i with
 | zero=>exact⟨hv,hM⟩
 | succ i ih =>
  obtain⟨h1,h2⟩:=ih
  refine⟨?_,fun j => ?_⟩
  ·show (Dp k (jL k ps v i) (ps.getD i 0).toNat).length≤63
   have:=hps i
   unfold Dp
   rw[List.length_set,xW]
   omega
  ·show ((Dp k (jL k ps v i) (ps.getD i 0).toNat).getD j []).length≤M+(i+1)
   unfold Dp
   refine Jn _ _ _ _ _ (fun j => ?_) ?_
   ·rw[xX];have:=h2 j;omega
   ·rw[List.length_append];have:=h2 (ps.getD i 0).toNat;simp only[List.length_cons,List.length_nil];omega
theorem BI(n:Int)(m i:Nat)(hm:0<m):0≤(gY n m).getD i 0∧(gY n m).getD i 0≤m-1:=by
 rcases Nat.lt_or_ge i (gY n m).length with h|h
 ·have hmem:(gY n m).getD i 0∈gY n m:=by rw[List.getD_eq_getElem?_getD,List.getElem?_eq_getElem h];exact List.getElem_mem h
  unfold gY at hmem
  obtain⟨j,hj,he⟩:=List.mem_map.1 hmem
  have:=List.mem_range.1 (List.mem_filter.1 hj).1
  unfold gY
  rw[←he];omega
 ·rw[List.getD,List.getElem?_eq_none h];simp;omega
theorem Na{x:Rk}(h:vRk x=0):((2≤x.z∧x.z≤32)∧x.z%2=0)∧(0≤x.t∧x.t≤1099511627776)∧(0≤x.l∧x.l≤1099511627776)∧x.v.length≤41∧∀i,(x.v.getD i []).length≤31:=by
 unfold vRk at h
 split at h
 ·cases h
 ·rename_i h1
  have h1:=Classical.byContradiction h1
  split at h
  ·cases h
  ·rename_i h2
   split at h
   ·rename_i h3;exact absurd h h3
   ·rename_i h3
    have h3:=Classical.byContradiction h3
    refine⟨h1.1,h1.2.1,h1.2.2,by omega,fun i => ?_⟩
    rcases Nat.lt_or_ge i x.v.length with hi|hi
    ·have h4:=MW _ _ _ h3 i (Nat.zero_le _) (by omega)
     unfold nI at h4
     split at h4
     ·cases h4
     ·omega
    ·rw[List.getD,List.getElem?_eq_none hi];simp
def xY(x:Rk)(k:List Nat)(w:Int):List (List (List Nat)):=jL k (gY w 63) x.v (gY w 63).length
def BJ(x:Rk)(k:List Nat)(w:Int)(co:List Nat)(at':Int):Stl:=jh (xY x k w) x.z x.l co at' 100
def yl(x:Rk)(k:List Nat)(w:Int)(co:List Nat)(at':Int):Rk × Int × Int :=
 if vRk x≠0 then (Rk.o,0,vRk x) else if bT k w≠0 then (Rk.o,0,bT k w) else if ¬(0≤at'∧at'≤1073741824) then (Rk.o,0,5)
 else if (aO x.t w).2=true then (⟨x.z,x.t,x.l,x.v,true⟩,at',0)
 else (⟨x.z,(aO x.t w).1,(BJ x k w co at').2.2.1,jb (BJ x k w co at').2.2.2.2.length (BJ x k w co at').2.2.2.2,x.b⟩,(BJ x k w co at').2.2.2.1,0)
theorem xZ:wkV (.agg [vi 0,vi 0,vi 0,nls,vb false]) (.agg (rkF Rk.o)) := .inr ⟨_,_,rfl,rfl,⟨.inl rfl,.inl rfl,.inl rfl,o5 _ _,.inl rfl,trivial⟩⟩
theorem BK(x:Rk)(k:List Nat)(w:Int)(co:List Nat)(at':Int)(ho:oct k)(hco:oct co)(hv:∀l∈x.v,octL l)(hn:x.v.length≤1000000)(hn2:∀l∈x.v,l.length≤1000000) :
  Gxx 39 [.agg (rkF x),.agg [vs k,vi w],fzb co,vi at'] (.tup [.agg (rkF (yl x k w co at').1),vi (yl x k w co at').2.1,vi (yl x k w co at').2.2]):=by
 have h1:=pW x hv hn hn2
 have h2:=dn k w
 have h3:=Jk at'
 unfold yl
 by_cases c1:vRk x=0
 ·rw[if_neg (by omega)]
  rw[c1] at h1
  by_cases c2:bT k w=0
  ·rw[if_neg (by omega)]
   rw[c2] at h2
   by_cases c3:0≤at'∧at'≤1073741824
   ·rw[if_neg (fun h=>h c3)]
    rw[decide_eq_true c3] at h3
    obtain⟨i1,i2,i3,i4,i5⟩:=Na c1
    obtain⟨j1,j2⟩:=fU c2
    have k1:=qw x.t w (by unfold W64;omega) (by unfold W64;omega)
    by_cases c4:(aO x.t w).2=true
    ·rw[if_pos c4]
     generalize aO x.t w=a at *
     obtain⟨a1,a2⟩:=a
     simp only at c4 k1
     subst c4
     obtain⟨z,t,lo,v,b⟩:=x
     simp only at *
     refine gI oW Tryz.func39 Tryz.results39 ?_
     exact wR trivial (aI h1 (aI h2 (aI h3 k1))) ay
    ·rw[if_neg c4]
     have k2:=Rx w (by omega)
     have hps:=fun i=>BI w 63 i (by decide)
     have hpl:=wz w 63
     have hin:=fun i=>BH k (gY w 63) x.v (fun i=>by have:=hps i;omega) 31 i5 (by omega) i
     have hst:=RH (xY x k w) x.z x.l co at' 100 (by omega) hco (fun i=>by have:=(hin (gY w 63).length).2 i;unfold xY;omega) (by omega) (by have:=(hin (gY w 63).length).1;unfold xY;omega) (by unfold W64;omega) c3
     have hR:jh (xY x k w) x.z x.l co at' 100=BJ x k w co at':=rfl
     rw[hR] at hst
     generalize BJ x k w co at'=R at *
     generalize jb R.2.2.2.2.length R.2.2.2.2=T at *
     unfold xY at hst
     have hp0:jL k (gY w 63) x.v 0=x.v:=rfl
     have hpn:∀i,jL k (gY w 63) x.v (i+1)=Dp k (jL k (gY w 63) x.v i) ((gY w 63).getD i 0).toNat:=fun _=>rfl
     generalize hps2:gY w 63=ps at *
     generalize aO x.t w=a at *
     obtain⟨a1,a2⟩:=a
     simp only at c4 k1
     have c4:a2=false:=by simpa using c4
     subst c4
     obtain⟨z,t,lo,v,b⟩:=x
     simp only at *
     have hvl:=fD v
     have hil:=aZ ps
     refine aK (UU (fun d=>bif d == 85 then true else false) [] mix) Tryz.func39 rfl Tryz.results39 rfl (by kernel_rfl) (Nat.le_of_ble_eq_true (by kernel_rfl)) ?_
     refine wS (aI @pgF @fD) (aI h1 (aI h2 (aI h3 (aI k1 k2)))) ?_
     refine df (fun i:Nat=>mkA [(2,fzb co),(3,vi at'),(4,.ref 0 0),(5,.ref 1 0),(8,.ref 2 0),(13,vi a1),(15,.sl (.own 0 98) 1 (lv (jL k ps v i))),(16,fzi ps),(17,vi i)] [(0,(39,rkF ⟨z,t,lo,v,b⟩)),(1,(45,[vs k,vi w])),(2,(39,[vi 0,vi 0,vi 0,nls,vb false]))] 3 (fun _ => .top)) (fun i=>i≤ps.length) (fun i=>ps.length-i) 0 [3] [0,1,2] ?_ (Nat.zero_le _) ?_
     ·exact kE
     ·intro i hi
      replace hi:i≤ps.length:=hi
      have hcl:=(hin i).1
      have hlc:=fD (jL k ps v i)
      rcases Nat.lt_or_ge i ps.length with hlt|hge
      ·have hg:=kF ps i hlt
       have hpi:=hps i
       have hnx:=hpn i
       generalize hcur:jL k ps v i=cur at *
       generalize hpp:ps.getD i 0=p' at *
       obtain⟨p,rfl⟩:∃p:Nat,p'=p:=⟨p'.toNat,by omega⟩
       rw[Int.toNat_natCast] at hnx
       refine wS (aI @pgF (aI @hil @hg)) trivial ?_
       refine df (fun m:Nat=>mkA [(2,fzb co),(3,vi at'),(4,.ref 0 0),(5,.ref 1 0),(8,.ref 2 0),(13,vi a1),(15,.sl (.own 0 98) 1 (lv (iJ cur m))),(16,fzi ps),(17,vi i)] [(0,(39,rkF ⟨z,t,lo,v,b⟩)),(1,(45,[vs k,vi w])),(2,(39,[vi 0,vi 0,vi 0,nls,vb false]))] 3 (fun _ => .top)) (fun m=>cur.length≤m∧(m=cur.length∨m≤p+1)) (fun m=>p+1-m) cur.length [0] [0,1,2] ?_ ⟨Nat.le_refl _,.inl rfl⟩ ?_
       ·refine kL ?_
        all_goals exact bP rfl (by rw[qx _ _ (Nat.le_refl _)])
       ·rintro m ⟨hm1,hm2⟩
        have hgl:=xW cur m
        rw[Nat.max_eq_right hm1] at hgl
        have hlg:=fD (iJ cur m)
        have hgn:=MZ cur m hm1
        have hls:=ww (iJ cur m) []
        rw[hgn] at hls
        rcases Nat.lt_or_ge p m with hpm|hpm
        ·have hmm:iJ cur m=iJ cur (p+1):=by
          rcases hm2 with rfl|h
          ·rw[qx _ _ (Nat.le_refl _),qx _ _ hpm]
          ·have:m=p+1:=by omega
           rw[this]
         have hgp:=nG (iJ cur m) p (by omega)
         rw[xX] at hgp
         have hput:Dp k cur p=(iJ cur m).set p (cur.getD p []++[k]):=by unfold Dp;rw[hmm]
         rw[hput] at hnx
         have hset:=aeB (iJ cur m) p (cur.getD p []++[k])
         rw[←hnx] at hset
         have hll:=(hin i).2 p
         rw[hcur] at hll
         generalize iJ cur m=G at *
         generalize cur.getD p []=lev at *
         have hsl:=eG lev
         have hsn:=svS lev k
         refine wS (aI @pgF (aI @pgv (aI @aii (aI @aP (aI @false_or (aI @Bool.false_eq_true (aI @Option.bind_none.{0,0} (aI @hil (aI @hg (aI @hlg (aI @hgl (aI @hgp (aI @hsl (aI @hsn @hset)))))))))))))) trivial ?_
         (refine bL (i+1) [0] [0,1,2] hlt ?_;refine kL ?_)
         all_goals exact bP rfl hset
        ·refine wS (aI @pgF (aI @pgv (aI @hil (aI @hg (aI @hlg @hgl))))) trivial ?_
         (refine bL (m+1) [0] [0,1,2] ⟨by omega,.inr (by omega)⟩ ?_;refine kL ?_)
         all_goals exact WG rfl (by rw[←hls];exact HY (.inr (.inl ⟨rfl,rfl,1,rfl⟩)) _)
      ·have:i=ps.length:=by omega
       subst this
       (repeat' first|refine wP (aI @pgF (aI @pgv (aI @hil @id_eq.{1}))) trivial ?_|refine cG [0] hst ?_|refine tS ?_ ?_<;>intro hc|fail)
       exact rE []
   ·rw[if_pos c3]
    rw[decide_eq_false c3] at h3
    refine Good.fzt (vs:=[.agg [vi 0,vi 0,vi 0,nls,vb false],vi 0,vi 5]) ?_ rfl ⟨xZ,aH _,aH _,trivial⟩
    refine gI oW Tryz.func39 Tryz.results39 ?_
    exact wR trivial (aI h1 (aI h2 h3)) ay
  ·rw[if_pos (by omega)]
   refine Good.fzt (vs:=[.agg [vi 0,vi 0,vi 0,nls,vb false],vi 0,vi (bT k w)]) ?_ rfl ⟨xZ,aH _,aH _,trivial⟩
   refine gI oW Tryz.func39 Tryz.results39 ?_
   exact wR trivial (aI h1 h2) ay
 ·rw[if_pos (by omega)]
  refine Good.fzt (vs:=[.agg [vi 0,vi 0,vi 0,nls,vb false],vi 0,vi (vRk x)]) ?_ rfl ⟨xZ,aH _,aH _,trivial⟩
  refine gI oW Tryz.func39 Tryz.results39 ?_
  exact wR trivial h1 ay
theorem nJ{α:Type}(l:List α)(i:Nat)(d:α)(h:i<l.length):l.getD i d∈l:=by rw[List.getD_eq_getElem?_getD,List.getElem?_eq_getElem h];exact List.getElem_mem h
theorem Aa{α:Type}(d:α){a b:List α}{i:Nat}(ha:i<a.length)(hb:i<b.length)(h:a.take i=b.take i)(he:a.getD i d=b.getD i d):a.take (i+1)=b.take (i+1):=by
 rw[List.take_succ_eq_append_getElem ha,List.take_succ_eq_append_getElem hb,h]
 simp only[List.getD,List.getElem?_eq_getElem ha,List.getElem?_eq_getElem hb,Option.getD_some] at he
 rw[he]
theorem XV{α:Type}{a b:List α}(hl:a.length=b.length)(h:a.take a.length=b.take a.length):a=b:=by
 rw[List.take_length,hl,List.take_length] at h
 exact h
theorem fQ(b:Bool):(b == b)=true:=by cases b<;>rfl
theorem OW(b:Bool):(b != b)=false:=by cases b<;>rfl
theorem OX{a b:Bool}(h:a≠b):(a == b)=false:=by cases a<;>cases b<;>first|rfl|exact absurd rfl h
theorem agn{a b:Bool}(h:a≠b):(a != b)=true:=by cases a<;>cases b<;>first|rfl|exact absurd rfl h
theorem Ac(a:ByteArray):decide (a=a)=true:=decide_eq_true rfl
theorem yZ(a b:List Int)(hn:a.length≤1000000)(hn2:b.length≤1000000):Gxx 114 [fzi a,fzi b] (vb (decide (a=b))):=by
 have hal:=aZ a
 have hbl:=aZ b
 by_cases hl:a.length=b.length
 ·refine gI oW Tryz.func114 Tryz.results114 ?_
  refine wS (aI @hal @hbl) trivial ?_
  refine df (fun i:Nat=>mkA [(0,fzi a),(1,fzi b),(5,vi i)] [] 0 (fun _ => .top)) (fun i=>i≤a.length∧a.take i=b.take i) (fun i=>a.length-i) 0 [] [] ?_ ⟨Nat.zero_le _,rfl⟩ ?_
  ·exact kE
  ·rintro i ⟨hi,he⟩
   rcases Nat.lt_or_ge i a.length with hlt|hge
   ·have hg:=kF a i hlt
    have hg2:=kF b i (by omega)
    have hx:=Aa (0:Int) hlt (by omega) he
    by_cases q:a.getD i 0=b.getD i 0
    ·have hx':=hx q
     generalize a.getD i 0=x at *
     generalize b.getD i 0=y at *
     refine wS (aI @hal (aI @hbl (aI @hg @hg2))) trivial ?_
     exact bE (i+1) [] [] ⟨hlt,hx'⟩
    ·rw[decide_eq_false (fun h=>q (by rw[h]))]
     generalize a.getD i 0=x at *
     generalize b.getD i 0=y at *
     exact wR (aI @hal (aI @hbl (aI @hg @hg2))) trivial ay
   ·have:i=a.length:=by omega
    subst this
    rw[decide_eq_true (XV hl he)]
    exact wR (aI @hal @hbl) trivial ay
 ·rw[decide_eq_false (fun h=>hl (by rw[h]))]
  refine gI oW Tryz.func114 Tryz.results114 ?_
  exact wR (aI @hal @hbl) trivial ay
theorem sH(a b:List En)(ha:octE a)(hb:octE b)(hn:a.length≤1000000)(hn2:b.length≤1000000):Gxx 115 [fzv a,fzv b] (vb (decide (a=b))):=by
 have hal:=aG a
 have hbl:=aG b
 by_cases hl:a.length=b.length
 ·refine gI oW Tryz.func115 Tryz.results115 ?_
  refine wS (aI @hal @hbl) trivial ?_
  refine df (fun i:Nat=>mkA [(0,fzv a),(1,fzv b),(5,vi i)] [] 0 (fun _ => .top)) (fun i=>i≤a.length∧a.take i=b.take i) (fun i=>a.length-i) 0 [] [] ?_ ⟨Nat.zero_le _,rfl⟩ ?_
  ·exact kE
  ·rintro i ⟨hi,he⟩
   rcases Nat.lt_or_ge i a.length with hlt|hge
   ·have hg:=eY a i hlt
    have hg2:=eY b i (by omega)
    have hx:=Aa (([],0,0):En) hlt (by omega) he
    have o1:=fV ha i
    have o2:=fV hb i
    by_cases q:a.getD i ([],0,0)=b.getD i ([],0,0)
    ·have hx':=hx q
     rw[←q] at hg2
     generalize a.getD i ([],0,0)=x at *
     obtain⟨k,c,e⟩:=x
     refine wS (aI @hal (aI @hbl (aI @hg (aI @hg2 (aI @Ac (aI @Bool.not_true (aI @Bool.and_true @Bool.true_and))))))) trivial ?_
     exact bE (i+1) [] [] ⟨hlt,hx'⟩
    ·rw[decide_eq_false (fun h=>q (by rw[h]))]
     generalize a.getD i ([],0,0)=x at *
     generalize b.getD i ([],0,0)=y at *
     obtain⟨k,c,e⟩:=x
     obtain⟨k',c',e'⟩:=y
     simp only at hg hg2 o1 o2
     by_cases q1:k=k'
     ·subst q1
      by_cases q2:c=c'
      ·subst q2
       have q3:e≠e':=fun h=>q (by rw[h])
       exact wR (aI @hal (aI @hbl (aI @hg (aI @hg2 (aI @Ac (aI @Bool.not_true (aI @Bool.not_false (aI @Bool.and_true (aI @Bool.true_and (aI @Bool.false_and @Bool.and_false)))))))))) trivial ay
      ·exact wR (aI @hal (aI @hbl (aI @hg (aI @hg2 (aI @Ac (aI @Bool.not_true (aI @Bool.not_false (aI @Bool.and_true (aI @Bool.true_and (aI @Bool.false_and @Bool.and_false)))))))))) trivial ay
     ·have q4:decide (sB k=sB k')=false:=by rw[uO o1 o2];exact decide_eq_false q1
      exact wR (aI @hal (aI @hbl (aI @hg (aI @hg2 (aI @q4 (aI @Bool.not_true (aI @Bool.not_false (aI @Bool.and_true (aI @Bool.true_and (aI @Bool.false_and @Bool.and_false)))))))))) trivial ay
   ·have:i=a.length:=by omega
    subst this
    rw[decide_eq_true (XV hl he)]
    exact wR (aI @hal @hbl) trivial ay
 ·rw[decide_eq_false (fun h=>hl (by rw[h]))]
  refine gI oW Tryz.func115 Tryz.results115 ?_
  exact wR (aI @hal @hbl) trivial ay
def qM(a b:Cm):Bool:=decide (a.d=b.d∧a.z=b.z∧a.s=b.s∧a.b=b.b∧a.c=b.c)
theorem zB(a b:Cm)(hn:a.c.length≤1000000)(hn2:b.c.length≤1000000):Gxx 40 [.agg (cmF a),.agg (cmF b)] (vb (qM a b)):=by
 have k1:=yZ a.c b.c hn hn2
 unfold qM
 by_cases q0:a.d=b.d
 ·by_cases q1:a.z=b.z
  ·by_cases q2:a.s=b.s
   ·by_cases q3:a.b=b.b
    ·by_cases q4:a.c=b.c
     ·rw[decide_eq_true ⟨q0,q1,q2,q3,q4⟩]
      rw[decide_eq_true q4] at k1
      obtain⟨d1,z1,s1,c1,b1⟩:=a
      obtain⟨d2,z2,s2,c2,b2⟩:=b
      simp only at *
      try subst q3
      refine gI oW Tryz.func40 Tryz.results40 ?_
      exact wR (aI @fQ (aI @Bool.not_true (aI @Bool.not_false (aI @Bool.and_true (aI @Bool.true_and (aI @Bool.false_and @Bool.and_false)))))) k1 ay
     ·rw[decide_eq_false (fun h=>q4 h.2.2.2.2)]
      rw[decide_eq_false q4] at k1
      obtain⟨d1,z1,s1,c1,b1⟩:=a
      obtain⟨d2,z2,s2,c2,b2⟩:=b
      simp only at *
      try subst q3
      refine gI oW Tryz.func40 Tryz.results40 ?_
      exact wR (aI @fQ (aI @Bool.not_true (aI @Bool.not_false (aI @Bool.and_true (aI @Bool.true_and (aI @Bool.false_and @Bool.and_false)))))) k1 ay
    ·rw[decide_eq_false (fun h=>q3 h.2.2.2.1)]
     have hb:=OX q3
     obtain⟨d1,z1,s1,c1,b1⟩:=a
     obtain⟨d2,z2,s2,c2,b2⟩:=b
     simp only at *
     try subst q3
     refine gI oW Tryz.func40 Tryz.results40 ?_
     exact wR (aI @fQ (aI @Bool.not_true (aI @Bool.not_false (aI @Bool.and_true (aI @Bool.true_and (aI @Bool.false_and (aI @Bool.and_false @hb))))))) k1 ay
   ·rw[decide_eq_false (fun h=>q2 h.2.2.1)]
    obtain⟨d1,z1,s1,c1,b1⟩:=a
    obtain⟨d2,z2,s2,c2,b2⟩:=b
    simp only at *
    try subst q3
    refine gI oW Tryz.func40 Tryz.results40 ?_
    exact wR (aI @fQ (aI @Bool.not_true (aI @Bool.not_false (aI @Bool.and_true (aI @Bool.true_and (aI @Bool.false_and @Bool.and_false)))))) k1 ay
  ·rw[decide_eq_false (fun h=>q1 h.2.1)]
   obtain⟨d1,z1,s1,c1,b1⟩:=a
   obtain⟨d2,z2,s2,c2,b2⟩:=b
   simp only at *
   try subst q3
   refine gI oW Tryz.func40 Tryz.results40 ?_
   exact wR (aI @fQ (aI @Bool.not_true (aI @Bool.not_false (aI @Bool.and_true (aI @Bool.true_and (aI @Bool.false_and @Bool.and_false)))))) k1 ay
 ·rw[decide_eq_false (fun h=>q0 h.1)]
  obtain⟨d1,z1,s1,c1,b1⟩:=a
  obtain⟨d2,z2,s2,c2,b2⟩:=b
  simp only at *
  try subst q3
  refine gI oW Tryz.func40 Tryz.results40 ?_
  exact wR (aI @fQ (aI @Bool.not_true (aI @Bool.not_false (aI @Bool.and_true (aI @Bool.true_and (aI @Bool.false_and @Bool.and_false)))))) k1 ay
def qN(a b:Ll):Bool:=decide (a.p=b.p∧a.s=b.s∧a.r=b.r)
theorem Dq(a b:Ll)(hn:a.r.length≤1000000)(hn2:b.r.length≤1000000):Gxx 41 [.agg (llF a),.agg (llF b)] (vb (qN a b)):=by
 have k1:=yZ a.r b.r hn hn2
 unfold qN
 by_cases q0:a.p=b.p
 ·by_cases q1:a.s=b.s
  ·by_cases q2:a.r=b.r
   ·rw[decide_eq_true ⟨q0,q1,q2⟩]
    rw[decide_eq_true q2] at k1
    obtain⟨p1,s1,r1⟩:=a
    obtain⟨p2,s2,r2⟩:=b
    simp only at *
    refine gI oW Tryz.func41 Tryz.results41 ?_
    exact wR (aI @fQ (aI @Bool.not_true (aI @Bool.not_false (aI @Bool.and_true (aI @Bool.true_and (aI @Bool.false_and @Bool.and_false)))))) k1 ay
   ·rw[decide_eq_false (fun h=>q2 h.2.2)]
    rw[decide_eq_false q2] at k1
    obtain⟨p1,s1,r1⟩:=a
    obtain⟨p2,s2,r2⟩:=b
    simp only at *
    refine gI oW Tryz.func41 Tryz.results41 ?_
    exact wR (aI @fQ (aI @Bool.not_true (aI @Bool.not_false (aI @Bool.and_true (aI @Bool.true_and (aI @Bool.false_and @Bool.and_false)))))) k1 ay
  ·rw[decide_eq_false (fun h=>q1 h.2.1)]
   obtain⟨p1,s1,r1⟩:=a
   obtain⟨p2,s2,r2⟩:=b
   simp only at *
   refine gI oW Tryz.func41 Tryz.results41 ?_
   exact wR (aI @fQ (aI @Bool.not_true (aI @Bool.not_false (aI @Bool.and_true (aI @Bool.true_and (aI @Bool.false_and @Bool.and_false)))))) k1 ay
 ·rw[decide_eq_false (fun h=>q0 h.1)]
  obtain⟨p1,s1,r1⟩:=a
  obtain⟨p2,s2,r2⟩:=b
  simp only at *
  refine gI oW Tryz.func41 Tryz.results41 ?_
  exact wR (aI @fQ (aI @Bool.not_true (aI @Bool.not_false (aI @Bool.and_true (aI @Bool.true_and (aI @Bool.false_and @Bool.and_false)))))) k1 ay
def qO(a b:Tp):Bool:=decide (a.z=b.z∧a.t=b.t∧a.b=b.b∧a.e=b.e)
theorem Nb(a b:Tp)(ho:octE a.e)(ho2:octE b.e)(hn:a.e.length≤1000000)(hn2:b.e.length≤1000000):Gxx 42 [.agg (tpF a),.agg (tpF b)] (vb (qO a b)):=by
 have k1:=sH a.e b.e ho ho2 hn hn2
 unfold qO
 by_cases q0:a.z=b.z
 ·by_cases q1:a.t=b.t
  ·by_cases q2:a.b=b.b
   ·by_cases q3:a.e=b.e
    ·rw[decide_eq_true ⟨q0,q1,q2,q3⟩]
     rw[decide_eq_true q3] at k1
     obtain⟨z1,t1,e1,b1⟩:=a
     obtain⟨z2,t2,e2,b2⟩:=b
     simp only at *
     try subst q2
     refine gI oW Tryz.func42 Tryz.results42 ?_
     exact wR (aI @fQ (aI @Bool.not_true (aI @Bool.not_false (aI @Bool.and_true (aI @Bool.true_and (aI @Bool.false_and @Bool.and_false)))))) k1 ay
    ·rw[decide_eq_false (fun h=>q3 h.2.2.2)]
     rw[decide_eq_false q3] at k1
     obtain⟨z1,t1,e1,b1⟩:=a
     obtain⟨z2,t2,e2,b2⟩:=b
     simp only at *
     try subst q2
     refine gI oW Tryz.func42 Tryz.results42 ?_
     exact wR (aI @fQ (aI @Bool.not_true (aI @Bool.not_false (aI @Bool.and_true (aI @Bool.true_and (aI @Bool.false_and @Bool.and_false)))))) k1 ay
   ·rw[decide_eq_false (fun h=>q2 h.2.2.1)]
    have hb:=OX q2
    obtain⟨z1,t1,e1,b1⟩:=a
    obtain⟨z2,t2,e2,b2⟩:=b
    simp only at *
    try subst q2
    refine gI oW Tryz.func42 Tryz.results42 ?_
    exact wR (aI @fQ (aI @Bool.not_true (aI @Bool.not_false (aI @Bool.and_true (aI @Bool.true_and (aI @Bool.false_and (aI @Bool.and_false @hb))))))) k1 ay
  ·rw[decide_eq_false (fun h=>q1 h.2.1)]
   obtain⟨z1,t1,e1,b1⟩:=a
   obtain⟨z2,t2,e2,b2⟩:=b
   simp only at *
   try subst q2
   refine gI oW Tryz.func42 Tryz.results42 ?_
   exact wR (aI @fQ (aI @Bool.not_true (aI @Bool.not_false (aI @Bool.and_true (aI @Bool.true_and (aI @Bool.false_and @Bool.and_false)))))) k1 ay
 ·rw[decide_eq_false (fun h=>q0 h.1)]
  obtain⟨z1,t1,e1,b1⟩:=a
  obtain⟨z2,t2,e2,b2⟩:=b
  simp only at *
  try subst q2
  refine gI oW Tryz.func42 Tryz.results42 ?_
  exact wR (aI @fQ (aI @Bool.not_true (aI @Bool.not_false (aI @Bool.and_true (aI @Bool.true_and (aI @Bool.false_and @Bool.and_false)))))) k1 ay
def qP(a b:Fq):Bool:=decide (a.z=b.z∧a.t=b.t∧a.l=b.l∧a.b=b.b∧a.e=b.e)
theorem zC(a b:Fq)(ho:octE a.e)(ho2:octE b.e)(hn:a.e.length≤1000000)(hn2:b.e.length≤1000000):Gxx 43 [.agg (fqF a),.agg (fqF b)] (vb (qP a b)):=by
 have k1:=sH a.e b.e ho ho2 hn hn2
 unfold qP
 by_cases q0:a.z=b.z
 ·by_cases q1:a.t=b.t
  ·by_cases q2:a.l=b.l
   ·by_cases q3:a.b=b.b
    ·by_cases q4:a.e=b.e
     ·rw[decide_eq_true ⟨q0,q1,q2,q3,q4⟩]
      rw[decide_eq_true q4] at k1
      obtain⟨z1,t1,l1,e1,b1⟩:=a
      obtain⟨z2,t2,l2,e2,b2⟩:=b
      simp only at *
      try subst q3
      refine gI oW Tryz.func43 Tryz.results43 ?_
      exact wR (aI @fQ (aI @Bool.not_true (aI @Bool.not_false (aI @Bool.and_true (aI @Bool.true_and (aI @Bool.false_and @Bool.and_false)))))) k1 ay
     ·rw[decide_eq_false (fun h=>q4 h.2.2.2.2)]
      rw[decide_eq_false q4] at k1
      obtain⟨z1,t1,l1,e1,b1⟩:=a
      obtain⟨z2,t2,l2,e2,b2⟩:=b
      simp only at *
      try subst q3
      refine gI oW Tryz.func43 Tryz.results43 ?_
      exact wR (aI @fQ (aI @Bool.not_true (aI @Bool.not_false (aI @Bool.and_true (aI @Bool.true_and (aI @Bool.false_and @Bool.and_false)))))) k1 ay
    ·rw[decide_eq_false (fun h=>q3 h.2.2.2.1)]
     have hb:=OX q3
     obtain⟨z1,t1,l1,e1,b1⟩:=a
     obtain⟨z2,t2,l2,e2,b2⟩:=b
     simp only at *
     try subst q3
     refine gI oW Tryz.func43 Tryz.results43 ?_
     exact wR (aI @fQ (aI @Bool.not_true (aI @Bool.not_false (aI @Bool.and_true (aI @Bool.true_and (aI @Bool.false_and (aI @Bool.and_false @hb))))))) k1 ay
   ·rw[decide_eq_false (fun h=>q2 h.2.2.1)]
    obtain⟨z1,t1,l1,e1,b1⟩:=a
    obtain⟨z2,t2,l2,e2,b2⟩:=b
    simp only at *
    try subst q3
    refine gI oW Tryz.func43 Tryz.results43 ?_
    exact wR (aI @fQ (aI @Bool.not_true (aI @Bool.not_false (aI @Bool.and_true (aI @Bool.true_and (aI @Bool.false_and @Bool.and_false)))))) k1 ay
  ·rw[decide_eq_false (fun h=>q1 h.2.1)]
   obtain⟨z1,t1,l1,e1,b1⟩:=a
   obtain⟨z2,t2,l2,e2,b2⟩:=b
   simp only at *
   try subst q3
   refine gI oW Tryz.func43 Tryz.results43 ?_
   exact wR (aI @fQ (aI @Bool.not_true (aI @Bool.not_false (aI @Bool.and_true (aI @Bool.true_and (aI @Bool.false_and @Bool.and_false)))))) k1 ay
 ·rw[decide_eq_false (fun h=>q0 h.1)]
  obtain⟨z1,t1,l1,e1,b1⟩:=a
  obtain⟨z2,t2,l2,e2,b2⟩:=b
  simp only at *
  try subst q3
  refine gI oW Tryz.func43 Tryz.results43 ?_
  exact wR (aI @fQ (aI @Bool.not_true (aI @Bool.not_false (aI @Bool.and_true (aI @Bool.true_and (aI @Bool.false_and @Bool.and_false)))))) k1 ay
def qQ(a b:Rk):Bool:=decide (a.z=b.z∧a.t=b.t∧a.l=b.l∧a.b=b.b∧a.v=b.v)
theorem FQ(a b:Rk)(ha:∀l∈a.v,octL l)(hb:∀l∈b.v,octL l)(hn:a.v.length≤1000000)(hn2:b.v.length≤1000000)(hm:∀l∈a.v,l.length≤1000000)(hm2:∀l∈b.v,l.length≤1000000):Gxx 44 [.agg (rkF a),.agg (rkF b)] (vb (qQ a b)):=by
 have hA:∀i,octL (a.v.getD i [])∧(a.v.getD i []).length≤1000000:=fun i=>by
  rcases Nat.lt_or_ge i a.v.length with hi|hi
  ·exact⟨ha _ (nJ _ _ _ hi),hm _ (nJ _ _ _ hi)⟩
  ·rw[List.getD,List.getElem?_eq_none hi];exact⟨(fun e he=>by cases he),by simp⟩
 have hB:∀i,octL (b.v.getD i [])∧(b.v.getD i []).length≤1000000:=fun i=>by
  rcases Nat.lt_or_ge i b.v.length with hi|hi
  ·exact⟨hb _ (nJ _ _ _ hi),hm2 _ (nJ _ _ _ hi)⟩
  ·rw[List.getD,List.getElem?_eq_none hi];exact⟨(fun e he=>by cases he),by simp⟩
 unfold qQ
 obtain⟨z,t,l,v,bb⟩:=a
 obtain⟨z',t',l',v',bb'⟩:=b
 simp only at *
 have hal:=fD v
 have hbl:=fD v'
 generalize hD:decide (z=z'∧t=t'∧l=l'∧bb=bb'∧v=v')=D
 by_cases q0:z=z'
 ·by_cases q1:t=t'
  ·by_cases q2:l=l'
   ·by_cases q3:bb=bb'
    ·by_cases q4:v.length=v'.length
     ·subst q3
      refine gI oW Tryz.func44 Tryz.results44 ?_
      refine wS (aI @OW (aI @hal (aI @hbl (aI @Bool.not_true (aI @Bool.not_false (aI @Bool.and_true (aI @Bool.true_and (aI @Bool.false_and @Bool.and_false)))))))) trivial ?_
      refine df (fun i:Nat=>mkA [(2,.ref 0 0),(3,.ref 1 0),(5,vi i)] [(0,(39,rkF ⟨z,t,l,v,bb⟩)),(1,(39,rkF ⟨z',t',l',v',bb⟩))] 2 (fun _ => .top)) (fun i=>i≤v.length∧v.take i=v'.take i) (fun i=>v.length-i) 0 [] [0,1] ?_ ⟨Nat.zero_le _,rfl⟩ ?_
      ·exact kE
      ·rintro i ⟨hi,he⟩
       rcases Nat.lt_or_ge i v.length with hlt|hge
       ·have hg:=nG v i hlt
        have hg2:=nG v' i (by omega)
        have hx:=Aa ([]:List (List Nat)) hlt (by omega) he
        have o1:=hA i
        have o2:=hB i
        have hne:v.getD i []≠v'.getD i []→v≠v':=fun h h2=>h (by rw[h2])
        generalize v.getD i []=x at *
        generalize v'.getD i []=y at *
        have hxl:=eG x
        have hyl:=eG y
        by_cases q5:x.length=y.length
        ·refine wS (aI @hal (aI @hbl (aI @hg (aI @hg2 (aI @hxl @hyl))))) trivial ?_
         refine df (fun j:Nat=>mkA [(2,.ref 0 0),(3,.ref 1 0),(5,vi i),(6,vi j)] [(0,(39,rkF ⟨z,t,l,v,bb⟩)),(1,(39,rkF ⟨z',t',l',v',bb⟩))] 2 (fun _ => .top)) (fun j=>j≤x.length∧x.take j=y.take j) (fun j=>x.length-j) 0 [] [0,1] ?_ ⟨Nat.zero_le _,rfl⟩ ?_
         ·exact kE
         ·rintro j ⟨hj,he2⟩
          rcases Nat.lt_or_ge j x.length with hlt2|hge2
          ·have hh:=lV x j hlt2
           have hh2:=lV y j (by omega)
           have hx2:=Aa ([]:List Nat) hlt2 (by omega) he2
           have p1:=sG o1.1 j
           have p2:=sG o2.1 j
           have hne2:x.getD j []≠y.getD j []→x≠y:=fun h h2=>h (by rw[h2])
           generalize x.getD j []=k at *
           generalize y.getD j []=k' at *
           by_cases q6:k=k'
           ·subst q6
            refine wS (aI @hal (aI @hbl (aI @hg (aI @hg2 (aI @hxl (aI @hyl (aI @hh (aI @hh2 (aI @Ac (aI @Bool.not_true @Bool.not_false)))))))))) trivial ?_
            exact bE (j+1) [] [0,1] ⟨hlt2,hx2 rfl⟩
           ·have q7:decide (sB k=sB k')=false:=by rw[uO p1 p2];exact decide_eq_false q6
            rw[←hD,decide_eq_false (fun h=>hne (hne2 q6) h.2.2.2.2)]
            exact wR (aI @hal (aI @hbl (aI @hg (aI @hg2 (aI @hxl (aI @hyl (aI @hh (aI @hh2 (aI @q7 (aI @Bool.not_true @Bool.not_false)))))))))) trivial ay
          ·have:j=x.length:=by omega
           subst this
           have hxy:=XV q5 he2
           refine wS (aI @hal (aI @hbl (aI @hg (aI @hg2 (aI @hxl @hyl))))) trivial ?_
           exact bE (i+1) [] [0,1] ⟨hlt,hx hxy⟩
        ·rw[←hD,decide_eq_false (fun h=>hne (fun h2=>q5 (by rw[h2])) h.2.2.2.2)]
         exact wR (aI @hal (aI @hbl (aI @hg (aI @hg2 (aI @hxl @hyl))))) trivial ay
       ·have:i=v.length:=by omega
        subst this
        rw[←hD,decide_eq_true ⟨q0,q1,q2,rfl,XV q4 he⟩]
        exact wR (aI @hal @hbl) trivial ay
     ·rw[←hD,decide_eq_false (fun h=>q4 (by rw[h.2.2.2.2]))]
      subst q3
      refine gI oW Tryz.func44 Tryz.results44 ?_
      exact wR (aI @OW (aI @hal (aI @hbl (aI @Bool.not_true (aI @Bool.not_false (aI @Bool.and_true (aI @Bool.true_and (aI @Bool.false_and @Bool.and_false)))))))) trivial ay
    ·rw[←hD,decide_eq_false (fun h=>q3 h.2.2.2.1)]
     have hq:=agn q3
     have hq2:=OX q3
     refine gI oW Tryz.func44 Tryz.results44 ?_
     exact wR (aI @hq (aI @hq2 (aI @hal (aI @hbl (aI @Bool.not_true (aI @Bool.not_false (aI @Bool.and_true (aI @Bool.true_and (aI @Bool.false_and @Bool.and_false))))))))) trivial ay
   ·rw[←hD,decide_eq_false (fun h=>q2 h.2.2.1)]
    refine gI oW Tryz.func44 Tryz.results44 ?_
    exact wR (aI @hal (aI @hbl (aI @Bool.not_true (aI @Bool.not_false (aI @Bool.and_true (aI @Bool.true_and (aI @Bool.false_and @Bool.and_false))))))) trivial ay
  ·rw[←hD,decide_eq_false (fun h=>q1 h.2.1)]
   refine gI oW Tryz.func44 Tryz.results44 ?_
   exact wR (aI @hal (aI @hbl (aI @Bool.not_true (aI @Bool.not_false (aI @Bool.and_true (aI @Bool.true_and (aI @Bool.false_and @Bool.and_false))))))) trivial ay
 ·rw[←hD,decide_eq_false (fun h=>q0 h.1)]
  refine gI oW Tryz.func44 Tryz.results44 ?_
  exact wR (aI @hal (aI @hbl (aI @Bool.not_true (aI @Bool.not_false (aI @Bool.and_true (aI @Bool.true_and (aI @Bool.false_and @Bool.and_false))))))) trivial ay
end Go.Proofs.YtiohdbjggmmjcaaGreat
