/-
  Texts of this claim, merged; own names are short.
-/
import Derived.Test.YtjiolbcdfgclaaaGreatDoorWAK
import Derived.Test.YtjiolbcdfgclaaaGreatDoorWAJ
import Derived.Laws.Externs
import Derived.Laws.BitsLemmas
set_option linter.unusedVariables false
set_option linter.unusedSimpArgs false
set_option linter.unusedSectionVars false
set_option linter.defProp false
set_option maxRecDepth 100000
set_option maxHeartbeats 8000000
namespace Go.Proofs.YtjiolbcdfgclaaaGreatDoor
open Go Go.Pg
theorem vbE{a b:Bool}(h:a=b):vb a=vb b:=by rw[h]
def zro(o:O):Nat→Bool
 | 0=>decide (o.name.length=0)
 | 1=>decide (o.other.length=0)
 | 2=>decide (o.names.length=0)
 | 3=>decide (o.pk=0∧o.pz=0∧o.pd=0∧o.ps=0)
 | 4=>decide (o.items.length=0)
 | 5=>decide (o.coins.length=0)
 | 6=>decide (o.exp=0)
 | 7=>decide (o.src=0)
 | 8=>decide (o.hnd=0)
 | 9=>decide (o.idx=0)
 | 10=>decide (o.cur=0)
 | 11=>decide (o.cnt=0)
 | 12=>decide (o.qk=0∧o.qkey.length=0∧o.qc=0∧o.qn=0∧o.qd=0)
 | _=>decide (o.data.length=0)
theorem alf(o:O):zro o 0=decide (o.name.length=0):=rfl
theorem aeQ(o:O):Gxx 74 [.agg (opF o),vi 0] (vb (zro o 0)):=by
 refine gI oW Tryz.func74 Tryz.results74 ?_
 have hl:=aB o.items
 rw[alf]
 (repeat' first|refine wP (aI @kG (aI @aB (aI @ax @au))) trivial ?_|refine tS ?_ ?_<;>intro hc|fail)
 all_goals (refine rT [] ?_;first|rfl|simp only[pgo,simprocAttr]|skip)
 all_goals (refine vbE ?_;rw[Bool.eq_iff_iff];simp only[decide_eq_true_eq,beq_iff_eq,Bool.and_eq_true]<;>omega)
theorem alg(o:O):zro o 1=decide (o.other.length=0):=rfl
theorem aeR(o:O):Gxx 74 [.agg (opF o),vi 1] (vb (zro o 1)):=by
 refine gI oW Tryz.func74 Tryz.results74 ?_
 have hl:=aB o.items
 rw[alg]
 (repeat' first|refine wP (aI @kG (aI @aB (aI @ax @au))) trivial ?_|refine tS ?_ ?_<;>intro hc|fail)
 all_goals (refine rT [] ?_;first|rfl|simp only[pgo,simprocAttr]|skip)
 all_goals (refine vbE ?_;rw[Bool.eq_iff_iff];simp only[decide_eq_true_eq,beq_iff_eq,Bool.and_eq_true]<;>omega)
theorem alh(o:O):zro o 2=decide (o.names.length=0):=rfl
theorem aeS(o:O):Gxx 74 [.agg (opF o),vi 2] (vb (zro o 2)):=by
 refine gI oW Tryz.func74 Tryz.results74 ?_
 have hl:=aB o.items
 rw[alh]
 (repeat' first|refine wP (aI @kG (aI @aB (aI @ax @au))) trivial ?_|refine tS ?_ ?_<;>intro hc|fail)
 all_goals (refine rT [] ?_;first|rfl|simp only[pgo,simprocAttr]|skip)
 all_goals (refine vbE ?_;rw[Bool.eq_iff_iff];simp only[decide_eq_true_eq,beq_iff_eq,Bool.and_eq_true]<;>omega)
theorem ali(o:O):zro o 3=decide (o.pk=0∧o.pz=0∧o.pd=0∧o.ps=0):=rfl
theorem aeT(o:O):Gxx 74 [.agg (opF o),vi 3] (vb (zro o 3)):=by
 refine gI oW Tryz.func74 Tryz.results74 ?_
 have hl:=aB o.items
 rw[ali]
 (repeat' first|refine wP (aI @kG (aI @aB (aI @ax @au))) trivial ?_|refine tS ?_ ?_<;>intro hc|fail)
 all_goals (refine rT [] ?_;first|rfl|simp only[pgo,simprocAttr]|skip)
 all_goals (refine vbE ?_;rw[Bool.eq_iff_iff];simp only[decide_eq_true_eq,beq_iff_eq,Bool.and_eq_true]<;>omega)
theorem alj(o:O):zro o 4=decide (o.items.length=0):=rfl
theorem aeU(o:O):Gxx 74 [.agg (opF o),vi 4] (vb (zro o 4)):=by
 refine gI oW Tryz.func74 Tryz.results74 ?_
 have hl:=aB o.items
 rw[alj]
 (repeat' first|refine wP (aI @kG (aI @aB (aI @ax @au))) trivial ?_|refine tS ?_ ?_<;>intro hc|fail)
 all_goals (refine rT [] ?_;first|rfl|simp only[pgo,simprocAttr]|skip)
 all_goals (refine vbE ?_;rw[Bool.eq_iff_iff];simp only[decide_eq_true_eq,beq_iff_eq,Bool.and_eq_true]<;>omega)
theorem alk(o:O):zro o 5=decide (o.coins.length=0):=rfl
theorem aeV(o:O):Gxx 74 [.agg (opF o),vi 5] (vb (zro o 5)):=by
 refine gI oW Tryz.func74 Tryz.results74 ?_
 have hl:=aB o.items
 rw[alk]
 (repeat' first|refine wP (aI @kG (aI @aB (aI @ax @au))) trivial ?_|refine tS ?_ ?_<;>intro hc|fail)
 all_goals (refine rT [] ?_;first|rfl|simp only[pgo,simprocAttr]|skip)
 all_goals (refine vbE ?_;rw[Bool.eq_iff_iff];simp only[decide_eq_true_eq,beq_iff_eq,Bool.and_eq_true]<;>omega)
theorem alm(o:O):zro o 6=decide (o.exp=0):=rfl
theorem aeW(o:O):Gxx 74 [.agg (opF o),vi 6] (vb (zro o 6)):=by
 refine gI oW Tryz.func74 Tryz.results74 ?_
 have hl:=aB o.items
 rw[alm]
 (repeat' first|refine wP (aI @kG (aI @aB (aI @ax @au))) trivial ?_|refine tS ?_ ?_<;>intro hc|fail)
 all_goals (refine rT [] ?_;first|rfl|simp only[pgo,simprocAttr]|skip)
 all_goals (refine vbE ?_;rw[Bool.eq_iff_iff];simp only[decide_eq_true_eq,beq_iff_eq,Bool.and_eq_true]<;>omega)
theorem aln(o:O):zro o 7=decide (o.src=0):=rfl
theorem aeX(o:O):Gxx 74 [.agg (opF o),vi 7] (vb (zro o 7)):=by
 refine gI oW Tryz.func74 Tryz.results74 ?_
 have hl:=aB o.items
 rw[aln]
 (repeat' first|refine wP (aI @kG (aI @aB (aI @ax @au))) trivial ?_|refine tS ?_ ?_<;>intro hc|fail)
 all_goals (refine rT [] ?_;first|rfl|simp only[pgo,simprocAttr]|skip)
 all_goals (refine vbE ?_;rw[Bool.eq_iff_iff];simp only[decide_eq_true_eq,beq_iff_eq,Bool.and_eq_true]<;>omega)
theorem alo(o:O):zro o 8=decide (o.hnd=0):=rfl
theorem aeY(o:O):Gxx 74 [.agg (opF o),vi 8] (vb (zro o 8)):=by
 refine gI oW Tryz.func74 Tryz.results74 ?_
 have hl:=aB o.items
 rw[alo]
 (repeat' first|refine wP (aI @kG (aI @aB (aI @ax @au))) trivial ?_|refine tS ?_ ?_<;>intro hc|fail)
 all_goals (refine rT [] ?_;first|rfl|simp only[pgo,simprocAttr]|skip)
 all_goals (refine vbE ?_;rw[Bool.eq_iff_iff];simp only[decide_eq_true_eq,beq_iff_eq,Bool.and_eq_true]<;>omega)
theorem alp(o:O):zro o 9=decide (o.idx=0):=rfl
theorem aeZ(o:O):Gxx 74 [.agg (opF o),vi 9] (vb (zro o 9)):=by
 refine gI oW Tryz.func74 Tryz.results74 ?_
 have hl:=aB o.items
 rw[alp]
 (repeat' first|refine wP (aI @kG (aI @aB (aI @ax @au))) trivial ?_|refine tS ?_ ?_<;>intro hc|fail)
 all_goals (refine rT [] ?_;first|rfl|simp only[pgo,simprocAttr]|skip)
 all_goals (refine vbE ?_;rw[Bool.eq_iff_iff];simp only[decide_eq_true_eq,beq_iff_eq,Bool.and_eq_true]<;>omega)
theorem aiN(o:O):zro o 10=decide (o.cur=0):=rfl
theorem ZO(o:O):Gxx 74 [.agg (opF o),vi 10] (vb (zro o 10)):=by
 refine gI oW Tryz.func74 Tryz.results74 ?_
 have hl:=aB o.items
 rw[aiN]
 (repeat' first|refine wP (aI @kG (aI @aB (aI @ax @au))) trivial ?_|refine tS ?_ ?_<;>intro hc|fail)
 all_goals (refine rT [] ?_;first|rfl|simp only[pgo,simprocAttr]|skip)
 all_goals (refine vbE ?_;rw[Bool.eq_iff_iff];simp only[decide_eq_true_eq,beq_iff_eq,Bool.and_eq_true]<;>omega)
theorem aiO(o:O):zro o 11=decide (o.cnt=0):=rfl
theorem ZP(o:O):Gxx 74 [.agg (opF o),vi 11] (vb (zro o 11)):=by
 refine gI oW Tryz.func74 Tryz.results74 ?_
 have hl:=aB o.items
 rw[aiO]
 (repeat' first|refine wP (aI @kG (aI @aB (aI @ax @au))) trivial ?_|refine tS ?_ ?_<;>intro hc|fail)
 all_goals (refine rT [] ?_;first|rfl|simp only[pgo,simprocAttr]|skip)
 all_goals (refine vbE ?_;rw[Bool.eq_iff_iff];simp only[decide_eq_true_eq,beq_iff_eq,Bool.and_eq_true]<;>omega)
theorem aiP(o:O):zro o 12=decide (o.qk=0∧o.qkey.length=0∧o.qc=0∧o.qn=0∧o.qd=0):=rfl
theorem ZQ(o:O):Gxx 74 [.agg (opF o),vi 12] (vb (zro o 12)):=by
 refine gI oW Tryz.func74 Tryz.results74 ?_
 have hl:=aB o.items
 rw[aiP]
 (repeat' first|refine wP (aI @kG (aI @aB (aI @ax @au))) trivial ?_|refine tS ?_ ?_<;>intro hc|fail)
 all_goals (refine rT [] ?_;first|rfl|simp only[pgo,simprocAttr]|skip)
 all_goals (refine vbE ?_;rw[Bool.eq_iff_iff];simp only[decide_eq_true_eq,beq_iff_eq,Bool.and_eq_true]<;>omega)
theorem aiQ(o:O):zro o 13=decide (o.data.length=0):=rfl
theorem ZR(o:O):Gxx 74 [.agg (opF o),vi 13] (vb (zro o 13)):=by
 refine gI oW Tryz.func74 Tryz.results74 ?_
 have hl:=aB o.items
 rw[aiQ]
 (repeat' first|refine wP (aI @kG (aI @aB (aI @ax @au))) trivial ?_|refine tS ?_ ?_<;>intro hc|fail)
 all_goals (refine rT [] ?_;first|rfl|simp only[pgo,simprocAttr]|skip)
 all_goals (refine vbE ?_;rw[Bool.eq_iff_iff];simp only[decide_eq_true_eq,beq_iff_eq,Bool.and_eq_true]<;>omega)
theorem ZT(o:O)(f:Nat)(hf:f<14):Gxx 74 [.agg (opF o),vi f] (vb (zro o f)):=by
 match f,hf with
 | 0,_=>exact aeQ o
 | 1,_=>exact aeR o
 | 2,_=>exact aeS o
 | 3,_=>exact aeT o
 | 4,_=>exact aeU o
 | 5,_=>exact aeV o
 | 6,_=>exact aeW o
 | 7,_=>exact aeX o
 | 8,_=>exact aeY o
 | 9,_=>exact aeZ o
 | 10,_=>exact ZO o
 | 11,_=>exact ZP o
 | 12,_=>exact ZQ o
 | 13,_=>exact ZR o
def bov(l:List Bool):List V:=l.map fun b=>V.c (.bool b)
theorem vU(l:List Bool):(bov l).length=l.length:=by simp [bov]
theorem sV(l:List Bool)(i:Nat)(h:i<l.length):(bov l)[i]?=some (vb (l.getD i false)):=by simp [bov,h,List.getD]
theorem iM{l m:List Nat}(x:List Bool):GenL l m (bov x) (bov x):=by
 induction x with
 | nil=>trivial
 | cons a x ih=>exact⟨of_eq_true (eY _ _ _),ih⟩
def dI(l:List Int):List Bool:=(List.range 14).map fun (f:Nat)=>decide ((f:Int)∈l)
theorem kH(l:List Int):(dI l).length=14:=by simp [dI]
theorem uJ(l:List Int)(i:Nat)(h:i<14):(dI l).getD i false=decide ((i:Int)∈l):=by simp [dI,List.getD,h]
theorem Vb(l:List Int)(i:Nat)(n:Int)(hx:l[i]?=some n)(h:0≤n∧n<14):List.take n.toNat (bov (dI (l.take i)))++[vb true]++List.drop (n.toNat+1) (bov (dI (l.take i)))=bov (dI (l.take (i+1))):=by
 have hi:=(List.getElem?_eq_some_iff.1 hx).1
 have e:l.take (i+1)=l.take i++[n]:=by rw[List.take_succ_eq_append_getElem hi,(List.getElem?_eq_some_iff.1 hx).2]
 rw[e]
 have hs:bov (dI (l.take i++[n]))=(bov (dI (l.take i))).set n.toNat (vb true):=by
  apply List.ext_getElem?
  intro j
  by_cases hj:j<14
  ·by_cases hjn:n.toNat=j
   ·subst hjn
    rw[List.getElem?_set_self (by rw[vU,kH];exact hj),sV _ _ (by rw[kH];exact hj),uJ _ _ hj]
    have:decide (((n.toNat:Nat):Int)∈l.take i++[n])=true:=by
     rw[decide_eq_true_eq,List.mem_append]
     right;simp;omega
    rw[this]
   ·rw[List.getElem?_set_ne hjn,sV _ _ (by rw[kH];exact hj),sV _ _ (by rw[kH];exact hj),uJ _ _ hj,uJ _ _ hj]
    have:decide ((j:Int)∈l.take i++[n])=decide ((j:Int)∈l.take i):=by
     refine decide_eq_decide.2 ?_
     rw[List.mem_append]
     constructor
     ·rintro (h1|h1)
      ·exact h1
      ·simp at h1;omega
     ·exact .inl
    rw[this]
  ·rw[List.getElem?_eq_none (by rw[vU,kH];omega),List.getElem?_eq_none (by rw[List.length_set,vU,kH];omega)]
 rw[hs,List.set_eq_take_append_cons_drop,if_pos (by rw[vU,kH];omega)]
 simp
def vE(o:O)(m:List Bool):Nat→Nat→Int
 | 0,_=>0
 | n+1,i=>if m.getD i false=true∧chk o i≠0 then chk o i else vE o m n (i+1)
def zE(o:O)(m:List Bool):Nat→Nat→Int
 | 0,_=>0
 | n+1,i=>if m.getD i false=false∧zro o i=false then 18 else zE o m n (i+1)
def vop(o:O):Int:=if o.kind<1∨17<o.kind then 8 else if vE o (dI (bJ o.kind)) 14 0≠0 then vE o (dI (bJ o.kind)) 14 0 else zE o (dI (bJ o.kind)) 14 0
theorem Vd(k:Int)(h:k<1∨17<k):bJ k=[]:=by
 unfold bJ
 iterate 14 rw[if_neg (by omega)]
theorem nU{k:Int}(h:¬(k<1∨17<k)):k=1∨k=2∨k=3∨k=4∨k=5∨k=6∨k=7∨k=8∨k=9∨k=10∨k=11∨k=12∨k=13∨k=14∨k=15∨k=16∨k=17:=by omega
theorem ZU(k:Int):∀n∈bJ k,0≤n∧n<14:=by
 by_cases h:k<1∨17<k
 ·rw[Vd k h];intro n hn;cases hn
 ·rcases nU h with rfl|rfl|rfl|rfl|rfl|rfl|rfl|rfl|rfl|rfl|rfl|rfl|rfl|rfl|rfl|rfl|rfl<;>decide
theorem Ve(k:Int):(k<1∨17<k)∧aot k=nls∨¬(k<1∨17<k)∧(aot k = .sl .nn 1 []∧bJ k=[]∨∃x l,bJ k=x::l∧aot k = .sl (.own 0 3) 1 (iv (x::l))):=by
 unfold aot
 by_cases h:k<1∨17<k
 ·exact .inl ⟨h,by rw[if_neg (by omega),if_pos h]⟩
 ·refine .inr ⟨h, ?_⟩
  by_cases h4:k=4∨k=17
  ·refine .inl ⟨if_pos h4, ?_⟩
   rcases h4 with rfl|rfl<;>rfl
  ·right
   rw[if_neg h4,if_neg h]
   have:bJ k≠[]:=by
    rcases nU h with rfl|rfl|rfl|rfl|rfl|rfl|rfl|rfl|rfl|rfl|rfl|rfl|rfl|rfl|rfl|rfl|rfl<;>first|decide|(exfalso;omega)
   cases hu:bJ k with
   | nil=>exact absurd hu this
   | cons x l=>exact⟨x,l,rfl,rfl⟩
theorem BO(P:Program)(t:TypeId)(k:Nat):eu P .eql t (.sl .nn k []) nls=if (elemT P t).isSome=true then some (.c (.bool false)) else none:=rfl
theorem aiR(P:Program)(t:TypeId)(tg:Tag)(k:Nat)(x:Int)(r:List Int):eu P .eql t (.sl tg k (iv (x::r))) nls=if (elemT P t).isSome=true then some (.c (.bool false)) else none:=rfl
theorem ZV:bov (dI [])=List.replicate 14 (vb false):=rfl
theorem dH(o:O)(ho:o.Oct):Gxx 38 [.agg (opF o)] (vi (vop o)):=by
 have hu:=aiM o.kind
 rcases Ve o.kind with ⟨hk,he⟩|⟨hk,he⟩
 ·rw[he] at hu
  rw[vop,if_pos hk]
  refine gI oW Tryz.func38 Tryz.results38 ?_
  exact wR trivial hu ah
 ·rw[vop,if_neg hk]
  have hin:=ZU o.kind
  refine gI (oW [10]) Tryz.func38 Tryz.results38 ?_
  have rest:∀l:List Int,bJ o.kind=l→(aot o.kind = .sl .nn 1 []∧l=[]∨∃x r,l=x::r∧aot o.kind = .sl (.own 0 3) 1 (iv l)):=by
   rintro l rfl
   rcases he with he|⟨x,r,h1,h2⟩
   ·exact .inl he
   ·exact .inr ⟨x,r,h1,by rw[h1];exact h2⟩
  generalize hl:bJ o.kind=l at hin
  have he2:=rest l hl
  clear rest he
  have hm:=kH l
  have hb:=vU (dI l)
  have e0:=ZV
  rcases he2 with ⟨he,rfl⟩|⟨x,r,rfl,he⟩
  ·rw[he] at hu
   refine wS @BO hu ?_
   refine BJ _ (fun _:Unit=>mkA [(1,.ref 0 0),(4,.ref 1 0)] [(0,(32,opF o)),(1,(132,bov (dI [])))] 2 (fun _ => .top)) (fun _=>True) rfl ?_ ?_
   ·intro _ _
    have hml:=kH []
    generalize hE:vE o (dI []) 14 0=E
    generalize hZ:zE o (dI []) 14 0=Z
    refine wS @BO trivial ?_
    refine aK (fun i:Nat=>mkA [(1,.ref 0 0),(4,.ref 1 0),(24,vi i)] [(0,(32,opF o)),(1,(132,bov (dI [])))] 2 (fun _ => .top)) (fun i=>i≤14∧E=vE o (dI []) (14-i) i) (fun i=>14-i) 0 [] [0,1] ?_ ⟨Nat.zero_le _,hE.symm⟩ ?_
    ·exact kE
     all_goals exact iM _
    ·rintro i ⟨hi,hv⟩
     rcases Nat.lt_or_ge i 14 with hlt|hge
     ·have hg:=sV (dI []) i (by rw[hml];exact hlt)
      have hc:=Rl o ho i hlt
      have hi0:(0:Int)≤(i:Int):=by omega
      have hi1:(i:Int)<14:=by omega
      rw[show 14-i=(14-(i+1))+1 by omega,vE] at hv
      cases hb:(dI []).getD i false
      ·rw[hb] at hg
       rw[if_neg (by rw[hb];simp)] at hv
       refine wS (aI @hg (aI @hi0 (aI @hi1 @Nat.mul_one))) trivial ?_
       exact bE (i+1) [] [0,1] ⟨hlt,hv⟩
       all_goals exact iM _
      ·rw[hb] at hg
       by_cases hz:chk o i=0
       ·rw[if_neg (by rw[hz];simp)] at hv
        refine wS (aI @hg (aI @hi0 (aI @hi1 (aI @Nat.mul_one @hz)))) hc ?_
        exact bE (i+1) [] [0,1] ⟨hlt,hv⟩
        all_goals exact iM _
       ·rw[if_pos ⟨hb,hz⟩] at hv
        rw[hv,if_pos hz]
        exact wR (aI @hg (aI @hi0 (aI @hi1 (aI @Nat.mul_one @hz)))) hc ah
     ·have:i=14:=by omega
      subst this
      have hv0:E=0:=hv
      rw[hv0,if_neg (by simp)]
      refine wS trivial trivial ?_
      refine aK (fun i:Nat=>mkA [(1,.ref 0 0),(4,.ref 1 0),(38,vi i)] [(0,(32,opF o)),(1,(132,bov (dI [])))] 2 (fun _ => .top)) (fun i=>i≤14∧Z=zE o (dI []) (14-i) i) (fun i=>14-i) 0 [] [0,1] ?_ ⟨Nat.zero_le _,hZ.symm⟩ ?_
      ·exact kE
       all_goals exact iM _
      ·rintro i ⟨hi,hv⟩
       rcases Nat.lt_or_ge i 14 with hlt|hge
       ·have hg:=sV (dI []) i (by rw[hml];exact hlt)
        have hc:=ZT o i hlt
        have hi0:(0:Int)≤(i:Int):=by omega
        have hi1:(i:Int)<14:=by omega
        rw[show 14-i=(14-(i+1))+1 by omega,zE] at hv
        cases hb:(dI []).getD i false
        ·rw[hb] at hg
         cases hz:zro o i
         ·rw[if_pos ⟨hb,hz⟩] at hv
          rw[hz] at hc
          rw[hv]
          exact wR (aI @hg (aI @hi0 (aI @hi1 @Nat.mul_one))) hc ah
         ·rw[if_neg (by rw[hz];simp)] at hv
          rw[hz] at hc
          refine wS (aI @hg (aI @hi0 (aI @hi1 @Nat.mul_one))) hc ?_
          exact bE (i+1) [] [0,1] ⟨hlt,hv⟩
          all_goals exact iM _
        ·rw[hb] at hg
         rw[if_neg (by rw[hb];simp)] at hv
         refine wS (aI @hg (aI @hi0 (aI @hi1 @Nat.mul_one))) hc ?_
         exact bE (i+1) [] [0,1] ⟨hlt,hv⟩
         all_goals exact iM _
       ·have:i=14:=by omega
        subst this
        have hv0:Z=0:=hv
        rw[hv0]
        exact wR trivial trivial ah
   ·refine wS @BO trivial ?_
    refine aK (fun _:Unit=>mkA [(1,.ref 0 0),(4,.ref 1 0),(15,.sl .nn 1 []),(16,vi 0),(17,vi 0)] [(0,(32,opF o)),(1,(132,bov (dI [])))] 2 (fun _ => .top)) (fun _=>True) (fun _=>0) () [] [0,1] ?_ trivial ?_
    ·refine kL ?_
     all_goals first|exact GI rfl rfl|skip
    ·intro _ _
     refine wS trivial trivial ?_
     refine xY () [] [0,1] trivial ?_
     exact kE
     all_goals exact iM _
  ·rw[he] at hu
   refine wS @aiR hu ?_
   refine BJ _ (fun _:Unit=>mkA [(1,.ref 0 0),(4,.ref 1 0)] [(0,(32,opF o)),(1,(132,bov (dI (x::r))))] 2 (fun _ => .top)) (fun _=>True) rfl ?_ ?_
   ·intro _ _
    have hml:=kH (x::r)
    generalize hE:vE o (dI (x::r)) 14 0=E
    generalize hZ:zE o (dI (x::r)) 14 0=Z
    refine wS @BO trivial ?_
    refine aK (fun i:Nat=>mkA [(1,.ref 0 0),(4,.ref 1 0),(24,vi i)] [(0,(32,opF o)),(1,(132,bov (dI (x::r))))] 2 (fun _ => .top)) (fun i=>i≤14∧E=vE o (dI (x::r)) (14-i) i) (fun i=>14-i) 0 [] [0,1] ?_ ⟨Nat.zero_le _,hE.symm⟩ ?_
    ·exact kE
     all_goals exact iM _
    ·rintro i ⟨hi,hv⟩
     rcases Nat.lt_or_ge i 14 with hlt|hge
     ·have hg:=sV (dI (x::r)) i (by rw[hml];exact hlt)
      have hc:=Rl o ho i hlt
      have hi0:(0:Int)≤(i:Int):=by omega
      have hi1:(i:Int)<14:=by omega
      rw[show 14-i=(14-(i+1))+1 by omega,vE] at hv
      cases hb:(dI (x::r)).getD i false
      ·rw[hb] at hg
       rw[if_neg (by rw[hb];simp)] at hv
       refine wS (aI @hg (aI @hi0 (aI @hi1 @Nat.mul_one))) trivial ?_
       exact bE (i+1) [] [0,1] ⟨hlt,hv⟩
       all_goals exact iM _
      ·rw[hb] at hg
       by_cases hz:chk o i=0
       ·rw[if_neg (by rw[hz];simp)] at hv
        refine wS (aI @hg (aI @hi0 (aI @hi1 (aI @Nat.mul_one @hz)))) hc ?_
        exact bE (i+1) [] [0,1] ⟨hlt,hv⟩
        all_goals exact iM _
       ·rw[if_pos ⟨hb,hz⟩] at hv
        rw[hv,if_pos hz]
        exact wR (aI @hg (aI @hi0 (aI @hi1 (aI @Nat.mul_one @hz)))) hc ah
     ·have:i=14:=by omega
      subst this
      have hv0:E=0:=hv
      rw[hv0,if_neg (by simp)]
      refine wS trivial trivial ?_
      refine aK (fun i:Nat=>mkA [(1,.ref 0 0),(4,.ref 1 0),(38,vi i)] [(0,(32,opF o)),(1,(132,bov (dI (x::r))))] 2 (fun _ => .top)) (fun i=>i≤14∧Z=zE o (dI (x::r)) (14-i) i) (fun i=>14-i) 0 [] [0,1] ?_ ⟨Nat.zero_le _,hZ.symm⟩ ?_
      ·exact kE
       all_goals exact iM _
      ·rintro i ⟨hi,hv⟩
       rcases Nat.lt_or_ge i 14 with hlt|hge
       ·have hg:=sV (dI (x::r)) i (by rw[hml];exact hlt)
        have hc:=ZT o i hlt
        have hi0:(0:Int)≤(i:Int):=by omega
        have hi1:(i:Int)<14:=by omega
        rw[show 14-i=(14-(i+1))+1 by omega,zE] at hv
        cases hb:(dI (x::r)).getD i false
        ·rw[hb] at hg
         cases hz:zro o i
         ·rw[if_pos ⟨hb,hz⟩] at hv
          rw[hz] at hc
          rw[hv]
          exact wR (aI @hg (aI @hi0 (aI @hi1 @Nat.mul_one))) hc ah
         ·rw[if_neg (by rw[hz];simp)] at hv
          rw[hz] at hc
          refine wS (aI @hg (aI @hi0 (aI @hi1 @Nat.mul_one))) hc ?_
          exact bE (i+1) [] [0,1] ⟨hlt,hv⟩
          all_goals exact iM _
        ·rw[hb] at hg
         rw[if_neg (by rw[hb];simp)] at hv
         refine wS (aI @hg (aI @hi0 (aI @hi1 @Nat.mul_one))) hc ?_
         exact bE (i+1) [] [0,1] ⟨hlt,hv⟩
         all_goals exact iM _
       ·have:i=14:=by omega
        subst this
        have hv0:Z=0:=hv
        rw[hv0]
        exact wR trivial trivial ah
   ·have hll:(iv (x::r)).length=r.length+1:=bP (x::r)
    refine wS trivial trivial ?_
    refine aK (fun i:Nat=>mkA [(1,.ref 0 0),(4,.ref 1 0),(15,.sl (.own 0 3) 1 (iv (x::r))),(16,vi (x::r).length),(17,vi i)] [(0,(32,opF o)),(1,(132,bov (dI ((x::r).take i))))] 2 (fun _ => .top)) (fun i=>i≤(x::r).length) (fun i=>(x::r).length-i) 0 [1] [0,2] ?_ (Nat.zero_le _) ?_
    ·(refine iy ?_ ?_ (kD _ _ _) (by decide) (by decide) (by decide) (by decide);(repeat' (first|exact trivial|refine gJ _ _ rfl rfl ?_ ?_));all_goals (try simp only[pgs,pgl,pgx,pgf,pgw,fQ,ig,fU,iq,dB,eY,fJ,pgn,simprocAttr]);all_goals (try (repeat' (first|apply aI)));all_goals (try (first|exact trivial|exact gB (by omega)|exact gq rfl|exact aW rfl rfl|exact je rfl)))
     all_goals first|exact iM _|(exact aW rfl rfl)|skip
    ·intro i hi
     replace hi:i≤(x::r).length:=hi
     have hr5:(x::r).length≤5:=by
      rw[←hl]
      by_cases h:o.kind<1∨17<o.kind
      ·exact absurd h hk
      ·have h5:∀k:Int,¬(k<1∨17<k)→(bJ k).length≤5:=by
        intro k h
        rcases nU h with rfl|rfl|rfl|rfl|rfl|rfl|rfl|rfl|rfl|rfl|rfl|rfl|rfl|rfl|rfl|rfl|rfl<;>decide
       exact h5 _ h
     rcases Nat.lt_or_ge i (x::r).length with hlt|hge
     ·have hg:=mg (x::r) i hlt
      have hx:=getD_some (x::r) i 0 hlt
      have hn:=hin ((x::r).getD i 0) (by rw[List.getD_eq_getElem?_getD,List.getElem?_eq_getElem hlt];exact List.getElem_mem hlt)
      have hnx:=Vb (x::r) i _ hx hn
      generalize (x::r).getD i 0=n at hg hx hn hnx
      have hn0:=hn.1
      have hn1:=hn.2
      have hbl:=vU (dI ((x::r).take i))
      rw[kH] at hbl
      have hn2:n.toNat+1≤14:=by omega
      have hlt':i<r.length+1:=hlt
      refine wS (aI @hg (aI @hn0 (aI @hn1 (aI @Nat.mul_one (aI @hbl (aI @hn2 @hnx)))))) trivial ?_
      exact bE (i+1) [0] [0,1] hlt
      all_goals exact iM _
     ·have:i=(x::r).length:=by omega
      subst this
      rw[List.take_length]
      refine wS trivial trivial ?_
      refine xY () [] [0,1] trivial ?_
      exact kE
      all_goals exact iM _
end Go.Proofs.YtjiolbcdfgclaaaGreatDoor
section
namespace Go.Proofs.YtjiolbcdfgclaaaGreatDoor
open Go Go.Pg
def uv(l:List Int):List V:=l.map fun n=>V.c (.int .u64 n)
theorem zT(l:List Int):(uv l).length=l.length:=by simp [uv]
theorem ZW(l:List Int)(i:Nat)(h:i<l.length):(uv l)[i]?=some (.c (.int .u64 (l.getD i 0))):=by simp [uv,h,List.getD]
theorem ae0(l:List Int)(n:Int):uv l++[V.c (.int .u64 n)]=uv (l++[n]):=by simp [uv]
abbrev fzu(l:List Int):V := .sl .fz 1 (uv l)
theorem ae1(l:List Int)(n:Int):iv l++[V.c (.int .i64 n)]=iv (l++[n]):=by simp [iv]
theorem Il(l:List Int)(i:Nat)(n:Int):(iv l).set i (V.c (.int .i64 n))=iv (l.set i n):=by simp [iv,List.map_set]
abbrev En:=List Nat × Int × Int
def ev(l:List En):List V:=l.map fun x=>V.agg [vs x.1,vi x.2.1,vi x.2.2]
theorem aY(l:List En):(ev l).length=l.length:=by simp [ev]
theorem jr(l:List En)(i:Nat)(h:i<l.length):(ev l)[i]?=some (.agg [vs (l.getD i ([],0,0)).1,vi (l.getD i ([],0,0)).2.1,vi (l.getD i ([],0,0)).2.2]):=by simp [ev,h,List.getD]
theorem sW(l:List En)(k:List Nat)(c e:Int):ev l++[V.agg [vs k,vi c,vi e]]=ev (l++[(k,c,e)]):=by simp [ev]
theorem DI(l:List En)(i:Nat)(k:List Nat)(c e:Int):(ev l).set i (V.agg [vs k,vi c,vi e])=ev (l.set i (k,c,e)):=by simp [ev,List.map_set]
theorem ae2(l:List En)(n:Nat):(ev l).take n=ev (l.take n):=by simp [ev,List.map_take]
abbrev fzv(l:List En):V := .sl .fz 3 (ev l)
def lv(l:List (List (List Nat))):List V:=l.map fun x=>fzs x
theorem mr(l:List (List (List Nat))):(lv l).length=l.length:=by simp [lv]
theorem uK(l:List (List (List Nat)))(i:Nat)(h:i<l.length):(lv l)[i]?=some (fzs (l.getD i [])):=by simp [lv,h,List.getD]
theorem yz(l:List (List (List Nat)))(x:List (List Nat)):lv l++[fzs x]=lv (l++[x]):=by simp [lv]
theorem aiS(l:List (List (List Nat)))(i:Nat)(x:List (List Nat)):(lv l).set i (fzs x)=lv (l.set i x):=by simp [lv,List.map_set]
theorem ae3(l:List (List (List Nat)))(n:Nat):(lv l).take n=lv (l.take n):=by simp [lv,List.map_take]
abbrev fzl(l:List (List (List Nat))):V := .sl .fz 1 (lv l)
section
variable (P:Program) (t:TypeId) (k:Nat) (xs:List V) (ik ik':IntKind) (a c:Int)
theorem ae4(h0:0≤c)(h1:c≤xs.length):slV P t (.sl .fz k xs) none (some (.c (.int ik c)))=if (elemT P t).bind (tsz P)=some k then some (.sl .fz k (xs.take c.toNat)) else none:=by
 rw[Dk]
 simp only[bdV,Option.bind_some]
 by_cases he:(elemT P t).bind (tsz P)=some k<;>simp [he,h0,h1]
theorem ae5(h0:0≤a)(h1:a≤xs.length):slV P t (.sl .fz k xs) (some (.c (.int ik a))) none=if (elemT P t).bind (tsz P)=some k then some (.sl .fz k (xs.drop a.toNat)) else none:=by
 rw[Dk]
 simp only[bdV,Option.bind_some]
 by_cases he:(elemT P t).bind (tsz P)=some k<;>simp [he,h0,h1]
theorem ae6(h0:0≤a)(h1:a≤c)(h2:c≤xs.length):slV P t (.sl .fz k xs) (some (.c (.int ik a))) (some (.c (.int ik' c)))=if (elemT P t).bind (tsz P)=some k then some (.sl .fz k ((xs.take c.toNat).drop a.toNat)) else none:=by
 rw[Dk]
 simp only[bdV,Option.bind_some]
 by_cases he:(elemT P t).bind (tsz P)=some k<;>simp [he,h0,h1,h2]
theorem O1(e:Nat→V)(b:Nat→Option (TypeId × List V))(n:Nat)(h:Nat→V)(id:Nat)(lo hi:Option V):nO P ⟨e,b,n,h⟩ t id k xs lo hi=(slV P t (.sl .fz k xs) lo hi).map fun r=>(r,⟨lX (frz id) e,sH (frz id) b,n,lX (frz id) h⟩):=rfl
theorem alq(v:Value):isC (.c v)=true:=rfl
end
def pgv:=aI ae4 (aI ae5 (aI ae6 (aI O1 (aI alq (aI aY (aI bP (aI zT mr)))))))
structure Tl where
 t:Int
 i:Int
 b:Bool
structure Cm where
 d:Int
 z:Int
 s:Int
 c:List Int
 b:Bool
structure Ll where
 p:Int
 s:Int
 r:List Int
structure Tp where
 z:Int
 t:Int
 e:List En
 b:Bool
structure Fq where
 z:Int
 t:Int
 l:Int
 e:List En
 b:Bool
structure Rk where
 z:Int
 t:Int
 l:Int
 v:List (List (List Nat))
 b:Bool
structure Pm where
 k:Int
 z:Int
 d:Int
 s:Int
structure Sk where
 p:Pm
 tl:Tl
 cm:Cm
 ll:Ll
 tp:Tp
 fq:Fq
 rk:Rk
abbrev pmF(p:Pm):List V:=[vi p.k,vi p.z,vi p.d,vu p.s]
abbrev tlF(t:Tl):List V:=[vi t.t,vi t.i,vb t.b]
abbrev cmF(c:Cm):List V:=[vi c.d,vi c.z,vu c.s,fzi c.c,vb c.b]
abbrev llF(l:Ll):List V:=[vi l.p,vu l.s,fzi l.r]
abbrev tpF(t:Tp):List V:=[vi t.z,vi t.t,fzv t.e,vb t.b]
abbrev fqF(f:Fq):List V:=[vi f.z,vi f.t,vi f.l,fzv f.e,vb f.b]
abbrev rkF(r:Rk):List V:=[vi r.z,vi r.t,vi r.l,fzl r.v,vb r.b]
abbrev skF(s:Sk):List V:=[vi s.p.k,vi s.p.z,vi s.p.d,vu s.p.s,vi s.tl.t,vi s.tl.i,vb s.tl.b,vi s.cm.d,vi s.cm.z,vu s.cm.s,fzi s.cm.c,vb s.cm.b,vi s.ll.p,vu s.ll.s,fzi s.ll.r,vi s.tp.z,vi s.tp.t,fzv s.tp.e,vb s.tp.b,vi s.fq.z,vi s.fq.t,vi s.fq.l,fzv s.fq.e,vb s.fq.b,vi s.rk.z,vi s.rk.t,vi s.rk.l,fzl s.rk.v,vb s.rk.b]
def Tl.o:Tl:=⟨0,0,false⟩
def Cm.o:Cm:=⟨0,0,0,[],false⟩
def Ll.o:Ll:=⟨0,0,[]⟩
def Tp.o:Tp:=⟨0,0,[],false⟩
def Fq.o:Fq:=⟨0,0,0,[],false⟩
def Rk.o:Rk:=⟨0,0,0,[],false⟩
def Pm.o:Pm:=⟨0,0,0,0⟩
def Sk.o:Sk:=⟨Pm.o,Tl.o,Cm.o,Ll.o,Tp.o,Fq.o,Rk.o⟩
end Go.Proofs.YtjiolbcdfgclaaaGreatDoor
end
namespace Go.Proofs.YtjiolbcdfgclaaaGreatDoor
open Go Go.Pg
def ixB(l:List Nat)(c:Nat):Int :=
 match (List.range l.length).find? fun i=>l.getD i 0 == c with
 | some i=>i
 | none => -1
theorem O3{p q:Nat→Bool}:∀(xs:List Nat),(∀i∈xs,p i=q i)→xs.find? p=xs.find? q:=by
 intro xs
 induction xs with
 | nil=>intro _;rfl
 | cons x xs ih =>
  intro h
  rw[List.find?_cons,List.find?_cons,h x (by simp),ih (fun i hi=>h i (by simp [hi]))]
theorem KL{l:List Nat}(ho:oct l){c:Nat}(hc:c<256):firstIdx (sB l) ((c:Int).toNat.toUInt8)=ixB l c:=by
 unfold firstIdx ixB
 rw[bD]
 rw[O3 (q:=fun i=>l.getD i 0 == c) (List.range l.length) ?_]
 ·cases (List.range l.length).find? fun i=>l.getD i 0 == c<;>rfl
 ·intro i hi
  have hi:=List.mem_range.1 hi
  have hg:(sB l)[i]! = (sB l)[i]'(by rw[bD];exact hi):=getElem!_pos (sB l) i _
  have e:(sB l)[i]! = UInt8.ofNat (l.getD i 0):=by
   rw[hg]
   show (sB l).data[i]'_=_
   simp [sB,List.getD,hi]
  rw[e]
  have hb:=gW ho i
  rw[Bool.eq_iff_iff,beq_iff_eq,beq_iff_eq]
  constructor
  ·intro h
   have:=congrArg UInt8.toNat h
   simp only[UInt8.toNat_ofNat',Int.toNat_natCast,Nat.toUInt8] at this
   omega
  ·intro h
   rw[h]
   rfl
theorem aiT(l:List Nat)(c:Nat)(ho:oct l)(hc:c<256):GoodX Tryz.prog 227 [.c (.string (sB l)),.c (.int .u8 (c:Int))] (.c (.int .i64 (ixB l c))):=by
 rintro L w cargs ⟨_,_,rfl,rfl,_,_,rfl,rfl,rfl⟩
 refine⟨_, ?_,rfl⟩
 rw[run_callFunc_extern Tryz.func227 (by kernel_rfl) (by kernel_rfl) (by kernel_rfl) (e:=Extern.BytealgIndexByte.indexByte) (by kernel_rfl)]
 show ((Extern.BytealgIndexByte.indexByte #[.string (sB l),.int .u8 (c:Int)]).run Tryz.prog w).andThen _=_
 rw[run_indexByte_string,KL ho hc]
 rfl
theorem aov{P:Program}[Tb P]{g:FuncId}{args:List Operand}{d:Option Nat}{s s':St}{K:Kd→St→Prop}{vs:List V}(r:V)(hg:GoodZ P g vs s s' r)(hvs:args.map s.ev=vs)(hK:K .z (s'.put d r)):gU P (.fn g [] []) args d s K:=by
 refine .inr ⟨s',r, ?_,hK⟩
 simpa [hvs] using hg
theorem aiU(l:List Nat)(c:Nat)(ho:oct l)(hc:c<256):Gxx 191 [.c (.string (sB l)),.c (.int .u8 (c:Int))] (.c (.int .i64 (ixB l c))):=by
 refine dE (gY mix) Tryz.func191 rfl Tryz.results191 rfl (by kernel_rfl) (Nat.le_of_ble_eq_true (by kernel_rfl)) ?_
 simp only[Tryz.f191,pgs,pgl,pgx,pgf,Nat.reduceEqDiff,reduceIte]
 refine aov _ ((aiT l c ho hc).z _) rfl ?_
 simp only[pgs,pgl,pgx,pgf,Nat.reduceEqDiff,reduceIte]
 refine eU [] _ (aG _ _ _) .nil ?_ ?_
 ·simp only[pgs,pgl,pgx,pgf,Nat.reduceEqDiff,reduceIte]
 ·simp only[pgs,pgl,pgx,pgf,Nat.reduceEqDiff,reduceIte]
theorem DJ(l:List Nat)(c:Nat)(ho:oct l)(hc:c<256):Gxx 144 [.c (.string (sB l)),.c (.int .u8 (c:Int))] (.c (.int .i64 (ixB l c))):=by
 refine dE (gY mix) Tryz.func144 rfl Tryz.results144 rfl (by kernel_rfl) (Nat.le_of_ble_eq_true (by kernel_rfl)) ?_
 simp only[Tryz.f144,pgs,pgl,pgx,pgf,Nat.reduceEqDiff,reduceIte]
 refine aP _ (aiU l c ho hc) rfl rfl rfl rfl ?_
 simp only[pgs,pgl,pgx,pgf,Nat.reduceEqDiff,reduceIte]
 refine eU [] _ (aG _ _ _) .nil ?_ ?_
 ·simp only[pgs,pgl,pgx,pgf,Nat.reduceEqDiff,reduceIte]
 ·simp only[pgs,pgl,pgx,pgf,Nat.reduceEqDiff,reduceIte]
theorem sls(l:List Nat)(k1 k2:IntKind)(lo hi:Int)(h0:0≤lo)(h1:lo≤hi)(h2:hi≤l.length):slV Tryz.prog 9 (.c (.string (sB l))) (some (.c (.int k1 lo))) (some (.c (.int k2 hi)))=some (.c (.string (sB ((l.take hi.toNat).drop lo.toNat)))):=by
 rw[BK]
 simp only[BL,Option.bind_some,bD]
 rw[if_pos ⟨is9,h0,h1,h2⟩,H6]
theorem anC(l:List Nat)(k1:IntKind)(lo:Int)(h0:0≤lo)(h2:lo≤l.length):slV Tryz.prog 9 (.c (.string (sB l))) (some (.c (.int k1 lo))) none=some (.c (.string (sB (l.drop lo.toNat)))):=by
 rw[BK]
 simp only[BL,Dl,Option.bind_some,bD]
 rw[if_pos ⟨is9,h0,h2,Int.le_refl _⟩,H6,Int.toNat_natCast,List.take_length]
theorem anD(l:List Nat)(k2:IntKind)(hi:Int)(h0:0≤hi)(h2:hi≤l.length):slV Tryz.prog 9 (.c (.string (sB l))) none (some (.c (.int k2 hi)))=some (.c (.string (sB (l.take hi.toNat)))):=by
 rw[BK]
 simp only[BL,Dl,Option.bind_some,bD]
 rw[if_pos ⟨is9,by simp,h0,h2⟩,H6]
 simp
def oV(l p:List Nat):Bool:=decide (p.length≤l.length)&&decide (l.take p.length=p)
theorem aiV(l p:List Nat)(ho:oct l)(hp:oct p):Gxx 251 [.c (.string (sB l)),.c (.string (sB p))] (.c (.bool (oV l p))):=by
 refine dE (gY mix) Tryz.func251 rfl Tryz.results251 rfl (by kernel_rfl) (Nat.le_of_ble_eq_true (by kernel_rfl)) ?_
 unfold oV
 rcases Nat.lt_or_ge l.length p.length with h|h
 ·have e1:decide ((p.length:Int)≤(l.length:Int))=false:=decide_eq_false (by omega)
  rw[decide_eq_false (show ¬p.length≤l.length by omega)]
  simp only[Tryz.f251,pgs,pgl,pgx,pgf,Nat.reduceEqDiff,reduceIte,is9,bD,e1]
  refine eU [] _ (aG _ _ _) .nil ?_ ?_
  ·simp only[pgs,pgl,pgx,pgf,Nat.reduceEqDiff,reduceIte]
  ·simp only[pgs,pgl,pgx,pgf,Nat.reduceEqDiff,reduceIte]
 ·have e1:decide ((p.length:Int)≤(l.length:Int))=true:=decide_eq_true (by omega)
  rw[decide_eq_true h]
  simp (disch:=omega) only[Tryz.f251,pgs,pgl,pgx,pgf,Nat.reduceEqDiff,reduceIte,is9,bD,e1,anD,Int.toNat_natCast,sJ (J7 ho _) hp]
  refine eU [] _ (aG _ _ _) .nil ?_ ?_
  ·simp only[pgs,pgl,pgx,pgf,Nat.reduceEqDiff,reduceIte]
  ·simp only[pgs,pgl,pgx,pgf,Nat.reduceEqDiff,reduceIte]
def O4(l p:List Nat):V:=if oV l p=true then .tup [.c (.string (sB (l.drop p.length))),.c (.bool true)] else .tup [.c (.string (sB l)),.c (.bool false)]
theorem aiW(l p:List Nat)(ho:oct l)(hp:oct p):Gxx 228 [.c (.string (sB l)),.c (.string (sB p))] (O4 l p):=by
 refine dE (gY mix) Tryz.func228 rfl Tryz.results228 rfl (by kernel_rfl) (Nat.le_of_ble_eq_true (by kernel_rfl)) ?_
 have g:=aiV l p ho hp
 unfold O4
 simp only[Tryz.f228,pgs,pgl,pgx,pgf,Nat.reduceEqDiff,reduceIte]
 cases h:oV l p<;>rw[h] at g
 ·refine aP _ g rfl rfl rfl rfl ?_
  simp only[pgs,pgl,pgx,pgf,Nat.reduceEqDiff,reduceIte,QQ]
  refine eU [] _ (jq _ _ _ _) .nil ?_ ?_
  ·simp only[pgs,pgl,pgx,pgf,Nat.reduceEqDiff,reduceIte]
  ·simp only[pgs,pgl,pgx,pgf,Nat.reduceEqDiff,reduceIte]
 ·have hl:p.length≤l.length:=by
   unfold oV at h
   simp only[Bool.and_eq_true,decide_eq_true_eq] at h
   exact h.1
  refine aP _ g rfl rfl rfl rfl ?_
  simp (disch:=omega) only[pgs,pgl,pgx,pgf,Nat.reduceEqDiff,reduceIte,QQ,is9,bD,anC,Int.toNat_natCast]
  refine eU [] _ (jq _ _ _ _) .nil ?_ ?_
  ·simp only[pgs,pgl,pgx,pgf,Nat.reduceEqDiff,reduceIte]
  ·simp only[pgs,pgl,pgx,pgf,Nat.reduceEqDiff,reduceIte]
theorem xh(l p:List Nat):(oV l p=true∧O4 l p = .tup [.c (.string (sB (l.drop p.length))),.c (.bool true)])∨(oV l p=false∧O4 l p = .tup [.c (.string (sB l)),.c (.bool false)]):=by
 unfold O4
 cases h:oV l p<;>simp
theorem ZX(l p:List Nat)(ho:oct l)(hp:oct p):Gxx 192 [.c (.string (sB l)),.c (.string (sB p))] (O4 l p):=by
 refine dE (gY mix) Tryz.func192 rfl Tryz.results192 rfl (by kernel_rfl) (Nat.le_of_ble_eq_true (by kernel_rfl)) ?_
 have g:=aiW l p ho hp
 simp only[Tryz.f192,pgs,pgl,pgx,pgf,Nat.reduceEqDiff,reduceIte]
 rcases xh l p with ⟨_,h⟩|⟨_,h⟩<;>rw[h] at g ⊢
 all_goals
  refine aP _ g rfl rfl rfl rfl ?_
  simp only[pgs,pgl,pgx,pgf,Nat.reduceEqDiff,reduceIte]
  refine eU [] _ (jq _ _ _ _) .nil ?_ ?_
  ·simp only[pgs,pgl,pgx,pgf,Nat.reduceEqDiff,reduceIte]
  ·simp only[pgs,pgl,pgx,pgf,Nat.reduceEqDiff,reduceIte]
def mk5(c:Nat):Bool:=c != 95&&(c != 45&&(c != 46&&(c != 58&&c != 47)))
def plC(c:Nat):Bool:=bt c 97 122||bt c 65 90||bt c 48 57 || !mk5 c
def kJ(l:List Nat):Bool:=l.all plC
theorem ix5(c:Nat):decide (ixB [95,45,46,58,47] c<0)=mk5 c:=by
 unfold ixB mk5
 rw[show List.range [95,45,46,58,47].length=[0,1,2,3,4] from rfl]
 by_cases h1:c=95
 ·subst h1;rfl
 by_cases h2:c=45
 ·subst h2;rfl
 by_cases h3:c=46
 ·subst h3;rfl
 by_cases h4:c=58
 ·subst h4;rfl
 by_cases h5:c=47
 ·subst h5;rfl
 simp [List.getD,h1,h2,h3,h4,h5,Ne.symm h1,Ne.symm h2,Ne.symm h3,Ne.symm h4,Ne.symm h5]
theorem anE:oct [95,45,46,58,47]:=by intro b hb;simp at hb;omega
theorem aiX(l:List Nat)(ho:oct l)(hl:l.length≤4294967296):Gxx 134 [.c (.string (sB l))] (.c (.bool (kJ l))):=by
 refine dE (gY mix) Tryz.func134 rfl Tryz.results134 rfl (by kernel_rfl) (Nat.le_of_ble_eq_true (by kernel_rfl)) ?_
 unfold kJ
 simp only[Tryz.f134,pgs,pgl,pgx,pgf,Nat.reduceEqDiff,reduceIte,is9,bD]
 refine vO (fun i=>mkS [.c (.string (sB l)),.top,.top,.top,.top,.top,.c (.int .i64 l.length),.c (.int .i64 (i:Nat))] 0) (fun i=>i≤l.length∧(l.take i).all plC=true) (fun i=>l.length-i) 0 [] [] ?_ ⟨Nat.zero_le _,rfl⟩ ?_
 ·refine jm ?_ .nil (Nat.le_refl _)
  simp only[pgs,pgl,pgx,pgf,gy,iL,dB,eY,fJ,Nat.reduceEqDiff,reduceIte,Nat.reduceAdd]
  exact of_eq_true (eY _ _ _)
 ·rintro i ⟨hi,hall⟩ s hs
  simp only[Dn,pgs,pgl,Nat.reduceAdd] at hs
  subst hs
  rcases Nat.lt_or_ge i l.length with hlt|hge
  ·have e4:decide ((i:Int)<(l.length:Int))=true:=decide_eq_true (by omega)
   simp (disch:=first|assumption|omega) only[pgs,pgl,pgx,pgf,Nat.reduceEqDiff,reduceIte,Nat.reduceAdd,e4,ixs,Int.toNat_natCast]
   have hcb:=gW ho i
   generalize hcd:l.getD i 0=c at hcb
   have g1:=OX c
   have g2:=aiJ c
   have g3:=Ij c
   have g4:=DJ [95,45,46,58,47] c anE hcb
   have e5:=ix5 c
   have go:plC (l.getD i 0)=true→∀x:Nat→V,x 0 = .c (.string (sB l))→x 6 = .c (.int .i64 l.length)→x 7 = .c (.int .i64 ((i:Int)+1))→∀n h,AZ (fun i=>mkS [.c (.string (sB l)),.top,.top,.top,.top,.top,.c (.int .i64 l.length),.c (.int .i64 (i:Nat))] 0) (fun i=>i≤l.length∧(l.take i).all plC=true) (fun i=>l.length-i) i ⟨x,fun _=>none,n,h⟩:=by
    intro hn x h0 h6 h7 n h
    refine bC (i+1) [] [] ⟨by omega,jQ hlt hall hn⟩ (by omega) (jm ?_ .nil (Nat.zero_le _))
    simp only[pgs,pgl,pgx,pgf,gy,iL,dB,Nat.reduceAdd,h0,h6,h7,eY,Int.natCast_add,Int.cast_ofNat_Int]
   cases b1:bt c 97 122<;>rw[b1] at g1
   ·refine aP _ g1 rfl rfl rfl rfl ?_
    simp only[pgs,pgl,pgx,pgf,Nat.reduceEqDiff,reduceIte,QQ]
    cases b2:bt c 65 90<;>rw[b2] at g2
    ·refine aP _ g2 rfl rfl rfl rfl ?_
     simp only[pgs,pgl,pgx,pgf,Nat.reduceEqDiff,reduceIte,QQ]
     cases b3:bt c 48 57<;>rw[b3] at g3
     ·refine aP _ g3 rfl rfl rfl rfl ?_
      simp only[pgs,pgl,pgx,pgf,Nat.reduceEqDiff,reduceIte,QQ]
      refine aP _ g4 rfl rfl rfl rfl ?_
      cases b4:mk5 c<;>rw[b4] at e5
      ·simp (disch:=omega) only[pgs,pgl,pgx,pgf,Nat.reduceEqDiff,reduceIte,QQ,e5,ou,bu]
       exact go (by rw[hcd];unfold plC;rw[b4];simp) _ rfl rfl rfl _ _
      ·have hn:plC (l.getD i 0)=false:=by rw[hcd];unfold plC;simp [b1,b2,b3,b4]
       rw[vS hlt hn]
       simp (disch:=omega) only[pgs,pgl,pgx,pgf,Nat.reduceEqDiff,reduceIte,QQ,e5,ou,rF]
       refine eU [] _ (aG _ _ _) .nil ?_ ?_
       ·simp only[pgs,pgl,pgx,pgf,Nat.reduceEqDiff,reduceIte]
       ·simp only[pgs,pgl,pgx,pgf,Nat.reduceEqDiff,reduceIte]
     ·refine aP _ g3 rfl rfl rfl rfl ?_
      simp (disch:=omega) only[pgs,pgl,pgx,pgf,Nat.reduceEqDiff,reduceIte,QQ,ou,bu]
      exact go (by rw[hcd];unfold plC;rw[b3];simp) _ rfl rfl rfl _ _
    ·refine aP _ g2 rfl rfl rfl rfl ?_
     simp (disch:=omega) only[pgs,pgl,pgx,pgf,Nat.reduceEqDiff,reduceIte,QQ,ou,bu]
     exact go (by rw[hcd];unfold plC;rw[b2];simp) _ rfl rfl rfl _ _
   ·refine aP _ g1 rfl rfl rfl rfl ?_
    simp (disch:=omega) only[pgs,pgl,pgx,pgf,Nat.reduceEqDiff,reduceIte,QQ,ou,bu]
    exact go (by rw[hcd];unfold plC;rw[b1];simp) _ rfl rfl rfl _ _
  ·have hil:i=l.length:=by omega
   subst hil
   rw[List.take_length] at hall
   rw[hall]
   have e4:decide ((l.length:Int)<(l.length:Int))=false:=decide_eq_false (by omega)
   simp only[pgs,pgl,pgx,pgf,Nat.reduceEqDiff,reduceIte,Nat.reduceAdd,e4,ny]
   refine eU [] _ (aG _ _ _) .nil ?_ ?_
   ·simp only[pgs,pgl,pgx,pgf,Nat.reduceEqDiff,reduceIte]
   ·simp only[pgs,pgl,pgx,pgf,Nat.reduceEqDiff,reduceIte]
theorem aiY(l:List Nat)(ho:oct l)(hl:l.length≤4294967296):Gxx 142 [.c (.string (sB l))] (.c (.bool (kJ l))):=by
 refine dE (gY mix) Tryz.func142 rfl Tryz.results142 rfl (by kernel_rfl) (Nat.le_of_ble_eq_true (by kernel_rfl)) ?_
 unfold kJ
 simp only[Tryz.f142,pgs,pgl,pgx,pgf,Nat.reduceEqDiff,reduceIte,is9,bD]
 refine vO (fun i=>mkS [.c (.string (sB l)),.top,.top,.c (.int .i64 (i:Nat))] 0) (fun i=>i≤l.length∧(l.take i).all plC=true) (fun i=>l.length-i) 0 [] [] ?_ ⟨Nat.zero_le _,rfl⟩ ?_
 ·refine jm ?_ .nil (Nat.le_refl _)
  simp only[pgs,pgl,pgx,pgf,gy,iL,dB,eY,fJ,Nat.reduceEqDiff,reduceIte,Nat.reduceAdd]
  exact of_eq_true (eY _ _ _)
 ·rintro i ⟨hi,hall⟩ s hs
  simp only[Dn,pgs,pgl,Nat.reduceAdd] at hs
  subst hs
  rcases Nat.lt_or_ge i l.length with hlt|hge
  ·have e4:decide ((i:Int)<(l.length:Int))=true:=decide_eq_true (by omega)
   simp (disch:=first|assumption|omega) only[pgs,pgl,pgx,pgf,Nat.reduceEqDiff,reduceIte,Nat.reduceAdd,is9,bD,e4,ixs,Int.toNat_natCast]
   have hcb:=gW ho i
   generalize hcd:l.getD i 0=c at hcb
   have g1:=zQ c 97 122
   have g2:=zQ c 65 90
   have g3:=zQ c 48 57
   have f1:((c:Int) != 95)=(c != 95):=neI c 95
   have f2:((c:Int) != 45)=(c != 45):=neI c 45
   have f3:((c:Int) != 46)=(c != 46):=neI c 46
   have f4:((c:Int) != 58)=(c != 58):=neI c 58
   have f5:((c:Int) != 47)=(c != 47):=neI c 47
   have go:plC (l.getD i 0)=true→∀x:Nat→V,x 0 = .c (.string (sB l))→x 3 = .c (.int .i64 ((i:Int)+1))→∀n h,AZ (fun i=>mkS [.c (.string (sB l)),.top,.top,.c (.int .i64 (i:Nat))] 0) (fun i=>i≤l.length∧(l.take i).all plC=true) (fun i=>l.length-i) i ⟨x,fun _=>none,n,h⟩:=by
    intro hn x h0 h3 n h
    refine bC (i+1) [] [] ⟨by omega,jQ hlt hall hn⟩ (by omega) (jm ?_ .nil (Nat.zero_le _))
    simp only[pgs,pgl,pgx,pgf,gy,iL,dB,Nat.reduceAdd,h0,h3,eY,Int.natCast_add,Int.cast_ofNat_Int]
   cases b1:bt c 97 122<;>rw[b1] at g1
   ·refine aP _ g1 rfl rfl rfl rfl ?_
    simp only[pgs,pgl,pgx,pgf,Nat.reduceEqDiff,reduceIte,QQ]
    cases b2:bt c 65 90<;>rw[b2] at g2
    ·refine aP _ g2 rfl rfl rfl rfl ?_
     simp only[pgs,pgl,pgx,pgf,Nat.reduceEqDiff,reduceIte,QQ]
     cases b3:bt c 48 57<;>rw[b3] at g3
     ·refine aP _ g3 rfl rfl rfl rfl ?_
      cases a1:(c != 95)<;>rw[a1] at f1
      ·simp (disch:=first|assumption|omega) only[pgs,pgl,pgx,pgf,Nat.reduceEqDiff,reduceIte,QQ,ixs,Int.toNat_natCast,hcd,ou,f1,bu]
       exact go (by rw[hcd];unfold plC mk5;rw[a1];simp) _ rfl rfl _ _
      cases a2:(c != 45)<;>rw[a2] at f2
      ·simp (disch:=first|assumption|omega) only[pgs,pgl,pgx,pgf,Nat.reduceEqDiff,reduceIte,QQ,ixs,Int.toNat_natCast,hcd,ou,f1,f2,bu]
       exact go (by rw[hcd];unfold plC mk5;rw[a1,a2];simp) _ rfl rfl _ _
      cases a3:(c != 46)<;>rw[a3] at f3
      ·simp (disch:=first|assumption|omega) only[pgs,pgl,pgx,pgf,Nat.reduceEqDiff,reduceIte,QQ,ixs,Int.toNat_natCast,hcd,ou,f1,f2,f3,bu]
       exact go (by rw[hcd];unfold plC mk5;rw[a1,a2,a3];simp) _ rfl rfl _ _
      cases a4:(c != 58)<;>rw[a4] at f4
      ·simp (disch:=first|assumption|omega) only[pgs,pgl,pgx,pgf,Nat.reduceEqDiff,reduceIte,QQ,ixs,Int.toNat_natCast,hcd,ou,f1,f2,f3,f4,bu]
       exact go (by rw[hcd];unfold plC mk5;rw[a1,a2,a3,a4];simp) _ rfl rfl _ _
      cases a5:(c != 47)<;>rw[a5] at f5
      ·simp (disch:=first|assumption|omega) only[pgs,pgl,pgx,pgf,Nat.reduceEqDiff,reduceIte,QQ,ixs,Int.toNat_natCast,hcd,ou,f1,f2,f3,f4,f5,bu]
       exact go (by rw[hcd];unfold plC mk5;rw[a1,a2,a3,a4,a5];simp) _ rfl rfl _ _
      have hn:plC (l.getD i 0)=false:=by rw[hcd];unfold plC mk5;rw[b1,b2,b3,a1,a2,a3,a4,a5];rfl
      rw[vS hlt hn]
      simp (disch:=first|assumption|omega) only[pgs,pgl,pgx,pgf,Nat.reduceEqDiff,reduceIte,QQ,ixs,Int.toNat_natCast,hcd,ou,f1,f2,f3,f4,f5,rF]
      refine eU [] _ (aG _ _ _) .nil ?_ ?_
      ·simp only[pgs,pgl,pgx,pgf,Nat.reduceEqDiff,reduceIte]
      ·simp only[pgs,pgl,pgx,pgf,Nat.reduceEqDiff,reduceIte]
     ·refine aP _ g3 rfl rfl rfl rfl ?_
      simp (disch:=omega) only[pgs,pgl,pgx,pgf,Nat.reduceEqDiff,reduceIte,QQ,ou,bu]
      exact go (by rw[hcd];unfold plC;rw[b3];simp) _ rfl rfl _ _
    ·refine aP _ g2 rfl rfl rfl rfl ?_
     simp (disch:=omega) only[pgs,pgl,pgx,pgf,Nat.reduceEqDiff,reduceIte,QQ,ou,bu]
     exact go (by rw[hcd];unfold plC;rw[b2];simp) _ rfl rfl _ _
   ·refine aP _ g1 rfl rfl rfl rfl ?_
    simp (disch:=omega) only[pgs,pgl,pgx,pgf,Nat.reduceEqDiff,reduceIte,QQ,ou,bu]
    exact go (by rw[hcd];unfold plC;rw[b1];simp) _ rfl rfl _ _
  ·have hil:i=l.length:=by omega
   subst hil
   rw[List.take_length] at hall
   rw[hall]
   have e4:decide ((l.length:Int)<(l.length:Int))=false:=decide_eq_false (by omega)
   simp only[pgs,pgl,pgx,pgf,Nat.reduceEqDiff,reduceIte,Nat.reduceAdd,is9,bD,e4,ny]
   refine eU [] _ (aG _ _ _) .nil ?_ ?_
   ·simp only[pgs,pgl,pgx,pgf,Nat.reduceEqDiff,reduceIte]
   ·simp only[pgs,pgl,pgx,pgf,Nat.reduceEqDiff,reduceIte]
def yC:List Nat:=[48,49,50,51,52,53,54,55,56,57,97,98,99,100,101,102]
theorem DK:(⟨#[48,49,50,51,52,53,54,55,56,57,97,98,99,100,101,102]⟩:ByteArray)=sB yC:=by rfl
theorem rG:oct yC:=by intro b hb;simp [yC] at hb;omega
theorem wo:(⟨#[]⟩:ByteArray)=sB []:=by rfl
theorem alr:(⟨#[37]⟩:ByteArray)=sB [37]:=by rfl
def hx(d:Nat):Nat:=yC.getD d 0
def jh(l:List Nat):List Nat:=l.flatMap fun c=>[hx (c / 16),hx (c%16)]
theorem zU{l:List Nat}{i:Nat}(h:i<l.length):jh (l.take (i+1))=jh (l.take i)++[hx (l.getD i 0 / 16)]++[hx (l.getD i 0%16)]:=by
 rw[List.take_succ_eq_append_getElem h,jh,List.flatMap_append]
 simp [jh,List.getD,h]
theorem lq(l:List Nat):(jh l).length=2*l.length:=by
 induction l with
 | nil=>rfl
 | cons a l ih=>simp only[jh,List.flatMap_cons,List.length_append,List.length_cons,List.length_nil] at ih ⊢;omega
theorem ag8(d:Nat):hx d<256:=gW rG d
theorem yD(l:List Nat):oct (jh l):=by
 intro b hb
 obtain⟨c,_,h⟩:=List.mem_flatMap.1 hb
 simp only[List.mem_cons,List.not_mem_nil,or_false] at h
 rcases h with rfl|rfl<;>exact ag8 _
theorem Rn(d:Nat)(h:d<16):(yC.take (d+1)).drop d=[hx d]:=by
 have:∀d:Fin 16,(yC.take (d+1)).drop d=[hx d]:=by decide
 exact this ⟨d,h⟩
theorem als(a:Nat):Int.fdiv (a:Int) (2^min (Int.toNat 4) IntKind.u8.bits)=((a / 16:Nat):Int):=by
 show Int.fdiv (a:Int) ((16:Nat):Int)=_
 rw[Int.fdiv_eq_ediv_of_nonneg _ (Int.natCast_nonneg _),Int.natCast_ediv]
theorem Ro(a:Nat)(h:a<256):bits .and .u8 (a:Int) 15=((a%16:Nat):Int):=by
 rw[u8_and15 _ (by omega) (by omega)]
 omega
theorem u8w(n:Int)(h:0≤n∧n≤255):IntKind.u8.wrap n=n:=IntWalk.u8_in n h
theorem alu(a:Nat):((a:Int)+1).toNat=a+1:=by omega
theorem O5(l:List Nat)(ho:oct l)(hl:l.length≤4294967296):Gxx 90 [.c (.string (sB l))] (.c (.string (sB (jh l)))):=by
 refine dE (gY mix) Tryz.func90 rfl Tryz.results90 rfl (by kernel_rfl) (Nat.le_of_ble_eq_true (by kernel_rfl)) ?_
 simp only[Tryz.f90,pgs,pgl,pgx,pgf,Nat.reduceEqDiff,reduceIte,is9,bD,wo]
 refine vO (fun i=>mkS [.c (.string (sB l)),.top,.top,.c (.string (sB (jh (l.take i)))),.c (.int .i64 (i:Nat))] 0) (fun i=>i≤l.length) (fun i=>l.length-i) 0 [] [] ?_ (Nat.zero_le _) ?_
 ·refine jm ?_ .nil (Nat.le_refl _)
  simp only[pgs,pgl,pgx,pgf,gy,iL,dB,eY,fJ,Nat.reduceEqDiff,reduceIte,Nat.reduceAdd]
  exact⟨of_eq_true (eY _ _ _),of_eq_true (eY _ _ _)⟩
 ·intro i hi s hs
  simp only[Dn,pgs,pgl,Nat.reduceAdd] at hs
  subst hs
  rcases Nat.lt_or_ge i l.length with hlt|hge
  ·have e4:decide ((i:Int)<(l.length:Int))=true:=decide_eq_true (by omega)
   have hb:=gW ho i
   have en:=zU hlt
   have hln:=lq (l.take i)
   rw[List.length_take,Nat.min_eq_left (by omega)] at hln
   have ha:=Rn (l.getD i 0 / 16) (by omega)
   have hc:=Rn (l.getD i 0%16) (by omega)
   have hxl:yC.length=16:=rfl
   simp (disch:=first|assumption|omega|(simp only[hxl,List.length_append,List.length_cons,List.length_nil];omega)) only[pgs,pgl,pgx,pgf,akZ,akY,Nat.reduceEqDiff,reduceIte,Nat.reduceAdd,is9,bD,e4,ixs,Int.toNat_natCast,DK,als,Ro,u8w,sls,alu,ha,hc,adW,Int.reduceLT,ou,bu]
   refine⟨by kernel_rfl, ?_⟩
   refine bC (i+1) [] [] (by omega) (by omega) (jm ?_ .nil (Nat.le_refl _))
   simp only[pgs,pgl,pgx,pgf,gy,iL,dB,eY,fJ,Nat.reduceEqDiff,reduceIte,Nat.reduceAdd,Int.natCast_add,Int.cast_ofNat_Int,en]
  ·have hil:i=l.length:=by omega
   subst hil
   have e4:decide ((l.length:Int)<(l.length:Int))=false:=decide_eq_false (by omega)
   simp only[pgs,pgl,pgx,pgf,Nat.reduceEqDiff,reduceIte,Nat.reduceAdd,is9,bD,e4,ny,List.take_length]
   refine eU [] _ (aG _ _ _) .nil ?_ ?_
   ·simp only[pgs,pgl,pgx,pgf,Nat.reduceEqDiff,reduceIte]
   ·simp only[pgs,pgl,pgx,pgf,Nat.reduceEqDiff,reduceIte]
def fk(l:List Nat):List Nat × Nat:=if fH l=false then ([],7) else if kJ l=true then (l,0) else (37::jh l,0)
def fkV(l:List Nat):V := .tup [.c (.string (sB (fk l).1)),.c (.int .i64 ((fk l).2:Nat))]
theorem BP{l:List Nat}(h:fH l=true):1≤l.length∧l.length≤32:=by
 unfold fH at h
 simp only[Bool.and_eq_true,decide_eq_true_eq] at h
 exact h
theorem aiZ(l:List Nat)(ho:oct l):Gxx 91 [.c (.string (sB l))] (fkV l):=by
 refine dE (gY mix) Tryz.func91 rfl Tryz.results91 rfl (by kernel_rfl) (Nat.le_of_ble_eq_true (by kernel_rfl)) ?_
 have g1:=uH l
 unfold fkV fk
 simp only[Tryz.f91,pgs,pgl,pgx,pgf,Nat.reduceEqDiff,reduceIte,wo]
 cases h1:fH l<;>rw[h1] at g1
 ·refine aP _ g1 rfl rfl rfl rfl ?_
  simp only[pgs,pgl,pgx,pgf,Nat.reduceEqDiff,reduceIte,QQ,wo]
  refine eU [] _ (jq _ _ _ _) .nil ?_ ?_
  ·simp only[pgs,pgl,pgx,pgf,Nat.reduceEqDiff,reduceIte]
  ·simp only[pgs,pgl,pgx,pgf,Nat.reduceEqDiff,reduceIte]<;>rfl
 have hl:=BP h1
 have g2:=aiY l ho (by omega)
 have g3:=O5 l ho (by omega)
 have hxl:=lq l
 refine aP _ g1 rfl rfl rfl rfl ?_
 simp only[pgs,pgl,pgx,pgf,Nat.reduceEqDiff,reduceIte,QQ]
 cases h2:kJ l<;>rw[h2] at g2
 ·refine aP _ g2 rfl rfl rfl rfl ?_
  simp only[pgs,pgl,pgx,pgf,Nat.reduceEqDiff,reduceIte]
  refine aP _ g3 rfl rfl rfl rfl ?_
  simp (disch:=simp only[List.length_cons,List.length_nil];omega) only[pgs,pgl,pgx,pgf,Nat.reduceEqDiff,reduceIte,alr,adW]
  refine eU [] _ (jq _ _ _ _) .nil ?_ ?_
  ·simp only[pgs,pgl,pgx,pgf,Nat.reduceEqDiff,reduceIte]
  ·simp only[pgs,pgl,pgx,pgf,Nat.reduceEqDiff,reduceIte]<;>rfl
 ·refine aP _ g2 rfl rfl rfl rfl ?_
  simp only[pgs,pgl,pgx,pgf,Nat.reduceEqDiff,reduceIte]
  refine eU [] _ (jq _ _ _ _) .nil ?_ ?_
  ·simp only[pgs,pgl,pgx,pgf,Nat.reduceEqDiff,reduceIte]
  ·simp only[pgs,pgl,pgx,pgf,Nat.reduceEqDiff,reduceIte]<;>rfl
def nib(c:Nat):Int:=if bt c 48 57=true then (c:Int)-48 else if bt c 97 102=true then (c:Int)-97+10 else -1
theorem zV{c a b:Nat}(h:bt c a b=true):a≤c∧c≤b:=by
 unfold bt at h
 simp only[Bool.and_eq_true,decide_eq_true_eq] at h
 exact h
theorem abS(c:Nat)(hc:c<256):Gxx 194 [.c (.int .u8 (c:Int))] (.c (.int .i64 (nib c))):=by
 refine dE (gY mix) Tryz.func194 rfl Tryz.results194 rfl (by kernel_rfl) (Nat.le_of_ble_eq_true (by kernel_rfl)) ?_
 have g1:=zQ c 48 57
 have g2:=zQ c 97 102
 unfold nib
 simp only[Tryz.f194,pgs,pgl,pgx,pgf,Nat.reduceEqDiff,reduceIte]
 cases h1:bt c 48 57<;>rw[h1] at g1
 ·refine aP _ g1 rfl rfl rfl rfl ?_
  simp only[pgs,pgl,pgx,pgf,Nat.reduceEqDiff,reduceIte]
  cases h2:bt c 97 102<;>rw[h2] at g2
  ·refine aP _ g2 rfl rfl rfl rfl ?_
   simp only[pgs,pgl,pgx,pgf,Nat.reduceEqDiff,reduceIte]
   refine eU [] _ (aG _ _ _) .nil ?_ ?_
   ·simp only[pgs,pgl,pgx,pgf,Nat.reduceEqDiff,reduceIte]
   ·simp only[pgs,pgl,pgx,pgf,Nat.reduceEqDiff,reduceIte]
  ·have hb:=zV h2
   refine aP _ g2 rfl rfl rfl rfl ?_
   simp (disch:=omega) only[pgs,pgl,pgx,pgf,Nat.reduceEqDiff,reduceIte,u8w,ou,P5 _ _ _ _ _ _ it3 un5]
   refine eU [] _ (aG _ _ _) .nil ?_ ?_
   ·simp only[pgs,pgl,pgx,pgf,Nat.reduceEqDiff,reduceIte]
   ·simp only[pgs,pgl,pgx,pgf,Nat.reduceEqDiff,reduceIte]
 ·have hb:=zV h1
  refine aP _ g1 rfl rfl rfl rfl ?_
  simp (disch:=omega) only[pgs,pgl,pgx,pgf,Nat.reduceEqDiff,reduceIte,u8w,ou,P5 _ _ _ _ _ _ it3 un5]
  refine eU [] _ (aG _ _ _) .nil ?_ ?_
  ·simp only[pgs,pgl,pgx,pgf,Nat.reduceEqDiff,reduceIte]
  ·simp only[pgs,pgl,pgx,pgf,Nat.reduceEqDiff,reduceIte]
theorem anF:elemT Tryz.prog 28=some 5:=by kernel_rfl
theorem ta5:tapp Tryz.prog 5=some (1,1):=by kernel_rfl
theorem ze5:zelem Tryz.prog 5=some (.c (.int .u8 0)):=by kernel_rfl
theorem it9:rY Tryz.prog 9=none:=by kernel_rfl
theorem aqo(tg:Tag)(l:List Nat):CG Tryz.prog 28 1 (.sl tg 1 (bv l))=some (bv l):=by rw[adR,anF];rfl
theorem ake{n:Nat}(h:n≤140737488355328):Fits n 1:=by unfold Fits maxLen;omega
theorem aqp(s:St)(l l':List Nat)(id:Nat)(tg:Tag)(h:l.length+l'.length≤140737488355328):lC Tryz.prog s 28 28 (.sl (.own id 5) 1 (bv l)) (.sl tg 1 (bv l'))=some (.sl (.own id 5) 1 (bv (l++l')),{ s.mapV (aJ id) with nid:=max s.nid (id+1) }):=by
 rw[V9 _ _ _ _ _ _ _ _ _ _ anF ta5 (aqo tg l')]
 simp only[ax,dP]
 rw[if_pos ⟨trivial,trivial,ake h⟩]
theorem aqV(s:St)(a:Nat):bV Tryz.prog s 28 1 [(0,.c (.int .u8 (a:Int)))]=some (.sl (.own s.nid 5) 1 (bv [a]),{ s with nid:=s.nid+1 }):=by
 simp [bV,anF,ta5,ze5,setAll,Yl,ahM,Uo,bv,bsTag]
theorem ae7(l:List Nat):strOfNums (l.map fun (b:Nat)=>(b:Int))=sB l:=by
 apply ByteArray.ext
 simp [strOfNums,sB,Function.comp_def]
theorem ZY(tg:Tag)(l:List Nat):mM Tryz.prog 28 9 (.sl tg 1 (bv l))=some (.c (.string (sB l))):=by
 simp [mM,it9,anF,it5,is9,YS,ae7]
theorem rH(s:St)(d:Option Nat)(tg:Tag)(l:List Nat)(K:Kd→St→Prop):AX Tryz.prog s d 28 9 (.sl tg 1 (bv l)) K=K (kq [.sl tg 1 (bv l)] (.c (.string (sB l)))) (s.put d (.c (.string (sB l)))):=by
 rw[uF,ZY]
 have h1:(kz Tryz.prog 28 9 (.sl tg 1 (bv l))).map (fun r=>(r,s))=none:=rfl
 have h3:jF Tryz.prog s 28 9 (.sl tg 1 (bv l))=none:=rfl
 have h2:mX Tryz.prog s 28 9 (.sl tg 1 (bv l))=none:=by cases tg<;>simp [mX]
 rw[h1,h2,h3]
 simp only[eQ,aF,bG,or_false]
theorem E8(c:Nat) : -1≤nib c∧nib c≤15:=by
 unfold nib
 split
 ·rename_i h;have:=zV h;omega
 ·split
  ·rename_i h;have:=zV h;omega
  ·omega
def prB(l:List Nat)(t:Nat):Nat:=(16*nib (l.getD (2*t) 0)+nib (l.getD (2*t+1) 0)).toNat
def prs(l:List Nat)(j:Nat):List Nat:=(List.range j).map (prB l)
def okP(l:List Nat)(t:Nat):Bool:=decide (0≤nib (l.getD (2*t) 0))&&decide (0≤nib (l.getD (2*t+1) 0))
def okB(l:List Nat)(j:Nat):Bool:=(List.range j).all (okP l)
theorem DL(l:List Nat)(j:Nat):prs l (j+1)=prs l j++[prB l j]:=by simp [prs,List.range_succ]
theorem yE(l:List Nat)(j:Nat):okB l (j+1)=(okB l j&&okP l j):=by simp [okB,List.range_succ]
theorem Rq{l:List Nat}{j n:Nat}(h:j<n)(hp:okP l j=false):okB l n=false:=by
 rw[←Bool.not_eq_true,okB,List.all_eq_true]
 intro hx
 have:=hx j (List.mem_range.2 h)
 rw[hp] at this
 cases this
theorem yG(l:List Nat)(j:Nat):(prs l j).length=j:=by simp [prs]
def abe(l:List Nat):V:=if okB l (l.length / 2)=true then .tup [.c (.string (sB (prs l (l.length / 2)))),.c (.bool (decide (l.length%2=0)))] else .tup [.c (.string (sB [])),.c (.bool false)]
theorem We(l:List Nat)(ho:oct l)(hl:l.length≤140737488355328):Gxx 149 [.c (.string (sB l))] (abe l):=by
 refine dE (gY mix) Tryz.func149 rfl Tryz.results149 rfl (by kernel_rfl) (Nat.le_of_ble_eq_true (by kernel_rfl)) ?_
 unfold abe
 simp only[Tryz.f149,pgs,pgl,pgx,pgf,Nat.reduceEqDiff,reduceIte]
 refine vO (fun j=>mkS [.c (.string (sB l)),.top,.top,.top,.sl (.own 0 5) 1 (bv (prs l j)),.c (.int .i64 (2*(j:Nat)))] 1) (fun j=>j≤l.length / 2∧okB l j=true) (fun j=>l.length / 2-j) 0 [] [] ?_ ⟨Nat.zero_le _,rfl⟩ ?_
 ·refine jm ?_ .nil (Nat.zero_le _)
  simp only[pgs,pgl,pgx,pgf,gy,iL,dB,eY,fJ,Nat.reduceEqDiff,reduceIte,Nat.reduceAdd]
  exact⟨of_eq_true (adV _ _ _ _ rfl),of_eq_true (eY _ _ _)⟩
 ·rintro j ⟨hj,hok⟩ s hs
  simp only[Dn,pgs,pgl,Nat.reduceAdd] at hs
  subst hs
  rcases Nat.lt_or_ge j (l.length / 2) with hlt|hge
  ·have e4:decide (2*(j:Int)+1<(l.length:Int))=true:=decide_eq_true (by omega)
   have en1:(2*(j:Int)).toNat=2*j:=by omega
   have en2:(2*(j:Int)+1).toNat=2*j+1:=by omega
   have hb1:=gW ho (2*j)
   have hb2:=gW ho (2*j+1)
   simp (disch:=first|assumption|omega) only[pgs,pgl,pgx,pgf,Nat.reduceEqDiff,reduceIte,Nat.reduceAdd,is9,bD,ou,e4,ixs,en1,en2]
   refine aP _ (abS _ hb1) rfl rfl rfl rfl ?_
   simp (disch:=first|assumption|omega) only[pgs,pgl,pgx,pgf,Nat.reduceEqDiff,reduceIte,Nat.reduceAdd,ou,ixs,en1,en2]
   refine aP _ (abS _ hb2) rfl rfl rfl rfl ?_
   have hr1:=E8 (l.getD (2*j) 0)
   have hr2:=E8 (l.getD (2*j+1) 0)
   have hv:0≤nib (l.getD (2*j) 0)→0≤nib (l.getD (2*j+1) 0)→16*nib (l.getD (2*j) 0)+nib (l.getD (2*j+1) 0)=((prB l j:Nat):Int):=by
    intro h1 h2
    unfold prB
    omega
   have hcs:(decide (nib (l.getD (2*j) 0)<0)=true∧True∧okP l j=false)∨(decide (nib (l.getD (2*j) 0)<0)=false∧decide (nib (l.getD (2*j+1) 0)<0)=true∧okP l j=false) ∨
     (decide (nib (l.getD (2*j) 0)<0)=false∧decide (nib (l.getD (2*j+1) 0)<0)=false∧okP l j=true):=by
    unfold okP
    rcases Int.lt_or_le (nib (l.getD (2*j) 0)) 0 with h1|h1
    ·exact .inl ⟨decide_eq_true h1,trivial,by rw[decide_eq_false (show ¬0≤nib (l.getD (2*j) 0) by omega)];rfl⟩
    ·rcases Int.lt_or_le (nib (l.getD (2*j+1) 0)) 0 with h2|h2
     ·exact .inr (.inl ⟨decide_eq_false (by omega),decide_eq_true h2,by rw[decide_eq_false (show ¬0≤nib (l.getD (2*j+1) 0) by omega),Bool.and_false]⟩)
     ·exact .inr (.inr ⟨decide_eq_false (by omega),decide_eq_false (by omega),by rw[decide_eq_true h1,decide_eq_true h2];rfl⟩)
   rcases hcs with ⟨f1,f2,f3⟩|⟨f1,f2,f3⟩|⟨f1,f2,f3⟩
   ·rw[Rq hlt f3,if_neg (by simp)]
    simp only[pgs,pgl,pgx,pgf,Nat.reduceEqDiff,reduceIte,Nat.reduceAdd,f1,f2,wo,rF]
    refine⟨by kernel_rfl, ?_⟩
    refine eU [] _ (jq _ _ _ _) .nil ?_ ?_
    ·simp only[pgs,pgl,pgx,pgf,Nat.reduceEqDiff,reduceIte]
    ·simp only[pgs,pgl,pgx,pgf,Nat.reduceEqDiff,reduceIte]
   ·rw[Rq hlt f3,if_neg (by simp)]
    simp only[pgs,pgl,pgx,pgf,Nat.reduceEqDiff,reduceIte,Nat.reduceAdd,f1,f2,wo,rF]
    refine⟨by kernel_rfl, ?_⟩
    refine eU [] _ (jq _ _ _ _) .nil ?_ ?_
    ·simp only[pgs,pgl,pgx,pgf,Nat.reduceEqDiff,reduceIte]
    ·simp only[pgs,pgl,pgx,pgf,Nat.reduceEqDiff,reduceIte]
   ·have p1:0≤nib (l.getD (2*j) 0):=by simpa using f1
    have p2:0≤nib (l.getD (2*j+1) 0):=by simpa using f2
    have hv:=hv p1 p2
    have hpl:=yG l j
    simp (disch:=first|omega|(simp only[List.length_cons,List.length_nil];omega)) only[pgs,pgl,pgx,pgf,Nat.reduceEqDiff,reduceIte,Nat.reduceAdd,f1,f2,ou,hv,u8w,P5 _ _ _ _ _ _ it5 un3,aqV,aqp,Nat.max_def,Nat.reduceLeDiff,Nat.reduceBEq,bu]
    refine⟨by kernel_rfl, ?_⟩
    refine bC (j+1) [0] [] ⟨by omega,by rw[yE,hok,f3];rfl⟩ (by omega) (jm ?_ (by decide) (Nat.le_refl _))
    simp only[pgs,pgl,pgx,pgf,gy,iL,dB,eY,fJ,Nat.reduceEqDiff,reduceIte,Nat.reduceAdd,Nat.reduceBEq]
    exact⟨aW rfl (by rw[DL]),of_eq_true (acH _ _ _ _ _ (by omega))⟩
  ·have hjn:j=l.length / 2:=by omega
   have e4:decide (2*(j:Int)+1<(l.length:Int))=false:=decide_eq_false (by omega)
   have e5:((l.length:Int).tmod 2 == 0)=decide (l.length%2=0):=by
    rw[Bool.eq_iff_iff,beq_iff_eq,decide_eq_true_eq]
    have:(l.length:Int).tmod 2=((l.length%2:Nat):Int):=rfl
    omega
   rw[←hjn,hok,if_pos rfl]
   simp (disch:=omega) only[pgs,pgl,pgx,pgf,Nat.reduceEqDiff,reduceIte,Nat.reduceAdd,is9,bD,ou,e4,rH,amL,Int.reduceEq,e5,ny,ne_eq,not_false_eq_true,Int.reduceNe]
   refine eU [] _ (jq _ _ _ _) .nil ?_ ?_
   ·simp only[pgs,pgl,pgx,pgf,Nat.reduceEqDiff,reduceIte]
   ·simp only[pgs,pgl,pgx,pgf,Nat.reduceEqDiff,reduceIte]
end Go.Proofs.YtjiolbcdfgclaaaGreatDoor
