/-
  Texts of this claim, merged; own names are short.
-/
import Derived.Test.YtjiolbcdfgclaaaGreatDoorWAU
import Derived.Test.YtjiolbcdfgclaaaGreatDoorWAR
import Derived.Test.YtjiolbcdfgclaaaGreatDoorWAM
import Derived.ChangeSlices
import Derived.DataReads
import Derived.Test.YtjiolbcdfgclaaaGreatDoorWAG
import Derived.Test.YtjiolbcdfgclaaaGreatDoorTie
import Derived.Test.YtjiolbcdfgclaaaGreatDoorCards
import Derived.ProofKit
import Derived.LaidMore
import Derived.OpenShut
import Derived.Stop.Joined
import Derived.Stop.LaidErr
import Derived.SizedLaws
import Derived.ChangeMaps5
import Derived.SevenTiedAt
import Derived.HandedShaped
import Derived.Shelf.Vars
import Derived.Test.YtjiolbcdfgclaaaGreatDoorWAO
set_option linter.unusedVariables false
set_option linter.unusedSimpArgs false
set_option linter.unusedSectionVars false
set_option linter.defProp false
set_option maxRecDepth 100000
set_option maxHeartbeats 8000000
namespace Go.Proofs.YtjiolbcdfgclaaaGreatDoor
open Go Go.Pg
theorem GN(n:Nat):oct (ae n):=nK (by omega)
theorem MQ(n:Nat):(ae n).length≤1000:=by simp [ae]
theorem agL(n:Nat):Wt (iO n).z∧Wt (iO n).d:=by
 unfold iO Wt
 (repeat' split)<;>simp only<;>omega
theorem Td(n:Nat):oct (dA n).2.1∧Wt (dA n).2.2.1∧Wt (dA n).2.2.2.1∧Wt (dA n).2.2.2.2:=by
 unfold dA Wt
 (repeat' split)<;>refine⟨?_, ?_⟩<;>first|exact dV|exact (II _).1|(simp only;omega)
theorem agM(n:Nat):oct (uj n).2.1∧Wt (uj n).2.2.1∧Wt (uj n).2.2.2.1∧Wt (uj n).2.2.2.2:=by
 obtain⟨h1,h2,h3,h4⟩:=Td n
 have ha:∀k,oct (aqL.getD k []):=by
  intro k
  rcases Nat.lt_or_ge k aqL.length with h|h
  ·have:∀x∈aqL,(x.all fun b=>decide (b<256))=true:=by decide
   exact jI _ (this _ (jS _ _ _ h))
  ·rw[List.getD,List.getElem?_eq_none h];exact dV
 unfold uj
 (repeat' split)
 ·exact⟨h1,h2,h3,h4⟩
 ·exact⟨ha _,h2,h3,h4⟩
 ·exact⟨h1,⟨by simp only;omega,by simp only;omega⟩,h3,h4⟩
 ·exact⟨h1,h2,⟨by simp only;omega,by simp only;omega⟩,⟨by simp only;omega,by simp only;omega⟩⟩
 ·exact⟨h1,h2,h3,⟨by simp only;omega,by simp only;omega⟩⟩
 ·exact⟨h1,h2,h3,h4⟩
theorem wtZ:Wt 0:=⟨by decide,by decide⟩
theorem sZ:(0:Int)≤0∧(0:Int)<18446744073709551616:=⟨by decide,by decide⟩
theorem lsZ(P:List Nat→Prop):∀x∈([]:List (List Nat)),P x:=fun x h=>by cases h
theorem itZ(P:List Nat × Int→Prop):∀x∈([]:List (List Nat × Int)),P x:=fun x h=>by cases h
theorem wtN(n k:Nat)(h:k≤65536)(h0:0<k):Wt ((n%k:Nat):Int):=by
 have:=Nat.mod_lt n h0
 exact⟨by omega,by omega⟩
def OK3(o:O):Prop:=o.Ok∧o.names.length≤3∧o.items.length≤8
theorem akj{p:Prop}[Decidable p]{a b:O}(h1:OK3 a)(h2:OK3 b):OK3 (if p then a else b):=by split<;>assumption
theorem amv{p:Prop}[Decidable p]{a b:O}(h1:a.Ok)(h2:b.Ok):(if p then a else b).Ok:=by split<;>assumption
theorem akk(n m:Nat)(its:List (List Nat × Int))(da:List Nat)(hi:∀x∈its,oct x.1∧Wt x.2)(hil:its.length≤8)(hd:oct da)(hdl:da.length≤1000000):(opN n m its da).Ok∧(opN n m its da).names.length≤3∧(opN n m its da).items.length≤8:=by
 obtain⟨p1,p2⟩:=agL m
 have p3:=PS m
 obtain⟨q1,q2,q3,q4⟩:=Td m
 obtain⟨c1,c2,_⟩:=Gv (m:Int)
 have hn3:∀x∈[ae (n / 32),ae (n / 128),ae (n / 256)].take (1+n / 1024%2+n / 2048%2),oct x∧x.length≤1000:=by
  intro x hx
  have:=List.mem_of_mem_take hx
  simp only[List.mem_cons,List.not_mem_nil,or_false] at this
  rcases this with rfl|rfl|rfl<;>exact⟨GN _,MQ _⟩
 have hl3:([ae (n / 32),ae (n / 128),ae (n / 256)].take (1+n / 1024%2+n / 2048%2)).length≤3:=by rw[List.length_take];exact Nat.min_le_right _ _
 have w1:Wt (1+((m%8:Nat):Int)):=⟨by omega,by omega⟩
 have w2:Wt (1+((m / 8%8:Nat):Int)):=⟨by omega,by omega⟩
 unfold opN
 show OK3 _
 (repeat' refine akj ?_ ?_)
 all_goals refine⟨⟨⟨?_, ?_, ?_, ?_, ?_, ?_, ?_⟩, ?_, ?_, ?_, ?_, ?_, ?_, ?_, ?_, ?_, ?_, ?_, ?_, ?_, ?_, ?_, ?_, ?_, ?_, ?_, ?_⟩, ?_, ?_⟩
 all_goals first
  | exact dV|exact wtZ|exact sZ|exact lsZ _|exact itZ _|exact GN _|exact MQ _|exact Nat.zero_le _
  | exact p1|exact p2|exact p3|exact q1|exact q2|exact q3|exact q4|exact c1|exact w1|exact w2
  | exact fun x hx=>(hi x hx).1|exact fun x hx=>(hi x hx).2|exact hil|exact hd|exact hdl
  | exact fun x hx=>(hn3 x hx).1|exact fun x hx=>(hn3 x hx).2|exact hl3|exact Nat.le_trans hl3 (by decide)|exact Nat.le_trans hil (by decide)|exact Nat.le_trans c2 (by decide)
  | exact wtN _ _ (by decide) (by decide)
theorem akl(l:List Int)(i:Nat):(jl l i).Ok∧(jl l i).names.length≤3∧(jl l i).items.length≤8:=by
 obtain⟨e1,e2⟩:=af0 _ (EH (l.drop (min l.length (i%7))))
 refine akk _ _ _ _ (fun x hx => ?_) (by rw[tN];omega) e1 (by omega)
 refine⟨xn _ _ x hx, ?_⟩
 obtain⟨j,_,rfl⟩:=List.mem_map.1 hx
 have:=al8 (atN (l.drop (min l.length (i%5))) j)
 exact⟨by show -9223372036854775808≤wB _;omega,by show wB _≤9223372036854775807;omega⟩
theorem Jc(L:List (List Nat))(h:(L.all fun x=>x.all fun b=>decide (b<256))=true)(hl:(L.all fun x=>decide (x.length≤1000))=true)(k:Nat):oct (L.getD k [])∧(L.getD k []).length≤1000:=by
 rcases Nat.lt_or_ge k L.length with hk|hk
 ·have hm:=jS L k [] hk
  exact⟨jI _ (List.all_eq_true.1 h _ hm),of_decide_eq_true (List.all_eq_true.1 hl _ hm)⟩
 ·rw[List.getD,List.getElem?_eq_none hk];exact⟨dV,Nat.zero_le _⟩
theorem acA(n:Nat):oct (List.replicate n 0):=fun b hb=>by rw[List.eq_of_mem_replicate hb];decide
theorem agN(k:Nat):Wt (uk.getD k 0):=by
 rcases Nat.lt_or_ge k uk.length with hk|hk
 ·have hm:=jS uk k 0 hk
  have:∀x∈uk,(-9223372036854775808≤x∧x≤9223372036854775807):=by decide
  exact this _ hm
 ·rw[List.getD,List.getElem?_eq_none hk];exact wtZ
theorem V8(o:O)(ok:o.Ok)(hn:o.names.length≤900)(hi:o.items.length≤900)(n:Int):(aX o n).Ok:=by
 unfold aX
 have hk:=jw n
 generalize spK n=k at *
 generalize (n%32).toNat=j
 obtain⟨⟨o1,o2,o3,o4,o5,o6,o7⟩,w1,w2,w3,w4,w5,w6,w7,w8,w9,w10,w11,w12,w13,n1,n2,n3,n4,n5,n6,n7⟩:=ok
 have l1:=Jc MO (by decide) (by decide) (k%4)
 have l2:=Jc MP (by decide) (by decide) (k%4)
 have l3:=Jc xw (by decide) (by decide) (k%3)
 have l4:=agN (k%4)
 obtain⟨a1,a2,a3,a4⟩:=agM k
 have x1:∀x∈o.names++[xw.getD (k%3) []],oct x∧x.length≤1000:=by
  intro x hx
  rcases List.mem_append.1 hx with hx|hx
  ·exact⟨o3 x hx,n4 x hx⟩
  ·rw[List.mem_singleton.1 hx];exact l3
 have x1l:(o.names++[xw.getD (k%3) []]).length≤1000:=by rw[List.length_append];simp only[List.length_cons,List.length_nil];omega
 have x2:∀x∈List.replicate (k%20) ([]:List Nat),oct x∧x.length≤1000:=fun x hx=>by rw[List.eq_of_mem_replicate hx];exact⟨dV,Nat.zero_le _⟩
 have x2l:(List.replicate (k%20) ([]:List Nat)).length≤1000:=by rw[List.length_replicate];omega
 have x3:∀x∈o.items++[(wC (k:Int),((k%3:Nat):Int)-1)],oct x.1∧Wt x.2:=by
  intro x hx
  rcases List.mem_append.1 hx with hx|hx
  ·exact⟨o4 x hx,w13 x hx⟩
  ·rw[List.mem_singleton.1 hx];exact⟨(II _).1,by show -9223372036854775808≤((k%3:Nat):Int)-1;omega,by show ((k%3:Nat):Int)-1≤9223372036854775807;omega⟩
 have x3l:(o.items++[(wC (k:Int),((k%3:Nat):Int)-1)]).length≤1000:=by rw[List.length_append];simp only[List.length_cons,List.length_nil];omega
 have x4:∀x∈List.replicate (64+k%2) (([],0):List Nat × Int),oct x.1∧Wt x.2:=fun x hx=>by rw[List.eq_of_mem_replicate hx];exact⟨dV,wtZ⟩
 have x4l:(List.replicate (64+k%2) (([],0):List Nat × Int)).length≤1000:=by rw[List.length_replicate];omega
 have x5l:(List.replicate (60+k%9) 0).length≤1000:=by rw[List.length_replicate];omega
 have x6l:(List.replicate (65536+k%2) 0).length≤1000000:=by rw[List.length_replicate];omega
 have b1:oct [1]:=nK (by decide)
 have y1:Wt (((k%8:Nat):Int)-2):=⟨by omega,by omega⟩
 have y2:Wt (((k%20:Nat):Int)-2):=⟨by omega,by omega⟩
 have y3:Wt (((k%40:Nat):Int)-3):=⟨by omega,by omega⟩
 unfold spO
 (repeat' refine amv ?_ ?_)
 all_goals refine⟨⟨?_, ?_, ?_, ?_, ?_, ?_, ?_⟩, ?_, ?_, ?_, ?_, ?_, ?_, ?_, ?_, ?_, ?_, ?_, ?_, ?_, ?_, ?_, ?_, ?_, ?_, ?_, ?_⟩
 all_goals first
  | exact o1|exact o2|exact o3|exact o4|exact o5|exact o6|exact o7|exact w1|exact w2|exact w3|exact w4|exact w5|exact w6|exact w7|exact w8|exact w9|exact w10|exact w11|exact w12|exact w13
  | exact n1|exact n2|exact n3|exact n4|exact n5|exact n6|exact n7
  | exact l1.1|exact l1.2|exact l2.1|exact l2.2|exact l4|exact a1|exact a2|exact a3|exact a4|exact sZ|exact b1|exact acA _|exact y1|exact y2|exact y3
  | exact fun x hx=>(x1 x hx).1|exact fun x hx=>(x1 x hx).2|exact x1l|exact fun x hx=>(x2 x hx).1|exact fun x hx=>(x2 x hx).2|exact x2l
  | exact fun x hx=>(x3 x hx).1|exact fun x hx=>(x3 x hx).2|exact x3l|exact fun x hx=>(x4 x hx).1|exact fun x hx=>(x4 x hx).2|exact x4l|exact x5l|exact x6l
  | exact wtN _ _ (by decide) (by decide)|exact (by decide:(1:Nat)≤1000000)
def vB:=aI @Bool.not_true (aI @Bool.not_false (aI @Bool.and_true (aI @Bool.true_and (aI @Bool.false_and (aI @Bool.and_false (aI @List.append_eq.{0} (aI @List.cons_append.{0} (aI @List.nil_append.{0} (aI @kG (aI @Rh (aI @ai (aI @au (aI @aB @ax)))))))))))))
abbrev kO(k:Int)(o:O):O:={ o with kind:=k }
abbrev V22(o:O)(E:Int):Prop:=Gxx 47 [.agg (opF o)] (vi E)
theorem vW{o:O}{E:Int}{C:Prop}(cx:C)(h:C→V22 o E:=by intro cx;have q1:=au o.names;have q2:=aB o.items;have q3:=ax o.coins;have q4:=ax o.data;refine gI oW Tryz.func47 Tryz.results47 ?_;exact wR vB cx ah):V22 o E:=h cx
abbrev Zk(k:Int)(o:O):Prop:=∀j,j<14→(dI (bJ k)).getD j false=false→zro (kO k o) j=true
theorem amw{k:Int}{o:O}:Zk k o↔(((dI (bJ k)).getD 0 false=false→(o.name.length=0))∧((dI (bJ k)).getD 1 false=false→(o.other.length=0))∧((dI (bJ k)).getD 2 false=false→(o.names.length=0))∧((dI (bJ k)).getD 3 false=false→(o.pk=0∧o.pz=0∧o.pd=0∧o.ps=0))∧((dI (bJ k)).getD 4 false=false→(o.items.length=0))∧((dI (bJ k)).getD 5 false=false→(o.coins.length=0))∧((dI (bJ k)).getD 6 false=false→(o.exp=0))∧((dI (bJ k)).getD 7 false=false→(o.src=0))∧((dI (bJ k)).getD 8 false=false→(o.hnd=0))∧((dI (bJ k)).getD 9 false=false→(o.idx=0))∧((dI (bJ k)).getD 10 false=false→(o.cur=0))∧((dI (bJ k)).getD 11 false=false→(o.cnt=0))∧((dI (bJ k)).getD 12 false=false→(o.qk=0∧o.qkey.length=0∧o.qc=0∧o.qn=0∧o.qd=0))∧((dI (bJ k)).getD 13 false=false→(o.data.length=0))):=by
 constructor
 ·intro h
  exact⟨fun q=>of_decide_eq_true (h 0 (by omega) q),fun q=>of_decide_eq_true (h 1 (by omega) q),fun q=>of_decide_eq_true (h 2 (by omega) q),fun q=>of_decide_eq_true (h 3 (by omega) q),fun q=>of_decide_eq_true (h 4 (by omega) q),fun q=>of_decide_eq_true (h 5 (by omega) q),fun q=>of_decide_eq_true (h 6 (by omega) q),fun q=>of_decide_eq_true (h 7 (by omega) q),fun q=>of_decide_eq_true (h 8 (by omega) q),fun q=>of_decide_eq_true (h 9 (by omega) q),fun q=>of_decide_eq_true (h 10 (by omega) q),fun q=>of_decide_eq_true (h 11 (by omega) q),fun q=>of_decide_eq_true (h 12 (by omega) q),fun q=>of_decide_eq_true (h 13 (by omega) q)⟩
 ·rintro⟨a0,a1,a2,a3,a4,a5,a6,a7,a8,a9,a10,a11,a12,a13⟩ j h7 h8
  rcases (show j=0∨j=1∨j=2∨j=3∨j=4∨j=5∨j=6∨j=7∨j=8∨j=9∨j=10∨j=11∨j=12∨j=13 by omega) with rfl|rfl|rfl|rfl|rfl|rfl|rfl|rfl|rfl|rfl|rfl|rfl|rfl|rfl
  ·exact decide_eq_true (a0 h8)
  ·exact decide_eq_true (a1 h8)
  ·exact decide_eq_true (a2 h8)
  ·exact decide_eq_true (a3 h8)
  ·exact decide_eq_true (a4 h8)
  ·exact decide_eq_true (a5 h8)
  ·exact decide_eq_true (a6 h8)
  ·exact decide_eq_true (a7 h8)
  ·exact decide_eq_true (a8 h8)
  ·exact decide_eq_true (a9 h8)
  ·exact decide_eq_true (a10 h8)
  ·exact decide_eq_true (a11 h8)
  ·exact decide_eq_true (a12 h8)
  ·exact decide_eq_true (a13 h8)
theorem jA{p:Prop}(h:p:=by intro l h7 h8;rcases (show l=0∨l=1∨l=2∨l=3∨l=4∨l=5∨l=6∨l=7∨l=8∨l=9∨l=10∨l=11∨l=12∨l=13∨14≤l by omega) with rfl|rfl|rfl|rfl|rfl|rfl|rfl|rfl|rfl|rfl|rfl|rfl|rfl|rfl|h9<;>first|(exfalso;omega)|exact y0|exact y1|exact y2|exact y3|exact y4|exact y5|exact y6|exact y7|exact y8|exact y9|exact y10|exact y11|exact y12|exact y13|exact absurd (show false=true from h8) (by decide)):p:=h
theorem vEr{k:Int}{o:O}(j:Nat)(y:chk (kO k o) j≠0)(g:V22 (kO k o) (chk (kO k o) j))(hk:¬(k<1∨17<k):=by decide)(hj:(dI (bJ k)).getD j false=true:=by decide)(h14:j<14:=by decide)(h:∀l,l<j→(dI (bJ k)).getD l false=true→chk (kO k o) l=0:=by exact jA):V22 (kO k o) (vop (kO k o)):=by rw[afc j hk hj h14 y h];exact g
theorem vOk{k:Int}{o:O}{C:Prop}(cx:C)(h:∀l,l<14→(dI (bJ k)).getD l false=true→chk (kO k o) l=0)(hk:¬(k<1∨17<k):=by decide)
  (h1:C→Zk k o→V22 (kO k o) 0:=by intro cx hz;rw[amw,mB] at hz;simp only[List.getD_cons_zero,List.getD_cons_succ,Bool.true_eq_false,false_implies,true_implies,true_and,and_true] at hz;exact vW cx)
  (h2:C→¬Zk k o→V22 (kO k o) 18:=by intro cx hz;rw[amw,mB] at hz;simp only[List.getD_cons_zero,List.getD_cons_succ,Bool.true_eq_false,false_implies,true_implies,true_and,and_true] at hz;have q1:=au o.names;have q2:=aB o.items;have q3:=ax o.coins;have q4:=ax o.data;refine gI oW Tryz.func47 Tryz.results47 ?_;(repeat' first|refine wP vB cx ?_|refine tS ?_ ?_<;>intro hc|fail);(all_goals first|(refine rT [] ?_;first|rfl|(exfalso;(try simp only[Bool.and_eq_true,beq_iff_eq,decide_eq_true_eq] at *);omega))|(exfalso;omega)|fail)):V22 (kO k o) (vop (kO k o)):=by
 by_cases hz:Zk k o
 ·rw[aly hk h hz];exact h1 cx hz
 ·rw[ai7 hk h hz];exact h2 cx hz
theorem nn{l:List Nat}(y:nmE l≠0):jW l=false∧nmE l=6:=by unfold nmE at *;split at y;exact absurd rfl y;rename_i h;exact⟨by simpa using h,by rw[if_neg h]⟩
theorem ni{l:List Nat}(y:nmE l=0):jW l=true:=by unfold nmE at y;split at y;assumption;cases y
theorem bi{n a b:Int}(y:bwE n a b=0):inb n a b=true:=by unfold bwE at y;split at y;cases y;exact uI (by omega)
theorem bn{n a b:Int}(y:bwE n a b≠0):inb n a b=false∧bwE n a b=5:=by unfold bwE at *;split at y;rename_i h;exact⟨jY (by omega),by rw[if_pos h]⟩;exact absurd rfl y
theorem si{l:List Nat}{m:Int}(y:shE l m=0):(l.length:Int)≤m:=by unfold shE at y;split at y;cases y;omega
theorem sn{l:List Nat}{m:Int}(y:shE l m≠0):m<(l.length:Int)∧shE l m=11:=by unfold shE at *;split at y;rename_i h;exact⟨h,by rw[if_pos h]⟩;exact absurd rfl y
theorem wb(o:O)(k:Int)(h:1≤k∧k≤17):Gxx 82 [vi k,vi 1,vi 17] (vb true)∧Gxx 85 [.agg (opF (kO k o)),vb false,vb false] (vi 0):=⟨by have h1:=fB k 1 17;rw[uI h] at h1;exact h1,Z9 (kO k o)⟩
abbrev bT:V:=vb true
abbrev bF:V:=vb false
theorem WC(o:O)(ho:o.Oct)(hn:o.names.length≤1000000)(hi:o.items.length≤1000000):V22 (kO 1 o) (vop (kO 1 o)):=by
 have w:=wb o 1 (by decide)
 have hU:Gxx 83 [vi 1] (.agg [bT,bF,bF,bT,bF,bF,bF,bF,bF,bF,bF,bF,bF]):=iC 1
 have mB:dI (bJ 1)=[true,false,false,true,false,false,false,false,false,false,false,false,false,false]:=by decide
 have c0:=oz o.name ho.1
 have c3:=bg o.pk o.pz o.pd o.ps
 by_cases y0:nmE o.name=0
 ·rw[ni y0] at c0
  by_cases y3:vp o.pk o.pz o.pd o.ps=0
  ·rw[y3] at c3
   exact vOk (aI hU (aI c0 (aI c3 w))) jA
  ·exact vEr 3 y3 (by show V22 _ (vp o.pk o.pz o.pd o.ps);generalize vp o.pk o.pz o.pd o.ps=E at *;exact vW (aI hU (aI c0 (aI c3 w))))
 ·exact vEr 0 y0 (by have z:=nn y0;rw[z.1] at c0;show V22 _ (nmE o.name);rw[z.2];exact vW (aI hU (aI c0 (aI c3 w))))
theorem WE(o:O)(ho:o.Oct)(hn:o.names.length≤1000000)(hi:o.items.length≤1000000):V22 (kO 2 o) (vop (kO 2 o)):=by
 have w:=wb o 2 (by decide)
 have hU:Gxx 83 [vi 2] (.agg [bT,bF,bF,bF,bF,bF,bF,bF,bF,bF,bF,bF,bF]):=iC 2
 have mB:dI (bJ 2)=[true,false,false,false,false,false,false,false,false,false,false,false,false,false]:=by decide
 have c0:=oz o.name ho.1
 by_cases y0:nmE o.name=0
 ·rw[ni y0] at c0
  exact vOk (aI hU (aI c0 w)) jA
 ·exact vEr 0 y0 (by have z:=nn y0;rw[z.1] at c0;show V22 _ (nmE o.name);rw[z.2];exact vW (aI hU (aI c0 w)))
theorem WF(o:O)(ho:o.Oct)(hn:o.names.length≤1000000)(hi:o.items.length≤1000000):V22 (kO 3 o) (vop (kO 3 o)):=by
 have w:=wb o 3 (by decide)
 have hU:Gxx 83 [vi 3] (.agg [bT,bT,bF,bF,bF,bF,bF,bF,bF,bF,bF,bF,bF]):=iC 3
 have mB:dI (bJ 3)=[true,true,false,false,false,false,false,false,false,false,false,false,false,false]:=by decide
 have c0:=oz o.name ho.1
 have c1:=oz o.other ho.2.1
 by_cases y0:nmE o.name=0
 ·rw[ni y0] at c0
  by_cases y1:nmE o.other=0
  ·rw[ni y1] at c1
   exact vOk (aI hU (aI c0 (aI c1 w))) jA
  ·exact vEr 1 y1 (by have z:=nn y1;rw[z.1] at c1;show V22 _ (nmE o.other);rw[z.2];exact vW (aI hU (aI c0 (aI c1 w))))
 ·exact vEr 0 y0 (by have z:=nn y0;rw[z.1] at c0;show V22 _ (nmE o.name);rw[z.2];exact vW (aI hU (aI c0 (aI c1 w))))
theorem WG(o:O)(ho:o.Oct)(hn:o.names.length≤1000000)(hi:o.items.length≤1000000):V22 (kO 4 o) (vop (kO 4 o)):=by
 have w:=wb o 4 (by decide)
 have hU:Gxx 83 [vi 4] (.agg [bF,bF,bF,bF,bF,bF,bF,bF,bF,bF,bF,bF,bF]):=iC 4
 have mB:dI (bJ 4)=[false,false,false,false,false,false,false,false,false,false,false,false,false,false]:=by decide
 exact vOk (aI hU w) jA
theorem WH(o:O)(ho:o.Oct)(hn:o.names.length≤1000000)(hi:o.items.length≤1000000):V22 (kO 5 o) (vop (kO 5 o)):=by
 have w:=wb o 5 (by decide)
 have hU:Gxx 83 [vi 5] (.agg [bT,bF,bF,bF,bF,bF,bF,bF,bF,bF,bF,bT,bF]):=iC 5
 have mB:dI (bJ 5)=[true,false,false,false,false,false,false,false,false,false,false,false,true,false]:=by decide
 have c0:=oz o.name ho.1
 have c12:=F8 o.qk o.qkey o.qc o.qn o.qd
 by_cases y0:nmE o.name=0
 ·rw[ni y0] at c0
  by_cases y12:vq o.qk o.qkey o.qc o.qn o.qd=0
  ·rw[y12] at c12
   exact vOk (aI hU (aI c0 (aI c12 w))) jA
  ·exact vEr 12 y12 (by show V22 _ (vq o.qk o.qkey o.qc o.qn o.qd);generalize vq o.qk o.qkey o.qc o.qn o.qd=E at *;exact vW (aI hU (aI c0 (aI c12 w))))
 ·exact vEr 0 y0 (by have z:=nn y0;rw[z.1] at c0;show V22 _ (nmE o.name);rw[z.2];exact vW (aI hU (aI c0 (aI c12 w))))
theorem WI(o:O)(ho:o.Oct)(hn:o.names.length≤1000000)(hi:o.items.length≤1000000):V22 (kO 6 o) (vop (kO 6 o)):=by
 have w:=wb o 6 (by decide)
 have hU:Gxx 83 [vi 6] (.agg [bT,bF,bF,bF,bT,bT,bF,bF,bF,bF,bF,bF,bF]):=iC 6
 have mB:dI (bJ 6)=[true,false,false,false,true,true,false,false,false,false,false,false,false,false]:=by decide
 have c0:=oz o.name ho.1
 have c4:=aac (kO 6 o) hi
 by_cases y0:nmE o.name=0
 ·rw[ni y0] at c0
  by_cases y4:itE o.items=0
  ·rw[show itE o.items=0 from y4] at c4
   by_cases y5:shE o.coins 64=0
   ·have z5:=si y5
    exact vOk (aI hU (aI c0 (aI c4 w))) jA
   ·exact vEr 5 y5 (by have z:=sn y5;show V22 _ (shE o.coins 64);rw[z.2];exact vW (aI hU (aI c0 (aI c4 w))))
  ·exact vEr 4 y4 (by show V22 _ (itE o.items);generalize itE o.items=E at *;exact vW (aI hU (aI c0 (aI c4 w))))
 ·exact vEr 0 y0 (by have z:=nn y0;rw[z.1] at c0;show V22 _ (nmE o.name);rw[z.2];exact vW (aI hU (aI c0 (aI c4 w))))
theorem WJ(o:O)(ho:o.Oct)(hn:o.names.length≤1000000)(hi:o.items.length≤1000000):V22 (kO 7 o) (vop (kO 7 o)):=by
 have w:=wb o 7 (by decide)
 have hU:Gxx 83 [vi 7] (.agg [bT,bT,bF,bF,bF,bT,bF,bF,bF,bF,bF,bF,bF]):=iC 7
 have mB:dI (bJ 7)=[true,true,false,false,false,true,false,false,false,false,false,false,false,false]:=by decide
 have c0:=oz o.name ho.1
 have c1:=oz o.other ho.2.1
 by_cases y0:nmE o.name=0
 ·rw[ni y0] at c0
  by_cases y1:nmE o.other=0
  ·rw[ni y1] at c1
   by_cases y5:shE o.coins 64=0
   ·have z5:=si y5
    exact vOk (aI hU (aI c0 (aI c1 w))) jA
   ·exact vEr 5 y5 (by have z:=sn y5;show V22 _ (shE o.coins 64);rw[z.2];exact vW (aI hU (aI c0 (aI c1 w))))
  ·exact vEr 1 y1 (by have z:=nn y1;rw[z.1] at c1;show V22 _ (nmE o.other);rw[z.2];exact vW (aI hU (aI c0 (aI c1 w))))
 ·exact vEr 0 y0 (by have z:=nn y0;rw[z.1] at c0;show V22 _ (nmE o.name);rw[z.2];exact vW (aI hU (aI c0 (aI c1 w))))
theorem WL(o:O)(ho:o.Oct)(hn:o.names.length≤1000000)(hi:o.items.length≤1000000):V22 (kO 8 o) (vop (kO 8 o)):=by
 have w:=wb o 8 (by decide)
 have hU:Gxx 83 [vi 8] (.agg [bT,bT,bF,bF,bF,bT,bT,bF,bF,bF,bF,bF,bF]):=iC 8
 have mB:dI (bJ 8)=[true,true,false,false,false,true,true,true,false,false,false,false,false,false]:=by decide
 have c0:=oz o.name ho.1
 have c1:=oz o.other ho.2.1
 have c6:=fB o.exp 1 1048576
 have c7:=fB o.src 1 1048576
 by_cases y0:nmE o.name=0
 ·rw[ni y0] at c0
  by_cases y1:nmE o.other=0
  ·rw[ni y1] at c1
   by_cases y5:shE o.coins 64=0
   ·have z5:=si y5
    by_cases y6:bwE o.exp 1 1048576=0
    ·rw[bi y6] at c6
     by_cases y7:bwE o.src 1 1048576=0
     ·rw[bi y7] at c7
      exact vOk (aI hU (aI c0 (aI c1 (aI c6 (aI c7 w))))) jA
     ·exact vEr 7 y7 (by have z:=bn y7;rw[z.1] at c7;show V22 _ (bwE o.src 1 1048576);rw[z.2];exact vW (aI hU (aI c0 (aI c1 (aI c6 (aI c7 w))))))
    ·exact vEr 6 y6 (by have z:=bn y6;rw[z.1] at c6;show V22 _ (bwE o.exp 1 1048576);rw[z.2];exact vW (aI hU (aI c0 (aI c1 (aI c6 (aI c7 w))))))
   ·exact vEr 5 y5 (by have z:=sn y5;show V22 _ (shE o.coins 64);rw[z.2];exact vW (aI hU (aI c0 (aI c1 (aI c6 (aI c7 w))))))
  ·exact vEr 1 y1 (by have z:=nn y1;rw[z.1] at c1;show V22 _ (nmE o.other);rw[z.2];exact vW (aI hU (aI c0 (aI c1 (aI c6 (aI c7 w))))))
 ·exact vEr 0 y0 (by have z:=nn y0;rw[z.1] at c0;show V22 _ (nmE o.name);rw[z.2];exact vW (aI hU (aI c0 (aI c1 (aI c6 (aI c7 w))))))
theorem WM(o:O)(ho:o.Oct)(hn:o.names.length≤1000000)(hi:o.items.length≤1000000):V22 (kO 9 o) (vop (kO 9 o)):=by
 have w:=wb o 9 (by decide)
 have hU:Gxx 83 [vi 9] (.agg [bF,bF,bT,bF,bF,bF,bF,bF,bF,bF,bF,bF,bF]):=iC 9
 have mB:dI (bJ 9)=[false,false,true,false,false,false,false,false,false,false,false,false,false,false]:=by decide
 have c2:=aab (kO 9 o) ho hn
 by_cases y2:lsE o.names=0
 ·rw[show lsE o.names=0 from y2] at c2
  exact vOk (aI hU (aI c2 w)) jA
 ·exact vEr 2 y2 (by show V22 _ (lsE o.names);generalize lsE o.names=E at *;exact vW (aI hU (aI c2 w)))
theorem Qq(o:O)(ho:o.Oct)(hn:o.names.length≤1000000)(hi:o.items.length≤1000000):V22 (kO 10 o) (vop (kO 10 o)):=by
 have w:=wb o 10 (by decide)
 have hU:Gxx 83 [vi 10] (.agg [bF,bF,bF,bF,bF,bF,bF,bT,bT,bF,bF,bT,bF]):=iC 10
 have mB:dI (bJ 10)=[false,false,false,false,false,false,false,false,true,true,false,false,true,false]:=by decide
 have c8:=fB o.hnd 0 3
 have c9:=fB o.idx 0 15
 have c12:=F8 o.qk o.qkey o.qc o.qn o.qd
 by_cases y8:bwE o.hnd 0 3=0
 ·rw[bi y8] at c8
  by_cases y9:bwE o.idx 0 15=0
  ·rw[bi y9] at c9
   by_cases y12:vq o.qk o.qkey o.qc o.qn o.qd=0
   ·rw[y12] at c12
    exact vOk (aI hU (aI c8 (aI c9 (aI c12 w)))) jA
   ·exact vEr 12 y12 (by show V22 _ (vq o.qk o.qkey o.qc o.qn o.qd);generalize vq o.qk o.qkey o.qc o.qn o.qd=E at *;exact vW (aI hU (aI c8 (aI c9 (aI c12 w)))))
  ·exact vEr 9 y9 (by have z:=bn y9;rw[z.1] at c9;show V22 _ (bwE o.idx 0 15);rw[z.2];exact vW (aI hU (aI c8 (aI c9 (aI c12 w)))))
 ·exact vEr 8 y8 (by have z:=bn y8;rw[z.1] at c8;show V22 _ (bwE o.hnd 0 3);rw[z.2];exact vW (aI hU (aI c8 (aI c9 (aI c12 w)))))
theorem Qr(o:O)(ho:o.Oct)(hn:o.names.length≤1000000)(hi:o.items.length≤1000000):V22 (kO 11 o) (vop (kO 11 o)):=by
 have w:=wb o 11 (by decide)
 have hU:Gxx 83 [vi 11] (.agg [bF,bF,bF,bF,bF,bF,bF,bT,bF,bF,bF,bF,bF]):=iC 11
 have mB:dI (bJ 11)=[false,false,false,false,false,false,false,false,true,false,false,false,false,false]:=by decide
 have c8:=fB o.hnd 0 3
 by_cases y8:bwE o.hnd 0 3=0
 ·rw[bi y8] at c8
  exact vOk (aI hU (aI c8 w)) jA
 ·exact vEr 8 y8 (by have z:=bn y8;rw[z.1] at c8;show V22 _ (bwE o.hnd 0 3);rw[z.2];exact vW (aI hU (aI c8 w)))
theorem Qs(o:O)(ho:o.Oct)(hn:o.names.length≤1000000)(hi:o.items.length≤1000000):V22 (kO 12 o) (vop (kO 12 o)):=by
 have w:=wb o 12 (by decide)
 have hU:Gxx 83 [vi 12] (.agg [bF,bF,bF,bF,bF,bF,bF,bT,bT,bF,bF,bF,bF]):=iC 12
 have mB:dI (bJ 12)=[false,false,false,false,false,false,false,false,true,true,false,false,false,false]:=by decide
 have c8:=fB o.hnd 0 3
 have c9:=fB o.idx 0 15
 by_cases y8:bwE o.hnd 0 3=0
 ·rw[bi y8] at c8
  by_cases y9:bwE o.idx 0 15=0
  ·rw[bi y9] at c9
   exact vOk (aI hU (aI c8 (aI c9 w))) jA
  ·exact vEr 9 y9 (by have z:=bn y9;rw[z.1] at c9;show V22 _ (bwE o.idx 0 15);rw[z.2];exact vW (aI hU (aI c8 (aI c9 w))))
 ·exact vEr 8 y8 (by have z:=bn y8;rw[z.1] at c8;show V22 _ (bwE o.hnd 0 3);rw[z.2];exact vW (aI hU (aI c8 (aI c9 w))))
theorem Qu(o:O)(ho:o.Oct)(hn:o.names.length≤1000000)(hi:o.items.length≤1000000):V22 (kO 13 o) (vop (kO 13 o)):=by
 have w:=wb o 13 (by decide)
 have hU:Gxx 83 [vi 13] (.agg [bF,bF,bF,bF,bF,bF,bF,bF,bF,bT,bT,bF,bF]):=iC 13
 have mB:dI (bJ 13)=[false,false,false,false,false,false,false,false,false,false,true,true,false,false]:=by decide
 have c10:=fB o.cur 0 3
 have c11:=fB o.cnt 0 32
 by_cases y10:bwE o.cur 0 3=0
 ·rw[bi y10] at c10
  by_cases y11:bwE o.cnt 0 32=0
  ·rw[bi y11] at c11
   exact vOk (aI hU (aI c10 (aI c11 w))) jA
  ·exact vEr 11 y11 (by have z:=bn y11;rw[z.1] at c11;show V22 _ (bwE o.cnt 0 32);rw[z.2];exact vW (aI hU (aI c10 (aI c11 w))))
 ·exact vEr 10 y10 (by have z:=bn y10;rw[z.1] at c10;show V22 _ (bwE o.cur 0 3);rw[z.2];exact vW (aI hU (aI c10 (aI c11 w))))
theorem Qv(o:O)(ho:o.Oct)(hn:o.names.length≤1000000)(hi:o.items.length≤1000000):V22 (kO 14 o) (vop (kO 14 o)):=by
 have w:=wb o 14 (by decide)
 have hU:Gxx 83 [vi 14] (.agg [bF,bF,bF,bF,bF,bF,bF,bF,bF,bT,bF,bF,bF]):=iC 14
 have mB:dI (bJ 14)=[false,false,false,false,false,false,false,false,false,false,true,false,false,false]:=by decide
 have c10:=fB o.cur 0 3
 by_cases y10:bwE o.cur 0 3=0
 ·rw[bi y10] at c10
  exact vOk (aI hU (aI c10 w)) jA
 ·exact vEr 10 y10 (by have z:=bn y10;rw[z.1] at c10;show V22 _ (bwE o.cur 0 3);rw[z.2];exact vW (aI hU (aI c10 w)))
theorem Qw(o:O)(ho:o.Oct)(hn:o.names.length≤1000000)(hi:o.items.length≤1000000):V22 (kO 15 o) (vop (kO 15 o)):=by
 have w:=wb o 15 (by decide)
 have hU:Gxx 83 [vi 15] (.agg [bF,bF,bF,bF,bF,bF,bF,bT,bT,bF,bF,bF,bF]):=iC 15
 have mB:dI (bJ 15)=[false,false,false,false,false,false,false,false,true,true,false,false,false,false]:=by decide
 have c8:=fB o.hnd 0 3
 have c9:=fB o.idx 0 15
 by_cases y8:bwE o.hnd 0 3=0
 ·rw[bi y8] at c8
  by_cases y9:bwE o.idx 0 15=0
  ·rw[bi y9] at c9
   exact vOk (aI hU (aI c8 (aI c9 w))) jA
  ·exact vEr 9 y9 (by have z:=bn y9;rw[z.1] at c9;show V22 _ (bwE o.idx 0 15);rw[z.2];exact vW (aI hU (aI c8 (aI c9 w))))
 ·exact vEr 8 y8 (by have z:=bn y8;rw[z.1] at c8;show V22 _ (bwE o.hnd 0 3);rw[z.2];exact vW (aI hU (aI c8 (aI c9 w))))
theorem Qx(o:O)(ho:o.Oct)(hn:o.names.length≤1000000)(hi:o.items.length≤1000000):V22 (kO 16 o) (vop (kO 16 o)):=by
 have w:=wb o 16 (by decide)
 have hU:Gxx 83 [vi 16] (.agg [bT,bF,bF,bF,bF,bF,bF,bF,bF,bF,bF,bF,bT]):=iC 16
 have mB:dI (bJ 16)=[true,false,false,false,false,false,false,false,false,false,false,false,false,true]:=by decide
 have c0:=oz o.name ho.1
 by_cases y0:nmE o.name=0
 ·rw[ni y0] at c0
  by_cases y13:shE o.data 65536=0
  ·have z13:=si y13
   exact vOk (aI hU (aI c0 w)) jA
  ·exact vEr 13 y13 (by have z:=sn y13;show V22 _ (shE o.data 65536);rw[z.2];exact vW (aI hU (aI c0 w)))
 ·exact vEr 0 y0 (by have z:=nn y0;rw[z.1] at c0;show V22 _ (nmE o.name);rw[z.2];exact vW (aI hU (aI c0 w)))
theorem Qz(o:O)(ho:o.Oct)(hn:o.names.length≤1000000)(hi:o.items.length≤1000000):V22 (kO 17 o) (vop (kO 17 o)):=by
 have w:=wb o 17 (by decide)
 have hU:Gxx 83 [vi 17] (.agg [bF,bF,bF,bF,bF,bF,bF,bF,bF,bF,bF,bF,bF]):=iC 17
 have mB:dI (bJ 17)=[false,false,false,false,false,false,false,false,false,false,false,false,false,false]:=by decide
 exact vOk (aI hU w) jA
theorem cO(o:O)(ho:o.Oct)(hn:o.names.length≤1000000)(hi:o.items.length≤1000000):V22 o (vop o):=by
 by_cases hk:o.kind<1∨17<o.kind
 ·exact KP o hk
 ·rcases nU hk with h|h|h|h|h|h|h|h|h|h|h|h|h|h|h|h|h
  ·have g:=WC o ho hn hi;rw[←h] at g;exact g
  ·have g:=WE o ho hn hi;rw[←h] at g;exact g
  ·have g:=WF o ho hn hi;rw[←h] at g;exact g
  ·have g:=WG o ho hn hi;rw[←h] at g;exact g
  ·have g:=WH o ho hn hi;rw[←h] at g;exact g
  ·have g:=WI o ho hn hi;rw[←h] at g;exact g
  ·have g:=WJ o ho hn hi;rw[←h] at g;exact g
  ·have g:=WL o ho hn hi;rw[←h] at g;exact g
  ·have g:=WM o ho hn hi;rw[←h] at g;exact g
  ·have g:=Qq o ho hn hi;rw[←h] at g;exact g
  ·have g:=Qr o ho hn hi;rw[←h] at g;exact g
  ·have g:=Qs o ho hn hi;rw[←h] at g;exact g
  ·have g:=Qu o ho hn hi;rw[←h] at g;exact g
  ·have g:=Qv o ho hn hi;rw[←h] at g;exact g
  ·have g:=Qw o ho hn hi;rw[←h] at g;exact g
  ·have g:=Qx o ho hn hi;rw[←h] at g;exact g
  ·have g:=Qz o ho hn hi;rw[←h] at g;exact g
theorem amx:(⟨#[99,114,101,97,116,101]⟩:ByteArray)=sB [99,114,101,97,116,101]:=rfl
theorem amy:(⟨#[100,114,111,112]⟩:ByteArray)=sB [100,114,111,112]:=rfl
theorem amz:(⟨#[114,101,110,97,109,101]⟩:ByteArray)=sB [114,101,110,97,109,101]:=rfl
theorem amA:(⟨#[108,105,115,116]⟩:ByteArray)=sB [108,105,115,116]:=rfl
theorem amB:(⟨#[113,117,101,114,121]⟩:ByteArray)=sB [113,117,101,114,121]:=rfl
theorem amC:(⟨#[105,110,115,101,114,116]⟩:ByteArray)=sB [105,110,115,101,114,116]:=rfl
theorem amD:(⟨#[109,101,114,103,101]⟩:ByteArray)=sB [109,101,114,103,101]:=rfl
theorem amE:(⟨#[99,111,109,112,97,114,101]⟩:ByteArray)=sB [99,111,109,112,97,114,101]:=rfl
theorem amF:(⟨#[111,112,101,110]⟩:ByteArray)=sB [111,112,101,110]:=rfl
theorem akm:(⟨#[114,101,97,100]⟩:ByteArray)=sB [114,101,97,100]:=rfl
theorem akn:(⟨#[99,108,111,115,101]⟩:ByteArray)=sB [99,108,111,115,101]:=rfl
theorem ako:(⟨#[99,117,114,115,111,114]⟩:ByteArray)=sB [99,117,114,115,111,114]:=rfl
theorem akp:(⟨#[110,101,120,116]⟩:ByteArray)=sB [110,101,120,116]:=rfl
theorem akq:(⟨#[101,110,100]⟩:ByteArray)=sB [101,110,100]:=rfl
theorem akr:(⟨#[101,120,112,111,114,116]⟩:ByteArray)=sB [101,120,112,111,114,116]:=rfl
theorem aks:(⟨#[105,109,112,111,114,116]⟩:ByteArray)=sB [105,109,112,111,114,116]:=rfl
theorem akt:(⟨#[99,111,108,108,101,99,116]⟩:ByteArray)=sB [99,111,108,108,101,99,116]:=rfl
theorem agO(o:O)(ok:o.Ok)(hk:o.kind=1)(hv:vop o=0):Gxx 14 [.agg (opF o)] (.tup [vs (jn (opW o)),vi 0]):=by
 have h1:=cO o ok.oct (by have:=ok.names;omega) (by have:=ok.items;omega)
 rw[hv] at h1
 have e:opW o=[99,114,101,97,116,101]::o.name::qX o.pk o.pz o.pd o.ps:=by simp [opW,hk]
 have htot:=dM o ok
 rw[e] at htot ⊢
 have hprm:=ajN o.pk o.pz o.pd o.ps (pg (by omega) hv) ok.pz ok.pd ok.ps
 have hw:=afN o.pk o.pz o.pd o.ps
 have hjj:jn ([99,114,101,97,116,101]::o.name::qX o.pk o.pz o.pd o.ps)=jn [[99,114,101,97,116,101],o.name,jn (qX o.pk o.pz o.pd o.ps)]:=Pz [[99,114,101,97,116,101],o.name] hw
 rw[hjj]
 have hws:=dR [[99,114,101,97,116,101],o.name,jn (qX o.pk o.pz o.pd o.ps)] (by have:=PD (qX o.pk o.pz o.pd o.ps);simp only[bz,dL] at *;omega)
 obtain⟨kind,name,other,names,pk,pz,pd,ps,items,coins,exp,src,hnd,idx,cur,cnt,qk,qkey,qc,qn,qd,data⟩:=o
 simp only at *
 subst hk
 clear hv ok
 refine gI oD Tryz.func14 Tryz.results14 ?_
 exact wRA (aI @amx @ai) (aI h1 (aI hprm hws)) ah
theorem agP(o:O)(ok:o.Ok)(hk:o.kind=2)(hv:vop o=0):Gxx 14 [.agg (opF o)] (.tup [vs (jn (opW o)),vi 0]):=by
 have h1:=cO o ok.oct (by have:=ok.names;omega) (by have:=ok.items;omega)
 rw[hv] at h1
 have e:opW o=[100,114,111,112]::o.name::[]:=by simp [opW,hk]
 have htot:=dM o ok
 rw[e] at htot ⊢
 have hws:=dR [[100,114,111,112],o.name] (by skip;simp only[bz,dL] at *;omega)
 obtain⟨kind,name,other,names,pk,pz,pd,ps,items,coins,exp,src,hnd,idx,cur,cnt,qk,qkey,qc,qn,qd,data⟩:=o
 simp only at *
 subst hk
 clear hv ok
 refine gI oD Tryz.func14 Tryz.results14 ?_
 exact wRA (aI @amy @ai) (aI h1 hws) ah
theorem agQ(o:O)(ok:o.Ok)(hk:o.kind=3)(hv:vop o=0):Gxx 14 [.agg (opF o)] (.tup [vs (jn (opW o)),vi 0]):=by
 have h1:=cO o ok.oct (by have:=ok.names;omega) (by have:=ok.items;omega)
 rw[hv] at h1
 have e:opW o=[114,101,110,97,109,101]::o.name::o.other::[]:=by simp [opW,hk]
 have htot:=dM o ok
 rw[e] at htot ⊢
 have hws:=dR [[114,101,110,97,109,101],o.name,o.other] (by skip;simp only[bz,dL] at *;omega)
 obtain⟨kind,name,other,names,pk,pz,pd,ps,items,coins,exp,src,hnd,idx,cur,cnt,qk,qkey,qc,qn,qd,data⟩:=o
 simp only at *
 subst hk
 clear hv ok
 refine gI oD Tryz.func14 Tryz.results14 ?_
 exact wRA (aI @amz @ai) (aI h1 hws) ah
theorem agR(o:O)(ok:o.Ok)(hk:o.kind=4)(hv:vop o=0):Gxx 14 [.agg (opF o)] (.tup [vs (jn (opW o)),vi 0]):=by
 have h1:=cO o ok.oct (by have:=ok.names;omega) (by have:=ok.items;omega)
 rw[hv] at h1
 have e:opW o=[108,105,115,116]::[]:=by simp [opW,hk]
 have htot:=dM o ok
 rw[e] at htot ⊢
 rw[show jn [[108,105,115,116]]=[108,105,115,116] from rfl]
 obtain⟨kind,name,other,names,pk,pz,pd,ps,items,coins,exp,src,hnd,idx,cur,cnt,qk,qkey,qc,qn,qd,data⟩:=o
 simp only at *
 subst hk
 clear hv ok
 refine gI oD Tryz.func14 Tryz.results14 ?_
 exact wRA (aI @amA @ai) h1 ah
theorem agS(o:O)(ok:o.Ok)(hk:o.kind=5)(hv:vop o=0):Gxx 14 [.agg (opF o)] (.tup [vs (jn (opW o)),vi 0]):=by
 have h1:=cO o ok.oct (by have:=ok.names;omega) (by have:=ok.items;omega)
 rw[hv] at h1
 have e:opW o=[113,117,101,114,121]::o.name::lY o.qk o.qkey o.qc o.qn o.qd:=by simp [opW,hk]
 have htot:=dM o ok
 rw[e] at htot ⊢
 have hprm:=abv o.qk o.qkey o.qc o.qn o.qd (gm (by omega) hv) ok.qkey ok.qc ok.qn ok.qd
 have hw:=Sj o.qk o.qkey o.qc o.qn o.qd
 have hjj:jn ([113,117,101,114,121]::o.name::lY o.qk o.qkey o.qc o.qn o.qd)=jn [[113,117,101,114,121],o.name,jn (lY o.qk o.qkey o.qc o.qn o.qd)]:=Pz [[113,117,101,114,121],o.name] hw
 rw[hjj]
 have hws:=dR [[113,117,101,114,121],o.name,jn (lY o.qk o.qkey o.qc o.qn o.qd)] (by have:=PD (lY o.qk o.qkey o.qc o.qn o.qd);simp only[bz,dL] at *;omega)
 obtain⟨kind,name,other,names,pk,pz,pd,ps,items,coins,exp,src,hnd,idx,cur,cnt,qk,qkey,qc,qn,qd,data⟩:=o
 simp only at *
 subst hk
 clear hv ok
 refine gI oD Tryz.func14 Tryz.results14 ?_
 exact wRA (aI @amB @ai) (aI h1 (aI hprm hws)) ah
theorem agT(o:O)(ok:o.Ok)(hk:o.kind=7)(hv:vop o=0):Gxx 14 [.agg (opF o)] (.tup [vs (jn (opW o)),vi 0]):=by
 have h1:=cO o ok.oct (by have:=ok.names;omega) (by have:=ok.items;omega)
 rw[hv] at h1
 have e:opW o=[109,101,114,103,101]::o.name::o.other::fb o.coins::[]:=by simp [opW,hk]
 have htot:=dM o ok
 rw[e] at htot ⊢
 have hfb:=yT o.coins ok.oct.2.2.2.2.1 (by have:=ok.coins;omega)
 have hws:=dR [[109,101,114,103,101],o.name,o.other,fb o.coins] (by skip;simp only[bz,dL] at *;omega)
 obtain⟨kind,name,other,names,pk,pz,pd,ps,items,coins,exp,src,hnd,idx,cur,cnt,qk,qkey,qc,qn,qd,data⟩:=o
 simp only at *
 subst hk
 clear hv ok
 refine gI oD Tryz.func14 Tryz.results14 ?_
 exact wRA (aI @amD @ai) (aI h1 (aI hfb hws)) ah
theorem agU(o:O)(ok:o.Ok)(hk:o.kind=8)(hv:vop o=0):Gxx 14 [.agg (opF o)] (.tup [vs (jn (opW o)),vi 0]):=by
 have h1:=cO o ok.oct (by have:=ok.names;omega) (by have:=ok.items;omega)
 rw[hv] at h1
 have e:opW o=[99,111,109,112,97,114,101]::o.name::o.other::fb o.coins::ak o.exp::ak o.src::[]:=by simp [opW,hk]
 have htot:=dM o ok
 rw[e] at htot ⊢
 have hfb:=yT o.coins ok.oct.2.2.2.2.1 (by have:=ok.coins;omega)
 have h_exp:=jX o.exp ok.exp
 have h_src:=jX o.src ok.src
 have hws:=dR [[99,111,109,112,97,114,101],o.name,o.other,fb o.coins,ak o.exp,ak o.src] (by skip;simp only[bz,dL] at *;omega)
 obtain⟨kind,name,other,names,pk,pz,pd,ps,items,coins,exp,src,hnd,idx,cur,cnt,qk,qkey,qc,qn,qd,data⟩:=o
 simp only at *
 subst hk
 clear hv ok
 refine gI oD Tryz.func14 Tryz.results14 ?_
 exact wRA (aI @amE @ai) (aI h1 (aI hfb (aI h_exp (aI h_src hws)))) ah
theorem acJ(o:O)(ok:o.Ok)(hk:o.kind=10)(hv:vop o=0):Gxx 14 [.agg (opF o)] (.tup [vs (jn (opW o)),vi 0]):=by
 have h1:=cO o ok.oct (by have:=ok.names;omega) (by have:=ok.items;omega)
 rw[hv] at h1
 have e:opW o=[114,101,97,100]::ak o.hnd::ak o.idx::lY o.qk o.qkey o.qc o.qn o.qd:=by simp [opW,hk]
 have htot:=dM o ok
 rw[e] at htot ⊢
 have hprm:=abv o.qk o.qkey o.qc o.qn o.qd (gm (by omega) hv) ok.qkey ok.qc ok.qn ok.qd
 have hw:=Sj o.qk o.qkey o.qc o.qn o.qd
 have hjj:jn ([114,101,97,100]::ak o.hnd::ak o.idx::lY o.qk o.qkey o.qc o.qn o.qd)=jn [[114,101,97,100],ak o.hnd,ak o.idx,jn (lY o.qk o.qkey o.qc o.qn o.qd)]:=Pz [[114,101,97,100],ak o.hnd,ak o.idx] hw
 have h_hnd:=jX o.hnd ok.hnd
 have h_idx:=jX o.idx ok.idx
 rw[hjj]
 have hws:=dR [[114,101,97,100],ak o.hnd,ak o.idx,jn (lY o.qk o.qkey o.qc o.qn o.qd)] (by have:=PD (lY o.qk o.qkey o.qc o.qn o.qd);simp only[bz,dL] at *;omega)
 obtain⟨kind,name,other,names,pk,pz,pd,ps,items,coins,exp,src,hnd,idx,cur,cnt,qk,qkey,qc,qn,qd,data⟩:=o
 simp only at *
 subst hk
 clear hv ok
 refine gI oD Tryz.func14 Tryz.results14 ?_
 exact wRA (aI @akm @ai) (aI h1 (aI hprm (aI h_hnd (aI h_idx hws)))) ah
theorem acK(o:O)(ok:o.Ok)(hk:o.kind=11)(hv:vop o=0):Gxx 14 [.agg (opF o)] (.tup [vs (jn (opW o)),vi 0]):=by
 have h1:=cO o ok.oct (by have:=ok.names;omega) (by have:=ok.items;omega)
 rw[hv] at h1
 have e:opW o=[99,108,111,115,101]::ak o.hnd::[]:=by simp [opW,hk]
 have htot:=dM o ok
 rw[e] at htot ⊢
 have h_hnd:=jX o.hnd ok.hnd
 have hws:=dR [[99,108,111,115,101],ak o.hnd] (by skip;simp only[bz,dL] at *;omega)
 obtain⟨kind,name,other,names,pk,pz,pd,ps,items,coins,exp,src,hnd,idx,cur,cnt,qk,qkey,qc,qn,qd,data⟩:=o
 simp only at *
 subst hk
 clear hv ok
 refine gI oD Tryz.func14 Tryz.results14 ?_
 exact wRA (aI @akn @ai) (aI h1 (aI h_hnd hws)) ah
theorem acL(o:O)(ok:o.Ok)(hk:o.kind=12)(hv:vop o=0):Gxx 14 [.agg (opF o)] (.tup [vs (jn (opW o)),vi 0]):=by
 have h1:=cO o ok.oct (by have:=ok.names;omega) (by have:=ok.items;omega)
 rw[hv] at h1
 have e:opW o=[99,117,114,115,111,114]::ak o.hnd::ak o.idx::[]:=by simp [opW,hk]
 have htot:=dM o ok
 rw[e] at htot ⊢
 have h_hnd:=jX o.hnd ok.hnd
 have h_idx:=jX o.idx ok.idx
 have hws:=dR [[99,117,114,115,111,114],ak o.hnd,ak o.idx] (by skip;simp only[bz,dL] at *;omega)
 obtain⟨kind,name,other,names,pk,pz,pd,ps,items,coins,exp,src,hnd,idx,cur,cnt,qk,qkey,qc,qn,qd,data⟩:=o
 simp only at *
 subst hk
 clear hv ok
 refine gI oD Tryz.func14 Tryz.results14 ?_
 exact wRA (aI @ako @ai) (aI h1 (aI h_hnd (aI h_idx hws))) ah
theorem acM(o:O)(ok:o.Ok)(hk:o.kind=13)(hv:vop o=0):Gxx 14 [.agg (opF o)] (.tup [vs (jn (opW o)),vi 0]):=by
 have h1:=cO o ok.oct (by have:=ok.names;omega) (by have:=ok.items;omega)
 rw[hv] at h1
 have e:opW o=[110,101,120,116]::ak o.cur::ak o.cnt::[]:=by simp [opW,hk]
 have htot:=dM o ok
 rw[e] at htot ⊢
 have h_cur:=jX o.cur ok.cur
 have h_cnt:=jX o.cnt ok.cnt
 have hws:=dR [[110,101,120,116],ak o.cur,ak o.cnt] (by skip;simp only[bz,dL] at *;omega)
 obtain⟨kind,name,other,names,pk,pz,pd,ps,items,coins,exp,src,hnd,idx,cur,cnt,qk,qkey,qc,qn,qd,data⟩:=o
 simp only at *
 subst hk
 clear hv ok
 refine gI oD Tryz.func14 Tryz.results14 ?_
 exact wRA (aI @akp @ai) (aI h1 (aI h_cur (aI h_cnt hws))) ah
theorem acN(o:O)(ok:o.Ok)(hk:o.kind=14)(hv:vop o=0):Gxx 14 [.agg (opF o)] (.tup [vs (jn (opW o)),vi 0]):=by
 have h1:=cO o ok.oct (by have:=ok.names;omega) (by have:=ok.items;omega)
 rw[hv] at h1
 have e:opW o=[101,110,100]::ak o.cur::[]:=by simp [opW,hk]
 have htot:=dM o ok
 rw[e] at htot ⊢
 have h_cur:=jX o.cur ok.cur
 have hws:=dR [[101,110,100],ak o.cur] (by skip;simp only[bz,dL] at *;omega)
 obtain⟨kind,name,other,names,pk,pz,pd,ps,items,coins,exp,src,hnd,idx,cur,cnt,qk,qkey,qc,qn,qd,data⟩:=o
 simp only at *
 subst hk
 clear hv ok
 refine gI oD Tryz.func14 Tryz.results14 ?_
 exact wRA (aI @akq @ai) (aI h1 (aI h_cur hws)) ah
theorem acO(o:O)(ok:o.Ok)(hk:o.kind=15)(hv:vop o=0):Gxx 14 [.agg (opF o)] (.tup [vs (jn (opW o)),vi 0]):=by
 have h1:=cO o ok.oct (by have:=ok.names;omega) (by have:=ok.items;omega)
 rw[hv] at h1
 have e:opW o=[101,120,112,111,114,116]::ak o.hnd::ak o.idx::[]:=by simp [opW,hk]
 have htot:=dM o ok
 rw[e] at htot ⊢
 have h_hnd:=jX o.hnd ok.hnd
 have h_idx:=jX o.idx ok.idx
 have hws:=dR [[101,120,112,111,114,116],ak o.hnd,ak o.idx] (by skip;simp only[bz,dL] at *;omega)
 obtain⟨kind,name,other,names,pk,pz,pd,ps,items,coins,exp,src,hnd,idx,cur,cnt,qk,qkey,qc,qn,qd,data⟩:=o
 simp only at *
 subst hk
 clear hv ok
 refine gI oD Tryz.func14 Tryz.results14 ?_
 exact wRA (aI @akr @ai) (aI h1 (aI h_hnd (aI h_idx hws))) ah
theorem acP(o:O)(ok:o.Ok)(hk:o.kind=16)(hv:vop o=0):Gxx 14 [.agg (opF o)] (.tup [vs (jn (opW o)),vi 0]):=by
 have h1:=cO o ok.oct (by have:=ok.names;omega) (by have:=ok.items;omega)
 rw[hv] at h1
 have e:opW o=[105,109,112,111,114,116]::o.name::fb o.data::[]:=by simp [opW,hk]
 have htot:=dM o ok
 rw[e] at htot ⊢
 have hfb:=yT o.data ok.oct.2.2.2.2.2.2 (by have:=ok.data;omega)
 have hws:=dR [[105,109,112,111,114,116],o.name,fb o.data] (by skip;simp only[bz,dL] at *;omega)
 obtain⟨kind,name,other,names,pk,pz,pd,ps,items,coins,exp,src,hnd,idx,cur,cnt,qk,qkey,qc,qn,qd,data⟩:=o
 simp only at *
 subst hk
 clear hv ok
 refine gI oD Tryz.func14 Tryz.results14 ?_
 exact wRA (aI @aks @ai) (aI h1 (aI hfb hws)) ah
theorem acQ(o:O)(ok:o.Ok)(hk:o.kind=17)(hv:vop o=0):Gxx 14 [.agg (opF o)] (.tup [vs (jn (opW o)),vi 0]):=by
 have h1:=cO o ok.oct (by have:=ok.names;omega) (by have:=ok.items;omega)
 rw[hv] at h1
 have e:opW o=[99,111,108,108,101,99,116]::[]:=by simp [opW,hk]
 have htot:=dM o ok
 rw[e] at htot ⊢
 rw[show jn [[99,111,108,108,101,99,116]]=[99,111,108,108,101,99,116] from rfl]
 obtain⟨kind,name,other,names,pk,pz,pd,ps,items,coins,exp,src,hnd,idx,cur,cnt,qk,qkey,qc,qn,qd,data⟩:=o
 simp only at *
 subst hk
 clear hv ok
 refine gI oD Tryz.func14 Tryz.results14 ?_
 exact wRA (aI @akt @ai) h1 ah
theorem agV(o:O)(ok:o.Ok)(hk:o.kind=6)(hv:vop o=0):Gxx 14 [.agg (opF o)] (.tup [vs (jn (opW o)),vi 0]):=by
 have h1:=cO o ok.oct (by have:=ok.names;omega) (by have:=ok.items;omega)
 rw[hv] at h1
 have e:opW o=qU o:=by simp [opW,hk]
 have hfb:=yT o.coins ok.oct.2.2.2.2.1 (by have:=ok.coins;omega)
 have hits:∀x∈o.items,oct x.1∧fH x.1=true∧Wt x.2:=fun x hx=>⟨ok.oct.2.2.2.1 x hx,((IL hk hv).2 x hx).1,ok.wts x hx⟩
 have hil:=ok.items
 have hwt:=ok.wts
 have hp1:=ok.name
 have hp2:=uT o.coins
 have hp3:=ok.coins
 rw[e]
 unfold qU
 have hpt:tot [[105,110,115,101,114,116],o.name,fb o.coins]≤10000:=by simp only[bz,dL,List.length_cons,List.length_nil];omega
 have hw0:=dR [[105,110,115,101,114,116],o.name,fb o.coins] (by omega)
 obtain⟨kind,name,other,names,pk,pz,pd,ps,items,coins,exp,src,hnd,idx,cur,cnt,qk,qkey,qc,qn,qd,data⟩:=o
 simp only at *
 subst hk
 clear hv ok e hp1 hp2 hp3
 refine gI oD Tryz.func14 Tryz.results14 ?_
 refine wSA (aI @amC @ai) (aI h1 (aI hfb hw0)) ?_
 generalize hpre:([[105,110,115,101,114,116],name,fb coins]:List (List Nat))=pre at *
 have hne:pre≠[]:=by rw[←hpre];simp
 refine aK (fun i:Nat=>mkA [(1,.ref 0 0),(5,vs (jn (pre++lL (items.take i)))),(6,vi i)] [(0,(32,opF ⟨6,name,other,names,pk,pz,pd,ps,items,coins,exp,src,hnd,idx,cur,cnt,qk,qkey,qc,qn,qd,data⟩))] 1 (fun _ => .top)) (fun i=>i≤items.length) (fun i=>items.length-i) 0 [] [0] ?_ (Nat.zero_le _) ?_
 ·refine kL ?_
  all_goals first|exact GI rfl rfl|exact gq (by simp [lL])
 ·intro i hi
  replace hi:i≤items.length:=hi
  rcases Nat.lt_or_ge i items.length with hlt|hge
  ·have hg:=sS items i hlt
   have hx:=getD_some items i ([],0) hlt
   have hmem:items.getD i ([],0)∈items:=by rw[List.getD_eq_getElem?_getD,List.getElem?_eq_getElem hlt];exact List.getElem_mem hlt
   have hit:=hits _ hmem
   have hnx:=Gl items i _ hx
   have ht1:=yQ (items.take i) fun x hx=>hwt x (List.mem_of_mem_take hx)
   have ht2:(items.take i).length≤i:=by simp;omega
   generalize items.getD i ([],0)=x at hg hx hmem hit hnx
   obtain⟨k,n⟩:=x
   simp only at hit hnx
   have hl1:=zZ k
   have hl2:=dS hit.2.2
   have hl3:=xg (pre++lL (items.take i))
   rw[yw] at hl3
   have hw1:=dR [jn (pre++lL (items.take i)),kw k,ak n] (by simp only[bz,dL];omega)
   rw[ag7 (by simp [hne]),List.append_assoc,←hnx] at hw1
   clear hl1 hl2 hl3 ht1 ht2
   have hil2:=aB items
   refine wSA (aI @hg (aI @aB @ai)) (aI (PK k hit.1 hit.2.1) (aI (jX n hit.2.2) hw1)) ?_
   exact bE (i+1) [] [0] hlt
  ·have:i=items.length:=by omega
   subst this
   rw[List.take_length]
   refine wSA @aB trivial ?_
   (refine rT [] ?_;first|rfl|simp only[pgo,simprocAttr]|skip)
   rw[←hpre];rfl
theorem agW(o:O)(ok:o.Ok)(hk:o.kind=9)(hv:vop o=0):Gxx 14 [.agg (opF o)] (.tup [vs (jn (opW o)),vi 0]):=by
 have h1:=cO o ok.oct (by have:=ok.names;omega) (by have:=ok.items;omega)
 rw[hv] at h1
 have e:opW o=[[111,112,101,110]]++o.names:=by simp [opW,hk]
 have htn:=abk ok.names ok.nm
 have hnl:=ok.names
 rw[e]
 obtain⟨kind,name,other,names,pk,pz,pd,ps,items,coins,exp,src,hnd,idx,cur,cnt,qk,qkey,qc,qn,qd,data⟩:=o
 simp only at *
 subst hk
 clear hv ok e
 refine gI oD Tryz.func14 Tryz.results14 ?_
 refine wSA (aI @amF @ai) h1 ?_
 generalize hpre:([[111,112,101,110]]:List (List Nat))=pre at *
 have hne:pre≠[]:=by rw[←hpre];simp
 have hpt:tot pre≤10:=by rw[←hpre];decide
 refine aK (fun i:Nat=>mkA [(1,.ref 0 0),(7,vs (jn (pre++names.take i))),(8,vi i)] [(0,(32,opF ⟨9,name,other,names,pk,pz,pd,ps,items,coins,exp,src,hnd,idx,cur,cnt,qk,qkey,qc,qn,qd,data⟩))] 1 (fun _ => .top)) (fun i=>i≤names.length) (fun i=>names.length-i) 0 [] [0] ?_ (Nat.zero_le _) ?_
 ·refine kL ?_
  all_goals first|exact GI rfl rfl|exact gq (by rw[←hpre];rfl)
 ·intro i hi
  replace hi:i≤names.length:=hi
  rcases Nat.lt_or_ge i names.length with hlt|hge
  ·have hg:=iK names i hlt
   have hx:=getD_some names i [] hlt
   have hnx:names.take (i+1)=names.take i++[names.getD i []]:=by
    rw[List.take_succ_eq_append_getElem hlt];congr 1;simp [List.getD,hlt]
   have ht1:=KH names i
   have ht2:=KI names i
   have hl3:=xg (pre++names.take i)
   rw[yw] at hl3
   generalize names.getD i []=x at hg hx hnx ht2
   have hw1:=dR [jn (pre++names.take i),x] (by simp only[bz,dL];omega)
   rw[ag7 (by simp [hne]),List.append_assoc,←hnx] at hw1
   clear ht1 ht2 hl3
   have hil2:=au names
   refine wSA (aI @hg (aI @au @ai)) hw1 ?_
   exact bE (i+1) [] [0] hlt
  ·have:i=names.length:=by omega
   subst this
   rw[List.take_length]
   refine wSA @au trivial ?_
   (refine rT [] ?_;first|rfl|simp only[pgo,simprocAttr]|skip)
   rw[←hpre];rfl
def fmtO(o:O):List Nat:=if vop o=0 then jn (opW o) else []
theorem MR(o:O)(ok:o.Ok):Gxx 14 [.agg (opF o)] (.tup [vs (fmtO o),vi (vop o)]):=by
 unfold fmtO
 by_cases hv:vop o=0
 ·rw[if_pos hv,hv]
  rcases nU (k:=o.kind) (by have:=(bW hv).1;omega) with h|h|h|h|h|h|h|h|h|h|h|h|h|h|h|h|h
  ·exact agO o ok h hv
  ·exact agP o ok h hv
  ·exact agQ o ok h hv
  ·exact agR o ok h hv
  ·exact agS o ok h hv
  ·exact agV o ok h hv
  ·exact agT o ok h hv
  ·exact agU o ok h hv
  ·exact agW o ok h hv
  ·exact acJ o ok h hv
  ·exact acK o ok h hv
  ·exact acL o ok h hv
  ·exact acM o ok h hv
  ·exact acN o ok h hv
  ·exact acO o ok h hv
  ·exact acP o ok h hv
  ·exact acQ o ok h hv
 ·rw[if_neg hv]
  have h1:=cO o ok.oct (by have:=ok.names;omega) (by have:=ok.items;omega)
  generalize vop o=v at *
  refine gI oW Tryz.func14 Tryz.results14 ?_
  exact wR @ai h1 ah
theorem aqr{l:List (List Nat)}(h1:lsE l=0):l.length≤16∧∀x∈l,jW x=true:=by
 unfold lsE at h1
 split at h1
 ·cases h1
 ·rename_i h2
  exact⟨by omega,fun x hx=>oL (Eg nmE _ h1 x hx)⟩
theorem aqs{l:List (List Nat × Int)}(h1:itE l=0):l.length≤64:=by
 unfold itE at h1
 split at h1
 ·cases h1
 ·omega
theorem alQ(o:O)(hv:vop o=0):o.name.length≤16∧o.other.length≤16∧tot o.names≤1000∧o.items.length≤64∧o.coins.length≤64∧o.data.length≤65536:=by
 obtain⟨_,hu,hz⟩:=bW hv
 refine⟨?_, ?_, ?_, ?_, ?_, ?_⟩
 ·by_cases h:((0:Nat):Int)∈bJ o.kind
  ·exact Cc (oL (hu 0 (by omega) h))
  ·rw[oJ (hz 0 (by omega) h)];decide
 ·by_cases h:((1:Nat):Int)∈bJ o.kind
  ·exact Cc (oL (hu 1 (by omega) h))
  ·rw[oJ (hz 1 (by omega) h)];decide
 ·by_cases h:((2:Nat):Int)∈bJ o.kind
  ·obtain⟨h1,h2⟩:=aqr (hu 2 (by omega) h)
   have h3:=FX (l:=o.names) (n:=16) (fun x hx=>Cc (h2 x hx))
   have h4:=Nat.mul_le_mul_right 17 h1
   omega
  ·rw[oJ (hz 2 (by omega) h)];decide
 ·by_cases h:((4:Nat):Int)∈bJ o.kind
  ·exact aqs (hu 4 (by omega) h)
  ·rw[oJ (hz 4 (by omega) h)];decide
 ·by_cases h:((5:Nat):Int)∈bJ o.kind
  ·have:=Qn (hu 5 (by omega) h);omega
  ·rw[oJ (hz 5 (by omega) h)];decide
 ·by_cases h:((13:Nat):Int)∈bJ o.kind
  ·have:=Qn (hu 13 (by omega) h);omega
  ·rw[oJ (hz 13 (by omega) h)];decide
theorem aqU(o:O)(ok:o.Ok)(hv:vop o=0):(jn (opW o)).length≤1000000:=by
 refine Nat.le_trans (xg _) ?_
 obtain⟨h11,h12,h13,h15,h16,h17⟩:=alQ o hv
 have h1:=LU o.pk o.pz o.pd o.ps ok.pz ok.pd ok.ps
 have h2:=LV o.qk o.qkey o.qc o.qn o.qd ok.qc ok.qn ok.qd
 have h3:=uT o.coins
 have h4:=uT o.data
 have h5:=dS ok.exp
 have h6:=dS ok.src
 have h7:=dS ok.hnd
 have h8:=dS ok.idx
 have h9:=dS ok.cur
 have h10:=dS ok.cnt
 have h14:=yQ o.items ok.wts
 unfold opW qU
 (repeat' refine abl ?_ ?_)<;>(try simp only[yw,bz,dL,List.length_cons,List.length_nil])<;>omega
theorem acS(o:O)(ok:o.Ok)(hv:vop o=0):oct (jn (opW o)):=aiG fun x hx=>(dX o ok hv x hx).1
def lszOk(o:O):Prop:=o.names.length≤20∧o.items.length≤70∧o.name.length≤100∧o.other.length≤100∧o.coins.length≤100∧o.data.length≤1000∧o.qkey.length≤100
instance (o:O):Decidable (lszOk o):=by unfold lszOk;infer_instance
structure O.In (o:O):Prop where
 oct:o.Oct
 kind:Wt o.kind
 pk:Wt o.pk
 pz:Wt o.pz
 pd:Wt o.pd
 ps:0≤o.ps∧o.ps<18446744073709551616
 exp:Wt o.exp
 src:Wt o.src
 hnd:Wt o.hnd
 idx:Wt o.idx
 cur:Wt o.cur
 cnt:Wt o.cnt
 qk:Wt o.qk
 qc:Wt o.qc
 qn:Wt o.qn
 qd:Wt o.qd
 wts:∀x∈o.items,Wt x.2
structure Sp (x:O) (C:List V):Prop where
 f1:Gxx 13 [.agg C] (.tup [vs (fmtO x),vi (vop x)])
 f2:Gxx 14 [.agg C] (.tup [vs (fmtO x),vi (vop x)])
 w1:vop x=0→Gxx 16 [vs (fmtO x)] (.sl (.own 0 9) 1 (sv (opW x)))
 p1:vop x=0→Gxx 15 [fzs (opW x)] (.tup [.agg (opF x),vi 0])
 s1:Gxx 17 [.agg C,.agg (opF x)] (vb true)
end Go.Proofs.YtjiolbcdfgclaaaGreatDoor
section
namespace Go.Pg
open Go Go.ChangeShapes Go.WideShapes
theorem ao4{w:World}{g o:Nat}{vs:List Value}(hp:0<vs.length)(h:∀i,i<vs.length→w.cell? ⟨g,o+i,none⟩=vs[i]?):Pg.Row w g o vs:=by
 have h0:=h 0 hp
 rw[List.getElem?_eq_getElem hp] at h0
 unfold World.cell? at h0
 split at h0
 ·rename_i arr e fr hg
  refine⟨arr,e,fr,hg, ?_⟩
  apply List.ext_getElem?
  intro i
  rw[List.getElem?_take]
  split
  ·rename_i hi
   have hi':=h i hi
   unfold World.cell? at hi'
   simp only[hg] at hi'
   rw[List.getElem?_drop,Array.getElem?_toList]
   simpa using hi'
  ·rename_i hi
   rw[List.getElem?_eq_none (by omega)]
 ·cases h0
section
variable {H:Type} {enc:TypeId × Value→H} {P:Program} {w:World} {base:Nat} {spare:Nat→Bool} {held:Bool}
structure Elem (enc:TypeId × Value→H) (P:Program) (w:World) (base:Nat) (spare:Nat→Bool) (held:Bool) (e:TypeId) (k:Nat) {α:Type} (Ok:α→Prop) (el:α→V) (elc:α→List Value):Prop where
 pos:0<k
 cells:P.cellsOf e=k
 len:∀a,(elc a).length=k
 get:∀n cs x,DataW.trod enc P w base spare held n e cs=some x→∃a,Ok a∧cs=elc a
 rep:∀a L w',∃u:Value,u.cells.toList=elc a∧u.cells.size=k∧((el a).free=true∧u.cells.toList.all Value.oneCell'=true)∧Rep L w' (el a) u
theorem Elem.repE{e:TypeId}{k:Nat}{α:Type}{Ok:α→Prop}{el:α→V}{elc:α→List Value}(E:Elem enc P w base spare held e k Ok el elc)(L:Lay)(w':World):∀l:List α,RepE L w' k (l.map el) (l.map elc).flatten:=by
 intro l
 induction l with
 | nil=>rfl
 | cons a l ih =>
  obtain⟨u,h1,h2,h3,h4⟩:=E.rep a L w'
  exact⟨u,(l.map elc).flatten,by rw[h1];rfl,h2,h3,h4,ih⟩
theorem ao9{t e:TypeId}{k:Nat}{α:Type}{Ok:α→Prop}{el:α→V}{elc:α→List Value}(E:Elem enc P w base spare held e k Ok el elc)(ht:P.underlying t=some (.slice e)){fuel:Nat}{cs:List Value}{x:DataW H × List MemPlace}(h:DataW.trod enc P w base spare held fuel t cs=some x) :
  ∃l:List α,(∀a∈l,Ok a)∧∃u,cs=[u]∧Rep ⟨fun g=>g<w.heap.size,fun _=>none,fun _=>none⟩ w (.sl .fz k (l.map el)) u:=by
 rcases DataW.trod_slice ht h with ⟨rfl,_⟩|⟨a,len,cap,elems,rest,n,_,rfl,rfl,hb,hl,hm,hlen,hel,_,_⟩
 ·exact⟨[],(fun a h=>by cases h),_,rfl,none,0,[],rfl,rfl,Nat.le_refl _,.inl rfl⟩
 have each:∀i,i<len→∃y:α,Ok y∧w.cells? base (a.add (i*k)) k=some (elc y):=by
  intro i hi
  have h1:=hel i hi
  rw[E.cells,List.getElem?_eq_getElem (by omega),Option.bind_eq_some_iff] at h1
  obtain⟨cs',h2,h3⟩:=h1
  obtain⟨y,hy,rfl⟩:=E.get _ _ _ h3
  exact⟨y,hy,h2⟩
 rcases Nat.eq_zero_or_pos len with hz|hz
 ·subst hz
  exact⟨[],(fun a h=>by cases h),_,rfl,some a,cap,[],rfl,rfl,Nat.zero_le _,.inl rfl⟩
 obtain⟨g,o,spot⟩:=a
 have hspot:spot=none:=by
  obtain⟨y,hy,hc⟩:=each 0 hz
  obtain⟨hcb,hcl,hcc⟩:=World.cells?_some hc
  have h5:=hcc 0 E.pos
  rw[List.getElem?_eq_getElem (by rw[hcl];exact E.pos)] at h5
  have:=World.cell?_spot h5
  simpa [Addr.add] using this
 subst hspot
 have main:∀m,m≤len→∃l:List α,l.length=m∧(∀y∈l,Ok y)∧((l.map elc).flatten).length=m*k∧∀j,j<m*k→w.cell? ((⟨g,o,none⟩:Addr).add j)=((l.map elc).flatten)[j]?:=by
  intro m
  induction m with
  | zero=>intro _;exact⟨[],rfl,(fun y h=>by cases h),by simp,fun j hj=>by omega⟩
  | succ m ih =>
   intro hm'
   obtain⟨l,h1,h2,h3,h4⟩:=ih (by omega)
   obtain⟨y,hy,hc⟩:=each m (by omega)
   obtain⟨hcb,hcl,hcc⟩:=World.cells?_some hc
   have hyl:=E.len y
   refine⟨l++[y],by simp [h1], ?_, ?_, ?_⟩
   ·intro z hz
    rcases List.mem_append.1 hz with hz|hz
    ·exact h2 z hz
    ·rw[List.mem_singleton.1 hz];exact hy
   ·rw[List.map_append,List.flatten_append,List.length_append,h3,Nat.add_mul]
    simp [hyl]
   ·intro j hj
    rw[Nat.add_mul,Nat.one_mul] at hj
    rw[List.map_append,List.flatten_append]
    rcases Nat.lt_or_ge j (m*k) with hlt|hge
    ·rw[List.getElem?_append_left (by omega)];exact h4 j hlt
    ·rw[List.getElem?_append_right (by omega),h3]
     have h5:=hcc (j-m*k) (by omega)
     have e1:((⟨g,o,none⟩:Addr).add (m*k)).add (j-m*k)=(⟨g,o,none⟩:Addr).add j:=by
      rw[Pg.kU,Pg.kU,Pg.kU,Nat.add_assoc,Nat.add_sub_cancel' hge]
     rw[e1] at h5
     simpa using h5
 obtain⟨l,h1,h2,h3,h4⟩:=main len (Nat.le_refl _)
 refine⟨l,h2,_,rfl,some ⟨g,o,none⟩,cap,(l.map elc).flatten,by rw[List.length_map,h1],E.repE _ _ l, ?_⟩
 rw[List.length_map,h1]
 refine⟨hl, ?_⟩
 rcases Nat.eq_zero_or_pos len with h0|h0
 ·exact .inl h0
 ·right
  have hpos:0<len*k:=Nat.mul_pos h0 E.pos
  have hrow:Pg.Row w g o (l.map elc).flatten:=by
   refine ao4 (by omega) (fun i hi => ?_)
   have:=h4 i (by omega)
   rw[Pg.kU] at this
   exact this
  refine⟨g,o,rfl, ?_,hrow⟩
  obtain⟨arr,e',fr,hg,_⟩:=hrow
  exact (Array.getElem?_eq_some_iff.1 hg).1
end
end Go.Pg
end
section
namespace Go.Proofs.YtjiolbcdfgclaaaGreatDoor
open Go Go.ChangeShapes Go.WideShapes Go.ChangeAt Go.RowKit
theorem own:ownKnob Tryz.prog.godebug=none:=by kernel_rfl
theorem aoO:laidOutB Tryz.prog=true:=by kernel_rfl
theorem apa:Tryz.prog.globalNamed "internal/strconv.uint64pow10" = some 0:=by kernel_rfl
theorem apb:(Tryz.prog.globals[0]?).map (·.type)=some 256:=by kernel_rfl
theorem apc:Tryz.prog.cellsOf 256=20:=by kernel_rfl
theorem apd:Tryz.prog.cellsOf 24=1:=by kernel_rfl
theorem ape:(Rows.laid_internal_strconv_uint64pow10:DataW Unit)=Lib.tabData .u64 Lib.pow10Tab:=by kernel_rfl
theorem gBr:Tryz.prog.globalNamed "math/bits.deBruijn64tab" = some 3:=by kernel_rfl
theorem tBr:(Tryz.prog.globals[3]?).map (·.type)=some 283:=by kernel_rfl
theorem cBr:Tryz.prog.cellsOf 283=64:=by kernel_rfl
theorem cBe:Tryz.prog.cellsOf 5=1:=by kernel_rfl
theorem brD:(Rows.laid_math_bits_deBruijn64tab:DataW Unit)=Lib.tabData .u8 bruijn:=by kernel_rfl
theorem aoL{W:World}(h:W.ShapedOpen Tryz.prog):∃m,W.cell? ⟨1,0,none⟩=some (.int .i64 m) :=
 cell_of_shapedOpen_int (zero:=#[.int .i64 0]) (t:=3) h (of_decide_eq_true (by kernel_rfl)) (by kernel_rfl) rfl (by kernel_rfl) (by kernel_rfl) Tryz.underlying3
theorem aj9 : "*" ++ "errors.errorString" = "*errors.errorString" := by decide
theorem aqt(u:TypeId)(h:Tryz.prog.typeName? 3 u=some "*errors.errorString"):u=291 :=
 typeName_ptr_named (nm := "errors.errorString") (by rw[aj9];kernel_rfl) (by kernel_rfl) (by decide) u (by rw[aj9];exact h)
theorem Qo{n:String}{text:List UInt8}{r:List (String × DataW Unit)}{W:World}{g:Nat}(h:laidMet Tryz.prog ((n,.iface "*errors.errorString" (.ptr (.agg [.lit (.string text)])))::r) W)(hg:Tryz.prog.globalNamed n=some g)(ht:(Tryz.prog.globals[g]?).map (·.type)=some 117):∃t v,W.cell? ⟨g,0,none⟩=some (.iface t v):=by
 obtain⟨a,s,h1,_⟩:=laid_sentinel h hg ht Tryz.underlying117 (aqt) Tryz.underlying291 Tryz.underlying293 rfl rfl Tryz.underlying9 (by kernel_rfl) (by kernel_rfl)
 exact⟨_,_,by simpa using World.var?_cell hg h1 0⟩
theorem aoE{W:World}{n1 n4:String}{d1 d4:DataW Unit}{rest:List (String × DataW Unit)}(h:laidMet Tryz.prog ((n1,d1)::("math/bits.deBruijn64tab",Rows.laid_math_bits_deBruijn64tab)::("internal/strconv.uint64pow10",Rows.laid_internal_strconv_uint64pow10)::(n4,d4)::("strconv.ErrRange",Rows.laid_strconv_ErrRange)::("strconv.ErrSyntax",Rows.laid_strconv_ErrSyntax)::rest) W)(hsh:W.ShapedOpen Tryz.prog):Pg.Tb.T Tryz.prog W:=by
 have h1:=h.tail
 have h2:=h.tail.tail
 have h4:=h.tail.tail.tail.tail
 rw[ape] at h2
 rw[brD] at h1
 exact⟨Lib.tabIs_of_head apa apb Tryz.underlying256 Tryz.underlying24 apd apc h2,aoL hsh,Lib.tabIs_of_head gBr tBr Tryz.underlying283 Tryz.underlying5 cBe cBr h1,Qo h4.tail (by kernel_rfl) (by kernel_rfl),Qo h4 (by kernel_rfl) (by kernel_rfl)⟩
theorem aox{n:Int}(h:(Lit.int .i64 n).wf=true):Wt n:=by
 simp only[Lit.wf,Bool.and_eq_true,decide_eq_true_eq] at h
 have e1:IntKind.i64.min = -9223372036854775808:=rfl
 have e2:IntKind.i64.max=9223372036854775807:=rfl
 rw[e1,e2] at h
 exact h
theorem ao6{W W':World}(hk:Pg.Kp (fun _=>False) W.heap.size W W'):Below W.heap.size W W':=⟨hk.os,hk.tape,hk.output,hk.size,fun k h=>hk.block k h (fun h=>h)⟩
section
variable {H:Type} {enc:TypeId × Value→H}
theorem aoA{a:Assume}{C:Checked}{os:Os}{f:FuncId}{fn:Func}{s:ChangeSpec}{conds:List PathCond}{apart fresh handsOn again:Bool}{X:World→Array Value→Prop}
  (hX:∀(w w':World) (args:Array Value),w.heap=w'.heap→X w args→X w' args)
  (own:ownKnob C.prog.godebug=none) (started:os.Started) (noInit:C.prog.inits.idxOf? f=none) (hfn:C.prog.funcs[f]?=some fn)
  (witness:∃(w:World) (tape:Tape) (i:Input),w.os=os∧(w.forCall tape i).Shaped C.prog∧i.vars=[]∧Input.okWide C.prog (w.forCall tape i) .any w.heap.size f i ∧
   ((s.pre enc C.prog fn conds apart (w.forCall tape i).memory i.args∧X (w.forCall tape i).memory i.args)∧sizedMet enc C.prog fn (OpenSpec.ofChange s) apart (w.forCall tape i).memory i.args)∧a.holds C.prog (lone (Frame.enter C.prog f i.args .normal) [] (w.forCall tape i)))
  (contract:∀(W:World) (base:Nat) (args:Array Value) (ds gs:List (DataW H)) (before:List MemPlace),
   (∀(j:Nat) t v,fn.params[j]?=some t→args[j]?=some v→Value.okWide C.prog W .any base t v) →
   DataW.Whole enc C.prog fn.params.toList s.vars apart W args.toList ds gs before →
   X W args→W.ShapedOpen C.prog →
   Calls C.prog f args W fun e W'=>∃v,e = .returned v∧s.post enc C.prog fn apart fresh handsOn again W args v W') :
  ReturnsInHanded a C os f .any (fun w args=>(s.pre enc C.prog fn conds apart w args∧X w args)∧sizedMet enc C.prog fn (OpenSpec.ofChange s) apart w args) (s.post enc C.prog fn apart fresh handsOn again):=by
 refine returnsInHanded_of_calls own started noInit witness ?_
 intro w tape i _ hsh _ hok hpre _
 obtain⟨_,_,_,fn',hfn',_,_,_,_,hval⟩:=hok
 have e:fn'=fn:=Option.some.inj (hfn'.symm.trans hfn)
 subst e
 obtain⟨⟨⟨ds,gs,before,hw,_⟩,hx⟩,_⟩:=hpre
 have hw':=DataW.Whole.of_heap (w':=w.forCall tape i) (by rfl) hw
 refine (contract (w.forCall tape i) w.heap.size i.args ds gs before hval hw' (hX _ _ _ (by rfl) hx) hsh).mono fun e W' ⟨v,he,hp⟩ => ?_
 subst he
 exact ChangeSpec.post_blind hp
end
end Go.Proofs.YtjiolbcdfgclaaaGreatDoor
end
