/-
  Texts of this claim, merged; own names are short.
-/
import Derived.Test.YtjiolbcdfgclaaaGreatDoorWAV
import Derived.Test.YtjiolbcdfgclaaaGreatDoorWAQ
import Derived.Test.YtjiolbcdfgclaaaGreatDoorWAM
set_option linter.unusedVariables false
set_option linter.unusedSimpArgs false
set_option linter.unusedSectionVars false
set_option linter.defProp false
set_option maxRecDepth 100000
set_option maxHeartbeats 8000000
namespace Go.Proofs.YtjiolbcdfgclaaaGreatDoor
open Go Go.Pg
theorem GN(n:Nat):oct (ae n):=nK (by omega)
theorem MQ(n:Nat):(ae n).length≤1000:=by simp [ae]
theorem agL(n:Nat):Wt (iO n).z∧Wt (iO n).d:=by
 unfold iO Wt
 (repeat' split)<;>simp only<;>omega
theorem Td(n:Nat):oct (dA n).2.1∧Wt (dA n).2.2.1∧Wt (dA n).2.2.2.1∧Wt (dA n).2.2.2.2:=by
 unfold dA Wt
 (repeat' split)<;>refine⟨?_, ?_⟩<;>first|exact dV|exact (II _).1|(simp only;omega)
theorem agM(n:Nat):oct (uj n).2.1∧Wt (uj n).2.2.1∧Wt (uj n).2.2.2.1∧Wt (uj n).2.2.2.2:=by
 obtain⟨h1,h2,h3,h4⟩:=Td n
 have ha:∀k,oct (aqL.getD k []):=by
  intro k
  rcases Nat.lt_or_ge k aqL.length with h|h
  ·have:∀x∈aqL,(x.all fun b=>decide (b<256))=true:=by decide
   exact jI _ (this _ (jS _ _ _ h))
  ·rw[List.getD,List.getElem?_eq_none h];exact dV
 unfold uj
 (repeat' split)
 ·exact⟨h1,h2,h3,h4⟩
 ·exact⟨ha _,h2,h3,h4⟩
 ·exact⟨h1,⟨by simp only;omega,by simp only;omega⟩,h3,h4⟩
 ·exact⟨h1,h2,⟨by simp only;omega,by simp only;omega⟩,⟨by simp only;omega,by simp only;omega⟩⟩
 ·exact⟨h1,h2,h3,⟨by simp only;omega,by simp only;omega⟩⟩
 ·exact⟨h1,h2,h3,h4⟩
theorem wtZ:Wt 0:=⟨by decide,by decide⟩
theorem sZ:(0:Int)≤0∧(0:Int)<18446744073709551616:=⟨by decide,by decide⟩
theorem lsZ(P:List Nat→Prop):∀x∈([]:List (List Nat)),P x:=fun x h=>by cases h
theorem itZ(P:List Nat × Int→Prop):∀x∈([]:List (List Nat × Int)),P x:=fun x h=>by cases h
theorem wtN(n k:Nat)(h:k≤65536)(h0:0<k):Wt ((n%k:Nat):Int):=by
 have:=Nat.mod_lt n h0
 exact⟨by omega,by omega⟩
def OK3(o:O):Prop:=o.Ok∧o.names.length≤3∧o.items.length≤8
theorem akj{p:Prop}[Decidable p]{a b:O}(h1:OK3 a)(h2:OK3 b):OK3 (if p then a else b):=by split<;>assumption
theorem amv{p:Prop}[Decidable p]{a b:O}(h1:a.Ok)(h2:b.Ok):(if p then a else b).Ok:=by split<;>assumption
theorem akk(n m:Nat)(its:List (List Nat × Int))(da:List Nat)(hi:∀x∈its,oct x.1∧Wt x.2)(hil:its.length≤8)(hd:oct da)(hdl:da.length≤1000000):(opN n m its da).Ok∧(opN n m its da).names.length≤3∧(opN n m its da).items.length≤8:=by
 obtain⟨p1,p2⟩:=agL m
 have p3:=PS m
 obtain⟨q1,q2,q3,q4⟩:=Td m
 obtain⟨c1,c2,_⟩:=Gv (m:Int)
 have hn3:∀x∈[ae (n / 32),ae (n / 128),ae (n / 256)].take (1+n / 1024%2+n / 2048%2),oct x∧x.length≤1000:=by
  intro x hx
  have:=List.mem_of_mem_take hx
  simp only[List.mem_cons,List.not_mem_nil,or_false] at this
  rcases this with rfl|rfl|rfl<;>exact⟨GN _,MQ _⟩
 have hl3:([ae (n / 32),ae (n / 128),ae (n / 256)].take (1+n / 1024%2+n / 2048%2)).length≤3:=by rw[List.length_take];exact Nat.min_le_right _ _
 have w1:Wt (1+((m%8:Nat):Int)):=⟨by omega,by omega⟩
 have w2:Wt (1+((m / 8%8:Nat):Int)):=⟨by omega,by omega⟩
 unfold opN
 show OK3 _
 (repeat' refine akj ?_ ?_)
 all_goals refine⟨⟨⟨?_, ?_, ?_, ?_, ?_, ?_, ?_⟩, ?_, ?_, ?_, ?_, ?_, ?_, ?_, ?_, ?_, ?_, ?_, ?_, ?_, ?_, ?_, ?_, ?_, ?_, ?_, ?_⟩, ?_, ?_⟩
 all_goals first
  | exact dV|exact wtZ|exact sZ|exact lsZ _|exact itZ _|exact GN _|exact MQ _|exact Nat.zero_le _
  | exact p1|exact p2|exact p3|exact q1|exact q2|exact q3|exact q4|exact c1|exact w1|exact w2
  | exact fun x hx=>(hi x hx).1|exact fun x hx=>(hi x hx).2|exact hil|exact hd|exact hdl
  | exact fun x hx=>(hn3 x hx).1|exact fun x hx=>(hn3 x hx).2|exact hl3|exact Nat.le_trans hl3 (by decide)|exact Nat.le_trans hil (by decide)|exact Nat.le_trans c2 (by decide)
  | exact wtN _ _ (by decide) (by decide)
theorem akl(l:List Int)(i:Nat):(jl l i).Ok∧(jl l i).names.length≤3∧(jl l i).items.length≤8:=by
 obtain⟨e1,e2⟩:=af0 _ (EH (l.drop (min l.length (i%7))))
 refine akk _ _ _ _ (fun x hx => ?_) (by rw[tN];omega) e1 (by omega)
 refine⟨xn _ _ x hx, ?_⟩
 obtain⟨j,_,rfl⟩:=List.mem_map.1 hx
 have:=al8 (atN (l.drop (min l.length (i%5))) j)
 exact⟨by show -9223372036854775808≤wB _;omega,by show wB _≤9223372036854775807;omega⟩
theorem Jc(L:List (List Nat))(h:(L.all fun x=>x.all fun b=>decide (b<256))=true)(hl:(L.all fun x=>decide (x.length≤1000))=true)(k:Nat):oct (L.getD k [])∧(L.getD k []).length≤1000:=by
 rcases Nat.lt_or_ge k L.length with hk|hk
 ·have hm:=jS L k [] hk
  exact⟨jI _ (List.all_eq_true.1 h _ hm),of_decide_eq_true (List.all_eq_true.1 hl _ hm)⟩
 ·rw[List.getD,List.getElem?_eq_none hk];exact⟨dV,Nat.zero_le _⟩
theorem acA(n:Nat):oct (List.replicate n 0):=fun b hb=>by rw[List.eq_of_mem_replicate hb];decide
theorem agN(k:Nat):Wt (uk.getD k 0):=by
 rcases Nat.lt_or_ge k uk.length with hk|hk
 ·have hm:=jS uk k 0 hk
  have:∀x∈uk,(-9223372036854775808≤x∧x≤9223372036854775807):=by decide
  exact this _ hm
 ·rw[List.getD,List.getElem?_eq_none hk];exact wtZ
theorem V8(o:O)(ok:o.Ok)(hn:o.names.length≤900)(hi:o.items.length≤900)(n:Int):(aX o n).Ok:=by
 unfold aX
 have hk:=jw n
 generalize spK n=k at *
 generalize (n%32).toNat=j
 obtain⟨⟨o1,o2,o3,o4,o5,o6,o7⟩,w1,w2,w3,w4,w5,w6,w7,w8,w9,w10,w11,w12,w13,n1,n2,n3,n4,n5,n6,n7⟩:=ok
 have l1:=Jc MO (by decide) (by decide) (k%4)
 have l2:=Jc MP (by decide) (by decide) (k%4)
 have l3:=Jc xw (by decide) (by decide) (k%3)
 have l4:=agN (k%4)
 obtain⟨a1,a2,a3,a4⟩:=agM k
 have x1:∀x∈o.names++[xw.getD (k%3) []],oct x∧x.length≤1000:=by
  intro x hx
  rcases List.mem_append.1 hx with hx|hx
  ·exact⟨o3 x hx,n4 x hx⟩
  ·rw[List.mem_singleton.1 hx];exact l3
 have x1l:(o.names++[xw.getD (k%3) []]).length≤1000:=by rw[List.length_append];simp only[List.length_cons,List.length_nil];omega
 have x2:∀x∈List.replicate (k%20) ([]:List Nat),oct x∧x.length≤1000:=fun x hx=>by rw[List.eq_of_mem_replicate hx];exact⟨dV,Nat.zero_le _⟩
 have x2l:(List.replicate (k%20) ([]:List Nat)).length≤1000:=by rw[List.length_replicate];omega
 have x3:∀x∈o.items++[(wC (k:Int),((k%3:Nat):Int)-1)],oct x.1∧Wt x.2:=by
  intro x hx
  rcases List.mem_append.1 hx with hx|hx
  ·exact⟨o4 x hx,w13 x hx⟩
  ·rw[List.mem_singleton.1 hx];exact⟨(II _).1,by show -9223372036854775808≤((k%3:Nat):Int)-1;omega,by show ((k%3:Nat):Int)-1≤9223372036854775807;omega⟩
 have x3l:(o.items++[(wC (k:Int),((k%3:Nat):Int)-1)]).length≤1000:=by rw[List.length_append];simp only[List.length_cons,List.length_nil];omega
 have x4:∀x∈List.replicate (64+k%2) (([],0):List Nat × Int),oct x.1∧Wt x.2:=fun x hx=>by rw[List.eq_of_mem_replicate hx];exact⟨dV,wtZ⟩
 have x4l:(List.replicate (64+k%2) (([],0):List Nat × Int)).length≤1000:=by rw[List.length_replicate];omega
 have x5l:(List.replicate (60+k%9) 0).length≤1000:=by rw[List.length_replicate];omega
 have x6l:(List.replicate (65536+k%2) 0).length≤1000000:=by rw[List.length_replicate];omega
 have b1:oct [1]:=nK (by decide)
 have y1:Wt (((k%8:Nat):Int)-2):=⟨by omega,by omega⟩
 have y2:Wt (((k%20:Nat):Int)-2):=⟨by omega,by omega⟩
 have y3:Wt (((k%40:Nat):Int)-3):=⟨by omega,by omega⟩
 unfold spO
 (repeat' refine amv ?_ ?_)
 all_goals refine⟨⟨?_, ?_, ?_, ?_, ?_, ?_, ?_⟩, ?_, ?_, ?_, ?_, ?_, ?_, ?_, ?_, ?_, ?_, ?_, ?_, ?_, ?_, ?_, ?_, ?_, ?_, ?_, ?_⟩
 all_goals first
  | exact o1|exact o2|exact o3|exact o4|exact o5|exact o6|exact o7|exact w1|exact w2|exact w3|exact w4|exact w5|exact w6|exact w7|exact w8|exact w9|exact w10|exact w11|exact w12|exact w13
  | exact n1|exact n2|exact n3|exact n4|exact n5|exact n6|exact n7
  | exact l1.1|exact l1.2|exact l2.1|exact l2.2|exact l4|exact a1|exact a2|exact a3|exact a4|exact sZ|exact b1|exact acA _|exact y1|exact y2|exact y3
  | exact fun x hx=>(x1 x hx).1|exact fun x hx=>(x1 x hx).2|exact x1l|exact fun x hx=>(x2 x hx).1|exact fun x hx=>(x2 x hx).2|exact x2l
  | exact fun x hx=>(x3 x hx).1|exact fun x hx=>(x3 x hx).2|exact x3l|exact fun x hx=>(x4 x hx).1|exact fun x hx=>(x4 x hx).2|exact x4l|exact x5l|exact x6l
  | exact wtN _ _ (by decide) (by decide)|exact (by decide:(1:Nat)≤1000000)
theorem V9:(sv aH)[1]?=some (.c (.string (sB [99,114,101,97,116,101]))):=rfl
theorem We:(sv aH)[2]?=some (.c (.string (sB [100,114,111,112]))):=rfl
theorem Wh:(sv aH)[3]?=some (.c (.string (sB [114,101,110,97,109,101]))):=rfl
theorem Wi:(sv aH)[4]?=some (.c (.string (sB [108,105,115,116]))):=rfl
theorem Wj:(sv aH)[5]?=some (.c (.string (sB [113,117,101,114,121]))):=rfl
theorem Wl:(sv aH)[7]?=some (.c (.string (sB [109,101,114,103,101]))):=rfl
theorem Wn:(sv aH)[8]?=some (.c (.string (sB [99,111,109,112,97,114,101]))):=rfl
theorem Wp:(sv aH)[9]?=some (.c (.string (sB [111,112,101,110]))):=rfl
theorem Qi:(sv aH)[10]?=some (.c (.string (sB [114,101,97,100]))):=rfl
theorem Qj:(sv aH)[11]?=some (.c (.string (sB [99,108,111,115,101]))):=rfl
theorem Qk:(sv aH)[12]?=some (.c (.string (sB [99,117,114,115,111,114]))):=rfl
theorem Ql:(sv aH)[13]?=some (.c (.string (sB [110,101,120,116]))):=rfl
theorem Qm:(sv aH)[14]?=some (.c (.string (sB [101,110,100]))):=rfl
theorem Qn:(sv aH)[15]?=some (.c (.string (sB [101,120,112,111,114,116]))):=rfl
theorem Qo:(sv aH)[16]?=some (.c (.string (sB [105,109,112,111,114,116]))):=rfl
theorem Qp:(sv aH)[17]?=some (.c (.string (sB [99,111,108,108,101,99,116]))):=rfl
theorem acB(o:O)(ok:o.Ok)(hk:o.kind=1)(hv:vop o=0):Gxx 13 [.agg (opF o)] (.tup [vs (jn (opW o)),vi 0]):=by
 have h1:=dH o ok.oct
 rw[hv] at h1
 have htot:=dM o ok
 have hjo:=kK (opW o) (by omega) (by omega)
 have e:opW o=[99,114,101,97,116,101]::o.name::qX o.pk o.pz o.pd o.ps:=by simp [opW,hk]
 rw[e] at hjo ⊢
 have hprm:=abt o.pk o.pz o.pd o.ps (pg (by omega) hv) ok.pz ok.pd ok.ps
 have hpl:=abj o.pk o.pz o.pd o.ps
 clear htot e
 generalize hgen:qX o.pk o.pz o.pd o.ps=ws at *
 obtain⟨kind,name,other,names,pk,pz,pd,ps,items,coins,exp,src,hnd,idx,cur,cnt,qk,qkey,qc,qn,qd,data⟩:=o
 simp only at *
 subst hk
 clear hv ok
 refine gI oD Tryz.func13 Tryz.results13 ?_
 have hsl:(sv aH).length=18:=rfl
 (repeat' (first|(simp (disch:=first|exact dqz|fail) only[pgz,simprocAttr,Tryz.f13,pga,V9,hsl,ai,k32,au,List.append_eq,List.cons_append,List.nil_append,List.append_nil,List.length_cons,List.length_nil])|((with_reducible show gU _ _ _ _ _ _);first|refine cU h1 ?_|refine cU aN ?_|refine cU hprm ?_|refine cU hjo ?_|refine yg _ (dQ _ _ _ _ _ _ _ [_] [_] rfl (by simp) rfl) rfl ?_|refine yg _ (dQ _ _ _ _ _ _ _ [_,_] _ rfl (by simp only[List.length_cons,List.length_nil];omega) rfl) rfl ?_)|((with_reducible show nz _ _ _ _ _ _ _);first|refine dZ _ (h1) rfl rfl rfl rfl rfl (Nat.le_of_ble_eq_true rfl) ?_|refine dZ _ (aN) rfl rfl rfl rfl rfl (Nat.le_of_ble_eq_true rfl) ?_|refine dZ _ (hprm) rfl rfl rfl rfl rfl (Nat.le_of_ble_eq_true rfl) ?_|refine dZ _ (hjo) rfl rfl rfl rfl rfl (Nat.le_of_ble_eq_true rfl) ?_|refine oO _ (dQ _ _ _ _ _ _ _ [_] [_] rfl (by simp) rfl) rfl ?_|refine oO _ (dQ _ _ _ _ _ _ _ [_,_] _ rfl (by simp only[List.length_cons,List.length_nil];omega) rfl) rfl ?_)|((with_reducible first|apply di|apply bK|apply eX)<;>intro hc<;>(try simp only[hc])<;>(try simp only[pgd] at hc))|(with_reducible refine vP (by kernel_rfl) ?_)|((with_reducible show sN _ _ _ _ _);first|refine oP (by decide +kernel) ?_|refine oQ (by decide +kernel) ?_)|(with_reducible refine cK ?_)))
 (refine rT [] ?_;first|rfl|simp only[pgo,simprocAttr]|skip)
theorem acC(o:O)(ok:o.Ok)(hk:o.kind=2)(hv:vop o=0):Gxx 13 [.agg (opF o)] (.tup [vs (jn (opW o)),vi 0]):=by
 have h1:=dH o ok.oct
 rw[hv] at h1
 have htot:=dM o ok
 have hjo:=kK (opW o) (by omega) (by omega)
 have e:opW o=[100,114,111,112]::o.name::[]:=by simp [opW,hk]
 rw[e] at hjo ⊢
 clear htot e
 obtain⟨kind,name,other,names,pk,pz,pd,ps,items,coins,exp,src,hnd,idx,cur,cnt,qk,qkey,qc,qn,qd,data⟩:=o
 simp only at *
 subst hk
 clear hv ok
 refine gI oD Tryz.func13 Tryz.results13 ?_
 have hsl:(sv aH).length=18:=rfl
 (repeat' first|refine wPA (aI @We (aI @hsl (aI @ai (aI @k32 (aI @au (aI @List.append_eq.{0} (aI @List.cons_append.{0} (aI @List.nil_append.{0} (aI @List.append_nil.{0} (aI @List.length_cons.{0} @List.length_nil.{0})))))))))) (aI h1 (aI aN hjo)) ?_|refine cY (dQ _ _ _ _ _ _ _ [_] [_] rfl (by simp) rfl) ?_|refine cAZ (dQ _ _ _ _ _ _ _ [_] [_] rfl (by simp) rfl) ?_|refine tS ?_ ?_<;>intro hc|fail)
 exact rE []
theorem acD(o:O)(ok:o.Ok)(hk:o.kind=3)(hv:vop o=0):Gxx 13 [.agg (opF o)] (.tup [vs (jn (opW o)),vi 0]):=by
 have h1:=dH o ok.oct
 rw[hv] at h1
 have htot:=dM o ok
 have hjo:=kK (opW o) (by omega) (by omega)
 have e:opW o=[114,101,110,97,109,101]::o.name::o.other::[]:=by simp [opW,hk]
 rw[e] at hjo ⊢
 clear htot e
 obtain⟨kind,name,other,names,pk,pz,pd,ps,items,coins,exp,src,hnd,idx,cur,cnt,qk,qkey,qc,qn,qd,data⟩:=o
 simp only at *
 subst hk
 clear hv ok
 refine gI oD Tryz.func13 Tryz.results13 ?_
 have hsl:(sv aH).length=18:=rfl
 (repeat' first|refine wPA (aI @Wh (aI @hsl (aI @ai (aI @k32 (aI @au (aI @List.append_eq.{0} (aI @List.cons_append.{0} (aI @List.nil_append.{0} (aI @List.append_nil.{0} (aI @List.length_cons.{0} @List.length_nil.{0})))))))))) (aI h1 (aI aN hjo)) ?_|refine cY (dQ _ _ _ _ _ _ _ [_] [_,_] rfl (by simp) rfl) ?_|refine cAZ (dQ _ _ _ _ _ _ _ [_] [_,_] rfl (by simp) rfl) ?_|refine tS ?_ ?_<;>intro hc|fail)
 exact rE []
theorem acE(o:O)(ok:o.Ok)(hk:o.kind=4)(hv:vop o=0):Gxx 13 [.agg (opF o)] (.tup [vs (jn (opW o)),vi 0]):=by
 have h1:=dH o ok.oct
 rw[hv] at h1
 have htot:=dM o ok
 have hjo:=kK (opW o) (by omega) (by omega)
 have e:opW o=[108,105,115,116]::[]:=by simp [opW,hk]
 rw[e] at hjo ⊢
 clear htot e
 obtain⟨kind,name,other,names,pk,pz,pd,ps,items,coins,exp,src,hnd,idx,cur,cnt,qk,qkey,qc,qn,qd,data⟩:=o
 simp only at *
 subst hk
 clear hv ok
 refine gI oD Tryz.func13 Tryz.results13 ?_
 have hsl:(sv aH).length=18:=rfl
 exact wRA (aI @Wi (aI @hsl (aI @ai (aI @k32 (aI @au (aI @List.append_eq.{0} (aI @List.cons_append.{0} (aI @List.nil_append.{0} (aI @List.append_nil.{0} (aI @List.length_cons.{0} @List.length_nil.{0})))))))))) (aI h1 (aI aN hjo)) ah
theorem acF(o:O)(ok:o.Ok)(hk:o.kind=5)(hv:vop o=0):Gxx 13 [.agg (opF o)] (.tup [vs (jn (opW o)),vi 0]):=by
 have h1:=dH o ok.oct
 rw[hv] at h1
 have htot:=dM o ok
 have hjo:=kK (opW o) (by omega) (by omega)
 have e:opW o=[113,117,101,114,121]::o.name::lY o.qk o.qkey o.qc o.qn o.qd:=by simp [opW,hk]
 rw[e] at hjo ⊢
 have hprm:=aoK o.qk o.qkey o.qc o.qn o.qd (gm (by omega) hv) ok.qkey ok.qc ok.qn ok.qd
 have hpl:=LQ o.qk o.qkey o.qc o.qn o.qd
 clear htot e
 generalize hgen:lY o.qk o.qkey o.qc o.qn o.qd=ws at *
 obtain⟨kind,name,other,names,pk,pz,pd,ps,items,coins,exp,src,hnd,idx,cur,cnt,qk,qkey,qc,qn,qd,data⟩:=o
 simp only at *
 subst hk
 clear hv ok
 refine gI oD Tryz.func13 Tryz.results13 ?_
 have hsl:(sv aH).length=18:=rfl
 (repeat' (first|(simp (disch:=first|exact dqz|fail) only[pgz,simprocAttr,Tryz.f13,pga,Wj,hsl,ai,k32,au,List.append_eq,List.cons_append,List.nil_append,List.append_nil,List.length_cons,List.length_nil])|((with_reducible show gU _ _ _ _ _ _);first|refine cU h1 ?_|refine cU aN ?_|refine cU hprm ?_|refine cU hjo ?_|refine yg _ (dQ _ _ _ _ _ _ _ [_] [_] rfl (by simp) rfl) rfl ?_|refine yg _ (dQ _ _ _ _ _ _ _ [_,_] _ rfl (by simp only[List.length_cons,List.length_nil];omega) rfl) rfl ?_)|((with_reducible show nz _ _ _ _ _ _ _);first|refine dZ _ (h1) rfl rfl rfl rfl rfl (Nat.le_of_ble_eq_true rfl) ?_|refine dZ _ (aN) rfl rfl rfl rfl rfl (Nat.le_of_ble_eq_true rfl) ?_|refine dZ _ (hprm) rfl rfl rfl rfl rfl (Nat.le_of_ble_eq_true rfl) ?_|refine dZ _ (hjo) rfl rfl rfl rfl rfl (Nat.le_of_ble_eq_true rfl) ?_|refine oO _ (dQ _ _ _ _ _ _ _ [_] [_] rfl (by simp) rfl) rfl ?_|refine oO _ (dQ _ _ _ _ _ _ _ [_,_] _ rfl (by simp only[List.length_cons,List.length_nil];omega) rfl) rfl ?_)|((with_reducible first|apply di|apply bK|apply eX)<;>intro hc<;>(try simp only[hc])<;>(try simp only[pgd] at hc))|(with_reducible refine vP (by kernel_rfl) ?_)|((with_reducible show sN _ _ _ _ _);first|refine oP (by decide +kernel) ?_|refine oQ (by decide +kernel) ?_)|(with_reducible refine cK ?_)))
 (refine rT [] ?_;first|rfl|simp only[pgo,simprocAttr]|skip)
theorem acG(o:O)(ok:o.Ok)(hk:o.kind=7)(hv:vop o=0):Gxx 13 [.agg (opF o)] (.tup [vs (jn (opW o)),vi 0]):=by
 have h1:=dH o ok.oct
 rw[hv] at h1
 have htot:=dM o ok
 have hjo:=kK (opW o) (by omega) (by omega)
 have e:opW o=[109,101,114,103,101]::o.name::o.other::fb o.coins::[]:=by simp [opW,hk]
 rw[e] at hjo ⊢
 have hfb:=nM o.coins ok.oct.2.2.2.2.1 (by have:=ok.coins;omega)
 clear htot e
 obtain⟨kind,name,other,names,pk,pz,pd,ps,items,coins,exp,src,hnd,idx,cur,cnt,qk,qkey,qc,qn,qd,data⟩:=o
 simp only at *
 subst hk
 clear hv ok
 refine gI oD Tryz.func13 Tryz.results13 ?_
 have hsl:(sv aH).length=18:=rfl
 (repeat' first|refine wPA (aI @Wl (aI @hsl (aI @ai (aI @k32 (aI @au (aI @List.append_eq.{0} (aI @List.cons_append.{0} (aI @List.nil_append.{0} (aI @List.append_nil.{0} (aI @List.length_cons.{0} @List.length_nil.{0})))))))))) (aI h1 (aI aN (aI hfb hjo))) ?_|refine cY (dQ _ _ _ _ _ _ _ [_] [_,_,_] rfl (by simp) rfl) ?_|refine cAZ (dQ _ _ _ _ _ _ _ [_] [_,_,_] rfl (by simp) rfl) ?_|refine tS ?_ ?_<;>intro hc|fail)
 exact rE []
theorem acH(o:O)(ok:o.Ok)(hk:o.kind=8)(hv:vop o=0):Gxx 13 [.agg (opF o)] (.tup [vs (jn (opW o)),vi 0]):=by
 have h1:=dH o ok.oct
 rw[hv] at h1
 have htot:=dM o ok
 have hjo:=kK (opW o) (by omega) (by omega)
 have e:opW o=[99,111,109,112,97,114,101]::o.name::o.other::fb o.coins::ak o.exp::ak o.src::[]:=by simp [opW,hk]
 rw[e] at hjo ⊢
 have hfb:=nM o.coins ok.oct.2.2.2.2.1 (by have:=ok.coins;omega)
 have h_exp:=jv o.exp ok.exp.1 ok.exp.2
 have h_src:=jv o.src ok.src.1 ok.src.2
 clear htot e
 obtain⟨kind,name,other,names,pk,pz,pd,ps,items,coins,exp,src,hnd,idx,cur,cnt,qk,qkey,qc,qn,qd,data⟩:=o
 simp only at *
 subst hk
 clear hv ok
 refine gI oD Tryz.func13 Tryz.results13 ?_
 have hsl:(sv aH).length=18:=rfl
 (repeat' first|refine wPA (aI @Wn (aI @hsl (aI @ai (aI @k32 (aI @au (aI @List.append_eq.{0} (aI @List.cons_append.{0} (aI @List.nil_append.{0} (aI @List.append_nil.{0} (aI @List.length_cons.{0} @List.length_nil.{0})))))))))) (aI h1 (aI aN (aI hfb (aI h_exp (aI h_src hjo))))) ?_|refine cY (dQ _ _ _ _ _ _ _ [_] [_,_,_,_,_] rfl (by simp) rfl) ?_|refine cAZ (dQ _ _ _ _ _ _ _ [_] [_,_,_,_,_] rfl (by simp) rfl) ?_|refine tS ?_ ?_<;>intro hc|fail)
 exact rE []
theorem acI(o:O)(ok:o.Ok)(hk:o.kind=9)(hv:vop o=0):Gxx 13 [.agg (opF o)] (.tup [vs (jn (opW o)),vi 0]):=by
 have h1:=dH o ok.oct
 rw[hv] at h1
 have htot:=dM o ok
 have hjo:=kK (opW o) (by omega) (by omega)
 have e:opW o=[111,112,101,110]::o.names:=by simp [opW,hk]
 rw[e] at hjo ⊢
 have hpl:=ok.names
 have hnl:=au o.names
 clear htot e
 obtain⟨kind,name,other,names,pk,pz,pd,ps,items,coins,exp,src,hnd,idx,cur,cnt,qk,qkey,qc,qn,qd,data⟩:=o
 simp only at *
 subst hk
 clear hv ok
 refine gI oD Tryz.func13 Tryz.results13 ?_
 have hsl:(sv aH).length=18:=rfl
 (repeat' (first|(simp (disch:=first|exact dqz|fail) only[pgz,simprocAttr,Tryz.f13,pga,Wp,hsl,ai,k32,au,List.append_eq,List.cons_append,List.nil_append,List.append_nil,List.length_cons,List.length_nil])|((with_reducible show gU _ _ _ _ _ _);first|refine cU h1 ?_|refine cU aN ?_|refine cU hjo ?_|refine yg _ (dQ _ _ _ _ _ _ _ [_] _ rfl (by simp only[List.length_cons,List.length_nil];omega) rfl) rfl ?_)|((with_reducible show nz _ _ _ _ _ _ _);first|refine dZ _ (h1) rfl rfl rfl rfl rfl (Nat.le_of_ble_eq_true rfl) ?_|refine dZ _ (aN) rfl rfl rfl rfl rfl (Nat.le_of_ble_eq_true rfl) ?_|refine dZ _ (hjo) rfl rfl rfl rfl rfl (Nat.le_of_ble_eq_true rfl) ?_|refine oO _ (dQ _ _ _ _ _ _ _ [_] _ rfl (by simp only[List.length_cons,List.length_nil];omega) rfl) rfl ?_)|((with_reducible first|apply di|apply bK|apply eX)<;>intro hc<;>(try simp only[hc])<;>(try simp only[pgd] at hc))|(with_reducible refine vP (by kernel_rfl) ?_)|((with_reducible show sN _ _ _ _ _);first|refine oP (by decide +kernel) ?_|refine oQ (by decide +kernel) ?_)|(with_reducible refine cK ?_)))
 (refine rT [] ?_;first|rfl|simp only[pgo,simprocAttr]|skip)
theorem Wq(o:O)(ok:o.Ok)(hk:o.kind=10)(hv:vop o=0):Gxx 13 [.agg (opF o)] (.tup [vs (jn (opW o)),vi 0]):=by
 have h1:=dH o ok.oct
 rw[hv] at h1
 have htot:=dM o ok
 have hjo:=kK (opW o) (by omega) (by omega)
 have e:opW o=[114,101,97,100]::ak o.hnd::ak o.idx::lY o.qk o.qkey o.qc o.qn o.qd:=by simp [opW,hk]
 rw[e] at hjo ⊢
 have hprm:=aoK o.qk o.qkey o.qc o.qn o.qd (gm (by omega) hv) ok.qkey ok.qc ok.qn ok.qd
 have hpl:=LQ o.qk o.qkey o.qc o.qn o.qd
 have h_hnd:=jv o.hnd ok.hnd.1 ok.hnd.2
 have h_idx:=jv o.idx ok.idx.1 ok.idx.2
 clear htot e
 generalize hgen:lY o.qk o.qkey o.qc o.qn o.qd=ws at *
 obtain⟨kind,name,other,names,pk,pz,pd,ps,items,coins,exp,src,hnd,idx,cur,cnt,qk,qkey,qc,qn,qd,data⟩:=o
 simp only at *
 subst hk
 clear hv ok
 refine gI oD Tryz.func13 Tryz.results13 ?_
 have hsl:(sv aH).length=18:=rfl
 (repeat' (first|(simp (disch:=first|exact dqz|fail) only[pgz,simprocAttr,Tryz.f13,pga,Qi,hsl,ai,k32,au,List.append_eq,List.cons_append,List.nil_append,List.append_nil,List.length_cons,List.length_nil])|((with_reducible show gU _ _ _ _ _ _);first|refine cU h1 ?_|refine cU aN ?_|refine cU hprm ?_|refine cU h_hnd ?_|refine cU h_idx ?_|refine cU hjo ?_|refine yg _ (dQ _ _ _ _ _ _ _ [_] [_,_] rfl (by simp) rfl) rfl ?_|refine yg _ (dQ _ _ _ _ _ _ _ [_,_,_] _ rfl (by simp only[List.length_cons,List.length_nil];omega) rfl) rfl ?_)|((with_reducible show nz _ _ _ _ _ _ _);first|refine dZ _ (h1) rfl rfl rfl rfl rfl (Nat.le_of_ble_eq_true rfl) ?_|refine dZ _ (aN) rfl rfl rfl rfl rfl (Nat.le_of_ble_eq_true rfl) ?_|refine dZ _ (hprm) rfl rfl rfl rfl rfl (Nat.le_of_ble_eq_true rfl) ?_|refine dZ _ (h_hnd) rfl rfl rfl rfl rfl (Nat.le_of_ble_eq_true rfl) ?_|refine dZ _ (h_idx) rfl rfl rfl rfl rfl (Nat.le_of_ble_eq_true rfl) ?_|refine dZ _ (hjo) rfl rfl rfl rfl rfl (Nat.le_of_ble_eq_true rfl) ?_|refine oO _ (dQ _ _ _ _ _ _ _ [_] [_,_] rfl (by simp) rfl) rfl ?_|refine oO _ (dQ _ _ _ _ _ _ _ [_,_,_] _ rfl (by simp only[List.length_cons,List.length_nil];omega) rfl) rfl ?_)|((with_reducible first|apply di|apply bK|apply eX)<;>intro hc<;>(try simp only[hc])<;>(try simp only[pgd] at hc))|(with_reducible refine vP (by kernel_rfl) ?_)|((with_reducible show sN _ _ _ _ _);first|refine oP (by decide +kernel) ?_|refine oQ (by decide +kernel) ?_)|(with_reducible refine cK ?_)))
 (refine rT [] ?_;first|rfl|simp only[pgo,simprocAttr]|skip)
theorem Ws(o:O)(ok:o.Ok)(hk:o.kind=11)(hv:vop o=0):Gxx 13 [.agg (opF o)] (.tup [vs (jn (opW o)),vi 0]):=by
 have h1:=dH o ok.oct
 rw[hv] at h1
 have htot:=dM o ok
 have hjo:=kK (opW o) (by omega) (by omega)
 have e:opW o=[99,108,111,115,101]::ak o.hnd::[]:=by simp [opW,hk]
 rw[e] at hjo ⊢
 have h_hnd:=jv o.hnd ok.hnd.1 ok.hnd.2
 clear htot e
 obtain⟨kind,name,other,names,pk,pz,pd,ps,items,coins,exp,src,hnd,idx,cur,cnt,qk,qkey,qc,qn,qd,data⟩:=o
 simp only at *
 subst hk
 clear hv ok
 refine gI oD Tryz.func13 Tryz.results13 ?_
 have hsl:(sv aH).length=18:=rfl
 (repeat' first|refine wPA (aI @Qj (aI @hsl (aI @ai (aI @k32 (aI @au (aI @List.append_eq.{0} (aI @List.cons_append.{0} (aI @List.nil_append.{0} (aI @List.append_nil.{0} (aI @List.length_cons.{0} @List.length_nil.{0})))))))))) (aI h1 (aI aN (aI h_hnd hjo))) ?_|refine cY (dQ _ _ _ _ _ _ _ [_] [_] rfl (by simp) rfl) ?_|refine cAZ (dQ _ _ _ _ _ _ _ [_] [_] rfl (by simp) rfl) ?_|refine tS ?_ ?_<;>intro hc|fail)
 exact rE []
theorem Wu(o:O)(ok:o.Ok)(hk:o.kind=12)(hv:vop o=0):Gxx 13 [.agg (opF o)] (.tup [vs (jn (opW o)),vi 0]):=by
 have h1:=dH o ok.oct
 rw[hv] at h1
 have htot:=dM o ok
 have hjo:=kK (opW o) (by omega) (by omega)
 have e:opW o=[99,117,114,115,111,114]::ak o.hnd::ak o.idx::[]:=by simp [opW,hk]
 rw[e] at hjo ⊢
 have h_hnd:=jv o.hnd ok.hnd.1 ok.hnd.2
 have h_idx:=jv o.idx ok.idx.1 ok.idx.2
 clear htot e
 obtain⟨kind,name,other,names,pk,pz,pd,ps,items,coins,exp,src,hnd,idx,cur,cnt,qk,qkey,qc,qn,qd,data⟩:=o
 simp only at *
 subst hk
 clear hv ok
 refine gI oD Tryz.func13 Tryz.results13 ?_
 have hsl:(sv aH).length=18:=rfl
 (repeat' first|refine wPA (aI @Qk (aI @hsl (aI @ai (aI @k32 (aI @au (aI @List.append_eq.{0} (aI @List.cons_append.{0} (aI @List.nil_append.{0} (aI @List.append_nil.{0} (aI @List.length_cons.{0} @List.length_nil.{0})))))))))) (aI h1 (aI aN (aI h_hnd (aI h_idx hjo)))) ?_|refine cY (dQ _ _ _ _ _ _ _ [_] [_,_] rfl (by simp) rfl) ?_|refine cAZ (dQ _ _ _ _ _ _ _ [_] [_,_] rfl (by simp) rfl) ?_|refine tS ?_ ?_<;>intro hc|fail)
 exact rE []
theorem Wv(o:O)(ok:o.Ok)(hk:o.kind=13)(hv:vop o=0):Gxx 13 [.agg (opF o)] (.tup [vs (jn (opW o)),vi 0]):=by
 have h1:=dH o ok.oct
 rw[hv] at h1
 have htot:=dM o ok
 have hjo:=kK (opW o) (by omega) (by omega)
 have e:opW o=[110,101,120,116]::ak o.cur::ak o.cnt::[]:=by simp [opW,hk]
 rw[e] at hjo ⊢
 have h_cur:=jv o.cur ok.cur.1 ok.cur.2
 have h_cnt:=jv o.cnt ok.cnt.1 ok.cnt.2
 clear htot e
 obtain⟨kind,name,other,names,pk,pz,pd,ps,items,coins,exp,src,hnd,idx,cur,cnt,qk,qkey,qc,qn,qd,data⟩:=o
 simp only at *
 subst hk
 clear hv ok
 refine gI oD Tryz.func13 Tryz.results13 ?_
 have hsl:(sv aH).length=18:=rfl
 (repeat' first|refine wPA (aI @Ql (aI @hsl (aI @ai (aI @k32 (aI @au (aI @List.append_eq.{0} (aI @List.cons_append.{0} (aI @List.nil_append.{0} (aI @List.append_nil.{0} (aI @List.length_cons.{0} @List.length_nil.{0})))))))))) (aI h1 (aI aN (aI h_cur (aI h_cnt hjo)))) ?_|refine cY (dQ _ _ _ _ _ _ _ [_] [_,_] rfl (by simp) rfl) ?_|refine cAZ (dQ _ _ _ _ _ _ _ [_] [_,_] rfl (by simp) rfl) ?_|refine tS ?_ ?_<;>intro hc|fail)
 exact rE []
theorem Wx(o:O)(ok:o.Ok)(hk:o.kind=14)(hv:vop o=0):Gxx 13 [.agg (opF o)] (.tup [vs (jn (opW o)),vi 0]):=by
 have h1:=dH o ok.oct
 rw[hv] at h1
 have htot:=dM o ok
 have hjo:=kK (opW o) (by omega) (by omega)
 have e:opW o=[101,110,100]::ak o.cur::[]:=by simp [opW,hk]
 rw[e] at hjo ⊢
 have h_cur:=jv o.cur ok.cur.1 ok.cur.2
 clear htot e
 obtain⟨kind,name,other,names,pk,pz,pd,ps,items,coins,exp,src,hnd,idx,cur,cnt,qk,qkey,qc,qn,qd,data⟩:=o
 simp only at *
 subst hk
 clear hv ok
 refine gI oD Tryz.func13 Tryz.results13 ?_
 have hsl:(sv aH).length=18:=rfl
 (repeat' first|refine wPA (aI @Qm (aI @hsl (aI @ai (aI @k32 (aI @au (aI @List.append_eq.{0} (aI @List.cons_append.{0} (aI @List.nil_append.{0} (aI @List.append_nil.{0} (aI @List.length_cons.{0} @List.length_nil.{0})))))))))) (aI h1 (aI aN (aI h_cur hjo))) ?_|refine cY (dQ _ _ _ _ _ _ _ [_] [_] rfl (by simp) rfl) ?_|refine cAZ (dQ _ _ _ _ _ _ _ [_] [_] rfl (by simp) rfl) ?_|refine tS ?_ ?_<;>intro hc|fail)
 exact rE []
theorem Wy(o:O)(ok:o.Ok)(hk:o.kind=15)(hv:vop o=0):Gxx 13 [.agg (opF o)] (.tup [vs (jn (opW o)),vi 0]):=by
 have h1:=dH o ok.oct
 rw[hv] at h1
 have htot:=dM o ok
 have hjo:=kK (opW o) (by omega) (by omega)
 have e:opW o=[101,120,112,111,114,116]::ak o.hnd::ak o.idx::[]:=by simp [opW,hk]
 rw[e] at hjo ⊢
 have h_hnd:=jv o.hnd ok.hnd.1 ok.hnd.2
 have h_idx:=jv o.idx ok.idx.1 ok.idx.2
 clear htot e
 obtain⟨kind,name,other,names,pk,pz,pd,ps,items,coins,exp,src,hnd,idx,cur,cnt,qk,qkey,qc,qn,qd,data⟩:=o
 simp only at *
 subst hk
 clear hv ok
 refine gI oD Tryz.func13 Tryz.results13 ?_
 have hsl:(sv aH).length=18:=rfl
 (repeat' first|refine wPA (aI @Qn (aI @hsl (aI @ai (aI @k32 (aI @au (aI @List.append_eq.{0} (aI @List.cons_append.{0} (aI @List.nil_append.{0} (aI @List.append_nil.{0} (aI @List.length_cons.{0} @List.length_nil.{0})))))))))) (aI h1 (aI aN (aI h_hnd (aI h_idx hjo)))) ?_|refine cY (dQ _ _ _ _ _ _ _ [_] [_,_] rfl (by simp) rfl) ?_|refine cAZ (dQ _ _ _ _ _ _ _ [_] [_,_] rfl (by simp) rfl) ?_|refine tS ?_ ?_<;>intro hc|fail)
 exact rE []
theorem WA(o:O)(ok:o.Ok)(hk:o.kind=16)(hv:vop o=0):Gxx 13 [.agg (opF o)] (.tup [vs (jn (opW o)),vi 0]):=by
 have h1:=dH o ok.oct
 rw[hv] at h1
 have htot:=dM o ok
 have hjo:=kK (opW o) (by omega) (by omega)
 have e:opW o=[105,109,112,111,114,116]::o.name::fb o.data::[]:=by simp [opW,hk]
 rw[e] at hjo ⊢
 have hfb:=nM o.data ok.oct.2.2.2.2.2.2 (by have:=ok.data;omega)
 clear htot e
 obtain⟨kind,name,other,names,pk,pz,pd,ps,items,coins,exp,src,hnd,idx,cur,cnt,qk,qkey,qc,qn,qd,data⟩:=o
 simp only at *
 subst hk
 clear hv ok
 refine gI oD Tryz.func13 Tryz.results13 ?_
 have hsl:(sv aH).length=18:=rfl
 (repeat' first|refine wPA (aI @Qo (aI @hsl (aI @ai (aI @k32 (aI @au (aI @List.append_eq.{0} (aI @List.cons_append.{0} (aI @List.nil_append.{0} (aI @List.append_nil.{0} (aI @List.length_cons.{0} @List.length_nil.{0})))))))))) (aI h1 (aI aN (aI hfb hjo))) ?_|refine cY (dQ _ _ _ _ _ _ _ [_] [_,_] rfl (by simp) rfl) ?_|refine cAZ (dQ _ _ _ _ _ _ _ [_] [_,_] rfl (by simp) rfl) ?_|refine tS ?_ ?_<;>intro hc|fail)
 exact rE []
theorem WB(o:O)(ok:o.Ok)(hk:o.kind=17)(hv:vop o=0):Gxx 13 [.agg (opF o)] (.tup [vs (jn (opW o)),vi 0]):=by
 have h1:=dH o ok.oct
 rw[hv] at h1
 have htot:=dM o ok
 have hjo:=kK (opW o) (by omega) (by omega)
 have e:opW o=[99,111,108,108,101,99,116]::[]:=by simp [opW,hk]
 rw[e] at hjo ⊢
 clear htot e
 obtain⟨kind,name,other,names,pk,pz,pd,ps,items,coins,exp,src,hnd,idx,cur,cnt,qk,qkey,qc,qn,qd,data⟩:=o
 simp only at *
 subst hk
 clear hv ok
 refine gI oD Tryz.func13 Tryz.results13 ?_
 have hsl:(sv aH).length=18:=rfl
 exact wRA (aI @Qp (aI @hsl (aI @ai (aI @k32 (aI @au (aI @List.append_eq.{0} (aI @List.cons_append.{0} (aI @List.nil_append.{0} (aI @List.append_nil.{0} (aI @List.length_cons.{0} @List.length_nil.{0})))))))))) (aI h1 (aI aN hjo)) ah
def vB:=aI @Bool.not_true (aI @Bool.not_false (aI @Bool.and_true (aI @Bool.true_and (aI @Bool.false_and (aI @Bool.and_false (aI @List.append_eq.{0} (aI @List.cons_append.{0} (aI @List.nil_append.{0} (aI @kG (aI @Rh (aI @ai (aI @au (aI @aB @ax)))))))))))))
abbrev kO(k:Int)(o:O):O:={ o with kind:=k }
abbrev V22(o:O)(E:Int):Prop:=Gxx 47 [.agg (opF o)] (vi E)
theorem vW{o:O}{E:Int}{C:Prop}(cx:C)(h:C→V22 o E:=by intro cx;have q1:=au o.names;have q2:=aB o.items;have q3:=ax o.coins;have q4:=ax o.data;refine gI oW Tryz.func47 Tryz.results47 ?_;exact wR vB cx ah):V22 o E:=h cx
abbrev Zk(k:Int)(o:O):Prop:=∀j,j<14→(dI (bJ k)).getD j false=false→zro (kO k o) j=true
theorem amw{k:Int}{o:O}:Zk k o↔(((dI (bJ k)).getD 0 false=false→(o.name.length=0))∧((dI (bJ k)).getD 1 false=false→(o.other.length=0))∧((dI (bJ k)).getD 2 false=false→(o.names.length=0))∧((dI (bJ k)).getD 3 false=false→(o.pk=0∧o.pz=0∧o.pd=0∧o.ps=0))∧((dI (bJ k)).getD 4 false=false→(o.items.length=0))∧((dI (bJ k)).getD 5 false=false→(o.coins.length=0))∧((dI (bJ k)).getD 6 false=false→(o.exp=0))∧((dI (bJ k)).getD 7 false=false→(o.src=0))∧((dI (bJ k)).getD 8 false=false→(o.hnd=0))∧((dI (bJ k)).getD 9 false=false→(o.idx=0))∧((dI (bJ k)).getD 10 false=false→(o.cur=0))∧((dI (bJ k)).getD 11 false=false→(o.cnt=0))∧((dI (bJ k)).getD 12 false=false→(o.qk=0∧o.qkey.length=0∧o.qc=0∧o.qn=0∧o.qd=0))∧((dI (bJ k)).getD 13 false=false→(o.data.length=0))):=by
 constructor
 ·intro h
  exact⟨fun q=>of_decide_eq_true (h 0 (by omega) q),fun q=>of_decide_eq_true (h 1 (by omega) q),fun q=>of_decide_eq_true (h 2 (by omega) q),fun q=>of_decide_eq_true (h 3 (by omega) q),fun q=>of_decide_eq_true (h 4 (by omega) q),fun q=>of_decide_eq_true (h 5 (by omega) q),fun q=>of_decide_eq_true (h 6 (by omega) q),fun q=>of_decide_eq_true (h 7 (by omega) q),fun q=>of_decide_eq_true (h 8 (by omega) q),fun q=>of_decide_eq_true (h 9 (by omega) q),fun q=>of_decide_eq_true (h 10 (by omega) q),fun q=>of_decide_eq_true (h 11 (by omega) q),fun q=>of_decide_eq_true (h 12 (by omega) q),fun q=>of_decide_eq_true (h 13 (by omega) q)⟩
 ·rintro⟨a0,a1,a2,a3,a4,a5,a6,a7,a8,a9,a10,a11,a12,a13⟩ j h7 h8
  rcases (show j=0∨j=1∨j=2∨j=3∨j=4∨j=5∨j=6∨j=7∨j=8∨j=9∨j=10∨j=11∨j=12∨j=13 by omega) with rfl|rfl|rfl|rfl|rfl|rfl|rfl|rfl|rfl|rfl|rfl|rfl|rfl|rfl
  ·exact decide_eq_true (a0 h8)
  ·exact decide_eq_true (a1 h8)
  ·exact decide_eq_true (a2 h8)
  ·exact decide_eq_true (a3 h8)
  ·exact decide_eq_true (a4 h8)
  ·exact decide_eq_true (a5 h8)
  ·exact decide_eq_true (a6 h8)
  ·exact decide_eq_true (a7 h8)
  ·exact decide_eq_true (a8 h8)
  ·exact decide_eq_true (a9 h8)
  ·exact decide_eq_true (a10 h8)
  ·exact decide_eq_true (a11 h8)
  ·exact decide_eq_true (a12 h8)
  ·exact decide_eq_true (a13 h8)
theorem jA{p:Prop}(h:p:=by intro l h7 h8;rcases (show l=0∨l=1∨l=2∨l=3∨l=4∨l=5∨l=6∨l=7∨l=8∨l=9∨l=10∨l=11∨l=12∨l=13∨14≤l by omega) with rfl|rfl|rfl|rfl|rfl|rfl|rfl|rfl|rfl|rfl|rfl|rfl|rfl|rfl|h9<;>first|(exfalso;omega)|exact y0|exact y1|exact y2|exact y3|exact y4|exact y5|exact y6|exact y7|exact y8|exact y9|exact y10|exact y11|exact y12|exact y13|exact absurd (show false=true from h8) (by decide)):p:=h
theorem vEr{k:Int}{o:O}(j:Nat)(y:chk (kO k o) j≠0)(g:V22 (kO k o) (chk (kO k o) j))(hk:¬(k<1∨17<k):=by decide)(hj:(dI (bJ k)).getD j false=true:=by decide)(h14:j<14:=by decide)(h:∀l,l<j→(dI (bJ k)).getD l false=true→chk (kO k o) l=0:=by exact jA):V22 (kO k o) (vop (kO k o)):=by rw[afc j hk hj h14 y h];exact g
theorem vOk{k:Int}{o:O}{C:Prop}(cx:C)(h:∀l,l<14→(dI (bJ k)).getD l false=true→chk (kO k o) l=0)(hk:¬(k<1∨17<k):=by decide)
  (h1:C→Zk k o→V22 (kO k o) 0:=by intro cx hz;rw[amw,mB] at hz;simp only[List.getD_cons_zero,List.getD_cons_succ,Bool.true_eq_false,false_implies,true_implies,true_and,and_true] at hz;exact vW cx)
  (h2:C→¬Zk k o→V22 (kO k o) 18:=by intro cx hz;rw[amw,mB] at hz;simp only[List.getD_cons_zero,List.getD_cons_succ,Bool.true_eq_false,false_implies,true_implies,true_and,and_true] at hz;have q1:=au o.names;have q2:=aB o.items;have q3:=ax o.coins;have q4:=ax o.data;refine gI oW Tryz.func47 Tryz.results47 ?_;(repeat' first|refine wP vB cx ?_|refine tS ?_ ?_<;>intro hc|fail);(all_goals first|(refine rT [] ?_;first|rfl|(exfalso;(try simp only[Bool.and_eq_true,beq_iff_eq,decide_eq_true_eq] at *);omega))|(exfalso;omega)|fail)):V22 (kO k o) (vop (kO k o)):=by
 by_cases hz:Zk k o
 ·rw[aly hk h hz];exact h1 cx hz
 ·rw[ai7 hk h hz];exact h2 cx hz
theorem nn{l:List Nat}(y:nmE l≠0):jW l=false∧nmE l=6:=by unfold nmE at *;split at y;exact absurd rfl y;rename_i h;exact⟨by simpa using h,by rw[if_neg h]⟩
theorem ni{l:List Nat}(y:nmE l=0):jW l=true:=by unfold nmE at y;split at y;assumption;cases y
theorem bi{n a b:Int}(y:bwE n a b=0):inb n a b=true:=by unfold bwE at y;split at y;cases y;exact uI (by omega)
theorem bn{n a b:Int}(y:bwE n a b≠0):inb n a b=false∧bwE n a b=5:=by unfold bwE at *;split at y;rename_i h;exact⟨jY (by omega),by rw[if_pos h]⟩;exact absurd rfl y
theorem si{l:List Nat}{m:Int}(y:shE l m=0):(l.length:Int)≤m:=by unfold shE at y;split at y;cases y;omega
theorem sn{l:List Nat}{m:Int}(y:shE l m≠0):m<(l.length:Int)∧shE l m=11:=by unfold shE at *;split at y;rename_i h;exact⟨h,by rw[if_pos h]⟩;exact absurd rfl y
theorem wb(o:O)(k:Int)(h:1≤k∧k≤17):Gxx 82 [vi k,vi 1,vi 17] (vb true)∧Gxx 85 [.agg (opF (kO k o)),vb false,vb false] (vi 0):=⟨by have h1:=fB k 1 17;rw[uI h] at h1;exact h1,Z9 (kO k o)⟩
abbrev bT:V:=vb true
abbrev bF:V:=vb false
theorem WC(o:O)(ho:o.Oct)(hn:o.names.length≤1000000)(hi:o.items.length≤1000000):V22 (kO 1 o) (vop (kO 1 o)):=by
 have w:=wb o 1 (by decide)
 have hU:Gxx 83 [vi 1] (.agg [bT,bF,bF,bT,bF,bF,bF,bF,bF,bF,bF,bF,bF]):=iC 1
 have mB:dI (bJ 1)=[true,false,false,true,false,false,false,false,false,false,false,false,false,false]:=by decide
 have c0:=oz o.name ho.1
 have c3:=bg o.pk o.pz o.pd o.ps
 by_cases y0:nmE o.name=0
 ·rw[ni y0] at c0
  by_cases y3:vp o.pk o.pz o.pd o.ps=0
  ·rw[y3] at c3
   exact vOk (aI hU (aI c0 (aI c3 w))) jA
  ·exact vEr 3 y3 (by show V22 _ (vp o.pk o.pz o.pd o.ps);generalize vp o.pk o.pz o.pd o.ps=E at *;exact vW (aI hU (aI c0 (aI c3 w))))
 ·exact vEr 0 y0 (by have z:=nn y0;rw[z.1] at c0;show V22 _ (nmE o.name);rw[z.2];exact vW (aI hU (aI c0 (aI c3 w))))
theorem WE(o:O)(ho:o.Oct)(hn:o.names.length≤1000000)(hi:o.items.length≤1000000):V22 (kO 2 o) (vop (kO 2 o)):=by
 have w:=wb o 2 (by decide)
 have hU:Gxx 83 [vi 2] (.agg [bT,bF,bF,bF,bF,bF,bF,bF,bF,bF,bF,bF,bF]):=iC 2
 have mB:dI (bJ 2)=[true,false,false,false,false,false,false,false,false,false,false,false,false,false]:=by decide
 have c0:=oz o.name ho.1
 by_cases y0:nmE o.name=0
 ·rw[ni y0] at c0
  exact vOk (aI hU (aI c0 w)) jA
 ·exact vEr 0 y0 (by have z:=nn y0;rw[z.1] at c0;show V22 _ (nmE o.name);rw[z.2];exact vW (aI hU (aI c0 w)))
theorem WF(o:O)(ho:o.Oct)(hn:o.names.length≤1000000)(hi:o.items.length≤1000000):V22 (kO 3 o) (vop (kO 3 o)):=by
 have w:=wb o 3 (by decide)
 have hU:Gxx 83 [vi 3] (.agg [bT,bT,bF,bF,bF,bF,bF,bF,bF,bF,bF,bF,bF]):=iC 3
 have mB:dI (bJ 3)=[true,true,false,false,false,false,false,false,false,false,false,false,false,false]:=by decide
 have c0:=oz o.name ho.1
 have c1:=oz o.other ho.2.1
 by_cases y0:nmE o.name=0
 ·rw[ni y0] at c0
  by_cases y1:nmE o.other=0
  ·rw[ni y1] at c1
   exact vOk (aI hU (aI c0 (aI c1 w))) jA
  ·exact vEr 1 y1 (by have z:=nn y1;rw[z.1] at c1;show V22 _ (nmE o.other);rw[z.2];exact vW (aI hU (aI c0 (aI c1 w))))
 ·exact vEr 0 y0 (by have z:=nn y0;rw[z.1] at c0;show V22 _ (nmE o.name);rw[z.2];exact vW (aI hU (aI c0 (aI c1 w))))
theorem WG(o:O)(ho:o.Oct)(hn:o.names.length≤1000000)(hi:o.items.length≤1000000):V22 (kO 4 o) (vop (kO 4 o)):=by
 have w:=wb o 4 (by decide)
 have hU:Gxx 83 [vi 4] (.agg [bF,bF,bF,bF,bF,bF,bF,bF,bF,bF,bF,bF,bF]):=iC 4
 have mB:dI (bJ 4)=[false,false,false,false,false,false,false,false,false,false,false,false,false,false]:=by decide
 exact vOk (aI hU w) jA
theorem WH(o:O)(ho:o.Oct)(hn:o.names.length≤1000000)(hi:o.items.length≤1000000):V22 (kO 5 o) (vop (kO 5 o)):=by
 have w:=wb o 5 (by decide)
 have hU:Gxx 83 [vi 5] (.agg [bT,bF,bF,bF,bF,bF,bF,bF,bF,bF,bF,bT,bF]):=iC 5
 have mB:dI (bJ 5)=[true,false,false,false,false,false,false,false,false,false,false,false,true,false]:=by decide
 have c0:=oz o.name ho.1
 have c12:=F8 o.qk o.qkey o.qc o.qn o.qd
 by_cases y0:nmE o.name=0
 ·rw[ni y0] at c0
  by_cases y12:vq o.qk o.qkey o.qc o.qn o.qd=0
  ·rw[y12] at c12
   exact vOk (aI hU (aI c0 (aI c12 w))) jA
  ·exact vEr 12 y12 (by show V22 _ (vq o.qk o.qkey o.qc o.qn o.qd);generalize vq o.qk o.qkey o.qc o.qn o.qd=E at *;exact vW (aI hU (aI c0 (aI c12 w))))
 ·exact vEr 0 y0 (by have z:=nn y0;rw[z.1] at c0;show V22 _ (nmE o.name);rw[z.2];exact vW (aI hU (aI c0 (aI c12 w))))
theorem WI(o:O)(ho:o.Oct)(hn:o.names.length≤1000000)(hi:o.items.length≤1000000):V22 (kO 6 o) (vop (kO 6 o)):=by
 have w:=wb o 6 (by decide)
 have hU:Gxx 83 [vi 6] (.agg [bT,bF,bF,bF,bT,bT,bF,bF,bF,bF,bF,bF,bF]):=iC 6
 have mB:dI (bJ 6)=[true,false,false,false,true,true,false,false,false,false,false,false,false,false]:=by decide
 have c0:=oz o.name ho.1
 have c4:=aac (kO 6 o) hi
 by_cases y0:nmE o.name=0
 ·rw[ni y0] at c0
  by_cases y4:itE o.items=0
  ·rw[show itE o.items=0 from y4] at c4
   by_cases y5:shE o.coins 64=0
   ·have z5:=si y5
    exact vOk (aI hU (aI c0 (aI c4 w))) jA
   ·exact vEr 5 y5 (by have z:=sn y5;show V22 _ (shE o.coins 64);rw[z.2];exact vW (aI hU (aI c0 (aI c4 w))))
  ·exact vEr 4 y4 (by show V22 _ (itE o.items);generalize itE o.items=E at *;exact vW (aI hU (aI c0 (aI c4 w))))
 ·exact vEr 0 y0 (by have z:=nn y0;rw[z.1] at c0;show V22 _ (nmE o.name);rw[z.2];exact vW (aI hU (aI c0 (aI c4 w))))
theorem WJ(o:O)(ho:o.Oct)(hn:o.names.length≤1000000)(hi:o.items.length≤1000000):V22 (kO 7 o) (vop (kO 7 o)):=by
 have w:=wb o 7 (by decide)
 have hU:Gxx 83 [vi 7] (.agg [bT,bT,bF,bF,bF,bT,bF,bF,bF,bF,bF,bF,bF]):=iC 7
 have mB:dI (bJ 7)=[true,true,false,false,false,true,false,false,false,false,false,false,false,false]:=by decide
 have c0:=oz o.name ho.1
 have c1:=oz o.other ho.2.1
 by_cases y0:nmE o.name=0
 ·rw[ni y0] at c0
  by_cases y1:nmE o.other=0
  ·rw[ni y1] at c1
   by_cases y5:shE o.coins 64=0
   ·have z5:=si y5
    exact vOk (aI hU (aI c0 (aI c1 w))) jA
   ·exact vEr 5 y5 (by have z:=sn y5;show V22 _ (shE o.coins 64);rw[z.2];exact vW (aI hU (aI c0 (aI c1 w))))
  ·exact vEr 1 y1 (by have z:=nn y1;rw[z.1] at c1;show V22 _ (nmE o.other);rw[z.2];exact vW (aI hU (aI c0 (aI c1 w))))
 ·exact vEr 0 y0 (by have z:=nn y0;rw[z.1] at c0;show V22 _ (nmE o.name);rw[z.2];exact vW (aI hU (aI c0 (aI c1 w))))
theorem WL(o:O)(ho:o.Oct)(hn:o.names.length≤1000000)(hi:o.items.length≤1000000):V22 (kO 8 o) (vop (kO 8 o)):=by
 have w:=wb o 8 (by decide)
 have hU:Gxx 83 [vi 8] (.agg [bT,bT,bF,bF,bF,bT,bT,bF,bF,bF,bF,bF,bF]):=iC 8
 have mB:dI (bJ 8)=[true,true,false,false,false,true,true,true,false,false,false,false,false,false]:=by decide
 have c0:=oz o.name ho.1
 have c1:=oz o.other ho.2.1
 have c6:=fB o.exp 1 1048576
 have c7:=fB o.src 1 1048576
 by_cases y0:nmE o.name=0
 ·rw[ni y0] at c0
  by_cases y1:nmE o.other=0
  ·rw[ni y1] at c1
   by_cases y5:shE o.coins 64=0
   ·have z5:=si y5
    by_cases y6:bwE o.exp 1 1048576=0
    ·rw[bi y6] at c6
     by_cases y7:bwE o.src 1 1048576=0
     ·rw[bi y7] at c7
      exact vOk (aI hU (aI c0 (aI c1 (aI c6 (aI c7 w))))) jA
     ·exact vEr 7 y7 (by have z:=bn y7;rw[z.1] at c7;show V22 _ (bwE o.src 1 1048576);rw[z.2];exact vW (aI hU (aI c0 (aI c1 (aI c6 (aI c7 w))))))
    ·exact vEr 6 y6 (by have z:=bn y6;rw[z.1] at c6;show V22 _ (bwE o.exp 1 1048576);rw[z.2];exact vW (aI hU (aI c0 (aI c1 (aI c6 (aI c7 w))))))
   ·exact vEr 5 y5 (by have z:=sn y5;show V22 _ (shE o.coins 64);rw[z.2];exact vW (aI hU (aI c0 (aI c1 (aI c6 (aI c7 w))))))
  ·exact vEr 1 y1 (by have z:=nn y1;rw[z.1] at c1;show V22 _ (nmE o.other);rw[z.2];exact vW (aI hU (aI c0 (aI c1 (aI c6 (aI c7 w))))))
 ·exact vEr 0 y0 (by have z:=nn y0;rw[z.1] at c0;show V22 _ (nmE o.name);rw[z.2];exact vW (aI hU (aI c0 (aI c1 (aI c6 (aI c7 w))))))
theorem WM(o:O)(ho:o.Oct)(hn:o.names.length≤1000000)(hi:o.items.length≤1000000):V22 (kO 9 o) (vop (kO 9 o)):=by
 have w:=wb o 9 (by decide)
 have hU:Gxx 83 [vi 9] (.agg [bF,bF,bT,bF,bF,bF,bF,bF,bF,bF,bF,bF,bF]):=iC 9
 have mB:dI (bJ 9)=[false,false,true,false,false,false,false,false,false,false,false,false,false,false]:=by decide
 have c2:=aab (kO 9 o) ho hn
 by_cases y2:lsE o.names=0
 ·rw[show lsE o.names=0 from y2] at c2
  exact vOk (aI hU (aI c2 w)) jA
 ·exact vEr 2 y2 (by show V22 _ (lsE o.names);generalize lsE o.names=E at *;exact vW (aI hU (aI c2 w)))
theorem Qq(o:O)(ho:o.Oct)(hn:o.names.length≤1000000)(hi:o.items.length≤1000000):V22 (kO 10 o) (vop (kO 10 o)):=by
 have w:=wb o 10 (by decide)
 have hU:Gxx 83 [vi 10] (.agg [bF,bF,bF,bF,bF,bF,bF,bT,bT,bF,bF,bT,bF]):=iC 10
 have mB:dI (bJ 10)=[false,false,false,false,false,false,false,false,true,true,false,false,true,false]:=by decide
 have c8:=fB o.hnd 0 3
 have c9:=fB o.idx 0 15
 have c12:=F8 o.qk o.qkey o.qc o.qn o.qd
 by_cases y8:bwE o.hnd 0 3=0
 ·rw[bi y8] at c8
  by_cases y9:bwE o.idx 0 15=0
  ·rw[bi y9] at c9
   by_cases y12:vq o.qk o.qkey o.qc o.qn o.qd=0
   ·rw[y12] at c12
    exact vOk (aI hU (aI c8 (aI c9 (aI c12 w)))) jA
   ·exact vEr 12 y12 (by show V22 _ (vq o.qk o.qkey o.qc o.qn o.qd);generalize vq o.qk o.qkey o.qc o.qn o.qd=E at *;exact vW (aI hU (aI c8 (aI c9 (aI c12 w)))))
  ·exact vEr 9 y9 (by have z:=bn y9;rw[z.1] at c9;show V22 _ (bwE o.idx 0 15);rw[z.2];exact vW (aI hU (aI c8 (aI c9 (aI c12 w)))))
 ·exact vEr 8 y8 (by have z:=bn y8;rw[z.1] at c8;show V22 _ (bwE o.hnd 0 3);rw[z.2];exact vW (aI hU (aI c8 (aI c9 (aI c12 w)))))
theorem Qr(o:O)(ho:o.Oct)(hn:o.names.length≤1000000)(hi:o.items.length≤1000000):V22 (kO 11 o) (vop (kO 11 o)):=by
 have w:=wb o 11 (by decide)
 have hU:Gxx 83 [vi 11] (.agg [bF,bF,bF,bF,bF,bF,bF,bT,bF,bF,bF,bF,bF]):=iC 11
 have mB:dI (bJ 11)=[false,false,false,false,false,false,false,false,true,false,false,false,false,false]:=by decide
 have c8:=fB o.hnd 0 3
 by_cases y8:bwE o.hnd 0 3=0
 ·rw[bi y8] at c8
  exact vOk (aI hU (aI c8 w)) jA
 ·exact vEr 8 y8 (by have z:=bn y8;rw[z.1] at c8;show V22 _ (bwE o.hnd 0 3);rw[z.2];exact vW (aI hU (aI c8 w)))
theorem Qs(o:O)(ho:o.Oct)(hn:o.names.length≤1000000)(hi:o.items.length≤1000000):V22 (kO 12 o) (vop (kO 12 o)):=by
 have w:=wb o 12 (by decide)
 have hU:Gxx 83 [vi 12] (.agg [bF,bF,bF,bF,bF,bF,bF,bT,bT,bF,bF,bF,bF]):=iC 12
 have mB:dI (bJ 12)=[false,false,false,false,false,false,false,false,true,true,false,false,false,false]:=by decide
 have c8:=fB o.hnd 0 3
 have c9:=fB o.idx 0 15
 by_cases y8:bwE o.hnd 0 3=0
 ·rw[bi y8] at c8
  by_cases y9:bwE o.idx 0 15=0
  ·rw[bi y9] at c9
   exact vOk (aI hU (aI c8 (aI c9 w))) jA
  ·exact vEr 9 y9 (by have z:=bn y9;rw[z.1] at c9;show V22 _ (bwE o.idx 0 15);rw[z.2];exact vW (aI hU (aI c8 (aI c9 w))))
 ·exact vEr 8 y8 (by have z:=bn y8;rw[z.1] at c8;show V22 _ (bwE o.hnd 0 3);rw[z.2];exact vW (aI hU (aI c8 (aI c9 w))))
theorem Qu(o:O)(ho:o.Oct)(hn:o.names.length≤1000000)(hi:o.items.length≤1000000):V22 (kO 13 o) (vop (kO 13 o)):=by
 have w:=wb o 13 (by decide)
 have hU:Gxx 83 [vi 13] (.agg [bF,bF,bF,bF,bF,bF,bF,bF,bF,bT,bT,bF,bF]):=iC 13
 have mB:dI (bJ 13)=[false,false,false,false,false,false,false,false,false,false,true,true,false,false]:=by decide
 have c10:=fB o.cur 0 3
 have c11:=fB o.cnt 0 32
 by_cases y10:bwE o.cur 0 3=0
 ·rw[bi y10] at c10
  by_cases y11:bwE o.cnt 0 32=0
  ·rw[bi y11] at c11
   exact vOk (aI hU (aI c10 (aI c11 w))) jA
  ·exact vEr 11 y11 (by have z:=bn y11;rw[z.1] at c11;show V22 _ (bwE o.cnt 0 32);rw[z.2];exact vW (aI hU (aI c10 (aI c11 w))))
 ·exact vEr 10 y10 (by have z:=bn y10;rw[z.1] at c10;show V22 _ (bwE o.cur 0 3);rw[z.2];exact vW (aI hU (aI c10 (aI c11 w))))
theorem Qv(o:O)(ho:o.Oct)(hn:o.names.length≤1000000)(hi:o.items.length≤1000000):V22 (kO 14 o) (vop (kO 14 o)):=by
 have w:=wb o 14 (by decide)
 have hU:Gxx 83 [vi 14] (.agg [bF,bF,bF,bF,bF,bF,bF,bF,bF,bT,bF,bF,bF]):=iC 14
 have mB:dI (bJ 14)=[false,false,false,false,false,false,false,false,false,false,true,false,false,false]:=by decide
 have c10:=fB o.cur 0 3
 by_cases y10:bwE o.cur 0 3=0
 ·rw[bi y10] at c10
  exact vOk (aI hU (aI c10 w)) jA
 ·exact vEr 10 y10 (by have z:=bn y10;rw[z.1] at c10;show V22 _ (bwE o.cur 0 3);rw[z.2];exact vW (aI hU (aI c10 w)))
theorem Qw(o:O)(ho:o.Oct)(hn:o.names.length≤1000000)(hi:o.items.length≤1000000):V22 (kO 15 o) (vop (kO 15 o)):=by
 have w:=wb o 15 (by decide)
 have hU:Gxx 83 [vi 15] (.agg [bF,bF,bF,bF,bF,bF,bF,bT,bT,bF,bF,bF,bF]):=iC 15
 have mB:dI (bJ 15)=[false,false,false,false,false,false,false,false,true,true,false,false,false,false]:=by decide
 have c8:=fB o.hnd 0 3
 have c9:=fB o.idx 0 15
 by_cases y8:bwE o.hnd 0 3=0
 ·rw[bi y8] at c8
  by_cases y9:bwE o.idx 0 15=0
  ·rw[bi y9] at c9
   exact vOk (aI hU (aI c8 (aI c9 w))) jA
  ·exact vEr 9 y9 (by have z:=bn y9;rw[z.1] at c9;show V22 _ (bwE o.idx 0 15);rw[z.2];exact vW (aI hU (aI c8 (aI c9 w))))
 ·exact vEr 8 y8 (by have z:=bn y8;rw[z.1] at c8;show V22 _ (bwE o.hnd 0 3);rw[z.2];exact vW (aI hU (aI c8 (aI c9 w))))
theorem Qx(o:O)(ho:o.Oct)(hn:o.names.length≤1000000)(hi:o.items.length≤1000000):V22 (kO 16 o) (vop (kO 16 o)):=by
 have w:=wb o 16 (by decide)
 have hU:Gxx 83 [vi 16] (.agg [bT,bF,bF,bF,bF,bF,bF,bF,bF,bF,bF,bF,bT]):=iC 16
 have mB:dI (bJ 16)=[true,false,false,false,false,false,false,false,false,false,false,false,false,true]:=by decide
 have c0:=oz o.name ho.1
 by_cases y0:nmE o.name=0
 ·rw[ni y0] at c0
  by_cases y13:shE o.data 65536=0
  ·have z13:=si y13
   exact vOk (aI hU (aI c0 w)) jA
  ·exact vEr 13 y13 (by have z:=sn y13;show V22 _ (shE o.data 65536);rw[z.2];exact vW (aI hU (aI c0 w)))
 ·exact vEr 0 y0 (by have z:=nn y0;rw[z.1] at c0;show V22 _ (nmE o.name);rw[z.2];exact vW (aI hU (aI c0 w)))
theorem Qz(o:O)(ho:o.Oct)(hn:o.names.length≤1000000)(hi:o.items.length≤1000000):V22 (kO 17 o) (vop (kO 17 o)):=by
 have w:=wb o 17 (by decide)
 have hU:Gxx 83 [vi 17] (.agg [bF,bF,bF,bF,bF,bF,bF,bF,bF,bF,bF,bF,bF]):=iC 17
 have mB:dI (bJ 17)=[false,false,false,false,false,false,false,false,false,false,false,false,false,false]:=by decide
 exact vOk (aI hU w) jA
theorem cO(o:O)(ho:o.Oct)(hn:o.names.length≤1000000)(hi:o.items.length≤1000000):V22 o (vop o):=by
 by_cases hk:o.kind<1∨17<o.kind
 ·exact KP o hk
 ·rcases nU hk with h|h|h|h|h|h|h|h|h|h|h|h|h|h|h|h|h
  ·have g:=WC o ho hn hi;rw[←h] at g;exact g
  ·have g:=WE o ho hn hi;rw[←h] at g;exact g
  ·have g:=WF o ho hn hi;rw[←h] at g;exact g
  ·have g:=WG o ho hn hi;rw[←h] at g;exact g
  ·have g:=WH o ho hn hi;rw[←h] at g;exact g
  ·have g:=WI o ho hn hi;rw[←h] at g;exact g
  ·have g:=WJ o ho hn hi;rw[←h] at g;exact g
  ·have g:=WL o ho hn hi;rw[←h] at g;exact g
  ·have g:=WM o ho hn hi;rw[←h] at g;exact g
  ·have g:=Qq o ho hn hi;rw[←h] at g;exact g
  ·have g:=Qr o ho hn hi;rw[←h] at g;exact g
  ·have g:=Qs o ho hn hi;rw[←h] at g;exact g
  ·have g:=Qu o ho hn hi;rw[←h] at g;exact g
  ·have g:=Qv o ho hn hi;rw[←h] at g;exact g
  ·have g:=Qw o ho hn hi;rw[←h] at g;exact g
  ·have g:=Qx o ho hn hi;rw[←h] at g;exact g
  ·have g:=Qz o ho hn hi;rw[←h] at g;exact g
end Go.Proofs.YtjiolbcdfgclaaaGreatDoor
