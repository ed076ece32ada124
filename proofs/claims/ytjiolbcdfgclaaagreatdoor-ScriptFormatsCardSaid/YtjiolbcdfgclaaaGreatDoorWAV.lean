/-
  Texts of this claim, merged; own names are short.
-/
import Derived.Test.YtjiolbcdfgclaaaGreatDoorWAT
import Derived.Test.YtjiolbcdfgclaaaGreatDoorWAU
set_option linter.unusedVariables false
set_option linter.unusedSimpArgs false
set_option linter.unusedSectionVars false
set_option linter.defProp false
set_option maxRecDepth 100000
set_option maxHeartbeats 8000000
namespace Go.Proofs.YtjiolbcdfgclaaaGreatDoor
open Go Go.Pg
def aj7(u:List Int)(o:O):O:=⟨o.kind,bif u.contains 0 then o.name else [],bif u.contains 1 then o.other else [],bif u.contains 2 then o.names else [],bif u.contains 3 then o.pk else 0,bif u.contains 3 then o.pz else 0,bif u.contains 3 then o.pd else 0,bif u.contains 3 then o.ps else 0,bif u.contains 4 then o.items else [],bif u.contains 5 then o.coins else [],bif u.contains 6 then o.exp else 0,bif u.contains 7 then o.src else 0,bif u.contains 8 then o.hnd else 0,bif u.contains 9 then o.idx else 0,bif u.contains 10 then o.cur else 0,bif u.contains 11 then o.cnt else 0,bif u.contains 12 then o.qk else 0,bif u.contains 12 then o.qkey else [],bif u.contains 12 then o.qc else 0,bif u.contains 12 then o.qn else 0,bif u.contains 12 then o.qd else 0,bif u.contains 13 then o.data else []⟩
theorem lw{α:Type}{c:Bool}{x y:α}(h:c=false→x=y):(bif c then x else y)=x:=by cases c;exact (h rfl).symm;rfl
theorem agv{o:O}(hv:vop o=0):aj7 (bJ o.kind) o=o:=by
 have z:∀j:Nat,j<14→(bJ o.kind).contains (j:Int)=false→zro o j=true:=fun j hj hu=>(bW hv).2.2 j hj (by simpa using hu)
 have z3:=fun h=>of_decide_eq_true (z 3 (by omega) h)
 have z12:=fun h=>of_decide_eq_true (z 12 (by omega) h)
 generalize hu:bJ o.kind=u at *
 obtain⟨kind,name,other,names,pk,pz,pd,ps,items,coins,exp,src,hnd,idx,cur,cnt,qk,qkey,qc,qn,qd,data⟩:=o
 simp only[aj7,O.mk.injEq]
 exact⟨trivial,lw fun h=>oJ (z 0 (by omega) h),lw fun h=>oJ (z 1 (by omega) h),lw fun h=>oJ (z 2 (by omega) h),lw fun h=>(z3 h).1,lw fun h=>(z3 h).2.1,lw fun h=>(z3 h).2.2.1,lw fun h=>(z3 h).2.2.2,lw fun h=>oJ (z 4 (by omega) h),lw fun h=>oJ (z 5 (by omega) h),lw fun h=>of_decide_eq_true (z 6 (by omega) h),lw fun h=>of_decide_eq_true (z 7 (by omega) h),lw fun h=>of_decide_eq_true (z 8 (by omega) h),lw fun h=>of_decide_eq_true (z 9 (by omega) h),lw fun h=>of_decide_eq_true (z 10 (by omega) h),lw fun h=>of_decide_eq_true (z 11 (by omega) h),lw fun h=>(z12 h).1,lw fun h=>List.eq_nil_of_length_eq_zero (z12 h).2.1,lw fun h=>(z12 h).2.2.1,lw fun h=>(z12 h).2.2.2.1,lw fun h=>(z12 h).2.2.2.2,lw fun h=>oJ (z 13 (by omega) h)⟩
theorem iI{k:Int}{o:O}(hv:vop o=0)(hk:o.kind=k):{ aj7 (bJ k) o with kind:=k }=o:=by subst hk;exact agv hv
theorem iJ{o:O}(hv:vop o=0):(-999999999999≤o.pz∧o.pz≤999999999999)∧(-999999999999≤o.pd∧o.pd≤999999999999)∧(-999999999999≤o.exp∧o.exp≤999999999999)∧(-999999999999≤o.src∧o.src≤999999999999)∧(-999999999999≤o.hnd∧o.hnd≤999999999999)∧(-999999999999≤o.idx∧o.idx≤999999999999)∧(-999999999999≤o.cur∧o.cur≤999999999999)∧(-999999999999≤o.cnt∧o.cnt≤999999999999)∧(-999999999999≤o.qc∧o.qc≤999999999999)∧(-999999999999≤o.qn∧o.qn≤999999999999)∧(-999999999999≤o.qd∧o.qd≤999999999999):=by
 have c:=(bW hv).2.1
 have z:=(bW hv).2.2
 have g:∀j:Nat,j<14→chk o j=0∨zro o j=true:=fun j hj=>by by_cases h:(j:Int)∈bJ o.kind;exact .inl (c j hj h);exact .inr (z j hj h)
 have y3:(-999999999999≤o.pz∧o.pz≤999999999999)∧(-999999999999≤o.pd∧o.pd≤999999999999):=by
  rcases g 3 (by omega) with h|h
  ·have:=PX h;omega
  ·have:=of_decide_eq_true h;omega
 have y12:(-999999999999≤o.qc∧o.qc≤999999999999)∧(-999999999999≤o.qn∧o.qn≤999999999999)∧(-999999999999≤o.qd∧o.qd≤999999999999):=by
  rcases g 12 (by omega) with h|h
  ·have:=xq h;omega
  ·have:=of_decide_eq_true h;omega
 refine⟨y3.1,y3.2, ?_, ?_, ?_, ?_, ?_, ?_,y12.1,y12.2.1,y12.2.2⟩
 ·rcases g 6 (by omega) with h|h
  ·have:=mQ h;omega
  ·have:=of_decide_eq_true h;omega
 ·rcases g 7 (by omega) with h|h
  ·have:=mQ h;omega
  ·have:=of_decide_eq_true h;omega
 ·rcases g 8 (by omega) with h|h
  ·have:=mQ h;omega
  ·have:=of_decide_eq_true h;omega
 ·rcases g 9 (by omega) with h|h
  ·have:=mQ h;omega
  ·have:=of_decide_eq_true h;omega
 ·rcases g 10 (by omega) with h|h
  ·have:=mQ h;omega
  ·have:=of_decide_eq_true h;omega
 ·rcases g 11 (by omega) with h|h
  ·have:=mQ h;omega
  ·have:=of_decide_eq_true h;omega
theorem wo{x:List Nat}{l:List (List Nat)}(h:WdL (x::l)):∀x∈l,oct x:=fun x hx=>(h x (List.mem_cons_of_mem _ hx)).1
theorem wll{x:List Nat}{l:List (List Nat)}(h:WdL (x::l)):∀x∈l,x.length≤1000000:=fun x hx=>(h x (List.mem_cons_of_mem _ hx)).2.1
theorem wt1{p:List Nat→Prop}{x:List Nat}{l:List (List Nat)}(h:∀y∈x::l,p y):∀y∈l,p y:=fun y hy=>h y (List.mem_cons_of_mem _ hy)
theorem amk{l:List Nat}(h:l=[])(n:Nat):byR n (fb l)=nls:=by rw[h];exact amg n
theorem iw{n:Int}(h : -999999999999≤n∧n≤999999999999):(ak n).length≤100000:=by have:=vX n (by omega) (by omega);omega
def pS:=aI @SK (aI @List.tail_cons.{0} (aI @List.tail_nil.{0} (aI @List.isEmpty_cons.{0} (aI @List.isEmpty_nil.{0} (aI @Bool.false_or (aI @Bool.or_false (aI @amc (aI @amd (aI @ame (aI @amf (aI @aop (aI @amk (aI @amh @Int.toNat_of_nonneg)))))))))))))
abbrev PkP(o:O):Prop:=Gxx 15 [fzs (opW o)] (.tup [.agg (opF o),vi 0])
theorem pO{o o2:O}{W l':List (List Nat)}{bd:Bool}{cs:Nat→List V}(e:o2=o)(ho:o.Oct)(hv:vop o=0)(eW:opW o=W)(hop:∀{e:Nat→V} {bx:Nat→Option (TypeId × List V)} {n:Nat} {h:Nat→V},bx 1=some (108,rdC W false)→1<n→Gxz 54 [.ref 1 0] ⟨e,bx,n,h⟩ ⟨e,upd bx 1 (some (108,rdC l' bd)),n+10000000,h⟩ (.agg (cs n)))
  (h1:l'=[]:=by first|rfl|(simp (disch:=first|assumption|omega) only[pS];done)) (h2:bd=false:=by first|rfl|(simp (disch:=first|assumption|omega) only[pS];done)) (h3:∀n,cs n=opC o2 nls nls nls nls:=by intro n;first|rfl|(simp (disch:=first|assumption|omega) only[pS];done)) (nnames:o2.names=[]:=by first|rfl|assumption) (nitems:o2.items=[]:=by first|rfl|assumption) (ncoins:o2.coins=[]:=by first|rfl|assumption) (ndata:o2.data=[]:=by first|rfl|assumption):PkP o:=by
 subst e h1 h2
 simp only[h3] at hop
 unfold PkP
 rw[eW]
 have hV:=Gy o2 ho hv (by rw[nnames];exact aj _) (by rw[nitems];exact aj _) (by rw[ncoins];exact aj _) (by rw[ndata];exact aj _)
 refine Good.fzt (vs:=[.agg (opC o2 nls nls nls nls),vi 0]) ?_ rfl ⟨fF o2 (by rw[nnames];exact aj _) (by rw[nitems];exact aj _) (by rw[ncoins];exact aj _) (by rw[ndata];exact aj _),aA _,trivial⟩
 clear ho hv eW
 refine gI oW Tryz.func15 Tryz.results15 ?_
 (repeat' (first|(simp (disch:=first|exact dqz|fail) only[pgz,simprocAttr,Tryz.f15,ai])|((with_reducible show gU _ _ _ _ _ _);first|refine cU hV ?_|refine nT _ (hop rfl (by omega)) rfl ?_)|((with_reducible first|apply di|apply bK|apply eX)<;>intro hc<;>(try simp only[hc])<;>(try simp only[pgd] at hc))|(with_reducible refine cK ?_)))
 exact rE []
theorem pOc{o o2:O}{W l':List (List Nat)}{bd:Bool}{cs:Nat→List V}(e:o2=o)(ho:o.Oct)(hv:vop o=0)(eW:opW o=W)(hop:∀{e:Nat→V} {bx:Nat→Option (TypeId × List V)} {n:Nat} {h:Nat→V},bx 1=some (108,rdC W false)→1<n→Gxz 54 [.ref 1 0] ⟨e,bx,n,h⟩ ⟨e,upd bx 1 (some (108,rdC l' bd)),n+10000000,h⟩ (.agg (cs n)))
  (h1:l'=[]:=by first|rfl|(simp (disch:=first|assumption|omega) only[pS];done)) (h2:bd=false:=by first|rfl|(simp (disch:=first|assumption|omega) only[pS];done)) (h3:∀n,cs n=opC o2 nls nls (.sl (.own (n+3+1) 5) 1 (bv o2.coins)) nls:=by intro n;first|rfl|(simp (disch:=first|assumption|omega) only[pS];done)) (nnames:o2.names=[]:=by first|rfl|assumption) (nitems:o2.items=[]:=by first|rfl|assumption) (ndata:o2.data=[]:=by first|rfl|assumption):PkP o:=by
 subst e h1 h2
 simp only[h3] at hop
 unfold PkP
 rw[eW]
 have hV:=Gy o2 ho hv (by rw[nnames];exact aj _) (by rw[nitems];exact aj _) (cu _) (by rw[ndata];exact aj _)
 refine Good.fzt (vs:=[.agg (opC o2 nls nls (.sl (.own 0 5) 1 (bv o2.coins)) nls),vi 0]) ?_ rfl ⟨fF o2 (by rw[nnames];exact aj _) (by rw[nitems];exact aj _) (cu _) (by rw[ndata];exact aj _),aA _,trivial⟩
 clear ho hv eW
 refine gI oW Tryz.func15 Tryz.results15 ?_
 (repeat' (first|(simp (disch:=first|exact dqz|fail) only[pgz,simprocAttr,Tryz.f15,ai])|((with_reducible show gU _ _ _ _ _ _);first|refine cU hV ?_|refine nT _ (hop rfl (by omega)) rfl ?_)|((with_reducible first|apply di|apply bK|apply eX)<;>intro hc<;>(try simp only[hc])<;>(try simp only[pgd] at hc))|(with_reducible refine cK ?_)))
 exact rE [6]
theorem pOd{o o2:O}{W l':List (List Nat)}{bd:Bool}{cs:Nat→List V}(e:o2=o)(ho:o.Oct)(hv:vop o=0)(eW:opW o=W)(hop:∀{e:Nat→V} {bx:Nat→Option (TypeId × List V)} {n:Nat} {h:Nat→V},bx 1=some (108,rdC W false)→1<n→Gxz 54 [.ref 1 0] ⟨e,bx,n,h⟩ ⟨e,upd bx 1 (some (108,rdC l' bd)),n+10000000,h⟩ (.agg (cs n)))
  (h1:l'=[]:=by first|rfl|(simp (disch:=first|assumption|omega) only[pS];done)) (h2:bd=false:=by first|rfl|(simp (disch:=first|assumption|omega) only[pS];done)) (h3:∀n,cs n=opC o2 nls nls nls (.sl (.own (n+3+1) 5) 1 (bv o2.data)):=by intro n;first|rfl|(simp (disch:=first|assumption|omega) only[pS];done)) (nnames:o2.names=[]:=by first|rfl|assumption) (nitems:o2.items=[]:=by first|rfl|assumption) (ncoins:o2.coins=[]:=by first|rfl|assumption):PkP o:=by
 subst e h1 h2
 simp only[h3] at hop
 unfold PkP
 rw[eW]
 have hV:=Gy o2 ho hv (by rw[nnames];exact aj _) (by rw[nitems];exact aj _) (by rw[ncoins];exact aj _) (cu _)
 refine Good.fzt (vs:=[.agg (opC o2 nls nls nls (.sl (.own 0 5) 1 (bv o2.data))),vi 0]) ?_ rfl ⟨fF o2 (by rw[nnames];exact aj _) (by rw[nitems];exact aj _) (by rw[ncoins];exact aj _) (cu _),aA _,trivial⟩
 clear ho hv eW
 refine gI oW Tryz.func15 Tryz.results15 ?_
 (repeat' (first|(simp (disch:=first|exact dqz|fail) only[pgz,simprocAttr,Tryz.f15,ai])|((with_reducible show gU _ _ _ _ _ _);first|refine cU hV ?_|refine nT _ (hop rfl (by omega)) rfl ?_)|((with_reducible first|apply di|apply bK|apply eX)<;>intro hc<;>(try simp only[hc])<;>(try simp only[pgd] at hc))|(with_reducible refine cK ?_)))
 exact rE [6]
theorem pO9{o o2:O}{W:List (List Nat)}{cs:Nat→List V}(e:o2=o)(ho:o.Oct)(hv:vop o=0)(eW:opW o=W)(hop:∀{e:Nat→V} {bx:Nat→Option (TypeId × List V)} {n:Nat} {h:Nat→V},bx 1=some (108,rdC W false)→1<n→Gxz 54 [.ref 1 0] ⟨e,bx,n,h⟩ ⟨e,upd bx 1 (some (108,[nls,vb false])),n+10000000,h⟩ (.agg (cs n)))
  (h3:∀n,cs n=opC o2 (.sl (.own (n+3) 9) 1 (sv o2.names)) nls nls nls:=by intro n;first|rfl|(simp (disch:=first|assumption|omega) only[pS];done)) (nitems:o2.items=[]:=by first|rfl|assumption) (ncoins:o2.coins=[]:=by first|rfl|assumption) (ndata:o2.data=[]:=by first|rfl|assumption):PkP o:=by
 subst e
 simp only[h3] at hop
 unfold PkP
 rw[eW]
 have hV:=Gy o2 ho hv (cu _) (by rw[nitems];exact aj _) (by rw[ncoins];exact aj _) (by rw[ndata];exact aj _)
 refine Good.fzt (vs:=[.agg (opC o2 (.sl (.own 0 9) 1 (sv o2.names)) nls nls nls),vi 0]) ?_ rfl ⟨fF o2 (cu _) (by rw[nitems];exact aj _) (by rw[ncoins];exact aj _) (by rw[ndata];exact aj _),aA _,trivial⟩
 clear ho hv eW
 refine gI oW Tryz.func15 Tryz.results15 ?_
 (repeat' (first|(simp (disch:=first|exact dqz|fail) only[pgz,simprocAttr,Tryz.f15,ai])|((with_reducible show gU _ _ _ _ _ _);first|refine cU hV ?_|refine nT _ (hop rfl (by omega)) rfl ?_)|((with_reducible first|apply di|apply bK|apply eX)<;>intro hc<;>(try simp only[hc])<;>(try simp only[pgd] at hc))|(with_reducible refine cK ?_)))
 exact rE [5]
theorem pO6{o o2:O}{W l':List (List Nat)}{bd:Bool}{cs:Nat→List V}(e:o2=o)(ho:o.Oct)(hv:vop o=0)(eW:opW o=W)(hop:∀{e:Nat→V} {bx:Nat→Option (TypeId × List V)} {n:Nat} {h:Nat→V},bx 1=some (108,rdC W false)→1<n→Gxz 54 [.ref 1 0] ⟨e,bx,n,h⟩ ⟨e,upd bx 1 (some (108,rdC l' bd)),n+10000000,h⟩ (.agg (cs n)))
  (h1:l'=[]:=by first|rfl|(simp (disch:=first|assumption|omega) only[pS];done)) (h2:bd=false:=by first|rfl|(simp (disch:=first|assumption|omega) only[pS];done)) (h3:∀n,cs n=opC o2 nls (.sl (.own (n+1000007) 64) 2 (itv o2.items)) (.sl (.own (n+3+1) 5) 1 (bv o2.coins)) nls:=by intro n;first|rfl|(simp (disch:=first|assumption|omega) only[pS];done)) (nnames:o2.names=[]:=by first|rfl|assumption) (ndata:o2.data=[]:=by first|rfl|assumption):PkP o:=by
 subst e h1 h2
 simp only[h3] at hop
 unfold PkP
 rw[eW]
 have hV:=Gy o2 ho hv (by rw[nnames];exact aj _) (cu _) (cu _) (by rw[ndata];exact aj _)
 refine Good.fzt (vs:=[.agg (opC o2 nls (.sl (.own 1 64) 2 (itv o2.items)) (.sl (.own 0 5) 1 (bv o2.coins)) nls),vi 0]) ?_ rfl ⟨fF o2 (by rw[nnames];exact aj _) (cu _) (cu _) (by rw[ndata];exact aj _),aA _,trivial⟩
 clear ho hv eW
 refine gI oW Tryz.func15 Tryz.results15 ?_
 (repeat' (first|(simp (disch:=first|exact dqz|fail) only[pgz,simprocAttr,Tryz.f15,ai])|((with_reducible show gU _ _ _ _ _ _);first|refine cU hV ?_|refine nT _ (hop rfl (by omega)) rfl ?_)|((with_reducible first|apply di|apply bK|apply eX)<;>intro hc<;>(try simp only[hc])<;>(try simp only[pgd] at hc))|(with_reducible refine cK ?_)))
 exact rE [6,1000009]
theorem aoq{o o2:O}{W l':List (List Nat)}{bd:Bool}{cs:Nat→List V}(e:o2=o)(ho:o.Oct)(hv:vop o=0)(eW:opW o=W)(hop:∀{e:Nat→V} {bx:Nat→Option (TypeId × List V)} {n:Nat} {h:Nat→V},bx 1=some (108,rdC W false)→1<n→Gxz 54 [.ref 1 0] ⟨e,bx,n,h⟩ ⟨e,upd bx 1 (some (108,rdC l' bd)),n+10000000,h⟩ (.agg (cs n)))
  (h1:l'=[]:=by first|rfl|(simp (disch:=first|assumption|omega) only[pS];done)) (h2:bd=false:=by first|rfl|(simp (disch:=first|assumption|omega) only[pS];done)) (h3:∀n,cs n=opC o2 nls (.sl (.own (n+1000007) 64) 2 (itv o2.items)) nls nls:=by intro n;first|rfl|(simp (disch:=first|assumption|omega) only[pS];done)) (nnames:o2.names=[]:=by first|rfl|assumption) (ncoins:o2.coins=[]:=by first|rfl|assumption) (ndata:o2.data=[]:=by first|rfl|assumption):PkP o:=by
 subst e h1 h2
 simp only[h3] at hop
 unfold PkP
 rw[eW]
 have hV:=Gy o2 ho hv (by rw[nnames];exact aj _) (cu _) (by rw[ncoins];exact aj _) (by rw[ndata];exact aj _)
 refine Good.fzt (vs:=[.agg (opC o2 nls (.sl (.own 0 64) 2 (itv o2.items)) nls nls),vi 0]) ?_ rfl ⟨fF o2 (by rw[nnames];exact aj _) (cu _) (by rw[ncoins];exact aj _) (by rw[ndata];exact aj _),aA _,trivial⟩
 clear ho hv eW
 refine gI oW Tryz.func15 Tryz.results15 ?_
 (repeat' (first|(simp (disch:=first|exact dqz|fail) only[pgz,simprocAttr,Tryz.f15,ai])|((with_reducible show gU _ _ _ _ _ _);first|refine cU hV ?_|refine nT _ (hop rfl (by omega)) rfl ?_)|((with_reducible first|apply di|apply bK|apply eX)<;>intro hc<;>(try simp only[hc])<;>(try simp only[pgd] at hc))|(with_reducible refine cK ?_)))
 exact rE [1000009]
theorem agw(o:O)(ok:o.Ok)(hk:o.kind=1)(hj:o.pk=1)(hv:vop o=0):PkP o:=by
 have hW:=dX o ok hv
 have eW:opW o=[[99,114,101,97,116,101],o.name,[116,97,108,108,121]]:=by rw[xu o hk,hj];rfl
 rw[eW] at hW
 have ho:=wo hW
 have hw:=wll hW
 have hn:=iJ hv
 have hz:=PX (pg hk hv)
 have hs:=ok.ps
 replace ho:=wt1 (wt1 (ho))
 replace hw:=wt1 (wt1 (hw))
 have e:{ oZ 1 with name:=o.name,pk:=o.pk,pz:=o.pz,pd:=o.pd,ps:=o.ps }=o:=iI hv hk
 simp only[hj,(by omega:o.pz=0),(by omega:o.pd=0),(by omega:o.ps=0)] at e
 exact pO e ok.oct hv eW (fun hb hbn=>aca 1)
theorem agx(o:O)(ok:o.Ok)(hk:o.kind=1)(hj:o.pk=2)(hv:vop o=0):PkP o:=by
 have hW:=dX o ok hv
 have eW:opW o=[[99,114,101,97,116,101],o.name,[99,111,117,110,116,109,105,110],ak o.pd,ak o.pz,jy o.ps.toNat]:=by rw[xu o hk,hj];rfl
 rw[eW] at hW
 have ho:=wo hW
 have hw:=wll hW
 have hn:=iJ hv
 have hz:=PX (pg hk hv)
 have hs:=ok.ps
 replace ho:=wt1 (wt1 (ho))
 replace hw:=wt1 (wt1 (hw))
 have hoz:=fD o.pz
 have hwz:=iw hn.1
 have hu:o.ps.toNat<18446744073709551616:=by omega
 have hod:=fD o.pd
 have hwd:=iw hn.2.1
 have e:{ oZ 1 with name:=o.name,pk:=o.pk,pz:=o.pz,pd:=o.pd,ps:=o.ps }=o:=iI hv hk
 simp only[hj] at e
 exact pO e ok.oct hv eW (fun hb hbn=>acf 1)
theorem agy(o:O)(ok:o.Ok)(hk:o.kind=1)(hj:o.pk=3)(hv:vop o=0):PkP o:=by
 have hW:=dX o ok hv
 have eW:opW o=[[99,114,101,97,116,101],o.name,[108,111,103,108,111,103],ak o.pz,jy o.ps.toNat]:=by rw[xu o hk,hj];rfl
 rw[eW] at hW
 have ho:=wo hW
 have hw:=wll hW
 have hn:=iJ hv
 have hz:=PX (pg hk hv)
 have hs:=ok.ps
 replace ho:=wt1 (wt1 (ho))
 replace hw:=wt1 (wt1 (hw))
 have hoz:=fD o.pz
 have hwz:=iw hn.1
 have hu:o.ps.toNat<18446744073709551616:=by omega
 have e:{ oZ 1 with name:=o.name,pk:=o.pk,pz:=o.pz,pd:=o.pd,ps:=o.ps }=o:=iI hv hk
 simp only[hj,(by omega:o.pd=0)] at e
 exact pO e ok.oct hv eW (fun hb hbn=>acg 1)
theorem agz(o:O)(ok:o.Ok)(hk:o.kind=1)(hj:o.pk=4)(hv:vop o=0):PkP o:=by
 have hW:=dX o ok hv
 have eW:opW o=[[99,114,101,97,116,101],o.name,[116,111,112],ak o.pz]:=by rw[xu o hk,hj];rfl
 rw[eW] at hW
 have ho:=wo hW
 have hw:=wll hW
 have hn:=iJ hv
 have hz:=PX (pg hk hv)
 have hs:=ok.ps
 replace ho:=wt1 (wt1 (ho))
 replace hw:=wt1 (wt1 (hw))
 have e:{ oZ 1 with name:=o.name,pk:=o.pk,pz:=o.pz,pd:=o.pd,ps:=o.ps }=o:=iI hv hk
 simp only[hj,(by omega:o.pd=0),(by omega:o.ps=0)] at e
 exact pO e ok.oct hv eW (fun hb hbn=>acb 1)
theorem agA(o:O)(ok:o.Ok)(hk:o.kind=1)(hj:o.pk=5)(hv:vop o=0):PkP o:=by
 have hW:=dX o ok hv
 have eW:opW o=[[99,114,101,97,116,101],o.name,[102,114,101,113,117,101,110,116],ak o.pz]:=by rw[xu o hk,hj];rfl
 rw[eW] at hW
 have ho:=wo hW
 have hw:=wll hW
 have hn:=iJ hv
 have hz:=PX (pg hk hv)
 have hs:=ok.ps
 replace ho:=wt1 (wt1 (ho))
 replace hw:=wt1 (wt1 (hw))
 have e:{ oZ 1 with name:=o.name,pk:=o.pk,pz:=o.pz,pd:=o.pd,ps:=o.ps }=o:=iI hv hk
 simp only[hj,(by omega:o.pd=0),(by omega:o.ps=0)] at e
 exact pO e ok.oct hv eW (fun hb hbn=>acd 1)
theorem agB(o:O)(ok:o.Ok)(hk:o.kind=1)(hj:o.pk=6)(hv:vop o=0):PkP o:=by
 have hW:=dX o ok hv
 have eW:opW o=[[99,114,101,97,116,101],o.name,[114,97,110,107,115],ak o.pz]:=by rw[xu o hk,hj];rfl
 rw[eW] at hW
 have ho:=wo hW
 have hw:=wll hW
 have hn:=iJ hv
 have hz:=PX (pg hk hv)
 have hs:=ok.ps
 replace ho:=wt1 (wt1 (ho))
 replace hw:=wt1 (wt1 (hw))
 have e:{ oZ 1 with name:=o.name,pk:=o.pk,pz:=o.pz,pd:=o.pd,ps:=o.ps }=o:=iI hv hk
 simp only[hj,(by omega:o.pd=0),(by omega:o.ps=0)] at e
 exact pO e ok.oct hv eW (fun hb hbn=>ace 1)
theorem aml(o:O)(ok:o.Ok)(hk:o.kind=2)(hv:vop o=0):PkP o:=by
 have hW:=dX o ok hv
 have eW:opW o=[[100,114,111,112],o.name]:=abU o hk
 rw[eW] at hW
 have ho:=wo hW
 have hw:=wll hW
 have hn:=iJ hv
 have e:{ oZ 2 with name:=o.name }=o:=iI hv hk
 exact pO e ok.oct hv eW (fun hb hbn=>aj1 1)
theorem amm(o:O)(ok:o.Ok)(hk:o.kind=3)(hv:vop o=0):PkP o:=by
 have hW:=dX o ok hv
 have eW:opW o=[[114,101,110,97,109,101],o.name,o.other]:=abV o hk
 rw[eW] at hW
 have ho:=wo hW
 have hw:=wll hW
 have hn:=iJ hv
 have e:{ oZ 3 with name:=o.name,other:=o.other }=o:=iI hv hk
 exact pO e ok.oct hv eW (fun hb hbn=>aj2 1)
theorem amn(o:O)(ok:o.Ok)(hk:o.kind=4)(hv:vop o=0):PkP o:=by
 have hW:=dX o ok hv
 have eW:opW o=[[108,105,115,116]]:=abW o hk
 rw[eW] at hW
 have ho:=wo hW
 have hw:=wll hW
 have hn:=iJ hv
 have e:oZ 4=o:=iI hv hk
 exact pO e ok.oct hv eW (fun hb hbn=>aj3 1)
theorem agC(o:O)(ok:o.Ok)(hk:o.kind=5)(hj:o.qk=1)(hv:vop o=0):PkP o:=by
 have hW:=dX o ok hv
 have eW:opW o=[[113,117,101,114,121],o.name,[116,111,116,97,108]]:=by rw[vI o hk,hj];rfl
 rw[eW] at hW
 have ho:=wo hW
 have hw:=wll hW
 have hn:=iJ hv
 have hz:=xq (gm (.inl hk) hv)
 replace ho:=wt1 (wt1 (ho))
 replace hw:=wt1 (wt1 (hw))
 have e:{ oZ 5 with name:=o.name,qk:=o.qk,qkey:=o.qkey,qc:=o.qc,qn:=o.qn,qd:=o.qd }=o:=iI hv hk
 simp only[hj,hz.2.2.2.2.2 (by omega) (by omega),(by omega:o.qc=0),(by omega:o.qn=0),(by omega:o.qd=0)] at e
 exact pO e ok.oct hv eW (fun hb hbn=>ach 1)
theorem agD(o:O)(ok:o.Ok)(hk:o.kind=5)(hj:o.qk=2)(hv:vop o=0):PkP o:=by
 have hW:=dX o ok hv
 have eW:opW o=[[113,117,101,114,121],o.name,[112,111,105,110,116],kw o.qkey]:=by rw[vI o hk,hj];rfl
 rw[eW] at hW
 have ho:=wo hW
 have hw:=wll hW
 have hn:=iJ hv
 have hz:=xq (gm (.inl hk) hv)
 have hkey:=Ai (gm (.inl hk) hv) (by omega)
 have hkeyo:=ok.oct.2.2.2.2.2.1
 replace ho:=wt1 (wt1 (ho))
 replace hw:=wt1 (wt1 (hw))
 have e:{ oZ 5 with name:=o.name,qk:=o.qk,qkey:=o.qkey,qc:=o.qc,qn:=o.qn,qd:=o.qd }=o:=iI hv hk
 simp only[hj,(by omega:o.qc=0),(by omega:o.qn=0),(by omega:o.qd=0)] at e
 exact pO e ok.oct hv eW (fun hb hbn=>aci 1)
theorem agE(o:O)(ok:o.Ok)(hk:o.kind=5)(hj:o.qk=3)(hv:vop o=0):PkP o:=by
 have hW:=dX o ok hv
 have eW:opW o=[[113,117,101,114,121],o.name,[114,101,103,105,115,116,101,114,115]]:=by rw[vI o hk,hj];rfl
 rw[eW] at hW
 have ho:=wo hW
 have hw:=wll hW
 have hn:=iJ hv
 have hz:=xq (gm (.inl hk) hv)
 replace ho:=wt1 (wt1 (ho))
 replace hw:=wt1 (wt1 (hw))
 have e:{ oZ 5 with name:=o.name,qk:=o.qk,qkey:=o.qkey,qc:=o.qc,qn:=o.qn,qd:=o.qd }=o:=iI hv hk
 simp only[hj,hz.2.2.2.2.2 (by omega) (by omega),(by omega:o.qc=0),(by omega:o.qn=0),(by omega:o.qd=0)] at e
 exact pO e ok.oct hv eW (fun hb hbn=>acj 1)
theorem agF(o:O)(ok:o.Ok)(hk:o.kind=5)(hj:o.qk=4)(hv:vop o=0):PkP o:=by
 have hW:=dX o ok hv
 have eW:opW o=[[113,117,101,114,121],o.name,[100,105,115,116,105,110,99,116]]:=by rw[vI o hk,hj];rfl
 rw[eW] at hW
 have ho:=wo hW
 have hw:=wll hW
 have hn:=iJ hv
 have hz:=xq (gm (.inl hk) hv)
 replace ho:=wt1 (wt1 (ho))
 replace hw:=wt1 (wt1 (hw))
 have e:{ oZ 5 with name:=o.name,qk:=o.qk,qkey:=o.qkey,qc:=o.qc,qn:=o.qn,qd:=o.qd }=o:=iI hv hk
 simp only[hj,hz.2.2.2.2.2 (by omega) (by omega),(by omega:o.qc=0),(by omega:o.qn=0),(by omega:o.qd=0)] at e
 exact pO e ok.oct hv eW (fun hb hbn=>ack 1)
theorem agG(o:O)(ok:o.Ok)(hk:o.kind=5)(hj:o.qk=5)(hv:vop o=0):PkP o:=by
 have hW:=dX o ok hv
 have eW:opW o=[[113,117,101,114,121],o.name,[116,111,112],ak o.qc]:=by rw[vI o hk,hj];rfl
 rw[eW] at hW
 have ho:=wo hW
 have hw:=wll hW
 have hn:=iJ hv
 have hz:=xq (gm (.inl hk) hv)
 replace ho:=wt1 (wt1 (ho))
 replace hw:=wt1 (wt1 (hw))
 have e:{ oZ 5 with name:=o.name,qk:=o.qk,qkey:=o.qkey,qc:=o.qc,qn:=o.qn,qd:=o.qd }=o:=iI hv hk
 simp only[hj,hz.2.2.2.2.2 (by omega) (by omega),(by omega:o.qn=0),(by omega:o.qd=0)] at e
 exact pO e ok.oct hv eW (fun hb hbn=>acl 1)
theorem agH(o:O)(ok:o.Ok)(hk:o.kind=5)(hj:o.qk=6)(hv:vop o=0):PkP o:=by
 have hW:=dX o ok hv
 have eW:opW o=[[113,117,101,114,121],o.name,[114,97,110,107],kw o.qkey]:=by rw[vI o hk,hj];rfl
 rw[eW] at hW
 have ho:=wo hW
 have hw:=wll hW
 have hn:=iJ hv
 have hz:=xq (gm (.inl hk) hv)
 have hkey:=Ai (gm (.inl hk) hv) (by omega)
 have hkeyo:=ok.oct.2.2.2.2.2.1
 replace ho:=wt1 (wt1 (ho))
 replace hw:=wt1 (wt1 (hw))
 have e:{ oZ 5 with name:=o.name,qk:=o.qk,qkey:=o.qkey,qc:=o.qc,qn:=o.qn,qd:=o.qd }=o:=iI hv hk
 simp only[hj,(by omega:o.qc=0),(by omega:o.qn=0),(by omega:o.qd=0)] at e
 exact pO e ok.oct hv eW (fun hb hbn=>acm 1)
theorem agI(o:O)(ok:o.Ok)(hk:o.kind=5)(hj:o.qk=7)(hv:vop o=0):PkP o:=by
 have hW:=dX o ok hv
 have eW:opW o=[[113,117,101,114,121],o.name,[113,117,97,110,116,105,108,101],ak o.qn,ak o.qd]:=by rw[vI o hk,hj];rfl
 rw[eW] at hW
 have ho:=wo hW
 have hw:=wll hW
 have hn:=iJ hv
 have hz:=xq (gm (.inl hk) hv)
 replace ho:=wt1 (wt1 (ho))
 replace hw:=wt1 (wt1 (hw))
 have e:{ oZ 5 with name:=o.name,qk:=o.qk,qkey:=o.qkey,qc:=o.qc,qn:=o.qn,qd:=o.qd }=o:=iI hv hk
 simp only[hj,hz.2.2.2.2.2 (by omega) (by omega),(by omega:o.qc=0)] at e
 exact pO e ok.oct hv eW (fun hb hbn=>acn 1)
theorem amo(o:O)(ok:o.Ok)(hk:o.kind=6)(hv:vop o=0):PkP o:=by
 have hW:=dX o ok hv
 have eW:opW o=[105,110,115,101,114,116]::o.name::fb o.coins::lL o.items:=abX o hk
 rw[eW] at hW
 have ho:=wo hW
 have hw:=wll hW
 have hn:=iJ hv
 have hbo:=ok.oct.2.2.2.2.1
 have hi:=IL hk hv
 have hii:=ami o.items [] (fun x hx=>⟨ok.oct.2.2.2.1 x hx,hi.2 x hx⟩)
 have hne2:o.items≠[]:=by intro h;rw[h] at hi;exact absurd hi.1.1 (by decide)
 have e:{ oZ 6 with name:=o.name,items:=o.items,coins:=o.coins }=o:=iI hv hk
 by_cases hne:o.coins=[]
 ·exact aoq e ok.oct hv eW (fun hb hbn=>RX _ _ _ _ 1 (o.name::fb o.coins::lL o.items) hb hbn (by simp only[List.length_cons,yO];omega) ho (abT _ _ _ (oL ((bW hv).2.1 0 (by omega) (by rw[hk];decide))) (Bd ((bW hv).2.1 5 (by omega) (by rw[hk];decide))) ok.wts)) (by simp (disch:=first|assumption|omega) only[pS,hii]) (by simp (disch:=first|assumption|omega) only[pS,hii]) (fun n=>by simp (disch:=first|assumption|omega) only[pS,hii,RV,List.nil_append])
 ·exact pO6 e ok.oct hv eW (fun hb hbn=>RX _ _ _ _ 1 (o.name::fb o.coins::lL o.items) hb hbn (by simp only[List.length_cons,yO];omega) ho (abT _ _ _ (oL ((bW hv).2.1 0 (by omega) (by rw[hk];decide))) (Bd ((bW hv).2.1 5 (by omega) (by rw[hk];decide))) ok.wts)) (by simp (disch:=first|assumption|omega) only[pS,hii]) (by simp (disch:=first|assumption|omega) only[pS,hii]) (fun n=>by simp (disch:=first|assumption|omega) only[pS,hii,RV,List.nil_append])
theorem amq(o:O)(ok:o.Ok)(hk:o.kind=7)(hv:vop o=0):PkP o:=by
 have hW:=dX o ok hv
 have eW:opW o=[[109,101,114,103,101],o.name,o.other,fb o.coins]:=abY o hk
 rw[eW] at hW
 have ho:=wo hW
 have hw:=wll hW
 have hn:=iJ hv
 have hbo:=ok.oct.2.2.2.2.1
 have e:{ oZ 7 with name:=o.name,other:=o.other,coins:=o.coins }=o:=iI hv hk
 by_cases hne:o.coins=[]
 ·exact pO e ok.oct hv eW (fun hb hbn=>aco 1)
 ·exact pOc e ok.oct hv eW (fun hb hbn=>aco 1)
theorem amr(o:O)(ok:o.Ok)(hk:o.kind=8)(hv:vop o=0):PkP o:=by
 have hW:=dX o ok hv
 have eW:opW o=[[99,111,109,112,97,114,101],o.name,o.other,fb o.coins,ak o.exp,ak o.src]:=abZ o hk
 rw[eW] at hW
 have ho:=wo hW
 have hw:=wll hW
 have hn:=iJ hv
 have hbo:=ok.oct.2.2.2.2.1
 have e:{ oZ 8 with name:=o.name,other:=o.other,coins:=o.coins,exp:=o.exp,src:=o.src }=o:=iI hv hk
 by_cases hne:o.coins=[]
 ·exact pO e ok.oct hv eW (fun hb hbn=>acp 1)
 ·exact pOc e ok.oct hv eW (fun hb hbn=>acp 1)
theorem ams(o:O)(ok:o.Ok)(hk:o.kind=9)(hv:vop o=0):PkP o:=by
 have hW:=dX o ok hv
 have eW:opW o=[111,112,101,110]::o.names:=ab1 o hk
 rw[eW] at hW
 have ho:=wo hW
 have hw:=wll hW
 have hn:=iJ hv
 have hnl:=(Sl hk hv).1.2
 have e:{ oZ 9 with names:=o.names }=o:=iI hv hk
 exact pO9 (cs:=fun n=>opC (oZ 9) (.sl (.own (n+3) 9) 1 (sv o.names)) nls nls nls) e ok.oct hv eW (fun hb hbn=>aj6 1)
theorem acr(o:O)(ok:o.Ok)(hk:o.kind=10)(hj:o.qk=1)(hv:vop o=0):PkP o:=by
 have hW:=dX o ok hv
 have eW:opW o=[[114,101,97,100],ak o.hnd,ak o.idx,[116,111,116,97,108]]:=by rw[qN o hk,hj];rfl
 rw[eW] at hW
 have ho:=wo hW
 have hw:=wll hW
 have hn:=iJ hv
 have hz:=xq (gm (.inr hk) hv)
 replace ho:=wt1 (wt1 (wt1 (ho)))
 replace hw:=wt1 (wt1 (wt1 (hw)))
 have hoh:=fD o.hnd
 have hoi:=fD o.idx
 have hwh:=iw hn.2.2.2.2.1
 have hwi:=iw hn.2.2.2.2.2.1
 have hph:=zq hn.2.2.2.2.1
 have hpi:=zq hn.2.2.2.2.2.1
 have e:{ oZ 10 with hnd:=o.hnd,idx:=o.idx,qk:=o.qk,qkey:=o.qkey,qc:=o.qc,qn:=o.qn,qd:=o.qd }=o:=iI hv hk
 simp only[hj,hz.2.2.2.2.2 (by omega) (by omega),(by omega:o.qc=0),(by omega:o.qn=0),(by omega:o.qd=0)] at e
 exact pO e ok.oct hv eW (fun hb hbn=>VM 1)
theorem acs(o:O)(ok:o.Ok)(hk:o.kind=10)(hj:o.qk=2)(hv:vop o=0):PkP o:=by
 have hW:=dX o ok hv
 have eW:opW o=[[114,101,97,100],ak o.hnd,ak o.idx,[112,111,105,110,116],kw o.qkey]:=by rw[qN o hk,hj];rfl
 rw[eW] at hW
 have ho:=wo hW
 have hw:=wll hW
 have hn:=iJ hv
 have hz:=xq (gm (.inr hk) hv)
 have hkey:=Ai (gm (.inr hk) hv) (by omega)
 have hkeyo:=ok.oct.2.2.2.2.2.1
 replace ho:=wt1 (wt1 (wt1 (ho)))
 replace hw:=wt1 (wt1 (wt1 (hw)))
 have hoh:=fD o.hnd
 have hoi:=fD o.idx
 have hwh:=iw hn.2.2.2.2.1
 have hwi:=iw hn.2.2.2.2.2.1
 have hph:=zq hn.2.2.2.2.1
 have hpi:=zq hn.2.2.2.2.2.1
 have e:{ oZ 10 with hnd:=o.hnd,idx:=o.idx,qk:=o.qk,qkey:=o.qkey,qc:=o.qc,qn:=o.qn,qd:=o.qd }=o:=iI hv hk
 simp only[hj,(by omega:o.qc=0),(by omega:o.qn=0),(by omega:o.qd=0)] at e
 exact pO e ok.oct hv eW (fun hb hbn=>VN 1)
theorem acu(o:O)(ok:o.Ok)(hk:o.kind=10)(hj:o.qk=3)(hv:vop o=0):PkP o:=by
 have hW:=dX o ok hv
 have eW:opW o=[[114,101,97,100],ak o.hnd,ak o.idx,[114,101,103,105,115,116,101,114,115]]:=by rw[qN o hk,hj];rfl
 rw[eW] at hW
 have ho:=wo hW
 have hw:=wll hW
 have hn:=iJ hv
 have hz:=xq (gm (.inr hk) hv)
 replace ho:=wt1 (wt1 (wt1 (ho)))
 replace hw:=wt1 (wt1 (wt1 (hw)))
 have hoh:=fD o.hnd
 have hoi:=fD o.idx
 have hwh:=iw hn.2.2.2.2.1
 have hwi:=iw hn.2.2.2.2.2.1
 have hph:=zq hn.2.2.2.2.1
 have hpi:=zq hn.2.2.2.2.2.1
 have e:{ oZ 10 with hnd:=o.hnd,idx:=o.idx,qk:=o.qk,qkey:=o.qkey,qc:=o.qc,qn:=o.qn,qd:=o.qd }=o:=iI hv hk
 simp only[hj,hz.2.2.2.2.2 (by omega) (by omega),(by omega:o.qc=0),(by omega:o.qn=0),(by omega:o.qd=0)] at e
 exact pO e ok.oct hv eW (fun hb hbn=>VO 1)
theorem acv(o:O)(ok:o.Ok)(hk:o.kind=10)(hj:o.qk=4)(hv:vop o=0):PkP o:=by
 have hW:=dX o ok hv
 have eW:opW o=[[114,101,97,100],ak o.hnd,ak o.idx,[100,105,115,116,105,110,99,116]]:=by rw[qN o hk,hj];rfl
 rw[eW] at hW
 have ho:=wo hW
 have hw:=wll hW
 have hn:=iJ hv
 have hz:=xq (gm (.inr hk) hv)
 replace ho:=wt1 (wt1 (wt1 (ho)))
 replace hw:=wt1 (wt1 (wt1 (hw)))
 have hoh:=fD o.hnd
 have hoi:=fD o.idx
 have hwh:=iw hn.2.2.2.2.1
 have hwi:=iw hn.2.2.2.2.2.1
 have hph:=zq hn.2.2.2.2.1
 have hpi:=zq hn.2.2.2.2.2.1
 have e:{ oZ 10 with hnd:=o.hnd,idx:=o.idx,qk:=o.qk,qkey:=o.qkey,qc:=o.qc,qn:=o.qn,qd:=o.qd }=o:=iI hv hk
 simp only[hj,hz.2.2.2.2.2 (by omega) (by omega),(by omega:o.qc=0),(by omega:o.qn=0),(by omega:o.qd=0)] at e
 exact pO e ok.oct hv eW (fun hb hbn=>VP 1)
theorem acw(o:O)(ok:o.Ok)(hk:o.kind=10)(hj:o.qk=5)(hv:vop o=0):PkP o:=by
 have hW:=dX o ok hv
 have eW:opW o=[[114,101,97,100],ak o.hnd,ak o.idx,[116,111,112],ak o.qc]:=by rw[qN o hk,hj];rfl
 rw[eW] at hW
 have ho:=wo hW
 have hw:=wll hW
 have hn:=iJ hv
 have hz:=xq (gm (.inr hk) hv)
 replace ho:=wt1 (wt1 (wt1 (ho)))
 replace hw:=wt1 (wt1 (wt1 (hw)))
 have hoh:=fD o.hnd
 have hoi:=fD o.idx
 have hwh:=iw hn.2.2.2.2.1
 have hwi:=iw hn.2.2.2.2.2.1
 have hph:=zq hn.2.2.2.2.1
 have hpi:=zq hn.2.2.2.2.2.1
 have e:{ oZ 10 with hnd:=o.hnd,idx:=o.idx,qk:=o.qk,qkey:=o.qkey,qc:=o.qc,qn:=o.qn,qd:=o.qd }=o:=iI hv hk
 simp only[hj,hz.2.2.2.2.2 (by omega) (by omega),(by omega:o.qn=0),(by omega:o.qd=0)] at e
 exact pO e ok.oct hv eW (fun hb hbn=>VQ 1)
theorem acx(o:O)(ok:o.Ok)(hk:o.kind=10)(hj:o.qk=6)(hv:vop o=0):PkP o:=by
 have hW:=dX o ok hv
 have eW:opW o=[[114,101,97,100],ak o.hnd,ak o.idx,[114,97,110,107],kw o.qkey]:=by rw[qN o hk,hj];rfl
 rw[eW] at hW
 have ho:=wo hW
 have hw:=wll hW
 have hn:=iJ hv
 have hz:=xq (gm (.inr hk) hv)
 have hkey:=Ai (gm (.inr hk) hv) (by omega)
 have hkeyo:=ok.oct.2.2.2.2.2.1
 replace ho:=wt1 (wt1 (wt1 (ho)))
 replace hw:=wt1 (wt1 (wt1 (hw)))
 have hoh:=fD o.hnd
 have hoi:=fD o.idx
 have hwh:=iw hn.2.2.2.2.1
 have hwi:=iw hn.2.2.2.2.2.1
 have hph:=zq hn.2.2.2.2.1
 have hpi:=zq hn.2.2.2.2.2.1
 have e:{ oZ 10 with hnd:=o.hnd,idx:=o.idx,qk:=o.qk,qkey:=o.qkey,qc:=o.qc,qn:=o.qn,qd:=o.qd }=o:=iI hv hk
 simp only[hj,(by omega:o.qc=0),(by omega:o.qn=0),(by omega:o.qd=0)] at e
 exact pO e ok.oct hv eW (fun hb hbn=>VR 1)
theorem acy(o:O)(ok:o.Ok)(hk:o.kind=10)(hj:o.qk=7)(hv:vop o=0):PkP o:=by
 have hW:=dX o ok hv
 have eW:opW o=[[114,101,97,100],ak o.hnd,ak o.idx,[113,117,97,110,116,105,108,101],ak o.qn,ak o.qd]:=by rw[qN o hk,hj];rfl
 rw[eW] at hW
 have ho:=wo hW
 have hw:=wll hW
 have hn:=iJ hv
 have hz:=xq (gm (.inr hk) hv)
 replace ho:=wt1 (wt1 (wt1 (ho)))
 replace hw:=wt1 (wt1 (wt1 (hw)))
 have hoh:=fD o.hnd
 have hoi:=fD o.idx
 have hwh:=iw hn.2.2.2.2.1
 have hwi:=iw hn.2.2.2.2.2.1
 have hph:=zq hn.2.2.2.2.1
 have hpi:=zq hn.2.2.2.2.2.1
 have e:{ oZ 10 with hnd:=o.hnd,idx:=o.idx,qk:=o.qk,qkey:=o.qkey,qc:=o.qc,qn:=o.qn,qd:=o.qd }=o:=iI hv hk
 simp only[hj,hz.2.2.2.2.2 (by omega) (by omega),(by omega:o.qc=0)] at e
 exact pO e ok.oct hv eW (fun hb hbn=>VS 1)
theorem aj8(o:O)(ok:o.Ok)(hk:o.kind=11)(hv:vop o=0):PkP o:=by
 have hW:=dX o ok hv
 have eW:opW o=[[99,108,111,115,101],ak o.hnd]:=SL o hk
 rw[eW] at hW
 have ho:=wo hW
 have hw:=wll hW
 have hn:=iJ hv
 have e:{ oZ 11 with hnd:=o.hnd }=o:=iI hv hk
 exact pO e ok.oct hv eW (fun hb hbn=>agq 1)
theorem aj9(o:O)(ok:o.Ok)(hk:o.kind=12)(hv:vop o=0):PkP o:=by
 have hW:=dX o ok hv
 have eW:opW o=[[99,117,114,115,111,114],ak o.hnd,ak o.idx]:=SN o hk
 rw[eW] at hW
 have ho:=wo hW
 have hw:=wll hW
 have hn:=iJ hv
 have e:{ oZ 12 with hnd:=o.hnd,idx:=o.idx }=o:=iI hv hk
 exact pO e ok.oct hv eW (fun hb hbn=>agr 1)
theorem aka(o:O)(ok:o.Ok)(hk:o.kind=13)(hv:vop o=0):PkP o:=by
 have hW:=dX o ok hv
 have eW:opW o=[[110,101,120,116],ak o.cur,ak o.cnt]:=SQ o hk
 rw[eW] at hW
 have ho:=wo hW
 have hw:=wll hW
 have hn:=iJ hv
 have e:{ oZ 13 with cur:=o.cur,cnt:=o.cnt }=o:=iI hv hk
 exact pO e ok.oct hv eW (fun hb hbn=>agt 1)
theorem akb(o:O)(ok:o.Ok)(hk:o.kind=14)(hv:vop o=0):PkP o:=by
 have hW:=dX o ok hv
 have eW:opW o=[[101,110,100],ak o.cur]:=SS o hk
 rw[eW] at hW
 have ho:=wo hW
 have hw:=wll hW
 have hn:=iJ hv
 have e:{ oZ 14 with cur:=o.cur }=o:=iI hv hk
 exact pO e ok.oct hv eW (fun hb hbn=>agu 1)
theorem akc(o:O)(ok:o.Ok)(hk:o.kind=15)(hv:vop o=0):PkP o:=by
 have hW:=dX o ok hv
 have eW:opW o=[[101,120,112,111,114,116],ak o.hnd,ak o.idx]:=SV o hk
 rw[eW] at hW
 have ho:=wo hW
 have hw:=wll hW
 have hn:=iJ hv
 have e:{ oZ 15 with hnd:=o.hnd,idx:=o.idx }=o:=iI hv hk
 exact pO e ok.oct hv eW (fun hb hbn=>ags 1)
theorem akd(o:O)(ok:o.Ok)(hk:o.kind=16)(hv:vop o=0):PkP o:=by
 have hW:=dX o ok hv
 have eW:opW o=[[105,109,112,111,114,116],o.name,fb o.data]:=SX o hk
 rw[eW] at hW
 have ho:=wo hW
 have hw:=wll hW
 have hn:=iJ hv
 have hbo:=ok.oct.2.2.2.2.2.2
 have e:{ oZ 16 with name:=o.name,data:=o.data }=o:=iI hv hk
 by_cases hne:o.data=[]
 ·exact pO e ok.oct hv eW (fun hb hbn=>S9 1)
 ·exact pOd e ok.oct hv eW (fun hb hbn=>S9 1)
theorem ake(o:O)(ok:o.Ok)(hk:o.kind=17)(hv:vop o=0):PkP o:=by
 have hW:=dX o ok hv
 have eW:opW o=[[99,111,108,108,101,99,116]]:=SY o hk
 rw[eW] at hW
 have ho:=wo hW
 have hw:=wll hW
 have hn:=iJ hv
 have e:oZ 17=o:=iI hv hk
 exact pO e ok.oct hv eW (fun hb hbn=>agp 1)
theorem VT(o:O)(ok:o.Ok)(hv:vop o=0):PkP o:=by
 rcases nU (k:=o.kind) (by have:=(bW hv).1;omega) with h|h|h|h|h|h|h|h|h|h|h|h|h|h|h|h|h
 ·rcases FY (pg h hv) with q|q|q|q|q|q
  ·exact agw o ok h q hv
  ·exact agx o ok h q hv
  ·exact agy o ok h q hv
  ·exact agz o ok h q hv
  ·exact agA o ok h q hv
  ·exact agB o ok h q hv
 ·exact aml o ok h hv
 ·exact amm o ok h hv
 ·exact amn o ok h hv
 ·rcases Sm (gm (.inl h) hv) with q|q|q|q|q|q|q
  ·exact agC o ok h q hv
  ·exact agD o ok h q hv
  ·exact agE o ok h q hv
  ·exact agF o ok h q hv
  ·exact agG o ok h q hv
  ·exact agH o ok h q hv
  ·exact agI o ok h q hv
 ·exact amo o ok h hv
 ·exact amq o ok h hv
 ·exact amr o ok h hv
 ·exact ams o ok h hv
 ·rcases Sm (gm (.inr h) hv) with q|q|q|q|q|q|q
  ·exact acr o ok h q hv
  ·exact acs o ok h q hv
  ·exact acu o ok h q hv
  ·exact acv o ok h q hv
  ·exact acw o ok h q hv
  ·exact acx o ok h q hv
  ·exact acy o ok h q hv
 ·exact aj8 o ok h hv
 ·exact aj9 o ok h hv
 ·exact aka o ok h hv
 ·exact akb o ok h hv
 ·exact akc o ok h hv
 ·exact akd o ok h hv
 ·exact ake o ok h hv
def MO:List (List Nat):=[[],[65],[97,45,49,46,120],[48,49,50,51,52,53,54,55,56,57,48,49,50,51,52,53,54]]
theorem akf(e:Nat→V)(b:Nat→Option (TypeId × List V))(n:Nat)(h:Nat→V):bV Tryz.prog ⟨e,b,n,h⟩ 23 4 [(0,V.c (.string (sB []))),(1,V.c (.string ⟨#[65]⟩)),(2,V.c (.string ⟨#[97,45,49,46,120]⟩)),(3,V.c (.string ⟨#[48,49,50,51,52,53,54,55,56,57,48,49,50,51,52,53,54]⟩))]=some (.sl (.own n 9) 1 (sv MO),⟨e,b,n+1,h⟩):=by
 rw[eG,qQ,Option.bind_some,x8,Option.bind_some,xZ,Option.bind_some]
 rfl
def MP:List (List Nat):=[[],[98],[98,32,98],[99]]
theorem akg(e:Nat→V)(b:Nat→Option (TypeId × List V))(n:Nat)(h:Nat→V):bV Tryz.prog ⟨e,b,n,h⟩ 23 4 [(0,V.c (.string (sB []))),(1,V.c (.string ⟨#[98]⟩)),(2,V.c (.string ⟨#[98,32,98]⟩)),(3,V.c (.string ⟨#[99]⟩))]=some (.sl (.own n 9) 1 (sv MP),⟨e,b,n+1,h⟩):=by
 rw[eG,qQ,Option.bind_some,x8,Option.bind_some,xZ,Option.bind_some]
 rfl
def xw:List (List Nat):=[[],[97],[63]]
theorem akh:mvS Tryz.prog 23 3 [(0,V.c (.string (sB []))),(1,V.c (.string ⟨#[97]⟩)),(2,V.c (.string ⟨#[63]⟩))]=some (.sl .fz 1 (sv xw)):=by
 rw[ag6,qQ,Option.bind_some,x8,Option.bind_some,xZ,Option.bind_some]
 rfl
def uk:List Int:=[0,1,1048576,1048577]
theorem iv4:[V.c (.int .i64 0),V.c (.int .i64 1),V.c (.int .i64 1048576),V.c (.int .i64 1048577)]=iv uk:=rfl
theorem Tc:V.idsL (iv uk)=[]:=rfl
def spK(n:Int):Nat:=(n.fdiv 32%16777216).toNat
theorem jw(n:Int):spK n<16777216:=by unfold spK;omega
theorem tV(n:Int):bits .and .i64 (n.fdiv (2^min 5 IntKind.i64.bits)) 16777215=((spK n:Nat):Int):=by
 have e:n.fdiv (2^min 5 IntKind.i64.bits)=n.fdiv 32:=rfl
 rw[e]
 refine Eq.trans (show _=n.fdiv 32%16777216 from jH (n.fdiv 32) 24 (by decide)) ?_
 unfold spK;omega
theorem lW(n:Int):bits .and .i64 n 31=n%32:=jH n 5 (by decide)
theorem aor(n:Nat):Int.tmod (n:Int) 22=((n%22:Nat):Int):=rfl
theorem ahn(n:Nat):Int.tmod (n:Int) 20=((n%20:Nat):Int):=rfl
theorem tm9(n:Nat):Int.tmod (n:Int) 9=((n%9:Nat):Int):=rfl
theorem amu(n:Nat):Int.tmod (n:Int) 40=((n%40:Nat):Int):=rfl
theorem tm2(n:Nat):Int.tmod (n:Int) 2=((n%2:Nat):Int):=rfl
theorem tm8(n:Nat):Int.tmod (n:Int) 8=((n%8:Nat):Int):=rfl
theorem aki(n:Nat):List.replicate n (V.c (.string (sB [])))=sv (List.replicate n []):=by simp [sv]
theorem agJ(n:Nat):List.replicate n (V.agg [V.c (.string (sB [])),vi 0])=itv (List.replicate n ([],0)):=by simp [itv]
theorem acz(n:Nat):List.replicate n (V.c (.int .u8 0))=bv (List.replicate n 0):=by simp [bv]
def spO(o:O)(j k:Nat):O :=
 if j=0 then { o with kind:=((k%22:Nat):Int)-2 }
 else if j=1 then { o with name:=MO.getD (k%4) [] }
 else if j=2 then { o with other:=MP.getD (k%4) [] }
 else if j=3 then { o with names:=o.names++[xw.getD (k%3) []] }
 else if j=4 then { o with names:=List.replicate (k%20) [] }
 else if j=5 then { o with pk:=((k%9:Nat):Int),pz:=((k / 8%40:Nat):Int),pd:=((k / 32%3:Nat):Int),ps:=0 }
 else if j=6 then { o with items:=o.items++[(wC (k:Int),((k%3:Nat):Int)-1)] }
 else if j=7 then { o with items:=List.replicate (64+k%2) ([],0) }
 else if j=8 then { o with coins:=List.replicate (60+k%9) 0 }
 else if j=9 then { o with exp:=uk.getD (k%4) 0 }
 else if j=10 then { o with src:=uk.getD (k%4) 0 }
 else if j=11 then { o with hnd:=((k%8:Nat):Int)-2 }
 else if j=12 then { o with idx:=((k%20:Nat):Int)-2 }
 else if j=13 then { o with cur:=((k%8:Nat):Int)-2 }
 else if j=14 then { o with cnt:=((k%40:Nat):Int)-3 }
 else if j=15 then { o with qk:=(uj k).1,qkey:=(uj k).2.1,qc:=(uj k).2.2.1,qn:=(uj k).2.2.2.1,qd:=(uj k).2.2.2.2 }
 else if j=16 then { o with data:=List.replicate (65536+k%2) 0 }
 else if j=17 then { o with data:=[1] }
 else o
def aX(o:O)(n:Int):O:=spO o (n%32).toNat (spK n)
theorem VU(o:O)(n:Int)(hn:o.names.length≤1000000)(hi:o.items.length≤1000000)(hc:n%32=0):Gxx 11 [.agg (opF o),vi n] (.agg (opF (aX o n))):=by
 have hkk:=tV n
 have hk24:=jw n
 have eo:aX o n=spO o 0 (spK n):=by unfold aX;rw[hc];rfl
 rw[eo]
 generalize spK n=k at *
 have eo2:spO o 0 k={ o with kind:=((k%22:Nat):Int)-2 }:=rfl
 rw[eo2]
 clear eo eo2
 have q1:=au o.names
 have q2:=aB o.items
 have h31:=lW n
 rw[hc] at h31
 obtain⟨kind,name,other,names,pk,pz,pd,ps,items,coins,exp,src,hnd,idx,cur,cnt,qk,qkey,qc,qn,qd,data⟩:=o
 simp only at *
 refine gI oW Tryz.func11 Tryz.results11 ?_
 exact wR (aI @hkk (aI @h31 (aI @shB (aI @anB (aI @ai @aor))))) trivial ah
theorem VV(o:O)(n:Int)(hn:o.names.length≤1000000)(hi:o.items.length≤1000000)(hc:n%32=1):Gxx 11 [.agg (opF o),vi n] (.agg (opF (aX o n))):=by
 have hkk:=tV n
 have hk24:=jw n
 have eo:aX o n=spO o 1 (spK n):=by unfold aX;rw[hc];rfl
 rw[eo]
 generalize spK n=k at *
 have eo2:spO o 1 k={ o with name:=MO.getD (k%4) [] }:=rfl
 rw[eo2]
 clear eo eo2
 have q1:=au o.names
 have q2:=aB o.items
 have h31:=lW n
 rw[hc] at h31
 have hl1:=au MO
 have hL1:MO.length=4:=rfl
 have hg1:=iK MO (k%4) (by rw[hL1];omega)
 generalize MO.getD (k%4) []=x at *
 obtain⟨kind,name,other,names,pk,pz,pd,ps,items,coins,exp,src,hnd,idx,cur,cnt,qk,qkey,qc,qn,qd,data⟩:=o
 simp only at *
 refine gI oW Tryz.func11 Tryz.results11 ?_
 exact wR' (aI @hkk (aI @h31 (aI @shB (aI @anB (aI @ai (aI @akf (aI @hg1 @hl1))))))) trivial ah
theorem VW(o:O)(n:Int)(hn:o.names.length≤1000000)(hi:o.items.length≤1000000)(hc:n%32=2):Gxx 11 [.agg (opF o),vi n] (.agg (opF (aX o n))):=by
 have hkk:=tV n
 have hk24:=jw n
 have eo:aX o n=spO o 2 (spK n):=by unfold aX;rw[hc];rfl
 rw[eo]
 generalize spK n=k at *
 have eo2:spO o 2 k={ o with other:=MP.getD (k%4) [] }:=rfl
 rw[eo2]
 clear eo eo2
 have q1:=au o.names
 have q2:=aB o.items
 have h31:=lW n
 rw[hc] at h31
 have hl2:=au MP
 have hL2:MP.length=4:=rfl
 have hg2:=iK MP (k%4) (by rw[hL2];omega)
 generalize MP.getD (k%4) []=x at *
 obtain⟨kind,name,other,names,pk,pz,pd,ps,items,coins,exp,src,hnd,idx,cur,cnt,qk,qkey,qc,qn,qd,data⟩:=o
 simp only at *
 refine gI oW Tryz.func11 Tryz.results11 ?_
 exact wR' (aI @hkk (aI @h31 (aI @shB (aI @anB (aI @ai (aI @akg (aI @hg2 @hl2))))))) trivial ah
theorem VX(o:O)(n:Int)(hn:o.names.length≤1000000)(hi:o.items.length≤1000000)(hc:n%32=3):Gxx 11 [.agg (opF o),vi n] (.agg (opF (aX o n))):=by
 have hkk:=tV n
 have hk24:=jw n
 have eo:aX o n=spO o 3 (spK n):=by unfold aX;rw[hc];rfl
 rw[eo]
 generalize spK n=k at *
 have eo2:spO o 3 k={ o with names:=o.names++[xw.getD (k%3) []] }:=rfl
 rw[eo2]
 clear eo eo2
 refine Good.fzr (r := .agg (opC { o with names:=o.names++[xw.getD (k%3) []] } (.sl (.own 0 9) 1 (sv (o.names++[xw.getD (k%3) []]))) (fzt o.items) (fzb o.coins) (fzb o.data))) ?_ rfl (fF { o with names:=o.names++[xw.getD (k%3) []] } (cu _) (cu _) (cu _) (cu _))
 have q1:=au o.names
 have q2:=aB o.items
 have h31:=lW n
 rw[hc] at h31
 have hl3:=au xw
 have hL3:xw.length=3:=rfl
 have hg3:=iK xw (k%3) (by rw[hL3];omega)
 have hr3:([vs [],V.c (.string ⟨#[97]⟩),V.c (.string ⟨#[63]⟩)]:List V)[k%3]?=some (vs (xw.getD (k%3) [])):=hg3
 have svn:=svS o.names (xw.getD (k%3) [])
 generalize xw.getD (k%3) []=x at *
 obtain⟨kind,name,other,names,pk,pz,pd,ps,items,coins,exp,src,hnd,idx,cur,cnt,qk,qkey,qc,qn,qd,data⟩:=o
 simp only at *
 refine dE (JJ (fun d=>bif d == 38 then true else bif d == 43 then true else false) [] mix) Tryz.func11 rfl Tryz.results11 rfl (by kernel_rfl) (Nat.le_of_ble_eq_true (by kernel_rfl)) ?_
 exact wR' (aI @pgF (aI @hkk (aI @h31 (aI @shB (aI @anB (aI @ai (aI @akh (aI @eG (aI @tm3 (aI @hr3 (aI @hg3 (aI @hl3 (aI @q1 @svn))))))))))))) trivial (ids [2])
theorem VY(o:O)(n:Int)(hn:o.names.length≤1000000)(hi:o.items.length≤1000000)(hc:n%32=4):Gxx 11 [.agg (opF o),vi n] (.agg (opF (aX o n))):=by
 have hkk:=tV n
 have hk24:=jw n
 have eo:aX o n=spO o 4 (spK n):=by unfold aX;rw[hc];rfl
 rw[eo]
 generalize spK n=k at *
 have eo2:spO o 4 k={ o with names:=List.replicate (k%20) [] }:=rfl
 rw[eo2]
 clear eo eo2
 refine Good.fzr (r := .agg (opC { o with names:=List.replicate (k%20) [] } (.sl (.own 0 9) 1 (sv (List.replicate (k%20) []))) (fzt o.items) (fzb o.coins) (fzb o.data))) ?_ rfl (fF { o with names:=List.replicate (k%20) [] } (cu _) (cu _) (cu _) (cu _))
 have q1:=au o.names
 have q2:=aB o.items
 have h31:=lW n
 rw[hc] at h31
 generalize hR:List.replicate (k%20) ([]:List Nat)=R at *
 obtain⟨kind,name,other,names,pk,pz,pd,ps,items,coins,exp,src,hnd,idx,cur,cnt,qk,qkey,qc,qn,qd,data⟩:=o
 simp only at *
 refine gI oW Tryz.func11 Tryz.results11 ?_
 exact wR (aI @hkk (aI @h31 (aI @shB (aI @anB (aI @ai (aI @ahn (aI @aki @hR))))))) trivial (ids [2])
theorem VZ(o:O)(n:Int)(hn:o.names.length≤1000000)(hi:o.items.length≤1000000)(hc:n%32=5):Gxx 11 [.agg (opF o),vi n] (.agg (opF (aX o n))):=by
 have hkk:=tV n
 have hk24:=jw n
 have eo:aX o n=spO o 5 (spK n):=by unfold aX;rw[hc];rfl
 rw[eo]
 generalize spK n=k at *
 have eo2:spO o 5 k={ o with pk:=((k%9:Nat):Int),pz:=((k / 8%40:Nat):Int),pd:=((k / 32%3:Nat):Int),ps:=0 }:=rfl
 rw[eo2]
 clear eo eo2
 have q1:=au o.names
 have q2:=aB o.items
 have h31:=lW n
 rw[hc] at h31
 obtain⟨kind,name,other,names,pk,pz,pd,ps,items,coins,exp,src,hnd,idx,cur,cnt,qk,qkey,qc,qn,qd,data⟩:=o
 simp only at *
 refine gI oW Tryz.func11 Tryz.results11 ?_
 exact wR (aI @hkk (aI @h31 (aI @shB (aI @anB (aI @ai (aI @tm9 (aI @amu @tm3))))))) trivial ah
theorem V3(o:O)(n:Int)(hn:o.names.length≤1000000)(hi:o.items.length≤1000000)(hc:n%32=6):Gxx 11 [.agg (opF o),vi n] (.agg (opF (aX o n))):=by
 have hkk:=tV n
 have hk24:=jw n
 have eo:aX o n=spO o 6 (spK n):=by unfold aX;rw[hc];rfl
 rw[eo]
 generalize spK n=k at *
 have eo2:spO o 6 k={ o with items:=o.items++[(wC (k:Int),((k%3:Nat):Int)-1)] }:=rfl
 rw[eo2]
 clear eo eo2
 refine Good.fzr (r := .agg (opC { o with items:=o.items++[(wC (k:Int),((k%3:Nat):Int)-1)] } (fzs o.names) (.sl (.own 0 64) 2 (itv (o.items++[(wC (k:Int),((k%3:Nat):Int)-1)]))) (fzb o.coins) (fzb o.data))) ?_ rfl (fF { o with items:=o.items++[(wC (k:Int),((k%3:Nat):Int)-1)] } (cu _) (cu _) (cu _) (cu _))
 have q1:=au o.names
 have q2:=aB o.items
 have h31:=lW n
 rw[hc] at h31
 have hkey:=abb (k:Int)
 have itn:=LH o.items (wC (k:Int)) (((k%3:Nat):Int)-1)
 obtain⟨kind,name,other,names,pk,pz,pd,ps,items,coins,exp,src,hnd,idx,cur,cnt,qk,qkey,qc,qn,qd,data⟩:=o
 simp only at *
 refine gI oW Tryz.func11 Tryz.results11 ?_
 exact wR (aI @hkk (aI @h31 (aI @shB (aI @anB (aI @ai (aI @tm3 (aI @q2 @itn))))))) hkey (ids [2])
theorem V4(o:O)(n:Int)(hn:o.names.length≤1000000)(hi:o.items.length≤1000000)(hc:n%32=7):Gxx 11 [.agg (opF o),vi n] (.agg (opF (aX o n))):=by
 have hkk:=tV n
 have hk24:=jw n
 have eo:aX o n=spO o 7 (spK n):=by unfold aX;rw[hc];rfl
 rw[eo]
 generalize spK n=k at *
 have eo2:spO o 7 k={ o with items:=List.replicate (64+k%2) ([],0) }:=rfl
 rw[eo2]
 clear eo eo2
 refine Good.fzr (r := .agg (opC { o with items:=List.replicate (64+k%2) ([],0) } (fzs o.names) (.sl (.own 0 64) 2 (itv (List.replicate (64+k%2) ([],0)))) (fzb o.coins) (fzb o.data))) ?_ rfl (fF { o with items:=List.replicate (64+k%2) ([],0) } (cu _) (cu _) (cu _) (cu _))
 have q1:=au o.names
 have q2:=aB o.items
 have h31:=lW n
 rw[hc] at h31
 have hN:((64:Int)+((k%2:Nat):Int)).toNat=64+k%2:=by omega
 obtain⟨kind,name,other,names,pk,pz,pd,ps,items,coins,exp,src,hnd,idx,cur,cnt,qk,qkey,qc,qn,qd,data⟩:=o
 simp only at *
 refine gI oW Tryz.func11 Tryz.results11 ?_
 exact wR (aI @hkk (aI @h31 (aI @shB (aI @anB (aI @ai (aI @tm2 (aI @agJ @hN))))))) trivial (ids [2])
theorem V5(o:O)(n:Int)(hn:o.names.length≤1000000)(hi:o.items.length≤1000000)(hc:n%32=8):Gxx 11 [.agg (opF o),vi n] (.agg (opF (aX o n))):=by
 have hkk:=tV n
 have hk24:=jw n
 have eo:aX o n=spO o 8 (spK n):=by unfold aX;rw[hc];rfl
 rw[eo]
 generalize spK n=k at *
 have eo2:spO o 8 k={ o with coins:=List.replicate (60+k%9) 0 }:=rfl
 rw[eo2]
 clear eo eo2
 refine Good.fzr (r := .agg (opC { o with coins:=List.replicate (60+k%9) 0 } (fzs o.names) (fzt o.items) (.sl (.own 0 5) 1 (bv (List.replicate (60+k%9) 0))) (fzb o.data))) ?_ rfl (fF { o with coins:=List.replicate (60+k%9) 0 } (cu _) (cu _) (cu _) (cu _))
 have q1:=au o.names
 have q2:=aB o.items
 have h31:=lW n
 rw[hc] at h31
 have hN:((60:Int)+((k%9:Nat):Int)).toNat=60+k%9:=by omega
 obtain⟨kind,name,other,names,pk,pz,pd,ps,items,coins,exp,src,hnd,idx,cur,cnt,qk,qkey,qc,qn,qd,data⟩:=o
 simp only at *
 refine gI oW Tryz.func11 Tryz.results11 ?_
 exact wR (aI @hkk (aI @h31 (aI @shB (aI @anB (aI @ai (aI @tm9 (aI @acz @hN))))))) trivial (ids [2])
theorem V6(o:O)(n:Int)(hn:o.names.length≤1000000)(hi:o.items.length≤1000000)(hc:n%32=9):Gxx 11 [.agg (opF o),vi n] (.agg (opF (aX o n))):=by
 have hkk:=tV n
 have hk24:=jw n
 have eo:aX o n=spO o 9 (spK n):=by unfold aX;rw[hc];rfl
 rw[eo]
 generalize spK n=k at *
 have eo2:spO o 9 k={ o with exp:=uk.getD (k%4) 0 }:=rfl
 rw[eo2]
 clear eo eo2
 have q1:=au o.names
 have q2:=aB o.items
 have h31:=lW n
 rw[hc] at h31
 have hl4:=bP uk
 have hL4:uk.length=4:=rfl
 have hg4:=mg uk (k%4) (by rw[hL4];omega)
 generalize uk.getD (k%4) 0=x at *
 obtain⟨kind,name,other,names,pk,pz,pd,ps,items,coins,exp,src,hnd,idx,cur,cnt,qk,qkey,qc,qn,qd,data⟩:=o
 simp only at *
 refine gI oW Tryz.func11 Tryz.results11 ?_
 exact wR (aI @hkk (aI @h31 (aI @shB (aI @anB (aI @ai (aI @iv4 (aI @Tc (aI @hg4 @hl4)))))))) trivial ah
theorem P9(o:O)(n:Int)(hn:o.names.length≤1000000)(hi:o.items.length≤1000000)(hc:n%32=10):Gxx 11 [.agg (opF o),vi n] (.agg (opF (aX o n))):=by
 have hkk:=tV n
 have hk24:=jw n
 have eo:aX o n=spO o 10 (spK n):=by unfold aX;rw[hc];rfl
 rw[eo]
 generalize spK n=k at *
 have eo2:spO o 10 k={ o with src:=uk.getD (k%4) 0 }:=rfl
 rw[eo2]
 clear eo eo2
 have q1:=au o.names
 have q2:=aB o.items
 have h31:=lW n
 rw[hc] at h31
 have hl4:=bP uk
 have hL4:uk.length=4:=rfl
 have hg4:=mg uk (k%4) (by rw[hL4];omega)
 generalize uk.getD (k%4) 0=x at *
 obtain⟨kind,name,other,names,pk,pz,pd,ps,items,coins,exp,src,hnd,idx,cur,cnt,qk,qkey,qc,qn,qd,data⟩:=o
 simp only at *
 refine gI oW Tryz.func11 Tryz.results11 ?_
 exact wR (aI @hkk (aI @h31 (aI @shB (aI @anB (aI @ai (aI @iv4 (aI @Tc (aI @hg4 @hl4)))))))) trivial ah
theorem Qa(o:O)(n:Int)(hn:o.names.length≤1000000)(hi:o.items.length≤1000000)(hc:n%32=11):Gxx 11 [.agg (opF o),vi n] (.agg (opF (aX o n))):=by
 have hkk:=tV n
 have hk24:=jw n
 have eo:aX o n=spO o 11 (spK n):=by unfold aX;rw[hc];rfl
 rw[eo]
 generalize spK n=k at *
 have eo2:spO o 11 k={ o with hnd:=((k%8:Nat):Int)-2 }:=rfl
 rw[eo2]
 clear eo eo2
 have q1:=au o.names
 have q2:=aB o.items
 have h31:=lW n
 rw[hc] at h31
 obtain⟨kind,name,other,names,pk,pz,pd,ps,items,coins,exp,src,hnd,idx,cur,cnt,qk,qkey,qc,qn,qd,data⟩:=o
 simp only at *
 refine gI oW Tryz.func11 Tryz.results11 ?_
 exact wR (aI @hkk (aI @h31 (aI @shB (aI @anB (aI @ai @tm8))))) trivial ah
theorem Qb(o:O)(n:Int)(hn:o.names.length≤1000000)(hi:o.items.length≤1000000)(hc:n%32=12):Gxx 11 [.agg (opF o),vi n] (.agg (opF (aX o n))):=by
 have hkk:=tV n
 have hk24:=jw n
 have eo:aX o n=spO o 12 (spK n):=by unfold aX;rw[hc];rfl
 rw[eo]
 generalize spK n=k at *
 have eo2:spO o 12 k={ o with idx:=((k%20:Nat):Int)-2 }:=rfl
 rw[eo2]
 clear eo eo2
 have q1:=au o.names
 have q2:=aB o.items
 have h31:=lW n
 rw[hc] at h31
 obtain⟨kind,name,other,names,pk,pz,pd,ps,items,coins,exp,src,hnd,idx,cur,cnt,qk,qkey,qc,qn,qd,data⟩:=o
 simp only at *
 refine gI oW Tryz.func11 Tryz.results11 ?_
 exact wR (aI @hkk (aI @h31 (aI @shB (aI @anB (aI @ai @ahn))))) trivial ah
theorem Qc(o:O)(n:Int)(hn:o.names.length≤1000000)(hi:o.items.length≤1000000)(hc:n%32=13):Gxx 11 [.agg (opF o),vi n] (.agg (opF (aX o n))):=by
 have hkk:=tV n
 have hk24:=jw n
 have eo:aX o n=spO o 13 (spK n):=by unfold aX;rw[hc];rfl
 rw[eo]
 generalize spK n=k at *
 have eo2:spO o 13 k={ o with cur:=((k%8:Nat):Int)-2 }:=rfl
 rw[eo2]
 clear eo eo2
 have q1:=au o.names
 have q2:=aB o.items
 have h31:=lW n
 rw[hc] at h31
 obtain⟨kind,name,other,names,pk,pz,pd,ps,items,coins,exp,src,hnd,idx,cur,cnt,qk,qkey,qc,qn,qd,data⟩:=o
 simp only at *
 refine gI oW Tryz.func11 Tryz.results11 ?_
 exact wR (aI @hkk (aI @h31 (aI @shB (aI @anB (aI @ai @tm8))))) trivial ah
theorem Qd(o:O)(n:Int)(hn:o.names.length≤1000000)(hi:o.items.length≤1000000)(hc:n%32=14):Gxx 11 [.agg (opF o),vi n] (.agg (opF (aX o n))):=by
 have hkk:=tV n
 have hk24:=jw n
 have eo:aX o n=spO o 14 (spK n):=by unfold aX;rw[hc];rfl
 rw[eo]
 generalize spK n=k at *
 have eo2:spO o 14 k={ o with cnt:=((k%40:Nat):Int)-3 }:=rfl
 rw[eo2]
 clear eo eo2
 have q1:=au o.names
 have q2:=aB o.items
 have h31:=lW n
 rw[hc] at h31
 obtain⟨kind,name,other,names,pk,pz,pd,ps,items,coins,exp,src,hnd,idx,cur,cnt,qk,qkey,qc,qn,qd,data⟩:=o
 simp only at *
 refine gI oW Tryz.func11 Tryz.results11 ?_
 exact wR (aI @hkk (aI @h31 (aI @shB (aI @anB (aI @ai @amu))))) trivial ah
theorem Qe(o:O)(n:Int)(hn:o.names.length≤1000000)(hi:o.items.length≤1000000)(hc:n%32=15):Gxx 11 [.agg (opF o),vi n] (.agg (opF (aX o n))):=by
 have hkk:=tV n
 have hk24:=jw n
 have eo:aX o n=spO o 15 (spK n):=by unfold aX;rw[hc];rfl
 rw[eo]
 generalize spK n=k at *
 have eo2:spO o 15 k={ o with qk:=(uj k).1,qkey:=(uj k).2.1,qc:=(uj k).2.2.1,qn:=(uj k).2.2.2.1,qd:=(uj k).2.2.2.2 }:=rfl
 rw[eo2]
 clear eo eo2
 have q1:=au o.names
 have q2:=aB o.items
 have h31:=lW n
 rw[hc] at h31
 have hq:=PT k (by omega)
 generalize uj k=q at *
 obtain⟨q1,q2,q3,q4,q5⟩:=q
 obtain⟨kind,name,other,names,pk,pz,pd,ps,items,coins,exp,src,hnd,idx,cur,cnt,qk,qkey,qc,qn,qd,data⟩:=o
 simp only at *
 refine gI oW Tryz.func11 Tryz.results11 ?_
 exact wR (aI @hkk (aI @h31 (aI @shB (aI @anB @ai)))) hq ah
theorem Qg(o:O)(n:Int)(hn:o.names.length≤1000000)(hi:o.items.length≤1000000)(hc:n%32=16):Gxx 11 [.agg (opF o),vi n] (.agg (opF (aX o n))):=by
 have hkk:=tV n
 have hk24:=jw n
 have eo:aX o n=spO o 16 (spK n):=by unfold aX;rw[hc];rfl
 rw[eo]
 generalize spK n=k at *
 have eo2:spO o 16 k={ o with data:=List.replicate (65536+k%2) 0 }:=rfl
 rw[eo2]
 clear eo eo2
 refine Good.fzr (r := .agg (opC { o with data:=List.replicate (65536+k%2) 0 } (fzs o.names) (fzt o.items) (fzb o.coins) (.sl (.own 0 5) 1 (bv (List.replicate (65536+k%2) 0))))) ?_ rfl (fF { o with data:=List.replicate (65536+k%2) 0 } (cu _) (cu _) (cu _) (cu _))
 have q1:=au o.names
 have q2:=aB o.items
 have h31:=lW n
 rw[hc] at h31
 have hN:((65536:Int)+((k%2:Nat):Int)).toNat=65536+k%2:=by omega
 obtain⟨kind,name,other,names,pk,pz,pd,ps,items,coins,exp,src,hnd,idx,cur,cnt,qk,qkey,qc,qn,qd,data⟩:=o
 simp only at *
 refine gI oW Tryz.func11 Tryz.results11 ?_
 exact wR (aI @hkk (aI @h31 (aI @shB (aI @anB (aI @ai (aI @tm2 (aI @acz @hN))))))) trivial (ids [2])
theorem Qh(o:O)(n:Int)(hn:o.names.length≤1000000)(hi:o.items.length≤1000000)(hc:n%32=17):Gxx 11 [.agg (opF o),vi n] (.agg (opF (aX o n))):=by
 have hkk:=tV n
 have hk24:=jw n
 have eo:aX o n=spO o 17 (spK n):=by unfold aX;rw[hc];rfl
 rw[eo]
 generalize spK n=k at *
 have eo2:spO o 17 k={ o with data:=[1] }:=rfl
 rw[eo2]
 clear eo eo2
 refine Good.fzr (r := .agg (opC { o with data:=[1] } (fzs o.names) (fzt o.items) (fzb o.coins) (.sl (.own 0 5) 1 (bv ([1]))))) ?_ rfl (fF { o with data:=[1] } (cu _) (cu _) (cu _) (cu _))
 have q1:=au o.names
 have q2:=aB o.items
 have h31:=lW n
 rw[hc] at h31
 obtain⟨kind,name,other,names,pk,pz,pd,ps,items,coins,exp,src,hnd,idx,cur,cnt,qk,qkey,qc,qn,qd,data⟩:=o
 simp only at *
 refine gI oW Tryz.func11 Tryz.results11 ?_
 exact wR (aI @hkk (aI @h31 (aI @shB (aI @anB @ai)))) trivial (ids [2])
theorem V7(o:O)(n:Int)(hn:o.names.length≤1000000)(hi:o.items.length≤1000000)(hc:18≤n%32):Gxx 11 [.agg (opF o),vi n] (.agg (opF (aX o n))):=by
 have hkk:=tV n
 have hk24:=jw n
 have hlt:n%32<32:=by omega
 have eo:aX o n=o:=by
  unfold aX spO
  (repeat' (first|rw[if_neg (by omega)]))
 rw[eo]
 generalize spK n=k at *
 have h31:=lW n
 generalize n%32=r at *
 obtain⟨kind,name,other,names,pk,pz,pd,ps,items,coins,exp,src,hnd,idx,cur,cnt,qk,qkey,qc,qn,qd,data⟩:=o
 refine gI oW Tryz.func11 Tryz.results11 ?_
 exact wR (aI @hkk @h31) trivial ah
theorem agK(o:O)(n:Int)(hn:o.names.length≤1000000)(hi:o.items.length≤1000000):Gxx 11 [.agg (opF o),vi n] (.agg (opF (aX o n))):=by
 rcases (show n%32=0∨n%32=1∨n%32=2∨n%32=3∨n%32=4∨n%32=5∨n%32=6∨n%32=7∨n%32=8∨n%32=9∨n%32=10∨n%32=11∨n%32=12∨n%32=13∨n%32=14∨n%32=15∨n%32=16∨n%32=17∨18≤n%32 by omega) with h|h|h|h|h|h|h|h|h|h|h|h|h|h|h|h|h|h|h
 ·exact VU o n hn hi h
 ·exact VV o n hn hi h
 ·exact VW o n hn hi h
 ·exact VX o n hn hi h
 ·exact VY o n hn hi h
 ·exact VZ o n hn hi h
 ·exact V3 o n hn hi h
 ·exact V4 o n hn hi h
 ·exact V5 o n hn hi h
 ·exact V6 o n hn hi h
 ·exact P9 o n hn hi h
 ·exact Qa o n hn hi h
 ·exact Qb o n hn hi h
 ·exact Qc o n hn hi h
 ·exact Qd o n hn hi h
 ·exact Qe o n hn hi h
 ·exact Qg o n hn hi h
 ·exact Qh o n hn hi h
 ·exact V7 o n hn hi h
end Go.Proofs.YtjiolbcdfgclaaaGreatDoor
