/-
  Texts of this claim, merged; own names are short.
-/
import Derived.Test.YtjiolbcdfgclaaaGreatDoorWAV
import Derived.Test.YtjiolbcdfgclaaaGreatDoorWAY
import Derived.Test.YtjiolbcdfgclaaaGreatDoorWAO
import Derived.Test.YtjiolbcdfgclaaaGreatDoorWAQ
import Derived.Test.YtjiolbcdfgclaaaGreatDoorWAM
import Derived.Test.YtjiolbcdfgclaaaGreatDoorWAN
set_option linter.unusedVariables false
set_option linter.unusedSimpArgs false
set_option linter.unusedSectionVars false
set_option linter.defProp false
set_option maxRecDepth 100000
set_option maxHeartbeats 8000000
namespace Go.Proofs.YtjiolbcdfgclaaaGreatDoor
open Go Go.Pg
structure Ev where
 k:Int
 s:Int
 o:O
abbrev oE:O:=⟨0,[],[],[],0,0,0,0,[],[],0,0,0,0,0,0,0,[],0,0,0,[]⟩
abbrev xvC(e:Ev):List V:=[vi e.k,vi e.s,vi e.o.kind,vs e.o.name,vs e.o.other,fzs e.o.names,vi e.o.pk,vi e.o.pz,vi e.o.pd,vu e.o.ps,fzt e.o.items,fzb e.o.coins,vi e.o.exp,vi e.o.src,vi e.o.hnd,vi e.o.idx,vi e.o.cur,vi e.o.cnt,vi e.o.qk,vs e.o.qkey,vi e.o.qc,vi e.o.qn,vi e.o.qd,fzb e.o.data]
abbrev xvZ(k s:Int):List V:=[vi k,vi s,vi 0,vs [],vs [],nls,vi 0,vi 0,vi 0,vu 0,nls,nls,vi 0,vi 0,vi 0,vi 0,vi 0,vi 0,vi 0,vs [],vi 0,vi 0,vi 0,nls]
theorem ajR(k s:Int):wkF (xvZ k s) (xvC ⟨k,s,oE⟩):=by
 have z:∀(t:Nat),(nls=V.sl .fz t []∨(nls = .c (.slice none 0 0)∧∃k',V.sl .fz t [] = .sl .fz k' [])):=fun t => .inr ⟨rfl,t,rfl⟩
 (repeat' (first|exact trivial|refine⟨.inl rfl, ?_⟩|refine⟨z _, ?_⟩))
def xvV(l:List Ev):List V:=l.map fun e => .agg (xvC e)
theorem aba(l:List Ev):(xvV l).length=l.length:=by simp [xvV]
theorem acT(l:List Ev)(i:Nat)(h:i<l.length)(d:Ev):(xvV l)[i]?=some (.agg (xvC (l.getD i d))):=by simp [xvV,List.getD,h]
theorem GM(l:List Ev)(e:Ev):xvV l++[V.agg (xvC e)]=xvV (l++[e]):=by simp [xvV]
abbrev fzx(l:List Ev):V := .sl .fz 24 (xvV l)
def xvB(l:List Int)(ss i:Nat):Ev :=
 if atN l i / 16%16<5 then ⟨1,((atN l i%ss:Nat):Int),jl l i⟩
 else if atN l i / 16%16=5 then ⟨3,((atN l i%ss:Nat):Int),oE⟩
 else if atN l i / 16%16=6 then ⟨((atN l i / 256%8:Nat):Int),((atN l i / 2048%8:Nat):Int)-1,aX (jl l i) ((atN l i / 8:Nat):Int)⟩
 else ⟨2,((atN l i%ss:Nat):Int),oE⟩
def EJ(l:List Int)(ss n:Nat):List Ev:=(List.range n).map (xvB l ss)
theorem afA(l:List Int)(ss n:Nat):(EJ l ss n).length=n:=by simp [EJ]
theorem af5(l:List Int)(ss n:Nat):xvV (EJ l ss n)++[V.agg (xvC (xvB l ss n))]=xvV (EJ l ss (n+1)):=by simp [EJ,xvV,List.range_succ]
theorem ap0(n:Nat):Int.tmod (n:Int) 3=((n%3:Nat):Int):=rfl
theorem aoN(l:List Int)(n:Nat)(hl:l.length≤9223372036854775807)(hn:n≤100):Gxx 21 [fzi l,vi 3,vi n] (.sl (.own 0 69) 24 (xvV (EJ l 3 n))):=by
 refine gI oW Tryz.func21 Tryz.results21 ?_
 refine wS trivial trivial ?_
 refine aK (fun i:Nat=>mkA [(0,fzi l),(1,vi 3),(2,vi n),(7,.sl (.own 0 69) 24 (xvV (EJ l 3 i))),(8,vi i)] [] 1 (fun _ => .top)) (fun i=>i≤n) (fun i=>n-i) 0 [] [] ?_ (Nat.zero_le _) ?_
 ·exact kE
  all_goals exact gK rfl
 ·intro i hi
  replace hi:i≤n:=hi
  have hil:=aba (EJ l 3 i)
  have hib:=afA l 3 i
  rcases Nat.lt_or_ge i n with hlt|hge
  ·have h1:=jT l i hl (by omega)
   have h2:=aoo l i hl (by omega)
   have hnx:=af5 l 3 i
   have hb:=dU l i
   have tm:=ap0 (atN l i)
   have hop:=(akl l i).2
   unfold xvB at hnx
   generalize jl l i=o at *
   generalize atN l i=a at *
   by_cases c1:a / 16%16<5
   ·rw[if_pos c1] at hnx
    (repeat' first|refine wP (aI @pgv (aI @mmF (aI @hil (aI @hib (aI @hnx (aI @shB (aI @anB @tm))))))) (aI h1 h2) ?_|refine tS ?_ ?_<;>intro hc|fail)
    all_goals exact bE (i+1) [0] [] hlt
   ·rw[if_neg c1] at hnx
    by_cases c2:a / 16%16=5
    ·rw[if_pos c2] at hnx
     refine wS (aI @pgv (aI @mmF (aI @hil (aI @hib (aI @shB (aI @anB (aI @tm @ai))))))) h1 ?_
     (refine bC (i+1) [0] [] (hlt) (by first|omega|(simp only[List.length_cons];omega)) ?_;(refine iy ?_ ?_ (kD _ _ _) (by decide) (by decide) (by decide) (by decide);(repeat' (first|exact trivial|refine gJ _ _ rfl rfl ?_ ?_));all_goals (try simp only[pgs,pgl,pgx,pgf,pgw,fQ,ig,fU,iq,dB,eY,fJ,pgn,simprocAttr]);all_goals (try (repeat' (first|apply aI)));all_goals (try (first|exact trivial|exact gB (by omega)|exact gq rfl|exact aW rfl rfl|exact je rfl))))
     all_goals exact Y4 rfl (by rw[←hnx];exact Js (.inr (.inr ⟨_,_,rfl,rfl,ajR _ _⟩)) _)
    ·rw[if_neg c2] at hnx
     by_cases c3:a / 16%16=6
     ·rw[if_pos c3] at hnx
      have h3:=agK o ((a / 8:Nat):Int) (by omega) (by omega)
      generalize aX o ((a / 8:Nat):Int)=o2 at *
      refine wS (aI @pgv (aI @mmF (aI @hil (aI @hib (aI @hnx (aI @shB (aI @anB @tm))))))) (aI h1 (aI h2 h3)) ?_
      exact bE (i+1) [0] [] hlt
     ·rw[if_neg c3] at hnx
      refine wS (aI @pgv (aI @mmF (aI @hil (aI @hib (aI @shB (aI @anB (aI @tm @ai))))))) h1 ?_
      (refine bC (i+1) [0] [] (hlt) (by first|omega|(simp only[List.length_cons];omega)) ?_;(refine iy ?_ ?_ (kD _ _ _) (by decide) (by decide) (by decide) (by decide);(repeat' (first|exact trivial|refine gJ _ _ rfl rfl ?_ ?_));all_goals (try simp only[pgs,pgl,pgx,pgf,pgw,fQ,ig,fU,iq,dB,eY,fJ,pgn,simprocAttr]);all_goals (try (repeat' (first|apply aI)));all_goals (try (first|exact trivial|exact gB (by omega)|exact gq rfl|exact aW rfl rfl|exact je rfl))))
      all_goals exact Y4 rfl (by rw[←hnx];exact Js (.inr (.inr ⟨_,_,rfl,rfl,ajR _ _⟩)) _)
  ·have:i=n:=by omega
   subst this
   exact wR trivial trivial (ids [0])
def eK(f:List (List Nat)):Nat:=wix yM (hdW f)
def eS(f:List (List Nat)):Int:=(aZ (hdW f.tail)).1
def eM(f:List (List Nat)):Bool:=decide (eK f=0)||iE f.tail||(decide (eK f=1) != !f.tail.tail.isEmpty)
def eE(f:List (List Nat)):Int:=if eM f=true then 1 else if eS f<0∨64≤eS f then 5 else if eK f=1 then pE f.tail.tail else 0
def eV(f:List (List Nat)):Ev:=⟨(eK f:Nat),eS f,if eK f=1 then pOq f.tail.tail else oE⟩
def eP(f:List (List Nat)):Ev:=if eE f=0 then eV f else ⟨0,0,oE⟩
def eX(f:List (List Nat)):Ev:=if eM f=true then ⟨0,0,oE⟩ else if eS f<0∨64≤eS f then ⟨0,0,oE⟩ else eV f
theorem akc{f:List (List Nat)}(h:eE f=0):eX f=eP f:=by
 unfold eP eX
 rw[if_pos h]
 unfold eE at h
 by_cases h1:eM f=true
 ·rw[if_pos h1] at h;cases h
 ·rw[if_neg h1] at h ⊢
  by_cases h2:eS f<0∨64≤eS f
  ·rw[if_pos h2] at h;cases h
  ·rw[if_neg h2]
theorem LQ(k s:Int):wkV (.agg (xvZ k s)) (.agg (xvC ⟨k,s,oE⟩)):=by
 refine .inr ⟨_,_,rfl,rfl, ?_⟩
 (repeat' (first|exact trivial|refine iV (.inl rfl) ?_|refine iV (oq _ _) ?_))
theorem Fe{fn:FuncId}{f:List (List Nat)}{E:Int}(h:Gxx fn [fzs f] (.tup [.agg (xvZ 0 0),vi E])):Gxx fn [fzs f] (.tup [.agg (xvC ⟨0,0,oE⟩),vi E]):=Good.wkt h ⟨LQ 0 0,aA _,trivial⟩
theorem akd{fn:FuncId}{f:List (List Nat)}{k s:Int}(h:Gxx fn [fzs f] (.tup [.agg (xvZ k s),vi 0])):Gxx fn [fzs f] (.tup [.agg (xvC ⟨k,s,oE⟩),vi 0]):=Good.wkt h ⟨LQ k s,aA _,trivial⟩
theorem tf:(true == false)=false:=rfl
theorem ft:(false == true)=false:=rfl
theorem aqG(w:List Nat)(r:List (List Nat))(hl:r.length≤90000)(how:oct w)(ho:∀x∈r,oct x)(hw:∀x∈r,x.length≤100000):Gxx 67 [fzs (w::r)] (.tup [.agg (xvC (eP (w::r))),vi (eE (w::r))]):=by
 have ho1:=vZ ho
 have hw1:=zt (fun x hx=>by have:=hw x hx;omega:∀x∈r,x.length≤1000000)
 have hkl:wix yM w<4:=GK (L:=yM) w (by decide)
 have e1:eK (w::r)=wix yM w:=rfl
 have e2:eS (w::r)=(aZ (hdW r)).1:=rfl
 have e3:(w::r).tail=r:=rfl
 have hP:=aqE r.tail (by simp only[List.length_tail];omega) (fun x hx=>ho x (List.mem_of_mem_tail hx)) (fun x hx=>Nat.le_trans (hw x (List.mem_of_mem_tail hx)) (by decide))
 have hnl:(sv r.tail).length=r.tail.length:=au _
 have hnum:=fun e bx n h b bad hb=>Ed e bx n h b r bad hb (by omega) ho1 hw1
 unfold eP eE eV eM
 rw[e1,e2,e3]
 clear e1 e2 e3
 generalize hj:wix yM w=k at *
 generalize (aZ (hdW r)).1=s at *
 generalize hnb:iE r=nb at *
 generalize pOq r.tail=o at *
 generalize pE r.tail=pe at *
 rcases (by omega:k=0∨k=1∨k=2∨k=3) with rfl|rfl|rfl|rfl
 ·refine Fe ?_
  cases nb
  all_goals
   refine gI oW Tryz.func67 Tryz.results67 ?_
   (repeat' first|refine wP (aI @ai @hnb) trivial ?_|refine cU yN ?_|refine cZ (fW0 yM 1 hj rfl (by omega) how RF (by decide)) ?_|refine cZ (hnum _ _ _ _ 1 _ rfl) ?_|refine tS ?_ ?_<;>intro hc|fail)
   all_goals exact rE []
 ·cases nb
  ·generalize hR:r.tail=R at *
   cases R with
   | nil =>
    refine Fe ?_
    refine gI oW Tryz.func67 Tryz.results67 ?_
    (repeat' first|refine wP (aI @ai (aI @hnb (aI @hnl (aI @beq_self_eq_true.{0} (aI @Bool.not_true (aI @Bool.not_false (aI @tf (aI @ft (aI @Bool.or_self @Bool.or_true))))))))) trivial ?_|refine cU yN ?_|refine cZ (fW yM 1 1 hj rfl (by omega) how RF (by decide) (by decide)) ?_|refine cZ (hnum _ _ _ _ 1 _ rfl) ?_|refine tS ?_ ?_<;>intro hc|fail)
    all_goals exact rE []
   | cons x R =>
    have hx1:((x::R).length:Int)=(R.length:Int)+1:=by simp
    show Pg.Good _ _ _ (.tup [.agg (xvC (if (if s<0∨64≤s then (5:Int) else pe)=0 then ⟨1,s,o⟩ else ⟨0,0,oE⟩)),vi (if s<0∨64≤s then (5:Int) else pe)])
    by_cases hs:s<0∨64≤s
    ·simp only[if_pos hs]
     refine Fe ?_
     rcases hs with hs|hs
     all_goals
      refine gI oW Tryz.func67 Tryz.results67 ?_
      (repeat' first|refine wP (aI @ai (aI @hnb (aI @hnl (aI @beq_self_eq_true.{0} (aI @Bool.not_true (aI @Bool.not_false (aI @tf (aI @ft (aI @Bool.or_self (aI @Bool.or_true @hx1)))))))))) trivial ?_|refine cU yN ?_|refine cZ (fW yM 1 1 hj rfl (by omega) how RF (by decide) (by decide)) ?_|refine cZ (hnum _ _ _ _ 1 _ rfl) ?_|refine tS ?_ ?_<;>intro hc|fail)
      all_goals exact rE []
    ·simp only[if_neg hs]
     by_cases hp:pe=0
     ·subst hp
      simp only[if_true]
      refine gI oW Tryz.func67 Tryz.results67 ?_
      (repeat' first|refine wP (aI @ai (aI @hnb (aI @hnl (aI @beq_self_eq_true.{0} (aI @Bool.not_true (aI @Bool.not_false (aI @tf (aI @ft (aI @Bool.or_self (aI @Bool.or_true @hx1)))))))))) trivial ?_|refine cU yN ?_|refine cZ (fW yM 1 1 hj rfl (by omega) how RF (by decide) (by decide)) ?_|refine cZ (hnum _ _ _ _ 1 _ rfl) ?_|refine cU hP ?_|refine tS ?_ ?_<;>intro hc|fail)
      all_goals exact rE []
     ·simp only[if_neg hp]
      refine Fe ?_
      refine gI oW Tryz.func67 Tryz.results67 ?_
      (repeat' first|refine wP (aI @ai (aI @hnb (aI @hnl (aI @beq_self_eq_true.{0} (aI @Bool.not_true (aI @Bool.not_false (aI @tf (aI @ft (aI @Bool.or_self (aI @Bool.or_true @hx1)))))))))) trivial ?_|refine cU yN ?_|refine cZ (fW yM 1 1 hj rfl (by omega) how RF (by decide) (by decide)) ?_|refine cZ (hnum _ _ _ _ 1 _ rfl) ?_|refine cU hP ?_|refine tS ?_ ?_<;>intro hc|fail)
      all_goals exact rE []
  ·refine Fe ?_
   refine gI oW Tryz.func67 Tryz.results67 ?_
   (repeat' first|refine wP (aI @ai (aI @hnb (aI @hnl (aI @beq_self_eq_true.{0} (aI @Bool.not_true (aI @Bool.not_false (aI @tf (aI @ft (aI @Bool.or_self @Bool.or_true))))))))) trivial ?_|refine cU yN ?_|refine cZ (fW yM 1 1 hj rfl (by omega) how RF (by decide) (by decide)) ?_|refine cZ (hnum _ _ _ _ 1 _ rfl) ?_|refine tS ?_ ?_<;>intro hc|fail)
   all_goals exact rE []
 ·cases nb
  ·generalize hR:r.tail=R at *
   cases R with
   | nil =>
    show Pg.Good _ _ _ (.tup [.agg (xvC (if (if s<0∨64≤s then (5:Int) else 0)=0 then ⟨2,s,oE⟩ else ⟨0,0,oE⟩)),vi (if s<0∨64≤s then (5:Int) else 0)])
    by_cases hs:s<0∨64≤s
    ·simp only[if_pos hs]
     refine Fe ?_
     rcases hs with hs|hs
     all_goals
      refine gI oW Tryz.func67 Tryz.results67 ?_
      (repeat' first|refine wP (aI @ai (aI @hnb (aI @hnl (aI @beq_self_eq_true.{0} (aI @Bool.not_true (aI @Bool.not_false (aI @tf (aI @ft (aI @Bool.or_self @Bool.or_true))))))))) trivial ?_|refine cU yN ?_|refine cZ (fW yM 1 2 hj rfl (by omega) how RF (by decide) (by decide)) ?_|refine cZ (hnum _ _ _ _ 1 _ rfl) ?_|refine tS ?_ ?_<;>intro hc|fail)
      all_goals exact rE []
    ·simp only[if_neg hs,if_true]
     refine akd ?_
     refine gI oW Tryz.func67 Tryz.results67 ?_
     (repeat' first|refine wP (aI @ai (aI @hnb (aI @hnl (aI @beq_self_eq_true.{0} (aI @Bool.not_true (aI @Bool.not_false (aI @tf (aI @ft (aI @Bool.or_self @Bool.or_true))))))))) trivial ?_|refine cU yN ?_|refine cZ (fW yM 1 2 hj rfl (by omega) how RF (by decide) (by decide)) ?_|refine cZ (hnum _ _ _ _ 1 _ rfl) ?_|refine tS ?_ ?_<;>intro hc|fail)
     all_goals exact rE []
   | cons x R =>
    have hx1:((x::R).length:Int)=(R.length:Int)+1:=by simp
    refine Fe ?_
    refine gI oW Tryz.func67 Tryz.results67 ?_
    (repeat' first|refine wP (aI @ai (aI @hnb (aI @hnl (aI @beq_self_eq_true.{0} (aI @Bool.not_true (aI @Bool.not_false (aI @tf (aI @ft (aI @Bool.or_self (aI @Bool.or_true @hx1)))))))))) trivial ?_|refine cU yN ?_|refine cZ (fW yM 1 2 hj rfl (by omega) how RF (by decide) (by decide)) ?_|refine cZ (hnum _ _ _ _ 1 _ rfl) ?_|refine tS ?_ ?_<;>intro hc|fail)
    all_goals exact rE []
  ·refine Fe ?_
   refine gI oW Tryz.func67 Tryz.results67 ?_
   (repeat' first|refine wP (aI @ai (aI @hnb (aI @hnl (aI @beq_self_eq_true.{0} (aI @Bool.not_true (aI @Bool.not_false (aI @tf (aI @ft (aI @Bool.or_self @Bool.or_true))))))))) trivial ?_|refine cU yN ?_|refine cZ (fW yM 1 2 hj rfl (by omega) how RF (by decide) (by decide)) ?_|refine cZ (hnum _ _ _ _ 1 _ rfl) ?_|refine tS ?_ ?_<;>intro hc|fail)
   all_goals exact rE []
 ·cases nb
  ·generalize hR:r.tail=R at *
   cases R with
   | nil =>
    show Pg.Good _ _ _ (.tup [.agg (xvC (if (if s<0∨64≤s then (5:Int) else 0)=0 then ⟨3,s,oE⟩ else ⟨0,0,oE⟩)),vi (if s<0∨64≤s then (5:Int) else 0)])
    by_cases hs:s<0∨64≤s
    ·simp only[if_pos hs]
     refine Fe ?_
     rcases hs with hs|hs
     all_goals
      refine gI oW Tryz.func67 Tryz.results67 ?_
      (repeat' first|refine wP (aI @ai (aI @hnb (aI @hnl (aI @beq_self_eq_true.{0} (aI @Bool.not_true (aI @Bool.not_false (aI @tf (aI @ft (aI @Bool.or_self @Bool.or_true))))))))) trivial ?_|refine cU yN ?_|refine cZ (fW yM 1 3 hj rfl (by omega) how RF (by decide) (by decide)) ?_|refine cZ (hnum _ _ _ _ 1 _ rfl) ?_|refine tS ?_ ?_<;>intro hc|fail)
      all_goals exact rE []
    ·simp only[if_neg hs,if_true]
     refine akd ?_
     refine gI oW Tryz.func67 Tryz.results67 ?_
     (repeat' first|refine wP (aI @ai (aI @hnb (aI @hnl (aI @beq_self_eq_true.{0} (aI @Bool.not_true (aI @Bool.not_false (aI @tf (aI @ft (aI @Bool.or_self @Bool.or_true))))))))) trivial ?_|refine cU yN ?_|refine cZ (fW yM 1 3 hj rfl (by omega) how RF (by decide) (by decide)) ?_|refine cZ (hnum _ _ _ _ 1 _ rfl) ?_|refine tS ?_ ?_<;>intro hc|fail)
     all_goals exact rE []
   | cons x R =>
    have hx1:((x::R).length:Int)=(R.length:Int)+1:=by simp
    refine Fe ?_
    refine gI oW Tryz.func67 Tryz.results67 ?_
    (repeat' first|refine wP (aI @ai (aI @hnb (aI @hnl (aI @beq_self_eq_true.{0} (aI @Bool.not_true (aI @Bool.not_false (aI @tf (aI @ft (aI @Bool.or_self (aI @Bool.or_true @hx1)))))))))) trivial ?_|refine cU yN ?_|refine cZ (fW yM 1 3 hj rfl (by omega) how RF (by decide) (by decide)) ?_|refine cZ (hnum _ _ _ _ 1 _ rfl) ?_|refine tS ?_ ?_<;>intro hc|fail)
    all_goals exact rE []
  ·refine Fe ?_
   refine gI oW Tryz.func67 Tryz.results67 ?_
   (repeat' first|refine wP (aI @ai (aI @hnb (aI @hnl (aI @beq_self_eq_true.{0} (aI @Bool.not_true (aI @Bool.not_false (aI @tf (aI @ft (aI @Bool.or_self @Bool.or_true))))))))) trivial ?_|refine cU yN ?_|refine cZ (fW yM 1 3 hj rfl (by omega) how RF (by decide) (by decide)) ?_|refine cZ (hnum _ _ _ _ 1 _ rfl) ?_|refine tS ?_ ?_<;>intro hc|fail)
   all_goals exact rE []
def vBx:=aI @Bool.not_true (aI @Bool.not_false (aI @Bool.and_true (aI @Bool.true_and (aI @Bool.false_and (aI @Bool.and_false (aI @List.append_eq.{0} (aI @List.cons_append.{0} (aI @List.nil_append.{0} (aI @kG (aI @Rh (aI @ai (aI @au (aI @aB @ax)))))))))))))
abbrev zP(o:O):Prop:=o.kind=0∧o.name.length=0∧o.other.length=0∧o.names.length=0∧(o.pk=0∧o.pz=0∧o.pd=0∧o.ps=0)∧o.items.length=0∧o.coins.length=0∧o.exp=0∧o.src=0∧o.hnd=0∧o.idx=0∧o.cur=0∧o.cnt=0∧(o.qk=0∧o.qkey.length=0∧o.qc=0∧o.qn=0∧o.qd=0)∧o.data.length=0
theorem apI{o:O}(h:zP o):o=oE:=by
 obtain⟨kind,name,other,names,pk,pz,pd,ps,items,coins,exp,src,hnd,idx,cur,cnt,qk,qkey,qc,qn,qd,data⟩:=o
 obtain⟨h1,h2,h3,h4,⟨h5,h6,h7,h8⟩,h9,h10,h11,h12,h13,h14,h15,h16,⟨h17,h18,h19,h20,h21⟩,h22⟩:=h
 simp only at *
 subst h1 h5 h6 h7 h8 h11 h12 h13 h14 h15 h16 h17 h19 h20 h21
 obtain rfl:=List.eq_nil_of_length_eq_zero h2
 obtain rfl:=List.eq_nil_of_length_eq_zero h3
 obtain rfl:=List.eq_nil_of_length_eq_zero h4
 obtain rfl:=List.eq_nil_of_length_eq_zero h9
 obtain rfl:=List.eq_nil_of_length_eq_zero h10
 obtain rfl:=List.eq_nil_of_length_eq_zero h18
 obtain rfl:=List.eq_nil_of_length_eq_zero h22
 rfl
theorem apk(o:O)(hn:o.names.length≤1000000)(hi:o.items.length≤1000000):Gxx 17 [.agg (opF o),.agg (opF oE)] (vb (decide (zP o))):=by
 have q1:=au o.names
 have q2:=aB o.items
 have q3:=ax o.coins
 have q4:=ax o.data
 by_cases hz:zP o
 ·obtain rfl:=apI hz
  rw[decide_eq_true hz]
  exact afD oE hn hi
 ·rw[decide_eq_false hz]
  refine gI oW Tryz.func17 Tryz.results17 ?_
  (repeat' first|refine wP (aI @vBx @rH) trivial ?_|refine tS ?_ ?_<;>intro hc|fail)
  all_goals first|(refine rT [] ?_;first|rfl|(exfalso;(try simp only[zP,Bool.and_eq_true,beq_iff_eq,decide_eq_true_eq] at *);omega))|(exfalso;simp only[zP,Bool.and_eq_true,beq_iff_eq,decide_eq_true_eq] at *;omega)
structure Ev.Ok (e:Ev):Prop where
 k:Wt e.k
 s:Wt e.s
 o:e.o.Ok
abbrev xD:Ev:=⟨0,0,oE⟩
def xvE(e:Ev):Int:=if e.k<1∨3<e.k then 8 else if e.s<0∨64≤e.s then 5 else if e.k=1 then vop e.o else if zP e.o then 0 else 18
def xvH(e:Ev):List Nat:=jn [yM.getD e.k.toNat [],ak e.s]
def xvT(e:Ev):List Nat:=if e.k=1 then jn [xvH e,fmtO e.o] else xvH e
def txt(l:List Ev):List Nat:=l.flatMap fun e=>xvT e++[10]
def acU(l:List Ev):List Nat × Int:=if 2000<l.length then ([],11) else if sU xvE l≠0 then ([],sU xvE l) else if 65536<(txt l).length then ([],11) else (txt l,0)
theorem agX(l:List Ev)(i:Nat)(h:i<l.length):txt (l.take (i+1))=txt (l.take i)++xvT (l.getD i xD)++[10]:=by
 unfold txt
 rw[List.take_succ_eq_append_getElem h,List.flatMap_append]
 simp [List.getD,h]
theorem afC(k:Int):(yM.getD k.toNat []).length≤6:=by
 unfold yM
 rcases k.toNat with _|_|_|_|n<;>simp
theorem af6(o:O)(ok:o.Ok):(fmtO o).length≤50000000:=by
 unfold fmtO
 split
 ·have:=dM o ok
  have:=PD (opW o)
  omega
 ·simp
theorem ajS(e:Ev)(ok:e.Ok):(xvT e).length≤200000000:=by
 have h1:=afC e.k
 have h2:=dS ok.s
 have h3:=af6 e.o ok.o
 unfold xvT xvH
 split<;>simp only[jn,sQ,ZA,List.length_append,List.length_cons,List.length_nil]<;>omega
theorem aoX(l:List Ev)(hok:∀e∈l,e.Ok):(txt l).length≤200000001*l.length:=by
 induction l with
 | nil=>simp [txt]
 | cons e l ih =>
  have h1:=ajS e (hok e (by simp))
  have h2:=ih fun x hx=>hok x (by simp [hx])
  unfold txt at h2 ⊢
  simp only[List.flatMap_cons,List.length_append,List.length_cons,List.length_nil]
  omega
theorem afV:(⟨#[10]⟩:ByteArray)=sB [10]:=rfl
theorem apJ(k:Int)(h:1≤k∧k≤3):Gxx 56 [vi k] (vs (yM.getD k.toNat [])):=by
 have hk:k=1∨k=2∨k=3:=by omega
 rcases hk with rfl|rfl|rfl
 all_goals
  refine gI oW Tryz.func56 Tryz.results56 ?_
  exact wR @ai trivial ah
theorem af2(l:List Ev)(hok:∀e∈l,e.Ok)(hl:l.length≤100000):Gxx 19 [fzx l] (.tup [vs (acU l).1,vi (acU l).2]):=by
 have hil:=aba l
 unfold acU
 by_cases c1:2000<l.length
 ·rw[if_pos c1]
  refine gI oD Tryz.func19 Tryz.results19 ?_
  exact wRA (aI @hil @ai) trivial ah
 ·rw[if_neg c1]
  refine gI oD Tryz.func19 Tryz.results19 ?_
  refine wSA (aI @hil @ai) trivial ?_
  refine aK (fun i:Nat=>mkA [(0,fzx l),(4,vs (txt (l.take i))),(5,vi i)] [] 0 (fun _ => .top)) (fun i=>i≤l.length∧sU xvE (l.take i)=0) (fun i=>l.length-i) 0 [] [] ?_ ⟨Nat.zero_le _,rfl⟩ ?_
  ·exact kE
  ·rintro i ⟨hi,he⟩
   have htl:=aoX (l.take i) (fun e h=>hok e (List.mem_of_mem_take h))
   rw[List.length_take] at htl
   rcases Nat.lt_or_ge i l.length with hlt|hge
   ·have hg:=acT l i hlt xD
    have hx:=getD_some l i xD hlt
    have h1:=BN xvE l i _ hx he
    have h2:=vT xvE l i _ hx he
    have hnx:=agX l i hlt
    have ok:(l.getD i xD).Ok:=hok _ (by rw[List.getD_eq_getElem?_getD,List.getElem?_eq_getElem hlt];exact List.getElem_mem hlt)
    generalize l.getD i xD=x at *
    have htx:=ajS x ok
    have hF:=MR x.o ok.o
    have hSm:=(apk x.o (by have:=ok.o.names;omega) (by have:=ok.o.items;omega)).wk (args':=[.agg (opF x.o),.agg (opC oE nls nls nls nls)]) ⟨aA _,fF oE (aj _) (aj _) (aj _) (aj _),trivial⟩
    have hN:=jX x.s ok.s
    by_cases c2:x.k<1∨3<x.k
    ·have e:xvE x=8:=if_pos c2
     rw[h1 (by rw[e];decide),e,if_pos (by decide)]
     exact wRA (aI @hil @hg) trivial ah
    ·have hV:=apJ x.k (by omega)
     by_cases c3:x.s<0∨64≤x.s
     ·have e:xvE x=5:=by unfold xvE;rw[if_neg c2,if_pos c3]
      rw[h1 (by rw[e];decide),e,if_pos (by decide)]
      exact wRA (aI @hil @hg) trivial ah
     ·have hw1:=dR [yM.getD x.k.toNat [],ak x.s] (by have:=afC x.k;have:=dS ok.s;simp only[bz,dL];omega)
      have hw2:=dR [xvH x,fmtO x.o] (by have:=afC x.k;have:=dS ok.s;have:=af6 x.o ok.o;unfold xvH;simp only[jn,sQ,ZA,bz,dL,List.length_append,List.length_cons,List.length_nil];omega)
      have eH:jn [yM.getD x.k.toNat [],ak x.s]=xvH x:=rfl
      rw[eH] at hw1
      generalize yM.getD x.k.toNat []=kw at *
      by_cases c4:x.k=1
      ·have e:xvE x=vop x.o:=by unfold xvE;rw[if_neg c2,if_neg c3,if_pos c4]
       have et:xvT x=jn [xvH x,fmtO x.o]:=if_pos c4
       rw[et] at hnx htx
       by_cases c5:vop x.o=0
       ·rw[c5] at hF
        refine wSA (aI @hil (aI @hg (aI @afV @adW))) (aI hV (aI hN (aI hw1 (aI hw2 hF)))) ?_
        (refine bL (i+1) [] [] ⟨hlt,h2 (by rw[e];exact c5)⟩ ?_;refine kL ?_)
        all_goals exact gq (by rw[hnx])
       ·rw[h1 (by rw[e];exact c5),e,if_pos c5]
        exact wRA (aI @hil @hg) (aI hV (aI hN (aI hw1 (aI hw2 hF)))) ah
      ·have et:xvT x=xvH x:=if_neg c4
       rw[et] at hnx htx
       by_cases c5:zP x.o
       ·have e:xvE x=0:=by unfold xvE;rw[if_neg c2,if_neg c3,if_neg c4,if_pos c5]
        rw[decide_eq_true c5] at hSm
        refine wSA (aI @hil (aI @hg (aI @afV @adW))) (aI hV (aI hN (aI hw1 hSm))) ?_
        (refine bL (i+1) [] [] ⟨hlt,h2 e⟩ ?_;refine kL ?_)
        all_goals exact gq (by rw[hnx])
       ·have e:xvE x=18:=by unfold xvE;rw[if_neg c2,if_neg c3,if_neg c4,if_neg c5]
        rw[decide_eq_false c5] at hSm
        rw[h1 (by rw[e];decide),e,if_pos (by decide)]
        exact wRA (aI @hil @hg) (aI hV (aI hN (aI hw1 hSm))) ah
   ·have:i=l.length:=by omega
    subst this
    rw[List.take_length] at he htl
    rw[List.take_length,he,if_neg (by simp)]
    by_cases c6:65536<(txt l).length
    ·rw[if_pos c6]
     exact wRA @hil trivial ah
    ·rw[if_neg c6]
     exact wRA @hil trivial ah
theorem aqH(a b:List Nat)(l:List (List Nat)):slV Tryz.prog 23 (fzs (a::b::l)) (some (vi 2)) none=some (fzs l):=by
 rw[Dk]
 simp only[bdV,Option.bind_some,qQ,ak8]
 rw[if_pos ⟨trivial,by omega,by rw[au];simp;omega,by omega⟩]
 simp [sv]
 exact List.take_of_length_le (by simp)
def kUp(k i:Nat):Nat:=if 1≤k∧k<i then k else 0
def exC(f:List (List Nat)):List V:=if eM f=true then xvZ 0 0 else if eS f<0∨64≤eS f then xvZ 0 0 else if eK f=1 then xvC (eV f) else xvZ (eK f:Nat) (eS f)
theorem aqj(f:List (List Nat)):wkV (.agg (exC f)) (.agg (xvC (eX f))):=by
 unfold exC eX eV
 split
 ·exact LQ 0 0
 ·split
  ·exact LQ 0 0
  ·split
   ·exact aA _
   ·exact LQ _ _
theorem aqI(w:List Nat)(r:List (List Nat))(hl:r.length≤90000)(how:oct w)(ho:∀x∈r,oct x)(hw:∀x∈r,x.length≤100000):Gxx 108 [fzs (w::r)] (.tup [.agg (exC (w::r)),vi (eE (w::r))]):=by
 have hkl:wix yM w<4:=GK (L:=yM) w (by decide)
 have e1:eK (w::r)=wix yM w:=rfl
 have e2:eS (w::r)=(aZ (hdW r)).1:=rfl
 have e3:(w::r).tail=r:=rfl
 have hP:=aqF r.tail (by simp only[List.length_tail];omega) (fun x hx=>ho x (List.mem_of_mem_tail hx)) (fun x hx=>Nat.le_trans (hw x (List.mem_of_mem_tail hx)) (by decide))
 have hsv:=au (w::r)
 have hg0:(sv (w::r))[0]?=some (vs w):=rfl
 have hcmp:∀j,1≤j→j<4→decide (sB w=sB (yM.getD j []))=(wix yM w == j):=by
  intro j h1 h2
  rcases (by omega:j=1∨j=2∨j=3) with rfl|rfl|rfl
  ·exact xq yM 1 rfl how rfl (by decide) (by decide) (jI _ rfl)
  ·exact xq yM 2 rfl how rfl (by decide) (by decide) (jI _ rfl)
  ·exact xq yM 3 rfl how rfl (by decide) (by decide) (jI _ rfl)
 have hlen:((w::r).length:Int)=(r.length:Int)+1:=by simp
 refine gI oW Tryz.func108 Tryz.results108 ?_
 (repeat' first|refine wP @ai trivial ?_|refine tS ?_ ?_<;>intro hc|fail)
 refine aK (fun i:Nat=>mkA [(0,fzs (w::r)),(2,.ref 0 0),(4,vi (kUp (wix yM w) i:Nat)),(5,vi i)] [(0,(69,xvZ 0 0))] 1 (fun _ => .top)) (fun i=>1≤i∧i≤4) (fun i=>4-i) 1 [] [0] ?_ ⟨by omega,by omega⟩ ?_
 ·(refine iy ?_ ?_ (kD _ _ _) (by decide) (by decide) (by decide) (by decide);(repeat' (first|exact trivial|refine gJ _ _ rfl rfl ?_ ?_));all_goals (try simp only[pgs,pgl,pgx,pgf,pgw,fQ,ig,fU,iq,dB,eY,fJ,pgn,simprocAttr]);all_goals (try (repeat' (first|apply aI)));all_goals (try (first|exact trivial|exact gB (by omega)|exact gq rfl|exact aW rfl rfl|exact je rfl)))
  all_goals exact gq (by rw[show kUp (wix yM w) 1=0 from if_neg (by omega)];rfl)
 ·rintro i ⟨hi1,hi2⟩
  rcases Nat.lt_or_ge i 4 with hlt|hge
  ·have hv:=apJ (i:Int) (by omega)
   have hc:=hcmp i hi1 hlt
   rw[Int.toNat_natCast] at hv
   by_cases hK:wix yM w=i
   ·have hn:kUp (wix yM w) (i+1)=i:=by unfold kUp;rw[if_pos (by omega)];exact hK
    rw[hK,beq_self_eq_true] at hc
    refine wS (aI @hsv (aI @hlen (aI @hg0 @hc))) hv ?_
    (refine bC (i+1) [] [0] (⟨by omega,by omega⟩) (by first|omega|(simp only[List.length_cons];omega)) ?_;(refine iy ?_ ?_ (kD _ _ _) (by decide) (by decide) (by decide) (by decide);(repeat' (first|exact trivial|refine gJ _ _ rfl rfl ?_ ?_));all_goals (try simp only[pgs,pgl,pgx,pgf,pgw,fQ,ig,fU,iq,dB,eY,fJ,pgn,simprocAttr]);all_goals (try (repeat' (first|apply aI)));all_goals (try (first|exact trivial|exact gB (by omega)|exact gq rfl|exact aW rfl rfl|exact je rfl))))
    all_goals exact gq (by rw[hn])
   ·have hn:kUp (wix yM w) (i+1)=kUp (wix yM w) i:=by
     unfold kUp
     by_cases h1:1≤wix yM w∧wix yM w<i
     ·rw[if_pos h1,if_pos (by omega)]
     ·rw[if_neg h1,if_neg (by omega)]
    rw[beq_eq_false_iff_ne.2 hK] at hc
    refine wS (aI @hsv (aI @hlen (aI @hg0 @hc))) hv ?_
    (refine bC (i+1) [] [0] (⟨by omega,by omega⟩) (by first|omega|(simp only[List.length_cons];omega)) ?_;(refine iy ?_ ?_ (kD _ _ _) (by decide) (by decide) (by decide) (by decide);(repeat' (first|exact trivial|refine gJ _ _ rfl rfl ?_ ?_));all_goals (try simp only[pgs,pgl,pgx,pgf,pgw,fQ,ig,fU,iq,dB,eY,fJ,pgn,simprocAttr]);all_goals (try (repeat' (first|apply aI)));all_goals (try (first|exact trivial|exact gB (by omega)|exact gq rfl|exact aW rfl rfl|exact je rfl))))
    all_goals exact gq (by rw[hn])
  ·have:i=4:=by omega
   subst this
   have hku:kUp (wix yM w) 4=wix yM w:=by
    unfold kUp
    by_cases h1:1≤wix yM w∧wix yM w<4
    ·rw[if_pos h1]
    ·rw[if_neg h1];omega
   rw[hku]
   unfold eE exC eV eM
   rw[e1,e2,e3]
   clear hku hcmp e1 e2 e3
   generalize wix yM w=k at *
   rcases (by omega:k=0∨k=1∨k=2∨k=3) with rfl|rfl|rfl|rfl
   ·(repeat' first|refine wP (aI @hsv (aI @hlen (aI @ai (aI @beq_self_eq_true.{0} (aI @Bool.not_true (aI @Bool.not_false (aI @tf (aI @ft @hg0)))))))) trivial ?_|refine tS ?_ ?_<;>intro hc|fail)
    all_goals exact rE []
   ·cases r with
    | nil =>
     have hl0:(([]:List (List Nat)).length:Int)=0:=rfl
     (repeat' first|refine wP (aI @hsv (aI @hlen (aI @ai (aI @beq_self_eq_true.{0} (aI @Bool.not_true (aI @Bool.not_false (aI @tf (aI @ft (aI @hg0 @hl0))))))))) trivial ?_|refine tS ?_ ?_<;>intro hc|fail)
     all_goals exact rE []
    | cons a R =>
     have hg1:(sv (w::a::R))[1]?=some (vs a):=rfl
     have hpi:=Qp a (ho a (by simp)) (by have:=hw a (by simp);omega)
     unfold Ry at hpi
     have hl2:((a::R).length:Int)=(R.length:Int)+1:=by simp
     have hnb:iE (a::R) = !decide ((aZ a).2=0):=by simp [iE,hdW]
     have hs0:(aZ (hdW (a::R))).1=(aZ a).1:=rfl
     rw[hnb,hs0]
     clear hnb hs0
     generalize (aZ a).1=s at *
     generalize (aZ a).2=pe0 at *
     cases R with
     | nil =>
      have hl0:(([]:List (List Nat)).length:Int)=0:=rfl
      have hM:(decide (1=0) || !decide (pe0=0)||(decide (1=1) != !(a::[]:List (List Nat)).tail.isEmpty))=true:=by cases decide (pe0=0)<;>rfl
      rw[hM]
      (repeat' first|refine wP (aI @hsv (aI @hlen (aI @ai (aI @beq_self_eq_true.{0} (aI @Bool.not_true (aI @Bool.not_false (aI @tf (aI @ft (aI @hg0 (aI @hl2 @hl0)))))))))) trivial ?_|refine tS ?_ ?_<;>intro hc|fail)
      all_goals exact rE []
     | cons x R =>
      have hx1:((x::R).length:Int)=(R.length:Int)+1:=by simp
      by_cases hp:pe0=0
      ·subst hp
       have hM:(decide (1=0) || !decide ((0:Nat)=0)||(decide (1=1) != !(a::x::R:List (List Nat)).tail.isEmpty))=false:=rfl
       rw[hM]
       simp only[Bool.false_eq_true,if_false]
       by_cases hs:s<0∨64≤s
       ·simp only[if_pos hs]
        rcases hs with hs|hs
        all_goals
         (repeat' first|refine wP (aI @hsv (aI @hlen (aI @ai (aI @beq_self_eq_true.{0} (aI @Bool.not_true (aI @Bool.not_false (aI @tf (aI @ft (aI @hg0 (aI @hl2 (aI @hx1 @hg1))))))))))) trivial ?_|refine cU hpi ?_|refine tS ?_ ?_<;>intro hc|fail)
         all_goals exact rE []
       ·simp only[if_neg hs]
        have h2:=aqH w a (x::R)
        have hP:Gxx 18 [fzs (x::R)] (.tup [.agg (opF (pOq (x::R))),vi (pE (x::R))]):=hP
        have ek:(a::x::R).tail=x::R:=rfl
        rw[ek]
        generalize pOq (x::R)=o at *
        generalize pE (x::R)=pe at *
        (repeat' first|refine wP (aI @hsv (aI @hlen (aI @ai (aI @beq_self_eq_true.{0} (aI @Bool.not_true (aI @Bool.not_false (aI @tf (aI @ft (aI @hg0 (aI @hl2 (aI @hx1 (aI @hg1 @h2)))))))))))) trivial ?_|refine cU hpi ?_|refine cU hP ?_|refine tS ?_ ?_<;>intro hc|fail)
        all_goals exact rE []
      ·have hM:(decide (1=0) || !decide (pe0=0)||(decide (1=1) != !(a::x::R:List (List Nat)).tail.isEmpty))=true:=by rw[decide_eq_false hp];rfl
       rw[hM]
       (repeat' first|refine wP (aI @hsv (aI @hlen (aI @ai (aI @beq_self_eq_true.{0} (aI @Bool.not_true (aI @Bool.not_false (aI @tf (aI @ft (aI @hg0 (aI @hl2 (aI @hx1 @hg1))))))))))) trivial ?_|refine cU hpi ?_|refine tS ?_ ?_<;>intro hc|fail)
       all_goals exact rE []
   ·cases r with
    | nil =>
     have hl0:(([]:List (List Nat)).length:Int)=0:=rfl
     (repeat' first|refine wP (aI @hsv (aI @hlen (aI @ai (aI @beq_self_eq_true.{0} (aI @Bool.not_true (aI @Bool.not_false (aI @tf (aI @ft (aI @hg0 @hl0))))))))) trivial ?_|refine tS ?_ ?_<;>intro hc|fail)
     all_goals exact rE []
    | cons a R =>
     have hg1:(sv (w::a::R))[1]?=some (vs a):=rfl
     have hpi:=Qp a (ho a (by simp)) (by have:=hw a (by simp);omega)
     unfold Ry at hpi
     have hl2:((a::R).length:Int)=(R.length:Int)+1:=by simp
     have hnb:iE (a::R) = !decide ((aZ a).2=0):=by simp [iE,hdW]
     have hs0:(aZ (hdW (a::R))).1=(aZ a).1:=rfl
     rw[hnb,hs0]
     clear hnb hs0
     generalize (aZ a).1=s at *
     generalize (aZ a).2=pe0 at *
     cases R with
     | cons x R =>
      have hx1:((x::R).length:Int)=(R.length:Int)+1:=by simp
      have hM:(decide (2=0) || !decide (pe0=0)||(decide (2=1) != !(a::x::R:List (List Nat)).tail.isEmpty))=true:=by cases decide (pe0=0)<;>rfl
      rw[hM]
      (repeat' first|refine wP (aI @hsv (aI @hlen (aI @ai (aI @beq_self_eq_true.{0} (aI @Bool.not_true (aI @Bool.not_false (aI @tf (aI @ft (aI @hg0 (aI @hl2 @hx1)))))))))) trivial ?_|refine tS ?_ ?_<;>intro hc|fail)
      all_goals exact rE []
     | nil =>
      have hl0:(([]:List (List Nat)).length:Int)=0:=rfl
      by_cases hp:pe0=0
      ·subst hp
       have hM:(decide (2=0) || !decide ((0:Nat)=0)||(decide (2=1) != !(a::[]:List (List Nat)).tail.isEmpty))=false:=rfl
       rw[hM]
       simp only[Bool.false_eq_true,if_false]
       by_cases hs:s<0∨64≤s
       ·simp only[if_pos hs]
        rcases hs with hs|hs
        all_goals
         (repeat' first|refine wP (aI @hsv (aI @hlen (aI @ai (aI @beq_self_eq_true.{0} (aI @Bool.not_true (aI @Bool.not_false (aI @tf (aI @ft (aI @hg0 (aI @hl2 (aI @hl0 @hg1))))))))))) trivial ?_|refine cU hpi ?_|refine tS ?_ ?_<;>intro hc|fail)
         all_goals exact rE []
       ·simp only[if_neg hs]
        (repeat' first|refine wP (aI @hsv (aI @hlen (aI @ai (aI @beq_self_eq_true.{0} (aI @Bool.not_true (aI @Bool.not_false (aI @tf (aI @ft (aI @hg0 (aI @hl2 (aI @hl0 @hg1))))))))))) trivial ?_|refine cU hpi ?_|refine tS ?_ ?_<;>intro hc|fail)
        all_goals exact rE []
      ·have hM:(decide (2=0) || !decide (pe0=0)||(decide (2=1) != !(a::[]:List (List Nat)).tail.isEmpty))=true:=by rw[decide_eq_false hp];rfl
       rw[hM]
       (repeat' first|refine wP (aI @hsv (aI @hlen (aI @ai (aI @beq_self_eq_true.{0} (aI @Bool.not_true (aI @Bool.not_false (aI @tf (aI @ft (aI @hg0 (aI @hl2 (aI @hl0 @hg1))))))))))) trivial ?_|refine cU hpi ?_|refine tS ?_ ?_<;>intro hc|fail)
       all_goals exact rE []
   ·cases r with
    | nil =>
     have hl0:(([]:List (List Nat)).length:Int)=0:=rfl
     (repeat' first|refine wP (aI @hsv (aI @hlen (aI @ai (aI @beq_self_eq_true.{0} (aI @Bool.not_true (aI @Bool.not_false (aI @tf (aI @ft (aI @hg0 @hl0))))))))) trivial ?_|refine tS ?_ ?_<;>intro hc|fail)
     all_goals exact rE []
    | cons a R =>
     have hg1:(sv (w::a::R))[1]?=some (vs a):=rfl
     have hpi:=Qp a (ho a (by simp)) (by have:=hw a (by simp);omega)
     unfold Ry at hpi
     have hl2:((a::R).length:Int)=(R.length:Int)+1:=by simp
     have hnb:iE (a::R) = !decide ((aZ a).2=0):=by simp [iE,hdW]
     have hs0:(aZ (hdW (a::R))).1=(aZ a).1:=rfl
     rw[hnb,hs0]
     clear hnb hs0
     generalize (aZ a).1=s at *
     generalize (aZ a).2=pe0 at *
     cases R with
     | cons x R =>
      have hx1:((x::R).length:Int)=(R.length:Int)+1:=by simp
      have hM:(decide (3=0) || !decide (pe0=0)||(decide (3=1) != !(a::x::R:List (List Nat)).tail.isEmpty))=true:=by cases decide (pe0=0)<;>rfl
      rw[hM]
      (repeat' first|refine wP (aI @hsv (aI @hlen (aI @ai (aI @beq_self_eq_true.{0} (aI @Bool.not_true (aI @Bool.not_false (aI @tf (aI @ft (aI @hg0 (aI @hl2 @hx1)))))))))) trivial ?_|refine tS ?_ ?_<;>intro hc|fail)
      all_goals exact rE []
     | nil =>
      have hl0:(([]:List (List Nat)).length:Int)=0:=rfl
      by_cases hp:pe0=0
      ·subst hp
       have hM:(decide (3=0) || !decide ((0:Nat)=0)||(decide (3=1) != !(a::[]:List (List Nat)).tail.isEmpty))=false:=rfl
       rw[hM]
       simp only[Bool.false_eq_true,if_false]
       by_cases hs:s<0∨64≤s
       ·simp only[if_pos hs]
        rcases hs with hs|hs
        all_goals
         (repeat' first|refine wP (aI @hsv (aI @hlen (aI @ai (aI @beq_self_eq_true.{0} (aI @Bool.not_true (aI @Bool.not_false (aI @tf (aI @ft (aI @hg0 (aI @hl2 (aI @hl0 @hg1))))))))))) trivial ?_|refine cU hpi ?_|refine tS ?_ ?_<;>intro hc|fail)
         all_goals exact rE []
       ·simp only[if_neg hs]
        (repeat' first|refine wP (aI @hsv (aI @hlen (aI @ai (aI @beq_self_eq_true.{0} (aI @Bool.not_true (aI @Bool.not_false (aI @tf (aI @ft (aI @hg0 (aI @hl2 (aI @hl0 @hg1))))))))))) trivial ?_|refine cU hpi ?_|refine tS ?_ ?_<;>intro hc|fail)
        all_goals exact rE []
      ·have hM:(decide (3=0) || !decide (pe0=0)||(decide (3=1) != !(a::[]:List (List Nat)).tail.isEmpty))=true:=by rw[decide_eq_false hp];rfl
       rw[hM]
       (repeat' first|refine wP (aI @hsv (aI @hlen (aI @ai (aI @beq_self_eq_true.{0} (aI @Bool.not_true (aI @Bool.not_false (aI @tf (aI @ft (aI @hg0 (aI @hl2 (aI @hl0 @hg1))))))))))) trivial ?_|refine cU hpi ?_|refine tS ?_ ?_<;>intro hc|fail)
       all_goals exact rE []
theorem aqJ(w:List Nat)(r:List (List Nat))(hl:r.length≤90000)(how:oct w)(ho:∀x∈r,oct x)(hw:∀x∈r,x.length≤100000):Gxx 108 [fzs (w::r)] (.tup [.agg (xvC (eX (w::r))),vi (eE (w::r))]) :=
 Good.wkt (aqI w r hl how ho hw) ⟨aqj _,aA _,trivial⟩
theorem acD(l:List Nat):(fld l).length≤l.length+1∧∀w∈fld l,w≠[]∧w.length≤l.length∧∀c∈w,c∈l:=by
 unfold fld
 have h1:=Ih 32 (bef 35 l)
 have h2:=aeL 35 l
 refine⟨by have:=List.length_filter_le yj (spl 32 (bef 35 l));omega,fun w hw => ?_⟩
 rw[List.mem_filter,aeK,decide_eq_true_eq] at hw
 have h3:=Qj 32 (bef 35 l) w hw.1
 exact⟨hw.2,by omega,fun c hc=>(Q8 35 l c (aeH 32 _ w hw.1 c hc).1).1⟩
theorem abq{xs:List (List Nat)}:(∀x∈PY xs,x∈xs)∧(PY xs).length≤xs.length:=by
 unfold PY
 split
 ·exact⟨fun x hx=>(List.dropLast_sublist xs).mem hx,by simp⟩
 ·exact⟨fun x hx=>hx,Nat.le_refl _⟩
def lns(s:List Nat):List (List Nat):=PY (spl 10 s)
theorem Wj(s:List Nat):(lns s).length≤s.length+1∧∀x∈lns s,x.length≤s.length∧∀c∈x,c∈s:=by
 obtain⟨h1,h2⟩:=abq (xs:=spl 10 s)
 have h3:=Ih 10 s
 exact⟨by unfold lns;omega,fun x hx=>⟨Qj 10 s x (h1 x hx),fun c hc=>(aeH 10 s x (h1 x hx) c hc).1⟩⟩
def pA:List (List Nat)→Nat→List Ev→List Ev × Nat × Int
 | [],_,acc=>if 2000<acc.length then ([],0,11) else (acc,0,0)
 | x::r,i,acc=>if fld x=[] then pA r (i+1) acc else if eE (fld x)≠0 then ([],i+1,eE (fld x)) else pA r (i+1) (acc++[eP (fld x)])
def pT(s:List Nat):List Ev × Nat × Int:=if 65536<s.length then ([],0,11) else if s.all okc=false then ([],0,1) else pA (lns s) 0 []
theorem Qi{L:List (List Nat)}{i:Nat}(h:i<L.length)(acc:List Ev):pA (L.drop i) i acc=if fld (L.getD i [])=[] then pA (L.drop (i+1)) (i+1) acc else if eE (fld (L.getD i []))≠0 then ([],i+1,eE (fld (L.getD i []))) else pA (L.drop (i+1)) (i+1) (acc++[eP (fld (L.getD i []))]):=by
 rw[List.drop_eq_getElem_cons h]
 have:L.getD i []=L[i]:=by simp [List.getD,h]
 rw[this]
 rfl
theorem WB{x:List Nat}(ho:oct x)(hl:x.length≤65536){w:List Nat}{r:List (List Nat)}(hf:fld x=w::r):r.length≤90000∧oct w∧(∀y∈r,oct y)∧∀y∈r,y.length≤100000:=by
 obtain⟨h1,h2⟩:=acD x
 rw[hf] at h1 h2
 simp only[List.length_cons] at h1
 refine⟨by omega,fun c hc=>ho c ((h2 w (by simp)).2.2 c hc),fun y hy c hc=>ho c ((h2 y (by simp [hy])).2.2 c hc),fun y hy=>by have:=(h2 y (by simp [hy])).2.1;omega⟩
abbrev ptV(F:List Ev × Nat × Int):V := .tup [fzx F.1,vi (F.2.1:Nat),vi F.2.2]
theorem aqK:∀(L:List (List Nat)) (i:Nat) (acc:List Ev),(pA L i acc).2.2≠0→(pA L i acc).1=[]:=by
 intro L
 induction L with
 | nil =>
  intro i acc h
  unfold pA at h ⊢
  split at h
  ·rename_i h1;rw[if_pos h1]
  ·exact absurd rfl h
 | cons x r ih =>
  intro i acc h
  unfold pA at h ⊢
  split at h
  ·rename_i h1;rw[if_pos h1];exact ih _ _ h
  ·rename_i h1
   rw[if_neg h1]
   split at h
   ·rename_i h2;rw[if_pos h2]
   ·rename_i h2;rw[if_neg h2];exact ih _ _ h
theorem aqM:∀(L:List (List Nat)) (i:Nat) (acc:List Ev),(pA L i acc).2.2=0→(pA L i acc).2.1=0:=by
 intro L
 induction L with
 | nil =>
  intro i acc h
  unfold pA at h ⊢
  split at h
  ·cases h
  ·rename_i h1;rw[if_neg h1]
 | cons x r ih =>
  intro i acc h
  unfold pA at h ⊢
  split at h
  ·rename_i h1;rw[if_pos h1];exact ih _ _ h
  ·rename_i h1
   rw[if_neg h1]
   split at h
   ·rename_i h2;exact absurd h h2
   ·rename_i h2;rw[if_neg h2];exact ih _ _ h
theorem aq3(s:List Nat)(L:List (List Nat))(hL:Gxx 65 [vs s] (.tup [.sl (.own 0 9) 1 (sv L),vi 0]))(hll:L.length≤65537)(hlm:∀x∈L,x.length≤65536∧oct x):Gxx 28 [vs s] (ptV (pA L 0 [])):=by
 have hz:=aqM L 0 []
 have he:=aqK L 0 []
 generalize hF:pA L 0 []=F at *
 have hLl:=au L
 by_cases hE:F.2.2=0
 ·refine Good.fzt (vs:=[.sl (.own 0 69) 24 (xvV F.1),vi 0,vi 0]) ?_ rfl ⟨aA _,by rw[hz hE];exact aA _,by rw[hE];exact aA _,trivial⟩
  refine gI oW Tryz.func28 Tryz.results28 ?_
  (repeat' first|refine wP (aI @hLl @ai) trivial ?_|refine cU hL ?_|refine tS ?_ ?_<;>intro hc|fail)
  refine aK (fun i:Nat × List Ev=>mkA [(2,.sl (.own 1 69) 24 (xvV i.2)),(19,.sl (.own 0 9) 1 (sv L)),(20,vi L.length),(21,vi (i.1:Nat))] [] 2 (fun _ => .top)) (fun i=>i.1≤L.length∧i.2.length≤i.1∧pA (L.drop i.1) i.1 i.2=F) (fun i=>L.length-i.1) (0,[]) [0] [] ?_ ⟨Nat.zero_le _,Nat.zero_le _,hF⟩ ?_
  ·exact kE
   all_goals exact gK rfl
  ·rintro⟨i,acc⟩ ⟨hi,ha,hp⟩
   simp only at hi ha hp
   have hal:=aba acc
   rcases Nat.lt_or_ge i L.length with hlt|hge
   ·have hg:=iK L i hlt
    have hmem:L.getD i []∈L:=by rw[List.getD_eq_getElem?_getD,List.getElem?_eq_getElem hlt];exact List.getElem_mem hlt
    obtain⟨hx1,hx2⟩:=hlm _ hmem
    rw[Qi hlt] at hp
    have hFl:=ajl (L.getD i []) hx2 (by omega)
    generalize L.getD i []=x at *
    have hwl:=au (fld x)
    cases hf:fld x with
    | nil =>
     rw[hf] at hp hFl hwl
     rw[if_pos rfl] at hp
     (repeat' first|refine wP (aI @hLl (aI @hg (aI @hwl @List.length_nil.{0}))) trivial ?_|refine cU hFl ?_|refine tS ?_ ?_<;>intro hc|fail)
     all_goals exact bE ((i+1,acc)) [0,1] [] ⟨hlt,by simp only;omega,hp⟩
    | cons w r =>
     obtain⟨q1,q2,q3,q4⟩:=WB hx2 hx1 hf
     have hev:=aqG w r q1 q2 q3 q4
     rw[hf] at hp hFl hwl
     rw[if_neg (by simp)] at hp
     have hwc:((w::r).length:Int)=(r.length:Int)+1:=by simp
     have hsn:=GM acc (eP (w::r))
     generalize eP (w::r)=v at *
     generalize eE (w::r)=er at *
     by_cases hr:er=0
     ·rw[if_neg (by omega)] at hp
      subst hr
      (repeat' first|refine wP (aI @hLl (aI @hg (aI @hwl (aI @hwc (aI @hsn (aI @hal @id_eq.{1})))))) trivial ?_|refine cU hFl ?_|refine cG [2] hev ?_|refine tS ?_ ?_<;>intro hc|fail)
      all_goals exact bE ((i+1,acc++[v])) [0,1] [] ⟨hlt,by simp only[List.length_append,List.length_cons,List.length_nil];omega,hp⟩
     ·rw[if_pos hr] at hp
      subst hp
      exact absurd hE hr
   ·have:i=L.length:=by omega
    subst this
    rw[List.drop_length] at hp
    unfold pA at hp
    by_cases hbig:2000<acc.length
    ·rw[if_pos hbig] at hp
     subst hp
     exact absurd hE (by decide)
    ·rw[if_neg hbig] at hp
     subst hp
     (repeat' first|refine wP (aI @hLl @hal) trivial ?_|refine tS ?_ ?_<;>intro hc|fail)
     all_goals exact rE [1]
 ·refine Good.wkt (vs:=[nls,vi (F.2.1:Nat),vi F.2.2]) ?_ ⟨by rw[he hE];exact .inl (oq _ _),aA _,aA _,trivial⟩
  refine gI oW Tryz.func28 Tryz.results28 ?_
  (repeat' first|refine wP (aI @hLl @ai) trivial ?_|refine cU hL ?_|refine tS ?_ ?_<;>intro hc|fail)
  refine aK (fun i:Nat × List Ev=>mkA [(2,.sl (.own 1 69) 24 (xvV i.2)),(19,.sl (.own 0 9) 1 (sv L)),(20,vi L.length),(21,vi (i.1:Nat))] [] 2 (fun _ => .top)) (fun i=>i.1≤L.length∧i.2.length≤i.1∧pA (L.drop i.1) i.1 i.2=F) (fun i=>L.length-i.1) (0,[]) [0] [] ?_ ⟨Nat.zero_le _,Nat.zero_le _,hF⟩ ?_
  ·exact kE
   all_goals exact gK rfl
  ·rintro⟨i,acc⟩ ⟨hi,ha,hp⟩
   simp only at hi ha hp
   have hal:=aba acc
   rcases Nat.lt_or_ge i L.length with hlt|hge
   ·have hg:=iK L i hlt
    have hmem:L.getD i []∈L:=by rw[List.getD_eq_getElem?_getD,List.getElem?_eq_getElem hlt];exact List.getElem_mem hlt
    obtain⟨hx1,hx2⟩:=hlm _ hmem
    rw[Qi hlt] at hp
    have hFl:=ajl (L.getD i []) hx2 (by omega)
    generalize L.getD i []=x at *
    have hwl:=au (fld x)
    cases hf:fld x with
    | nil =>
     rw[hf] at hp hFl hwl
     rw[if_pos rfl] at hp
     (repeat' first|refine wP (aI @hLl (aI @hg (aI @hwl @List.length_nil.{0}))) trivial ?_|refine cU hFl ?_|refine tS ?_ ?_<;>intro hc|fail)
     all_goals exact bE ((i+1,acc)) [0,1] [] ⟨hlt,by simp only;omega,hp⟩
    | cons w r =>
     obtain⟨q1,q2,q3,q4⟩:=WB hx2 hx1 hf
     have hev:=aqG w r q1 q2 q3 q4
     rw[hf] at hp hFl hwl
     rw[if_neg (by simp)] at hp
     have hwc:((w::r).length:Int)=(r.length:Int)+1:=by simp
     have hsn:=GM acc (eP (w::r))
     generalize eP (w::r)=v at *
     generalize eE (w::r)=er at *
     by_cases hr:er=0
     ·rw[if_neg (by omega)] at hp
      subst hr
      (repeat' first|refine wP (aI @hLl (aI @hg (aI @hwl (aI @hwc (aI @hsn (aI @hal @id_eq.{1})))))) trivial ?_|refine cU hFl ?_|refine cG [2] hev ?_|refine tS ?_ ?_<;>intro hc|fail)
      all_goals exact bE ((i+1,acc++[v])) [0,1] [] ⟨hlt,by simp only[List.length_append,List.length_cons,List.length_nil];omega,hp⟩
     ·rw[if_pos hr] at hp
      subst hp
      (repeat' first|refine wP (aI @hLl (aI @hg (aI @hwl (aI @hwc (aI @hsn (aI @hal @id_eq.{1})))))) trivial ?_|refine cU hFl ?_|refine cG [2] hev ?_|refine tS ?_ ?_<;>intro hc|fail)
      all_goals exact rE []
   ·have:i=L.length:=by omega
    subst this
    rw[List.drop_length] at hp
    unfold pA at hp
    by_cases hbig:2000<acc.length
    ·rw[if_pos hbig] at hp
     subst hp
     (repeat' first|refine wP (aI @hLl @hal) trivial ?_|refine tS ?_ ?_<;>intro hc|fail)
     all_goals exact rE []
    ·rw[if_neg hbig] at hp
     subst hp
     exact absurd rfl hE
theorem aq4(s:List Nat)(L:List (List Nat))(hL:Gxx 106 [vs s] (.tup [.sl (.own 0 9) 1 (sv L),vi 0]))(hll:L.length≤65537)(hlm:∀x∈L,x.length≤65536∧oct x):Gxx 57 [vs s] (ptV (pA L 0 [])):=by
 have hz:=aqM L 0 []
 have he:=aqK L 0 []
 generalize hF:pA L 0 []=F at *
 have hLl:=au L
 by_cases hE:F.2.2=0
 ·refine Good.fzt (vs:=[.sl (.own 0 69) 24 (xvV F.1),vi 0,vi 0]) ?_ rfl ⟨aA _,by rw[hz hE];exact aA _,by rw[hE];exact aA _,trivial⟩
  refine gI oW Tryz.func57 Tryz.results57 ?_
  (repeat' first|refine wP (aI @hLl @ai) trivial ?_|refine cU hL ?_|refine tS ?_ ?_<;>intro hc|fail)
  refine aK (fun i:Nat × List Ev=>mkA [(5,.sl (.own 0 9) 1 (sv L)),(7,.sl (.own 1 69) 24 (xvV i.2)),(8,vi (i.1:Nat))] [] 2 (fun _ => .top)) (fun i=>i.1≤L.length∧i.2.length≤i.1∧pA (L.drop i.1) i.1 i.2=F) (fun i=>L.length-i.1) (0,[]) [0] [] ?_ ⟨Nat.zero_le _,Nat.zero_le _,hF⟩ ?_
  ·exact kE
   all_goals exact gK rfl
  ·rintro⟨i,acc⟩ ⟨hi,ha,hp⟩
   simp only at hi ha hp
   have hal:=aba acc
   rcases Nat.lt_or_ge i L.length with hlt|hge
   ·have hg:=iK L i hlt
    have hmem:L.getD i []∈L:=by rw[List.getD_eq_getElem?_getD,List.getElem?_eq_getElem hlt];exact List.getElem_mem hlt
    obtain⟨hx1,hx2⟩:=hlm _ hmem
    rw[Qi hlt] at hp
    have hFl:=acf (L.getD i []) hx2 (by omega)
    generalize L.getD i []=x at *
    have hwl:=au (fld x)
    cases hf:fld x with
    | nil =>
     rw[hf] at hp hFl hwl
     rw[if_pos rfl] at hp
     (repeat' first|refine wP (aI @hLl (aI @hg (aI @hwl @List.length_nil.{0}))) trivial ?_|refine cU hFl ?_|refine tS ?_ ?_<;>intro hc|fail)
     all_goals exact bE ((i+1,acc)) [0,1] [] ⟨hlt,by simp only;omega,hp⟩
    | cons w r =>
     obtain⟨q1,q2,q3,q4⟩:=WB hx2 hx1 hf
     have hev:=aqJ w r q1 q2 q3 q4
     rw[hf] at hp hFl hwl
     rw[if_neg (by simp)] at hp
     have hwc:((w::r).length:Int)=(r.length:Int)+1:=by simp
     have hsn:=GM acc (eX (w::r))
     have hxe:=fun h=>akc (f:=w::r) h
     generalize eX (w::r)=v at *
     generalize eP (w::r)=v' at *
     generalize eE (w::r)=er at *
     by_cases hr:er=0
     ·rw[if_neg (by omega)] at hp
      subst hr
      have hxv:=hxe rfl
      subst hxv
      (repeat' first|refine wP (aI @hLl (aI @hg (aI @hwl (aI @hwc (aI @hsn (aI @hal @id_eq.{1})))))) trivial ?_|refine cU hFl ?_|refine cG [2] hev ?_|refine tS ?_ ?_<;>intro hc|fail)
      all_goals exact bE ((i+1,acc++[v])) [0,1] [] ⟨hlt,by simp only[List.length_append,List.length_cons,List.length_nil];omega,hp⟩
     ·rw[if_pos hr] at hp
      subst hp
      exact absurd hE hr
   ·have:i=L.length:=by omega
    subst this
    rw[List.drop_length] at hp
    unfold pA at hp
    by_cases hbig:2000<acc.length
    ·rw[if_pos hbig] at hp
     subst hp
     exact absurd hE (by decide)
    ·rw[if_neg hbig] at hp
     subst hp
     (repeat' first|refine wP (aI @hLl @hal) trivial ?_|refine tS ?_ ?_<;>intro hc|fail)
     all_goals exact rE [1]
 ·refine Good.wkt (vs:=[nls,vi (F.2.1:Nat),vi F.2.2]) ?_ ⟨by rw[he hE];exact .inl (oq _ _),aA _,aA _,trivial⟩
  refine gI oW Tryz.func57 Tryz.results57 ?_
  (repeat' first|refine wP (aI @hLl @ai) trivial ?_|refine cU hL ?_|refine tS ?_ ?_<;>intro hc|fail)
  refine aK (fun i:Nat × List Ev=>mkA [(5,.sl (.own 0 9) 1 (sv L)),(7,.sl (.own 1 69) 24 (xvV i.2)),(8,vi (i.1:Nat))] [] 2 (fun _ => .top)) (fun i=>i.1≤L.length∧i.2.length≤i.1∧pA (L.drop i.1) i.1 i.2=F) (fun i=>L.length-i.1) (0,[]) [0] [] ?_ ⟨Nat.zero_le _,Nat.zero_le _,hF⟩ ?_
  ·exact kE
   all_goals exact gK rfl
  ·rintro⟨i,acc⟩ ⟨hi,ha,hp⟩
   simp only at hi ha hp
   have hal:=aba acc
   rcases Nat.lt_or_ge i L.length with hlt|hge
   ·have hg:=iK L i hlt
    have hmem:L.getD i []∈L:=by rw[List.getD_eq_getElem?_getD,List.getElem?_eq_getElem hlt];exact List.getElem_mem hlt
    obtain⟨hx1,hx2⟩:=hlm _ hmem
    rw[Qi hlt] at hp
    have hFl:=acf (L.getD i []) hx2 (by omega)
    generalize L.getD i []=x at *
    have hwl:=au (fld x)
    cases hf:fld x with
    | nil =>
     rw[hf] at hp hFl hwl
     rw[if_pos rfl] at hp
     (repeat' first|refine wP (aI @hLl (aI @hg (aI @hwl @List.length_nil.{0}))) trivial ?_|refine cU hFl ?_|refine tS ?_ ?_<;>intro hc|fail)
     all_goals exact bE ((i+1,acc)) [0,1] [] ⟨hlt,by simp only;omega,hp⟩
    | cons w r =>
     obtain⟨q1,q2,q3,q4⟩:=WB hx2 hx1 hf
     have hev:=aqJ w r q1 q2 q3 q4
     rw[hf] at hp hFl hwl
     rw[if_neg (by simp)] at hp
     have hwc:((w::r).length:Int)=(r.length:Int)+1:=by simp
     have hsn:=GM acc (eX (w::r))
     have hxe:=fun h=>akc (f:=w::r) h
     generalize eX (w::r)=v at *
     generalize eP (w::r)=v' at *
     generalize eE (w::r)=er at *
     by_cases hr:er=0
     ·rw[if_neg (by omega)] at hp
      subst hr
      have hxv:=hxe rfl
      subst hxv
      (repeat' first|refine wP (aI @hLl (aI @hg (aI @hwl (aI @hwc (aI @hsn (aI @hal @id_eq.{1})))))) trivial ?_|refine cU hFl ?_|refine cG [2] hev ?_|refine tS ?_ ?_<;>intro hc|fail)
      all_goals exact bE ((i+1,acc++[v])) [0,1] [] ⟨hlt,by simp only[List.length_append,List.length_cons,List.length_nil];omega,hp⟩
     ·rw[if_pos hr] at hp
      subst hp
      (repeat' first|refine wP (aI @hLl (aI @hg (aI @hwl (aI @hwc (aI @hsn (aI @hal @id_eq.{1})))))) trivial ?_|refine cU hFl ?_|refine cG [2] hev ?_|refine tS ?_ ?_<;>intro hc|fail)
      all_goals exact rE []
   ·have:i=L.length:=by omega
    subst this
    rw[List.drop_length] at hp
    unfold pA at hp
    by_cases hbig:2000<acc.length
    ·rw[if_pos hbig] at hp
     subst hp
     (repeat' first|refine wP (aI @hLl @hal) trivial ?_|refine tS ?_ ?_<;>intro hc|fail)
     all_goals exact rE []
    ·rw[if_neg hbig] at hp
     subst hp
     exact absurd rfl hE
end Go.Proofs.YtjiolbcdfgclaaaGreatDoor
