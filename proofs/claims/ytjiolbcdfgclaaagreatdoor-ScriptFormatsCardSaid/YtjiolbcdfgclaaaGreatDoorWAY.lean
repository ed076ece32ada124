/-
  Texts of this claim, merged; own names are short.
-/
import Derived.Test.YtjiolbcdfgclaaaGreatDoorWAX
import Derived.Test.YtjiolbcdfgclaaaGreatDoorWAT
import Derived.Test.YtjiolbcdfgclaaaGreatDoorWAN
import Derived.Test.YtjiolbcdfgclaaaGreatDoorWAV
set_option linter.unusedVariables false
set_option linter.unusedSimpArgs false
set_option linter.unusedSectionVars false
set_option linter.defProp false
set_option maxRecDepth 100000
set_option maxHeartbeats 8000000
namespace Go.Proofs.YtjiolbcdfgclaaaGreatDoor
open Go Go.Pg
theorem apD(e:Ev):xvH e=yM.getD e.k.toNat []++[32]++ak e.s:=by simp [xvH,jn,sQ,ZA]
theorem aoY{e:Ev}(h:e.k=1):xvT e=xvH e++([32]++fmtO e.o):=by unfold xvT;rw[if_pos h];simp [jn,sQ,ZA]
theorem ahl(k:Nat):oct (yM.getD k []):=by
 unfold yM
 rcases k with _|_|_|_|n<;>simp [oct]<;>omega
theorem aho(o:O)(ok:o.Ok):oct (fmtO o):=by
 unfold fmtO
 split
 ·rename_i h
  exact acS o ok h
 ·exact dV
theorem apn(e:Ev)(ok:e.Ok):oct (xvT e):=by
 have h1:oct (xvH e):=by rw[apD];exact bM (bM (ahl _) (jI _ rfl)) (fD _)
 by_cases h:e.k=1
 ·rw[aoY h];exact bM h1 (bM (jI _ rfl) (aho _ ok.o))
 ·unfold xvT;rw[if_neg h];exact h1
theorem af7(l:List Ev)(hok:∀e∈l,e.Ok):oct (txt l):=by
 intro b hb
 obtain⟨e,he,hb⟩:=List.mem_flatMap.1 hb
 exact bM (apn e (hok e he)) (jI _ rfl) b hb
def fS(l:List Ev):Nat→St
 | 0=>mkA [(4,.ref 0 0),(12,fzx l),(13,vi l.length),(14,vi (0:Nat))] [(0,(115,[.c (.pointer none),nls]))] 1 (fun _ => .top)
 | i+1=>mkA [(4,.ref 0 0),(12,fzx l),(13,vi l.length),(14,vi (i+1:Nat))] [(0,(115,[.ref 0 0,.sl (.own 0 5) 1 (bv (txt (l.take (i+1))))]))] 1 (fun _ => .top)
theorem af4(l:List Ev)(hok:∀e∈l,e.Ok)(hl:l.length≤100000):Gxx 27 [fzx l] (.tup [vs (acU l).1,vi (acU l).2]):=by
 have hil:=aba l
 unfold acU
 by_cases c1:2000<l.length
 ·rw[if_pos c1]
  refine gI oW Tryz.func27 Tryz.results27 ?_
  exact wR (aI @hil @ai) trivial ah
 ·rw[if_neg c1]
  refine gI oW Tryz.func27 Tryz.results27 ?_
  refine wS (aI @hil @ai) trivial ?_
  refine aK (fS l) (fun i=>i≤l.length∧sU xvE (l.take i)=0) (fun i=>l.length-i) 0 [] [0] ?_ ⟨Nat.zero_le _,rfl⟩ ?_
  ·exact kE
  ·rintro i ⟨hi,he⟩
   have htl:=aoX (l.take i) (fun e h=>hok e (List.mem_of_mem_take h))
   rw[List.length_take] at htl
   rcases Nat.lt_or_ge i l.length with hlt|hge
   ·have hg:=acT l i hlt xD
    have hx:=getD_some l i xD hlt
    have h1:=BN xvE l i _ hx he
    have h2:=vT xvE l i _ hx he
    have hnx:=agX l i hlt
    have ok:(l.getD i xD).Ok:=hok _ (by rw[List.getD_eq_getElem?_getD,List.getElem?_eq_getElem hlt];exact List.getElem_mem hlt)
    generalize l.getD i xD=x at *
    have hF:=Tf x.o ok.o
    have hZ:=aoT x.o (by have:=ok.o.names;omega) (by have:=ok.o.items;omega)
    have hN:=jv x.s ok.s.1 ok.s.2
    have hoF:=aho x.o ok.o
    have hlF:=af6 x.o ok.o
    have hoN:=fD x.s
    have hlN:=dS ok.s
    by_cases c2:x.k<1∨3<x.k
    ·have e:xvE x=8:=if_pos c2
     rw[h1 (by rw[e];decide),e,if_pos (by decide)]
     rcases i with _|i
     ·show wpS _ _ _ _ (mkA _ _ 1 _)
      exact wR (aI @hil (aI @hg @ai)) trivial ah
     ·show wpS _ _ _ _ (mkA _ _ 1 _)
      generalize hj:i+1=j at *
      exact wR (aI @hil (aI @hg @ai)) trivial ah
    ·have hge:=iK yM x.k.toNat (by have:yM.length=4:=rfl;omega)
     have hel:(sv yM).length=4:=rfl
     have hkl:=afC x.k
     have hko:=ahl x.k.toNat
     by_cases c3:x.s<0∨64≤x.s
     ·have e:xvE x=5:=by unfold xvE;rw[if_neg c2,if_pos c3]
      rw[h1 (by rw[e];decide),e,if_pos (by decide)]
      rcases i with _|i
      ·show wpS _ _ _ _ (mkA _ _ 1 _)
       exact wR (aI @hil (aI @hg @ai)) trivial ah
      ·show wpS _ _ _ _ (mkA _ _ 1 _)
       generalize hj:i+1=j at *
       exact wR (aI @hil (aI @hg @ai)) trivial ah
     ·have eH:=apD x
      generalize yM.getD x.k.toNat []=kw at *
      have hoH:oct (kw++[32]++ak x.s):=bM (bM hko (jI _ rfl)) hoN
      have hlH:(kw++[32]++ak x.s).length≤30∧0<(kw++[32]++ak x.s).length:=by simp only[List.length_append,List.length_cons,List.length_nil];omega
      have hoS:oct ([32]++fmtO x.o):=bM (jI _ rfl) hoF
      have hlS:([32]++fmtO x.o).length≤50000001:=by simp only[List.length_append,List.length_cons,List.length_nil];omega
      rcases i with _|i
      ·show wpS _ _ _ _ (mkA _ _ 1 _)
       by_cases c4:x.k=1
       ·have e:xvE x=vop x.o:=by unfold xvE;rw[if_neg c2,if_neg c3,if_pos c4]
        have et:=aoY c4
        rw[et,eH] at hnx
        by_cases c5:vop x.o=0
        ·rw[c5] at hF
         (repeat' first|refine wP (aI @hil (aI @hg (aI @ai (aI @afV (aI @agY (aI @adW (aI @hel @hge))))))) (aI yN (aI hN hF)) ?_|refine cZ (afB _ _ _ _ 0 _ (kw++[32]++ak x.s) rfl (.inl rfl) ⟨by omega,by omega⟩ hoH) ?_|refine cZ (PV _ _ _ _ 0 _ _ _ (kw++[32]++ak x.s) rfl (.inr rfl) (by omega) hoH) ?_|refine cZ (PV _ _ _ _ 0 _ _ _ ([32]++fmtO x.o) rfl (.inr rfl) (by simp only[List.length_append] at *;omega) hoS) ?_|refine cZ (PV _ _ _ _ 0 _ _ _ [10] rfl (.inr rfl) (by simp only[List.length_append,List.length_cons,List.length_nil] at *;omega) (jI _ rfl)) ?_|refine tS ?_ ?_<;>intro hc|fail)
         (refine bC (0+1) [3] [0] (⟨hlt,h2 (by rw[e];exact c5)⟩) (by first|omega|(simp only[List.length_cons];omega)) ?_;(refine iy ?_ ?_ (kD _ _ _) (by decide) (by decide) (by decide) (by decide);(repeat' (first|exact trivial|refine gJ _ _ rfl rfl ?_ ?_));all_goals (try simp only[pgs,pgl,pgx,pgf,pgw,fQ,ig,fU,iq,dB,eY,fJ,pgn,simprocAttr]);all_goals (try (repeat' (first|apply aI)));all_goals (try (first|exact trivial|exact gB (by omega)|exact gq rfl|exact aW rfl rfl|exact je rfl))))
         all_goals exact aW rfl (by rw[hnx]<;>simp [txt,List.append_assoc])
        ·rw[h1 (by rw[e];exact c5),e,if_pos c5]
         (repeat' first|refine wP (aI @hil (aI @hg (aI @ai (aI @afV (aI @agY (aI @adW (aI @hel @hge))))))) (aI yN (aI hN hF)) ?_|refine cZ (afB _ _ _ _ 0 _ (kw++[32]++ak x.s) rfl (.inl rfl) ⟨by omega,by omega⟩ hoH) ?_|refine cZ (PV _ _ _ _ 0 _ _ _ (kw++[32]++ak x.s) rfl (.inr rfl) (by omega) hoH) ?_|refine cZ (PV _ _ _ _ 0 _ _ _ ([32]++fmtO x.o) rfl (.inr rfl) (by simp only[List.length_append] at *;omega) hoS) ?_|refine cZ (PV _ _ _ _ 0 _ _ _ [10] rfl (.inr rfl) (by simp only[List.length_append,List.length_cons,List.length_nil] at *;omega) (jI _ rfl)) ?_|refine tS ?_ ?_<;>intro hc|fail)
         exact rE []
       ·have et:xvT x=xvH x:=if_neg c4
        rw[et,eH] at hnx
        by_cases c5:zP x.o
        ·have e:xvE x=0:=by unfold xvE;rw[if_neg c2,if_neg c3,if_neg c4,if_pos c5]
         rw[decide_eq_true c5] at hZ
         (repeat' first|refine wP (aI @hil (aI @hg (aI @ai (aI @afV (aI @agY (aI @adW (aI @hel @hge))))))) (aI yN (aI hN hZ)) ?_|refine cZ (afB _ _ _ _ 0 _ (kw++[32]++ak x.s) rfl (.inl rfl) ⟨by omega,by omega⟩ hoH) ?_|refine cZ (PV _ _ _ _ 0 _ _ _ (kw++[32]++ak x.s) rfl (.inr rfl) (by omega) hoH) ?_|refine cZ (PV _ _ _ _ 0 _ _ _ ([32]++fmtO x.o) rfl (.inr rfl) (by simp only[List.length_append] at *;omega) hoS) ?_|refine cZ (PV _ _ _ _ 0 _ _ _ [10] rfl (.inr rfl) (by simp only[List.length_append,List.length_cons,List.length_nil] at *;omega) (jI _ rfl)) ?_|refine tS ?_ ?_<;>intro hc|fail)
         (refine bC (0+1) [3] [0] (⟨hlt,h2 e⟩) (by first|omega|(simp only[List.length_cons];omega)) ?_;(refine iy ?_ ?_ (kD _ _ _) (by decide) (by decide) (by decide) (by decide);(repeat' (first|exact trivial|refine gJ _ _ rfl rfl ?_ ?_));all_goals (try simp only[pgs,pgl,pgx,pgf,pgw,fQ,ig,fU,iq,dB,eY,fJ,pgn,simprocAttr]);all_goals (try (repeat' (first|apply aI)));all_goals (try (first|exact trivial|exact gB (by omega)|exact gq rfl|exact aW rfl rfl|exact je rfl))))
         all_goals exact aW rfl (by rw[hnx]<;>simp [txt,List.append_assoc])
        ·have e:xvE x=18:=by unfold xvE;rw[if_neg c2,if_neg c3,if_neg c4,if_neg c5]
         rw[decide_eq_false c5] at hZ
         rw[h1 (by rw[e];decide),e,if_pos (by decide)]
         (repeat' first|refine wP (aI @hil (aI @hg (aI @ai (aI @afV (aI @agY (aI @adW (aI @hel @hge))))))) (aI yN (aI hN hZ)) ?_|refine cZ (afB _ _ _ _ 0 _ (kw++[32]++ak x.s) rfl (.inl rfl) ⟨by omega,by omega⟩ hoH) ?_|refine cZ (PV _ _ _ _ 0 _ _ _ (kw++[32]++ak x.s) rfl (.inr rfl) (by omega) hoH) ?_|refine cZ (PV _ _ _ _ 0 _ _ _ ([32]++fmtO x.o) rfl (.inr rfl) (by simp only[List.length_append] at *;omega) hoS) ?_|refine cZ (PV _ _ _ _ 0 _ _ _ [10] rfl (.inr rfl) (by simp only[List.length_append,List.length_cons,List.length_nil] at *;omega) (jI _ rfl)) ?_|refine tS ?_ ?_<;>intro hc|fail)
         exact rE []
      ·show wpS _ _ _ _ (mkA _ _ 1 _)
       generalize hj:i+1=j at *
       by_cases c4:x.k=1
       ·have e:xvE x=vop x.o:=by unfold xvE;rw[if_neg c2,if_neg c3,if_pos c4]
        have et:=aoY c4
        rw[et,eH] at hnx
        by_cases c5:vop x.o=0
        ·rw[c5] at hF
         (repeat' first|refine wP (aI @hil (aI @hg (aI @ai (aI @afV (aI @agY (aI @adW (aI @hel @hge))))))) (aI yN (aI hN hF)) ?_|refine cZ (afB _ _ _ _ 0 _ (kw++[32]++ak x.s) rfl (.inl rfl) ⟨by omega,by omega⟩ hoH) ?_|refine cZ (PV _ _ _ _ 0 _ _ _ (kw++[32]++ak x.s) rfl (.inr rfl) (by omega) hoH) ?_|refine cZ (PV _ _ _ _ 0 _ _ _ ([32]++fmtO x.o) rfl (.inr rfl) (by simp only[List.length_append] at *;omega) hoS) ?_|refine cZ (PV _ _ _ _ 0 _ _ _ [10] rfl (.inr rfl) (by simp only[List.length_append,List.length_cons,List.length_nil] at *;omega) (jI _ rfl)) ?_|refine tS ?_ ?_<;>intro hc|fail)
         (refine bC (j+1) [0] [0] (⟨hlt,h2 (by rw[e];exact c5)⟩) (by first|omega|(simp only[List.length_cons];omega)) ?_;(refine iy ?_ ?_ (kD _ _ _) (by decide) (by decide) (by decide) (by decide);(repeat' (first|exact trivial|refine gJ _ _ rfl rfl ?_ ?_));all_goals (try simp only[pgs,pgl,pgx,pgf,pgw,fQ,ig,fU,iq,dB,eY,fJ,pgn,simprocAttr]);all_goals (try (repeat' (first|apply aI)));all_goals (try (first|exact trivial|exact gB (by omega)|exact gq rfl|exact aW rfl rfl|exact je rfl))))
         all_goals exact aW rfl (by rw[hnx]<;>simp [txt,List.append_assoc])
        ·rw[h1 (by rw[e];exact c5),e,if_pos c5]
         (repeat' first|refine wP (aI @hil (aI @hg (aI @ai (aI @afV (aI @agY (aI @adW (aI @hel @hge))))))) (aI yN (aI hN hF)) ?_|refine cZ (afB _ _ _ _ 0 _ (kw++[32]++ak x.s) rfl (.inl rfl) ⟨by omega,by omega⟩ hoH) ?_|refine cZ (PV _ _ _ _ 0 _ _ _ (kw++[32]++ak x.s) rfl (.inr rfl) (by omega) hoH) ?_|refine cZ (PV _ _ _ _ 0 _ _ _ ([32]++fmtO x.o) rfl (.inr rfl) (by simp only[List.length_append] at *;omega) hoS) ?_|refine cZ (PV _ _ _ _ 0 _ _ _ [10] rfl (.inr rfl) (by simp only[List.length_append,List.length_cons,List.length_nil] at *;omega) (jI _ rfl)) ?_|refine tS ?_ ?_<;>intro hc|fail)
         exact rE []
       ·have et:xvT x=xvH x:=if_neg c4
        rw[et,eH] at hnx
        by_cases c5:zP x.o
        ·have e:xvE x=0:=by unfold xvE;rw[if_neg c2,if_neg c3,if_neg c4,if_pos c5]
         rw[decide_eq_true c5] at hZ
         (repeat' first|refine wP (aI @hil (aI @hg (aI @ai (aI @afV (aI @agY (aI @adW (aI @hel @hge))))))) (aI yN (aI hN hZ)) ?_|refine cZ (afB _ _ _ _ 0 _ (kw++[32]++ak x.s) rfl (.inl rfl) ⟨by omega,by omega⟩ hoH) ?_|refine cZ (PV _ _ _ _ 0 _ _ _ (kw++[32]++ak x.s) rfl (.inr rfl) (by omega) hoH) ?_|refine cZ (PV _ _ _ _ 0 _ _ _ ([32]++fmtO x.o) rfl (.inr rfl) (by simp only[List.length_append] at *;omega) hoS) ?_|refine cZ (PV _ _ _ _ 0 _ _ _ [10] rfl (.inr rfl) (by simp only[List.length_append,List.length_cons,List.length_nil] at *;omega) (jI _ rfl)) ?_|refine tS ?_ ?_<;>intro hc|fail)
         (refine bC (j+1) [0] [0] (⟨hlt,h2 e⟩) (by first|omega|(simp only[List.length_cons];omega)) ?_;(refine iy ?_ ?_ (kD _ _ _) (by decide) (by decide) (by decide) (by decide);(repeat' (first|exact trivial|refine gJ _ _ rfl rfl ?_ ?_));all_goals (try simp only[pgs,pgl,pgx,pgf,pgw,fQ,ig,fU,iq,dB,eY,fJ,pgn,simprocAttr]);all_goals (try (repeat' (first|apply aI)));all_goals (try (first|exact trivial|exact gB (by omega)|exact gq rfl|exact aW rfl rfl|exact je rfl))))
         all_goals exact aW rfl (by rw[hnx]<;>simp [txt,List.append_assoc])
        ·have e:xvE x=18:=by unfold xvE;rw[if_neg c2,if_neg c3,if_neg c4,if_neg c5]
         rw[decide_eq_false c5] at hZ
         rw[h1 (by rw[e];decide),e,if_pos (by decide)]
         (repeat' first|refine wP (aI @hil (aI @hg (aI @ai (aI @afV (aI @agY (aI @adW (aI @hel @hge))))))) (aI yN (aI hN hZ)) ?_|refine cZ (afB _ _ _ _ 0 _ (kw++[32]++ak x.s) rfl (.inl rfl) ⟨by omega,by omega⟩ hoH) ?_|refine cZ (PV _ _ _ _ 0 _ _ _ (kw++[32]++ak x.s) rfl (.inr rfl) (by omega) hoH) ?_|refine cZ (PV _ _ _ _ 0 _ _ _ ([32]++fmtO x.o) rfl (.inr rfl) (by simp only[List.length_append] at *;omega) hoS) ?_|refine cZ (PV _ _ _ _ 0 _ _ _ [10] rfl (.inr rfl) (by simp only[List.length_append,List.length_cons,List.length_nil] at *;omega) (jI _ rfl)) ?_|refine tS ?_ ?_<;>intro hc|fail)
         exact rE []
   ·have:i=l.length:=by omega
    subst this
    rw[List.take_length] at he htl
    rw[he,if_neg (by simp)]
    have hot:=af7 l hok
    rcases hll:l.length with _|n
    ·obtain rfl:=List.eq_nil_of_length_eq_zero hll
     show wpS _ _ _ _ (mkA _ _ 1 _)
     rw[if_neg (by decide)]
     (repeat' first|refine wP (aI @hil @ai) trivial ?_|refine cZ (apL _ _ _ _ 0 _ rfl) ?_|refine cZ (apM _ _ _ _ 0 _ rfl) ?_|refine tS ?_ ?_<;>intro hc|fail)
     exact rE []
    ·have hne:0<(txt l).length:=by
      cases l with
      | nil=>cases hll
      | cons x l=>simp [txt];omega
     show wpS _ _ _ _ (mkA _ _ 1 _)
     rw[←hll,List.take_length]
     by_cases c6:65536<(txt l).length
     ·rw[if_pos c6]
      (repeat' first|refine wP (aI @hil @ai) trivial ?_|refine cZ (apC _ _ _ _ 0 0 _ _ rfl) ?_|refine tS ?_ ?_<;>intro hc|fail)
      exact rE []
     ·rw[if_neg c6]
      (repeat' first|refine wP (aI @hil @ai) trivial ?_|refine cZ (apC _ _ _ _ 0 0 _ _ rfl) ?_|refine cZ (aak _ _ _ _ 0 0 _ _ rfl ⟨hne,by omega⟩ hot) ?_|refine tS ?_ ?_<;>intro hc|fail)
      exact rE []
def xvW(e:Ev):List (List Nat):=yM.getD e.k.toNat []::ak e.s::(if e.k=1 then opW e.o else [])
theorem ajT{e:Ev}(h:xvE e=0):(1≤e.k∧e.k≤3)∧(0≤e.s∧e.s≤63)∧(e.k=1→vop e.o=0)∧(e.k≠1→zP e.o):=by
 unfold xvE at h
 split at h
 ·cases h
 ·rename_i h1
  split at h
  ·cases h
  ·rename_i h2
   split at h
   ·rename_i h3
    exact⟨by omega,by omega,fun _=>h,fun h4=>absurd h3 h4⟩
   ·rename_i h3
    split at h
    ·rename_i h4
     exact⟨by omega,by omega,fun h5=>absurd h5 h3,fun _=>h4⟩
    ·cases h
theorem ajU{e:Ev}(ok:e.Ok)(h:xvE e=0):WdL (xvW e):=by
 obtain⟨h1,h2,h3,h4⟩:=ajT h
 have hk:e.k.toNat=1∨e.k.toNat=2∨e.k.toNat=3:=by omega
 refine aC ?_ (aC (jb ok.s) ?_)
 ·rcases hk with hk|hk|hk<;>rw[hk]<;>exact jL _ (by decide) (by decide)
 ·split
  ·rename_i h5
   exact dX e.o ok.o (h3 h5)
  ·exact jK
theorem apo{a b:List (List Nat)}(ha:a≠[])(hb:b≠[]):jn (a++b)=jn [jn a,jn b]:=by
 rw[Ii ha]
 cases b with
 | nil=>exact absurd rfl hb
 | cons y b=>simp [jn,sQ,ZA]
theorem ao1{e:Ev}(ok:e.Ok)(h:xvE e=0):xvT e=jn (xvW e):=by
 obtain⟨h1,h2,h3,h4⟩:=ajT h
 unfold xvT xvW xvH
 by_cases hk:e.k=1
 ·rw[if_pos hk,if_pos hk]
  have hv:=h3 hk
  have hf:fmtO e.o=jn (opW e.o):=if_pos hv
  rw[hf]
  exact (apo (a:=[_,_]) (by simp) (ajZ e.o)).symm
 ·rw[if_neg hk,if_neg hk]
theorem apO{p:Nat→Prop}(h32:p 32){l:List (List Nat)}(h:∀w∈l,∀c∈w,p c):∀c∈jn l,p c:=by
 cases l with
 | nil=>intro c hc;cases hc
 | cons a l =>
  intro c hc
  rcases List.mem_append.1 hc with hc|hc
  ·exact h a (by simp) c hc
  ·have:∀l:List (List Nat),(∀w∈l,∀c∈w,p c)→∀c∈jt l,p c:=by
    intro l
    induction l with
    | nil=>intro _ c hc;rw[ZA] at hc;cases hc
    | cons w l ih =>
     intro hl c hc
     rw[sQ] at hc
     rcases List.mem_cons.1 hc with rfl|hc
     ·exact h32
     ·rcases List.mem_append.1 hc with hc|hc
      ·exact hl w (by simp) c hc
      ·exact ih (fun w hw=>hl w (by simp [hw])) c hc
   exact this l (fun w hw=>h w (by simp [hw])) c hc
theorem apP{l:List (List Nat)}(h:WdL l):∀c∈jn l,c=32∨(33≤c∧c≤126∧c≠35):=apO (.inl rfl) fun w hw c hc => .inr (afU.1 ((h w hw).2.2.2 c hc))
theorem ao3{l:List (List Nat)}(h:∀w∈l,w≠[]):l.filter yj=l:=by
 rw[List.filter_eq_self]
 intro w hw
 rw[aeK];exact decide_eq_true (h w hw)
theorem apQ{e:Ev}(ok:e.Ok)(h:xvE e=0):fld (xvT e)=xvW e:=by
 have hw:=ajU ok h
 rw[ao1 ok h]
 unfold fld
 rw[Zz 35 _ (fun c hc=>by have:=apP hw c hc;omega),aiH (by simp [xvW]) (fun w hw'=>(hw w hw').no),ao3 (fun w hw'=>(hw w hw').2.2.1)]
theorem apq{e:Ev}(ok:e.Ok)(h:xvE e=0):∀c∈xvT e,c≠10:=by
 rw[ao1 ok h]
 intro c hc
 have:=apP (ajU ok h) c hc
 omega
theorem ajo(e:Ev)(l:List Ev):txt (e::l)=xvT e++10::txt l:=by simp [txt]
theorem apr(l:List Ev)(hok:∀e∈l,e.Ok)(h:∀e∈l,xvE e=0):spl 10 (txt l)=l.map xvT++[[]]:=by
 induction l with
 | nil=>rfl
 | cons e l ih =>
  rw[ajo,OV 10 _ _ (apq (hok e (by simp)) (h e (by simp))),ih (fun x hx=>hok x (by simp [hx])) (fun x hx=>h x (by simp [hx]))]
  rfl
theorem aps(l:List Ev)(hok:∀e∈l,e.Ok)(h:∀e∈l,xvE e=0):(txt l).all okc=true:=by
 rw[List.all_eq_true]
 intro c hc
 obtain⟨e,he,hc⟩:=List.mem_flatMap.1 hc
 unfold okc bt
 rcases List.mem_append.1 hc with hc|hc
 ·rw[ao1 (hok e he) (h e he)] at hc
  have:=apP (ajU (hok e he) (h e he)) c hc
  simp only[Bool.or_eq_true,beq_iff_eq,Bool.and_eq_true,decide_eq_true_eq]
  omega
 ·simp only[List.mem_cons,List.not_mem_nil,or_false] at hc
  subst hc;rfl
theorem ajp{l:List Ev}(hl:l≠[]):∃t,txt l=t++[10]:=by
 induction l with
 | nil=>exact absurd rfl hl
 | cons e l ih =>
  rw[ajo]
  by_cases h:l=[]
  ·subst h;exact⟨xvT e,rfl⟩
  ·obtain⟨t,ht⟩:=ih h
   exact⟨xvT e++10::t,by rw[ht];simp⟩
theorem amH{l:List Ev}(hl:l≠[])(hok:∀e∈l,e.Ok)(h:∀e∈l,xvE e=0):spl 10 (trm 10 (txt l))=l.map xvT:=by
 obtain⟨t,ht⟩:=ajp hl
 have h1:=apr l hok h
 rw[ht] at h1 ⊢
 rw[aos] at h1
 have h2:trm 10 (t++[10])=t:=by unfold trm;simp
 rw[h2]
 exact List.append_cancel_right h1
theorem akv(k s:Int):wkV (.agg (xvZ k s)) (.agg (xvC ⟨k,s,oE⟩)):=by
 refine .inr ⟨_,_,rfl,rfl, ?_⟩
 (repeat' (first|exact trivial|refine iV (.inl rfl) ?_|refine iV (oq _ _) ?_))
theorem apt(e:Ev)(ok:e.Ok)(h:xvE e=0):Gxx 67 [fzs (xvW e)] (.tup [.agg (xvC e),vi 0]):=by
 obtain⟨h1,h2,h3,h4⟩:=ajT h
 obtain⟨k,s,o⟩:=e
 simp only at h1 h2 h3 h4
 have hk:k=1∨k=2∨k=3:=by omega
 have hso:=fD s
 have hws:Wt s:=ok.s
 have hsl:=dS hws
 have hs1 : -999999999999≤s∧s≤999999999999:=by omega
 have hp1:=amd hs1
 have hp2:=zq hs1
 rcases hk with rfl|rfl|rfl
 ·have hP:=VT o ok.o (h3 rfl)
  unfold PkP at hP
  have hne:=ajZ o
  have hl:=dM o ok.o
  have hx:0<(opW o).length:=List.length_pos_iff.2 hne
  have e1:xvW ⟨1,s,o⟩=[99,97,108,108]::ak s::opW o:=rfl
  rw[e1]
  have ho:o.kind=o.kind:=rfl
  generalize opW o=W at *
  have hsv:=au W
  refine gI oW Tryz.func67 Tryz.results67 ?_
  (repeat' first|refine wP (aI @ai (aI @hp1 (aI @hsv (aI @beq_self_eq_true.{0} @Bool.not_true)))) (aI yN hP) ?_|refine cZ (yR _ _ _ _ 1 [99,97,108,108] (ak s::W) _ yM 1 rfl (by simp only[List.length_cons];omega) (jI _ rfl) RF (by decide) (by decide) rfl (by decide)) ?_|refine cZ (Aa _ _ _ _ 1 (ak s) W rfl (by omega) hso (by omega) hp2) ?_|refine tS ?_ ?_<;>intro hc|fail)
  (refine rT [] ?_;first|rfl|simp only[pgo,simprocAttr]|skip)
 ·obtain rfl:=apI (h4 (by decide))
  refine Good.fzt (vs:=[.agg (xvZ 2 s),vi 0]) ?_ rfl ⟨akv _ _,aA _,trivial⟩
  have e1:xvW ⟨2,s,oE⟩=[112,105,99,107]::[ak s]:=rfl
  rw[e1]
  refine gI oW Tryz.func67 Tryz.results67 ?_
  (repeat' first|refine wP (aI @ai (aI @hp1 (aI @beq_self_eq_true.{0} @Bool.not_true))) yN ?_|refine cZ (yR _ _ _ _ 1 [112,105,99,107] [ak s] _ yM 2 rfl (by simp) (jI _ rfl) RF (by decide) (by decide) rfl (by decide)) ?_|refine cZ (Aa _ _ _ _ 1 (ak s) [] rfl (by simp) hso (by omega) hp2) ?_|refine tS ?_ ?_<;>intro hc|fail)
  (refine rT [] ?_;first|rfl|simp only[pgo,simprocAttr]|skip)
 ·obtain rfl:=apI (h4 (by decide))
  refine Good.fzt (vs:=[.agg (xvZ 3 s),vi 0]) ?_ rfl ⟨akv _ _,aA _,trivial⟩
  have e1:xvW ⟨3,s,oE⟩=[99,97,110,99,101,108]::[ak s]:=rfl
  rw[e1]
  refine gI oW Tryz.func67 Tryz.results67 ?_
  (repeat' first|refine wP (aI @ai (aI @hp1 (aI @beq_self_eq_true.{0} @Bool.not_true))) yN ?_|refine cZ (yR _ _ _ _ 1 [99,97,110,99,101,108] [ak s] _ yM 3 rfl (by simp) (jI _ rfl) RF (by decide) (by decide) rfl (by decide)) ?_|refine cZ (Aa _ _ _ _ 1 (ak s) [] rfl (by simp) hso (by omega) hp2) ?_|refine tS ?_ ?_<;>intro hc|fail)
  (refine rT [] ?_;first|rfl|simp only[pgo,simprocAttr]|skip)
theorem U6(l:List Ev)(i:Nat)(h:i<l.length)(d:Ev):xvV (l.take i)++[V.agg (xvC (l.getD i d))]=xvV (l.take (i+1)):=by
 unfold xvV
 rw[List.take_succ_eq_append_getElem h,List.map_append]
 simp [List.getD,h]
theorem akw(l:List Ev)(hok:∀e∈l,e.Ok)(hE:∀e∈l,xvE e=0)(hl:l.length≤2000)(ht:(txt l).length≤65536)(hot:oct (txt l)):Gxx 28 [vs (txt l)] (.tup [fzx l,vi 0,vi 0]):=by
 have hL:=ajk (txt l) hot
 unfold Iy at hL
 rw[if_neg (by omega),aps l hok hE,if_neg (by simp)] at hL
 by_cases hn:l=[]
 ·subst hn
  rw[if_pos (show txt []=[] from rfl)] at hL
  rw[show txt []=[] from rfl] at hL ⊢
  unfold nl at hL
  refine Good.fzt (vs:=[nls,vi 0,vi 0]) ?_ rfl ⟨.inl (oq _ _),aA _,aA _,trivial⟩
  refine gI oW Tryz.func28 Tryz.results28 ?_
  refine wS @ai hL ?_
  refine aK (fun _:Nat=>mkA [(2,nls),(19,nls),(20,vi 0),(21,vi 0)] [] 0 (fun _ => .top)) (fun _=>True) (fun _=>0) 0 [] [] ?_ trivial ?_
  ·exact kE
  ·intro i _
   exact wR @ai trivial ah
 ·have hne:txt l≠[]:=by obtain⟨t,h⟩:=ajp hn;rw[h];simp
  rw[if_neg hne,amH hn hok hE] at hL
  refine Good.fzt (vs:=[.sl (.own 0 69) 24 (xvV l),vi 0,vi 0]) ?_ rfl ⟨aA _,aA _,aA _,trivial⟩
  have hml:(sv (l.map xvT)).length=l.length:=by rw[au,List.length_map]
  have hil:=aba l
  refine gI oW Tryz.func28 Tryz.results28 ?_
  refine wS @hml hL ?_
  refine aK (fun i:Nat=>mkA [(2,.sl (.own 1 69) 24 (xvV (l.take i))),(19,.sl (.own 0 9) 1 (sv (l.map xvT))),(20,vi l.length),(21,vi i)] [] 2 (fun _ => .top)) (fun i=>i≤l.length) (fun i=>l.length-i) 0 [0] [] ?_ (Nat.zero_le _) ?_
  ·exact kE
   all_goals exact gK rfl
  ·intro i hi
   replace hi:i≤l.length:=hi
   have htk:=aba (l.take i)
   rw[List.length_take] at htk
   rcases Nat.lt_or_ge i l.length with hlt|hge
   ·have hg:(sv (l.map xvT))[i]?=some (vs (xvT (l.getD i xD))):=by simp [sv,List.getD,hlt]
    have hnx:=U6 l i hlt xD
    have hmem:l.getD i xD∈l:=by rw[List.getD_eq_getElem?_getD,List.getElem?_eq_getElem hlt];exact List.getElem_mem hlt
    have okx:=hok _ hmem
    have hx0:=hE _ hmem
    have hev:=apt _ okx hx0
    have hfl:=apQ okx hx0
    have hoc:oct (xvT (l.getD i xD)):=fun c hc=>hot c (List.mem_flatMap.2 ⟨_,hmem,List.mem_append_left _ hc⟩)
    have hle:=ajS _ okx
    have hF:=ajl (xvT (l.getD i xD)) hoc (by omega)
    rw[hfl] at hF
    have hwl:(sv (xvW (l.getD i xD))).length=(xvW (l.getD i xD)).length:=au _
    have hwp:0<(xvW (l.getD i xD)).length:=by simp [xvW]
    generalize l.getD i xD=x at *
    (repeat' first|refine wP (aI @hml (aI @hg (aI @hwl (aI @hnx (aI @htk @id_eq.{1}))))) hF ?_|refine cG [2] hev ?_|refine tS ?_ ?_<;>intro hc|fail)
    exact bE (i+1) [0,1] [] hlt
   ·have:i=l.length:=by omega
    subst this
    rw[List.take_length] at htk ⊢
    exact wR (aI @hml @hil) trivial (ids [1])
theorem ajQ(l:List Ev)(hok:∀e∈l,e.Ok)(hl:l.length≤100000):Gxx 29 [fzx l,fzx l] (vb true):=by
 have hil:=aba l
 refine gI oW Tryz.func29 Tryz.results29 ?_
 refine wS @hil trivial ?_
 refine aK (fun i:Nat=>mkA [(0,fzx l),(1,fzx l),(5,vi i)] [] 0 (fun _ => .top)) (fun i=>i≤l.length) (fun i=>l.length-i) 0 [] [] ?_ (Nat.zero_le _) ?_
 ·exact kE
 ·intro i hi
  replace hi:i≤l.length:=hi
  rcases Nat.lt_or_ge i l.length with hlt|hge
  ·have hg:=acT l i hlt xD
   have ok:(l.getD i xD).Ok:=hok _ (by rw[List.getD_eq_getElem?_getD,List.getElem?_eq_getElem hlt];exact List.getElem_mem hlt)
   generalize l.getD i xD=x at *
   have hS:=afD x.o (by have:=ok.o.names;omega) (by have:=ok.o.items;omega)
   refine wS (aI @hil (aI @hg @ahi)) hS ?_
   exact bE (i+1) [] [] hlt
  ·exact wR @hil trivial ah
theorem abS{k:Nat}{x y:V}(h:x=y∨(k=1∧x = .c (.slice none 0 0)∧∃k',y = .sl .fz k' [])∨∃cs ds,x = .agg cs∧y = .agg ds∧wkF cs ds):∀(xs:List V) (i:Nat),elE k (xs.set i x) (xs.set i y)
 | [],_=>trivial
 | _::xs,0=>⟨h,ajW k xs⟩
 | _::xs,i+1=>⟨.inl rfl,abS h xs i⟩
def md(k:Int)(e:Ev):Ev :=
 if e.k≠1∧0<k%8 then ⟨e.k,if e.s<0∧k.fdiv 8%2=0 then 2 else e.s,oE⟩
 else if 1000<e.o.data.length then ⟨e.k,if e.s<0∧k.fdiv 8%2=0 then 2 else e.s,{ e.o with data:=[] }⟩
 else ⟨e.k,if e.s<0∧k.fdiv 8%2=0 then 2 else e.s,e.o⟩
theorem ao5:oE.Ok:=by
 have hw:Wt 0:=by unfold Wt;omega
 exact⟨⟨dV,dV,by simp,by simp,dV,dV,dV⟩,hw,hw,(show (0:Int)≤0∧(0:Int)<18446744073709551616 by omega),hw,hw,hw,hw,hw,hw,hw,hw,hw,by simp,by simp,by simp,by simp,by simp,by simp,by simp,by simp⟩
theorem apR(l:List Int)(i:Nat)(hi:i≤1000):(xvB l 3 i).Ok:=by
 have hb:=dU l i
 obtain⟨h1,h2,h3⟩:=akl l i
 have hs:=V8 (jl l i) h1 (by omega) (by omega) ((atN l i / 8:Nat):Int)
 unfold xvB
 (repeat' split)<;>refine⟨?_, ?_, ?_⟩<;>first|exact h1|exact hs|exact ao5|(unfold Wt;simp only;omega)
theorem apY{k:Int}{e:Ev}(ok:e.Ok):(md k e).Ok:=by
 have h1:Wt (if e.s<0∧k.fdiv 8%2=0 then 2 else e.s):=by split;(unfold Wt;omega);exact ok.s
 unfold md
 split
 ·exact⟨ok.k,h1,ao5⟩
 ·split
  ·exact⟨ok.k,h1,akx ok.o⟩
  ·exact⟨ok.k,h1,ok.o⟩
theorem apZ(n:Int):bits .and .i64 n 7=n%8:=jH n 3 (by decide)
theorem apE(n:Int):bits .and .i64 n 1=n%2:=jH n 1 (by decide)
theorem apS(n:Int):bits .and .i64 n 15=n%16:=jH n 4 (by decide)
theorem apT(n:Int):bits .and .i64 n 63=n%64:=jH n 6 (by decide)
theorem ao7{l:List Ev}(h:(acU l).2=0):l.length≤2000∧(∀e∈l,xvE e=0)∧(txt l).length≤65536∧(acU l).1=txt l:=by
 unfold acU at *
 split at h
 ·cases h
 ·rename_i h1
  split at h
  ·rename_i h2;exact absurd h h2
  ·rename_i h2
   split at h
   ·cases h
   ·rename_i h3
    refine⟨by omega,Eg xvE l (Classical.byContradiction h2),by omega, ?_⟩
    rw[if_neg h1,if_neg h2,if_neg h3]
def mdL(k:Int)(l:List Ev)(i:Nat):List Ev:=(l.take i).map (md k)++l.drop i
theorem apu(k:Int)(l:List Ev)(i:Nat):(mdL k l i).length=l.length:=by simp [mdL];omega
theorem apv(k:Int)(l:List Ev)(i:Nat)(h:i<l.length):(mdL k l i).getD i xD=l.getD i xD:=by
 have h1:((l.take i).map (md k)).length=i:=by simp;omega
 unfold mdL
 rw[List.getD_eq_getElem?_getD,List.getElem?_append_right (by omega),h1,Nat.sub_self,List.getElem?_drop,List.getD_eq_getElem?_getD]
 simp
theorem apw(k:Int)(l:List Ev)(i:Nat)(h:i<l.length):(mdL k l i).set i (md k (l.getD i xD))=mdL k l (i+1):=by
 have h1:((l.take i).map (md k)).length=i:=by simp;omega
 unfold mdL
 have hgd:l.getD i xD=l[i]:=by simp [List.getD,h]
 rw[List.set_append_right _ _ (by omega),h1,Nat.sub_self,List.take_succ_eq_append_getElem h,List.drop_eq_getElem_cons h,List.map_append,hgd,List.set_cons_zero,List.append_assoc]
 rfl
theorem af8(k s:Int):∃cs ds,V.agg (xvZ k s) = .agg cs∧V.agg (xvC ⟨k,s,oE⟩) = .agg ds∧wkF cs ds:=⟨_,_,rfl,rfl,ajR k s⟩
abbrev xvN(k s:Int)(o:O):List V:=[vi k,vi s,vi o.kind,vs o.name,vs o.other,fzs o.names,vi o.pk,vi o.pz,vi o.pd,vu o.ps,fzt o.items,fzb o.coins,vi o.exp,vi o.src,vi o.hnd,vi o.idx,vi o.cur,vi o.cnt,vi o.qk,vs o.qkey,vi o.qc,vi o.qn,vi o.qd,nls]
theorem ao8(k s:Int)(o:O):∃cs ds,V.agg (xvN k s o) = .agg cs∧V.agg (xvC ⟨k,s,{ o with data:=[] }⟩) = .agg ds∧wkF cs ds:=by
 refine⟨_,_,rfl,rfl, ?_⟩
 (repeat' (first|exact trivial|refine⟨.inl rfl, ?_⟩|refine⟨.inr ⟨rfl,_,rfl⟩, ?_⟩))
theorem apx(xs:List V)(i:Nat)(h:i<xs.length)(X:V):(xs.set i X)[i]?=some X:=by simp [h]
theorem abR(xs:List V)(i:Nat)(X Y:V):(xs.set i X).set i Y=xs.set i Y:=List.set_set ..
theorem apf(xs:List V)(i:Nat)(X:V)(h:xs[i]?=some X):xs.set i X=xs:=by
 obtain⟨h1,rfl⟩:=List.getElem?_eq_some_iff.1 h
 exact List.set_getElem_self h1
theorem aky(xs:List V)(i:Nat)(X:V):(xs.set i X).length=xs.length:=List.length_set ..
abbrev pkE:Ev:=⟨2,0,oE⟩
abbrev zrE:Ev:=⟨0,0,oE⟩
def rpL(N j:Nat):List Ev:=List.replicate j pkE++List.replicate (N-j) zrE
theorem apy(N j:Nat)(h:j≤N):(rpL N j).length=N:=by simp [rpL];omega
theorem apz(N j:Nat)(h:j<N):(rpL N j).set j pkE=rpL N (j+1):=by
 unfold rpL
 rw[List.set_append_right _ _ (by simp),List.length_replicate,Nat.sub_self,show N-j=(N-(j+1))+1 by omega,List.replicate_succ,List.set_cons_zero,List.replicate_succ',List.append_assoc]
 rfl
theorem amG:∀N,elE 24 (List.replicate N (V.agg (xvZ 0 0))) (xvV (List.replicate N zrE))
 | 0=>trivial
 | N+1=>⟨.inr (.inr (af8 0 0)),amG N⟩
theorem ap1(l:List Int)(hl:l.length≤9223372036854775807)(n k:Int):Gxx 8 [fzi l,vi n,vi k] (vb true):=by
 have hn0:0≤n%16∧n%16<16:=by omega
 obtain⟨m,hm⟩:∃m:Nat,n%16=m:=⟨(n%16).toNat,by omega⟩
 have hS:=aoN l m hl (by omega)
 have h15:=apS n
 rw[hm] at h15
 have hlen:=afA l 3 m
 have hokS:∀e∈EJ l 3 m,e.Ok:=by
  intro e he
  obtain⟨j,hj,rfl⟩:=List.mem_map.1 he
  exact apR l j (by have:=List.mem_range.1 hj;omega)
 generalize EJ l 3 m=L at *
 have h7:=apZ k
 have hkn:=aft
 refine gI oW Tryz.func8 Tryz.results8 ?_
 refine wS @h15 hS ?_
 refine aK (fun i:Nat=>mkA [(2,vi k),(7,.sl (.own 0 69) 24 (xvV (mdL k L i))),(8,vi i)] [] 1 (fun _ => .top)) (fun i=>i≤L.length) (fun i=>L.length-i) 0 [0] [] ?_ (Nat.zero_le _) ?_
 ·exact kE
 ·intro i hi
  replace hi:i≤L.length:=hi
  have hML:=apu k L i
  have hil:=aba (mdL k L i)
  rcases Nat.lt_or_ge i L.length with hlt|hge
  ·have hg:=acT (mdL k L i) i (by omega) xD
   rw[apv k L i hlt] at hg
   have hst:=apw k L i hlt
   have hXs:=fun e=>aku (mdL k L i) i e
   generalize L.getD i xD=e at *
   have hgs:=apx (xvV (mdL k L i)) i (by omega)
   have hss:=abR (xvV (mdL k L i)) i
   have hsl:=aky (xvV (mdL k L i)) i
   have hbl:=ax e.o.data
   have hia:∀(t:TypeId) (X:V),iaV Tryz.prog t (.sl (.own 0 69) 24 ((xvV (mdL k L i)).set i X)) (vi i)=if (elemT Tryz.prog t).bind (tsz Tryz.prog)=some 24 then some (.el (.own 0 69) 24 ((xvV (mdL k L i)).set i X) (i:Int).toNat 0) else none:=by
    intro t X
    apply akR
    ·omega
    ·rw[aky];omega
   have h31:bits .and .i64 (k.fdiv (2^min 3 IntKind.i64.bits)) 1=k.fdiv 8%2:=apE (k.fdiv 8)
   by_cases cA:e.k≠1∧0<k%8
   ·by_cases cS:e.s<0∧k.fdiv 8%2=0
    ·rw[show md k e=⟨e.k,2,oE⟩ from by unfold md;(repeat' (first|rw[if_pos (by omega)]|rw[if_neg (by omega)]))] at hst
     (repeat' first|refine wP (aI @hil (aI @hML (aI @hg (aI @hgs (aI @hss (aI @hsl (aI @hia (aI @hbl (aI @h7 (aI @h31 @ai)))))))))) trivial ?_|refine tS ?_ ?_<;>intro hc|fail)
     all_goals (refine bC (i+1) [0] [] (hlt) (by first|omega|(simp only[List.length_cons];omega)) ?_;(refine iy ?_ ?_ (kD _ _ _) (by decide) (by decide) (by decide) (by decide);(repeat' (first|exact trivial|refine gJ _ _ rfl rfl ?_ ?_));all_goals (try simp only[pgs,pgl,pgx,pgf,pgw,fQ,ig,fU,iq,dB,eY,fJ,pgn,simprocAttr]);all_goals (try (repeat' (first|apply aI)));all_goals (try (first|exact trivial|exact gB (by omega)|exact gq rfl|exact aW rfl rfl|exact je rfl))))
     all_goals first|exact Y4 rfl (by rw[←hst,←hXs];(try rw[abR]);exact abS (.inr (.inr (af8 _ _))) _ _)|skip
    ·rw[show md k e=⟨e.k,e.s,oE⟩ from by unfold md;(repeat' (first|rw[if_pos (by omega)]|rw[if_neg (by omega)]))] at hst
     (repeat' first|refine wP (aI @hil (aI @hML (aI @hg (aI @hgs (aI @hss (aI @hsl (aI @hia (aI @hbl (aI @h7 (aI @h31 @ai)))))))))) trivial ?_|refine tS ?_ ?_<;>intro hc|fail)
     all_goals (refine bC (i+1) [0] [] (hlt) (by first|omega|(simp only[List.length_cons];omega)) ?_;(refine iy ?_ ?_ (kD _ _ _) (by decide) (by decide) (by decide) (by decide);(repeat' (first|exact trivial|refine gJ _ _ rfl rfl ?_ ?_));all_goals (try simp only[pgs,pgl,pgx,pgf,pgw,fQ,ig,fU,iq,dB,eY,fJ,pgn,simprocAttr]);all_goals (try (repeat' (first|apply aI)));all_goals (try (first|exact trivial|exact gB (by omega)|exact gq rfl|exact aW rfl rfl|exact je rfl))))
     all_goals first|exact Y4 rfl (by rw[←hst,←hXs];(try rw[abR]);exact abS (.inr (.inr (af8 _ _))) _ _)|skip
   ·by_cases cB:1000<e.o.data.length
    ·by_cases cS:e.s<0∧k.fdiv 8%2=0
     ·rw[show md k e=⟨e.k,2,{ e.o with data:=[] }⟩ from by unfold md;(repeat' (first|rw[if_pos (by omega)]|rw[if_neg (by omega)]))] at hst
      (repeat' first|refine wP (aI @hil (aI @hML (aI @hg (aI @hgs (aI @hss (aI @hsl (aI @hia (aI @hbl (aI @h7 (aI @h31 @ai)))))))))) trivial ?_|refine tS ?_ ?_<;>intro hc|fail)
      all_goals (refine bC (i+1) [0] [] (hlt) (by first|omega|(simp only[List.length_cons];omega)) ?_;(refine iy ?_ ?_ (kD _ _ _) (by decide) (by decide) (by decide) (by decide);(repeat' (first|exact trivial|refine gJ _ _ rfl rfl ?_ ?_));all_goals (try simp only[pgs,pgl,pgx,pgf,pgw,fQ,ig,fU,iq,dB,eY,fJ,pgn,simprocAttr]);all_goals (try (repeat' (first|apply aI)));all_goals (try (first|exact trivial|exact gB (by omega)|exact gq rfl|exact aW rfl rfl|exact je rfl))))
      all_goals first|exact Y4 rfl (by rw[←hst,←hXs];(try rw[abR]);exact abS (.inr (.inr (ao8 _ _ _))) _ _)|skip
     ·rw[show md k e=⟨e.k,e.s,{ e.o with data:=[] }⟩ from by unfold md;(repeat' (first|rw[if_pos (by omega)]|rw[if_neg (by omega)]))] at hst
      (repeat' first|refine wP (aI @hil (aI @hML (aI @hg (aI @hgs (aI @hss (aI @hsl (aI @hia (aI @hbl (aI @h7 (aI @h31 @ai)))))))))) trivial ?_|refine tS ?_ ?_<;>intro hc|fail)
      all_goals (refine bC (i+1) [0] [] (hlt) (by first|omega|(simp only[List.length_cons];omega)) ?_;(refine iy ?_ ?_ (kD _ _ _) (by decide) (by decide) (by decide) (by decide);(repeat' (first|exact trivial|refine gJ _ _ rfl rfl ?_ ?_));all_goals (try simp only[pgs,pgl,pgx,pgf,pgw,fQ,ig,fU,iq,dB,eY,fJ,pgn,simprocAttr]);all_goals (try (repeat' (first|apply aI)));all_goals (try (first|exact trivial|exact gB (by omega)|exact gq rfl|exact aW rfl rfl|exact je rfl))))
      all_goals first|exact Y4 rfl (by rw[←hst,←hXs];(try rw[abR]);exact abS (.inr (.inr (ao8 _ _ _))) _ _)|skip
    ·by_cases cS:e.s<0∧k.fdiv 8%2=0
     ·rw[show md k e=⟨e.k,2,e.o⟩ from by unfold md;(repeat' (first|rw[if_pos (by omega)]|rw[if_neg (by omega)]))] at hst
      (repeat' first|refine wP (aI @hil (aI @hML (aI @hg (aI @hgs (aI @hss (aI @hsl (aI @hia (aI @hbl (aI @h7 (aI @h31 @ai)))))))))) trivial ?_|refine tS ?_ ?_<;>intro hc|fail)
      all_goals (refine bC (i+1) [0] [] (hlt) (by first|omega|(simp only[List.length_cons];omega)) ?_;(refine iy ?_ ?_ (kD _ _ _) (by decide) (by decide) (by decide) (by decide);(repeat' (first|exact trivial|refine gJ _ _ rfl rfl ?_ ?_));all_goals (try simp only[pgs,pgl,pgx,pgf,pgw,fQ,ig,fU,iq,dB,eY,fJ,pgn,simprocAttr]);all_goals (try (repeat' (first|apply aI)));all_goals (try (first|exact trivial|exact gB (by omega)|exact gq rfl|exact aW rfl rfl|exact je rfl))))
      all_goals first|exact aW rfl (by rw[←hst,←hXs])|skip
     ·rw[show md k e=⟨e.k,e.s,e.o⟩ from by unfold md;(repeat' (first|rw[if_pos (by omega)]|rw[if_neg (by omega)]))] at hst
      (repeat' first|refine wP (aI @hil (aI @hML (aI @hg (aI @hgs (aI @hss (aI @hsl (aI @hia (aI @hbl (aI @h7 (aI @h31 @ai)))))))))) trivial ?_|refine tS ?_ ?_<;>intro hc|fail)
      all_goals (refine bC (i+1) [0] [] (hlt) (by first|omega|(simp only[List.length_cons];omega)) ?_;(refine iy ?_ ?_ (kD _ _ _) (by decide) (by decide) (by decide) (by decide);(repeat' (first|exact trivial|refine gJ _ _ rfl rfl ?_ ?_));all_goals (try simp only[pgs,pgl,pgx,pgf,pgw,fQ,ig,fU,iq,dB,eY,fJ,pgn,simprocAttr]);all_goals (try (repeat' (first|apply aI)));all_goals (try (first|exact trivial|exact gB (by omega)|exact gq rfl|exact aW rfl rfl|exact je rfl))))
      all_goals first|exact aW rfl (by rw[←hst,←hXs,apf _ _ _ hg])|skip
  ·have:i=L.length:=by omega
   subst this
   have hokM:∀e∈mdL k L L.length,e.Ok:=by
    intro e he
    unfold mdL at he
    rw[List.take_length,List.drop_length,List.append_nil] at he
    obtain⟨x,hx,rfl⟩:=List.mem_map.1 he
    exact apY (hokS x hx)
   have h463:bits .and .i64 (k.fdiv (2^min 4 IntKind.i64.bits)) 63=k.fdiv 16%64:=apT (k.fdiv 16)
   have h101:bits .and .i64 (k.fdiv (2^min 10 IntKind.i64.bits)) 1=k.fdiv 1024%2:=apE (k.fdiv 1024)
   by_cases c7:k.fdiv 16%64=63
   ·refine wS (aI @hil (aI @hML (aI @h463 (aI @h101 @ai)))) trivial ?_
    obtain⟨N,hN,hN2⟩:∃N,N=(2000+k.fdiv 1024%2).toNat∧N≤2001:=⟨_,rfl,by omega⟩
    rw[←hN]
    refine aK (fun j:Nat=>mkA [(7,.sl (.own 0 69) 24 (xvV (rpL N j))),(9,vi j)] [] 1 (fun _ => .top)) (fun j=>j≤N) (fun j=>N-j) 0 [1] [] ?_ (Nat.zero_le _) ?_
    ·(refine iy ?_ ?_ (kD _ _ _) (by decide) (by decide) (by decide) (by decide);(repeat' (first|exact trivial|refine gJ _ _ rfl rfl ?_ ?_));all_goals (try simp only[pgs,pgl,pgx,pgf,pgw,fQ,ig,fU,iq,dB,eY,fJ,pgn,simprocAttr]);all_goals (try (repeat' (first|apply aI)));all_goals (try (first|exact trivial|exact gB (by omega)|exact gq rfl|exact aW rfl rfl|exact je rfl)))
     all_goals exact Y4 rfl (amG N)
    ·intro j hj
     replace hj:j≤N:=hj
     have hrl:=apy N j hj
     have hvl:=aba (rpL N j)
     rcases Nat.lt_or_ge j N with hjl|hjg
     ·have hrs:=apz N j hjl
      have hXr:=fun e=>aku (rpL N j) j e
      have hg:=acT (rpL N j) j (by omega) xD
      refine wS (aI @hvl (aI @hrl (aI @hg @ai))) trivial ?_
      (refine bC (j+1) [0] [] (hjl) (by first|omega|(simp only[List.length_cons];omega)) ?_;(refine iy ?_ ?_ (kD _ _ _) (by decide) (by decide) (by decide) (by decide);(repeat' (first|exact trivial|refine gJ _ _ rfl rfl ?_ ?_));all_goals (try simp only[pgs,pgl,pgx,pgf,pgw,fQ,ig,fU,iq,dB,eY,fJ,pgn,simprocAttr]);all_goals (try (repeat' (first|apply aI)));all_goals (try (first|exact trivial|exact gB (by omega)|exact gq rfl|exact aW rfl rfl|exact je rfl))))
      all_goals exact Y4 rfl (by rw[←hrs,←hXr];exact abS (.inr (.inr (af8 _ _))) _ _)
     ·have:j=N:=by omega
      subst this
      obtain⟨E,hEe⟩:∃E,E=rpL j j:=⟨_,rfl⟩
      rw[←hEe] at hrl hvl ⊢
      have hE:∀e∈E,e.Ok:=by
       intro e he
       rw[hEe] at he
       unfold rpL at he
       rw[Nat.sub_self,List.replicate_zero,List.append_nil] at he
       rw[List.eq_of_mem_replicate he]
       exact⟨by unfold Wt;simp only;omega,by unfold Wt;simp only;omega,ao5⟩
      have hil:=hvl
      have hlE:E.length≤2001:=by omega
      have hFP:=af4 E hE (by omega)
      have hFR:=af2 E hE (by omega)
      by_cases c9:(acU E).2=0
      ·obtain⟨f1,f2,f3,f4⟩:=ao7 c9
       have hPa:=akw E hE f2 f1 f3 (af7 E hE)
       have hSE:=ajQ E hE (by omega)
       rw[c9,f4] at hFP hFR
       exact wR (aI @hil @RY) (aI hFP (aI hFR (aI hPa (aI hSE hkn)))) ah
      ·generalize (acU E).2=er at *
       exact wR (aI @hil @RY) (aI hFP (aI hFR hkn)) ah
   ·obtain⟨E,hEe⟩:∃E,E=mdL k L L.length:=⟨_,rfl⟩
    rw[←hEe] at hokM hil hML ⊢
    have hE:=hokM
    have hlE:E.length≤16:=by omega
    have hFP:=af4 E hE (by omega)
    have hFR:=af2 E hE (by omega)
    by_cases c9:(acU E).2=0
    ·obtain⟨f1,f2,f3,f4⟩:=ao7 c9
     have hPa:=akw E hE f2 f1 f3 (af7 E hE)
     have hSE:=ajQ E hE (by omega)
     rw[c9,f4] at hFP hFR
     exact wR (aI @hil (aI @hML (aI @h463 (aI @h101 @RY)))) (aI hFP (aI hFR (aI hPa (aI hSE hkn)))) ah
    ·generalize (acU E).2=er at *
     exact wR (aI @hil (aI @hML (aI @h463 (aI @h101 @RY)))) (aI hFP (aI hFR hkn)) ah
end Go.Proofs.YtjiolbcdfgclaaaGreatDoor
