/-
  Texts of this claim, merged; own names are short.
-/
import Derived.Test.YtjiolbcdfgclaaaGreatDoorWAZ
import Derived.Test.YtjiolbcdfgclaaaGreatDoorWAQ
set_option linter.unusedVariables false
set_option linter.unusedSimpArgs false
set_option linter.unusedSectionVars false
set_option linter.defProp false
set_option maxRecDepth 100000
set_option maxHeartbeats 8000000
namespace Go.Proofs.YtjiolbcdfgclaaaGreatDoor
open Go Go.Pg
theorem aq5(s:List Nat)(ho:oct s):Gxx 28 [vs s] (ptV (pT s)):=by
 have hL:=ajk s ho
 unfold Iy nl at hL
 unfold pT
 rcases Nat.lt_or_ge 65536 s.length with h|h
 ·rw[if_pos h] at hL ⊢
  refine Good.wkt (vs:=[nls,vi 0,vi 11]) ?_ ⟨.inl (oq _ _),aA _,aA _,trivial⟩
  refine gI oW Tryz.func28 Tryz.results28 ?_
  exact wR @ai hL ah
 rw[if_neg (by omega)] at hL ⊢
 cases hok:s.all okc
 ·rw[hok,if_pos rfl] at hL
  rw[if_pos rfl]
  refine Good.wkt (vs:=[nls,vi 0,vi 1]) ?_ ⟨.inl (oq _ _),aA _,aA _,trivial⟩
  refine gI oW Tryz.func28 Tryz.results28 ?_
  exact wR @ai hL ah
 rw[hok,if_neg (by simp)] at hL
 rw[if_neg (by simp)]
 obtain⟨hll,hlm⟩:=Wj s
 by_cases hn:s=[]
 ·subst hn
  rw[if_pos rfl] at hL
  show Pg.Good _ _ _ (ptV ([],0,0))
  refine Good.wkt (vs:=[nls,vi 0,vi 0]) ?_ ⟨.inl (oq _ _),aA _,aA _,trivial⟩
  refine gI oW Tryz.func28 Tryz.results28 ?_
  refine wS @ai hL ?_
  refine aK (fun _:Nat=>mkA [(2,nls),(19,nls),(20,vi 0),(21,vi 0)] [] 0 (fun _ => .top)) (fun _=>True) (fun _=>0) 0 [] [] ?_ trivial ?_
  ·exact kE
  ·intro i _
   exact wR @ai trivial ah
 ·rw[if_neg hn,abR 10 s hn] at hL
  exact aq3 s (lns s) hL (by omega) (fun x hx=>⟨by have:=(hlm x hx).1;omega,fun c hc=>ho c ((hlm x hx).2 c hc)⟩)
theorem aq6(s:List Nat)(ho:oct s):Gxx 57 [vs s] (ptV (pT s)):=by
 have hL:=akw s ho
 unfold Wh nl at hL
 unfold pT
 rcases Nat.lt_or_ge 65536 s.length with h|h
 ·rw[if_pos h] at hL ⊢
  refine Good.wkt (vs:=[nls,vi 0,vi 11]) ?_ ⟨.inl (oq _ _),aA _,aA _,trivial⟩
  refine gI oW Tryz.func57 Tryz.results57 ?_
  exact wR @ai hL ah
 rw[if_neg (by omega)] at hL ⊢
 cases hok:s.all okc
 ·rw[hok,if_pos rfl] at hL
  rw[if_pos rfl]
  refine Good.wkt (vs:=[nls,vi 0,vi 1]) ?_ ⟨.inl (oq _ _),aA _,aA _,trivial⟩
  refine gI oW Tryz.func57 Tryz.results57 ?_
  exact wR @ai hL ah
 rw[hok,if_neg (by simp)] at hL
 rw[if_neg (by simp)]
 obtain⟨hll,hlm⟩:=Wj s
 exact aq4 s (lns s) hL (by omega) (fun x hx=>⟨by have:=(hlm x hx).1;omega,fun c hc=>ho c ((hlm x hx).2 c hc)⟩)
def Ev.Bd(e:Ev):Prop:=e.o.names.length≤100000∧e.o.items.length≤100000
theorem aqN(W:List (List Nat))(h:W.length≤100000):(pOq W).names.length≤100000∧(pOq W).items.length≤100000:=by
 unfold pOq
 split
 ·have:=acC (sd:=sdP) (k:=wix aH (hdW W)) (l:=W.tail)
  simp only[List.length_tail] at this
  omega
 ·exact⟨Nat.zero_le _,Nat.zero_le _⟩
theorem aqO(f:List (List Nat))(h:f.length≤100000):(eP f).Bd:=by
 unfold eP
 split
 ·unfold eV Ev.Bd
  split
  ·exact aqN f.tail.tail (by simp only[List.length_tail];omega)
  ·exact⟨Nat.zero_le _,Nat.zero_le _⟩
 ·exact⟨Nat.zero_le _,Nat.zero_le _⟩
theorem aqP:∀(L:List (List Nat)) (i:Nat) (acc:List Ev),(∀x∈L,x.length≤65536)→(∀e∈acc,e.Bd)→∀e∈(pA L i acc).1,e.Bd:=by
 intro L
 induction L with
 | nil =>
  intro i acc _ ha
  unfold pA
  split
  ·intro e h;cases h
  ·exact ha
 | cons x r ih =>
  intro i acc hL ha
  unfold pA
  have h1:=hL x (by simp)
  have h2:=(acD x).1
  have hr:∀y∈r,y.length≤65536:=fun y hy=>hL y (by simp [hy])
  split
  ·exact ih _ _ hr ha
  ·split
   ·intro e h;cases h
   ·refine ih _ _ hr fun e he => ?_
    rcases List.mem_append.1 he with h|h
    ·exact ha e h
    ·simp only[List.mem_singleton] at h
     subst h
     exact aqO _ (by omega)
theorem aqk:∀(L:List (List Nat)) (i:Nat) (acc:List Ev),(pA L i acc).1.length≤2000:=by
 intro L
 induction L with
 | nil =>
  intro i acc
  unfold pA
  split
  ·exact Nat.zero_le _
  ·simp only;omega
 | cons x r ih =>
  intro i acc
  unfold pA
  split
  ·exact ih _ _
  ·split
   ·exact Nat.zero_le _
   ·exact ih _ _
theorem aqQ(s:List Nat):(pT s).1.length≤2000∧∀e∈(pT s).1,e.Bd:=by
 unfold pT
 split
 ·exact⟨Nat.zero_le _,fun e h=>by cases h⟩
 ·split
  ·exact⟨Nat.zero_le _,fun e h=>by cases h⟩
  ·exact⟨aqk _ _ _,aqP _ _ _ (fun x hx=>by have:=((Wj s).2 x hx).1;omega) (fun e h=>by cases h)⟩
theorem aj2(l:List Ev)(hok:∀e∈l,e.Bd)(hl:l.length≤100000):Gxx 29 [fzx l,fzx l] (vb true):=by
 have hil:=aba l
 refine gI oW Tryz.func29 Tryz.results29 ?_
 refine wS @hil trivial ?_
 refine aK (fun i:Nat=>mkA [(0,fzx l),(1,fzx l),(5,vi i)] [] 0 (fun _ => .top)) (fun i=>i≤l.length) (fun i=>l.length-i) 0 [] [] ?_ (Nat.zero_le _) ?_
 ·exact kE
 ·intro i hi
  replace hi:i≤l.length:=hi
  rcases Nat.lt_or_ge i l.length with hlt|hge
  ·have hg:=acT l i hlt xD
   have ok:(l.getD i xD).Bd:=hok _ (by rw[List.getD_eq_getElem?_getD,List.getElem?_eq_getElem hlt];exact List.getElem_mem hlt)
   generalize l.getD i xD=x at *
   have hS:=afD x.o (by have:=ok.1;omega) (by have:=ok.2;omega)
   refine wS (aI @hil (aI @hg @ahi)) hS ?_
   exact bE (i+1) [] [] hlt
  ·exact wR @hil trivial ah
theorem Qm(s:List Nat)(ho:oct s):Gxx 22 [vs s] (vb true):=by
 obtain⟨h1,h2⟩:=aqQ s
 have a:=aq5 s ho
 have b:=aq6 s ho
 have c:=aj2 (pT s).1 h2 (by omega)
 unfold ptV at a b
 generalize (pT s).1=l at *
 generalize (pT s).2.1=i at *
 generalize (pT s).2.2=e at *
 refine gI oW Tryz.func22 Tryz.results22 ?_
 exact wR @beq_self_eq_true.{0} (aI a (aI b c)) ah
end Go.Proofs.YtjiolbcdfgclaaaGreatDoor
