/-
  Texts of this claim, merged; own names are short.
-/
import Derived.Test.YtjiolbcdfgclaaaGreatDoorWAH
import Derived.Test.YtjiolbcdfgclaaaGreatDoorWAK
import Derived.Test.YtjiolbcdfgclaaaGreatDoorWAN
import Derived.ChangeSlices
import Derived.DataReads
import Derived.Test.YtjiolbcdfgclaaaGreatDoorWAE
import Derived.Test.YtjiolbcdfgclaaaGreatDoorTie
import Derived.Test.YtjiolbcdfgclaaaGreatDoorCards
import Derived.ProofKit
import Derived.LaidMore
import Derived.OpenShut
import Derived.Stop.Joined
import Derived.Stop.LaidErr
import Derived.SizedLaws
import Derived.ChangeMaps5
import Derived.SevenTiedAt
import Derived.HandedShaped
import Derived.Shelf.Vars
import Derived.Test.YtjiolbcdfgclaaaGreatDoorWAI
set_option linter.unusedVariables false
set_option linter.unusedSimpArgs false
set_option linter.unusedSectionVars false
set_option linter.defProp false
set_option maxRecDepth 100000
set_option maxHeartbeats 8000000
namespace Go.Proofs.YtjiolbcdfgclaaaGreatDoor
open Go Go.Pg
def vB := aI @Bool.not_true (aI @Bool.not_false (aI @Bool.and_true (aI @Bool.true_and (aI @Bool.false_and (aI @Bool.and_false (aI @List.append_eq.{0} (aI @List.cons_append.{0} (aI @List.nil_append.{0} (aI @kG (aI @Rh (aI @ai (aI @au (aI @aB @ax)))))))))))))
abbrev kO (k : Int) (o : O) : O := { o with kind := k }
abbrev V22 (o : O) (E : Int) : Prop := Pg.Good Tryz.prog 47 [.agg (opF o)] (vi E)
theorem vW {o : O} {E : Int} {C : Prop} (cx : C) (h : C → V22 o E := by intro cx; have q1 := au o.names; have q2 := aB o.items; have q3 := ax o.coins; have q4 := ax o.data; refine gI oW Tryz.func47 Tryz.results47 ?_; exact wR vB cx ah) : V22 o E := h cx
abbrev Zk (k : Int) (o : O) : Prop := ∀ j, j < 14 → (dI (bJ k)).getD j false = false → zro (kO k o) j = true
theorem amw {k : Int} {o : O} : Zk k o ↔ (((dI (bJ k)).getD 0 false = false → (o.name.length = 0)) ∧ ((dI (bJ k)).getD 1 false = false → (o.other.length = 0)) ∧ ((dI (bJ k)).getD 2 false = false → (o.names.length = 0)) ∧ ((dI (bJ k)).getD 3 false = false → (o.pk = 0 ∧ o.pz = 0 ∧ o.pd = 0 ∧ o.ps = 0)) ∧ ((dI (bJ k)).getD 4 false = false → (o.items.length = 0)) ∧ ((dI (bJ k)).getD 5 false = false → (o.coins.length = 0)) ∧ ((dI (bJ k)).getD 6 false = false → (o.exp = 0)) ∧ ((dI (bJ k)).getD 7 false = false → (o.src = 0)) ∧ ((dI (bJ k)).getD 8 false = false → (o.hnd = 0)) ∧ ((dI (bJ k)).getD 9 false = false → (o.idx = 0)) ∧ ((dI (bJ k)).getD 10 false = false → (o.cur = 0)) ∧ ((dI (bJ k)).getD 11 false = false → (o.cnt = 0)) ∧ ((dI (bJ k)).getD 12 false = false → (o.qk = 0 ∧ o.qkey.length = 0 ∧ o.qc = 0 ∧ o.qn = 0 ∧ o.qd = 0)) ∧ ((dI (bJ k)).getD 13 false = false → (o.data.length = 0))) := by
 constructor
 ·intro h
  exact ⟨fun q => of_decide_eq_true (h 0 (by omega) q), fun q => of_decide_eq_true (h 1 (by omega) q), fun q => of_decide_eq_true (h 2 (by omega) q), fun q => of_decide_eq_true (h 3 (by omega) q), fun q => of_decide_eq_true (h 4 (by omega) q), fun q => of_decide_eq_true (h 5 (by omega) q), fun q => of_decide_eq_true (h 6 (by omega) q), fun q => of_decide_eq_true (h 7 (by omega) q), fun q => of_decide_eq_true (h 8 (by omega) q), fun q => of_decide_eq_true (h 9 (by omega) q), fun q => of_decide_eq_true (h 10 (by omega) q), fun q => of_decide_eq_true (h 11 (by omega) q), fun q => of_decide_eq_true (h 12 (by omega) q), fun q => of_decide_eq_true (h 13 (by omega) q)⟩
 ·rintro ⟨a0, a1, a2, a3, a4, a5, a6, a7, a8, a9, a10, a11, a12, a13⟩ j h7 h8
  rcases (show j = 0 ∨ j = 1 ∨ j = 2 ∨ j = 3 ∨ j = 4 ∨ j = 5 ∨ j = 6 ∨ j = 7 ∨ j = 8 ∨ j = 9 ∨ j = 10 ∨ j = 11 ∨ j = 12 ∨ j = 13 by omega) with rfl | rfl | rfl | rfl | rfl | rfl | rfl | rfl | rfl | rfl | rfl | rfl | rfl | rfl
  ·exact decide_eq_true (a0 h8)
  ·exact decide_eq_true (a1 h8)
  ·exact decide_eq_true (a2 h8)
  ·exact decide_eq_true (a3 h8)
  ·exact decide_eq_true (a4 h8)
  ·exact decide_eq_true (a5 h8)
  ·exact decide_eq_true (a6 h8)
  ·exact decide_eq_true (a7 h8)
  ·exact decide_eq_true (a8 h8)
  ·exact decide_eq_true (a9 h8)
  ·exact decide_eq_true (a10 h8)
  ·exact decide_eq_true (a11 h8)
  ·exact decide_eq_true (a12 h8)
  ·exact decide_eq_true (a13 h8)
theorem jA {p : Prop} (h : p := by intro l h7 h8; rcases (show l = 0 ∨ l = 1 ∨ l = 2 ∨ l = 3 ∨ l = 4 ∨ l = 5 ∨ l = 6 ∨ l = 7 ∨ l = 8 ∨ l = 9 ∨ l = 10 ∨ l = 11 ∨ l = 12 ∨ l = 13 ∨ 14 ≤ l by omega) with rfl | rfl | rfl | rfl | rfl | rfl | rfl | rfl | rfl | rfl | rfl | rfl | rfl | rfl | h9 <;> first | (exfalso; omega) | exact y0 | exact y1 | exact y2 | exact y3 | exact y4 | exact y5 | exact y6 | exact y7 | exact y8 | exact y9 | exact y10 | exact y11 | exact y12 | exact y13 | exact absurd (show false = true from h8) (by decide)) : p := h
theorem vEr {k : Int} {o : O} (j : Nat) (y : chk (kO k o) j ≠ 0) (g : V22 (kO k o) (chk (kO k o) j)) (hk : ¬ (k < 1 ∨ 17 < k) := by decide) (hj : (dI (bJ k)).getD j false = true := by decide) (h14 : j < 14 := by decide) (h : ∀ l, l < j → (dI (bJ k)).getD l false = true → chk (kO k o) l = 0 := by exact jA) : V22 (kO k o) (vop (kO k o)) := by rw [afc j hk hj h14 y h]; exact g
theorem vOk {k : Int} {o : O} {C : Prop} (cx : C) (h : ∀ l, l < 14 → (dI (bJ k)).getD l false = true → chk (kO k o) l = 0) (hk : ¬ (k < 1 ∨ 17 < k) := by decide)
  (h1 : C → Zk k o → V22 (kO k o) 0 := by intro cx hz; rw [amw, mB] at hz; simp only [List.getD_cons_zero, List.getD_cons_succ, Bool.true_eq_false, false_implies, true_implies, true_and, and_true] at hz; exact vW cx)
  (h2 : C → ¬ Zk k o → V22 (kO k o) 18 := by intro cx hz; rw [amw, mB] at hz; simp only [List.getD_cons_zero, List.getD_cons_succ, Bool.true_eq_false, false_implies, true_implies, true_and, and_true] at hz; have q1 := au o.names; have q2 := aB o.items; have q3 := ax o.coins; have q4 := ax o.data; refine gI oW Tryz.func47 Tryz.results47 ?_; (repeat' first | refine wP vB cx ?_ | refine tS ?_ ?_ <;> intro hc | fail); (all_goals first | (refine rT [] ?_; first | rfl | (exfalso; (try simp only [Bool.and_eq_true, beq_iff_eq, decide_eq_true_eq] at *); omega)) | (exfalso; omega) | fail)) : V22 (kO k o) (vop (kO k o)) := by
 by_cases hz : Zk k o
 ·rw [aly hk h hz]; exact h1 cx hz
 ·rw [ai7 hk h hz]; exact h2 cx hz
theorem nn {l : List Nat} (y : nmE l ≠ 0) : jW l = false ∧ nmE l = 6 := by unfold nmE at *; split at y; exact absurd rfl y; rename_i h; exact ⟨by simpa using h, by rw [if_neg h]⟩
theorem ni {l : List Nat} (y : nmE l = 0) : jW l = true := by unfold nmE at y; split at y; assumption; cases y
theorem bi {n a b : Int} (y : bwE n a b = 0) : inb n a b = true := by unfold bwE at y; split at y; cases y; exact uI (by omega)
theorem bn {n a b : Int} (y : bwE n a b ≠ 0) : inb n a b = false ∧ bwE n a b = 5 := by unfold bwE at *; split at y; rename_i h; exact ⟨jY (by omega), by rw [if_pos h]⟩; exact absurd rfl y
theorem si {l : List Nat} {m : Int} (y : shE l m = 0) : (l.length : Int) ≤ m := by unfold shE at y; split at y; cases y; omega
theorem sn {l : List Nat} {m : Int} (y : shE l m ≠ 0) : m < (l.length : Int) ∧ shE l m = 11 := by unfold shE at *; split at y; rename_i h; exact ⟨h, by rw [if_pos h]⟩; exact absurd rfl y
theorem wb (o : O) (k : Int) (h : 1 ≤ k ∧ k ≤ 17) : Pg.Good Tryz.prog 82 [vi k, vi 1, vi 17] (vb true) ∧ Pg.Good Tryz.prog 85 [.agg (opF (kO k o)), vb false, vb false] (vi 0) := ⟨by have h1 := fB k 1 17; rw [uI h] at h1; exact h1, Z9 (kO k o)⟩
abbrev bT : V := vb true
abbrev bF : V := vb false
theorem WC (o : O) (ho : o.Oct) (hn : o.names.length ≤ 1000000) (hi : o.items.length ≤ 1000000) : V22 (kO 1 o) (vop (kO 1 o)) := by
 have w := wb o 1 (by decide)
 have hU : Pg.Good Tryz.prog 83 [vi 1] (.agg [bT, bF, bF, bT, bF, bF, bF, bF, bF, bF, bF, bF, bF]) := iC 1
 have mB : dI (bJ 1) = [true, false, false, true, false, false, false, false, false, false, false, false, false, false] := by decide
 have c0 := oz o.name ho.1
 have c3 := bg o.pk o.pz o.pd o.ps
 by_cases y0 : nmE o.name = 0
 ·rw [ni y0] at c0
  by_cases y3 : vp o.pk o.pz o.pd o.ps = 0
  ·rw [y3] at c3
   exact vOk (aI hU (aI c0 (aI c3 w))) jA
  ·exact vEr 3 y3 (by show V22 _ (vp o.pk o.pz o.pd o.ps); generalize vp o.pk o.pz o.pd o.ps = E at *; exact vW (aI hU (aI c0 (aI c3 w))))
 ·exact vEr 0 y0 (by have z := nn y0; rw [z.1] at c0; show V22 _ (nmE o.name); rw [z.2]; exact vW (aI hU (aI c0 (aI c3 w))))
theorem WE (o : O) (ho : o.Oct) (hn : o.names.length ≤ 1000000) (hi : o.items.length ≤ 1000000) : V22 (kO 2 o) (vop (kO 2 o)) := by
 have w := wb o 2 (by decide)
 have hU : Pg.Good Tryz.prog 83 [vi 2] (.agg [bT, bF, bF, bF, bF, bF, bF, bF, bF, bF, bF, bF, bF]) := iC 2
 have mB : dI (bJ 2) = [true, false, false, false, false, false, false, false, false, false, false, false, false, false] := by decide
 have c0 := oz o.name ho.1
 by_cases y0 : nmE o.name = 0
 ·rw [ni y0] at c0
  exact vOk (aI hU (aI c0 w)) jA
 ·exact vEr 0 y0 (by have z := nn y0; rw [z.1] at c0; show V22 _ (nmE o.name); rw [z.2]; exact vW (aI hU (aI c0 w)))
theorem WF (o : O) (ho : o.Oct) (hn : o.names.length ≤ 1000000) (hi : o.items.length ≤ 1000000) : V22 (kO 3 o) (vop (kO 3 o)) := by
 have w := wb o 3 (by decide)
 have hU : Pg.Good Tryz.prog 83 [vi 3] (.agg [bT, bT, bF, bF, bF, bF, bF, bF, bF, bF, bF, bF, bF]) := iC 3
 have mB : dI (bJ 3) = [true, true, false, false, false, false, false, false, false, false, false, false, false, false] := by decide
 have c0 := oz o.name ho.1
 have c1 := oz o.other ho.2.1
 by_cases y0 : nmE o.name = 0
 ·rw [ni y0] at c0
  by_cases y1 : nmE o.other = 0
  ·rw [ni y1] at c1
   exact vOk (aI hU (aI c0 (aI c1 w))) jA
  ·exact vEr 1 y1 (by have z := nn y1; rw [z.1] at c1; show V22 _ (nmE o.other); rw [z.2]; exact vW (aI hU (aI c0 (aI c1 w))))
 ·exact vEr 0 y0 (by have z := nn y0; rw [z.1] at c0; show V22 _ (nmE o.name); rw [z.2]; exact vW (aI hU (aI c0 (aI c1 w))))
theorem WG (o : O) (ho : o.Oct) (hn : o.names.length ≤ 1000000) (hi : o.items.length ≤ 1000000) : V22 (kO 4 o) (vop (kO 4 o)) := by
 have w := wb o 4 (by decide)
 have hU : Pg.Good Tryz.prog 83 [vi 4] (.agg [bF, bF, bF, bF, bF, bF, bF, bF, bF, bF, bF, bF, bF]) := iC 4
 have mB : dI (bJ 4) = [false, false, false, false, false, false, false, false, false, false, false, false, false, false] := by decide
 exact vOk (aI hU w) jA
theorem WH (o : O) (ho : o.Oct) (hn : o.names.length ≤ 1000000) (hi : o.items.length ≤ 1000000) : V22 (kO 5 o) (vop (kO 5 o)) := by
 have w := wb o 5 (by decide)
 have hU : Pg.Good Tryz.prog 83 [vi 5] (.agg [bT, bF, bF, bF, bF, bF, bF, bF, bF, bF, bF, bT, bF]) := iC 5
 have mB : dI (bJ 5) = [true, false, false, false, false, false, false, false, false, false, false, false, true, false] := by decide
 have c0 := oz o.name ho.1
 have c12 := F8 o.qk o.qkey o.qc o.qn o.qd
 by_cases y0 : nmE o.name = 0
 ·rw [ni y0] at c0
  by_cases y12 : vq o.qk o.qkey o.qc o.qn o.qd = 0
  ·rw [y12] at c12
   exact vOk (aI hU (aI c0 (aI c12 w))) jA
  ·exact vEr 12 y12 (by show V22 _ (vq o.qk o.qkey o.qc o.qn o.qd); generalize vq o.qk o.qkey o.qc o.qn o.qd = E at *; exact vW (aI hU (aI c0 (aI c12 w))))
 ·exact vEr 0 y0 (by have z := nn y0; rw [z.1] at c0; show V22 _ (nmE o.name); rw [z.2]; exact vW (aI hU (aI c0 (aI c12 w))))
theorem WI (o : O) (ho : o.Oct) (hn : o.names.length ≤ 1000000) (hi : o.items.length ≤ 1000000) : V22 (kO 6 o) (vop (kO 6 o)) := by
 have w := wb o 6 (by decide)
 have hU : Pg.Good Tryz.prog 83 [vi 6] (.agg [bT, bF, bF, bF, bT, bT, bF, bF, bF, bF, bF, bF, bF]) := iC 6
 have mB : dI (bJ 6) = [true, false, false, false, true, true, false, false, false, false, false, false, false, false] := by decide
 have c0 := oz o.name ho.1
 have c4 := aac (kO 6 o) hi
 by_cases y0 : nmE o.name = 0
 ·rw [ni y0] at c0
  by_cases y4 : itE o.items = 0
  ·rw [show itE o.items = 0 from y4] at c4
   by_cases y5 : shE o.coins 64 = 0
   ·have z5 := si y5
    exact vOk (aI hU (aI c0 (aI c4 w))) jA
   ·exact vEr 5 y5 (by have z := sn y5; show V22 _ (shE o.coins 64); rw [z.2]; exact vW (aI hU (aI c0 (aI c4 w))))
  ·exact vEr 4 y4 (by show V22 _ (itE o.items); generalize itE o.items = E at *; exact vW (aI hU (aI c0 (aI c4 w))))
 ·exact vEr 0 y0 (by have z := nn y0; rw [z.1] at c0; show V22 _ (nmE o.name); rw [z.2]; exact vW (aI hU (aI c0 (aI c4 w))))
theorem WJ (o : O) (ho : o.Oct) (hn : o.names.length ≤ 1000000) (hi : o.items.length ≤ 1000000) : V22 (kO 7 o) (vop (kO 7 o)) := by
 have w := wb o 7 (by decide)
 have hU : Pg.Good Tryz.prog 83 [vi 7] (.agg [bT, bT, bF, bF, bF, bT, bF, bF, bF, bF, bF, bF, bF]) := iC 7
 have mB : dI (bJ 7) = [true, true, false, false, false, true, false, false, false, false, false, false, false, false] := by decide
 have c0 := oz o.name ho.1
 have c1 := oz o.other ho.2.1
 by_cases y0 : nmE o.name = 0
 ·rw [ni y0] at c0
  by_cases y1 : nmE o.other = 0
  ·rw [ni y1] at c1
   by_cases y5 : shE o.coins 64 = 0
   ·have z5 := si y5
    exact vOk (aI hU (aI c0 (aI c1 w))) jA
   ·exact vEr 5 y5 (by have z := sn y5; show V22 _ (shE o.coins 64); rw [z.2]; exact vW (aI hU (aI c0 (aI c1 w))))
  ·exact vEr 1 y1 (by have z := nn y1; rw [z.1] at c1; show V22 _ (nmE o.other); rw [z.2]; exact vW (aI hU (aI c0 (aI c1 w))))
 ·exact vEr 0 y0 (by have z := nn y0; rw [z.1] at c0; show V22 _ (nmE o.name); rw [z.2]; exact vW (aI hU (aI c0 (aI c1 w))))
theorem WL (o : O) (ho : o.Oct) (hn : o.names.length ≤ 1000000) (hi : o.items.length ≤ 1000000) : V22 (kO 8 o) (vop (kO 8 o)) := by
 have w := wb o 8 (by decide)
 have hU : Pg.Good Tryz.prog 83 [vi 8] (.agg [bT, bT, bF, bF, bF, bT, bT, bF, bF, bF, bF, bF, bF]) := iC 8
 have mB : dI (bJ 8) = [true, true, false, false, false, true, true, true, false, false, false, false, false, false] := by decide
 have c0 := oz o.name ho.1
 have c1 := oz o.other ho.2.1
 have c6 := fB o.exp 1 1048576
 have c7 := fB o.src 1 1048576
 by_cases y0 : nmE o.name = 0
 ·rw [ni y0] at c0
  by_cases y1 : nmE o.other = 0
  ·rw [ni y1] at c1
   by_cases y5 : shE o.coins 64 = 0
   ·have z5 := si y5
    by_cases y6 : bwE o.exp 1 1048576 = 0
    ·rw [bi y6] at c6
     by_cases y7 : bwE o.src 1 1048576 = 0
     ·rw [bi y7] at c7
      exact vOk (aI hU (aI c0 (aI c1 (aI c6 (aI c7 w))))) jA
     ·exact vEr 7 y7 (by have z := bn y7; rw [z.1] at c7; show V22 _ (bwE o.src 1 1048576); rw [z.2]; exact vW (aI hU (aI c0 (aI c1 (aI c6 (aI c7 w))))))
    ·exact vEr 6 y6 (by have z := bn y6; rw [z.1] at c6; show V22 _ (bwE o.exp 1 1048576); rw [z.2]; exact vW (aI hU (aI c0 (aI c1 (aI c6 (aI c7 w))))))
   ·exact vEr 5 y5 (by have z := sn y5; show V22 _ (shE o.coins 64); rw [z.2]; exact vW (aI hU (aI c0 (aI c1 (aI c6 (aI c7 w))))))
  ·exact vEr 1 y1 (by have z := nn y1; rw [z.1] at c1; show V22 _ (nmE o.other); rw [z.2]; exact vW (aI hU (aI c0 (aI c1 (aI c6 (aI c7 w))))))
 ·exact vEr 0 y0 (by have z := nn y0; rw [z.1] at c0; show V22 _ (nmE o.name); rw [z.2]; exact vW (aI hU (aI c0 (aI c1 (aI c6 (aI c7 w))))))
theorem WM (o : O) (ho : o.Oct) (hn : o.names.length ≤ 1000000) (hi : o.items.length ≤ 1000000) : V22 (kO 9 o) (vop (kO 9 o)) := by
 have w := wb o 9 (by decide)
 have hU : Pg.Good Tryz.prog 83 [vi 9] (.agg [bF, bF, bT, bF, bF, bF, bF, bF, bF, bF, bF, bF, bF]) := iC 9
 have mB : dI (bJ 9) = [false, false, true, false, false, false, false, false, false, false, false, false, false, false] := by decide
 have c2 := aab (kO 9 o) ho hn
 by_cases y2 : lsE o.names = 0
 ·rw [show lsE o.names = 0 from y2] at c2
  exact vOk (aI hU (aI c2 w)) jA
 ·exact vEr 2 y2 (by show V22 _ (lsE o.names); generalize lsE o.names = E at *; exact vW (aI hU (aI c2 w)))
theorem Qq (o : O) (ho : o.Oct) (hn : o.names.length ≤ 1000000) (hi : o.items.length ≤ 1000000) : V22 (kO 10 o) (vop (kO 10 o)) := by
 have w := wb o 10 (by decide)
 have hU : Pg.Good Tryz.prog 83 [vi 10] (.agg [bF, bF, bF, bF, bF, bF, bF, bT, bT, bF, bF, bT, bF]) := iC 10
 have mB : dI (bJ 10) = [false, false, false, false, false, false, false, false, true, true, false, false, true, false] := by decide
 have c8 := fB o.hnd 0 3
 have c9 := fB o.idx 0 15
 have c12 := F8 o.qk o.qkey o.qc o.qn o.qd
 by_cases y8 : bwE o.hnd 0 3 = 0
 ·rw [bi y8] at c8
  by_cases y9 : bwE o.idx 0 15 = 0
  ·rw [bi y9] at c9
   by_cases y12 : vq o.qk o.qkey o.qc o.qn o.qd = 0
   ·rw [y12] at c12
    exact vOk (aI hU (aI c8 (aI c9 (aI c12 w)))) jA
   ·exact vEr 12 y12 (by show V22 _ (vq o.qk o.qkey o.qc o.qn o.qd); generalize vq o.qk o.qkey o.qc o.qn o.qd = E at *; exact vW (aI hU (aI c8 (aI c9 (aI c12 w)))))
  ·exact vEr 9 y9 (by have z := bn y9; rw [z.1] at c9; show V22 _ (bwE o.idx 0 15); rw [z.2]; exact vW (aI hU (aI c8 (aI c9 (aI c12 w)))))
 ·exact vEr 8 y8 (by have z := bn y8; rw [z.1] at c8; show V22 _ (bwE o.hnd 0 3); rw [z.2]; exact vW (aI hU (aI c8 (aI c9 (aI c12 w)))))
theorem Qr (o : O) (ho : o.Oct) (hn : o.names.length ≤ 1000000) (hi : o.items.length ≤ 1000000) : V22 (kO 11 o) (vop (kO 11 o)) := by
 have w := wb o 11 (by decide)
 have hU : Pg.Good Tryz.prog 83 [vi 11] (.agg [bF, bF, bF, bF, bF, bF, bF, bT, bF, bF, bF, bF, bF]) := iC 11
 have mB : dI (bJ 11) = [false, false, false, false, false, false, false, false, true, false, false, false, false, false] := by decide
 have c8 := fB o.hnd 0 3
 by_cases y8 : bwE o.hnd 0 3 = 0
 ·rw [bi y8] at c8
  exact vOk (aI hU (aI c8 w)) jA
 ·exact vEr 8 y8 (by have z := bn y8; rw [z.1] at c8; show V22 _ (bwE o.hnd 0 3); rw [z.2]; exact vW (aI hU (aI c8 w)))
theorem Qs (o : O) (ho : o.Oct) (hn : o.names.length ≤ 1000000) (hi : o.items.length ≤ 1000000) : V22 (kO 12 o) (vop (kO 12 o)) := by
 have w := wb o 12 (by decide)
 have hU : Pg.Good Tryz.prog 83 [vi 12] (.agg [bF, bF, bF, bF, bF, bF, bF, bT, bT, bF, bF, bF, bF]) := iC 12
 have mB : dI (bJ 12) = [false, false, false, false, false, false, false, false, true, true, false, false, false, false] := by decide
 have c8 := fB o.hnd 0 3
 have c9 := fB o.idx 0 15
 by_cases y8 : bwE o.hnd 0 3 = 0
 ·rw [bi y8] at c8
  by_cases y9 : bwE o.idx 0 15 = 0
  ·rw [bi y9] at c9
   exact vOk (aI hU (aI c8 (aI c9 w))) jA
  ·exact vEr 9 y9 (by have z := bn y9; rw [z.1] at c9; show V22 _ (bwE o.idx 0 15); rw [z.2]; exact vW (aI hU (aI c8 (aI c9 w))))
 ·exact vEr 8 y8 (by have z := bn y8; rw [z.1] at c8; show V22 _ (bwE o.hnd 0 3); rw [z.2]; exact vW (aI hU (aI c8 (aI c9 w))))
theorem Qu (o : O) (ho : o.Oct) (hn : o.names.length ≤ 1000000) (hi : o.items.length ≤ 1000000) : V22 (kO 13 o) (vop (kO 13 o)) := by
 have w := wb o 13 (by decide)
 have hU : Pg.Good Tryz.prog 83 [vi 13] (.agg [bF, bF, bF, bF, bF, bF, bF, bF, bF, bT, bT, bF, bF]) := iC 13
 have mB : dI (bJ 13) = [false, false, false, false, false, false, false, false, false, false, true, true, false, false] := by decide
 have c10 := fB o.cur 0 3
 have c11 := fB o.cnt 0 32
 by_cases y10 : bwE o.cur 0 3 = 0
 ·rw [bi y10] at c10
  by_cases y11 : bwE o.cnt 0 32 = 0
  ·rw [bi y11] at c11
   exact vOk (aI hU (aI c10 (aI c11 w))) jA
  ·exact vEr 11 y11 (by have z := bn y11; rw [z.1] at c11; show V22 _ (bwE o.cnt 0 32); rw [z.2]; exact vW (aI hU (aI c10 (aI c11 w))))
 ·exact vEr 10 y10 (by have z := bn y10; rw [z.1] at c10; show V22 _ (bwE o.cur 0 3); rw [z.2]; exact vW (aI hU (aI c10 (aI c11 w))))
theorem Qv (o : O) (ho : o.Oct) (hn : o.names.length ≤ 1000000) (hi : o.items.length ≤ 1000000) : V22 (kO 14 o) (vop (kO 14 o)) := by
 have w := wb o 14 (by decide)
 have hU : Pg.Good Tryz.prog 83 [vi 14] (.agg [bF, bF, bF, bF, bF, bF, bF, bF, bF, bT, bF, bF, bF]) := iC 14
 have mB : dI (bJ 14) = [false, false, false, false, false, false, false, false, false, false, true, false, false, false] := by decide
 have c10 := fB o.cur 0 3
 by_cases y10 : bwE o.cur 0 3 = 0
 ·rw [bi y10] at c10
  exact vOk (aI hU (aI c10 w)) jA
 ·exact vEr 10 y10 (by have z := bn y10; rw [z.1] at c10; show V22 _ (bwE o.cur 0 3); rw [z.2]; exact vW (aI hU (aI c10 w)))
theorem Qw (o : O) (ho : o.Oct) (hn : o.names.length ≤ 1000000) (hi : o.items.length ≤ 1000000) : V22 (kO 15 o) (vop (kO 15 o)) := by
 have w := wb o 15 (by decide)
 have hU : Pg.Good Tryz.prog 83 [vi 15] (.agg [bF, bF, bF, bF, bF, bF, bF, bT, bT, bF, bF, bF, bF]) := iC 15
 have mB : dI (bJ 15) = [false, false, false, false, false, false, false, false, true, true, false, false, false, false] := by decide
 have c8 := fB o.hnd 0 3
 have c9 := fB o.idx 0 15
 by_cases y8 : bwE o.hnd 0 3 = 0
 ·rw [bi y8] at c8
  by_cases y9 : bwE o.idx 0 15 = 0
  ·rw [bi y9] at c9
   exact vOk (aI hU (aI c8 (aI c9 w))) jA
  ·exact vEr 9 y9 (by have z := bn y9; rw [z.1] at c9; show V22 _ (bwE o.idx 0 15); rw [z.2]; exact vW (aI hU (aI c8 (aI c9 w))))
 ·exact vEr 8 y8 (by have z := bn y8; rw [z.1] at c8; show V22 _ (bwE o.hnd 0 3); rw [z.2]; exact vW (aI hU (aI c8 (aI c9 w))))
theorem Qx (o : O) (ho : o.Oct) (hn : o.names.length ≤ 1000000) (hi : o.items.length ≤ 1000000) : V22 (kO 16 o) (vop (kO 16 o)) := by
 have w := wb o 16 (by decide)
 have hU : Pg.Good Tryz.prog 83 [vi 16] (.agg [bT, bF, bF, bF, bF, bF, bF, bF, bF, bF, bF, bF, bT]) := iC 16
 have mB : dI (bJ 16) = [true, false, false, false, false, false, false, false, false, false, false, false, false, true] := by decide
 have c0 := oz o.name ho.1
 by_cases y0 : nmE o.name = 0
 ·rw [ni y0] at c0
  by_cases y13 : shE o.data 65536 = 0
  ·have z13 := si y13
   exact vOk (aI hU (aI c0 w)) jA
  ·exact vEr 13 y13 (by have z := sn y13; show V22 _ (shE o.data 65536); rw [z.2]; exact vW (aI hU (aI c0 w)))
 ·exact vEr 0 y0 (by have z := nn y0; rw [z.1] at c0; show V22 _ (nmE o.name); rw [z.2]; exact vW (aI hU (aI c0 w)))
theorem Qz (o : O) (ho : o.Oct) (hn : o.names.length ≤ 1000000) (hi : o.items.length ≤ 1000000) : V22 (kO 17 o) (vop (kO 17 o)) := by
 have w := wb o 17 (by decide)
 have hU : Pg.Good Tryz.prog 83 [vi 17] (.agg [bF, bF, bF, bF, bF, bF, bF, bF, bF, bF, bF, bF, bF]) := iC 17
 have mB : dI (bJ 17) = [false, false, false, false, false, false, false, false, false, false, false, false, false, false] := by decide
 exact vOk (aI hU w) jA
theorem cO (o : O) (ho : o.Oct) (hn : o.names.length ≤ 1000000) (hi : o.items.length ≤ 1000000) : V22 o (vop o) := by
 by_cases hk : o.kind < 1 ∨ 17 < o.kind
 ·exact KP o hk
 ·rcases nU hk with h | h | h | h | h | h | h | h | h | h | h | h | h | h | h | h | h
  ·have g := WC o ho hn hi; rw [← h] at g; exact g
  ·have g := WE o ho hn hi; rw [← h] at g; exact g
  ·have g := WF o ho hn hi; rw [← h] at g; exact g
  ·have g := WG o ho hn hi; rw [← h] at g; exact g
  ·have g := WH o ho hn hi; rw [← h] at g; exact g
  ·have g := WI o ho hn hi; rw [← h] at g; exact g
  ·have g := WJ o ho hn hi; rw [← h] at g; exact g
  ·have g := WL o ho hn hi; rw [← h] at g; exact g
  ·have g := WM o ho hn hi; rw [← h] at g; exact g
  ·have g := Qq o ho hn hi; rw [← h] at g; exact g
  ·have g := Qr o ho hn hi; rw [← h] at g; exact g
  ·have g := Qs o ho hn hi; rw [← h] at g; exact g
  ·have g := Qu o ho hn hi; rw [← h] at g; exact g
  ·have g := Qv o ho hn hi; rw [← h] at g; exact g
  ·have g := Qw o ho hn hi; rw [← h] at g; exact g
  ·have g := Qx o ho hn hi; rw [← h] at g; exact g
  ·have g := Qz o ho hn hi; rw [← h] at g; exact g
theorem amx : (⟨#[99, 114, 101, 97, 116, 101]⟩ : ByteArray) = sB [99, 114, 101, 97, 116, 101] := rfl
theorem amy : (⟨#[100, 114, 111, 112]⟩ : ByteArray) = sB [100, 114, 111, 112] := rfl
theorem amz : (⟨#[114, 101, 110, 97, 109, 101]⟩ : ByteArray) = sB [114, 101, 110, 97, 109, 101] := rfl
theorem amA : (⟨#[108, 105, 115, 116]⟩ : ByteArray) = sB [108, 105, 115, 116] := rfl
theorem amB : (⟨#[113, 117, 101, 114, 121]⟩ : ByteArray) = sB [113, 117, 101, 114, 121] := rfl
theorem amC : (⟨#[105, 110, 115, 101, 114, 116]⟩ : ByteArray) = sB [105, 110, 115, 101, 114, 116] := rfl
theorem amD : (⟨#[109, 101, 114, 103, 101]⟩ : ByteArray) = sB [109, 101, 114, 103, 101] := rfl
theorem amE : (⟨#[99, 111, 109, 112, 97, 114, 101]⟩ : ByteArray) = sB [99, 111, 109, 112, 97, 114, 101] := rfl
theorem amF : (⟨#[111, 112, 101, 110]⟩ : ByteArray) = sB [111, 112, 101, 110] := rfl
theorem akm : (⟨#[114, 101, 97, 100]⟩ : ByteArray) = sB [114, 101, 97, 100] := rfl
theorem akn : (⟨#[99, 108, 111, 115, 101]⟩ : ByteArray) = sB [99, 108, 111, 115, 101] := rfl
theorem ako : (⟨#[99, 117, 114, 115, 111, 114]⟩ : ByteArray) = sB [99, 117, 114, 115, 111, 114] := rfl
theorem akp : (⟨#[110, 101, 120, 116]⟩ : ByteArray) = sB [110, 101, 120, 116] := rfl
theorem akq : (⟨#[101, 110, 100]⟩ : ByteArray) = sB [101, 110, 100] := rfl
theorem akr : (⟨#[101, 120, 112, 111, 114, 116]⟩ : ByteArray) = sB [101, 120, 112, 111, 114, 116] := rfl
theorem aks : (⟨#[105, 109, 112, 111, 114, 116]⟩ : ByteArray) = sB [105, 109, 112, 111, 114, 116] := rfl
theorem akt : (⟨#[99, 111, 108, 108, 101, 99, 116]⟩ : ByteArray) = sB [99, 111, 108, 108, 101, 99, 116] := rfl
theorem agO (o : O) (ok : o.Ok) (hk : o.kind = 1) (hv : vop o = 0) : Pg.Good Tryz.prog 14 [.agg (opF o)] (.tup [vs (jn (opW o)), vi 0]) := by
 have h1 := cO o ok.oct (by have := ok.names; omega) (by have := ok.items; omega)
 rw [hv] at h1
 have e : opW o = [99, 114, 101, 97, 116, 101] :: o.name :: qX o.pk o.pz o.pd o.ps := by simp [opW, hk]
 have htot := dM o ok
 rw [e] at htot ⊢
 have hprm := ajN o.pk o.pz o.pd o.ps (pg (by omega) hv) ok.pz ok.pd ok.ps
 have hw := afN o.pk o.pz o.pd o.ps
 have hjj : jn ([99, 114, 101, 97, 116, 101] :: o.name :: qX o.pk o.pz o.pd o.ps) = jn [[99, 114, 101, 97, 116, 101], o.name, jn (qX o.pk o.pz o.pd o.ps)] := Pz [[99, 114, 101, 97, 116, 101], o.name] hw
 rw [hjj]
 have hws := dR [[99, 114, 101, 97, 116, 101], o.name, jn (qX o.pk o.pz o.pd o.ps)] (by have := PD (qX o.pk o.pz o.pd o.ps); simp only [bz, dL] at *; omega)
 obtain ⟨kind, name, other, names, pk, pz, pd, ps, items, coins, exp, src, hnd, idx, cur, cnt, qk, qkey, qc, qn, qd, data⟩ := o
 simp only at *
 subst hk
 clear hv ok
 refine gI oD Tryz.func14 Tryz.results14 ?_
 exact wRA (aI @amx @ai) (aI h1 (aI hprm hws)) ah
theorem agP (o : O) (ok : o.Ok) (hk : o.kind = 2) (hv : vop o = 0) : Pg.Good Tryz.prog 14 [.agg (opF o)] (.tup [vs (jn (opW o)), vi 0]) := by
 have h1 := cO o ok.oct (by have := ok.names; omega) (by have := ok.items; omega)
 rw [hv] at h1
 have e : opW o = [100, 114, 111, 112] :: o.name :: [] := by simp [opW, hk]
 have htot := dM o ok
 rw [e] at htot ⊢
 have hws := dR [[100, 114, 111, 112], o.name] (by skip; simp only [bz, dL] at *; omega)
 obtain ⟨kind, name, other, names, pk, pz, pd, ps, items, coins, exp, src, hnd, idx, cur, cnt, qk, qkey, qc, qn, qd, data⟩ := o
 simp only at *
 subst hk
 clear hv ok
 refine gI oD Tryz.func14 Tryz.results14 ?_
 exact wRA (aI @amy @ai) (aI h1 hws) ah
theorem agQ (o : O) (ok : o.Ok) (hk : o.kind = 3) (hv : vop o = 0) : Pg.Good Tryz.prog 14 [.agg (opF o)] (.tup [vs (jn (opW o)), vi 0]) := by
 have h1 := cO o ok.oct (by have := ok.names; omega) (by have := ok.items; omega)
 rw [hv] at h1
 have e : opW o = [114, 101, 110, 97, 109, 101] :: o.name :: o.other :: [] := by simp [opW, hk]
 have htot := dM o ok
 rw [e] at htot ⊢
 have hws := dR [[114, 101, 110, 97, 109, 101], o.name, o.other] (by skip; simp only [bz, dL] at *; omega)
 obtain ⟨kind, name, other, names, pk, pz, pd, ps, items, coins, exp, src, hnd, idx, cur, cnt, qk, qkey, qc, qn, qd, data⟩ := o
 simp only at *
 subst hk
 clear hv ok
 refine gI oD Tryz.func14 Tryz.results14 ?_
 exact wRA (aI @amz @ai) (aI h1 hws) ah
theorem agR (o : O) (ok : o.Ok) (hk : o.kind = 4) (hv : vop o = 0) : Pg.Good Tryz.prog 14 [.agg (opF o)] (.tup [vs (jn (opW o)), vi 0]) := by
 have h1 := cO o ok.oct (by have := ok.names; omega) (by have := ok.items; omega)
 rw [hv] at h1
 have e : opW o = [108, 105, 115, 116] :: [] := by simp [opW, hk]
 have htot := dM o ok
 rw [e] at htot ⊢
 rw [show jn [[108, 105, 115, 116]] = [108, 105, 115, 116] from rfl]
 obtain ⟨kind, name, other, names, pk, pz, pd, ps, items, coins, exp, src, hnd, idx, cur, cnt, qk, qkey, qc, qn, qd, data⟩ := o
 simp only at *
 subst hk
 clear hv ok
 refine gI oD Tryz.func14 Tryz.results14 ?_
 exact wRA (aI @amA @ai) h1 ah
theorem agS (o : O) (ok : o.Ok) (hk : o.kind = 5) (hv : vop o = 0) : Pg.Good Tryz.prog 14 [.agg (opF o)] (.tup [vs (jn (opW o)), vi 0]) := by
 have h1 := cO o ok.oct (by have := ok.names; omega) (by have := ok.items; omega)
 rw [hv] at h1
 have e : opW o = [113, 117, 101, 114, 121] :: o.name :: lY o.qk o.qkey o.qc o.qn o.qd := by simp [opW, hk]
 have htot := dM o ok
 rw [e] at htot ⊢
 have hprm := abv o.qk o.qkey o.qc o.qn o.qd (gm (by omega) hv) ok.qkey ok.qc ok.qn ok.qd
 have hw := Sj o.qk o.qkey o.qc o.qn o.qd
 have hjj : jn ([113, 117, 101, 114, 121] :: o.name :: lY o.qk o.qkey o.qc o.qn o.qd) = jn [[113, 117, 101, 114, 121], o.name, jn (lY o.qk o.qkey o.qc o.qn o.qd)] := Pz [[113, 117, 101, 114, 121], o.name] hw
 rw [hjj]
 have hws := dR [[113, 117, 101, 114, 121], o.name, jn (lY o.qk o.qkey o.qc o.qn o.qd)] (by have := PD (lY o.qk o.qkey o.qc o.qn o.qd); simp only [bz, dL] at *; omega)
 obtain ⟨kind, name, other, names, pk, pz, pd, ps, items, coins, exp, src, hnd, idx, cur, cnt, qk, qkey, qc, qn, qd, data⟩ := o
 simp only at *
 subst hk
 clear hv ok
 refine gI oD Tryz.func14 Tryz.results14 ?_
 exact wRA (aI @amB @ai) (aI h1 (aI hprm hws)) ah
theorem agT (o : O) (ok : o.Ok) (hk : o.kind = 7) (hv : vop o = 0) : Pg.Good Tryz.prog 14 [.agg (opF o)] (.tup [vs (jn (opW o)), vi 0]) := by
 have h1 := cO o ok.oct (by have := ok.names; omega) (by have := ok.items; omega)
 rw [hv] at h1
 have e : opW o = [109, 101, 114, 103, 101] :: o.name :: o.other :: fb o.coins :: [] := by simp [opW, hk]
 have htot := dM o ok
 rw [e] at htot ⊢
 have hfb := yT o.coins ok.oct.2.2.2.2.1 (by have := ok.coins; omega)
 have hws := dR [[109, 101, 114, 103, 101], o.name, o.other, fb o.coins] (by skip; simp only [bz, dL] at *; omega)
 obtain ⟨kind, name, other, names, pk, pz, pd, ps, items, coins, exp, src, hnd, idx, cur, cnt, qk, qkey, qc, qn, qd, data⟩ := o
 simp only at *
 subst hk
 clear hv ok
 refine gI oD Tryz.func14 Tryz.results14 ?_
 exact wRA (aI @amD @ai) (aI h1 (aI hfb hws)) ah
theorem agU (o : O) (ok : o.Ok) (hk : o.kind = 8) (hv : vop o = 0) : Pg.Good Tryz.prog 14 [.agg (opF o)] (.tup [vs (jn (opW o)), vi 0]) := by
 have h1 := cO o ok.oct (by have := ok.names; omega) (by have := ok.items; omega)
 rw [hv] at h1
 have e : opW o = [99, 111, 109, 112, 97, 114, 101] :: o.name :: o.other :: fb o.coins :: ak o.exp :: ak o.src :: [] := by simp [opW, hk]
 have htot := dM o ok
 rw [e] at htot ⊢
 have hfb := yT o.coins ok.oct.2.2.2.2.1 (by have := ok.coins; omega)
 have h_exp := jX o.exp ok.exp
 have h_src := jX o.src ok.src
 have hws := dR [[99, 111, 109, 112, 97, 114, 101], o.name, o.other, fb o.coins, ak o.exp, ak o.src] (by skip; simp only [bz, dL] at *; omega)
 obtain ⟨kind, name, other, names, pk, pz, pd, ps, items, coins, exp, src, hnd, idx, cur, cnt, qk, qkey, qc, qn, qd, data⟩ := o
 simp only at *
 subst hk
 clear hv ok
 refine gI oD Tryz.func14 Tryz.results14 ?_
 exact wRA (aI @amE @ai) (aI h1 (aI hfb (aI h_exp (aI h_src hws)))) ah
theorem acJ (o : O) (ok : o.Ok) (hk : o.kind = 10) (hv : vop o = 0) : Pg.Good Tryz.prog 14 [.agg (opF o)] (.tup [vs (jn (opW o)), vi 0]) := by
 have h1 := cO o ok.oct (by have := ok.names; omega) (by have := ok.items; omega)
 rw [hv] at h1
 have e : opW o = [114, 101, 97, 100] :: ak o.hnd :: ak o.idx :: lY o.qk o.qkey o.qc o.qn o.qd := by simp [opW, hk]
 have htot := dM o ok
 rw [e] at htot ⊢
 have hprm := abv o.qk o.qkey o.qc o.qn o.qd (gm (by omega) hv) ok.qkey ok.qc ok.qn ok.qd
 have hw := Sj o.qk o.qkey o.qc o.qn o.qd
 have hjj : jn ([114, 101, 97, 100] :: ak o.hnd :: ak o.idx :: lY o.qk o.qkey o.qc o.qn o.qd) = jn [[114, 101, 97, 100], ak o.hnd, ak o.idx, jn (lY o.qk o.qkey o.qc o.qn o.qd)] := Pz [[114, 101, 97, 100], ak o.hnd, ak o.idx] hw
 have h_hnd := jX o.hnd ok.hnd
 have h_idx := jX o.idx ok.idx
 rw [hjj]
 have hws := dR [[114, 101, 97, 100], ak o.hnd, ak o.idx, jn (lY o.qk o.qkey o.qc o.qn o.qd)] (by have := PD (lY o.qk o.qkey o.qc o.qn o.qd); simp only [bz, dL] at *; omega)
 obtain ⟨kind, name, other, names, pk, pz, pd, ps, items, coins, exp, src, hnd, idx, cur, cnt, qk, qkey, qc, qn, qd, data⟩ := o
 simp only at *
 subst hk
 clear hv ok
 refine gI oD Tryz.func14 Tryz.results14 ?_
 exact wRA (aI @akm @ai) (aI h1 (aI hprm (aI h_hnd (aI h_idx hws)))) ah
theorem acK (o : O) (ok : o.Ok) (hk : o.kind = 11) (hv : vop o = 0) : Pg.Good Tryz.prog 14 [.agg (opF o)] (.tup [vs (jn (opW o)), vi 0]) := by
 have h1 := cO o ok.oct (by have := ok.names; omega) (by have := ok.items; omega)
 rw [hv] at h1
 have e : opW o = [99, 108, 111, 115, 101] :: ak o.hnd :: [] := by simp [opW, hk]
 have htot := dM o ok
 rw [e] at htot ⊢
 have h_hnd := jX o.hnd ok.hnd
 have hws := dR [[99, 108, 111, 115, 101], ak o.hnd] (by skip; simp only [bz, dL] at *; omega)
 obtain ⟨kind, name, other, names, pk, pz, pd, ps, items, coins, exp, src, hnd, idx, cur, cnt, qk, qkey, qc, qn, qd, data⟩ := o
 simp only at *
 subst hk
 clear hv ok
 refine gI oD Tryz.func14 Tryz.results14 ?_
 exact wRA (aI @akn @ai) (aI h1 (aI h_hnd hws)) ah
theorem acL (o : O) (ok : o.Ok) (hk : o.kind = 12) (hv : vop o = 0) : Pg.Good Tryz.prog 14 [.agg (opF o)] (.tup [vs (jn (opW o)), vi 0]) := by
 have h1 := cO o ok.oct (by have := ok.names; omega) (by have := ok.items; omega)
 rw [hv] at h1
 have e : opW o = [99, 117, 114, 115, 111, 114] :: ak o.hnd :: ak o.idx :: [] := by simp [opW, hk]
 have htot := dM o ok
 rw [e] at htot ⊢
 have h_hnd := jX o.hnd ok.hnd
 have h_idx := jX o.idx ok.idx
 have hws := dR [[99, 117, 114, 115, 111, 114], ak o.hnd, ak o.idx] (by skip; simp only [bz, dL] at *; omega)
 obtain ⟨kind, name, other, names, pk, pz, pd, ps, items, coins, exp, src, hnd, idx, cur, cnt, qk, qkey, qc, qn, qd, data⟩ := o
 simp only at *
 subst hk
 clear hv ok
 refine gI oD Tryz.func14 Tryz.results14 ?_
 exact wRA (aI @ako @ai) (aI h1 (aI h_hnd (aI h_idx hws))) ah
theorem acM (o : O) (ok : o.Ok) (hk : o.kind = 13) (hv : vop o = 0) : Pg.Good Tryz.prog 14 [.agg (opF o)] (.tup [vs (jn (opW o)), vi 0]) := by
 have h1 := cO o ok.oct (by have := ok.names; omega) (by have := ok.items; omega)
 rw [hv] at h1
 have e : opW o = [110, 101, 120, 116] :: ak o.cur :: ak o.cnt :: [] := by simp [opW, hk]
 have htot := dM o ok
 rw [e] at htot ⊢
 have h_cur := jX o.cur ok.cur
 have h_cnt := jX o.cnt ok.cnt
 have hws := dR [[110, 101, 120, 116], ak o.cur, ak o.cnt] (by skip; simp only [bz, dL] at *; omega)
 obtain ⟨kind, name, other, names, pk, pz, pd, ps, items, coins, exp, src, hnd, idx, cur, cnt, qk, qkey, qc, qn, qd, data⟩ := o
 simp only at *
 subst hk
 clear hv ok
 refine gI oD Tryz.func14 Tryz.results14 ?_
 exact wRA (aI @akp @ai) (aI h1 (aI h_cur (aI h_cnt hws))) ah
theorem acN (o : O) (ok : o.Ok) (hk : o.kind = 14) (hv : vop o = 0) : Pg.Good Tryz.prog 14 [.agg (opF o)] (.tup [vs (jn (opW o)), vi 0]) := by
 have h1 := cO o ok.oct (by have := ok.names; omega) (by have := ok.items; omega)
 rw [hv] at h1
 have e : opW o = [101, 110, 100] :: ak o.cur :: [] := by simp [opW, hk]
 have htot := dM o ok
 rw [e] at htot ⊢
 have h_cur := jX o.cur ok.cur
 have hws := dR [[101, 110, 100], ak o.cur] (by skip; simp only [bz, dL] at *; omega)
 obtain ⟨kind, name, other, names, pk, pz, pd, ps, items, coins, exp, src, hnd, idx, cur, cnt, qk, qkey, qc, qn, qd, data⟩ := o
 simp only at *
 subst hk
 clear hv ok
 refine gI oD Tryz.func14 Tryz.results14 ?_
 exact wRA (aI @akq @ai) (aI h1 (aI h_cur hws)) ah
theorem acO (o : O) (ok : o.Ok) (hk : o.kind = 15) (hv : vop o = 0) : Pg.Good Tryz.prog 14 [.agg (opF o)] (.tup [vs (jn (opW o)), vi 0]) := by
 have h1 := cO o ok.oct (by have := ok.names; omega) (by have := ok.items; omega)
 rw [hv] at h1
 have e : opW o = [101, 120, 112, 111, 114, 116] :: ak o.hnd :: ak o.idx :: [] := by simp [opW, hk]
 have htot := dM o ok
 rw [e] at htot ⊢
 have h_hnd := jX o.hnd ok.hnd
 have h_idx := jX o.idx ok.idx
 have hws := dR [[101, 120, 112, 111, 114, 116], ak o.hnd, ak o.idx] (by skip; simp only [bz, dL] at *; omega)
 obtain ⟨kind, name, other, names, pk, pz, pd, ps, items, coins, exp, src, hnd, idx, cur, cnt, qk, qkey, qc, qn, qd, data⟩ := o
 simp only at *
 subst hk
 clear hv ok
 refine gI oD Tryz.func14 Tryz.results14 ?_
 exact wRA (aI @akr @ai) (aI h1 (aI h_hnd (aI h_idx hws))) ah
theorem acP (o : O) (ok : o.Ok) (hk : o.kind = 16) (hv : vop o = 0) : Pg.Good Tryz.prog 14 [.agg (opF o)] (.tup [vs (jn (opW o)), vi 0]) := by
 have h1 := cO o ok.oct (by have := ok.names; omega) (by have := ok.items; omega)
 rw [hv] at h1
 have e : opW o = [105, 109, 112, 111, 114, 116] :: o.name :: fb o.data :: [] := by simp [opW, hk]
 have htot := dM o ok
 rw [e] at htot ⊢
 have hfb := yT o.data ok.oct.2.2.2.2.2.2 (by have := ok.data; omega)
 have hws := dR [[105, 109, 112, 111, 114, 116], o.name, fb o.data] (by skip; simp only [bz, dL] at *; omega)
 obtain ⟨kind, name, other, names, pk, pz, pd, ps, items, coins, exp, src, hnd, idx, cur, cnt, qk, qkey, qc, qn, qd, data⟩ := o
 simp only at *
 subst hk
 clear hv ok
 refine gI oD Tryz.func14 Tryz.results14 ?_
 exact wRA (aI @aks @ai) (aI h1 (aI hfb hws)) ah
theorem acQ (o : O) (ok : o.Ok) (hk : o.kind = 17) (hv : vop o = 0) : Pg.Good Tryz.prog 14 [.agg (opF o)] (.tup [vs (jn (opW o)), vi 0]) := by
 have h1 := cO o ok.oct (by have := ok.names; omega) (by have := ok.items; omega)
 rw [hv] at h1
 have e : opW o = [99, 111, 108, 108, 101, 99, 116] :: [] := by simp [opW, hk]
 have htot := dM o ok
 rw [e] at htot ⊢
 rw [show jn [[99, 111, 108, 108, 101, 99, 116]] = [99, 111, 108, 108, 101, 99, 116] from rfl]
 obtain ⟨kind, name, other, names, pk, pz, pd, ps, items, coins, exp, src, hnd, idx, cur, cnt, qk, qkey, qc, qn, qd, data⟩ := o
 simp only at *
 subst hk
 clear hv ok
 refine gI oD Tryz.func14 Tryz.results14 ?_
 exact wRA (aI @akt @ai) h1 ah
theorem agV (o : O) (ok : o.Ok) (hk : o.kind = 6) (hv : vop o = 0) : Pg.Good Tryz.prog 14 [.agg (opF o)] (.tup [vs (jn (opW o)), vi 0]) := by
 have h1 := cO o ok.oct (by have := ok.names; omega) (by have := ok.items; omega)
 rw [hv] at h1
 have e : opW o = qU o := by simp [opW, hk]
 have hfb := yT o.coins ok.oct.2.2.2.2.1 (by have := ok.coins; omega)
 have hits : ∀ x ∈ o.items, oct x.1 ∧ fH x.1 = true ∧ Wt x.2 := fun x hx => ⟨ok.oct.2.2.2.1 x hx, ((IL hk hv).2 x hx).1, ok.wts x hx⟩
 have hil := ok.items
 have hwt := ok.wts
 have hp1 := ok.name
 have hp2 := uT o.coins
 have hp3 := ok.coins
 rw [e]
 unfold qU
 have hpt : tot [[105, 110, 115, 101, 114, 116], o.name, fb o.coins] ≤ 10000 := by simp only [bz, dL, List.length_cons, List.length_nil]; omega
 have hw0 := dR [[105, 110, 115, 101, 114, 116], o.name, fb o.coins] (by omega)
 obtain ⟨kind, name, other, names, pk, pz, pd, ps, items, coins, exp, src, hnd, idx, cur, cnt, qk, qkey, qc, qn, qd, data⟩ := o
 simp only at *
 subst hk
 clear hv ok e hp1 hp2 hp3
 refine gI oD Tryz.func14 Tryz.results14 ?_
 refine wSA (aI @amC @ai) (aI h1 (aI hfb hw0)) ?_
 generalize hpre : ([[105, 110, 115, 101, 114, 116], name, fb coins] : List (List Nat)) = pre at *
 have hne : pre ≠ [] := by rw [← hpre]; simp
 refine aK (fun i : Nat => mkA [(1, .ref 0 0), (5, vs (jn (pre ++ lL (items.take i)))), (6, vi i)] [(0, (32, opF ⟨6, name, other, names, pk, pz, pd, ps, items, coins, exp, src, hnd, idx, cur, cnt, qk, qkey, qc, qn, qd, data⟩))] 1 (fun _ => .top)) (fun i => i ≤ items.length) (fun i => items.length - i) 0 [] [0] ?_ (Nat.zero_le _) ?_
 ·refine kL ?_
  all_goals first | exact pR rfl rfl | exact gq (by simp [lL])
 ·intro i hi
  replace hi : i ≤ items.length := hi
  rcases Nat.lt_or_ge i items.length with hlt | hge
  ·have hg := sS items i hlt
   have hx := getD_some items i ([], 0) hlt
   have hmem : items.getD i ([], 0) ∈ items := by rw [List.getD_eq_getElem?_getD, List.getElem?_eq_getElem hlt]; exact List.getElem_mem hlt
   have hit := hits _ hmem
   have hnx := Gl items i _ hx
   have ht1 := yQ (items.take i) fun x hx => hwt x (List.mem_of_mem_take hx)
   have ht2 : (items.take i).length ≤ i := by simp; omega
   generalize items.getD i ([], 0) = x at hg hx hmem hit hnx
   obtain ⟨k, n⟩ := x
   simp only at hit hnx
   have hl1 := zZ k
   have hl2 := dS hit.2.2
   have hl3 := xg (pre ++ lL (items.take i))
   rw [yw] at hl3
   have hw1 := dR [jn (pre ++ lL (items.take i)), kw k, ak n] (by simp only [bz, dL]; omega)
   rw [ag7 (by simp [hne]), List.append_assoc, ← hnx] at hw1
   clear hl1 hl2 hl3 ht1 ht2
   have hil2 := aB items
   refine wSA (aI @hg (aI @aB @ai)) (aI (PK k hit.1 hit.2.1) (aI (jX n hit.2.2) hw1)) ?_
   exact bE (i + 1) [] [0] hlt
  ·have : i = items.length := by omega
   subst this
   rw [List.take_length]
   refine wSA @aB trivial ?_
   (refine rT [] ?_; first | rfl | simp only [pgo, simprocAttr] | skip)
   rw [← hpre]; rfl
theorem agW (o : O) (ok : o.Ok) (hk : o.kind = 9) (hv : vop o = 0) : Pg.Good Tryz.prog 14 [.agg (opF o)] (.tup [vs (jn (opW o)), vi 0]) := by
 have h1 := cO o ok.oct (by have := ok.names; omega) (by have := ok.items; omega)
 rw [hv] at h1
 have e : opW o = [[111, 112, 101, 110]] ++ o.names := by simp [opW, hk]
 have htn := abk ok.names ok.nm
 have hnl := ok.names
 rw [e]
 obtain ⟨kind, name, other, names, pk, pz, pd, ps, items, coins, exp, src, hnd, idx, cur, cnt, qk, qkey, qc, qn, qd, data⟩ := o
 simp only at *
 subst hk
 clear hv ok e
 refine gI oD Tryz.func14 Tryz.results14 ?_
 refine wSA (aI @amF @ai) h1 ?_
 generalize hpre : ([[111, 112, 101, 110]] : List (List Nat)) = pre at *
 have hne : pre ≠ [] := by rw [← hpre]; simp
 have hpt : tot pre ≤ 10 := by rw [← hpre]; decide
 refine aK (fun i : Nat => mkA [(1, .ref 0 0), (7, vs (jn (pre ++ names.take i))), (8, vi i)] [(0, (32, opF ⟨9, name, other, names, pk, pz, pd, ps, items, coins, exp, src, hnd, idx, cur, cnt, qk, qkey, qc, qn, qd, data⟩))] 1 (fun _ => .top)) (fun i => i ≤ names.length) (fun i => names.length - i) 0 [] [0] ?_ (Nat.zero_le _) ?_
 ·refine kL ?_
  all_goals first | exact pR rfl rfl | exact gq (by rw [← hpre]; rfl)
 ·intro i hi
  replace hi : i ≤ names.length := hi
  rcases Nat.lt_or_ge i names.length with hlt | hge
  ·have hg := iK names i hlt
   have hx := getD_some names i [] hlt
   have hnx : names.take (i + 1) = names.take i ++ [names.getD i []] := by
    rw [List.take_succ_eq_append_getElem hlt]; congr 1; simp [List.getD, hlt]
   have ht1 := KH names i
   have ht2 := KI names i
   have hl3 := xg (pre ++ names.take i)
   rw [yw] at hl3
   generalize names.getD i [] = x at hg hx hnx ht2
   have hw1 := dR [jn (pre ++ names.take i), x] (by simp only [bz, dL]; omega)
   rw [ag7 (by simp [hne]), List.append_assoc, ← hnx] at hw1
   clear ht1 ht2 hl3
   have hil2 := au names
   refine wSA (aI @hg (aI @au @ai)) hw1 ?_
   exact bE (i + 1) [] [0] hlt
  ·have : i = names.length := by omega
   subst this
   rw [List.take_length]
   refine wSA @au trivial ?_
   (refine rT [] ?_; first | rfl | simp only [pgo, simprocAttr] | skip)
   rw [← hpre]; rfl
def fmtO (o : O) : List Nat := if vop o = 0 then jn (opW o) else []
theorem acR (o : O) (hk : o.kind = 6) : opW o = qU o := by simp [opW, hk]
theorem Tf (o : O) (ok : o.Ok) : Pg.Good Tryz.prog 13 [.agg (opF o)] (.tup [vs (fmtO o), vi (vop o)]) := by
 unfold fmtO
 by_cases hv : vop o = 0
 ·rw [if_pos hv, hv]
  rcases nU (k := o.kind) (by have := (bW hv).1; omega) with h | h | h | h | h | h | h | h | h | h | h | h | h | h | h | h | h
  ·exact acB o ok h hv
  ·exact acC o ok h hv
  ·exact acD o ok h hv
  ·exact acE o ok h hv
  ·exact acF o ok h hv
  ·rw [acR o h]; exact La o ok.oct h hv ok.coins ok.name ok.items ok.wts
  ·exact acG o ok h hv
  ·exact acH o ok h hv
  ·exact acI o ok h hv
  ·exact Wq o ok h hv
  ·exact Ws o ok h hv
  ·exact Wu o ok h hv
  ·exact Wv o ok h hv
  ·exact Wx o ok h hv
  ·exact Wy o ok h hv
  ·exact WA o ok h hv
  ·exact WB o ok h hv
 ·rw [if_neg hv]
  have h1 := dH o ok.oct
  generalize vop o = v at *
  refine gI oD Tryz.func13 Tryz.results13 ?_
  exact wRA @ai h1 ah
theorem MR (o : O) (ok : o.Ok) : Pg.Good Tryz.prog 14 [.agg (opF o)] (.tup [vs (fmtO o), vi (vop o)]) := by
 unfold fmtO
 by_cases hv : vop o = 0
 ·rw [if_pos hv, hv]
  rcases nU (k := o.kind) (by have := (bW hv).1; omega) with h | h | h | h | h | h | h | h | h | h | h | h | h | h | h | h | h
  ·exact agO o ok h hv
  ·exact agP o ok h hv
  ·exact agQ o ok h hv
  ·exact agR o ok h hv
  ·exact agS o ok h hv
  ·exact agV o ok h hv
  ·exact agT o ok h hv
  ·exact agU o ok h hv
  ·exact agW o ok h hv
  ·exact acJ o ok h hv
  ·exact acK o ok h hv
  ·exact acL o ok h hv
  ·exact acM o ok h hv
  ·exact acN o ok h hv
  ·exact acO o ok h hv
  ·exact acP o ok h hv
  ·exact acQ o ok h hv
 ·rw [if_neg hv]
  have h1 := cO o ok.oct (by have := ok.names; omega) (by have := ok.items; omega)
  generalize vop o = v at *
  refine gI oW Tryz.func14 Tryz.results14 ?_
  exact wR @ai h1 ah
theorem amG {l : List (List Nat)} (h1 : lsE l = 0) : l.length ≤ 16 ∧ ∀ x ∈ l, jW x = true := by
 unfold lsE at h1
 split at h1
 ·cases h1
 ·rename_i h2
  exact ⟨by omega, fun x hx => oL (Eg nmE _ h1 x hx)⟩
theorem amH {l : List (List Nat × Int)} (h1 : itE l = 0) : l.length ≤ 64 := by
 unfold itE at h1
 split at h1
 ·cases h1
 ·omega
theorem aku (o : O) (hv : vop o = 0) : o.name.length ≤ 16 ∧ o.other.length ≤ 16 ∧ tot o.names ≤ 1000 ∧ o.items.length ≤ 64 ∧ o.coins.length ≤ 64 ∧ o.data.length ≤ 65536 := by
 obtain ⟨_, hu, hz⟩ := bW hv
 refine ⟨?_, ?_, ?_, ?_, ?_, ?_⟩
 ·by_cases h : ((0 : Nat) : Int) ∈ bJ o.kind
  ·exact Cc (oL (hu 0 (by omega) h))
  ·rw [oJ (hz 0 (by omega) h)]; decide
 ·by_cases h : ((1 : Nat) : Int) ∈ bJ o.kind
  ·exact Cc (oL (hu 1 (by omega) h))
  ·rw [oJ (hz 1 (by omega) h)]; decide
 ·by_cases h : ((2 : Nat) : Int) ∈ bJ o.kind
  ·obtain ⟨h1, h2⟩ := amG (hu 2 (by omega) h)
   have h3 := FX (l := o.names) (n := 16) (fun x hx => Cc (h2 x hx))
   have h4 := Nat.mul_le_mul_right 17 h1
   omega
  ·rw [oJ (hz 2 (by omega) h)]; decide
 ·by_cases h : ((4 : Nat) : Int) ∈ bJ o.kind
  ·exact amH (hu 4 (by omega) h)
  ·rw [oJ (hz 4 (by omega) h)]; decide
 ·by_cases h : ((5 : Nat) : Int) ∈ bJ o.kind
  ·have := Bd (hu 5 (by omega) h); omega
  ·rw [oJ (hz 5 (by omega) h)]; decide
 ·by_cases h : ((13 : Nat) : Int) ∈ bJ o.kind
  ·have := Bd (hu 13 (by omega) h); omega
  ·rw [oJ (hz 13 (by omega) h)]; decide
theorem agX (o : O) (ok : o.Ok) (hv : vop o = 0) : (jn (opW o)).length ≤ 1000000 := by
 refine Nat.le_trans (xg _) ?_
 obtain ⟨h11, h12, h13, h15, h16, h17⟩ := aku o hv
 have h1 := LU o.pk o.pz o.pd o.ps ok.pz ok.pd ok.ps
 have h2 := LV o.qk o.qkey o.qc o.qn o.qd ok.qc ok.qn ok.qd
 have h3 := uT o.coins
 have h4 := uT o.data
 have h5 := dS ok.exp
 have h6 := dS ok.src
 have h7 := dS ok.hnd
 have h8 := dS ok.idx
 have h9 := dS ok.cur
 have h10 := dS ok.cnt
 have h14 := yQ o.items ok.wts
 unfold opW qU
 (repeat' refine abl ?_ ?_) <;> (try simp only [yw, bz, dL, List.length_cons, List.length_nil]) <;> omega
theorem acS (o : O) (ok : o.Ok) (hv : vop o = 0) : oct (jn (opW o)) := aiG fun x hx => (dX o ok hv x hx).1
def lszOk (o : O) : Prop := o.names.length ≤ 20 ∧ o.items.length ≤ 70 ∧ o.name.length ≤ 100 ∧ o.other.length ≤ 100 ∧ o.coins.length ≤ 100 ∧ o.data.length ≤ 1000 ∧ o.qkey.length ≤ 100
instance (o : O) : Decidable (lszOk o) := by unfold lszOk; infer_instance
def acT (l : List (List Nat)) : Bool := l.all fun x => decide (x.length ≤ 100)
def acU (l : List (List Nat × Int)) : Bool := l.all fun x => decide (x.1.length ≤ 100)
def lgt (o : O) : Bool := decide (lszOk o) && (acT o.names && acU o.items)
theorem EI {α : Type} (p : α → Bool) (l : List α) (i : Nat) (x : α) (hx : l[i]? = some x) (hp : p x = false) : l.all p = false := by
 rw [List.all_eq_false]
 exact ⟨x, List.mem_of_getElem? hx, by rw [hp]; decide⟩
theorem EJ {α : Type} (p : α → Bool) (l : List α) (i : Nat) (x : α) (hx : l[i]? = some x) (h : (l.take i).all p = true) (hp : p x = true) : (l.take (i + 1)).all p = true := by
 have hi := (List.getElem?_eq_some_iff.1 hx).1
 rw [List.take_succ_eq_append_getElem hi, List.all_append, h, (List.getElem?_eq_some_iff.1 hx).2]
 simp [hp]
theorem agY (o : O) : Pg.Good Tryz.prog 9 [.agg (opF o)] (vb (lgt o)) := by
 have q1 := au o.names
 have q2 := aB o.items
 have q3 := ax o.coins
 have q4 := ax o.data
 by_cases hs : lszOk o
 ·have e : lgt o = (acT o.names && acU o.items) := by unfold lgt; rw [decide_eq_true hs, Bool.true_and]
  rw [e]
  obtain ⟨s1, s2, s3, s4, s5, s6, s7⟩ := hs
  clear e
  refine gI oW Tryz.func9 Tryz.results9 ?_
  refine wS (aI @q1 (aI @q2 (aI @q3 @q4))) trivial ?_
  refine aK (fun i : Nat => mkA [(1, .ref 0 0), (3, vi i)] [(0, (32, opF o))] 1 (fun _ => .top)) (fun i => i ≤ o.names.length ∧ acT (o.names.take i) = true) (fun i => o.names.length - i) 0 [] [0] ?_ ⟨Nat.zero_le _, rfl⟩ ?_
  ·exact kE
   all_goals exact pR rfl rfl
  ·rintro i ⟨hi, he⟩
   rcases Nat.lt_or_ge i o.names.length with hlt | hge
   ·have hg := iK o.names i hlt
    have hx := getD_some o.names i [] hlt
    have h1 := EI (fun x : List Nat => decide (x.length ≤ 100)) o.names i _ hx
    have h2 := EJ (fun x : List Nat => decide (x.length ≤ 100)) o.names i _ hx he
    generalize o.names.getD i [] = x at *
    by_cases hl : x.length ≤ 100
    ·refine wS (aI @hg @q1) trivial ?_
     exact bE (i + 1) [] [0] ⟨hlt, h2 (decide_eq_true hl)⟩
    ·have e : (acT o.names && acU o.items) = false := by
      have e2 : acT o.names = false := h1 (decide_eq_false hl)
      rw [e2]; rfl
     rw [e]
     exact wR (aI @hg @q1) trivial ah
   ·have : i = o.names.length := by omega
    subst this
    rw [List.take_length] at he
    rw [he, Bool.true_and]
    refine wS @q1 trivial ?_
    refine aK (fun i : Nat => mkA [(1, .ref 0 0), (4, vi i)] [(0, (32, opF o))] 1 (fun _ => .top)) (fun i => i ≤ o.items.length ∧ acU (o.items.take i) = true) (fun i => o.items.length - i) 0 [] [0] ?_ ⟨Nat.zero_le _, rfl⟩ ?_
    ·exact kE
     all_goals exact pR rfl rfl
    ·rintro i ⟨hi, he⟩
     rcases Nat.lt_or_ge i o.items.length with hlt | hge
     ·have hg := sS o.items i hlt
      have hx := getD_some o.items i ([], 0) hlt
      have h1 := EI (fun x : List Nat × Int => decide (x.1.length ≤ 100)) o.items i _ hx
      have h2 := EJ (fun x : List Nat × Int => decide (x.1.length ≤ 100)) o.items i _ hx he
      generalize o.items.getD i ([], 0) = x at *
      obtain ⟨k, w⟩ := x
      simp only at h1 h2
      by_cases hl : k.length ≤ 100
      ·refine wS (aI @hg @q2) trivial ?_
       exact bE (i + 1) [] [0] ⟨hlt, h2 (decide_eq_true hl)⟩
      ·have e : acU o.items = false := h1 (decide_eq_false hl)
       rw [e]
       exact wR (aI @hg @q2) trivial ah
     ·have : i = o.items.length := by omega
      subst this
      rw [List.take_length] at he
      rw [he]
      exact wR @q2 trivial ah
 ·have e : lgt o = false := by unfold lgt; rw [decide_eq_false hs, Bool.false_and]
  rw [e]
  clear e
  unfold lszOk at hs
  refine gI oW Tryz.func9 Tryz.results9 ?_
  (repeat' first | refine wP (aI @q1 (aI @q2 (aI @q3 @q4))) trivial ?_ | refine tS ?_ ?_ <;> intro hc | fail)
  all_goals first | (exfalso; omega) | (refine rT [] ?_; first | rfl | simp only [pgo, simprocAttr] | skip)
theorem akv {o : O} (h : lgt o = true) : lszOk o ∧ (∀ x ∈ o.names, x.length ≤ 100) := by
 unfold lgt at h
 simp only [Bool.and_eq_true, decide_eq_true_eq] at h
 exact ⟨h.1, fun x hx => by have := List.all_eq_true.1 h.2.1 x hx; exact of_decide_eq_true this⟩
structure O.In (o : O) : Prop where
 oct : o.Oct
 kind : Wt o.kind
 pk : Wt o.pk
 pz : Wt o.pz
 pd : Wt o.pd
 ps : 0 ≤ o.ps ∧ o.ps < 18446744073709551616
 exp : Wt o.exp
 src : Wt o.src
 hnd : Wt o.hnd
 idx : Wt o.idx
 cur : Wt o.cur
 cnt : Wt o.cnt
 qk : Wt o.qk
 qc : Wt o.qc
 qn : Wt o.qn
 qd : Wt o.qd
 wts : ∀ x ∈ o.items, Wt x.2
theorem akw {o : O} (h : o.In) (hl : lgt o = true) : o.Ok := by
 obtain ⟨⟨s1, s2, s3, s4, s5, s6, s7⟩, hn⟩ := akv hl
 exact ⟨h.oct, h.pz, h.pd, h.ps, h.exp, h.src, h.hnd, h.idx, h.cur, h.cnt, h.qc, h.qn, h.qd, h.wts, by omega, by omega, by omega, fun x hx => by have := hn x hx; omega, by omega, by omega, by omega⟩
def noD (o : O) : O := { o with data := [] }
theorem akx {o : O} (ok : o.Ok) : (noD o).Ok := by
 obtain ⟨⟨o1, o2, o3, o4, o5, o6, o7⟩, w1, w2, w3, w4, w5, w6, w7, w8, w9, w10, w11, w12, w13, n1, n2, n3, n4, n5, n6, n7⟩ := ok
 exact ⟨⟨o1, o2, o3, o4, o5, o6, dV⟩, w1, w2, w3, w4, w5, w6, w7, w8, w9, w10, w11, w12, w13, n1, n2, n3, n4, n5, n6, Nat.zero_le _⟩
theorem aky {o : O} (hv : vop o = 0) : fmtO o = jn (opW o) := if_pos hv
structure Sp (x : O) (C : List V) : Prop where
 f1 : Pg.Good Tryz.prog 13 [.agg C] (.tup [vs (fmtO x), vi (vop x)])
 f2 : Pg.Good Tryz.prog 14 [.agg C] (.tup [vs (fmtO x), vi (vop x)])
 w1 : vop x = 0 → Pg.Good Tryz.prog 16 [vs (fmtO x)] (.sl (.own 0 9) 1 (sv (opW x)))
 p1 : vop x = 0 → Pg.Good Tryz.prog 15 [fzs (opW x)] (.tup [.agg (opF x), vi 0])
 s1 : Pg.Good Tryz.prog 17 [.agg C, .agg (opF x)] (vb true)
theorem aho (x : O) (ok : x.Ok) {a b c d : V} (ha : orN a (fzs x.names)) (hb : orN b (fzt x.items)) (hc : orN c (fzb x.coins)) (hd : orN d (fzb x.data)) : Sp x (opC x a b c d) := by
 have hw := fF x ha hb hc hd
 refine ⟨(Tf x ok).wk ⟨hw, trivial⟩, (MR x ok).wk ⟨hw, trivial⟩, fun hv => ?_, fun hv => VT x ok hv, (afD x (by have := ok.names; omega) (by have := ok.items; omega)).wk ⟨hw, aA _, trivial⟩⟩
 have h := Py (jn (opW x)) (acS x ok hv) (agX x ok hv)
 rw [agn x ok hv] at h
 rw [aky hv]
 exact h
theorem aos (l : List Int) (hl : l.length ≤ 9223372036854775807) (n : Int) (o : O) (hin : o.In) : Pg.Good Tryz.prog 3 [fzi l, vi n, .agg (opF o)] (vb true) := by
 have hlight := agY o
 have hkn := aft
 cases hlg : lgt o
 ·rw [hlg] at hlight
  clear hlg hin
  refine gI oW Tryz.func3 Tryz.results3 ?_
  exact wR trivial (aI hlight hkn) ah
 ·rw [hlg] at hlight
  have ok := akw hin hlg
  have c1 := Tf o ok
  have c2 := MR o ok
  generalize fmtO o = co at *
  generalize vop o = cv at *
  have hop := aoo l 0 hl (by omega)
  obtain ⟨bok, bn, bi⟩ := akl l 0
  have hsp := agK (jl l 0) n (by omega) (by omega)
  have sok := V8 (jl l 0) bok (by omega) (by omega) n
  have h31 := lW n
  generalize aX (jl l 0) n = x at *
  generalize jl l 0 = b at *
  clear hlg hin ok bok bn bi
  by_cases h16 : n % 32 = 16
  ·obtain ⟨f1, f2, w1, p1, s1⟩ := aho (noD x) (akx sok) (a := fzs x.names) (b := fzt x.items) (c := fzb x.coins) (d := nls) (cu _) (cu _) (cu _) (aj _)
   clear sok
   rw [h16] at h31
   by_cases hv : vop (noD x) = 0
   ·replace w1 := w1 hv
    replace p1 := p1 hv
    rw [hv] at f1 f2
    generalize fmtO (noD x) = s at *
    generalize opW (noD x) = ws at *
    refine gI oW Tryz.func3 Tryz.results3 ?_
    (repeat' first | refine wP (aI @h31 (aI @ai @id_eq.{1})) (aI hlight (aI hkn (aI hop (aI hsp (aI f1 (aI f2 (aI c1 (aI c2 (aI w1 s1))))))))) ?_ | refine cG [2] p1 ?_ | refine tS ?_ ?_ <;> intro hc | fail)
    exact rE []
   ·generalize fmtO (noD x) = s at *
    generalize vop (noD x) = v at *
    clear w1 p1
    refine gI oW Tryz.func3 Tryz.results3 ?_
    exact wR (aI @h31 (aI @ai @id_eq.{1})) (aI hlight (aI hkn (aI hop (aI hsp (aI f1 (aI f2 (aI c1 c2))))))) ah
  ·obtain ⟨f1, f2, w1, p1, s1⟩ := aho x sok (a := fzs x.names) (b := fzt x.items) (c := fzb x.coins) (d := fzb x.data) (cu _) (cu _) (cu _) (cu _)
   clear sok
   by_cases hv : vop x = 0
   ·replace w1 := w1 hv
    replace p1 := p1 hv
    rw [hv] at f1 f2
    generalize fmtO x = s at *
    generalize opW x = ws at *
    refine gI oW Tryz.func3 Tryz.results3 ?_
    (repeat' first | refine wP (aI @h31 (aI @ai @id_eq.{1})) (aI hlight (aI hkn (aI hop (aI hsp (aI f1 (aI f2 (aI c1 (aI c2 (aI w1 s1))))))))) ?_ | refine cG [2] p1 ?_ | refine tS ?_ ?_ <;> intro hc | fail)
    exact rE []
   ·generalize fmtO x = s at *
    generalize vop x = v at *
    clear w1 p1
    refine gI oW Tryz.func3 Tryz.results3 ?_
    exact wR (aI @h31 (aI @ai @id_eq.{1})) (aI hlight (aI hkn (aI hop (aI hsp (aI f1 (aI f2 (aI c1 c2))))))) ah
end Go.Proofs.YtjiolbcdfgclaaaGreatDoor
section
namespace Go.Pg
open Go Go.ChangeShapes Go.WideShapes
theorem ao4 {w : World} {g o : Nat} {vs : List Value} (hp : 0 < vs.length) (h : ∀ i, i < vs.length → w.cell? ⟨g, o + i, none⟩ = vs[i]?) : Pg.Row w g o vs := by
 have h0 := h 0 hp
 rw [List.getElem?_eq_getElem hp] at h0
 unfold World.cell? at h0
 split at h0
 ·rename_i arr e fr hg
  refine ⟨arr, e, fr, hg, ?_⟩
  apply List.ext_getElem?
  intro i
  rw [List.getElem?_take]
  split
  ·rename_i hi
   have hi' := h i hi
   unfold World.cell? at hi'
   simp only [hg] at hi'
   rw [List.getElem?_drop, Array.getElem?_toList]
   simpa using hi'
  ·rename_i hi
   rw [List.getElem?_eq_none (by omega)]
 ·cases h0
section
variable {H : Type} {enc : TypeId × Value → H} {P : Program} {w : World} {base : Nat} {spare : Nat → Bool} {held : Bool}
structure Elem (enc : TypeId × Value → H) (P : Program) (w : World) (base : Nat) (spare : Nat → Bool) (held : Bool) (e : TypeId) (k : Nat) {α : Type} (Ok : α → Prop) (el : α → V) (elc : α → List Value) : Prop where
 pos : 0 < k
 cells : P.cellsOf e = k
 len : ∀ a, (elc a).length = k
 get : ∀ n cs x, DataW.trod enc P w base spare held n e cs = some x → ∃ a, Ok a ∧ cs = elc a
 rep : ∀ a L w', ∃ u : Value, u.cells.toList = elc a ∧ u.cells.size = k ∧ ((el a).free = true ∧ u.cells.toList.all Value.oneCell' = true) ∧ Rep L w' (el a) u
theorem Elem.repE {e : TypeId} {k : Nat} {α : Type} {Ok : α → Prop} {el : α → V} {elc : α → List Value} (E : Elem enc P w base spare held e k Ok el elc) (L : Lay) (w' : World) : ∀ l : List α, RepE L w' k (l.map el) (l.map elc).flatten := by
 intro l
 induction l with
 | nil => rfl
 | cons a l ih =>
  obtain ⟨u, h1, h2, h3, h4⟩ := E.rep a L w'
  exact ⟨u, (l.map elc).flatten, by rw [h1]; rfl, h2, h3, h4, ih⟩
theorem ao9 {t e : TypeId} {k : Nat} {α : Type} {Ok : α → Prop} {el : α → V} {elc : α → List Value} (E : Elem enc P w base spare held e k Ok el elc) (ht : P.underlying t = some (.slice e)) {fuel : Nat} {cs : List Value} {x : DataW H × List MemPlace} (h : DataW.trod enc P w base spare held fuel t cs = some x) :
  ∃ l : List α, (∀ a ∈ l, Ok a) ∧ ∃ u, cs = [u] ∧ Rep ⟨fun g => g < w.heap.size, fun _ => none, fun _ => none⟩ w (.sl .fz k (l.map el)) u := by
 rcases DataW.trod_slice ht h with ⟨rfl, _⟩ | ⟨a, len, cap, elems, rest, n, _, rfl, rfl, hb, hl, hm, hlen, hel, _, _⟩
 ·exact ⟨[], (fun a h => by cases h), _, rfl, none, 0, [], rfl, rfl, Nat.le_refl _, .inl rfl⟩
 have each : ∀ i, i < len → ∃ y : α, Ok y ∧ w.cells? base (a.add (i * k)) k = some (elc y) := by
  intro i hi
  have h1 := hel i hi
  rw [E.cells, List.getElem?_eq_getElem (by omega), Option.bind_eq_some_iff] at h1
  obtain ⟨cs', h2, h3⟩ := h1
  obtain ⟨y, hy, rfl⟩ := E.get _ _ _ h3
  exact ⟨y, hy, h2⟩
 rcases Nat.eq_zero_or_pos len with hz | hz
 ·subst hz
  exact ⟨[], (fun a h => by cases h), _, rfl, some a, cap, [], rfl, rfl, Nat.zero_le _, .inl rfl⟩
 obtain ⟨g, o, spot⟩ := a
 have hspot : spot = none := by
  obtain ⟨y, hy, hc⟩ := each 0 hz
  obtain ⟨hcb, hcl, hcc⟩ := World.cells?_some hc
  have h5 := hcc 0 E.pos
  rw [List.getElem?_eq_getElem (by rw [hcl]; exact E.pos)] at h5
  have := World.cell?_spot h5
  simpa [Addr.add] using this
 subst hspot
 have main : ∀ m, m ≤ len → ∃ l : List α, l.length = m ∧ (∀ y ∈ l, Ok y) ∧ ((l.map elc).flatten).length = m * k ∧ ∀ j, j < m * k → w.cell? ((⟨g, o, none⟩ : Addr).add j) = ((l.map elc).flatten)[j]? := by
  intro m
  induction m with
  | zero => intro _; exact ⟨[], rfl, (fun y h => by cases h), by simp, fun j hj => by omega⟩
  | succ m ih =>
   intro hm'
   obtain ⟨l, h1, h2, h3, h4⟩ := ih (by omega)
   obtain ⟨y, hy, hc⟩ := each m (by omega)
   obtain ⟨hcb, hcl, hcc⟩ := World.cells?_some hc
   have hyl := E.len y
   refine ⟨l ++ [y], by simp [h1], ?_, ?_, ?_⟩
   ·intro z hz
    rcases List.mem_append.1 hz with hz | hz
    ·exact h2 z hz
    ·rw [List.mem_singleton.1 hz]; exact hy
   ·rw [List.map_append, List.flatten_append, List.length_append, h3, Nat.add_mul]
    simp [hyl]
   ·intro j hj
    rw [Nat.add_mul, Nat.one_mul] at hj
    rw [List.map_append, List.flatten_append]
    rcases Nat.lt_or_ge j (m * k) with hlt | hge
    ·rw [List.getElem?_append_left (by omega)]; exact h4 j hlt
    ·rw [List.getElem?_append_right (by omega), h3]
     have h5 := hcc (j - m * k) (by omega)
     have e1 : ((⟨g, o, none⟩ : Addr).add (m * k)).add (j - m * k) = (⟨g, o, none⟩ : Addr).add j := by
      rw [Pg.kU, Pg.kU, Pg.kU, Nat.add_assoc, Nat.add_sub_cancel' hge]
     rw [e1] at h5
     simpa using h5
 obtain ⟨l, h1, h2, h3, h4⟩ := main len (Nat.le_refl _)
 refine ⟨l, h2, _, rfl, some ⟨g, o, none⟩, cap, (l.map elc).flatten, by rw [List.length_map, h1], E.repE _ _ l, ?_⟩
 rw [List.length_map, h1]
 refine ⟨hl, ?_⟩
 rcases Nat.eq_zero_or_pos len with h0 | h0
 ·exact .inl h0
 ·right
  have hpos : 0 < len * k := Nat.mul_pos h0 E.pos
  have hrow : Pg.Row w g o (l.map elc).flatten := by
   refine ao4 (by omega) (fun i hi => ?_)
   have := h4 i (by omega)
   rw [Pg.kU] at this
   exact this
  refine ⟨g, o, rfl, ?_, hrow⟩
  obtain ⟨arr, e', fr, hg, _⟩ := hrow
  exact (Array.getElem?_eq_some_iff.1 hg).1
end
end Go.Pg
end
section
namespace Go.Proofs.YtjiolbcdfgclaaaGreatDoor
open Go Go.ChangeShapes Go.WideShapes Go.ChangeAt Go.RowKit
theorem own : ownKnob Tryz.prog.godebug = none := by kernel_rfl
theorem aoO : laidOutB Tryz.prog = true := by kernel_rfl
theorem apa : Tryz.prog.globalNamed "internal/strconv.uint64pow10" = some 0 := by kernel_rfl
theorem apb : (Tryz.prog.globals[0]?).map (·.type) = some 256 := by kernel_rfl
theorem apc : Tryz.prog.cellsOf 256 = 20 := by kernel_rfl
theorem apd : Tryz.prog.cellsOf 24 = 1 := by kernel_rfl
theorem ape : (Rows.laid_internal_strconv_uint64pow10 : DataW Unit) = Lib.tabData .u64 Lib.pow10Tab := by kernel_rfl
theorem gBr : Tryz.prog.globalNamed "math/bits.deBruijn64tab" = some 3 := by kernel_rfl
theorem tBr : (Tryz.prog.globals[3]?).map (·.type) = some 283 := by kernel_rfl
theorem cBr : Tryz.prog.cellsOf 283 = 64 := by kernel_rfl
theorem cBe : Tryz.prog.cellsOf 5 = 1 := by kernel_rfl
theorem brD : (Rows.laid_math_bits_deBruijn64tab : DataW Unit) = Lib.tabData .u8 bruijn := by kernel_rfl
theorem aoL {W : World} (h : W.ShapedOpen Tryz.prog) : ∃ m, W.cell? ⟨1, 0, none⟩ = some (.int .i64 m) :=
 cell_of_shapedOpen_int (zero := #[.int .i64 0]) (t := 3) h (of_decide_eq_true (by kernel_rfl)) (by kernel_rfl) rfl (by kernel_rfl) (by kernel_rfl) Tryz.underlying3
theorem aoE {W : World} {n1 : String} {d1 : DataW Unit} {rest : List (String × DataW Unit)} (h : laidMet Tryz.prog ((n1, d1) :: ("math/bits.deBruijn64tab", Rows.laid_math_bits_deBruijn64tab) :: ("internal/strconv.uint64pow10", Rows.laid_internal_strconv_uint64pow10) :: rest) W) (hsh : W.ShapedOpen Tryz.prog) : Pg.Tb.T Tryz.prog W := by
 have h1 : laidMet Tryz.prog (("math/bits.deBruijn64tab", Rows.laid_math_bits_deBruijn64tab) :: ("internal/strconv.uint64pow10", Rows.laid_internal_strconv_uint64pow10) :: rest) W := h.tail
 have h2 : laidMet Tryz.prog (("internal/strconv.uint64pow10", Rows.laid_internal_strconv_uint64pow10) :: rest) W := h.tail.tail
 rw [ape] at h2
 rw [brD] at h1
 exact ⟨Lib.tabIs_of_head apa apb Tryz.underlying256 Tryz.underlying24 apd apc h2, aoL hsh, Lib.tabIs_of_head gBr tBr Tryz.underlying283 Tryz.underlying5 cBe cBr h1⟩
theorem aox {n : Int} (h : (Lit.int .i64 n).wf = true) : Wt n := by
 simp only [Lit.wf, Bool.and_eq_true, decide_eq_true_eq] at h
 have e1 : IntKind.i64.min = -9223372036854775808 := rfl
 have e2 : IntKind.i64.max = 9223372036854775807 := rfl
 rw [e1, e2] at h
 exact h
theorem ao5 {n : Int} (h : (Lit.int .u8 n).wf = true) : 0 ≤ n ∧ n ≤ 255 := by
 simp only [Lit.wf, Bool.and_eq_true, decide_eq_true_eq] at h
 have e1 : IntKind.u8.min = 0 := rfl
 have e2 : IntKind.u8.max = 255 := rfl
 rw [e1, e2] at h
 exact h
theorem ao6 {W W' : World} (hk : Pg.Kp (fun _ => False) W.heap.size W W') : Below W.heap.size W W' := ⟨hk.os, hk.tape, hk.output, hk.size, fun k h => hk.block k h (fun h => h)⟩
section
variable {H : Type} {enc : TypeId × Value → H}
theorem aoA {a : Assume} {C : Checked} {os : Os} {f : FuncId} {fn : Func} {s : ChangeSpec} {conds : List PathCond} {apart fresh handsOn again : Bool} {X : World → Array Value → Prop}
  (hX : ∀ (w w' : World) (args : Array Value), w.heap = w'.heap → X w args → X w' args)
  (own : ownKnob C.prog.godebug = none) (started : os.Started) (noInit : C.prog.inits.idxOf? f = none) (hfn : C.prog.funcs[f]? = some fn)
  (witness : ∃ (w : World) (tape : Tape) (i : Input), w.os = os ∧ (w.forCall tape i).Shaped C.prog ∧ i.vars = [] ∧ Input.okWide C.prog (w.forCall tape i) .any w.heap.size f i ∧
   ((s.pre enc C.prog fn conds apart (w.forCall tape i).memory i.args ∧ X (w.forCall tape i).memory i.args) ∧ sizedMet enc C.prog fn (OpenSpec.ofChange s) apart (w.forCall tape i).memory i.args) ∧ a.holds C.prog (lone (Frame.enter C.prog f i.args .normal) [] (w.forCall tape i)))
  (contract : ∀ (W : World) (base : Nat) (args : Array Value) (ds gs : List (DataW H)) (before : List MemPlace),
   (∀ (j : Nat) t v, fn.params[j]? = some t → args[j]? = some v → Value.okWide C.prog W .any base t v) →
   DataW.Whole enc C.prog fn.params.toList s.vars apart W args.toList ds gs before →
   X W args → W.ShapedOpen C.prog →
   Calls C.prog f args W fun e W' => ∃ v, e = .returned v ∧ s.post enc C.prog fn apart fresh handsOn again W args v W') :
  ReturnsInHanded a C os f .any (fun w args => (s.pre enc C.prog fn conds apart w args ∧ X w args) ∧ sizedMet enc C.prog fn (OpenSpec.ofChange s) apart w args) (s.post enc C.prog fn apart fresh handsOn again) := by
 refine returnsInHanded_of_calls own started noInit witness ?_
 intro w tape i _ hsh _ hok hpre _
 obtain ⟨_, _, _, fn', hfn', _, _, _, _, hval⟩ := hok
 have e : fn' = fn := Option.some.inj (hfn'.symm.trans hfn)
 subst e
 obtain ⟨⟨⟨ds, gs, before, hw, _⟩, hx⟩, _⟩ := hpre
 have hw' := DataW.Whole.of_heap (w' := w.forCall tape i) (by rfl) hw
 refine (contract (w.forCall tape i) w.heap.size i.args ds gs before hval hw' (hX _ _ _ (by rfl) hx) hsh).mono fun e W' ⟨v, he, hp⟩ => ?_
 subst he
 exact ChangeSpec.post_blind hp
end
end Go.Proofs.YtjiolbcdfgclaaaGreatDoor
end
section
namespace Go.Proofs.YtjiolbcdfgclaaaGreatDoor
open Go Go.ChangeShapes Go.WideShapes Go.ChangeAt Go.RowKit
section
variable {H : Type} {enc : TypeId × Value → H} {w : World} {base : Nat} {spare : Nat → Bool} {held : Bool}
theorem ao1 : Pg.Elem enc Tryz.prog w base spare held 9 1 Pg.oct (fun l => Pg.V.c (.string (Pg.sB l))) (fun l => [Value.string (Pg.sB l)]) where
 pos := by decide
 cells := by kernel_rfl
 len := fun _ => rfl
 get := fun n cs x h => by
  obtain ⟨s, rfl, _, _⟩ := DataW.trod_string Tryz.underlying9 h
  obtain ⟨l, h1, h2⟩ := Pg.apk s
  exact ⟨l, h1, by rw [h2]⟩
 rep := fun l L w' => ⟨.string (Pg.sB l), by simp [Value.cells], rfl, ⟨rfl, rfl⟩, rfl⟩
theorem ao2 : Pg.Elem enc Tryz.prog w base spare held 3 1 Wt (fun n => Pg.V.c (.int .i64 n)) (fun n => [Value.int .i64 n]) where
 pos := by decide
 cells := by kernel_rfl
 len := fun _ => rfl
 get := fun n cs x h => by
  obtain ⟨m, rfl, _, hw⟩ := DataW.trod_int Tryz.underlying3 h
  exact ⟨m, aox hw, rfl⟩
 rep := fun n L w' => ⟨.int .i64 n, by simp [Value.cells], rfl, ⟨rfl, rfl⟩, rfl⟩
theorem aoY : Pg.Elem enc Tryz.prog w base spare held 5 1 (fun n : Nat => n < 256) (fun n => Pg.V.c (.int .u8 (n : Int))) (fun n => [Value.int .u8 (n : Int)]) where
 pos := by decide
 cells := by kernel_rfl
 len := fun _ => rfl
 get := fun n cs x h => by
  obtain ⟨m, rfl, _, hw⟩ := DataW.trod_int Tryz.underlying5 h
  have := ao5 hw
  exact ⟨m.toNat, by omega, by rw [Int.toNat_of_nonneg this.1]⟩
 rep := fun n L w' => ⟨.int .u8 (n : Int), by simp [Value.cells], rfl, ⟨rfl, rfl⟩, rfl⟩
theorem ao7 {cs : List Value} {a b : Value} (hl : cs.length = 2) (h0 : (cs.drop 0).take 1 = [a]) (h1 : (cs.drop 1).take 1 = [b]) : cs = [a, b] := by
 match cs, hl with
 | [x, y], _ =>
  simp at h0 h1
  rw [h0, h1]
theorem cit : Tryz.prog.cellsOf 64 = 2 := by kernel_rfl
theorem ci : Tryz.prog.cellsOf 3 = 1 := by kernel_rfl
theorem apf : Tryz.prog.cellsOf 24 = 1 := by kernel_rfl
theorem cst : Tryz.prog.cellsOf 9 = 1 := by kernel_rfl
theorem cSs : Tryz.prog.cellsOf 23 = 1 := by kernel_rfl
theorem cIt : Tryz.prog.cellsOf 27 = 1 := by kernel_rfl
theorem cBs : Tryz.prog.cellsOf 28 = 1 := by kernel_rfl
theorem cPm : Tryz.prog.cellsOf 26 = 4 := by kernel_rfl
theorem cQu : Tryz.prog.cellsOf 30 = 5 := by kernel_rfl
theorem cOp : Tryz.prog.cellsOf 32 = 22 := by kernel_rfl
theorem ao3 {n : Int} (h : (Lit.int .u64 n).wf = true) : 0 ≤ n ∧ n < 18446744073709551616 := by
 simp only [Lit.wf, Bool.and_eq_true, decide_eq_true_eq] at h
 have e1 : IntKind.u64.min = 0 := rfl
 have e2 : IntKind.u64.max = 18446744073709551615 := rfl
 rw [e1, e2] at h
 omega
theorem ao8 : Pg.Elem enc Tryz.prog w base spare held 64 2 (fun x : List Nat × Int => Pg.oct x.1 ∧ Wt x.2) (fun x => Pg.V.agg [.c (.string (Pg.sB x.1)), .c (.int .i64 x.2)]) (fun x => [Value.string (Pg.sB x.1), Value.int .i64 x.2]) where
 pos := by decide
 cells := cit
 len := fun _ => rfl
 get := fun n cs x h => by
  obtain ⟨xs, m, _, _, hl, hxl, hf⟩ := DataW.trod_struct Tryz.underlying64 h
  have f0 : DataW.trod enc Tryz.prog w base spare held m 9 ((cs.drop 0).take (Tryz.prog.cellsOf 9)) = xs[0]? := hf 0 _ rfl
  have f1 : DataW.trod enc Tryz.prog w base spare held m 3 ((cs.drop 1).take (Tryz.prog.cellsOf 3)) = xs[1]? := hf 1 _ rfl
  rw [cst] at f0
  rw [ci] at f1
  rw [cit] at hl
  have hx : xs.length = 2 := hxl
  rw [List.getElem?_eq_getElem (by omega)] at f0 f1
  obtain ⟨s, e0, _, _⟩ := DataW.trod_string Tryz.underlying9 f0
  obtain ⟨a, e1, _, w1⟩ := DataW.trod_int Tryz.underlying3 f1
  obtain ⟨l, h1, h2⟩ := Pg.apk s
  exact ⟨(l, a), ⟨h1, aox w1⟩, by rw [ao7 hl e0 e1, h2]⟩
 rep := fun x L w' => ⟨.agg #[.string (Pg.sB x.1), .int .i64 x.2], by simp [Value.cells], rfl, ⟨rfl, rfl⟩, ⟨_, rfl, _, _, rfl, rfl, _, _, rfl, rfl, rfl⟩⟩
abbrev LW (w : World) : Pg.Lay := ⟨fun g => g < w.heap.size, fun _ => none, fun _ => none⟩
theorem aoM {n : Nat} {cs : List Value} {x : DataW H × List MemPlace} (h : DataW.trod enc Tryz.prog w base spare held n 26 cs = some x) :
  ∃ a b c d : Int, Wt a ∧ Wt b ∧ Wt c ∧ (0 ≤ d ∧ d < 18446744073709551616) ∧ cs = [.int .i64 a, .int .i64 b, .int .i64 c, .int .u64 d] := by
 obtain ⟨xs, m, _, _, hl, hxl, hf⟩ := DataW.trod_struct Tryz.underlying26 h
 have hx : xs.length = 4 := hxl
 have f0 : DataW.trod enc Tryz.prog w base spare held m 3 ((cs.drop 0).take (Tryz.prog.cellsOf 3)) = xs[0]? := hf 0 _ rfl
 have f1 : DataW.trod enc Tryz.prog w base spare held m 3 ((cs.drop 1).take (Tryz.prog.cellsOf 3)) = xs[1]? := hf 1 _ rfl
 have f2 : DataW.trod enc Tryz.prog w base spare held m 3 ((cs.drop 2).take (Tryz.prog.cellsOf 3)) = xs[2]? := hf 2 _ rfl
 have f3 : DataW.trod enc Tryz.prog w base spare held m 24 ((cs.drop 3).take (Tryz.prog.cellsOf 24)) = xs[3]? := hf 3 _ rfl
 rw [List.getElem?_eq_getElem (by omega)] at f0 f1 f2 f3
 rw [ci] at f0 f1 f2
 rw [apf] at f3
 obtain ⟨a, e0, _, w0⟩ := DataW.trod_int Tryz.underlying3 f0
 obtain ⟨b, e1, _, w1⟩ := DataW.trod_int Tryz.underlying3 f1
 obtain ⟨c, e2, _, w2⟩ := DataW.trod_int Tryz.underlying3 f2
 obtain ⟨d, e3, _, w3⟩ := DataW.trod_int Tryz.underlying24 f3
 rw [cPm] at hl
 refine ⟨a, b, c, d, aox w0, aox w1, aox w2, ao3 w3, ?_⟩
 match cs, hl with
 | [y0, y1, y2, y3], _ =>
  simp at e0 e1 e2 e3
  rw [e0, e1, e2, e3]
theorem aoN {n : Nat} {cs : List Value} {x : DataW H × List MemPlace} (h : DataW.trod enc Tryz.prog w base spare held n 30 cs = some x) :
  ∃ (a : Int) (k : List Nat) (b c d : Int), Wt a ∧ Pg.oct k ∧ Wt b ∧ Wt c ∧ Wt d ∧ cs = [.int .i64 a, .string (Pg.sB k), .int .i64 b, .int .i64 c, .int .i64 d] := by
 obtain ⟨xs, m, _, _, hl, hxl, hf⟩ := DataW.trod_struct Tryz.underlying30 h
 have hx : xs.length = 5 := hxl
 have f0 : DataW.trod enc Tryz.prog w base spare held m 3 ((cs.drop 0).take (Tryz.prog.cellsOf 3)) = xs[0]? := hf 0 _ rfl
 have f1 : DataW.trod enc Tryz.prog w base spare held m 9 ((cs.drop 1).take (Tryz.prog.cellsOf 9)) = xs[1]? := hf 1 _ rfl
 have f2 : DataW.trod enc Tryz.prog w base spare held m 3 ((cs.drop 2).take (Tryz.prog.cellsOf 3)) = xs[2]? := hf 2 _ rfl
 have f3 : DataW.trod enc Tryz.prog w base spare held m 3 ((cs.drop 3).take (Tryz.prog.cellsOf 3)) = xs[3]? := hf 3 _ rfl
 have f4 : DataW.trod enc Tryz.prog w base spare held m 3 ((cs.drop 4).take (Tryz.prog.cellsOf 3)) = xs[4]? := hf 4 _ rfl
 rw [List.getElem?_eq_getElem (by omega)] at f0 f1 f2 f3 f4
 rw [ci] at f0 f2 f3 f4
 rw [cst] at f1
 obtain ⟨a, e0, _, w0⟩ := DataW.trod_int Tryz.underlying3 f0
 obtain ⟨s, e1, _, _⟩ := DataW.trod_string Tryz.underlying9 f1
 obtain ⟨k, hk, rfl⟩ := Pg.apk s
 obtain ⟨b, e2, _, w2⟩ := DataW.trod_int Tryz.underlying3 f2
 obtain ⟨c, e3, _, w3⟩ := DataW.trod_int Tryz.underlying3 f3
 obtain ⟨d, e4, _, w4⟩ := DataW.trod_int Tryz.underlying3 f4
 rw [cQu] at hl
 refine ⟨a, k, b, c, d, aox w0, hk, aox w2, aox w3, aox w4, ?_⟩
 match cs, hl with
 | [y0, y1, y2, y3, y4], _ =>
  simp at e0 e1 e2 e3 e4
  rw [e0, e1, e2, e3, e4]
theorem open_op {n : Nat} {cs : List Value} {x : DataW H × List MemPlace} (h : DataW.trod enc Tryz.prog w base spare held n 32 cs = some x) : ∃ o : O, o.In ∧ Pg.Reps (LW w) w (opF o) cs := by
 obtain ⟨xs, m, _, _, hl, hxl, hf⟩ := DataW.trod_struct Tryz.underlying32 h
 have hx : xs.length = 15 := hxl
 have f0 : DataW.trod enc Tryz.prog w base spare held m 3 ((cs.drop 0).take (Tryz.prog.cellsOf 3)) = xs[0]? := hf 0 _ rfl
 have f1 : DataW.trod enc Tryz.prog w base spare held m 9 ((cs.drop 1).take (Tryz.prog.cellsOf 9)) = xs[1]? := hf 1 _ rfl
 have f2 : DataW.trod enc Tryz.prog w base spare held m 9 ((cs.drop 2).take (Tryz.prog.cellsOf 9)) = xs[2]? := hf 2 _ rfl
 have f3 : DataW.trod enc Tryz.prog w base spare held m 23 ((cs.drop 3).take (Tryz.prog.cellsOf 23)) = xs[3]? := hf 3 _ rfl
 have f4 : DataW.trod enc Tryz.prog w base spare held m 26 ((cs.drop 4).take (Tryz.prog.cellsOf 26)) = xs[4]? := hf 4 _ rfl
 have f5 : DataW.trod enc Tryz.prog w base spare held m 27 ((cs.drop 8).take (Tryz.prog.cellsOf 27)) = xs[5]? := hf 5 _ rfl
 have f6 : DataW.trod enc Tryz.prog w base spare held m 28 ((cs.drop 9).take (Tryz.prog.cellsOf 28)) = xs[6]? := hf 6 _ rfl
 have f7 : DataW.trod enc Tryz.prog w base spare held m 3 ((cs.drop 10).take (Tryz.prog.cellsOf 3)) = xs[7]? := hf 7 _ rfl
 have f8 : DataW.trod enc Tryz.prog w base spare held m 3 ((cs.drop 11).take (Tryz.prog.cellsOf 3)) = xs[8]? := hf 8 _ rfl
 have f9 : DataW.trod enc Tryz.prog w base spare held m 3 ((cs.drop 12).take (Tryz.prog.cellsOf 3)) = xs[9]? := hf 9 _ rfl
 have f10 : DataW.trod enc Tryz.prog w base spare held m 3 ((cs.drop 13).take (Tryz.prog.cellsOf 3)) = xs[10]? := hf 10 _ rfl
 have f11 : DataW.trod enc Tryz.prog w base spare held m 3 ((cs.drop 14).take (Tryz.prog.cellsOf 3)) = xs[11]? := hf 11 _ rfl
 have f12 : DataW.trod enc Tryz.prog w base spare held m 3 ((cs.drop 15).take (Tryz.prog.cellsOf 3)) = xs[12]? := hf 12 _ rfl
 have f13 : DataW.trod enc Tryz.prog w base spare held m 30 ((cs.drop 16).take (Tryz.prog.cellsOf 30)) = xs[13]? := hf 13 _ rfl
 have f14 : DataW.trod enc Tryz.prog w base spare held m 28 ((cs.drop 21).take (Tryz.prog.cellsOf 28)) = xs[14]? := hf 14 _ rfl
 rw [List.getElem?_eq_getElem (by omega)] at f0 f1 f2 f3 f4 f5 f6 f7 f8 f9 f10 f11 f12 f13 f14
 rw [ci] at f0 f7 f8 f9 f10 f11 f12
 rw [cst] at f1 f2
 rw [cSs] at f3
 rw [cPm] at f4
 rw [cIt] at f5
 rw [cBs] at f6 f14
 rw [cQu] at f13
 obtain ⟨kind, e0, _, w0⟩ := DataW.trod_int Tryz.underlying3 f0
 obtain ⟨s1, e1, _, _⟩ := DataW.trod_string Tryz.underlying9 f1
 obtain ⟨name, h1, rfl⟩ := Pg.apk s1
 obtain ⟨s2, e2, _, _⟩ := DataW.trod_string Tryz.underlying9 f2
 obtain ⟨other, h2, rfl⟩ := Pg.apk s2
 obtain ⟨names, h3, u3, e3, r3⟩ := Pg.ao9 ao1 Tryz.underlying23 f3
 obtain ⟨pk, pz, pd, ps, p1, p2, p3, p4, e4⟩ := aoM f4
 obtain ⟨items, h5, u5, e5, r5⟩ := Pg.ao9 ao8 Tryz.underlying27 f5
 obtain ⟨coins, h6, u6, e6, r6⟩ := Pg.ao9 aoY Tryz.underlying28 f6
 obtain ⟨exp, e7, _, w7⟩ := DataW.trod_int Tryz.underlying3 f7
 obtain ⟨src, e8, _, w8⟩ := DataW.trod_int Tryz.underlying3 f8
 obtain ⟨hnd, e9, _, w9⟩ := DataW.trod_int Tryz.underlying3 f9
 obtain ⟨idx, e10, _, w10⟩ := DataW.trod_int Tryz.underlying3 f10
 obtain ⟨cur, e11, _, w11⟩ := DataW.trod_int Tryz.underlying3 f11
 obtain ⟨cnt, e12, _, w12⟩ := DataW.trod_int Tryz.underlying3 f12
 obtain ⟨qk, qkey, qc, qn, qd, q1, q2, q3, q4, q5, e13⟩ := aoN f13
 obtain ⟨data, h14, u14, e14, r14⟩ := Pg.ao9 aoY Tryz.underlying28 f14
 rw [cOp] at hl
 refine ⟨⟨kind, name, other, names, pk, pz, pd, ps, items, coins, exp, src, hnd, idx, cur, cnt, qk, qkey, qc, qn, qd, data⟩, ⟨⟨h1, h2, h3, fun x hx => (h5 x hx).1, fun b hb => h6 b hb, q2, fun b hb => h14 b hb⟩, aox w0, p1, p2, p3, p4, aox w7, aox w8, aox w9, aox w10, aox w11, aox w12, q1, q3, q4, q5, fun x hx => (h5 x hx).2⟩, ?_⟩
 match cs, hl with
 | [y0, y1, y2, y3, y4, y5, y6, y7, y8, y9, y10, y11, y12, y13, y14, y15, y16, y17, y18, y19, y20, y21], _ =>
  simp at e0 e1 e2 e3 e4 e5 e6 e7 e8 e9 e10 e11 e12 e13 e14
  obtain ⟨rfl, rfl, rfl, rfl⟩ := e4
  obtain ⟨rfl, rfl, rfl, rfl, rfl⟩ := e13
  subst e0 e1 e2 e3 e5 e6 e7 e8 e9 e10 e11 e12 e14
  exact ⟨_, _, rfl, rfl, _, _, rfl, rfl, _, _, rfl, rfl, _, _, rfl, r3, _, _, rfl, rfl, _, _, rfl, rfl, _, _, rfl, rfl, _, _, rfl, rfl, _, _, rfl, r5, _, _, rfl, r6, _, _, rfl, rfl, _, _, rfl, rfl, _, _, rfl, rfl, _, _, rfl, rfl, _, _, rfl, rfl, _, _, rfl, rfl, _, _, rfl, rfl, _, _, rfl, rfl, _, _, rfl, rfl, _, _, rfl, rfl, _, _, rfl, rfl, _, _, rfl, r14, rfl⟩
theorem aoS {n : Nat} {v : Value} {a : Option Addr} {len cap : Nat} {x : DataW H × List MemPlace} (hv : v = .slice a len cap) (h : DataW.trod enc Tryz.prog w base spare held n 22 v.cells.toList = some x) : ∃ l : List Int, l.length ≤ 9223372036854775807 ∧ Pg.Rep (LW w) w (fzi l) v := by
 subst hv
 obtain ⟨l, hl, u, e, r⟩ := Pg.ao9 ao2 Tryz.underlying22 h
 have hu : u = .slice a len cap := by simp [Value.cells] at e; exact e.symm
 subst hu
 refine ⟨l, ?_, r⟩
 obtain ⟨b, c, row, h1, _, h2, _⟩ := r
 injection h1 with h1 h3 h4
 have hll : (List.map (fun n => Pg.V.c (.int .i64 n)) l).length = l.length := List.length_map ..
 rcases DataW.trod_slice Tryz.underlying22 h with ⟨g, _⟩ | ⟨a', len', cap', _, _, _, _, g, _, _, g2, g3, _⟩
 ·simp [Value.cells] at g
  omega
 ·simp [Value.cells] at g
  have : maxLen = 9223372036854775807 := rfl
  omega
end
end Go.Proofs.YtjiolbcdfgclaaaGreatDoor
end
