/-
  Texts of this claim, merged; own names are short.
-/
import Derived.Test.YtaoejnjkmfkbeaaGreatWBM
import Derived.Laws.BitsAllLaws
import Derived.Test.YtaoejnjkmfkbeaaGreatWBH
set_option linter.unusedVariables false
set_option linter.unusedSimpArgs false
set_option linter.unusedSectionVars false
set_option linter.defProp false
set_option maxRecDepth 100000
set_option maxHeartbeats 8000000
namespace Go.Proofs.YtaoejnjkmfkbeaaGreat
open Go Go.Pg
theorem ahK (l : List Nat) (ho : oct l) (hl : l.length ≤ 2147483648) : Pg.Good Tryz.prog 34 [fzb l] (unV l) := by
 refine (ag8 l ho hl).fzr ?_ ?_
 ·unfold unO; split <;> rfl
 ·have : (unO l).erase = unV l := by unfold unO unV; split <;> rfl
  rw [this]; exact aj _
theorem ais (l : List Nat) (ho : oct l) (h : unE l = 0) (h2 : unU l + 4 = l.length) : l = jG (l.getD 0 0) (unB l) := by
 unfold unE at h
 split at h
 ·cases h
 ·rename_i h0
  split at h
  ·rename_i h1; exact absurd h h1
  ·rename_i h1
   have h1 : (aW (l.drop 1)).2.2 = 0 := Classical.byContradiction h1
   split at h
   ·cases h
   ·rename_i h3
    split at h
    ·cases h
    ·rename_i h4
     split at h
     ·cases h
     ·rename_i h5
      have h5 := Classical.byContradiction h5
      have hcan := Yc (l.drop 1) (dZ ho 1) h1
      have huse := ag7 (l.drop 1) (dZ ho 1) h1
      have hUU : unU l = 1 + (aW (l.drop 1)).2.1 + (aW (l.drop 1)).1 := rfl
      have hBB : unB l = (l.take (unU l)).drop (1 + (aW (l.drop 1)).2.1) := rfl
      rw [← hUU] at h5
      have h6 := (ah7 l (unU l) ho (by omega)).1 h5
      generalize unB l = BB at *
      generalize unU l = UU at *
      generalize aW (l.drop 1) = q at *
      obtain ⟨x, u, e⟩ := q
      simp only at *
      have hBl : BB.length = x := by rw [hBB, List.length_drop, List.length_take]; omega
      have hHead : eU (l.getD 0 0) BB = l.take UU := by
       unfold eU
       rw [hBl]
       have e1 : l = l.getD 0 0 :: l.drop 1 := by
        cases l with
        | nil => exact absurd rfl h0
        | cons a r => rfl
       have e2 : l.take UU = l.getD 0 0 :: (ae x ++ ((l.drop 1).drop u).take x) := by
        conv => lhs; rw [e1, hcan]
        rw [hUU, show 1 + u + x = (u + x) + 1 by omega, List.take_succ_cons, List.take_append, huse]
        rw [List.take_of_length_le (by omega), show (ae x).length + x - (ae x).length = x by omega]
       have e3 : BB = ((l.drop 1).drop u).take x := by
        rw [hBB, hUU, List.drop_take, List.drop_drop]
        congr 1; omega
       rw [e2, ← e3, List.cons_append]
      unfold jG
      rw [hHead, ← h6]
      unfold ft
      rw [h2, List.take_length, List.take_append_drop]
theorem aiz {k : Nat} {l : List Nat} {s : Sk} (ho : oct l) (h : rX k l = some s) : vSk (pY s) = 0 ∧ (pY s).p.k = k ∧ bJ (pY s) = l := by
 have refl : ∀ s : Sk, eH s s = true := fun s => by unfold eH rM rO rP rQ rU samP samT; simp
 unfold rX at h
 split at h
 ·rename_i hk; subst hk
  simp only [Option.map_eq_some_iff] at h
  obtain ⟨x, hd, rfl⟩ := h
  obtain ⟨h1, h2⟩ := Md hd
  have e : aX (pY (skK 1 x Cm.o Ll.o Tp.o Fq.o Rk.o)) = pY (skK 1 x Cm.o Ll.o Tp.o Fq.o Rk.o) := by simp [aX, pY, jT, skK]
  refine ⟨?_, rfl, h2⟩
  unfold vSk
  rw [if_neg (by simp [pY, jT, skK, vp]), if_neg (fun h => h h1), if_pos (by simp [parP, pY, jT, skK]), e, if_pos (refl _)]
 split at h
 ·rename_i hk; subst hk
  simp only [Option.map_eq_some_iff] at h
  obtain ⟨x, hd, rfl⟩ := h
  obtain ⟨⟨h1, h2⟩, _⟩ := Me ho hd
  obtain ⟨i1, i2, _⟩ := xI h1
  have e : aX (pY (skK 2 Tl.o x Ll.o Tp.o Fq.o Rk.o)) = pY (skK 2 Tl.o x Ll.o Tp.o Fq.o Rk.o) := by simp [aX, pY, jT, skK]
  refine ⟨?_, rfl, h2⟩
  unfold vSk
  rw [if_neg (by simp [pY, jT, skK, vp]; omega), if_neg (fun h => h h1), if_pos (by simp [parP, pY, jT, skK]), e, if_pos (refl _)]
 split at h
 ·rename_i hk; subst hk
  simp only [Option.map_eq_some_iff] at h
  obtain ⟨x, hd, rfl⟩ := h
  obtain ⟨h1, _⟩ := MB ho hd
  have h2 := aha ho hd
  obtain ⟨i1, _⟩ := xK h1
  have e : aX (pY (skK 3 Tl.o Cm.o x Tp.o Fq.o Rk.o)) = pY (skK 3 Tl.o Cm.o x Tp.o Fq.o Rk.o) := by simp [aX, pY, jT, skK]
  refine ⟨?_, rfl, h2⟩
  unfold vSk
  rw [if_neg (by simp [pY, jT, skK, vp]; omega), if_neg (fun h => h h1), if_pos (by simp [parP, pY, jT, skK]), e, if_pos (refl _)]
 split at h
 ·rename_i hk; subst hk
  simp only [Option.map_eq_some_iff] at h
  obtain ⟨x, hd, rfl⟩ := h
  obtain ⟨h1, h2⟩ := L8 hd
  obtain ⟨i1, _⟩ := uC h1
  have e : aX (pY (skK 4 Tl.o Cm.o Ll.o x Fq.o Rk.o)) = pY (skK 4 Tl.o Cm.o Ll.o x Fq.o Rk.o) := by simp [aX, pY, jT, skK]
  refine ⟨?_, rfl, h2⟩
  unfold vSk
  rw [if_neg (by simp [pY, jT, skK, vp]; omega), if_neg (fun h => h h1), if_pos (by simp [parP, pY, jT, skK]), e, if_pos (refl _)]
 split at h
 ·rename_i hk; subst hk
  simp only [Option.map_eq_some_iff] at h
  obtain ⟨x, hd, rfl⟩ := h
  obtain ⟨h1, h2⟩ := L9 hd
  obtain ⟨i1, _⟩ := uD h1
  have e : aX (pY (skK 5 Tl.o Cm.o Ll.o Tp.o x Rk.o)) = pY (skK 5 Tl.o Cm.o Ll.o Tp.o x Rk.o) := by simp [aX, pY, jT, skK]
  refine ⟨?_, rfl, h2⟩
  unfold vSk
  rw [if_neg (by simp [pY, jT, skK, vp]; omega), if_neg (fun h => h h1), if_pos (by simp [parP, pY, jT, skK]), e, if_pos (refl _)]
 split at h
 ·rename_i hk; subst hk
  simp only [Option.map_eq_some_iff] at h
  obtain ⟨x, hd, rfl⟩ := h
  obtain ⟨h1, h2⟩ := Mc hd
  obtain ⟨i1, _⟩ := uG h1
  have e : aX (pY (skK 6 Tl.o Cm.o Ll.o Tp.o Fq.o x)) = pY (skK 6 Tl.o Cm.o Ll.o Tp.o Fq.o x) := by simp [aX, pY, jT, skK]
  refine ⟨?_, rfl, h2⟩
  unfold vSk
  rw [if_neg (by simp [pY, jT, skK, vp]; omega), if_neg (fun h => h h1), if_pos (by simp [parP, pY, jT, skK]), e, if_pos (refl _)]
 cases h
def ag2 : Option Sk → Sk × Nat
 | none => (Sk.o, 2)
 | some s => (pY s, 0)
theorem ait (l : List Nat) (ho : oct l) (h : unE l = 0) (h0 : l.getD 0 0 = 83) (h2 : unU l + 4 = l.length) (h3 : (aW (unB l)).2.2 = 0) :
  qc l (rX (aW (unB l)).1 ((unB l).drop (aW (unB l)).2.1)) = ag2 (rX (aW (unB l)).1 ((unB l).drop (aW (unB l)).2.1)) := by
 have oB : oct (unB l) := dZ (mY ho _) _
 cases hd : rX (aW (unB l)).1 ((unB l).drop (aW (unB l)).2.1) with
 | none => rfl
 | some s =>
  obtain ⟨h4, h5, h6⟩ := aiz (dZ oB _) hd
  refine if_pos ⟨h4, ?_⟩
  unfold bW
  rw [if_neg (fun e => e h4), h5, h6, Int.toNat_natCast, ← Yc (unB l) oB h3]
  have := ais l ho h h2
  rw [h0] at this
  exact this.symm
theorem aiA (l B : List Nat) (u : Nat) (hU : Pg.Good Tryz.prog 34 [fzb l] (.tup [.c (.int .u8 83), fzb B, vi (l.length : Nat), vi 0])) (hN : Pg.Good Tryz.prog 103 [fzb B] (.tup [vi 1, vi (u : Nat), vi 0])) (hu : u ≤ B.length) (oB : oct B) (lB : B.length ≤ 900000) :
  Pg.Good Tryz.prog 104 [fzb l] (rSk (ag2 (rX 1 (B.drop u)))) := by
 have b0 := ai B
 have bL := ai l
 have x0 := iq B u
 have oR := dZ oB u
 have lR : (B.drop u).length ≤ 900000 := by rw [List.length_drop]; omega
 generalize B.drop u = R at *
 have hD := aib R oR (by omega)
 rw [ahR R oR] at hD
 have eP : rX 1 R = (tN R).map fun x => skK 1 x Cm.o Ll.o Tp.o Fq.o Rk.o := rfl
 rw [eP]
 cases hd : tN R with
 | none =>
  rw [FY hd] at hD
  refine dH (n := 2) rfl ?_
  refine gI oW Tryz.func104 Tryz.results104 ?_
  exact wR (aI @pgv (aI @b0 (aI @bL @x0))) (aI hU (aI hN hD)) ah
 | some x =>
  rw [LU hd] at hD
  have eW : pY (skK 1 x Cm.o Ll.o Tp.o Fq.o Rk.o) = ⟨⟨1, 0, 0, 0⟩, x, Cm.o, Ll.o, Tp.o, Fq.o, Rk.o⟩ := by simp [pY, jT, skK]
  have eF : ag2 (Option.map (fun x => skK 1 x Cm.o Ll.o Tp.o Fq.o Rk.o) (some x)) = (⟨⟨1, 0, 0, 0⟩, x, Cm.o, Ll.o, Tp.o, Fq.o, Rk.o⟩, 0) := by rw [← eW]; rfl
  have hW : wkV (.agg (skC ⟨⟨1, 0, 0, 0⟩, x, Cm.o, Ll.o, Tp.o, Fq.o, Rk.o⟩ nls nls nls nls nls)) (.agg (skF ⟨⟨1, 0, 0, 0⟩, x, Cm.o, Ll.o, Tp.o, Fq.o, Rk.o⟩)) := dK ⟨⟨1, 0, 0, 0⟩, x, Cm.o, Ll.o, Tp.o, Fq.o, Rk.o⟩ (aA _) (aA _) (aA _) (aA _) (aA _)
  rw [eF]
  refine Good.wkt (vs := [.agg (skC ⟨⟨1, 0, 0, 0⟩, x, Cm.o, Ll.o, Tp.o, Fq.o, Rk.o⟩ nls nls nls nls nls), vi 0]) ?_ ⟨hW, aj _, trivial⟩
  clear eF eW eP hd hW
  refine gI oW Tryz.func104 Tryz.results104 ?_
  exact wR (aI @pgv (aI @b0 (aI @bL @x0))) (aI hU (aI hN hD)) ah
theorem aiB (l B : List Nat) (u : Nat) (hU : Pg.Good Tryz.prog 34 [fzb l] (.tup [.c (.int .u8 83), fzb B, vi (l.length : Nat), vi 0])) (hN : Pg.Good Tryz.prog 103 [fzb B] (.tup [vi 2, vi (u : Nat), vi 0])) (hu : u ≤ B.length) (oB : oct B) (lB : B.length ≤ 900000) :
  Pg.Good Tryz.prog 104 [fzb l] (rSk (ag2 (rX 2 (B.drop u)))) := by
 have b0 := ai B
 have bL := ai l
 have x0 := iq B u
 have oR := dZ oB u
 have lR : (B.drop u).length ≤ 900000 := by rw [List.length_drop]; omega
 generalize B.drop u = R at *
 have hD := aid R oR (by omega)
 rw [ahT R oR] at hD
 have eP : rX 2 R = (wF R).map fun x => skK 2 Tl.o x Ll.o Tp.o Fq.o Rk.o := rfl
 rw [eP]
 cases hd : wF R with
 | none =>
  rw [FY hd] at hD
  refine dH (n := 2) rfl ?_
  refine gI oW Tryz.func104 Tryz.results104 ?_
  exact wR (aI @pgv (aI @b0 (aI @bL @x0))) (aI hU (aI hN hD)) ah
 | some x =>
  rw [LU hd] at hD
  have eW : pY (skK 2 Tl.o x Ll.o Tp.o Fq.o Rk.o) = ⟨⟨2, x.z, x.d, x.s⟩, Tl.o, x, Ll.o, Tp.o, Fq.o, Rk.o⟩ := by simp [pY, jT, skK]
  have eF : ag2 (Option.map (fun x => skK 2 Tl.o x Ll.o Tp.o Fq.o Rk.o) (some x)) = (⟨⟨2, x.z, x.d, x.s⟩, Tl.o, x, Ll.o, Tp.o, Fq.o, Rk.o⟩, 0) := by rw [← eW]; rfl
  have hW : wkV (.agg (skC ⟨⟨2, x.z, x.d, x.s⟩, Tl.o, x, Ll.o, Tp.o, Fq.o, Rk.o⟩ (fzi x.c) nls nls nls nls)) (.agg (skF ⟨⟨2, x.z, x.d, x.s⟩, Tl.o, x, Ll.o, Tp.o, Fq.o, Rk.o⟩)) := dK ⟨⟨2, x.z, x.d, x.s⟩, Tl.o, x, Ll.o, Tp.o, Fq.o, Rk.o⟩ (iR _) (aA _) (aA _) (aA _) (aA _)
  rw [eF]
  refine Good.wkt (vs := [.agg (skC ⟨⟨2, x.z, x.d, x.s⟩, Tl.o, x, Ll.o, Tp.o, Fq.o, Rk.o⟩ (fzi x.c) nls nls nls nls), vi 0]) ?_ ⟨hW, aj _, trivial⟩
  clear eF eW eP hd hW
  refine gI oW Tryz.func104 Tryz.results104 ?_
  exact wR (aI @pgv (aI @b0 (aI @bL @x0))) (aI hU (aI hN hD)) ah
theorem aiC (l B : List Nat) (u : Nat) (hU : Pg.Good Tryz.prog 34 [fzb l] (.tup [.c (.int .u8 83), fzb B, vi (l.length : Nat), vi 0])) (hN : Pg.Good Tryz.prog 103 [fzb B] (.tup [vi 3, vi (u : Nat), vi 0])) (hu : u ≤ B.length) (oB : oct B) (lB : B.length ≤ 900000) :
  Pg.Good Tryz.prog 104 [fzb l] (rSk (ag2 (rX 3 (B.drop u)))) := by
 have b0 := ai B
 have bL := ai l
 have x0 := iq B u
 have oR := dZ oB u
 have lR : (B.drop u).length ≤ 900000 := by rw [List.length_drop]; omega
 generalize B.drop u = R at *
 have hD := aie R oR (by omega)
 rw [ahV R oR] at hD
 have eP : rX 3 R = (wG R).map fun x => skK 3 Tl.o Cm.o x Tp.o Fq.o Rk.o := rfl
 rw [eP]
 cases hd : wG R with
 | none =>
  rw [FY hd] at hD
  refine dH (n := 2) rfl ?_
  refine gI oW Tryz.func104 Tryz.results104 ?_
  exact wR (aI @pgv (aI @b0 (aI @bL @x0))) (aI hU (aI hN hD)) ah
 | some x =>
  rw [LU hd] at hD
  have eW : pY (skK 3 Tl.o Cm.o x Tp.o Fq.o Rk.o) = ⟨⟨3, x.p, 0, x.s⟩, Tl.o, Cm.o, x, Tp.o, Fq.o, Rk.o⟩ := by simp [pY, jT, skK]
  have eF : ag2 (Option.map (fun x => skK 3 Tl.o Cm.o x Tp.o Fq.o Rk.o) (some x)) = (⟨⟨3, x.p, 0, x.s⟩, Tl.o, Cm.o, x, Tp.o, Fq.o, Rk.o⟩, 0) := by rw [← eW]; rfl
  have hW : wkV (.agg (skC ⟨⟨3, x.p, 0, x.s⟩, Tl.o, Cm.o, x, Tp.o, Fq.o, Rk.o⟩ nls (fzi x.r) nls nls nls)) (.agg (skF ⟨⟨3, x.p, 0, x.s⟩, Tl.o, Cm.o, x, Tp.o, Fq.o, Rk.o⟩)) := dK ⟨⟨3, x.p, 0, x.s⟩, Tl.o, Cm.o, x, Tp.o, Fq.o, Rk.o⟩ (aA _) (iR _) (aA _) (aA _) (aA _)
  rw [eF]
  refine Good.wkt (vs := [.agg (skC ⟨⟨3, x.p, 0, x.s⟩, Tl.o, Cm.o, x, Tp.o, Fq.o, Rk.o⟩ nls (fzi x.r) nls nls nls), vi 0]) ?_ ⟨hW, aj _, trivial⟩
  clear eF eW eP hd hW
  refine gI oW Tryz.func104 Tryz.results104 ?_
  exact wR (aI @pgv (aI @b0 (aI @bL @x0))) (aI hU (aI hN hD)) ah
theorem aiD (l B : List Nat) (u : Nat) (hU : Pg.Good Tryz.prog 34 [fzb l] (.tup [.c (.int .u8 83), fzb B, vi (l.length : Nat), vi 0])) (hN : Pg.Good Tryz.prog 103 [fzb B] (.tup [vi 4, vi (u : Nat), vi 0])) (hu : u ≤ B.length) (oB : oct B) (lB : B.length ≤ 900000) :
  Pg.Good Tryz.prog 104 [fzb l] (rSk (ag2 (rX 4 (B.drop u)))) := by
 have b0 := ai B
 have bL := ai l
 have x0 := iq B u
 have oR := dZ oB u
 have lR : (B.drop u).length ≤ 900000 := by rw [List.length_drop]; omega
 generalize B.drop u = R at *
 have hD := aif R oR (by omega)
 rw [ahY R oR] at hD
 have eP : rX 4 R = (wH R).map fun x => skK 4 Tl.o Cm.o Ll.o x Fq.o Rk.o := rfl
 rw [eP]
 cases hd : wH R with
 | none =>
  rw [FY hd] at hD
  refine dH (n := 2) rfl ?_
  refine gI oW Tryz.func104 Tryz.results104 ?_
  exact wR (aI @pgv (aI @b0 (aI @bL @x0))) (aI hU (aI hN hD)) ah
 | some x =>
  rw [LU hd] at hD
  have eW : pY (skK 4 Tl.o Cm.o Ll.o x Fq.o Rk.o) = ⟨⟨4, x.z, 0, 0⟩, Tl.o, Cm.o, Ll.o, x, Fq.o, Rk.o⟩ := by simp [pY, jT, skK]
  have eF : ag2 (Option.map (fun x => skK 4 Tl.o Cm.o Ll.o x Fq.o Rk.o) (some x)) = (⟨⟨4, x.z, 0, 0⟩, Tl.o, Cm.o, Ll.o, x, Fq.o, Rk.o⟩, 0) := by rw [← eW]; rfl
  have hW : wkV (.agg (skC ⟨⟨4, x.z, 0, 0⟩, Tl.o, Cm.o, Ll.o, x, Fq.o, Rk.o⟩ nls nls (fzv x.e) nls nls)) (.agg (skF ⟨⟨4, x.z, 0, 0⟩, Tl.o, Cm.o, Ll.o, x, Fq.o, Rk.o⟩)) := dK ⟨⟨4, x.z, 0, 0⟩, Tl.o, Cm.o, Ll.o, x, Fq.o, Rk.o⟩ (aA _) (aA _) (iR _) (aA _) (aA _)
  rw [eF]
  refine Good.wkt (vs := [.agg (skC ⟨⟨4, x.z, 0, 0⟩, Tl.o, Cm.o, Ll.o, x, Fq.o, Rk.o⟩ nls nls (fzv x.e) nls nls), vi 0]) ?_ ⟨hW, aj _, trivial⟩
  clear eF eW eP hd hW
  refine gI oW Tryz.func104 Tryz.results104 ?_
  exact wR (aI @pgv (aI @b0 (aI @bL @x0))) (aI hU (aI hN hD)) ah
theorem aiE (l B : List Nat) (u : Nat) (hU : Pg.Good Tryz.prog 34 [fzb l] (.tup [.c (.int .u8 83), fzb B, vi (l.length : Nat), vi 0])) (hN : Pg.Good Tryz.prog 103 [fzb B] (.tup [vi 5, vi (u : Nat), vi 0])) (hu : u ≤ B.length) (oB : oct B) (lB : B.length ≤ 900000) :
  Pg.Good Tryz.prog 104 [fzb l] (rSk (ag2 (rX 5 (B.drop u)))) := by
 have b0 := ai B
 have bL := ai l
 have x0 := iq B u
 have oR := dZ oB u
 have lR : (B.drop u).length ≤ 900000 := by rw [List.length_drop]; omega
 generalize B.drop u = R at *
 have hD := aig R oR (by omega)
 rw [ah1 R oR] at hD
 have eP : rX 5 R = (wI R).map fun x => skK 5 Tl.o Cm.o Ll.o Tp.o x Rk.o := rfl
 rw [eP]
 cases hd : wI R with
 | none =>
  rw [FY hd] at hD
  refine dH (n := 2) rfl ?_
  refine gI oW Tryz.func104 Tryz.results104 ?_
  exact wR (aI @pgv (aI @b0 (aI @bL @x0))) (aI hU (aI hN hD)) ah
 | some x =>
  rw [LU hd] at hD
  have eW : pY (skK 5 Tl.o Cm.o Ll.o Tp.o x Rk.o) = ⟨⟨5, x.z, 0, 0⟩, Tl.o, Cm.o, Ll.o, Tp.o, x, Rk.o⟩ := by simp [pY, jT, skK]
  have eF : ag2 (Option.map (fun x => skK 5 Tl.o Cm.o Ll.o Tp.o x Rk.o) (some x)) = (⟨⟨5, x.z, 0, 0⟩, Tl.o, Cm.o, Ll.o, Tp.o, x, Rk.o⟩, 0) := by rw [← eW]; rfl
  have hW : wkV (.agg (skC ⟨⟨5, x.z, 0, 0⟩, Tl.o, Cm.o, Ll.o, Tp.o, x, Rk.o⟩ nls nls nls (fzv x.e) nls)) (.agg (skF ⟨⟨5, x.z, 0, 0⟩, Tl.o, Cm.o, Ll.o, Tp.o, x, Rk.o⟩)) := dK ⟨⟨5, x.z, 0, 0⟩, Tl.o, Cm.o, Ll.o, Tp.o, x, Rk.o⟩ (aA _) (aA _) (aA _) (iR _) (aA _)
  rw [eF]
  refine Good.wkt (vs := [.agg (skC ⟨⟨5, x.z, 0, 0⟩, Tl.o, Cm.o, Ll.o, Tp.o, x, Rk.o⟩ nls nls nls (fzv x.e) nls), vi 0]) ?_ ⟨hW, aj _, trivial⟩
  clear eF eW eP hd hW
  refine gI oW Tryz.func104 Tryz.results104 ?_
  exact wR (aI @pgv (aI @b0 (aI @bL @x0))) (aI hU (aI hN hD)) ah
theorem aiF (l B : List Nat) (u : Nat) (hU : Pg.Good Tryz.prog 34 [fzb l] (.tup [.c (.int .u8 83), fzb B, vi (l.length : Nat), vi 0])) (hN : Pg.Good Tryz.prog 103 [fzb B] (.tup [vi 6, vi (u : Nat), vi 0])) (hu : u ≤ B.length) (oB : oct B) (lB : B.length ≤ 900000) :
  Pg.Good Tryz.prog 104 [fzb l] (rSk (ag2 (rX 6 (B.drop u)))) := by
 have b0 := ai B
 have bL := ai l
 have x0 := iq B u
 have oR := dZ oB u
 have lR : (B.drop u).length ≤ 900000 := by rw [List.length_drop]; omega
 generalize B.drop u = R at *
 have hD := aih R oR (by omega)
 rw [ah4 R oR] at hD
 have eP : rX 6 R = (wJ R).map fun x => skK 6 Tl.o Cm.o Ll.o Tp.o Fq.o x := rfl
 rw [eP]
 cases hd : wJ R with
 | none =>
  rw [FY hd] at hD
  refine dH (n := 2) rfl ?_
  refine gI oW Tryz.func104 Tryz.results104 ?_
  exact wR (aI @pgv (aI @b0 (aI @bL @x0))) (aI hU (aI hN hD)) ah
 | some x =>
  rw [LU hd] at hD
  have eW : pY (skK 6 Tl.o Cm.o Ll.o Tp.o Fq.o x) = ⟨⟨6, x.z, 0, 0⟩, Tl.o, Cm.o, Ll.o, Tp.o, Fq.o, x⟩ := by simp [pY, jT, skK]
  have eF : ag2 (Option.map (fun x => skK 6 Tl.o Cm.o Ll.o Tp.o Fq.o x) (some x)) = (⟨⟨6, x.z, 0, 0⟩, Tl.o, Cm.o, Ll.o, Tp.o, Fq.o, x⟩, 0) := by rw [← eW]; rfl
  have hW : wkV (.agg (skC ⟨⟨6, x.z, 0, 0⟩, Tl.o, Cm.o, Ll.o, Tp.o, Fq.o, x⟩ nls nls nls nls (fzl x.v))) (.agg (skF ⟨⟨6, x.z, 0, 0⟩, Tl.o, Cm.o, Ll.o, Tp.o, Fq.o, x⟩)) := dK ⟨⟨6, x.z, 0, 0⟩, Tl.o, Cm.o, Ll.o, Tp.o, Fq.o, x⟩ (aA _) (aA _) (aA _) (aA _) (iR _)
  rw [eF]
  refine Good.wkt (vs := [.agg (skC ⟨⟨6, x.z, 0, 0⟩, Tl.o, Cm.o, Ll.o, Tp.o, Fq.o, x⟩ nls nls nls nls (fzl x.v)), vi 0]) ?_ ⟨hW, aj _, trivial⟩
  clear eF eW eP hd hW
  refine gI oW Tryz.func104 Tryz.results104 ?_
  exact wR (aI @pgv (aI @b0 (aI @bL @x0))) (aI hU (aI hN hD)) ah
theorem ahL (l : List Nat) (ho : oct l) (hl : l.length ≤ 900000) : Pg.Good Tryz.prog 104 [fzb l] (rSk (Ji l)) := by
 have hU := ahK l ho (by omega)
 unfold unV at hU
 have oB : oct (unB l) := dZ (mY ho _) _
 have lB : (unB l).length ≤ l.length := by unfold unB; rw [List.length_drop, List.length_take]; omega
 have hN := abo (unB l) oB (by omega)
 obtain ⟨m1, m2, m3⟩ := iT (unB l) oB
 have hfin := ait l ho
 unfold uK at hN
 unfold Ji
 have b0 := ai (unB l)
 have bL := ai l
 have x0 := fun u => iq (unB l) u
 have ht := iZ ho 0
 generalize unB l = B at *
 generalize l.getD 0 0 = tag at *
 generalize unU l = us at *
 generalize unE l = e at *
 by_cases h0 : e = 0
 case neg =>
  rw [if_pos h0]
  rw [if_pos h0] at hU
  refine dH (n := e) rfl ?_
  unfold zl at hU
  refine gI oW Tryz.func104 Tryz.results104 ?_
  exact wR trivial hU ah
 case pos =>
  rw [if_neg (fun h => h h0)]
  rw [if_neg (fun h => h h0)] at hU
  by_cases h1 : tag = 83
  case neg =>
   rw [if_pos (fun h => h1 h.1)]
   refine dH (n := 2) rfl ?_
   refine gI oW Tryz.func104 Tryz.results104 ?_
   exact wR (aI @bL @b0) (aI hU hN) ah
  case pos =>
   subst h1
   by_cases h2 : us + 4 = l.length
   case neg =>
    rw [if_pos (fun h => h2 h.2.1)]
    refine dH (n := 2) rfl ?_
    refine gI oW Tryz.func104 Tryz.results104 ?_
    exact wR (aI @bL @b0) (aI hU hN) ah
   case pos =>
    have hfin := hfin h0 rfl h2
    rw [h2] at hU
    generalize hq : aW B = q at *
    obtain ⟨k, u, er⟩ := q
    simp only at hN m1 m2 m3 hfin ⊢
    by_cases h3 : er = 0
    case neg =>
     rw [if_pos (fun h => h3 h.2.2)]
     refine dH (n := 2) rfl ?_
     refine gI oW Tryz.func104 Tryz.results104 ?_
     exact wR (aI @bL @b0) (aI hU hN) ah
    case pos =>
     subst h3
     rw [if_neg (fun h => h ⟨trivial, h2, rfl⟩), hfin rfl]
     by_cases hk : k = 1 ∨ k = 2 ∨ k = 3 ∨ k = 4 ∨ k = 5 ∨ k = 6
     case pos =>
      rcases hk with rfl | rfl | rfl | rfl | rfl | rfl
      ·exact aiA l B u hU hN m2 oB (by omega)
      ·exact aiB l B u hU hN m2 oB (by omega)
      ·exact aiC l B u hU hN m2 oB (by omega)
      ·exact aiD l B u hU hN m2 oB (by omega)
      ·exact aiE l B u hU hN m2 oB (by omega)
      ·exact aiF l B u hU hN m2 oB (by omega)
     case neg =>
      have e : rX k (B.drop u) = none := by
       unfold rX
       rw [if_neg (by omega), if_neg (by omega), if_neg (by omega), if_neg (by omega), if_neg (by omega), if_neg (by omega)]
      rw [e]
      refine dH (n := 2) rfl ?_
      refine gI oW Tryz.func104 Tryz.results104 ?_
      exact wR (aI @pgv (aI @bL (aI @b0 @x0))) (aI hU hN) ah
theorem aiu {k : Nat} {l : List Nat} {s : Sk} (ho : oct l) (h : rX k l = some s) : (pY s).Ok := by
 unfold rX at h
 split at h
 ·simp only [Option.map_eq_some_iff] at h
  obtain ⟨x, hd, rfl⟩ := h
  exact ⟨jg, jg, jg, Nat.zero_le _, Nat.zero_le _, oU, Nat.zero_le _, oU, Nat.zero_le _, fun _ h => (nomatch h), Nat.zero_le _, fun _ h => nomatch h⟩
 split at h
 ·simp only [Option.map_eq_some_iff] at h
  obtain ⟨x, hd, rfl⟩ := h
  obtain ⟨⟨hv1, _⟩, hs⟩ := Me ho hd
  obtain ⟨j1, j2, j3, _⟩ := xI hv1
  have hm := oN j1 j2
  exact ⟨hs, hs, jg, by show x.c.length ≤ _; omega, Nat.zero_le _, oU, Nat.zero_le _, oU, Nat.zero_le _, fun _ h => (nomatch h), Nat.zero_le _, fun _ h => nomatch h⟩
 split at h
 ·simp only [Option.map_eq_some_iff] at h
  obtain ⟨x, hd, rfl⟩ := h
  obtain ⟨hv1, hs⟩ := MB ho hd
  obtain ⟨j1, j2, _⟩ := xK hv1
  obtain ⟨_, hm, _⟩ := oO j1
  exact ⟨hs, jg, hs, Nat.zero_le _, by show x.r.length ≤ _; omega, oU, Nat.zero_le _, oU, Nat.zero_le _, fun _ h => (nomatch h), Nat.zero_le _, fun _ h => nomatch h⟩
 split at h
 ·simp only [Option.map_eq_some_iff] at h
  obtain ⟨x, hd, rfl⟩ := h
  obtain ⟨hv1, he1⟩ := L8 hd
  obtain ⟨j1, _, j2, _⟩ := uC hv1
  have hoe := X5 (x := x) (by rw [he1]; exact ho)
  exact ⟨jg, jg, jg, Nat.zero_le _, Nat.zero_le _, hoe, by show x.e.length ≤ _; omega, oU, Nat.zero_le _, fun _ h => (nomatch h), Nat.zero_le _, fun _ h => nomatch h⟩
 split at h
 ·simp only [Option.map_eq_some_iff] at h
  obtain ⟨x, hd, rfl⟩ := h
  obtain ⟨hv1, he1⟩ := L9 hd
  obtain ⟨j1, _, _, j2, _⟩ := uD hv1
  have hoe := X6 (x := x) (by rw [he1]; exact ho)
  exact ⟨jg, jg, jg, Nat.zero_le _, Nat.zero_le _, oU, Nat.zero_le _, hoe, by show x.e.length ≤ _; omega, fun _ h => (nomatch h), Nat.zero_le _, fun _ h => nomatch h⟩
 split at h
 ·simp only [Option.map_eq_some_iff] at h
  obtain ⟨x, hd, rfl⟩ := h
  obtain ⟨hv1, he1⟩ := Mc hd
  obtain ⟨_, _, _, j2, j3⟩ := uG hv1
  have hoe := X7 (x := x) (by rw [he1]; exact ho)
  exact ⟨jg, jg, jg, Nat.zero_le _, Nat.zero_le _, oU, Nat.zero_le _, oU, Nat.zero_le _, hoe, by show x.v.length ≤ _; omega, fun l hl => by have hl : l ∈ x.v := hl; obtain ⟨i, hi, he⟩ := gG [] hl; have := j3 i; rw [he] at this; exact Nat.le_trans this (by decide)⟩
 cases h
theorem aii (l : List Nat) (ho : oct l) : (Ji l).1.Ok := by
 unfold Ji
 split
 ·exact LK
 ·split
  ·exact LK
  ·cases hd : rX (aW (unB l)).1 ((unB l).drop (aW (unB l)).2.1) with
   | none => exact LK
   | some s =>
    show (if vSk (pY s) = 0 ∧ bW (pY s) = l then (pY s, 0) else (Sk.o, 2)).1.Ok
    split
    ·exact aiu (dZ (dZ (mY ho _) _) _) hd
    ·exact LK
theorem ahM (s : Sk) : eH s s = true := by unfold eH rM rO rP rQ rU samP samT; simp
theorem agU (l : List Nat) (ho : oct l) (hl : l.length ≤ 900000) : Pg.Good Tryz.prog 35 [fzb l] (vb true) := by
 have k1 := X8 l ho hl
 have k2 := ahL l ho hl
 have o := aii l ho
 have k3 := nD (Ji l).1 (Ji l).1 o o
 rw [ahM] at k3
 unfold rSk at k1 k2
 generalize (Ji l).1 = A at *
 generalize (Ji l).2 = e at *
 clear o
 obtain ⟨⟨pk, pz, pd, ps⟩, ⟨t1, t2, t3⟩, ⟨c1, c2, c3, c4, c5⟩, ⟨l1, l2, l3⟩, ⟨e1, e2, e3, e4⟩, ⟨f1, f2, f3, f4, f5⟩, ⟨q1, q2, q3, q4, q5⟩⟩ := A
 refine gI oW Tryz.func35 Tryz.results35 ?_
 exact wR @beq_self_eq_true.{0} (aI k1 (aI k2 k3)) ah
theorem aiv {l : List Nat} (h : oct l) {i v : Nat} (hv : v < 256) : oct (l.set i v) := by
 intro b hb
 rcases List.mem_or_eq_of_mem_set hb with hb | rfl
 ·exact h b hb
 ·exact hv
theorem aiG {a b : Nat} (ha : a < 256) (hb : b < 256) : a ^^^ b < 256 := Nat.xor_lt_two_pow (n := 8) ha hb
theorem ahh (l : List Nat) : (V.tup [ob 0 l, vi 0]).flat = true := by show (V.flatL (bv l) && _) = true; rw [ahO]; rfl
theorem ag3 (body : List Nat) (tag : Nat) (l : List Int) (at_ : Int) (by_ : Nat) (hb : oct body) (ht : tag < 256) (hy : by_ < 256) (hbl : body.length ≤ 9223372036854775807) (hl : l.length ≤ 9223372036854775807) :
  Pg.Good Tryz.prog 8 [fzb body, .c (.int .u8 (tag : Nat)), fzi l, vi at_, .c (.int .u8 (by_ : Nat))] (vb true) := by
 have hbb := ai body
 rcases Nat.lt_or_ge 300 body.length with h0 | h0
 ·refine gI oW Tryz.func8 Tryz.results8 ?_
  exact wR @hbb Oi ah
 have k1 := pF tag body ht hb (by omega)
 have k2 := pF 83 body (by omega) hb (by omega)
 have o1 := V4 ht hb
 have o2 := V4 (tag := 83) (by omega) hb
 have n1 := V3 tag body
 have n2 := V3 83 body
 have h1 := RX l hl
 have ok := MF l
 have h2 := LP (oI l) ok
 have ho := nG (oI l) ok
 have hU := ag8 (bW (oI l)) ho.1 (by have := ho.2; omega)
 unfold unO at hU
 have oB : oct (unB (bW (oI l))) := dZ (mY ho.1 _) _
 have lB : (unB (bW (oI l))).length ≤ 100100 := by unfold unB; rw [List.length_drop, List.length_take]; have := ho.2; omega
 have r1 := agU (jG tag body) o1 (by omega)
 have r2 := agU (jG 83 body) o2 (by omega)
 have r4 := agU body hb (by omega)
 have u83 : ((83 : Nat) : Int) = 83 := rfl
 have fin : ∀ C : List Nat, oct C → C.length ≤ 100100 → Pg.Good Tryz.prog 33 [.c (.int .u8 83), fzb C] (.tup [ob 0 (jG 83 C), vi 0]) ∧ Pg.Good Tryz.prog 35 [fzb (jG 83 C)] (vb true) ∧ Pg.Good Tryz.prog 35 [fzb (jG 83 C ++ [by_])] (vb true) ∧ (jG 83 C).length ≤ 100120 := by
  intro C hC hn
  have n3 := V3 83 C
  have o3 := V4 (tag := 83) (by omega) hC
  exact ⟨ag9 83 C (by omega) hC (by omega), agU _ o3 (by omega), agU _ (aY o3 (lV hy)) (by rw [List.length_append, List.length_singleton]; omega), by omega⟩
 generalize jG tag body = Fa at *
 generalize jG 83 body = Fb at *
 generalize bW (oI l) = X at *
 generalize vSk (oI l) = vX at *
 generalize oI l = A at *
 clear ok
 obtain ⟨⟨pk, pz, pd, ps⟩, ⟨t1, t2, t3⟩, ⟨c1, c2, c3, c4, c5⟩, ⟨l1, l2, l3⟩, ⟨e1, e2, e3, e4⟩, ⟨f1, f2, f3, f4, f5⟩, ⟨q1, q2, q3, q4, q5⟩⟩ := A
 by_cases hE : unE X = 0
 ·rw [if_neg (fun h => h hE)] at hU
  generalize unB X = C at *
  generalize X.getD 0 0 = tg at *
  generalize unU X = us at *
  have hCb := ai C
  rcases Nat.eq_zero_or_pos C.length with hz | hz
  ·obtain ⟨f1, f2, f3, f4⟩ := fin C oB lB
   have hft := ahh (jG 83 C)
   have hFb := ai (jG 83 C)
   have hap := bvS (jG 83 C) by_
   generalize jG 83 C = Fd at *
   refine gI oW Tryz.func8 Tryz.results8 ?_
   (repeat' (first | (simp (disch := first | exact dqz | fail) only [pgz, simprocAttr, hbb, hCb, hFb, hap]) | ((with_reducible show cu _ _ _ _ _ _); first | refine cU k1 ?_ | refine cU k2 ?_ | refine cU h1 ?_ | refine cU h2 ?_ | refine cU hU ?_ | refine xw _ (f1) rfl rfl rfl (by rw [Bool.or_eq_true]; exact .inr hft) ?_ | refine cU r1 ?_ | refine cU r2 ?_ | refine cU r4 ?_ | refine cU f2 ?_ | refine cU f3 ?_ | refine cU Oi ?_) | ((with_reducible first | apply aQ | apply aB | apply bz) <;> intro hc <;> (try simp only [hc]) <;> (try simp only [pgd] at hc)) | (with_reducible refine cK ?_)))
   all_goals exact rE []
  ·have hA : 0 ≤ at_ % 65536 := Int.emod_nonneg _ (by omega)
   obtain ⟨j, hj, hjl⟩ : ∃ j : Nat, (at_ % 65536).tmod (C.length : Int) = (j : Nat) ∧ j < C.length := by
    have q1 : (at_ % 65536).tmod (C.length : Int) = (at_ % 65536) % (C.length : Int) := Int.tmod_eq_emod_of_nonneg hA
    have q2 := Int.emod_nonneg (at_ % 65536) (show (C.length : Int) ≠ 0 by omega)
    have q3 := Int.emod_lt_of_pos (at_ % 65536) (show (0 : Int) < (C.length : Int) by omega)
    exact ⟨((at_ % 65536) % (C.length : Int)).toNat, by omega, by omega⟩
   have hgj := lL C j hjl
   have hcj := iZ oB j
   have hx := u8_xor_nat (C.getD j 0) by_ hcj hy
   have hset := aix C j (C.getD j 0 ^^^ by_)
   obtain ⟨f1, f2, f3, f4⟩ := fin (C.set j (C.getD j 0 ^^^ by_)) (aiv oB (aiG hcj hy)) (by rw [List.length_set]; exact lB)
   have han := aiH at_
   generalize C.getD j 0 ^^^ by_ = cx at *
   generalize C.getD j 0 = cj at *
   have hft := ahh (jG 83 (C.set j cx))
   have hFb := ai (jG 83 (C.set j cx))
   have hap := bvS (jG 83 (C.set j cx)) by_
   generalize jG 83 (C.set j cx) = Fd at *
   generalize C.set j cx = C' at *
   refine gI oW Tryz.func8 Tryz.results8 ?_
   (repeat' (first | (simp (disch := first | exact dqz | fail) only [pgz, simprocAttr, hbb, hCb, hFb, hap, han, hj, hgj, hx, hset]) | ((with_reducible show cu _ _ _ _ _ _); first | refine cU k1 ?_ | refine cU k2 ?_ | refine cU h1 ?_ | refine cU h2 ?_ | refine cU hU ?_ | refine xw _ (f1) rfl rfl rfl (by rw [Bool.or_eq_true]; exact .inr hft) ?_ | refine cU r1 ?_ | refine cU r2 ?_ | refine cU r4 ?_ | refine cU f2 ?_ | refine cU f3 ?_ | refine cU Oi ?_) | ((with_reducible first | apply aQ | apply aB | apply bz) <;> intro hc <;> (try simp only [hc]) <;> (try simp only [pgd] at hc)) | (with_reducible refine cK ?_)))
   all_goals exact rE []
 ·rw [if_pos hE] at hU
  unfold zl at hU
  obtain ⟨f1, f2, f3, f4⟩ := fin [] kY (Nat.zero_le _)
  have f1 := Good.wk (args' := [.c (.int .u8 83), .c (.slice none 0 0)]) f1 ⟨aj _, Oa, trivial⟩
  have hft := ahh (jG 83 [])
  have hFb := ai (jG 83 [])
  have hap := bvS (jG 83 []) by_
  generalize jG 83 [] = Fd at *
  refine gI oW Tryz.func8 Tryz.results8 ?_
  (repeat' (first | (simp (disch := first | exact dqz | fail) only [pgz, simprocAttr, hbb, hFb, hap]) | ((with_reducible show cu _ _ _ _ _ _); first | refine cU k1 ?_ | refine cU k2 ?_ | refine cU h1 ?_ | refine cU h2 ?_ | refine cU hU ?_ | refine xw _ (f1) rfl rfl rfl (by rw [Bool.or_eq_true]; exact .inr hft) ?_ | refine cU r1 ?_ | refine cU r2 ?_ | refine cU r4 ?_ | refine cU f2 ?_ | refine cU f3 ?_ | refine cU Oi ?_) | ((with_reducible first | apply aQ | apply aB | apply bz) <;> intro hc <;> (try simp only [hc]) <;> (try simp only [pgd] at hc)) | (with_reducible refine cK ?_)))
  all_goals exact rE []
end Go.Proofs.YtaoejnjkmfkbeaaGreat
