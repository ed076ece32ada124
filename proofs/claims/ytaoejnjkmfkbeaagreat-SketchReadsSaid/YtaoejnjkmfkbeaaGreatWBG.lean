/-
  Texts of this claim, merged; own names are short.
-/
import Derived.Test.YtaoejnjkmfkbeaaGreatWBB
import Derived.Test.YtaoejnjkmfkbeaaGreatWBE
import Derived.Test.YtaoejnjkmfkbeaaGreatWBF
set_option linter.unusedVariables false
set_option linter.unusedSimpArgs false
set_option linter.unusedSectionVars false
set_option linter.defProp false
set_option maxRecDepth 100000
set_option maxHeartbeats 8000000
namespace Go.Proofs.YtaoejnjkmfkbeaaGreat
open Go Go.Pg
theorem X4 {a b : List Nat} (h : oct (a ++ b)) : oct a := fun x hx => h x (List.mem_append.2 (.inl hx))
theorem BV {a b : List Nat} (h : oct (a ++ b)) : oct b := fun x hx => h x (List.mem_append.2 (.inr hx))
theorem F6 {α : Type} {f : α → List Nat} {l : List α} (h : oct (l.flatMap f)) : ∀ x ∈ l, oct (f x) := fun x hx b hb => h b (List.mem_flatMap.2 ⟨x, hx, hb⟩)
theorem L8 {l : List Nat} {x : Tp} (h : wH l = some x) : vTp x = 0 ∧ jc x = l := by
 unfold wH dTp at h
 split at h
 ·cases h
 ·unfold abN at h
  split at h
  ·rename_i h1; simp only [Option.some.injEq] at h; subst h; exact h1
  ·cases h
theorem L9 {l : List Nat} {x : Fq} (h : wI l = some x) : vFq x = 0 ∧ jd x = l := by
 unfold wI dFq at h
 split at h
 ·cases h
 ·unfold abO at h
  split at h
  ·rename_i h1; simp only [Option.some.injEq] at h; subst h; exact h1
  ·cases h
theorem Mc {l : List Nat} {x : Rk} (h : wJ l = some x) : vRk x = 0 ∧ je x = l := by
 unfold wJ dRk at h
 split at h
 ·cases h
 ·unfold abP at h
  split at h
  ·rename_i h1; simp only [Option.some.injEq] at h; subst h; exact h1
  ·cases h
theorem Md {l : List Nat} {x : Tl} (h : tN l = some x) : vTl x = 0 ∧ fP x = l := by
 unfold tN at h
 split at h
 ·unfold DW at h
  split at h
  ·rename_i h1; simp only [Option.some.injEq] at h; subst h; exact h1
  ·cases h
 ·cases h
theorem Me {l : List Nat} {x : Cm} (ho : oct l) (h : wF l = some x) : (vCm x = 0 ∧ jk x = l) ∧ 0 ≤ x.s ∧ x.s < 18446744073709551616 := by
 unfold wF dCm at h
 split at h
 ·cases h
 ·unfold eCm fCm at h
  split at h
  ·cases h
  ·split at h
   ·rename_i h1
    simp only [Option.some.injEq] at h
    subst h
    have := Og (sS l 2).1 (sS l 2).2 (nI ho 2)
    exact ⟨h1, by simp only; omega, by simp only; omega⟩
   ·cases h
theorem MB {l : List Nat} {x : Ll} (ho : oct l) (h : wG l = some x) : vLl x = 0 ∧ 0 ≤ x.s ∧ x.s < 18446744073709551616 := by
 unfold wG at h
 split at h
 ·unfold dLl at h
  split at h
  ·unfold XR at h
   split at h
   ·rename_i h1
    simp only [Option.some.injEq] at h
    subst h
    have := (BN (l.drop (aW l).2.1) (dZ ho _)).1
    exact ⟨h1, by simp only; omega, by simp only; omega⟩
   ·cases h
  ·cases h
 ·cases h
theorem X5 {x : Tp} (h : oct (jc x)) : octE x.e := fun e he => BV (X4 (X4 (F6 (BV h) e he)))
theorem X6 {x : Fq} (h : oct (jd x)) : octE x.e := fun e he => BV (X4 (F6 (BV h) e he))
theorem X7 {x : Rk} (h : oct (je x)) : ∀ l ∈ x.v, octL l := fun l hl k hk => BV (F6 (BV (F6 (BV h) l hl)) k hk)
def skK (k : Int) (a : Tl) (b : Cm) (c : Ll) (d : Tp) (e : Fq) (f : Rk) : Sk := ⟨⟨k, 0, 0, 0⟩, a, b, c, d, e, f⟩
def pY (s : Sk) : Sk := ⟨jT s, s.tl, s.cm, s.ll, s.tp, s.fq, s.rk⟩
def rX (k : Nat) (l : List Nat) : Option Sk :=
 if k = 1 then (tN l).map fun x => skK 1 x Cm.o Ll.o Tp.o Fq.o Rk.o else
 if k = 2 then (wF l).map fun x => skK 2 Tl.o x Ll.o Tp.o Fq.o Rk.o else
 if k = 3 then (wG l).map fun x => skK 3 Tl.o Cm.o x Tp.o Fq.o Rk.o else
 if k = 4 then (wH l).map fun x => skK 4 Tl.o Cm.o Ll.o x Fq.o Rk.o else
 if k = 5 then (wI l).map fun x => skK 5 Tl.o Cm.o Ll.o Tp.o x Rk.o else
 if k = 6 then (wJ l).map fun x => skK 6 Tl.o Cm.o Ll.o Tp.o Fq.o x else none
def qc (l : List Nat) : Option Sk → Sk × Nat
 | none => (Sk.o, 2)
 | some s => if vSk (pY s) = 0 ∧ bW (pY s) = l then (pY s, 0) else (Sk.o, 2)
def Ji (l : List Nat) : Sk × Nat :=
 if unE l ≠ 0 then (Sk.o, unE l) else
 if ¬ (l.getD 0 0 = 83 ∧ unU l + 4 = l.length ∧ (aW (unB l)).2.2 = 0) then (Sk.o, 2) else
 qc l (rX (aW (unB l)).1 ((unB l).drop (aW (unB l)).2.1))
def rSk (r : Sk × Nat) : V := .tup [.agg (skF r.1), vi (r.2 : Nat)]
theorem dH {f : FuncId} {args : List V} {n : Nat} {r : Sk × Nat} (hr : r = (Sk.o, n)) (h : Pg.Good Tryz.prog f args (.tup [.agg (skC Sk.o nls nls nls nls nls), vi (n : Nat)])) : Pg.Good Tryz.prog f args (rSk r) := by
 rw [hr]
 exact Good.wkt h ⟨BK, aj _, trivial⟩
theorem jg : (0 : Int) ≤ 0 ∧ (0 : Int) < 18446744073709551616 := ⟨by decide, by decide⟩
theorem oU : octE [] := fun _ h => nomatch h
theorem adA (l B : List Nat) (u : Nat) (hU : Pg.Good Tryz.prog 94 [fzb l] (.tup [.c (.int .u8 83), fzb B, vi (l.length : Nat), vi 0])) (hN : Pg.Good Tryz.prog 95 [fzb B] (.tup [vi 1, vi (u : Nat), vi 0])) (hu : u ≤ B.length) (oB : oct B) (lB : B.length ≤ 900000) (ol : oct l) :
  Pg.Good Tryz.prog 32 [fzb l] (rSk (qc l (rX 1 (B.drop u)))) := by
 have hcv := fun (l : List Nat) s d K => dV (P := Tryz.prog) s d 48 9 .fz l K (by kernel_rfl) (by kernel_rfl) (by kernel_rfl) (by kernel_rfl)
 have b0 := ai B
 have bL := ai l
 have x0 := iq B u
 have oR := dZ oB u
 have lR : (B.drop u).length ≤ 900000 := by rw [List.length_drop]; omega
 generalize B.drop u = R at *
 have hD := XH R oR (by omega)
 have eP : rX 1 R = (tN R).map fun x => skK 1 x Cm.o Ll.o Tp.o Fq.o Rk.o := rfl
 rw [eP]
 cases hd : tN R with
 | none =>
  rw [FY hd] at hD
  refine dH (n := 2) rfl ?_
  refine gI oW Tryz.func32 Tryz.results32 ?_
  exact wR (aI @pgv (aI @b0 (aI @bL (aI @x0 @hcv)))) (aI hU (aI hN hD)) ah
 | some x =>
  rw [LU hd] at hD
  have hx := Md hd
  skip
  have eW : pY (skK 1 x Cm.o Ll.o Tp.o Fq.o Rk.o) = ⟨⟨1, 0, 0, 0⟩, x, Cm.o, Ll.o, Tp.o, Fq.o, Rk.o⟩ := by simp [pY, jT, skK]
  have ePS : jT (skK 1 x Cm.o Ll.o Tp.o Fq.o Rk.o) = ⟨1, 0, 0, 0⟩ := by simp [jT, skK]
  have eF : qc l (Option.map (fun x => skK 1 x Cm.o Ll.o Tp.o Fq.o Rk.o) (some x)) = if vSk (⟨⟨1, 0, 0, 0⟩, x, Cm.o, Ll.o, Tp.o, Fq.o, Rk.o⟩ : Sk) = 0 ∧ bW ⟨⟨1, 0, 0, 0⟩, x, Cm.o, Ll.o, Tp.o, Fq.o, Rk.o⟩ = l then (⟨⟨1, 0, 0, 0⟩, x, Cm.o, Ll.o, Tp.o, Fq.o, Rk.o⟩, 0) else (Sk.o, 2) := by rw [← eW]; rfl
  have ok : Sk.Ok ⟨⟨1, 0, 0, 0⟩, x, Cm.o, Ll.o, Tp.o, Fq.o, Rk.o⟩ := ⟨jg, jg, jg, Nat.zero_le _, Nat.zero_le _, oU, Nat.zero_le _, oU, Nat.zero_le _, fun _ h => (nomatch h), Nat.zero_le _, fun _ h => nomatch h⟩
  have hP := Good.wk (args' := [.agg (skC (skK 1 x Cm.o Ll.o Tp.o Fq.o Rk.o) nls nls nls nls nls)]) (nH (skK 1 x Cm.o Ll.o Tp.o Fq.o Rk.o) (by show (1 : Int) = 1 ∨ (1 : Int) = 2 ∨ (1 : Int) = 3 ∨ (1 : Int) = 4 ∨ (1 : Int) = 5 ∨ (1 : Int) = 6; omega)) ⟨dK (skK 1 x Cm.o Ll.o Tp.o Fq.o Rk.o) (aA _) (aA _) (aA _) (aA _) (aA _), trivial⟩
  rw [ePS] at hP
  have hE := Good.wk (args' := [.agg (skC ⟨⟨1, 0, 0, 0⟩, x, Cm.o, Ll.o, Tp.o, Fq.o, Rk.o⟩ nls nls nls nls nls)]) (qx ⟨⟨1, 0, 0, 0⟩, x, Cm.o, Ll.o, Tp.o, Fq.o, Rk.o⟩ ok) ⟨dK ⟨⟨1, 0, 0, 0⟩, x, Cm.o, Ll.o, Tp.o, Fq.o, Rk.o⟩ (aA _) (aA _) (aA _) (aA _) (aA _), trivial⟩
  have hW : wkV (.agg (skC ⟨⟨1, 0, 0, 0⟩, x, Cm.o, Ll.o, Tp.o, Fq.o, Rk.o⟩ nls nls nls nls nls)) (.agg (skF ⟨⟨1, 0, 0, 0⟩, x, Cm.o, Ll.o, Tp.o, Fq.o, Rk.o⟩)) := dK ⟨⟨1, 0, 0, 0⟩, x, Cm.o, Ll.o, Tp.o, Fq.o, Rk.o⟩ (aA _) (aA _) (aA _) (aA _) (aA _)
  have hq := jw (nG ⟨⟨1, 0, 0, 0⟩, x, Cm.o, Ll.o, Tp.o, Fq.o, Rk.o⟩ ok).1 ol
  rw [eF]
  clear eF eW ePS ok eP hd
  by_cases hv : vSk (⟨⟨1, 0, 0, 0⟩, x, Cm.o, Ll.o, Tp.o, Fq.o, Rk.o⟩ : Sk) = 0
  ·by_cases he : bW ⟨⟨1, 0, 0, 0⟩, x, Cm.o, Ll.o, Tp.o, Fq.o, Rk.o⟩ = l
   ·rw [if_pos ⟨hv, he⟩]
    refine Good.wkt (vs := [.agg (skC ⟨⟨1, 0, 0, 0⟩, x, Cm.o, Ll.o, Tp.o, Fq.o, Rk.o⟩ nls nls nls nls nls), vi 0]) ?_ ⟨hW, aj _, trivial⟩
    rw [he, hv] at hE
    clear hq he hv hW
    refine gI oW Tryz.func32 Tryz.results32 ?_
    exact wR (aI @pgv (aI @b0 (aI @bL (aI @x0 @hcv)))) (aI hU (aI hN (aI hD (aI hP hE)))) ah
   ·rw [if_neg fun h => he h.2]
    refine dH (n := 2) rfl ?_
    rw [hv] at hE
    rw [decide_eq_false he] at hq
    clear he hv hW
    generalize bW ⟨⟨1, 0, 0, 0⟩, x, Cm.o, Ll.o, Tp.o, Fq.o, Rk.o⟩ = E at *
    refine gI oW Tryz.func32 Tryz.results32 ?_
    exact wR (aI @pgv (aI @b0 (aI @bL (aI @x0 (aI @hcv @hq))))) (aI hU (aI hN (aI hD (aI hP hE)))) ah
  ·rw [if_neg fun h => hv h.1]
   refine dH (n := 2) rfl ?_
   generalize vSk (⟨⟨1, 0, 0, 0⟩, x, Cm.o, Ll.o, Tp.o, Fq.o, Rk.o⟩ : Sk) = v at *
   generalize bW ⟨⟨1, 0, 0, 0⟩, x, Cm.o, Ll.o, Tp.o, Fq.o, Rk.o⟩ = E at *
   clear hW hq
   refine gI oW Tryz.func32 Tryz.results32 ?_
   exact wR (aI @pgv (aI @b0 (aI @bL (aI @x0 @hcv)))) (aI hU (aI hN (aI hD (aI hP hE)))) ah
theorem adB (l B : List Nat) (u : Nat) (hU : Pg.Good Tryz.prog 94 [fzb l] (.tup [.c (.int .u8 83), fzb B, vi (l.length : Nat), vi 0])) (hN : Pg.Good Tryz.prog 95 [fzb B] (.tup [vi 2, vi (u : Nat), vi 0])) (hu : u ≤ B.length) (oB : oct B) (lB : B.length ≤ 900000) (ol : oct l) :
  Pg.Good Tryz.prog 32 [fzb l] (rSk (qc l (rX 2 (B.drop u)))) := by
 have hcv := fun (l : List Nat) s d K => dV (P := Tryz.prog) s d 48 9 .fz l K (by kernel_rfl) (by kernel_rfl) (by kernel_rfl) (by kernel_rfl)
 have b0 := ai B
 have bL := ai l
 have x0 := iq B u
 have oR := dZ oB u
 have lR : (B.drop u).length ≤ 900000 := by rw [List.length_drop]; omega
 generalize B.drop u = R at *
 have hD := XP R oR (by omega)
 have eP : rX 2 R = (wF R).map fun x => skK 2 Tl.o x Ll.o Tp.o Fq.o Rk.o := rfl
 rw [eP]
 cases hd : wF R with
 | none =>
  rw [FY hd] at hD
  refine dH (n := 2) rfl ?_
  refine gI oW Tryz.func32 Tryz.results32 ?_
  exact wR (aI @pgv (aI @b0 (aI @bL (aI @x0 @hcv)))) (aI hU (aI hN hD)) ah
 | some x =>
  rw [LU hd] at hD
  have hx := Me oR hd
  obtain ⟨⟨hv1, _⟩, hs⟩ := hx
  obtain ⟨j1, j2, j3, _⟩ := xI hv1
  have hm := oN j1 j2
  have eW : pY (skK 2 Tl.o x Ll.o Tp.o Fq.o Rk.o) = ⟨⟨2, x.z, x.d, x.s⟩, Tl.o, x, Ll.o, Tp.o, Fq.o, Rk.o⟩ := by simp [pY, jT, skK]
  have ePS : jT (skK 2 Tl.o x Ll.o Tp.o Fq.o Rk.o) = ⟨2, x.z, x.d, x.s⟩ := by simp [jT, skK]
  have eF : qc l (Option.map (fun x => skK 2 Tl.o x Ll.o Tp.o Fq.o Rk.o) (some x)) = if vSk (⟨⟨2, x.z, x.d, x.s⟩, Tl.o, x, Ll.o, Tp.o, Fq.o, Rk.o⟩ : Sk) = 0 ∧ bW ⟨⟨2, x.z, x.d, x.s⟩, Tl.o, x, Ll.o, Tp.o, Fq.o, Rk.o⟩ = l then (⟨⟨2, x.z, x.d, x.s⟩, Tl.o, x, Ll.o, Tp.o, Fq.o, Rk.o⟩, 0) else (Sk.o, 2) := by rw [← eW]; rfl
  have ok : Sk.Ok ⟨⟨2, x.z, x.d, x.s⟩, Tl.o, x, Ll.o, Tp.o, Fq.o, Rk.o⟩ := ⟨hs, hs, jg, by show x.c.length ≤ _; omega, Nat.zero_le _, oU, Nat.zero_le _, oU, Nat.zero_le _, fun _ h => (nomatch h), Nat.zero_le _, fun _ h => nomatch h⟩
  have hP := Good.wk (args' := [.agg (skC (skK 2 Tl.o x Ll.o Tp.o Fq.o Rk.o) (fzi x.c) nls nls nls nls)]) (nH (skK 2 Tl.o x Ll.o Tp.o Fq.o Rk.o) (by show (2 : Int) = 1 ∨ (2 : Int) = 2 ∨ (2 : Int) = 3 ∨ (2 : Int) = 4 ∨ (2 : Int) = 5 ∨ (2 : Int) = 6; omega)) ⟨dK (skK 2 Tl.o x Ll.o Tp.o Fq.o Rk.o) (iR _) (aA _) (aA _) (aA _) (aA _), trivial⟩
  rw [ePS] at hP
  have hE := Good.wk (args' := [.agg (skC ⟨⟨2, x.z, x.d, x.s⟩, Tl.o, x, Ll.o, Tp.o, Fq.o, Rk.o⟩ (fzi x.c) nls nls nls nls)]) (qx ⟨⟨2, x.z, x.d, x.s⟩, Tl.o, x, Ll.o, Tp.o, Fq.o, Rk.o⟩ ok) ⟨dK ⟨⟨2, x.z, x.d, x.s⟩, Tl.o, x, Ll.o, Tp.o, Fq.o, Rk.o⟩ (iR _) (aA _) (aA _) (aA _) (aA _), trivial⟩
  have hW : wkV (.agg (skC ⟨⟨2, x.z, x.d, x.s⟩, Tl.o, x, Ll.o, Tp.o, Fq.o, Rk.o⟩ (fzi x.c) nls nls nls nls)) (.agg (skF ⟨⟨2, x.z, x.d, x.s⟩, Tl.o, x, Ll.o, Tp.o, Fq.o, Rk.o⟩)) := dK ⟨⟨2, x.z, x.d, x.s⟩, Tl.o, x, Ll.o, Tp.o, Fq.o, Rk.o⟩ (iR _) (aA _) (aA _) (aA _) (aA _)
  have hq := jw (nG ⟨⟨2, x.z, x.d, x.s⟩, Tl.o, x, Ll.o, Tp.o, Fq.o, Rk.o⟩ ok).1 ol
  rw [eF]
  clear eF eW ePS ok eP hd
  by_cases hv : vSk (⟨⟨2, x.z, x.d, x.s⟩, Tl.o, x, Ll.o, Tp.o, Fq.o, Rk.o⟩ : Sk) = 0
  ·by_cases he : bW ⟨⟨2, x.z, x.d, x.s⟩, Tl.o, x, Ll.o, Tp.o, Fq.o, Rk.o⟩ = l
   ·rw [if_pos ⟨hv, he⟩]
    refine Good.wkt (vs := [.agg (skC ⟨⟨2, x.z, x.d, x.s⟩, Tl.o, x, Ll.o, Tp.o, Fq.o, Rk.o⟩ (fzi x.c) nls nls nls nls), vi 0]) ?_ ⟨hW, aj _, trivial⟩
    rw [he, hv] at hE
    clear hq he hv hW
    refine gI oW Tryz.func32 Tryz.results32 ?_
    exact wR (aI @pgv (aI @b0 (aI @bL (aI @x0 @hcv)))) (aI hU (aI hN (aI hD (aI hP hE)))) ah
   ·rw [if_neg fun h => he h.2]
    refine dH (n := 2) rfl ?_
    rw [hv] at hE
    rw [decide_eq_false he] at hq
    clear he hv hW
    generalize bW ⟨⟨2, x.z, x.d, x.s⟩, Tl.o, x, Ll.o, Tp.o, Fq.o, Rk.o⟩ = E at *
    refine gI oW Tryz.func32 Tryz.results32 ?_
    exact wR (aI @pgv (aI @b0 (aI @bL (aI @x0 (aI @hcv @hq))))) (aI hU (aI hN (aI hD (aI hP hE)))) ah
  ·rw [if_neg fun h => hv h.1]
   refine dH (n := 2) rfl ?_
   generalize vSk (⟨⟨2, x.z, x.d, x.s⟩, Tl.o, x, Ll.o, Tp.o, Fq.o, Rk.o⟩ : Sk) = v at *
   generalize bW ⟨⟨2, x.z, x.d, x.s⟩, Tl.o, x, Ll.o, Tp.o, Fq.o, Rk.o⟩ = E at *
   clear hW hq
   refine gI oW Tryz.func32 Tryz.results32 ?_
   exact wR (aI @pgv (aI @b0 (aI @bL (aI @x0 @hcv)))) (aI hU (aI hN (aI hD (aI hP hE)))) ah
theorem adC (l B : List Nat) (u : Nat) (hU : Pg.Good Tryz.prog 94 [fzb l] (.tup [.c (.int .u8 83), fzb B, vi (l.length : Nat), vi 0])) (hN : Pg.Good Tryz.prog 95 [fzb B] (.tup [vi 3, vi (u : Nat), vi 0])) (hu : u ≤ B.length) (oB : oct B) (lB : B.length ≤ 900000) (ol : oct l) :
  Pg.Good Tryz.prog 32 [fzb l] (rSk (qc l (rX 3 (B.drop u)))) := by
 have hcv := fun (l : List Nat) s d K => dV (P := Tryz.prog) s d 48 9 .fz l K (by kernel_rfl) (by kernel_rfl) (by kernel_rfl) (by kernel_rfl)
 have b0 := ai B
 have bL := ai l
 have x0 := iq B u
 have oR := dZ oB u
 have lR : (B.drop u).length ≤ 900000 := by rw [List.length_drop]; omega
 generalize B.drop u = R at *
 have hD := XT R oR (by omega)
 have eP : rX 3 R = (wG R).map fun x => skK 3 Tl.o Cm.o x Tp.o Fq.o Rk.o := rfl
 rw [eP]
 cases hd : wG R with
 | none =>
  rw [FY hd] at hD
  refine dH (n := 2) rfl ?_
  refine gI oW Tryz.func32 Tryz.results32 ?_
  exact wR (aI @pgv (aI @b0 (aI @bL (aI @x0 @hcv)))) (aI hU (aI hN hD)) ah
 | some x =>
  rw [LU hd] at hD
  have hx := MB oR hd
  obtain ⟨hv1, hs⟩ := hx
  obtain ⟨j1, j2, _⟩ := xK hv1
  obtain ⟨_, hm, _⟩ := oO j1
  have eW : pY (skK 3 Tl.o Cm.o x Tp.o Fq.o Rk.o) = ⟨⟨3, x.p, 0, x.s⟩, Tl.o, Cm.o, x, Tp.o, Fq.o, Rk.o⟩ := by simp [pY, jT, skK]
  have ePS : jT (skK 3 Tl.o Cm.o x Tp.o Fq.o Rk.o) = ⟨3, x.p, 0, x.s⟩ := by simp [jT, skK]
  have eF : qc l (Option.map (fun x => skK 3 Tl.o Cm.o x Tp.o Fq.o Rk.o) (some x)) = if vSk (⟨⟨3, x.p, 0, x.s⟩, Tl.o, Cm.o, x, Tp.o, Fq.o, Rk.o⟩ : Sk) = 0 ∧ bW ⟨⟨3, x.p, 0, x.s⟩, Tl.o, Cm.o, x, Tp.o, Fq.o, Rk.o⟩ = l then (⟨⟨3, x.p, 0, x.s⟩, Tl.o, Cm.o, x, Tp.o, Fq.o, Rk.o⟩, 0) else (Sk.o, 2) := by rw [← eW]; rfl
  have ok : Sk.Ok ⟨⟨3, x.p, 0, x.s⟩, Tl.o, Cm.o, x, Tp.o, Fq.o, Rk.o⟩ := ⟨hs, jg, hs, Nat.zero_le _, by show x.r.length ≤ _; omega, oU, Nat.zero_le _, oU, Nat.zero_le _, fun _ h => (nomatch h), Nat.zero_le _, fun _ h => nomatch h⟩
  have hP := Good.wk (args' := [.agg (skC (skK 3 Tl.o Cm.o x Tp.o Fq.o Rk.o) nls (fzi x.r) nls nls nls)]) (nH (skK 3 Tl.o Cm.o x Tp.o Fq.o Rk.o) (by show (3 : Int) = 1 ∨ (3 : Int) = 2 ∨ (3 : Int) = 3 ∨ (3 : Int) = 4 ∨ (3 : Int) = 5 ∨ (3 : Int) = 6; omega)) ⟨dK (skK 3 Tl.o Cm.o x Tp.o Fq.o Rk.o) (aA _) (iR _) (aA _) (aA _) (aA _), trivial⟩
  rw [ePS] at hP
  have hE := Good.wk (args' := [.agg (skC ⟨⟨3, x.p, 0, x.s⟩, Tl.o, Cm.o, x, Tp.o, Fq.o, Rk.o⟩ nls (fzi x.r) nls nls nls)]) (qx ⟨⟨3, x.p, 0, x.s⟩, Tl.o, Cm.o, x, Tp.o, Fq.o, Rk.o⟩ ok) ⟨dK ⟨⟨3, x.p, 0, x.s⟩, Tl.o, Cm.o, x, Tp.o, Fq.o, Rk.o⟩ (aA _) (iR _) (aA _) (aA _) (aA _), trivial⟩
  have hW : wkV (.agg (skC ⟨⟨3, x.p, 0, x.s⟩, Tl.o, Cm.o, x, Tp.o, Fq.o, Rk.o⟩ nls (fzi x.r) nls nls nls)) (.agg (skF ⟨⟨3, x.p, 0, x.s⟩, Tl.o, Cm.o, x, Tp.o, Fq.o, Rk.o⟩)) := dK ⟨⟨3, x.p, 0, x.s⟩, Tl.o, Cm.o, x, Tp.o, Fq.o, Rk.o⟩ (aA _) (iR _) (aA _) (aA _) (aA _)
  have hq := jw (nG ⟨⟨3, x.p, 0, x.s⟩, Tl.o, Cm.o, x, Tp.o, Fq.o, Rk.o⟩ ok).1 ol
  rw [eF]
  clear eF eW ePS ok eP hd
  by_cases hv : vSk (⟨⟨3, x.p, 0, x.s⟩, Tl.o, Cm.o, x, Tp.o, Fq.o, Rk.o⟩ : Sk) = 0
  ·by_cases he : bW ⟨⟨3, x.p, 0, x.s⟩, Tl.o, Cm.o, x, Tp.o, Fq.o, Rk.o⟩ = l
   ·rw [if_pos ⟨hv, he⟩]
    refine Good.wkt (vs := [.agg (skC ⟨⟨3, x.p, 0, x.s⟩, Tl.o, Cm.o, x, Tp.o, Fq.o, Rk.o⟩ nls (fzi x.r) nls nls nls), vi 0]) ?_ ⟨hW, aj _, trivial⟩
    rw [he, hv] at hE
    clear hq he hv hW
    refine gI oW Tryz.func32 Tryz.results32 ?_
    exact wR (aI @pgv (aI @b0 (aI @bL (aI @x0 @hcv)))) (aI hU (aI hN (aI hD (aI hP hE)))) ah
   ·rw [if_neg fun h => he h.2]
    refine dH (n := 2) rfl ?_
    rw [hv] at hE
    rw [decide_eq_false he] at hq
    clear he hv hW
    generalize bW ⟨⟨3, x.p, 0, x.s⟩, Tl.o, Cm.o, x, Tp.o, Fq.o, Rk.o⟩ = E at *
    refine gI oW Tryz.func32 Tryz.results32 ?_
    exact wR (aI @pgv (aI @b0 (aI @bL (aI @x0 (aI @hcv @hq))))) (aI hU (aI hN (aI hD (aI hP hE)))) ah
  ·rw [if_neg fun h => hv h.1]
   refine dH (n := 2) rfl ?_
   generalize vSk (⟨⟨3, x.p, 0, x.s⟩, Tl.o, Cm.o, x, Tp.o, Fq.o, Rk.o⟩ : Sk) = v at *
   generalize bW ⟨⟨3, x.p, 0, x.s⟩, Tl.o, Cm.o, x, Tp.o, Fq.o, Rk.o⟩ = E at *
   clear hW hq
   refine gI oW Tryz.func32 Tryz.results32 ?_
   exact wR (aI @pgv (aI @b0 (aI @bL (aI @x0 @hcv)))) (aI hU (aI hN (aI hD (aI hP hE)))) ah
theorem adD (l B : List Nat) (u : Nat) (hU : Pg.Good Tryz.prog 94 [fzb l] (.tup [.c (.int .u8 83), fzb B, vi (l.length : Nat), vi 0])) (hN : Pg.Good Tryz.prog 95 [fzb B] (.tup [vi 4, vi (u : Nat), vi 0])) (hu : u ≤ B.length) (oB : oct B) (lB : B.length ≤ 900000) (ol : oct l) :
  Pg.Good Tryz.prog 32 [fzb l] (rSk (qc l (rX 4 (B.drop u)))) := by
 have hcv := fun (l : List Nat) s d K => dV (P := Tryz.prog) s d 48 9 .fz l K (by kernel_rfl) (by kernel_rfl) (by kernel_rfl) (by kernel_rfl)
 have b0 := ai B
 have bL := ai l
 have x0 := iq B u
 have oR := dZ oB u
 have lR : (B.drop u).length ≤ 900000 := by rw [List.length_drop]; omega
 generalize B.drop u = R at *
 have hD := XW R oR (by omega)
 have eP : rX 4 R = (wH R).map fun x => skK 4 Tl.o Cm.o Ll.o x Fq.o Rk.o := rfl
 rw [eP]
 cases hd : wH R with
 | none =>
  rw [FY hd] at hD
  refine dH (n := 2) rfl ?_
  refine gI oW Tryz.func32 Tryz.results32 ?_
  exact wR (aI @pgv (aI @b0 (aI @bL (aI @x0 @hcv)))) (aI hU (aI hN hD)) ah
 | some x =>
  rw [LU hd] at hD
  have hx := L8 hd
  obtain ⟨hv1, he1⟩ := hx
  obtain ⟨j1, _, j2, _⟩ := uC hv1
  have hoe := X5 (x := x) (by rw [he1]; exact oR)
  have eW : pY (skK 4 Tl.o Cm.o Ll.o x Fq.o Rk.o) = ⟨⟨4, x.z, 0, 0⟩, Tl.o, Cm.o, Ll.o, x, Fq.o, Rk.o⟩ := by simp [pY, jT, skK]
  have ePS : jT (skK 4 Tl.o Cm.o Ll.o x Fq.o Rk.o) = ⟨4, x.z, 0, 0⟩ := by simp [jT, skK]
  have eF : qc l (Option.map (fun x => skK 4 Tl.o Cm.o Ll.o x Fq.o Rk.o) (some x)) = if vSk (⟨⟨4, x.z, 0, 0⟩, Tl.o, Cm.o, Ll.o, x, Fq.o, Rk.o⟩ : Sk) = 0 ∧ bW ⟨⟨4, x.z, 0, 0⟩, Tl.o, Cm.o, Ll.o, x, Fq.o, Rk.o⟩ = l then (⟨⟨4, x.z, 0, 0⟩, Tl.o, Cm.o, Ll.o, x, Fq.o, Rk.o⟩, 0) else (Sk.o, 2) := by rw [← eW]; rfl
  have ok : Sk.Ok ⟨⟨4, x.z, 0, 0⟩, Tl.o, Cm.o, Ll.o, x, Fq.o, Rk.o⟩ := ⟨jg, jg, jg, Nat.zero_le _, Nat.zero_le _, hoe, by show x.e.length ≤ _; omega, oU, Nat.zero_le _, fun _ h => (nomatch h), Nat.zero_le _, fun _ h => nomatch h⟩
  have hP := Good.wk (args' := [.agg (skC (skK 4 Tl.o Cm.o Ll.o x Fq.o Rk.o) nls nls (fzv x.e) nls nls)]) (nH (skK 4 Tl.o Cm.o Ll.o x Fq.o Rk.o) (by show (4 : Int) = 1 ∨ (4 : Int) = 2 ∨ (4 : Int) = 3 ∨ (4 : Int) = 4 ∨ (4 : Int) = 5 ∨ (4 : Int) = 6; omega)) ⟨dK (skK 4 Tl.o Cm.o Ll.o x Fq.o Rk.o) (aA _) (aA _) (iR _) (aA _) (aA _), trivial⟩
  rw [ePS] at hP
  have hE := Good.wk (args' := [.agg (skC ⟨⟨4, x.z, 0, 0⟩, Tl.o, Cm.o, Ll.o, x, Fq.o, Rk.o⟩ nls nls (fzv x.e) nls nls)]) (qx ⟨⟨4, x.z, 0, 0⟩, Tl.o, Cm.o, Ll.o, x, Fq.o, Rk.o⟩ ok) ⟨dK ⟨⟨4, x.z, 0, 0⟩, Tl.o, Cm.o, Ll.o, x, Fq.o, Rk.o⟩ (aA _) (aA _) (iR _) (aA _) (aA _), trivial⟩
  have hW : wkV (.agg (skC ⟨⟨4, x.z, 0, 0⟩, Tl.o, Cm.o, Ll.o, x, Fq.o, Rk.o⟩ nls nls (fzv x.e) nls nls)) (.agg (skF ⟨⟨4, x.z, 0, 0⟩, Tl.o, Cm.o, Ll.o, x, Fq.o, Rk.o⟩)) := dK ⟨⟨4, x.z, 0, 0⟩, Tl.o, Cm.o, Ll.o, x, Fq.o, Rk.o⟩ (aA _) (aA _) (iR _) (aA _) (aA _)
  have hq := jw (nG ⟨⟨4, x.z, 0, 0⟩, Tl.o, Cm.o, Ll.o, x, Fq.o, Rk.o⟩ ok).1 ol
  rw [eF]
  clear eF eW ePS ok eP hd
  by_cases hv : vSk (⟨⟨4, x.z, 0, 0⟩, Tl.o, Cm.o, Ll.o, x, Fq.o, Rk.o⟩ : Sk) = 0
  ·by_cases he : bW ⟨⟨4, x.z, 0, 0⟩, Tl.o, Cm.o, Ll.o, x, Fq.o, Rk.o⟩ = l
   ·rw [if_pos ⟨hv, he⟩]
    refine Good.wkt (vs := [.agg (skC ⟨⟨4, x.z, 0, 0⟩, Tl.o, Cm.o, Ll.o, x, Fq.o, Rk.o⟩ nls nls (fzv x.e) nls nls), vi 0]) ?_ ⟨hW, aj _, trivial⟩
    rw [he, hv] at hE
    clear hq he hv hW
    refine gI oW Tryz.func32 Tryz.results32 ?_
    exact wR (aI @pgv (aI @b0 (aI @bL (aI @x0 @hcv)))) (aI hU (aI hN (aI hD (aI hP hE)))) ah
   ·rw [if_neg fun h => he h.2]
    refine dH (n := 2) rfl ?_
    rw [hv] at hE
    rw [decide_eq_false he] at hq
    clear he hv hW
    generalize bW ⟨⟨4, x.z, 0, 0⟩, Tl.o, Cm.o, Ll.o, x, Fq.o, Rk.o⟩ = E at *
    refine gI oW Tryz.func32 Tryz.results32 ?_
    exact wR (aI @pgv (aI @b0 (aI @bL (aI @x0 (aI @hcv @hq))))) (aI hU (aI hN (aI hD (aI hP hE)))) ah
  ·rw [if_neg fun h => hv h.1]
   refine dH (n := 2) rfl ?_
   generalize vSk (⟨⟨4, x.z, 0, 0⟩, Tl.o, Cm.o, Ll.o, x, Fq.o, Rk.o⟩ : Sk) = v at *
   generalize bW ⟨⟨4, x.z, 0, 0⟩, Tl.o, Cm.o, Ll.o, x, Fq.o, Rk.o⟩ = E at *
   clear hW hq
   refine gI oW Tryz.func32 Tryz.results32 ?_
   exact wR (aI @pgv (aI @b0 (aI @bL (aI @x0 @hcv)))) (aI hU (aI hN (aI hD (aI hP hE)))) ah
theorem adE (l B : List Nat) (u : Nat) (hU : Pg.Good Tryz.prog 94 [fzb l] (.tup [.c (.int .u8 83), fzb B, vi (l.length : Nat), vi 0])) (hN : Pg.Good Tryz.prog 95 [fzb B] (.tup [vi 5, vi (u : Nat), vi 0])) (hu : u ≤ B.length) (oB : oct B) (lB : B.length ≤ 900000) (ol : oct l) :
  Pg.Good Tryz.prog 32 [fzb l] (rSk (qc l (rX 5 (B.drop u)))) := by
 have hcv := fun (l : List Nat) s d K => dV (P := Tryz.prog) s d 48 9 .fz l K (by kernel_rfl) (by kernel_rfl) (by kernel_rfl) (by kernel_rfl)
 have b0 := ai B
 have bL := ai l
 have x0 := iq B u
 have oR := dZ oB u
 have lR : (B.drop u).length ≤ 900000 := by rw [List.length_drop]; omega
 generalize B.drop u = R at *
 have hD := XZ R oR (by omega)
 have eP : rX 5 R = (wI R).map fun x => skK 5 Tl.o Cm.o Ll.o Tp.o x Rk.o := rfl
 rw [eP]
 cases hd : wI R with
 | none =>
  rw [FY hd] at hD
  refine dH (n := 2) rfl ?_
  refine gI oW Tryz.func32 Tryz.results32 ?_
  exact wR (aI @pgv (aI @b0 (aI @bL (aI @x0 @hcv)))) (aI hU (aI hN hD)) ah
 | some x =>
  rw [LU hd] at hD
  have hx := L9 hd
  obtain ⟨hv1, he1⟩ := hx
  obtain ⟨j1, _, _, j2, _⟩ := uD hv1
  have hoe := X6 (x := x) (by rw [he1]; exact oR)
  have eW : pY (skK 5 Tl.o Cm.o Ll.o Tp.o x Rk.o) = ⟨⟨5, x.z, 0, 0⟩, Tl.o, Cm.o, Ll.o, Tp.o, x, Rk.o⟩ := by simp [pY, jT, skK]
  have ePS : jT (skK 5 Tl.o Cm.o Ll.o Tp.o x Rk.o) = ⟨5, x.z, 0, 0⟩ := by simp [jT, skK]
  have eF : qc l (Option.map (fun x => skK 5 Tl.o Cm.o Ll.o Tp.o x Rk.o) (some x)) = if vSk (⟨⟨5, x.z, 0, 0⟩, Tl.o, Cm.o, Ll.o, Tp.o, x, Rk.o⟩ : Sk) = 0 ∧ bW ⟨⟨5, x.z, 0, 0⟩, Tl.o, Cm.o, Ll.o, Tp.o, x, Rk.o⟩ = l then (⟨⟨5, x.z, 0, 0⟩, Tl.o, Cm.o, Ll.o, Tp.o, x, Rk.o⟩, 0) else (Sk.o, 2) := by rw [← eW]; rfl
  have ok : Sk.Ok ⟨⟨5, x.z, 0, 0⟩, Tl.o, Cm.o, Ll.o, Tp.o, x, Rk.o⟩ := ⟨jg, jg, jg, Nat.zero_le _, Nat.zero_le _, oU, Nat.zero_le _, hoe, by show x.e.length ≤ _; omega, fun _ h => (nomatch h), Nat.zero_le _, fun _ h => nomatch h⟩
  have hP := Good.wk (args' := [.agg (skC (skK 5 Tl.o Cm.o Ll.o Tp.o x Rk.o) nls nls nls (fzv x.e) nls)]) (nH (skK 5 Tl.o Cm.o Ll.o Tp.o x Rk.o) (by show (5 : Int) = 1 ∨ (5 : Int) = 2 ∨ (5 : Int) = 3 ∨ (5 : Int) = 4 ∨ (5 : Int) = 5 ∨ (5 : Int) = 6; omega)) ⟨dK (skK 5 Tl.o Cm.o Ll.o Tp.o x Rk.o) (aA _) (aA _) (aA _) (iR _) (aA _), trivial⟩
  rw [ePS] at hP
  have hE := Good.wk (args' := [.agg (skC ⟨⟨5, x.z, 0, 0⟩, Tl.o, Cm.o, Ll.o, Tp.o, x, Rk.o⟩ nls nls nls (fzv x.e) nls)]) (qx ⟨⟨5, x.z, 0, 0⟩, Tl.o, Cm.o, Ll.o, Tp.o, x, Rk.o⟩ ok) ⟨dK ⟨⟨5, x.z, 0, 0⟩, Tl.o, Cm.o, Ll.o, Tp.o, x, Rk.o⟩ (aA _) (aA _) (aA _) (iR _) (aA _), trivial⟩
  have hW : wkV (.agg (skC ⟨⟨5, x.z, 0, 0⟩, Tl.o, Cm.o, Ll.o, Tp.o, x, Rk.o⟩ nls nls nls (fzv x.e) nls)) (.agg (skF ⟨⟨5, x.z, 0, 0⟩, Tl.o, Cm.o, Ll.o, Tp.o, x, Rk.o⟩)) := dK ⟨⟨5, x.z, 0, 0⟩, Tl.o, Cm.o, Ll.o, Tp.o, x, Rk.o⟩ (aA _) (aA _) (aA _) (iR _) (aA _)
  have hq := jw (nG ⟨⟨5, x.z, 0, 0⟩, Tl.o, Cm.o, Ll.o, Tp.o, x, Rk.o⟩ ok).1 ol
  rw [eF]
  clear eF eW ePS ok eP hd
  by_cases hv : vSk (⟨⟨5, x.z, 0, 0⟩, Tl.o, Cm.o, Ll.o, Tp.o, x, Rk.o⟩ : Sk) = 0
  ·by_cases he : bW ⟨⟨5, x.z, 0, 0⟩, Tl.o, Cm.o, Ll.o, Tp.o, x, Rk.o⟩ = l
   ·rw [if_pos ⟨hv, he⟩]
    refine Good.wkt (vs := [.agg (skC ⟨⟨5, x.z, 0, 0⟩, Tl.o, Cm.o, Ll.o, Tp.o, x, Rk.o⟩ nls nls nls (fzv x.e) nls), vi 0]) ?_ ⟨hW, aj _, trivial⟩
    rw [he, hv] at hE
    clear hq he hv hW
    refine gI oW Tryz.func32 Tryz.results32 ?_
    exact wR (aI @pgv (aI @b0 (aI @bL (aI @x0 @hcv)))) (aI hU (aI hN (aI hD (aI hP hE)))) ah
   ·rw [if_neg fun h => he h.2]
    refine dH (n := 2) rfl ?_
    rw [hv] at hE
    rw [decide_eq_false he] at hq
    clear he hv hW
    generalize bW ⟨⟨5, x.z, 0, 0⟩, Tl.o, Cm.o, Ll.o, Tp.o, x, Rk.o⟩ = E at *
    refine gI oW Tryz.func32 Tryz.results32 ?_
    exact wR (aI @pgv (aI @b0 (aI @bL (aI @x0 (aI @hcv @hq))))) (aI hU (aI hN (aI hD (aI hP hE)))) ah
  ·rw [if_neg fun h => hv h.1]
   refine dH (n := 2) rfl ?_
   generalize vSk (⟨⟨5, x.z, 0, 0⟩, Tl.o, Cm.o, Ll.o, Tp.o, x, Rk.o⟩ : Sk) = v at *
   generalize bW ⟨⟨5, x.z, 0, 0⟩, Tl.o, Cm.o, Ll.o, Tp.o, x, Rk.o⟩ = E at *
   clear hW hq
   refine gI oW Tryz.func32 Tryz.results32 ?_
   exact wR (aI @pgv (aI @b0 (aI @bL (aI @x0 @hcv)))) (aI hU (aI hN (aI hD (aI hP hE)))) ah
theorem adF (l B : List Nat) (u : Nat) (hU : Pg.Good Tryz.prog 94 [fzb l] (.tup [.c (.int .u8 83), fzb B, vi (l.length : Nat), vi 0])) (hN : Pg.Good Tryz.prog 95 [fzb B] (.tup [vi 6, vi (u : Nat), vi 0])) (hu : u ≤ B.length) (oB : oct B) (lB : B.length ≤ 900000) (ol : oct l) :
  Pg.Good Tryz.prog 32 [fzb l] (rSk (qc l (rX 6 (B.drop u)))) := by
 have hcv := fun (l : List Nat) s d K => dV (P := Tryz.prog) s d 48 9 .fz l K (by kernel_rfl) (by kernel_rfl) (by kernel_rfl) (by kernel_rfl)
 have b0 := ai B
 have bL := ai l
 have x0 := iq B u
 have oR := dZ oB u
 have lR : (B.drop u).length ≤ 900000 := by rw [List.length_drop]; omega
 generalize B.drop u = R at *
 have hD := X3 R oR (by omega)
 have eP : rX 6 R = (wJ R).map fun x => skK 6 Tl.o Cm.o Ll.o Tp.o Fq.o x := rfl
 rw [eP]
 cases hd : wJ R with
 | none =>
  rw [FY hd] at hD
  refine dH (n := 2) rfl ?_
  refine gI oW Tryz.func32 Tryz.results32 ?_
  exact wR (aI @pgv (aI @b0 (aI @bL (aI @x0 @hcv)))) (aI hU (aI hN hD)) ah
 | some x =>
  rw [LU hd] at hD
  have hx := Mc hd
  obtain ⟨hv1, he1⟩ := hx
  obtain ⟨_, _, _, j2, j3⟩ := uG hv1
  have hoe := X7 (x := x) (by rw [he1]; exact oR)
  have eW : pY (skK 6 Tl.o Cm.o Ll.o Tp.o Fq.o x) = ⟨⟨6, x.z, 0, 0⟩, Tl.o, Cm.o, Ll.o, Tp.o, Fq.o, x⟩ := by simp [pY, jT, skK]
  have ePS : jT (skK 6 Tl.o Cm.o Ll.o Tp.o Fq.o x) = ⟨6, x.z, 0, 0⟩ := by simp [jT, skK]
  have eF : qc l (Option.map (fun x => skK 6 Tl.o Cm.o Ll.o Tp.o Fq.o x) (some x)) = if vSk (⟨⟨6, x.z, 0, 0⟩, Tl.o, Cm.o, Ll.o, Tp.o, Fq.o, x⟩ : Sk) = 0 ∧ bW ⟨⟨6, x.z, 0, 0⟩, Tl.o, Cm.o, Ll.o, Tp.o, Fq.o, x⟩ = l then (⟨⟨6, x.z, 0, 0⟩, Tl.o, Cm.o, Ll.o, Tp.o, Fq.o, x⟩, 0) else (Sk.o, 2) := by rw [← eW]; rfl
  have ok : Sk.Ok ⟨⟨6, x.z, 0, 0⟩, Tl.o, Cm.o, Ll.o, Tp.o, Fq.o, x⟩ := ⟨jg, jg, jg, Nat.zero_le _, Nat.zero_le _, oU, Nat.zero_le _, oU, Nat.zero_le _, hoe, by show x.v.length ≤ _; omega, fun l hl => by obtain ⟨i, hi, he⟩ := gG [] hl; have := j3 i; rw [he] at this; exact Nat.le_trans this (by decide)⟩
  have hP := Good.wk (args' := [.agg (skC (skK 6 Tl.o Cm.o Ll.o Tp.o Fq.o x) nls nls nls nls (fzl x.v))]) (nH (skK 6 Tl.o Cm.o Ll.o Tp.o Fq.o x) (by show (6 : Int) = 1 ∨ (6 : Int) = 2 ∨ (6 : Int) = 3 ∨ (6 : Int) = 4 ∨ (6 : Int) = 5 ∨ (6 : Int) = 6; omega)) ⟨dK (skK 6 Tl.o Cm.o Ll.o Tp.o Fq.o x) (aA _) (aA _) (aA _) (aA _) (iR _), trivial⟩
  rw [ePS] at hP
  have hE := Good.wk (args' := [.agg (skC ⟨⟨6, x.z, 0, 0⟩, Tl.o, Cm.o, Ll.o, Tp.o, Fq.o, x⟩ nls nls nls nls (fzl x.v))]) (qx ⟨⟨6, x.z, 0, 0⟩, Tl.o, Cm.o, Ll.o, Tp.o, Fq.o, x⟩ ok) ⟨dK ⟨⟨6, x.z, 0, 0⟩, Tl.o, Cm.o, Ll.o, Tp.o, Fq.o, x⟩ (aA _) (aA _) (aA _) (aA _) (iR _), trivial⟩
  have hW : wkV (.agg (skC ⟨⟨6, x.z, 0, 0⟩, Tl.o, Cm.o, Ll.o, Tp.o, Fq.o, x⟩ nls nls nls nls (fzl x.v))) (.agg (skF ⟨⟨6, x.z, 0, 0⟩, Tl.o, Cm.o, Ll.o, Tp.o, Fq.o, x⟩)) := dK ⟨⟨6, x.z, 0, 0⟩, Tl.o, Cm.o, Ll.o, Tp.o, Fq.o, x⟩ (aA _) (aA _) (aA _) (aA _) (iR _)
  have hq := jw (nG ⟨⟨6, x.z, 0, 0⟩, Tl.o, Cm.o, Ll.o, Tp.o, Fq.o, x⟩ ok).1 ol
  rw [eF]
  clear eF eW ePS ok eP hd
  by_cases hv : vSk (⟨⟨6, x.z, 0, 0⟩, Tl.o, Cm.o, Ll.o, Tp.o, Fq.o, x⟩ : Sk) = 0
  ·by_cases he : bW ⟨⟨6, x.z, 0, 0⟩, Tl.o, Cm.o, Ll.o, Tp.o, Fq.o, x⟩ = l
   ·rw [if_pos ⟨hv, he⟩]
    refine Good.wkt (vs := [.agg (skC ⟨⟨6, x.z, 0, 0⟩, Tl.o, Cm.o, Ll.o, Tp.o, Fq.o, x⟩ nls nls nls nls (fzl x.v)), vi 0]) ?_ ⟨hW, aj _, trivial⟩
    rw [he, hv] at hE
    clear hq he hv hW
    refine gI oW Tryz.func32 Tryz.results32 ?_
    exact wR (aI @pgv (aI @b0 (aI @bL (aI @x0 @hcv)))) (aI hU (aI hN (aI hD (aI hP hE)))) ah
   ·rw [if_neg fun h => he h.2]
    refine dH (n := 2) rfl ?_
    rw [hv] at hE
    rw [decide_eq_false he] at hq
    clear he hv hW
    generalize bW ⟨⟨6, x.z, 0, 0⟩, Tl.o, Cm.o, Ll.o, Tp.o, Fq.o, x⟩ = E at *
    refine gI oW Tryz.func32 Tryz.results32 ?_
    exact wR (aI @pgv (aI @b0 (aI @bL (aI @x0 (aI @hcv @hq))))) (aI hU (aI hN (aI hD (aI hP hE)))) ah
  ·rw [if_neg fun h => hv h.1]
   refine dH (n := 2) rfl ?_
   generalize vSk (⟨⟨6, x.z, 0, 0⟩, Tl.o, Cm.o, Ll.o, Tp.o, Fq.o, x⟩ : Sk) = v at *
   generalize bW ⟨⟨6, x.z, 0, 0⟩, Tl.o, Cm.o, Ll.o, Tp.o, Fq.o, x⟩ = E at *
   clear hW hq
   refine gI oW Tryz.func32 Tryz.results32 ?_
   exact wR (aI @pgv (aI @b0 (aI @bL (aI @x0 @hcv)))) (aI hU (aI hN (aI hD (aI hP hE)))) ah
theorem X8 (l : List Nat) (ho : oct l) (hl : l.length ≤ 900000) : Pg.Good Tryz.prog 32 [fzb l] (rSk (Ji l)) := by
 have hU := L6 l ho (by omega)
 unfold unV at hU
 have oB : oct (unB l) := dZ (mY ho _) _
 have lB : (unB l).length ≤ l.length := by unfold unB; rw [List.length_drop, List.length_take]; omega
 have hN := eQ (unB l) oB (by omega)
 obtain ⟨m1, m2, m3⟩ := iT (unB l) oB
 unfold uK at hN
 unfold Ji
 have b0 := ai (unB l)
 have bL := ai l
 have x0 := fun u => iq (unB l) u
 have ht := iZ ho 0
 generalize unB l = B at *
 generalize l.getD 0 0 = tag at *
 generalize unU l = us at *
 generalize unE l = e at *
 by_cases h0 : e = 0
 case neg =>
  rw [if_pos h0]
  rw [if_pos h0] at hU
  refine dH (n := e) rfl ?_
  unfold zl at hU
  refine gI oW Tryz.func32 Tryz.results32 ?_
  exact wR trivial hU ah
 case pos =>
  rw [if_neg (fun h => h h0)]
  rw [if_neg (fun h => h h0)] at hU
  by_cases h1 : tag = 83
  case neg =>
   rw [if_pos (fun h => h1 h.1)]
   refine dH (n := 2) rfl ?_
   refine gI oW Tryz.func32 Tryz.results32 ?_
   exact wR (aI @bL @b0) (aI hU hN) ah
  case pos =>
   subst h1
   by_cases h2 : us + 4 = l.length
   case neg =>
    rw [if_pos (fun h => h2 h.2.1)]
    refine dH (n := 2) rfl ?_
    refine gI oW Tryz.func32 Tryz.results32 ?_
    exact wR (aI @bL @b0) (aI hU hN) ah
   case pos =>
    rw [h2] at hU
    generalize hq : aW B = q at *
    obtain ⟨k, u, er⟩ := q
    simp only at hN m1 m2 m3 ⊢
    by_cases h3 : er = 0
    case neg =>
     rw [if_pos (fun h => h3 h.2.2)]
     refine dH (n := 2) rfl ?_
     refine gI oW Tryz.func32 Tryz.results32 ?_
     exact wR (aI @bL @b0) (aI hU hN) ah
    case pos =>
     subst h3
     rw [if_neg (fun h => h ⟨trivial, h2, rfl⟩)]
     by_cases hk : k = 1 ∨ k = 2 ∨ k = 3 ∨ k = 4 ∨ k = 5 ∨ k = 6
     case pos =>
      rcases hk with rfl | rfl | rfl | rfl | rfl | rfl
      ·exact adA l B u hU hN m2 oB (by omega) ho
      ·exact adB l B u hU hN m2 oB (by omega) ho
      ·exact adC l B u hU hN m2 oB (by omega) ho
      ·exact adD l B u hU hN m2 oB (by omega) ho
      ·exact adE l B u hU hN m2 oB (by omega) ho
      ·exact adF l B u hU hN m2 oB (by omega) ho
     case neg =>
      have e : rX k (B.drop u) = none := by
       unfold rX
       rw [if_neg (by omega), if_neg (by omega), if_neg (by omega), if_neg (by omega), if_neg (by omega), if_neg (by omega)]
      rw [e]
      refine dH (n := 2) rfl ?_
      refine gI oW Tryz.func32 Tryz.results32 ?_
      exact wR (aI @pgv (aI @bL (aI @b0 @x0))) (aI hU hN) ah
end Go.Proofs.YtaoejnjkmfkbeaaGreat
