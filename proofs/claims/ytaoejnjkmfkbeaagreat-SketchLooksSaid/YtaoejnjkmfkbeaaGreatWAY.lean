/-
  Texts of this claim, merged; own names are short.
-/
import Derived.Test.YtaoejnjkmfkbeaaGreatWAX
import Derived.Test.YtaoejnjkmfkbeaaGreatWAW
import Derived.ChangeSlices
import Derived.DataReads
import Derived.Test.YtaoejnjkmfkbeaaGreatWAL
import Derived.Test.YtaoejnjkmfkbeaaGreatRows
import Derived.ProofKit
import Derived.Test.YtaoejnjkmfkbeaaGreatWAP
import Derived.Test.YtaoejnjkmfkbeaaGreatWAQ
set_option linter.unusedVariables false
set_option linter.unusedSimpArgs false
set_option linter.unusedSectionVars false
set_option linter.defProp false
set_option maxRecDepth 100000
set_option maxHeartbeats 8000000
namespace Go.Proofs.YtaoejnjkmfkbeaaGreat
open Go Go.Pg
theorem mr (n : Int) : bits .and .i64 n 15 = n % 16 := dL n 4 (by decide)
theorem wu (n : Int) : bits .and .i64 n 7 = n % 8 := dL n 3 (by decide)
theorem mD (n : Int) : bits .and .i64 n 63 = n % 64 := dL n 6 (by decide)
def shK (n : Int) (j : Nat) : Int := n.fdiv (2 ^ min j IntKind.i64.bits)
def spS (s : Sk) (n : Int) : Sk :=
 if n % 16 = 0 then { s with p := { s.p with k := shK n 4 % 8 - 1 } }
 else if n % 16 = 1 then { s with p := { s.p with z := shK n 4 % 64 } }
 else if n % 16 = 2 then { s with p := { s.p with d := shK n 4 % 16 } }
 else if n % 16 = 3 then { s with p := { s.p with s := IntKind.u64.wrap (s.p.s + 1) } }
 else if n % 16 = 4 then { s with tl := { s.tl with i := IntKind.i64.wrap (s.tl.i + 1) } }
 else if n % 16 = 5 then { s with tp := { s.tp with z := IntKind.i64.wrap (s.tp.z + 1) } }
 else if n % 16 = 6 then { s with rk := { s.rk with t := IntKind.i64.wrap (s.rk.t + 1) } }
 else if n % 16 = 7 then { s with cm := { s.cm with b := true } }
 else if n % 16 = 8 then { s with ll := { s.ll with r := s.ll.r ++ [0] } }
 else if n % 16 = 9 then { s with fq := { s.fq with l := IntKind.i64.wrap (s.fq.l + 1) } }
 else s
theorem QK {s : Sk} (h : s.Ok) (hl : s.ll.r.length ≤ 999999) (n : Int) : (spS s n).Ok := by
 unfold spS
 (repeat' split) <;> first
  | exact h
  | exact ⟨h.ps, h.cs, h.ls, h.cn, h.ln, h.to, h.tn, h.fo, h.fn, h.ro, h.rn, h.rm⟩
  | exact ⟨GH _, h.cs, h.ls, h.cn, h.ln, h.to, h.tn, h.fo, h.fn, h.ro, h.rn, h.rm⟩
  | exact ⟨h.ps, h.cs, h.ls, h.cn, by simp only [List.length_append, List.length_cons, List.length_nil]; omega, h.to, h.tn, h.fo, h.fn, h.ro, h.rn, h.rm⟩
theorem G7 (s : Sk) (n : Int) (hl : s.ll.r.length ≤ 999999) : Pg.Good Tryz.prog 9 [.agg (skF s), vi n] (.agg (skF (spS s n))) := by
 obtain ⟨⟨pk, pz, pd, ps⟩, ⟨t1, t2, t3⟩, ⟨c1, c2, c3, c4, c5⟩, ⟨l1, l2, l3⟩, ⟨e1, e2, e3, e4⟩, ⟨f1, f2, f3, f4, f5⟩, ⟨r1, r2, r3, r4, r5⟩⟩ := s
 simp only at hl
 unfold spS shK
 by_cases h0 : n % 16 = 0
 ·rw [if_pos h0]
  refine gI oW Tryz.func9 Tryz.results9 ?_
  exact wR (aI @mr (aI @wu (aI @mD @h0))) trivial ae
 rw [if_neg h0]
 by_cases h1 : n % 16 = 1
 ·rw [if_pos h1]
  refine gI oW Tryz.func9 Tryz.results9 ?_
  exact wR (aI @mr (aI @wu (aI @mD @h1))) trivial ae
 rw [if_neg h1]
 by_cases h2 : n % 16 = 2
 ·rw [if_pos h2]
  refine gI oW Tryz.func9 Tryz.results9 ?_
  exact wR (aI @mr (aI @wu (aI @mD @h2))) trivial ae
 rw [if_neg h2]
 by_cases h3 : n % 16 = 3
 ·rw [if_pos h3]
  refine gI oW Tryz.func9 Tryz.results9 ?_
  exact wR (aI @mr (aI @wu (aI @mD @h3))) trivial ae
 rw [if_neg h3]
 by_cases h4 : n % 16 = 4
 ·rw [if_pos h4]
  refine gI oW Tryz.func9 Tryz.results9 ?_
  exact wR (aI @mr (aI @wu (aI @mD @h4))) trivial ae
 rw [if_neg h4]
 by_cases h5 : n % 16 = 5
 ·rw [if_pos h5]
  refine gI oW Tryz.func9 Tryz.results9 ?_
  exact wR (aI @mr (aI @wu (aI @mD @h5))) trivial ae
 rw [if_neg h5]
 by_cases h6 : n % 16 = 6
 ·rw [if_pos h6]
  refine gI oW Tryz.func9 Tryz.results9 ?_
  exact wR (aI @mr (aI @wu (aI @mD @h6))) trivial ae
 rw [if_neg h6]
 by_cases h7 : n % 16 = 7
 ·rw [if_pos h7]
  refine gI oW Tryz.func9 Tryz.results9 ?_
  exact wR (aI @mr (aI @wu (aI @mD @h7))) trivial ae
 rw [if_neg h7]
 by_cases h8 : n % 16 = 8
 ·rw [if_pos h8]
  have hil := ax l3
  refine Good.fzr (r := .agg (skC ⟨⟨pk, pz, pd, ps⟩, ⟨t1, t2, t3⟩, ⟨c1, c2, c3, c4, c5⟩, ⟨l1, l2, l3⟩, ⟨e1, e2, e3, e4⟩, ⟨f1, f2, f3, f4, f5⟩, ⟨r1, r2, r3, r4, r5⟩⟩ (fzi c4) (.sl (.own 0 3) 1 (iv (l3 ++ [0]))) (fzv e3) (fzv f4) (fzl r4))) ?_ rfl (aB _)
  refine gI oW Tryz.func9 Tryz.results9 ?_
  exact wR (aI @mr (aI @wu (aI @mD (aI @h8 (aI @ax @Gv))))) trivial (ids [2])
 rw [if_neg h8]
 by_cases h9 : n % 16 = 9
 ·rw [if_pos h9]
  refine gI oW Tryz.func9 Tryz.results9 ?_
  exact wR (aI @mr (aI @wu (aI @mD @h9))) trivial ae
 rw [if_neg h9]
 refine gI oW Tryz.func9 Tryz.results9 ?_
 exact wR (aI @mr (aI @wu @mD)) trivial ae
def QL (s : Sk) : Bool := if s.p.k = 1 then s.tl.b else if s.p.k = 2 then s.cm.b else if s.p.k = 4 then s.tp.b else if s.p.k = 5 then s.fq.b else if s.p.k = 6 then s.rk.b else false
def rZ (v : List (List (List Nat))) : Nat → Int
 | 0 => 1
 | n + 1 => rZ v n + (v.getD n []).length
def Dk (s : Sk) : Int := if s.p.k = 1 then 1 else if s.p.k = 2 then s.cm.c.length else if s.p.k = 3 then s.ll.r.length else if s.p.k = 4 then 1 + s.tp.e.length else if s.p.k = 5 then 1 + s.fq.e.length else if s.p.k = 6 then rZ s.rk.v s.rk.v.length else 0
theorem Dl (s : Sk) : Pg.Good Tryz.prog 20 [.agg (skF s)] (vb (QL s)) := by
 unfold QL
 by_cases h1 : s.p.k = 1
 ·rw [if_pos h1]
  refine gI oW Tryz.func20 Tryz.results20 ?_
  exact wR @h1 trivial ae
 rw [if_neg h1]
 by_cases h2 : s.p.k = 2
 ·rw [if_pos h2]
  refine gI oW Tryz.func20 Tryz.results20 ?_
  exact wR @h2 trivial ae
 rw [if_neg h2]
 by_cases h4 : s.p.k = 4
 ·rw [if_pos h4]
  refine gI oW Tryz.func20 Tryz.results20 ?_
  exact wR @h4 trivial ae
 rw [if_neg h4]
 by_cases h5 : s.p.k = 5
 ·rw [if_pos h5]
  refine gI oW Tryz.func20 Tryz.results20 ?_
  exact wR @h5 trivial ae
 rw [if_neg h5]
 by_cases h6 : s.p.k = 6
 ·rw [if_pos h6]
  refine gI oW Tryz.func20 Tryz.results20 ?_
  exact wR @h6 trivial ae
 rw [if_neg h6]
 refine gI oW Tryz.func20 Tryz.results20 ?_
 exact wR trivial trivial ae
theorem wW (s : Sk) : Pg.Good Tryz.prog 21 [.agg (skF s)] (vb (QL s)) := by
 unfold QL
 by_cases h1 : s.p.k = 1
 ·rw [if_pos h1]
  refine gI oW Tryz.func21 Tryz.results21 ?_
  exact wR @h1 trivial ae
 rw [if_neg h1]
 by_cases h2 : s.p.k = 2
 ·rw [if_pos h2]
  refine gI oW Tryz.func21 Tryz.results21 ?_
  exact wR @h2 trivial ae
 rw [if_neg h2]
 by_cases h4 : s.p.k = 4
 ·rw [if_pos h4]
  refine gI oW Tryz.func21 Tryz.results21 ?_
  exact wR @h4 trivial ae
 rw [if_neg h4]
 by_cases h5 : s.p.k = 5
 ·rw [if_pos h5]
  refine gI oW Tryz.func21 Tryz.results21 ?_
  exact wR @h5 trivial ae
 rw [if_neg h5]
 by_cases h6 : s.p.k = 6
 ·rw [if_pos h6]
  refine gI oW Tryz.func21 Tryz.results21 ?_
  exact wR @h6 trivial ae
 rw [if_neg h6]
 refine gI oW Tryz.func21 Tryz.results21 ?_
 exact wR trivial trivial ae
theorem G8 (v : List (List (List Nat))) (hm : ∀ l ∈ v, l.length ≤ 1000000) : ∀ n, n ≤ v.length → 1 ≤ rZ v n ∧ rZ v n ≤ 1 + n * 1000000 := by
 intro n
 induction n with
 | zero => intro _; exact ⟨Int.le_refl _, by simp [rZ]⟩
 | succ n ih =>
  intro hn
  have h1 := ih (by omega)
  have h2 : (v.getD n []).length ≤ 1000000 := by
   have : v.getD n [] = v[n] := by simp [List.getD, show n < v.length by omega]
   rw [this]; exact hm _ (List.getElem_mem _)
  simp only [rZ]
  omega
theorem G9 (s : Sk) (ok : s.Ok) : Pg.Good Tryz.prog 22 [.agg (skF s)] (vi (Dk s)) := by
 have b1 := ok.cn
 have b2 := ok.ln
 have b3 := ok.tn
 have b4 := ok.fn
 have b5 := ok.rn
 have b6 := G8 s.rk.v ok.rm
 clear ok
 unfold Dk
 obtain ⟨⟨pk, pz, pd, ps⟩, ⟨t1, t2, t3⟩, ⟨c1, c2, c3, c4, c5⟩, ⟨l1, l2, l3⟩, ⟨e1, e2, e3, e4⟩, ⟨f1, f2, f3, f4, f5⟩, ⟨r1, r2, r3, r4, r5⟩⟩ := s
 simp only at *
 by_cases h1 : pk = 1
 ·rw [if_pos h1]
  refine gI oW Tryz.func22 Tryz.results22 ?_
  exact wR (aI @h1 (aI @aj (aI @ax @aS))) trivial ae
 rw [if_neg h1]
 by_cases h2 : pk = 2
 ·rw [if_pos h2]
  refine gI oW Tryz.func22 Tryz.results22 ?_
  exact wR (aI @h2 (aI @aj (aI @ax @aS))) trivial ae
 rw [if_neg h2]
 by_cases h3 : pk = 3
 ·rw [if_pos h3]
  refine gI oW Tryz.func22 Tryz.results22 ?_
  exact wR (aI @h3 (aI @aj (aI @ax @aS))) trivial ae
 rw [if_neg h3]
 by_cases h4 : pk = 4
 ·rw [if_pos h4]
  refine gI oW Tryz.func22 Tryz.results22 ?_
  exact wR (aI @h4 (aI @aj (aI @ax @aS))) trivial ae
 rw [if_neg h4]
 by_cases h5 : pk = 5
 ·rw [if_pos h5]
  refine gI oW Tryz.func22 Tryz.results22 ?_
  exact wR (aI @h5 (aI @aj (aI @ax @aS))) trivial ae
 rw [if_neg h5]
 by_cases h6 : pk = 6
 ·rw [if_pos h6]
  have hel := aS r4
  refine gI oW Tryz.func22 Tryz.results22 ?_
  refine wS (aI @h6 (aI @aj (aI @ax @aS))) trivial ?_
  refine aK (fun i : Nat => mkA [(3, vi (rZ r4 i)), (41, fzl r4), (42, vi r4.length), (43, vi i)] [] 0 (fun _ => .top)) (fun i => i ≤ r4.length) (fun i => r4.length - i) 0 [] [] ?_ (Nat.zero_le _) ?_
  ·exact kE
   all_goals first | exact aX rfl | skip
  ·intro i hi
   replace hi : i ≤ r4.length := hi
   rcases Nat.lt_or_ge i r4.length with hlt | hge
   ·have hg := jo r4 i hlt
    have eun : rZ r4 (i + 1) = rZ r4 i + (r4.getD i []).length := rfl
    have hb := b6 i hi
    have hb2 := b6 (i + 1) hlt
    rw [eun] at hb2
    generalize hlev : r4.getD i [] = lev at *
    have hsl := bU lev
    refine wS (aI @hel (aI @hg @hsl)) trivial ?_
    (refine aQ (i + 1) [] [] (hlt) (by first | omega | (simp only [List.length_cons]; omega)) ?_; (refine bZ ?_ ?_ (fC _ _ _) (by decide) (by decide) (by decide) (by decide); (repeat' (first | exact trivial | refine bQ _ _ rfl rfl ?_ ?_)); all_goals (try simp only [pgs, pgl, pgx, pgf, pgw, bI, bV, bJ, bW, dJ, gK, eP, pgn, simprocAttr]); all_goals (try (repeat' (first | apply aI))); all_goals (try (first | exact trivial | exact aX (by omega) | exact dQ rfl | exact aP rfl rfl | exact dK rfl))))
    all_goals first | exact aX (by rw [eun, hlev]) | exact aX eun.symm | skip
   ·have : i = r4.length := by omega
    subst this
    exact wR @hel trivial ae
 rw [if_neg h6]
 refine gI oW Tryz.func22 Tryz.results22 ?_
 exact wR trivial trivial ae
theorem KN (s : Sk) (ok : s.Ok) : Pg.Good Tryz.prog 23 [.agg (skF s)] (vi (Dk s)) := by
 have b1 := ok.cn
 have b2 := ok.ln
 have b3 := ok.tn
 have b4 := ok.fn
 have b5 := ok.rn
 have b6 := G8 s.rk.v ok.rm
 clear ok
 unfold Dk
 obtain ⟨⟨pk, pz, pd, ps⟩, ⟨t1, t2, t3⟩, ⟨c1, c2, c3, c4, c5⟩, ⟨l1, l2, l3⟩, ⟨e1, e2, e3, e4⟩, ⟨f1, f2, f3, f4, f5⟩, ⟨r1, r2, r3, r4, r5⟩⟩ := s
 simp only at *
 by_cases h1 : pk = 1
 ·rw [if_pos h1]
  refine gI oW Tryz.func23 Tryz.results23 ?_
  exact wR (aI @h1 (aI @aj (aI @ax @aS))) trivial ae
 rw [if_neg h1]
 by_cases h2 : pk = 2
 ·rw [if_pos h2]
  refine gI oW Tryz.func23 Tryz.results23 ?_
  exact wR (aI @h2 (aI @aj (aI @ax @aS))) trivial ae
 rw [if_neg h2]
 by_cases h3 : pk = 3
 ·rw [if_pos h3]
  refine gI oW Tryz.func23 Tryz.results23 ?_
  exact wR (aI @h3 (aI @aj (aI @ax @aS))) trivial ae
 rw [if_neg h3]
 by_cases h4 : pk = 4
 ·rw [if_pos h4]
  refine gI oW Tryz.func23 Tryz.results23 ?_
  exact wR (aI @h4 (aI @aj (aI @ax @aS))) trivial ae
 rw [if_neg h4]
 by_cases h5 : pk = 5
 ·rw [if_pos h5]
  refine gI oW Tryz.func23 Tryz.results23 ?_
  exact wR (aI @h5 (aI @aj (aI @ax @aS))) trivial ae
 rw [if_neg h5]
 by_cases h6 : pk = 6
 ·rw [if_pos h6]
  have hel := aS r4
  refine gI oW Tryz.func23 Tryz.results23 ?_
  refine wS (aI @h6 (aI @aj (aI @ax @aS))) trivial ?_
  refine aK (fun i : Nat => mkA [(1, .ref 0 0), (3, vi (rZ r4 i)), (4, vi i)] [(0, (41, skF ⟨⟨pk, pz, pd, ps⟩, ⟨t1, t2, t3⟩, ⟨c1, c2, c3, c4, c5⟩, ⟨l1, l2, l3⟩, ⟨e1, e2, e3, e4⟩, ⟨f1, f2, f3, f4, f5⟩, ⟨r1, r2, r3, r4, r5⟩⟩))] 1 (fun _ => .top)) (fun i => i ≤ r4.length) (fun i => r4.length - i) 0 [] [0] ?_ (Nat.zero_le _) ?_
  ·exact kE
   all_goals first | exact aX rfl | skip
  ·intro i hi
   replace hi : i ≤ r4.length := hi
   rcases Nat.lt_or_ge i r4.length with hlt | hge
   ·have hg := jo r4 i hlt
    have eun : rZ r4 (i + 1) = rZ r4 i + (r4.getD i []).length := rfl
    have hb := b6 i hi
    have hb2 := b6 (i + 1) hlt
    rw [eun] at hb2
    generalize hlev : r4.getD i [] = lev at *
    have hsl := bU lev
    refine wS (aI @hel (aI @hg @hsl)) trivial ?_
    (refine aQ (i + 1) [] [0] (hlt) (by first | omega | (simp only [List.length_cons]; omega)) ?_; (refine bZ ?_ ?_ (fC _ _ _) (by decide) (by decide) (by decide) (by decide); (repeat' (first | exact trivial | refine bQ _ _ rfl rfl ?_ ?_)); all_goals (try simp only [pgs, pgl, pgx, pgf, pgw, bI, bV, bJ, bW, dJ, gK, eP, pgn, simprocAttr]); all_goals (try (repeat' (first | apply aI))); all_goals (try (first | exact trivial | exact aX (by omega) | exact dQ rfl | exact aP rfl rfl | exact dK rfl))))
    all_goals first | exact aX (by rw [eun, hlev]) | exact aX eun.symm | skip
   ·have : i = r4.length := by omega
    subst this
    exact wR @hel trivial ae
 rw [if_neg h6]
 refine gI oW Tryz.func23 Tryz.results23 ?_
 exact wR trivial trivial ae
theorem pO (a b : Sk) : Pg.Good Tryz.prog 19 [.agg (skF a), .agg (skF b)] (vb (decide (samP a.p b.p))) := by
 refine gI oW Tryz.func19 Tryz.results19 ?_
 exact wR @GZ trivial ae
theorem KO (l : Ll) (k : List Nat) (w : Int) : (lF l k w).1.r.length ≤ l.r.length := by
 unfold lF
 split
 ·exact Nat.zero_le _
 ·split
  ·exact Nat.zero_le _
  ·simp
theorem QM (s : Sk) (k : List Nat) (w : Int) (co : List Nat) (at' : Int) : (aV s k w co at').1.ll.r.length ≤ s.ll.r.length := by
 unfold aV
 (repeat' split) <;> first | exact Nat.zero_le _ | exact Nat.le_refl _ | exact KO _ _ _
theorem QN (p : Pm) (h : vp p.k p.z p.d p.s = 0) : (gB p).ll.r.length ≤ 256 := by
 unfold gB
 (repeat' split) <;> first | exact Nat.zero_le _ | skip
 rename_i h3
 have h4 := nY (Xf (by rw [h3] at h; exact h))
 simpa [zer] using h4.2.1
theorem QO (p : Pm) (h : vp p.k p.z p.d p.s = 0) (its : List (List Nat × Int)) (co : List Nat) (i : Nat) : (iT p its co i).1.ll.r.length ≤ 256 := by
 induction i with
 | zero => exact QN p h
 | succ i ih => exact Nat.le_trans (QM _ _ _ _ _) ih
theorem ww (l : List Int) : (gJ l).ll.r.length ≤ 256 := QO _ (zM _) _ _ _
theorem Vd (a b m : Int) (hm : m ≤ 4611686018427387904) (ha : W64 a) (hb : W64 b) : Pg.Good Tryz.prog 113 [vi a, vi b, vi m] (.tup [vi (iU a b m).1, vb (iU a b m).2]) := by
 have h1 := fG a
 have h2 := fG b
 have h3 := fG m
 obtain ⟨a0, a1⟩ := ha
 obtain ⟨b0, b1⟩ := hb
 have e : iU a b m = if dI a > dI m ∨ dI b > dI m - dI a then (dI m, true) else (dI a + dI b, false) := rfl
 by_cases c1 : dI m < dI a + dI b
 ·rw [if_pos (by omega)] at e
  rw [e]
  refine gI oW Tryz.func113 Tryz.results113 ?_
  exact wR (aI @mmT @WQ) trivial ae
 ·rw [if_neg (by omega)] at e
  rw [e]
  refine gI oW Tryz.func113 Tryz.results113 ?_
  exact wR (aI @mmT @WQ) trivial ae
theorem Xi (t : Tl) (n i : Int) (h1 : W64 t.t) (h2 : W64 t.i) (h3 : W64 n) (h4 : W64 i) : Pg.Good Tryz.prog 108 [.agg (tlF t), vi n, vi i] (.agg (tlF (vk t ⟨n, i, false⟩))) := by
 obtain ⟨a1, a2, a3⟩ := t
 simp only at h1 h2
 unfold vk
 simp only
 have k1 := Vd a1 n 4294967295 (by decide) h1 h3
 have k2 := Vd a2 i 4294967295 (by decide) h2 h4
 generalize iU a1 n 4294967295 = x at *
 generalize iU a2 i 4294967295 = y at *
 obtain ⟨x1, x2⟩ := x
 obtain ⟨y1, y2⟩ := y
 simp only at k1 k2 ⊢
 refine gI oW Tryz.func108 Tryz.results108 ?_
 cases a3 <;> cases x2 <;> cases y2
 all_goals
  exact wR trivial (aI k1 k2) ae
theorem U0 (t : Tl) (k : List Nat) (w : Int) : Pg.Good Tryz.prog 40 [.agg (tlF t), .agg [vs k, vi w]] (.tup [.agg (tlF (o9 t k w).1), vi (o9 t k w).2]) := by
 have h1 := C9 t
 have h2 := lV k w
 unfold o9
 by_cases c1 : vTl t = 0
 ·rw [if_neg (by omega)]
  rw [c1] at h1
  by_cases c2 : bD k w = 0
  ·rw [if_neg (by omega)]
   rw [c2] at h2
   have h3 := Xi t w 1 (zl c1).1 (zl c1).2 (show W64 w from by have := jq c2; unfold W64; omega) (show W64 1 from ⟨by decide, by decide⟩)
   generalize vk t ⟨w, 1, false⟩ = r at *
   refine gI oW Tryz.func40 Tryz.results40 ?_
   exact wR trivial (aI h1 (aI h2 h3)) ae
  ·rw [if_pos (by omega)]
   refine gI oW Tryz.func40 Tryz.results40 ?_
   exact wR trivial (aI h1 h2) ae
 ·rw [if_pos (by omega)]
  refine gI oW Tryz.func40 Tryz.results40 ?_
  exact wR trivial h1 ae
theorem U1 : Pg.Good Tryz.prog 149 [] (.agg (tlF Tl.o)) := by
 refine gI oW Tryz.func149 Tryz.results149 ?_
 exact wR trivial trivial ae
theorem U2 (n : Int) : Pg.Good Tryz.prog 39 [vi n] (vb (decide (0 ≤ n ∧ n ≤ 1073741824))) := by
 by_cases h1 : 0 ≤ n
 ·by_cases h2 : n ≤ 1073741824
  ·rw [decide_eq_true ⟨h1, h2⟩]
   refine gI oW Tryz.func39 Tryz.results39 ?_
   exact wR trivial trivial ae
  ·rw [decide_eq_false (fun h => h2 h.2)]
   refine gI oW Tryz.func39 Tryz.results39 ?_
   exact wR trivial trivial ae
 ·rw [decide_eq_false (fun h => h1 h.1)]
  refine gI oW Tryz.func39 Tryz.results39 ?_
  exact wR trivial trivial ae
abbrev S1 : Sk := ⟨⟨1, 0, 0, 0⟩, Tl.o, Cm.o, Ll.o, Tp.o, Fq.o, Rk.o⟩
abbrev S2 : Sk := ⟨⟨1, 0, 0, 0⟩, ⟨3, 1, false⟩, Cm.o, Ll.o, Tp.o, Fq.o, Rk.o⟩
theorem QP : octE [] := fun _ h => by cases h
theorem Ve (p : Pm) (t : Tl) (h : 0 ≤ p.s ∧ p.s < 18446744073709551616) : Sk.Ok ⟨p, t, Cm.o, Ll.o, Tp.o, Fq.o, Rk.o⟩ :=
 ⟨h, (⟨by decide, by decide⟩ : (0 : Int) ≤ 0 ∧ (0 : Int) < 18446744073709551616), (⟨by decide, by decide⟩ : (0 : Int) ≤ 0 ∧ (0 : Int) < 18446744073709551616), Nat.zero_le _, Nat.zero_le _, QP, Nat.zero_le _, QP, Nat.zero_le _, (fun _ h => by cases h), Nat.zero_le _, (fun _ h => by cases h)⟩
theorem Xj : Pg.Good Tryz.prog 59 [.agg [vi 1, vi 0, vi 0, vu 0]] (.tup [.agg (skF S1), vi 0]) := by
 have h1 : Pg.Good Tryz.prog 60 [.agg [vi 1, vi 0, vi 0, vu 0]] (vi 0) := gZ 1 0 0 0
 refine Good.wkt (vs := [.agg (skC S1 nls nls nls nls nls), vi 0]) ?_ ⟨fE S1 (aG _) (aG _) (aG _) (aG _) (aG _), aB _, trivial⟩
 refine gI oW Tryz.func59 Tryz.results59 ?_
 exact wR trivial (aI h1 U1) ae
theorem Xk : Pg.Good Tryz.prog 59 [.agg [vi 1, vi 1, vi 0, vu 0]] (.tup [.agg (skF Sk.o), vi 10]) := by
 have h1 : Pg.Good Tryz.prog 60 [.agg [vi 1, vi 1, vi 0, vu 0]] (vi 10) := gZ 1 1 0 0
 refine Good.wkt (vs := [.agg (skC Sk.o nls nls nls nls nls), vi 10]) ?_ ⟨zD, aB _, trivial⟩
 refine gI oW Tryz.func59 Tryz.results59 ?_
 exact wR trivial h1 ae
theorem FQ : Pg.Good Tryz.prog 13 [.agg (skF S1), .agg [vs [97], vi 3], nls, vi 5] (.tup [.agg (skF S2), vi 5, vi 0]) := by
 have h1 : Pg.Good Tryz.prog 17 [.agg (skF S1)] (vi 0) := vX S1 (Ve _ _ ⟨by decide, by decide⟩)
 have h2 : Pg.Good Tryz.prog 38 [.agg [vs [97], vi 3]] (vi 0) := lV [97] 3
 have h3 : Pg.Good Tryz.prog 39 [vi 5] (vb true) := U2 5
 have h4 : Pg.Good Tryz.prog 40 [.agg (tlF Tl.o), .agg [vs [97], vi 3]] (.tup [.agg [vi 3, vi 1, vb false], vi 0]) := U0 Tl.o [97] 3
 refine Good.wkt (vs := [.agg (skC S2 nls nls nls nls nls), vi 5, vi 0]) ?_ ⟨fE S2 (aG _) (aG _) (aG _) (aG _) (aG _), aB _, aB _, trivial⟩
 refine gI oW Tryz.func13 Tryz.results13 ?_
 exact wR trivial (aI h1 (aI h2 (aI h3 h4))) ae
theorem U3 : Pg.Good Tryz.prog 16 [] (vb true) := by
 have h4 : Pg.Good Tryz.prog 22 [.agg (skF S2)] (vi 1) := G9 S2 (Ve _ _ ⟨by decide, by decide⟩)
 have ha : (⟨#[97]⟩ : ByteArray) = sB [97] := by rfl
 refine gI oW Tryz.func16 Tryz.results16 ?_
 exact wR @ha (aI Xj (aI Xk (aI FQ h4))) ae
theorem qI (l m : List Int) (n : Int) (hl : l.length ≤ 9223372036854775807) (hm : m.length ≤ 9223372036854775807) : Pg.Good Tryz.prog 4 [fzi l, fzi m, vi n] (vb true) := by
 have h1 := xQ l hl
 have h2 := xQ m hm
 have l1 := ww l
 have l2 := ww m
 have h3 := G7 (gJ l) n (by omega)
 have h4 := G7 (gJ m) (n.fdiv (2 ^ min 8 IntKind.i64.bits)) (by omega)
 have o1 := QK (wo l) (by omega) n
 have o2 := QK (wo m) (by omega) (n.fdiv (2 ^ min 8 IntKind.i64.bits))
 generalize spS (gJ l) n = A at *
 generalize spS (gJ m) (n.fdiv (2 ^ min 8 IntKind.i64.bits)) = B at *
 generalize gJ l = X at *
 generalize gJ m = Y at *
 clear l1 l2
 have k1 := vX A o1
 have k2 := dH A o1
 have k3 := pO A B
 have k4 := pO A A
 have e4 : decide (samP A.p A.p) = true := decide_eq_true ⟨rfl, rfl, rfl, rfl⟩
 rw [e4] at k4
 clear e4
 have k5 := Dl A
 have k6 := wW A
 have k7 := G9 A o1
 have k8 := KN A o1
 generalize vSk A = v at *
 generalize QL A = sa at *
 generalize Dk A = u at *
 have hE := GZ A.p B.p
 generalize decide (samP A.p B.p) = c at *
 clear o1 o2
 obtain ⟨⟨pk, pz, pd, ps⟩, ⟨t1, t2, t3⟩, ⟨c1, c2, c3, c4, c5⟩, ⟨l1, l2, l3⟩, ⟨e1, e2, e3, e4⟩, ⟨f1, f2, f3, f4, f5⟩, ⟨q1, q2, q3, q4, q5⟩⟩ := A
 obtain ⟨⟨pk', pz', pd', ps'⟩, ⟨t1', t2', t3'⟩, ⟨c1', c2', c3', c4', c5'⟩, ⟨l1', l2', l3'⟩, ⟨e1', e2', e3', e4'⟩, ⟨f1', f2', f3', f4', f5'⟩, ⟨q1', q2', q3', q4', q5'⟩⟩ := B
 simp only at *
 refine gI oW Tryz.func4 Tryz.results4 ?_
 exact wR (aI @hE @beq_self_eq_true.{0}) (aI h1 (aI h2 (aI h3 (aI h4 (aI k1 (aI k2 (aI k3 (aI k4 (aI k5 (aI k6 (aI k7 (aI k8 U3)))))))))))) ae
end Go.Proofs.YtaoejnjkmfkbeaaGreat
section
namespace Go.Pg
open Go Go.ChangeShapes Go.WideShapes
theorem Yu {w : World} {g o : Nat} {vs : List Value} (hp : 0 < vs.length) (h : ∀ i, i < vs.length → w.cell? ⟨g, o + i, none⟩ = vs[i]?) : Pg.Row w g o vs := by
 have h0 := h 0 hp
 rw [List.getElem?_eq_getElem hp] at h0
 unfold World.cell? at h0
 split at h0
 ·rename_i arr e fr hg
  refine ⟨arr, e, fr, hg, ?_⟩
  apply List.ext_getElem?
  intro i
  rw [List.getElem?_take]
  split
  ·rename_i hi
   have hi' := h i hi
   unfold World.cell? at hi'
   simp only [hg] at hi'
   rw [List.getElem?_drop, Array.getElem?_toList]
   simpa using hi'
  ·rename_i hi
   rw [List.getElem?_eq_none (by omega)]
 ·cases h0
section
variable {H : Type} {enc : TypeId × Value → H} {P : Program} {w : World} {base : Nat} {spare : Nat → Bool} {held : Bool}
structure Elem (enc : TypeId × Value → H) (P : Program) (w : World) (base : Nat) (spare : Nat → Bool) (held : Bool) (e : TypeId) (k : Nat) {α : Type} (Ok : α → Prop) (el : α → V) (elc : α → List Value) : Prop where
 pos : 0 < k
 cells : P.cellsOf e = k
 len : ∀ a, (elc a).length = k
 get : ∀ n cs x, DataW.trod enc P w base spare held n e cs = some x → ∃ a, Ok a ∧ cs = elc a
 rep : ∀ a L w', ∃ u : Value, u.cells.toList = elc a ∧ u.cells.size = k ∧ ((el a).free = true ∧ u.cells.toList.all Value.oneCell' = true) ∧ Rep L w' (el a) u
theorem Elem.repE {e : TypeId} {k : Nat} {α : Type} {Ok : α → Prop} {el : α → V} {elc : α → List Value} (E : Elem enc P w base spare held e k Ok el elc) (L : Lay) (w' : World) : ∀ l : List α, RepE L w' k (l.map el) (l.map elc).flatten := by
 intro l
 induction l with
 | nil => rfl
 | cons a l ih =>
  obtain ⟨u, h1, h2, h3, h4⟩ := E.rep a L w'
  exact ⟨u, (l.map elc).flatten, by rw [h1]; rfl, h2, h3, h4, ih⟩
theorem Yw {t e : TypeId} {k : Nat} {α : Type} {Ok : α → Prop} {el : α → V} {elc : α → List Value} (E : Elem enc P w base spare held e k Ok el elc) (ht : P.underlying t = some (.slice e)) {fuel : Nat} {cs : List Value} {x : DataW H × List MemPlace} (h : DataW.trod enc P w base spare held fuel t cs = some x) :
  ∃ l : List α, (∀ a ∈ l, Ok a) ∧ ∃ u, cs = [u] ∧ Rep ⟨fun g => g < w.heap.size, fun _ => none, fun _ => none⟩ w (.sl .fz k (l.map el)) u := by
 rcases DataW.trod_slice ht h with ⟨rfl, _⟩ | ⟨a, len, cap, elems, rest, n, _, rfl, rfl, hb, hl, hm, hlen, hel, _, _⟩
 ·exact ⟨[], (fun a h => by cases h), _, rfl, none, 0, [], rfl, rfl, Nat.le_refl _, .inl rfl⟩
 have each : ∀ i, i < len → ∃ y : α, Ok y ∧ w.cells? base (a.add (i * k)) k = some (elc y) := by
  intro i hi
  have h1 := hel i hi
  rw [E.cells, List.getElem?_eq_getElem (by omega), Option.bind_eq_some_iff] at h1
  obtain ⟨cs', h2, h3⟩ := h1
  obtain ⟨y, hy, rfl⟩ := E.get _ _ _ h3
  exact ⟨y, hy, h2⟩
 rcases Nat.eq_zero_or_pos len with hz | hz
 ·subst hz
  exact ⟨[], (fun a h => by cases h), _, rfl, some a, cap, [], rfl, rfl, Nat.zero_le _, .inl rfl⟩
 obtain ⟨g, o, spot⟩ := a
 have hspot : spot = none := by
  obtain ⟨y, hy, hc⟩ := each 0 hz
  obtain ⟨hcb, hcl, hcc⟩ := World.cells?_some hc
  have h5 := hcc 0 E.pos
  rw [List.getElem?_eq_getElem (by rw [hcl]; exact E.pos)] at h5
  have := World.cell?_spot h5
  simpa [Addr.add] using this
 subst hspot
 have main : ∀ m, m ≤ len → ∃ l : List α, l.length = m ∧ (∀ y ∈ l, Ok y) ∧ ((l.map elc).flatten).length = m * k ∧ ∀ j, j < m * k → w.cell? ((⟨g, o, none⟩ : Addr).add j) = ((l.map elc).flatten)[j]? := by
  intro m
  induction m with
  | zero => intro _; exact ⟨[], rfl, (fun y h => by cases h), by simp, fun j hj => by omega⟩
  | succ m ih =>
   intro hm'
   obtain ⟨l, h1, h2, h3, h4⟩ := ih (by omega)
   obtain ⟨y, hy, hc⟩ := each m (by omega)
   obtain ⟨hcb, hcl, hcc⟩ := World.cells?_some hc
   have hyl := E.len y
   refine ⟨l ++ [y], by simp [h1], ?_, ?_, ?_⟩
   ·intro z hz
    rcases List.mem_append.1 hz with hz | hz
    ·exact h2 z hz
    ·rw [List.mem_singleton.1 hz]; exact hy
   ·rw [List.map_append, List.flatten_append, List.length_append, h3, Nat.add_mul]
    simp [hyl]
   ·intro j hj
    rw [Nat.add_mul, Nat.one_mul] at hj
    rw [List.map_append, List.flatten_append]
    rcases Nat.lt_or_ge j (m * k) with hlt | hge
    ·rw [List.getElem?_append_left (by omega)]; exact h4 j hlt
    ·rw [List.getElem?_append_right (by omega), h3]
     have h5 := hcc (j - m * k) (by omega)
     have e1 : ((⟨g, o, none⟩ : Addr).add (m * k)).add (j - m * k) = (⟨g, o, none⟩ : Addr).add j := by
      rw [Pg.eX, Pg.eX, Pg.eX, Nat.add_assoc, Nat.add_sub_cancel' hge]
     rw [e1] at h5
     simpa using h5
 obtain ⟨l, h1, h2, h3, h4⟩ := main len (Nat.le_refl _)
 refine ⟨l, h2, _, rfl, some ⟨g, o, none⟩, cap, (l.map elc).flatten, by rw [List.length_map, h1], E.repE _ _ l, ?_⟩
 rw [List.length_map, h1]
 refine ⟨hl, ?_⟩
 rcases Nat.eq_zero_or_pos len with h0 | h0
 ·exact .inl h0
 ·right
  have hpos : 0 < len * k := Nat.mul_pos h0 E.pos
  have hrow : Pg.Row w g o (l.map elc).flatten := by
   refine Yu (by omega) (fun i hi => ?_)
   have := h4 i (by omega)
   rw [Pg.eX] at this
   exact this
  refine ⟨g, o, rfl, ?_, hrow⟩
  obtain ⟨arr, e', fr, hg, _⟩ := hrow
  exact (Array.getElem?_eq_some_iff.1 hg).1
end
end Go.Pg
end
section
namespace Go.Proofs.YtaoejnjkmfkbeaaGreat
open Go Go.ChangeShapes Go.WideShapes Go.ChangeAt Go.RowKit
theorem own : ownKnob Tryz.prog.godebug = none := by kernel_rfl
theorem Ha : laidOutB Tryz.prog = true := by kernel_rfl
theorem Yv {W W' : World} (hk : Pg.Kp (fun _ => False) W.heap.size W W') : Below W.heap.size W W' := ⟨hk.os, hk.tape, hk.output, hk.size, fun k h => hk.block k h (fun h => h)⟩
abbrev LW (w : World) : Pg.Lay := ⟨fun g => g < w.heap.size, fun _ => none, fun _ => none⟩
def WtI (n : Int) : Prop := -9223372036854775808 ≤ n ∧ n ≤ 9223372036854775807
theorem Xl {n : Int} (h : (Lit.int .i64 n).wf = true) : WtI n := by
 simp only [Lit.wf, Bool.and_eq_true, decide_eq_true_eq] at h
 have e1 : IntKind.i64.min = -9223372036854775808 := rfl
 have e2 : IntKind.i64.max = 9223372036854775807 := rfl
 rw [e1, e2] at h
 exact h
section
variable {H : Type} {enc : TypeId × Value → H} {w : World} {base : Nat} {spare : Nat → Bool} {held : Bool}
theorem Xm : Pg.Elem enc Tryz.prog w base spare held 3 1 WtI (fun n => Pg.V.c (.int .i64 n)) (fun n => [Value.int .i64 n]) where
 pos := by decide
 cells := by kernel_rfl
 len := fun _ => rfl
 get := fun n cs x h => by
  obtain ⟨m, rfl, _, hw⟩ := DataW.trod_int Tryz.underlying3 h
  exact ⟨m, Xl hw, rfl⟩
 rep := fun n L w' => ⟨.int .i64 n, by simp [Value.cells], rfl, ⟨rfl, rfl⟩, rfl⟩
theorem xR {n : Nat} {v : Value} {a : Option Addr} {len cap : Nat} {x : DataW H × List MemPlace} (hv : v = .slice a len cap) (h : DataW.trod enc Tryz.prog w base spare held n 22 v.cells.toList = some x) : ∃ l : List Int, l.length ≤ 9223372036854775807 ∧ Pg.Rep (LW w) w (fzi l) v := by
 subst hv
 obtain ⟨l, hl, u, e, r⟩ := Pg.Yw Xm Tryz.underlying22 h
 have hu : u = .slice a len cap := by simp [Value.cells] at e; exact e.symm
 subst hu
 refine ⟨l, ?_, r⟩
 obtain ⟨b, c, row, h1, _, h2, _⟩ := r
 injection h1 with h1 h3 h4
 have hll : (List.map (fun n => Pg.V.c (.int .i64 n)) l).length = l.length := List.length_map ..
 rcases DataW.trod_slice Tryz.underlying22 h with ⟨g, _⟩ | ⟨a', len', cap', _, _, _, _, g, _, _, g2, g3, _⟩
 ·simp [Value.cells] at g
  omega
 ·simp [Value.cells] at g
  have : maxLen = 9223372036854775807 := rfl
  omega
end
end Go.Proofs.YtaoejnjkmfkbeaaGreat
end
