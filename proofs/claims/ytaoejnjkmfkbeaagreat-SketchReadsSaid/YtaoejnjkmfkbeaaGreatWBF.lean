/-
  Texts of this claim, merged; own names are short.
-/
import Derived.Test.YtaoejnjkmfkbeaaGreatWBE
import Derived.Test.YtaoejnjkmfkbeaaGreatWAX
import Derived.Test.YtaoejnjkmfkbeaaGreatWBC
set_option linter.unusedVariables false
set_option linter.unusedSimpArgs false
set_option linter.unusedSectionVars false
set_option linter.defProp false
set_option maxRecDepth 100000
set_option maxHeartbeats 8000000
namespace Go.Proofs.YtaoejnjkmfkbeaaGreat
open Go Go.Pg
theorem XX (t : Fq) (h : vFq t ≠ 0) (ho : octE t.e) (hn : t.e.length ≤ 1000000) : Pg.Good Tryz.prog 169 [.agg (fqF t)] (.tup [.c (.slice none 0 0), vi (vFq t)]) := by
 have h1 := WJ t ho hn
 generalize vFq t = v at *
 refine ji (qU (fun d => bif d == 48 then true else false) [] mix) Tryz.func169 rfl Tryz.results169 rfl (by kernel_rfl) (Nat.le_of_ble_eq_true (by kernel_rfl)) ?_
 (repeat' (first | (simp (disch := first | exact dqz | fail) only [pgz, simprocAttr, pgF]) | ((with_reducible show cu _ _ _ _ _ _); first | refine cU h1 ?_) | ((with_reducible first | apply aQ | apply aB | apply bz) <;> intro hc <;> (try simp only [hc]) <;> (try simp only [pgd] at hc)) | (with_reducible show qj _ _ _ _ _ _ _ _ _ _ _); refine oM _ _ (fun hc => ?_) (fun hc => ?_) <;> (try simp only [hc]) <;> (try simp only [pgd] at hc) | (with_reducible refine cK ?_)))
 exact rE []
def rfE (l : List Nat) (b : Bool) : En := (teX l b, (nuX (teL l b) (teB l b) : Nat), 0)
def LY (l : List Nat) (b : Bool) : List Nat := nuL (teL l b) (teB l b)
def XY (l : List Nat) (b : Bool) : Bool := nuB (teL l b) (teB l b)
def yK : Nat → Nat → List En → List Nat → Bool → List En × List Nat × Bool
 | 0, _, e, l, b => (e, l, b)
 | k + 1, n, e, l, b => if n = 0 ∨ b = true then (e, l, b) else yK k (n - 1) (e ++ [rfE l b]) (LY l b) (XY l b)
def abO (l : List Nat) (x : Fq) : Option Fq := if vFq x = 0 ∧ jd x = l then some x else none
def dFq (l : List Nat) (z tt lo : Nat) (f : Bool) (q : List En × List Nat × Bool) : Option Fq := if q.2.2 = true then none else abO l ⟨z, tt, lo, q.1, f⟩
def wI (l : List Nat) : Option Fq := dFq l (sx l 0) (sx l 1) (sx l 2) (decide ((sx l 3 : Int) = 1)) (yK 32 (sx l 4) [] (sS l 5).1 (sS l 5).2)
theorem DZ {k n : Nat} {e : List En} {l : List Nat} {b : Bool} (h : k = 0 ∨ n = 0 ∨ b = true) : yK k n e l b = (e, l, b) := by
 cases k with
 | zero => rfl
 | succ k => exact if_pos (by rcases h with h | h | h; omega; exact .inl h; exact .inr h)
theorem BQ {k n : Nat} {e : List En} {l : List Nat} {b : Bool} (h1 : k ≠ 0) (h2 : n ≠ 0) (h3 : b = false) : yK k n e l b = yK (k - 1) (n - 1) (e ++ [rfE l b]) (LY l b) (XY l b) := by
 cases k with
 | zero => exact absurd rfl h1
 | succ k => exact if_neg (by rintro (h | h); exact h2 h; rw [h3] at h; cases h)
theorem Rq {t : Fq} (ho : octE t.e) : oct (jd t) := by
 unfold jd
 refine aY (aY (aY (aY (aY (aO _) (aO _)) (aO _)) (by cases t.b <;> exact lV (by omega))) (aO _)) ?_
 exact oQ _ _ fun e he => aY (mr (ho e he)) (aO _)
theorem XZ (l0 : List Nat) (ho : oct l0) (hl : l0.length ≤ 2147483648) : Pg.Good Tryz.prog 100 [fzb l0] (oV fqF Fq.o (wI l0)) := by
 refine wC (F' := fqF) (zs := [vi 0, vi 0, vi 0, .c (.slice none 0 0), vb false]) ?_ (fun _ => rfl) (fun _ => ⟨aj _, aj _, trivial⟩) rfl ⟨.inr ⟨_, _, rfl, rfl, ⟨.inl rfl, .inl rfl, .inl rfl, jM _ _, .inl rfl, trivial⟩⟩, aj _, trivial⟩
 have hcv := fun (l : List Nat) s d K => dV (P := Tryz.prog) s d 48 9 .fz l K (by kernel_rfl) (by kernel_rfl) (by kernel_rfl) (by kernel_rfl)
 have z1 := fun e bx n' h hb hbn => XI e bx n' h 1 l0 0 ho hl hb hbn
 have z2 := fun e bx n' h hb hbn => XI e bx n' h 1 l0 1 ho hl hb hbn
 have z3 := fun e bx n' h hb hbn => XI e bx n' h 1 l0 2 ho hl hb hbn
 have z4 := fun e bx n' h hb hbn => XI e bx n' h 1 l0 3 ho hl hb hbn
 have z5 := fun e bx n' h hb hbn => XI e bx n' h 1 l0 4 ho hl hb hbn
 have m0 := jC ho 0
 have m1 := jC ho 1
 have m2 := jC ho 2
 have m3 := jC ho 3
 have m4 := jC ho 4
 have o5 := nI ho 5
 have n5 := qy l0 5
 unfold wI
 generalize sx l0 0 = z at *
 generalize sx l0 1 = tt at *
 generalize sx l0 2 = lo at *
 generalize sx l0 3 = fl at *
 generalize sx l0 4 = N at *
 obtain ⟨f, hf⟩ : ∃ f, f = decide ((fl : Int) = 1) := ⟨_, rfl⟩
 rw [← hf]
 obtain ⟨F, hF⟩ : ∃ F, F = yK 32 N [] (sS l0 5).1 (sS l0 5).2 := ⟨_, rfl⟩
 rw [← hF]
 refine gI oW Tryz.func100 Tryz.results100 ?_
 (repeat' (first | (simp (disch := first | exact dqz | fail) only [pgz, simprocAttr, hcv]) | ((with_reducible show cu _ _ _ _ _ _); first | refine eu _ (z1 _ _ _ _ rfl (by omega)) rfl ?_ | refine eu _ (z2 _ _ _ _ rfl (by omega)) rfl ?_ | refine eu _ (z3 _ _ _ _ rfl (by omega)) rfl ?_ | refine eu _ (z4 _ _ _ _ rfl (by omega)) rfl ?_ | refine eu _ (z5 _ _ _ _ rfl (by omega)) rfl ?_) | ((with_reducible first | apply aQ | apply aB | apply bz) <;> intro hc <;> (try simp only [hc]) <;> (try simp only [pgd] at hc)) | (with_reducible refine cK ?_)))
 refine bn (fun x : List En × List Nat × Bool => mkA [(0, fzb l0), (2, .ref 0 0), (4, .ref 1 0), (5, .ref 2 0), (6, vi N), (7, vi x.1.length)] [(0, (36, [vi 0, vi 0, vi 0, .c (.slice none 0 0), vb false])), (1, (205, [fzb x.2.1, vb x.2.2])), (2, (36, [vi z, vi tt, vi lo, .sl (.own 0 149) 3 (ev x.1), vb f]))] 3 (fun _ => .top))
  (fun x => yK (32 - x.1.length) (N - x.1.length) x.1 x.2.1 x.2.2 = F ∧ x.1.length ≤ 32 ∧ x.1.length ≤ N ∧ oct x.2.1 ∧ x.2.1.length ≤ 2147483648 ∧ octE x.1) (fun x => 32 - x.1.length) ([], (sS l0 5).1, (sS l0 5).2) [] [0, 1, 2] ?_ ⟨hF.symm, by simp, by simp, o5, Nat.le_trans n5 hl, fun x hx => by cases hx⟩ ?_
 ·(refine aN ?_ ?_ (bG _ _ _) (by decide) (by decide) (by decide) (by decide); (repeat' (first | exact trivial | refine aG _ _ rfl rfl ?_ ?_)); all_goals (try simp only [pgs, pgl, pgx, pgf, pgw, ay, aJ, az, aK, aZ, bV, bD, pgn, simprocAttr]); all_goals (try (repeat' (first | apply aI))); all_goals (try (first | exact trivial | exact au (by omega) | exact aU rfl | exact ak rfl rfl | exact bg rfl)))
  all_goals first | exact di rfl | exact au (by omega) | exact aU rfl | exact aU (by rw [hf]; rfl) | skip
 ·rintro ⟨e, l, b⟩ ⟨i1, i2, i3, i4, i5, i6⟩
  simp only at i1 i2 i3 i4 i5 i6
  have hel := aP e
  by_cases hgo : e.length < N ∧ e.length < 32 ∧ b = false
  ·obtain ⟨g1, g2, rfl⟩ := hgo
   rw [BQ (by omega) (by omega) rfl] at i1
   have w1 := fun e bx n' h hb hbn => aeZ e bx n' h 1 l false i4 i5 hb hbn
   have q1 := FV false i4
   have q2 := Nat.le_trans (FW l false) i5
   have w2 := fun e bx n' h hb hbn => abK e bx n' h 1 (teL l false) (teB l false) q1 q2 hb hbn
   have q3 := sQ (teB l false) q1
   have q4 := Nat.le_trans (sU (teL l false) (teB l false)) q2
   have q5 : oct (LY l false) := q3
   have q6 : (LY l false).length ≤ 2147483648 := q4
   obtain ⟨q7, _⟩ := FX l false i4
   have hap := lW e (teX l false) (nuX (teL l false) (teB l false) : Nat) 0
   have hrd : rfE l false = (teX l false, ((nuX (teL l false) (teB l false) : Nat) : Int), 0) := rfl
   have hln : (e ++ [rfE l false]).length = e.length + 1 := by simp
   have q8 : octE (e ++ [rfE l false]) := DX i6 _ _ _ q7
   rw [← hrd] at hap
   rw [show 32 - e.length - 1 = 32 - (e ++ [rfE l false]).length by rw [hln]; omega, show N - e.length - 1 = N - (e ++ [rfE l false]).length by rw [hln]; omega] at i1
   (repeat' (first | (simp (disch := first | exact dqz | fail) only [pgz, simprocAttr, hel, hap]) | ((with_reducible show cu _ _ _ _ _ _); first | refine eu _ (w1 _ _ _ _ rfl (by omega)) rfl ?_ | refine eu _ (w2 _ _ _ _ rfl (by omega)) rfl ?_) | ((with_reducible first | apply aQ | apply aB | apply bz) <;> intro hc <;> (try simp only [hc]) <;> (try simp only [pgd] at hc)) | (with_reducible refine cK ?_)))
   refine bu (e ++ [rfE l false], LY l false, XY l false) [0] [0, 1, 2] ⟨i1, by show (e ++ [rfE l false]).length ≤ 32; omega, by show (e ++ [rfE l false]).length ≤ N; omega, q5, q6, q8⟩ (by show 32 - (e ++ [rfE l false]).length < 32 - e.length; omega) ?_
   (refine aN ?_ ?_ (bG _ _ _) (by decide) (by decide) (by decide) (by decide); (repeat' (first | exact trivial | refine aG _ _ rfl rfl ?_ ?_)); all_goals (try simp only [pgs, pgl, pgx, pgf, pgw, ay, aJ, az, aK, aZ, bV, bD, pgn, simprocAttr]); all_goals (try (repeat' (first | apply aI))); all_goals (try (first | exact trivial | exact au (by omega) | exact aU rfl | exact ak rfl rfl | exact bg rfl)))
   all_goals first | exact ak rfl rfl | exact au (by omega) | exact aU rfl | exact au (by rw [hln]; omega) | exact Nc rfl | skip
  ·rw [DZ (by
    by_cases c1 : e.length < N
    ·by_cases c2 : e.length < 32
     ·cases b with
      | false => exact absurd ⟨c1, c2, rfl⟩ hgo
      | true => exact .inr (.inr rfl)
     ·exact .inl (by omega)
    ·exact .inr (.inl (by omega)))] at i1
   subst i1
   have hE := N7 ⟨z, tt, lo, e, f⟩
   have hX := XX ⟨z, tt, lo, e, f⟩
   have hd := jw (Rq (t := ⟨z, tt, lo, e, f⟩) i6) ho
   have hdF : dFq l0 z tt lo f (e, l, b) = if b = true then none else if vFq ⟨z, tt, lo, e, f⟩ = 0 ∧ jd ⟨z, tt, lo, e, f⟩ = l0 then some ⟨z, tt, lo, e, f⟩ else none := rfl
   clear z1 z2 z3 z4 z5 hf
   cases b with
   | false =>
    rcases (by
     rcases Nat.lt_or_ge e.length N with h1 | h1
     ·rcases Nat.lt_or_ge e.length 32 with h2 | h2
      ·exact absurd ⟨h1, h2, rfl⟩ hgo
      ·exact .inr ⟨h1, h2⟩
     ·exact .inl h1 : (N ≤ e.length) ∨ (e.length < N ∧ 32 ≤ e.length)) with c | c
    all_goals
     by_cases hv : vFq ⟨z, tt, lo, e, f⟩ = 0
     ·have hE := hE hv i6 (by show e.length ≤ _; omega)
      by_cases he : jd ⟨z, tt, lo, e, f⟩ = l0
      ·rw [Jh (x := ⟨z, tt, lo, e, f⟩) (hdF.trans (by rw [if_neg Bool.false_ne_true]; exact if_pos ⟨hv, he⟩))]
       rw [he] at hE
       (repeat' (first | (simp (disch := first | exact dqz | fail) only [pgz, simprocAttr, hel, hcv, id_eq.{1}]) | ((with_reducible show cu _ _ _ _ _ _); first | refine dh [0] _ (hE) rfl rfl rfl rfl ?_) | ((with_reducible first | apply aQ | apply aB | apply bz) <;> intro hc <;> (try simp only [hc]) <;> (try simp only [pgd] at hc)) | (with_reducible refine cK ?_)))
       all_goals exact rE []
      ·rw [kD (hdF.trans (by rw [if_neg Bool.false_ne_true]; exact if_neg fun h => he h.2))]
       rw [decide_eq_false he] at hd
       generalize jd ⟨z, tt, lo, e, f⟩ = E at *
       (repeat' (first | (simp (disch := first | exact dqz | fail) only [pgz, simprocAttr, hel, hcv, hd, id_eq.{1}]) | ((with_reducible show cu _ _ _ _ _ _); first | refine dh [0] _ (hE) rfl rfl rfl rfl ?_) | ((with_reducible first | apply aQ | apply aB | apply bz) <;> intro hc <;> (try simp only [hc]) <;> (try simp only [pgd] at hc)) | (with_reducible refine cK ?_)))
       all_goals exact rE []
     ·have hX := hX hv i6 (by show e.length ≤ _; omega)
      rw [kD (hdF.trans (by rw [if_neg Bool.false_ne_true]; exact if_neg fun h => hv h.1))]
      generalize vFq ⟨z, tt, lo, e, f⟩ = v at *
      (repeat' (first | (simp (disch := first | exact dqz | fail) only [pgz, simprocAttr, hel, hcv, id_eq.{1}]) | ((with_reducible show cu _ _ _ _ _ _); first | refine dh [0] _ (hX) rfl rfl rfl rfl ?_) | ((with_reducible first | apply aQ | apply aB | apply bz) <;> intro hc <;> (try simp only [hc]) <;> (try simp only [pgd] at hc)) | (with_reducible refine cK ?_)))
      all_goals exact rE []
   | true =>
    rw [kD (hdF.trans (if_pos rfl))]
    rcases (by omega : (N ≤ e.length) ∨ (e.length < N ∧ 32 ≤ e.length) ∨ (e.length < N ∧ e.length < 32)) with c | c | c
    all_goals
     by_cases hv : vFq ⟨z, tt, lo, e, f⟩ = 0
     ·have hE := hE hv i6 (by show e.length ≤ _; omega)
      generalize jd ⟨z, tt, lo, e, f⟩ = E at *
      (repeat' (first | (simp (disch := first | exact dqz | fail) only [pgz, simprocAttr, hel, hcv, id_eq.{1}]) | ((with_reducible show cu _ _ _ _ _ _); first | refine dh [0] _ (hE) rfl rfl rfl rfl ?_) | ((with_reducible first | apply aQ | apply aB | apply bz) <;> intro hc <;> (try simp only [hc]) <;> (try simp only [pgd] at hc)) | (with_reducible refine cK ?_)))
      all_goals exact rE []
     ·have hX := hX hv i6 (by show e.length ≤ _; omega)
      generalize vFq ⟨z, tt, lo, e, f⟩ = v at *
      (repeat' (first | (simp (disch := first | exact dqz | fail) only [pgz, simprocAttr, hel, hcv, id_eq.{1}]) | ((with_reducible show cu _ _ _ _ _ _); first | refine dh [0] _ (hX) rfl rfl rfl rfl ?_) | ((with_reducible first | apply aQ | apply aB | apply bz) <;> intro hc <;> (try simp only [hc]) <;> (try simp only [pgd] at hc)) | (with_reducible refine cK ?_)))
      all_goals exact rE []
theorem X0 (t : Rk) (h : vRk t ≠ 0) (hv : ∀ l ∈ t.v, octL l) (hn : t.v.length ≤ 1000000) (hn2 : ∀ l ∈ t.v, l.length ≤ 1000000) : Pg.Good Tryz.prog 170 [.agg (rkF t)] (.tup [.c (.slice none 0 0), vi (vRk t)]) := by
 have h1 := WL t hv hn hn2
 generalize vRk t = v at *
 refine gI oW Tryz.func170 Tryz.results170 ?_
 (repeat' (first | (simp (disch := first | exact dqz | fail) only [pgz, simprocAttr]) | ((with_reducible show cu _ _ _ _ _ _); first | refine cU h1 ?_) | ((with_reducible first | apply aQ | apply aB | apply bz) <;> intro hc <;> (try simp only [hc]) <;> (try simp only [pgd] at hc)) | (with_reducible refine cK ?_)))
 exact rE []
def oH : Nat → List (List Nat) → List Nat → Bool → List (List Nat) × List Nat × Bool
 | 0, ks, l, b => (ks, l, b)
 | k + 1, ks, l, b => if b = true then (ks, l, b) else oH k (ks ++ [teX l b]) (teL l b) (teB l b)
def yM : Nat → Nat → List (List (List Nat)) → List Nat → Bool → List (List (List Nat)) × List Nat × Bool
 | 0, _, v, l, b => (v, l, b)
 | f + 1, n, v, l, b => if n = 0 ∨ b = true then (v, l, b) else
  yM f (n - 1) (v ++ [(oH (nuX l b) [] (nuL l b) (nuB l b)).1]) (oH (nuX l b) [] (nuL l b) (nuB l b)).2.1 (oH (nuX l b) [] (nuL l b) (nuB l b)).2.2
def abP (l : List Nat) (x : Rk) : Option Rk := if vRk x = 0 ∧ je x = l then some x else none
def dRk (l : List Nat) (z tt lo : Nat) (f : Bool) (q : List (List (List Nat)) × List Nat × Bool) : Option Rk := if q.2.2 = true then none else abP l ⟨z, tt, lo, q.1, f⟩
def wJ (l : List Nat) : Option Rk := dRk l (sx l 0) (sx l 1) (sx l 2) (decide ((sx l 3 : Int) = 1)) (yM 41 (sx l 4) [] (sS l 5).1 (sS l 5).2)
theorem Rt {k : Nat} {ks : List (List Nat)} {l : List Nat} {b : Bool} (h : k = 0 ∨ b = true) : oH k ks l b = (ks, l, b) := by
 cases k with
 | zero => rfl
 | succ k => exact if_pos (by rcases h with h | h; omega; exact h)
theorem BR {k : Nat} {ks : List (List Nat)} {l : List Nat} (h1 : k ≠ 0) : oH k ks l false = oH (k - 1) (ks ++ [teX l false]) (teL l false) (teB l false) := by
 cases k with
 | zero => exact absurd rfl h1
 | succ k => exact if_neg Bool.false_ne_true
theorem D5 {k n : Nat} {e : List (List (List Nat))} {l : List Nat} {b : Bool} (h : k = 0 ∨ n = 0 ∨ b = true) : yM k n e l b = (e, l, b) := by
 cases k with
 | zero => rfl
 | succ k => exact if_pos (by rcases h with h | h | h; omega; exact .inl h; exact .inr h)
theorem BU {k n : Nat} {e : List (List (List Nat))} {l : List Nat} (h1 : k ≠ 0) (h2 : n ≠ 0) : yM k n e l false = yM (k - 1) (n - 1) (e ++ [(oH (nuX l false) [] (nuL l false) (nuB l false)).1]) (oH (nuX l false) [] (nuL l false) (nuB l false)).2.1 (oH (nuX l false) [] (nuL l false) (nuB l false)).2.2 := by
 cases k with
 | zero => exact absurd rfl h1
 | succ k => exact if_neg (by rintro (h | h); exact h2 h; cases h)
theorem Ru {t : Rk} (ho : ∀ l ∈ t.v, octL l) : oct (je t) := by
 unfold je
 refine aY (aY (aY (aY (aY (aO _) (aO _)) (aO _)) (by cases t.b <;> exact lV (by omega))) (aO _)) ?_
 exact oQ _ _ fun e he => aY (aO _) (oQ _ _ fun k hk => mr (ho e he k hk))
theorem adz (l : List Nat) : (teL l false).length + 1 ≤ l.length ∨ teB l false = true := by
 unfold teL teB
 by_cases hc : false = true ∨ (fO l).2.2 ≠ 0
 ·rw [if_pos hc, if_pos hc]; exact .inr rfl
 ·rw [if_neg hc, if_neg hc]
  left
  have h0 : (fO l).2.2 = 0 := Classical.byContradiction fun h => hc (.inr h)
  have h1 : 1 ≤ (fO l).2.1 ∧ 1 ≤ l.length := by
   have h2 : (aW l).2.2 = 0 → 1 ≤ (aW l).2.1 ∧ 1 ≤ l.length := by
    intro h
    unfold aW at h ⊢
    split
    ·rename_i h1; rw [if_pos h1] at h; cases h
    ·rename_i h1
     rw [if_neg h1] at h
     split
     ·exact ⟨Nat.le_refl 1, by omega⟩
     ·rename_i h2
      rw [if_neg h2] at h
      split
      ·rename_i h3; rw [if_pos h3] at h; cases h
      ·rename_i h3
       rw [if_neg h3] at h
       split
       ·rename_i h4; rw [if_pos h4] at h; cases h
       ·exact ⟨by simp only; omega, by omega⟩
   unfold fO at h0 ⊢
   split
   ·rename_i h1; rw [if_pos h1] at h0; exact absurd h0 h1
   ·rename_i h1
    rw [if_neg h1] at h0
    have h3 := h2 (Classical.byContradiction fun h => h1 h)
    split
    ·rename_i h4; rw [if_pos h4] at h0; cases h0
    ·rename_i h4
     rw [if_neg h4] at h0
     split
     ·rename_i h5; rw [if_pos h5] at h0; cases h0
     ·exact ⟨by simp only; omega, h3.2⟩
  rw [List.length_drop]
  omega
theorem Rw {v : List (List (List Nat))} {ks : List (List Nat)} (h : ∀ l ∈ v, octL l) (hk : octL ks) : ∀ l ∈ v ++ [ks], octL l := by
 intro x hx
 rcases List.mem_append.1 hx with hx | hx
 ·exact h x hx
 ·simp only [List.mem_singleton] at hx; subst hx; exact hk
theorem Rx {ks : List (List Nat)} {k : List Nat} (h : octL ks) (hk : oct k) : octL (ks ++ [k]) := by
 intro x hx
 rcases List.mem_append.1 hx with hx | hx
 ·exact h x hx
 ·simp only [List.mem_singleton] at hx; subst hx; exact hk
theorem X3 (l0 : List Nat) (ho : oct l0) (hl0 : l0.length ≤ 900000) : Pg.Good Tryz.prog 101 [fzb l0] (oV rkF Rk.o (wJ l0)) := by
 refine wC (F' := rkF) (zs := [vi 0, vi 0, vi 0, .c (.slice none 0 0), vb false]) ?_ (fun _ => rfl) (fun _ => ⟨aj _, aj _, trivial⟩) rfl ⟨.inr ⟨_, _, rfl, rfl, ⟨.inl rfl, .inl rfl, .inl rfl, jM _ _, .inl rfl, trivial⟩⟩, aj _, trivial⟩
 have hl : l0.length ≤ 2147483648 := by omega
 have hcv := fun (l : List Nat) s d K => dV (P := Tryz.prog) s d 48 9 .fz l K (by kernel_rfl) (by kernel_rfl) (by kernel_rfl) (by kernel_rfl)
 have z1 := fun e bx n' h hb hbn => XJ e bx n' h 1 l0 0 ho hl hb hbn
 have z2 := fun e bx n' h hb hbn => XJ e bx n' h 1 l0 1 ho hl hb hbn
 have z3 := fun e bx n' h hb hbn => XJ e bx n' h 1 l0 2 ho hl hb hbn
 have z4 := fun e bx n' h hb hbn => XJ e bx n' h 1 l0 3 ho hl hb hbn
 have z5 := fun e bx n' h hb hbn => XJ e bx n' h 1 l0 4 ho hl hb hbn
 have m0 := jC ho 0
 have m1 := jC ho 1
 have m2 := jC ho 2
 have m3 := jC ho 3
 have m4 := jC ho 4
 have o5 := nI ho 5
 have n5 := qy l0 5
 unfold wJ
 generalize sx l0 0 = z at *
 generalize sx l0 1 = tt at *
 generalize sx l0 2 = lo at *
 generalize sx l0 3 = fl at *
 generalize sx l0 4 = N at *
 obtain ⟨f, hf⟩ : ∃ f, f = decide ((fl : Int) = 1) := ⟨_, rfl⟩
 rw [← hf]
 obtain ⟨F, hF⟩ : ∃ F, F = yM 41 N [] (sS l0 5).1 (sS l0 5).2 := ⟨_, rfl⟩
 rw [← hF]
 refine gI oW Tryz.func101 Tryz.results101 ?_
 (repeat' (first | (simp (disch := first | exact dqz | fail) only [pgz, simprocAttr, hcv]) | ((with_reducible show cu _ _ _ _ _ _); first | refine eu _ (z1 _ _ _ _ rfl (by omega)) rfl ?_ | refine eu _ (z2 _ _ _ _ rfl (by omega)) rfl ?_ | refine eu _ (z3 _ _ _ _ rfl (by omega)) rfl ?_ | refine eu _ (z4 _ _ _ _ rfl (by omega)) rfl ?_ | refine eu _ (z5 _ _ _ _ rfl (by omega)) rfl ?_) | ((with_reducible first | apply aQ | apply aB | apply bz) <;> intro hc <;> (try simp only [hc]) <;> (try simp only [pgd] at hc)) | (with_reducible refine cK ?_)))
 refine bn (fun x : List (List (List Nat)) × List Nat × Bool => mkA [(0, fzb l0), (2, .ref 0 0), (4, .ref 1 0), (5, .ref 2 0), (6, vi N), (7, vi x.1.length)] [(0, (39, [vi 0, vi 0, vi 0, .c (.slice none 0 0), vb false])), (1, (208, [fzb x.2.1, vb x.2.2])), (2, (39, [vi z, vi tt, vi lo, .sl (.own 0 108) 1 (lv x.1), vb f]))] 3 (fun _ => .top))
  (fun x => yM (41 - x.1.length) (N - x.1.length) x.1 x.2.1 x.2.2 = F ∧ x.1.length ≤ 41 ∧ x.1.length ≤ N ∧ oct x.2.1 ∧ x.2.1.length ≤ 900000 ∧ (∀ l ∈ x.1, octL l) ∧ ∀ l ∈ x.1, l.length ≤ 1000000) (fun x => 41 - x.1.length) ([], (sS l0 5).1, (sS l0 5).2) [] [0, 1, 2] ?_ ⟨hF.symm, by simp, by simp, o5, Nat.le_trans n5 hl0, fun x hx => (by cases hx), fun x hx => by cases hx⟩ ?_
 ·(refine aN ?_ ?_ (bG _ _ _) (by decide) (by decide) (by decide) (by decide); (repeat' (first | exact trivial | refine aG _ _ rfl rfl ?_ ?_)); all_goals (try simp only [pgs, pgl, pgx, pgf, pgw, ay, aJ, az, aK, aZ, bV, bD, pgn, simprocAttr]); all_goals (try (repeat' (first | apply aI))); all_goals (try (first | exact trivial | exact au (by omega) | exact aU rfl | exact ak rfl rfl | exact bg rfl)))
  all_goals first | exact di rfl | exact au (by omega) | exact aU rfl | exact aU (by rw [hf]; rfl) | skip
 ·rintro ⟨v, l, b⟩ ⟨i1, i2, i3, i4, i5, i6, i7⟩
  simp only at i1 i2 i3 i4 i5 i6 i7
  have hel := dQ v
  by_cases hgo : v.length < N ∧ v.length < 41 ∧ b = false
  ·obtain ⟨g1, g2, rfl⟩ := hgo
   rw [BU (by omega) (by omega)] at i1
   have w1 := fun e bx n' h hb hbn => abL e bx n' h 1 l false i4 (by omega) hb hbn
   have q1 := sQ false i4
   have q2 := Nat.le_trans (sU l false) i5
   have q3 := zK l false i4
   obtain ⟨G, hG⟩ : ∃ G, G = oH (nuX l false) [] (nuL l false) (nuB l false) := ⟨_, rfl⟩
   rw [← hG] at i1
   (repeat' (first | (simp (disch := first | exact dqz | fail) only [pgz, simprocAttr, hel]) | ((with_reducible show cu _ _ _ _ _ _); first | refine eu _ (w1 _ _ _ _ rfl (by omega)) rfl ?_) | ((with_reducible first | apply aQ | apply aB | apply bz) <;> intro hc <;> (try simp only [hc]) <;> (try simp only [pgd] at hc)) | (with_reducible refine cK ?_)))
   generalize nuX l false = K0 at *
   generalize nuL l false = l1 at *
   generalize nuB l false = b1 at *
   refine bn (fun x : Nat × List (List Nat) × List Nat × Bool => mkA [(0, fzb l0), (2, .ref 0 0), (4, .ref 1 0), (5, .ref 2 0), (6, vi N), (7, vi v.length), (8, .sl (.own 1 9) 1 (sv x.2.1)), (9, vi x.1)] [(0, (39, [vi 0, vi 0, vi 0, .c (.slice none 0 0), vb false])), (1, (208, [fzb x.2.2.1, vb x.2.2.2])), (2, (39, [vi z, vi tt, vi lo, .sl (.own 0 108) 1 (lv v), vb f]))] 3 (fun _ => .top))
    (fun x => oH x.1 x.2.1 x.2.2.1 x.2.2.2 = G ∧ x.1 ≤ 4611686018427387904 ∧ oct x.2.2.1 ∧ x.2.1.length + x.2.2.1.length + (if x.2.2.2 = true then 0 else 1) ≤ 900001 ∧ octL x.2.1 ∧ x.2.2.1.length ≤ 900000) (fun x => x.1) (K0, [], l1, b1) [0] [0, 1, 2] ?_ ⟨hG.symm, q3, q1, by show 0 + l1.length + _ ≤ _; split <;> omega, fun x hx => (by cases hx), q2⟩ ?_
   ·(refine aN ?_ ?_ (bG _ _ _) (by decide) (by decide) (by decide) (by decide); (repeat' (first | exact trivial | refine aG _ _ rfl rfl ?_ ?_)); all_goals (try simp only [pgs, pgl, pgx, pgf, pgw, ay, aJ, az, aK, aZ, bV, bD, pgn, simprocAttr]); all_goals (try (repeat' (first | apply aI))); all_goals (try (first | exact trivial | exact au (by omega) | exact aU rfl | exact ak rfl rfl | exact bg rfl)))
    all_goals first | exact ak rfl rfl | exact di rfl | exact au (by omega) | exact aU rfl | skip
   ·rintro ⟨k, ks, l2, b2⟩ ⟨j1, j2, j3, j4, j5, j6⟩
    simp only at j1 j2 j3 j4 j5 j6
    have hkl := Cc ks
    by_cases hk : 0 < k ∧ b2 = false
    ·obtain ⟨hk1, rfl⟩ := hk
     rw [BR (by omega)] at j1
     rw [if_neg Bool.false_ne_true] at j4
     have w2 := fun e bx n' h hb hbn => ae0 e bx n' h 1 l2 false j3 (by omega) hb hbn
     have r1 := FV false j3
     have r2 := FW l2 false
     have r3 := adz l2
     obtain ⟨r4, _⟩ := FX l2 false j3
     have hap := acB ks [teX l2 false]
     have hs1 : sv [teX l2 false] = [vs (teX l2 false)] := rfl
     rw [hs1] at hap
     have r5 := Rx j5 r4
     have r6 : (ks ++ [teX l2 false]).length = ks.length + 1 := by simp
     generalize teX l2 false = X at *
     generalize teL l2 false = L3 at *
     generalize teB l2 false = B3 at *
     (repeat' (first | (simp (disch := first | exact dqz | fail) only [pgz, simprocAttr, hel, hkl, hap]) | ((with_reducible show cu _ _ _ _ _ _); first | refine eu _ (w2 _ _ _ _ rfl (by omega)) rfl ?_) | ((with_reducible first | apply aQ | apply aB | apply bz) <;> intro hc <;> (try simp only [hc]) <;> (try simp only [pgd] at hc)) | (with_reducible refine cK ?_)))
     refine bu (k - 1, ks ++ [X], L3, B3) [0, 1] [0, 1, 2] ⟨j1, by show k - 1 ≤ _; omega, r1, by show (ks ++ [X]).length + L3.length + (if B3 = true then 0 else 1) ≤ _; rcases r3 with r3 | r3; (split <;> omega); (rw [if_pos r3]; omega), r5, by show L3.length ≤ _; omega⟩ (by show k - 1 < k; omega) ?_
     (refine aN ?_ ?_ (bG _ _ _) (by decide) (by decide) (by decide) (by decide); (repeat' (first | exact trivial | refine aG _ _ rfl rfl ?_ ?_)); all_goals (try simp only [pgs, pgl, pgx, pgf, pgw, ay, aJ, az, aK, aZ, bV, bD, pgn, simprocAttr]); all_goals (try (repeat' (first | apply aI))); all_goals (try (first | exact trivial | exact au (by omega) | exact aU rfl | exact ak rfl rfl | exact bg rfl)))
     all_goals first | exact ak rfl rfl | exact au (by omega) | exact aU rfl | skip
    ·have hend : k = 0 ∨ b2 = true := by
      rcases Nat.eq_zero_or_pos k with h | h
      ·exact .inl h
      ·cases b2 with
       | false => exact absurd ⟨h, rfl⟩ hk
       | true => exact .inr rfl
     rw [Rt hend] at j1
     subst j1
     simp only at i1
     have hln : (v ++ [ks]).length = v.length + 1 := by simp
     rw [show 41 - v.length - 1 = 41 - (v ++ [ks]).length by rw [hln]; omega, show N - v.length - 1 = N - (v ++ [ks]).length by rw [hln]; omega] at i1
     have hap := sH v ks
     have r5 := Rw i6 j5
     have r6 : ∀ l ∈ v ++ [ks], l.length ≤ 1000000 := by
      intro x hx
      rcases List.mem_append.1 hx with hx | hx
      ·exact i7 x hx
      ·simp only [List.mem_singleton] at hx; subst hx; omega
     rcases (by
      rcases Nat.eq_zero_or_pos k with h | h
      ·exact .inl h
      ·rcases hend with h1 | h1
       ·exact .inl h1
       ·exact .inr ⟨h, h1⟩ : k = 0 ∨ (0 < k ∧ b2 = true)) with c | ⟨c, rfl⟩
     all_goals
      (repeat' (first | (simp (disch := first | exact dqz | fail) only [pgz, simprocAttr, hel, hkl, hap, id_eq.{1}, lF, aV, false_or, Bool.false_eq_true, Option.bind_none]) | ((with_reducible first | apply aQ | apply aB | apply bz) <;> intro hc <;> (try simp only [hc]) <;> (try simp only [pgd] at hc)) | (with_reducible refine cK ?_)))
      first
       | refine bu (v ++ [ks], l2, b2) [0] [0, 1, 2] ⟨i1, by show (v ++ [ks]).length ≤ 41; omega, by show (v ++ [ks]).length ≤ N; omega, j3, by show l2.length ≤ _; omega, r5, r6⟩ (by show 41 - (v ++ [ks]).length < 41 - v.length; omega) ?_
       | refine bu (v ++ [ks], l2, true) [0] [0, 1, 2] ⟨i1, by show (v ++ [ks]).length ≤ 41; omega, by show (v ++ [ks]).length ≤ N; omega, j3, by show l2.length ≤ _; omega, r5, r6⟩ (by show 41 - (v ++ [ks]).length < 41 - v.length; omega) ?_
      (refine aN ?_ ?_ (bG _ _ _) (by decide) (by decide) (by decide) (by decide); (repeat' (first | exact trivial | refine aG _ _ rfl rfl ?_ ?_)); all_goals (try simp only [pgs, pgl, pgx, pgf, pgw, ay, aJ, az, aK, aZ, bV, bD, pgn, simprocAttr]); all_goals (try (repeat' (first | apply aI))); all_goals (try (first | exact trivial | exact au (by omega) | exact aU rfl | exact ak rfl rfl | exact bg rfl)))
      all_goals first | exact ak rfl rfl | exact au (by rw [hln]; omega) | exact au (by omega) | exact aU rfl | skip
  ·rw [D5 (by
    by_cases c1 : v.length < N
    ·by_cases c2 : v.length < 41
     ·cases b with
      | false => exact absurd ⟨c1, c2, rfl⟩ hgo
      | true => exact .inr (.inr rfl)
     ·exact .inl (by omega)
    ·exact .inr (.inl (by omega)))] at i1
   subst i1
   have hE := NV ⟨z, tt, lo, v, f⟩
   have hX := X0 ⟨z, tt, lo, v, f⟩
   have hd := jw (Ru (t := ⟨z, tt, lo, v, f⟩) i6) ho
   have hdT : dRk l0 z tt lo f (v, l, b) = if b = true then none else if vRk ⟨z, tt, lo, v, f⟩ = 0 ∧ je ⟨z, tt, lo, v, f⟩ = l0 then some ⟨z, tt, lo, v, f⟩ else none := rfl
   clear z1 z2 z3 z4 z5 hf
   cases b with
   | false =>
    rcases (by
     rcases Nat.lt_or_ge v.length N with h1 | h1
     ·rcases Nat.lt_or_ge v.length 41 with h2 | h2
      ·exact absurd ⟨h1, h2, rfl⟩ hgo
      ·exact .inr ⟨h1, h2⟩
     ·exact .inl h1 : (N ≤ v.length) ∨ (v.length < N ∧ 41 ≤ v.length)) with c | c
    all_goals
     by_cases hv : vRk ⟨z, tt, lo, v, f⟩ = 0
     ·have hE := hE hv i6 (by show v.length ≤ _; omega) i7
      by_cases he : je ⟨z, tt, lo, v, f⟩ = l0
      ·rw [Jh (x := ⟨z, tt, lo, v, f⟩) (hdT.trans (by rw [if_neg Bool.false_ne_true]; exact if_pos ⟨hv, he⟩))]
       rw [he] at hE
       (repeat' (first | (simp (disch := first | exact dqz | fail) only [pgz, simprocAttr, hel, hcv, id_eq.{1}]) | ((with_reducible show cu _ _ _ _ _ _); first | refine dh [0] _ (hE) rfl rfl rfl rfl ?_) | ((with_reducible first | apply aQ | apply aB | apply bz) <;> intro hc <;> (try simp only [hc]) <;> (try simp only [pgd] at hc)) | (with_reducible refine cK ?_)))
       all_goals exact rE []
      ·rw [kD (hdT.trans (by rw [if_neg Bool.false_ne_true]; exact if_neg fun h => he h.2))]
       rw [decide_eq_false he] at hd
       generalize je ⟨z, tt, lo, v, f⟩ = E at *
       (repeat' (first | (simp (disch := first | exact dqz | fail) only [pgz, simprocAttr, hel, hcv, hd, id_eq.{1}]) | ((with_reducible show cu _ _ _ _ _ _); first | refine dh [0] _ (hE) rfl rfl rfl rfl ?_) | ((with_reducible first | apply aQ | apply aB | apply bz) <;> intro hc <;> (try simp only [hc]) <;> (try simp only [pgd] at hc)) | (with_reducible refine cK ?_)))
       all_goals exact rE []
     ·have hX := hX hv i6 (by show v.length ≤ _; omega) i7
      rw [kD (hdT.trans (by rw [if_neg Bool.false_ne_true]; exact if_neg fun h => hv h.1))]
      generalize vRk ⟨z, tt, lo, v, f⟩ = vv at *
      (repeat' (first | (simp (disch := first | exact dqz | fail) only [pgz, simprocAttr, hel, hcv, id_eq.{1}]) | ((with_reducible show cu _ _ _ _ _ _); first | refine dh [0] _ (hX) rfl rfl rfl rfl ?_) | ((with_reducible first | apply aQ | apply aB | apply bz) <;> intro hc <;> (try simp only [hc]) <;> (try simp only [pgd] at hc)) | (with_reducible refine cK ?_)))
      all_goals exact rE []
   | true =>
    rw [kD (hdT.trans (if_pos rfl))]
    rcases (by omega : (N ≤ v.length) ∨ (v.length < N ∧ 41 ≤ v.length) ∨ (v.length < N ∧ v.length < 41)) with c | c | c
    all_goals
     by_cases hv : vRk ⟨z, tt, lo, v, f⟩ = 0
     ·have hE := hE hv i6 (by show v.length ≤ _; omega) i7
      generalize je ⟨z, tt, lo, v, f⟩ = E at *
      (repeat' (first | (simp (disch := first | exact dqz | fail) only [pgz, simprocAttr, hel, hcv, id_eq.{1}]) | ((with_reducible show cu _ _ _ _ _ _); first | refine dh [0] _ (hE) rfl rfl rfl rfl ?_) | ((with_reducible first | apply aQ | apply aB | apply bz) <;> intro hc <;> (try simp only [hc]) <;> (try simp only [pgd] at hc)) | (with_reducible refine cK ?_)))
      all_goals exact rE []
     ·have hX := hX hv i6 (by show v.length ≤ _; omega) i7
      generalize vRk ⟨z, tt, lo, v, f⟩ = vv at *
      (repeat' (first | (simp (disch := first | exact dqz | fail) only [pgz, simprocAttr, hel, hcv, id_eq.{1}]) | ((with_reducible show cu _ _ _ _ _ _); first | refine dh [0] _ (hX) rfl rfl rfl rfl ?_) | ((with_reducible first | apply aQ | apply aB | apply bz) <;> intro hc <;> (try simp only [hc]) <;> (try simp only [pgd] at hc)) | (with_reducible refine cK ?_)))
      all_goals exact rE []
def unZ (l : List Nat) : V :=
 if l.length = 0 then zl 3 else
 if (aW (l.drop 1)).2.2 ≠ 0 then zl (aW (l.drop 1)).2.2 else
 if 1048576 < (aW (l.drop 1)).1 then zl 2 else
 if l.length < 1 + (aW (l.drop 1)).2.1 + (aW (l.drop 1)).1 + 4 then zl 3 else
 if acc (ft l (1 + (aW (l.drop 1)).2.1 + (aW (l.drop 1)).1)) ≠ ckN (l.take (1 + (aW (l.drop 1)).2.1 + (aW (l.drop 1)).1)) then zl 4 else
 .tup [.c (.int .u8 (l.getD 0 0 : Nat)), .sl .nn 1 [], vi (1 + (aW (l.drop 1)).2.1 + (aW (l.drop 1)).1 + 4 : Nat), vi 0]
def unE (l : List Nat) : Nat :=
 if l.length = 0 then 3 else
 if (aW (l.drop 1)).2.2 ≠ 0 then (aW (l.drop 1)).2.2 else
 if 1048576 < (aW (l.drop 1)).1 then 2 else
 if l.length < 1 + (aW (l.drop 1)).2.1 + (aW (l.drop 1)).1 + 4 then 3 else
 if acc (ft l (1 + (aW (l.drop 1)).2.1 + (aW (l.drop 1)).1)) ≠ ckN (l.take (1 + (aW (l.drop 1)).2.1 + (aW (l.drop 1)).1)) then 4 else 0
def unU (l : List Nat) : Nat := 1 + (aW (l.drop 1)).2.1 + (aW (l.drop 1)).1
def unB (l : List Nat) : List Nat := (l.take (unU l)).drop (1 + (aW (l.drop 1)).2.1)
def unV (l : List Nat) : V := if unE l ≠ 0 then zl (unE l) else .tup [.c (.int .u8 (l.getD 0 0 : Nat)), fzb (unB l), vi (unU l + 4 : Nat), vi 0]
theorem LZ (l : List Nat) (ho : oct l) (hl : l.length ≤ 2147483648) (hx0 : (aW (l.drop 1)).1 = 0) : Pg.Good Tryz.prog 94 [fzb l] (unZ l) := by
 have hbl := ai l
 unfold unZ
 rcases Nat.eq_zero_or_pos l.length with h0 | h0
 ·rw [if_pos h0]
  refine gI oW Tryz.func94 Tryz.results94 ?_
  exact wR @hbl trivial ah
 rw [if_neg (by omega)]
 have hG := eQ (l.drop 1) (dZ ho 1) (by simp; omega)
 obtain ⟨x1, x2⟩ := Oh (l.drop 1) (dZ ho 1)
 unfold uK at hG
 have ed := iq l 1
 have hg0 := lL l 0 h0
 generalize aW (l.drop 1) = q at *
 obtain ⟨x, u, e⟩ := q
 simp only at *
 by_cases he : e = 0
 ·subst he
  rw [if_neg (by simp)]
  rcases Nat.lt_or_ge 1048576 x with h1 | h1
  ·exact absurd h1 (by omega)
  rw [if_neg (show ¬ 1048576 < x by omega)]
  rcases Nat.lt_or_ge l.length (1 + u + x + 4) with h2 | h2
  ·rw [if_pos h2]
   refine gI oW Tryz.func94 Tryz.results94 ?_
   exact wR (aI @pgv (aI @hbl @ed)) hG ah
  rw [if_neg (show ¬ l.length < 1 + u + x + 4 by omega)]
  have hfl := XA (l := l) (e := 1 + u + x) (by omega)
  have hfo := XB ho (1 + u + x)
  have hft : ((bv l).take (1 + u + x + 4)).drop (1 + u + x) = bv (ft l (1 + u + x)) := by rw [BL, iq]; rfl
  have hfb := ai (ft l (1 + u + x))
  rw [hfl] at hfb
  have etk := BL l (1 + u + x)
  have ebd := iq (l.take (1 + u + x)) (1 + u)
  have t1 : Int.toNat (1 + (u : Int) + (x : Int) + 4) = 1 + u + x + 4 := by omega
  have t2 : Int.toNat (1 + (u : Int) + (x : Int)) = 1 + u + x := by omega
  have t3 : Int.toNat (1 + (u : Int)) = 1 + u := by omega
  have hpl : (l.take (1 + u + x)).length = 1 + u + x := by rw [List.length_take]; omega
  have hdl : ((l.take (1 + u + x)).drop (1 + u)).length = x := by rw [List.length_drop, hpl]; omega
  have hdb := ai ((l.take (1 + u + x)).drop (1 + u))
  rw [hdl] at hdb
  have hd0 : bv ((l.take (1 + u + x)).drop (1 + u)) = [] := List.length_eq_zero_iff.1 (hdb.trans hx0)
  have k1 := uB (l.take (1 + u + x)) (mY ho _) (by omega)
  have hck := xG (l.take (1 + u + x))
  refine gI oW Tryz.func94 Tryz.results94 ?_
  refine wS (aI @pgv (aI @hbl (aI @ed (aI @t1 (aI @t2 (aI @t3 (aI @hft @hfb))))))) hG ?_
  refine bn (fun i : Nat => mkA [(0, fzb l), (7, vi (u : Nat)), (8, vi (1 + (u : Int) + (x : Int))), (9, .c (.int .u32 (acc ((ft l (1 + u + x)).take i) : Nat))), (46, fzb (ft l (1 + u + x))), (47, vi 4), (48, vi i)] [] 0 (fun _ => .top)) (fun i => i ≤ 4) (fun i => 4 - i) 0 [] [] ?_ (Nat.zero_le _) ?_
  ·(refine aN ?_ ?_ (bG _ _ _) (by decide) (by decide) (by decide) (by decide); (repeat' (first | exact trivial | refine aG _ _ rfl rfl ?_ ?_)); all_goals (try simp only [pgs, pgl, pgx, pgf, pgw, ay, aJ, az, aK, aZ, bV, bD, pgn, simprocAttr]); all_goals (try (repeat' (first | apply aI))); all_goals (try (first | exact trivial | exact au (by omega) | exact aU rfl | exact ak rfl rfl | exact bg rfl)))
   all_goals first | exact aU rfl | exact au (by omega) | skip
  ·intro i hi
   replace hi : i ≤ 4 := hi
   have hb := iZ hfo i
   have ha := wz hfo (i := i) (by omega)
   rcases Nat.lt_or_ge i 4 with hlt | hge
   ·have hp : 256 ^ i ≤ 256 ^ 3 := Nat.pow_le_pow_right (by omega) (by omega)
    have hgi := lL (ft l (1 + u + x)) i (by omega)
    have e6 := BM (s := ft l (1 + u + x)) (i := i) (by omega)
    have e7 := Jf (acc ((ft l (1 + u + x)).take i)) ((ft l (1 + u + x)).getD i 0) (by omega) hb
    rw [e6] at e7
    refine wS (aI @hfb (aI @hgi @e7)) trivial ?_
    (refine bu (i + 1) [] [] (hlt) (by first | omega | (simp only [List.length_cons]; omega)) ?_; (refine aN ?_ ?_ (bG _ _ _) (by decide) (by decide) (by decide) (by decide); (repeat' (first | exact trivial | refine aG _ _ rfl rfl ?_ ?_)); all_goals (try simp only [pgs, pgl, pgx, pgf, pgw, ay, aJ, az, aK, aZ, bV, bD, pgn, simprocAttr]); all_goals (try (repeat' (first | apply aI))); all_goals (try (first | exact trivial | exact au (by omega) | exact aU rfl | exact ak rfl rfl | exact bg rfl))))
    all_goals first | exact au (by omega) | skip
   ·have hik : i = 4 := by omega
    subst hik
    have e : (ft l (1 + u + x)).take 4 = ft l (1 + u + x) := List.take_of_length_le (by omega)
    rw [e] at *
    generalize ft l (1 + u + x) = F at *
    by_cases hc : acc F = ckN (l.take (1 + u + x))
    ·rw [if_neg (fun h => h hc)]
     rw [hc]
     exact wR (aI @pgv (aI @hfb (aI @hbl (aI @t2 (aI @t3 (aI @etk (aI @ebd (aI @hd0 (aI @hg0 @ZA))))))))) k1 ah
    ·rw [if_pos hc]
     exact wR (aI @pgv (aI @hfb (aI @hbl (aI @t2 (aI @t3 @etk))))) k1 ah
 ·rw [if_pos he]
  refine gI oW Tryz.func94 Tryz.results94 ?_
  exact wR (aI @pgv (aI @hbl @ed)) hG ah
theorem L6 (l : List Nat) (ho : oct l) (hl : l.length ≤ 2147483648) : Pg.Good Tryz.prog 94 [fzb l] (unV l) := by
 by_cases hx0 : (aW (l.drop 1)).1 = 0
 ·have h := LZ l ho hl hx0
  have e : unB l = [] := by
   unfold unB unU
   rw [hx0]
   exact List.drop_eq_nil_iff.2 (by rw [List.length_take]; omega)
  refine h.fzr ?_ ?_
  ·unfold unZ; (repeat' split) <;> rfl
  ·have : (unZ l).erase = unV l := by
    unfold unV unZ unE
    rw [e]
    (repeat' split) <;> first | rfl | (exfalso; omega) | (exfalso; simp_all; done) | skip
   rw [this]; exact aj _
 ·have h := Rh l ho hl hx0
  refine h.fzr ?_ ?_
  ·unfold unF; (repeat' split) <;> rfl
  ·have : (unF l).erase = unV l := by
    unfold unV unF unE unB unU
    (repeat' split) <;> first | rfl | (exfalso; omega) | (exfalso; simp_all; done) | skip
   rw [this]; exact aj _
end Go.Proofs.YtaoejnjkmfkbeaaGreat
