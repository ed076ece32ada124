/-
  Texts of this claim, merged; own names are short.
-/
import Derived.Test.YtaoejnjkmfkbeaaGreatWAR
import Derived.Test.YtaoejnjkmfkbeaaGreatWAQ
set_option linter.unusedVariables false
set_option linter.unusedSimpArgs false
set_option linter.unusedSectionVars false
set_option linter.defProp false
set_option maxRecDepth 100000
set_option maxHeartbeats 8000000
namespace Go.Proofs.YtaoejnjkmfkbeaaGreat
open Go Go.Pg
def dU (w : Int) (l : List En) : Int := l.foldl (fun m e => min m e.2.1) w
theorem GM (l : List En) : ∀ w, dU w l ≤ w := by
 induction l with
 | nil => intro w; exact Int.le_refl _
 | cons e l ih => intro w; have := ih (min w e.2.1); simp only [dU, List.foldl_cons] at *; omega
theorem GN (l : List En) (h : cin l) : ∀ w, 1 ≤ w → 1 ≤ dU w l := by
 induction l with
 | nil => intro w hw; exact hw
 | cons e l ih =>
  intro w hw
  have h1 := h e (by simp)
  have := ih (fun e he => h e (by simp [he])) (min w e.2.1) (by omega)
  simpa only [dU, List.foldl_cons] using this
theorem JQ (w : Int) (l : List En) (i : Nat) (h : i < l.length) : dU w (l.take (i + 1)) = min (dU w (l.take i)) (l.getD i ([], 0, 0)).2.1 := by
 rw [List.take_succ_eq_append_getElem h]
 unfold dU
 rw [List.foldl_append]
 simp [List.getD, h]
def gy (t : Fq) (k : List Nat) (w : Int) : List En × Int × Bool :=
 if 0 ≤ bH t.e k then (t.e.set (bH t.e k).toNat ((t.e.getD (bH t.e k).toNat eD).1, (bu (t.e.getD (bH t.e k).toNat eD).2.1 w).1, (t.e.getD (bH t.e k).toNat eD).2.2), t.l, (bu (t.e.getD (bH t.e k).toNat eD).2.1 w).2)
 else if (t.e.length : Int) < t.z then (iV (k, w, 0) t.e, t.l, false)
 else (if w > dU w t.e then iV (k, w - dU w t.e, 0) (jB (dU w t.e) t.e) else jB (dU w t.e) t.e, (bu t.l (dU w t.e)).1, (bu t.l (dU w t.e)).2)
def pF (t : Fq) (k : List Nat) (w : Int) : Fq × Int :=
 if vFq t ≠ 0 then (Fq.o, vFq t) else if bD k w ≠ 0 then (Fq.o, bD k w) else (⟨t.z, (bu t.t w).1, (gy t k w).2.1, (gy t k w).1, t.b || (bu t.t w).2 || (gy t k w).2.2⟩, 0)
theorem Ci {l : List En} {i : Nat} (h : kN l i = 0) : dS (l.getD i eD).1 = true ∧ (1 ≤ (l.getD i eD).2.1 ∧ (l.getD i eD).2.1 ≤ 1099511627776) ∧ (l.getD i eD).2.2 = 0 := by
 unfold kN at h
 split at h
 ·cases h
 ·rename_i h1
  split at h
  ·cases h
  ·rename_i h2
   have h2 := Classical.byContradiction h2
   exact ⟨by simpa using h1, h2.1, h2.2⟩
theorem PZ {t : Fq} (h : vFq t = 0) : (1 ≤ t.z ∧ t.z ≤ 32) ∧ (0 ≤ t.t ∧ t.t ≤ 1099511627776) ∧ (0 ≤ t.l ∧ t.l ≤ 1099511627776) ∧ (t.e.length : Int) ≤ t.z ∧ ∀ i, i < t.e.length → kN t.e i = 0 := by
 unfold vFq at h
 split at h
 ·cases h
 ·rename_i h1
  split at h
  ·cases h
  ·rename_i h2
   have h1 := Classical.byContradiction h1
   exact ⟨h1.1, h1.2.1, h1.2.2, by omega, fun i hi => FC _ _ _ h i (Nat.zero_le _) (by omega)⟩
theorem WW {l : List En} (h : ∀ i, i < l.length → kN l i = 0) : cin l := by
 intro e he
 obtain ⟨i, hi, rfl⟩ := List.getElem_of_mem he
 have := (Ci (h i hi)).2.1
 simpa [List.getD, hi] using this
theorem P5 : wkV (.agg [vi 0, vi 0, vi 0, nls, vb false]) (.agg (fqF Fq.o)) := .inr ⟨_, _, rfl, rfl, ⟨.inl rfl, .inl rfl, .inl rfl, kY _ _, .inl rfl, trivial⟩⟩
theorem pG (x : Fq) (k : List Nat) (w : Int) (ho : oct k) (hx : octE x.e) (hn : x.e.length ≤ 1000000) : Pg.Good Tryz.prog 52 [.agg (fqF x), .agg [vs k, vi w]] (.tup [.agg (fqF (pF x k w).1), vi (pF x k w).2]) := by
 have h1 := iR x hx hn
 have h2 := aJ k w
 unfold pF
 by_cases c1 : vFq x = 0
 ·rw [if_neg (by omega)]
  rw [c1] at h1
  by_cases c2 : bD k w = 0
  ·rw [if_neg (by omega)]
   rw [c2] at h2
   obtain ⟨i1, i2, i2', i3, i4⟩ := PZ c1
   have hcin := WW i4
   obtain ⟨j1, j2⟩ := jq c2
   have hw : W64 w := by unfold W64; omega
   have k1 := lm x.t w (by unfold W64; omega) hw
   have k2 := zn x.e k hx ho (by omega)
   have hfr := vG x.e k
   refine Good.fzt (vs := [.agg [vi x.z, vi (bu x.t w).1, vi (gy x k w).2.1, .sl (.own 0 149) 3 (ev (gy x k w).1), vb (x.b || (bu x.t w).2 || (gy x k w).2.2)], vi 0]) ?_ rfl ⟨aB _, aB _, trivial⟩
   have hel := aj x.e
   by_cases q1 : 0 ≤ bH x.e k
   ·have ei : gy x k w = (x.e.set (bH x.e k).toNat ((x.e.getD (bH x.e k).toNat eD).1, (bu (x.e.getD (bH x.e k).toNat eD).2.1 w).1, (x.e.getD (bH x.e k).toNat eD).2.2), x.l, (bu (x.e.getD (bH x.e k).toNat eD).2.1 w).2) := if_pos q1
    rw [ei]
    have hlt : (bH x.e k).toNat < x.e.length := by omega
    have hg := dw x.e (bH x.e k).toNat hlt
    have her := Ci (i4 _ hlt)
    have k3 := lm (x.e.getD (bH x.e k).toNat eD).2.1 w (by unfold W64; omega) hw
    generalize x.e.getD (bH x.e k).toNat eD = y at *
    obtain ⟨yk, yc, ye⟩ := y
    simp only at hg her k3 ⊢
    have hes := uZ x.e (bH x.e k).toNat yk (bu yc w).1 ye
    generalize hes2 : x.e.set (bH x.e k).toNat (yk, (bu yc w).1, ye) = e2 at *
    generalize bH x.e k = fi at *
    generalize bu x.t w = a at *
    generalize bu yc w = a' at *
    obtain ⟨a1, a2⟩ := a
    obtain ⟨b1, b2⟩ := a'
    simp only at k1 k3 hes ⊢
    obtain ⟨z, t, lo, l, b⟩ := x
    simp only at *
    refine gI oD Tryz.func52 Tryz.results52 ?_
    exact wRA (aI @aj (aI @hg @hes)) (aI h1 (aI h2 (aI k1 (aI k2 k3)))) (ids [11])
   ·by_cases q2 : (x.e.length : Int) < x.z
    ·have ei : gy x k w = (iV (k, w, 0) x.e, x.l, false) := by unfold gy; rw [if_neg q1, if_pos q2]
     rw [ei]
     have hso := xJ x.e (k, w, 0) hn
     have hfl := kK 0 149 3 (iV (k, w, 0) x.e)
     generalize iV (k, w, 0) x.e = e2 at *
     generalize bH x.e k = fi at *
     generalize bu x.t w = a at *
     obtain ⟨a1, a2⟩ := a
     simp only at k1 hso ⊢
     obtain ⟨z, t, lo, l, b⟩ := x
     simp only at *
     refine gI oD Tryz.func52 Tryz.results52 ?_
     (repeat' first | refine wPA @aj (aI h1 (aI h2 (aI k1 k2))) ?_ | refine cF hso hfl ?_ | refine tS ?_ ?_ <;> intro hc | fail)
     all_goals exact rE [15]
    ·have ei : gy x k w = (if w > dU w x.e then iV (k, w - dU w x.e, 0) (jB (dU w x.e) x.e) else jB (dU w x.e) x.e, (bu x.l (dU w x.e)).1, (bu x.l (dU w x.e)).2) := by unfold gy; rw [if_neg q1, if_neg q2]
     rw [ei]
     have hmle := GM x.e w
     have hmge := GN x.e hcin w (by omega)
     have hlo := JP x.e (dU w x.e) hcin (by omega) hn
     have hlf := kK 0 149 3 (jB (dU w x.e) x.e)
     have hll := Cf (dU w x.e) x.e
     have hso := xJ (jB (dU w x.e) x.e) (k, w - dU w x.e, 0) (by omega)
     have hfl := kK 0 149 3 (iV (k, w - dU w x.e, 0) (jB (dU w x.e) x.e))
     have k3 := lm x.l (dU w x.e) (by unfold W64; omega) (by unfold W64; omega)
     have hmt := fun i (hi : i < x.e.length) => JQ w x.e i hi
     have hm0 : dU w (x.e.take 0) = w := by simp [dU]
     have hmN : dU w (x.e.take x.e.length) = dU w x.e := by rw [List.take_length]
     have hmle2 := fun i => GM (x.e.take i) w
     have hmge2 := fun i => GN (x.e.take i) (fun e he => hcin e (List.mem_of_mem_take he)) w (by omega)
     generalize iV (k, w - dU w x.e, 0) (jB (dU w x.e) x.e) = e3 at *
     generalize jB (dU w x.e) x.e = e2 at *
     generalize bH x.e k = fi at *
     generalize bu x.t w = a at *
     generalize bu x.l (dU w x.e) = a' at *
     obtain ⟨a1, a2⟩ := a
     obtain ⟨b1, b2⟩ := a'
     simp only at k1 k3 hso ⊢
     obtain ⟨z, t, lo, l, b⟩ := x
     simp only at *
     cases b
     ·refine gI oD Tryz.func52 Tryz.results52 ?_
      refine wSA @aj (aI h1 (aI h2 (aI k1 k2))) ?_
      refine aK (fun i : Nat => mkA [(3, .ref 0 0), (4, .ref 1 0), (8, .ref 2 0), (12, vi (dU w (l.take i))), (13, vi i)] [(0, (45, [vs k, vi w])), (1, (36, [vi 0, vi 0, vi 0, nls, vb false])), (2, (36, [vi z, vi a1, vi lo, .sl (.own 0 149) 3 (ev l), vb a2]))] 3 (fun _ => .top)) (fun i => i ≤ l.length) (fun i => l.length - i) 0 [11] [1, 2, 13] ?_ (Nat.zero_le _) ?_
      ·(refine bZ ?_ ?_ (fC _ _ _) (by decide) (by decide) (by decide) (by decide); (repeat' (first | exact trivial | refine bQ _ _ rfl rfl ?_ ?_)); all_goals (try simp only [pgs, pgl, pgx, pgf, pgw, bI, bV, bJ, bW, dJ, gK, eP, pgn, simprocAttr]); all_goals (try (repeat' (first | apply aI))); all_goals (try (first | exact trivial | exact aX (by omega) | exact dQ rfl | exact aP rfl rfl | exact dK rfl)))
       all_goals first | exact aX (by rw [hm0]) | skip
      ·intro i hi
       replace hi : i ≤ l.length := hi
       rcases Nat.lt_or_ge i l.length with hlt | hge
       ·have hg := dw l i hlt
        have hmi := hmt i hlt
        generalize l.getD i ([], 0, 0) = y at *
        obtain ⟨yk, yc, ye⟩ := y
        simp only at hg hmi
        refine wSA (aI @aj @hg) trivial ?_
        exact bE (i + 1) [0] [0, 1, 2] hlt
       ·have : i = l.length := by omega
        subst this
        rw [hmN]
        by_cases q3 : w > dU w l
        ·rw [if_pos q3]
         (repeat' first | refine wPA @aj k3 ?_ | refine cF hlo hlf ?_ | refine cF hso hfl ?_ | refine tS ?_ ?_ <;> intro hc | fail)
         all_goals exact rE [4]
        ·rw [if_neg q3]
         (repeat' first | refine wPA @aj k3 ?_ | refine cF hlo hlf ?_ | refine tS ?_ ?_ <;> intro hc | fail)
         all_goals exact rE [3]
     ·refine gI oD Tryz.func52 Tryz.results52 ?_
      refine wSA @aj (aI h1 (aI h2 (aI k1 k2))) ?_
      refine aK (fun i : Nat => mkA [(3, .ref 0 0), (4, .ref 1 0), (8, .ref 2 0), (12, vi (dU w (l.take i))), (13, vi i)] [(0, (45, [vs k, vi w])), (1, (36, [vi 0, vi 0, vi 0, nls, vb false])), (2, (36, [vi z, vi a1, vi lo, .sl (.own 0 149) 3 (ev l), vb true]))] 3 (fun _ => .top)) (fun i => i ≤ l.length) (fun i => l.length - i) 0 [11] [1, 2, 13] ?_ (Nat.zero_le _) ?_
      ·(refine bZ ?_ ?_ (fC _ _ _) (by decide) (by decide) (by decide) (by decide); (repeat' (first | exact trivial | refine bQ _ _ rfl rfl ?_ ?_)); all_goals (try simp only [pgs, pgl, pgx, pgf, pgw, bI, bV, bJ, bW, dJ, gK, eP, pgn, simprocAttr]); all_goals (try (repeat' (first | apply aI))); all_goals (try (first | exact trivial | exact aX (by omega) | exact dQ rfl | exact aP rfl rfl | exact dK rfl)))
       all_goals first | exact aX (by rw [hm0]) | skip
      ·intro i hi
       replace hi : i ≤ l.length := hi
       rcases Nat.lt_or_ge i l.length with hlt | hge
       ·have hg := dw l i hlt
        have hmi := hmt i hlt
        generalize l.getD i ([], 0, 0) = y at *
        obtain ⟨yk, yc, ye⟩ := y
        simp only at hg hmi
        refine wSA (aI @aj @hg) trivial ?_
        exact bE (i + 1) [0] [0, 1, 2] hlt
       ·have : i = l.length := by omega
        subst this
        rw [hmN]
        by_cases q3 : w > dU w l
        ·rw [if_pos q3]
         (repeat' first | refine wPA @aj k3 ?_ | refine cF hlo hlf ?_ | refine cF hso hfl ?_ | refine tS ?_ ?_ <;> intro hc | fail)
         all_goals exact rE [4]
        ·rw [if_neg q3]
         (repeat' first | refine wPA @aj k3 ?_ | refine cF hlo hlf ?_ | refine tS ?_ ?_ <;> intro hc | fail)
         all_goals exact rE [3]
  ·rw [if_pos (by omega)]
   refine Good.fzt (vs := [.agg [vi 0, vi 0, vi 0, nls, vb false], vi (bD k w)]) ?_ rfl ⟨P5, aB _, trivial⟩
   refine gI oD Tryz.func52 Tryz.results52 ?_
   exact wRA trivial (aI h1 h2) ae
 ·rw [if_pos (by omega)]
  refine Good.fzt (vs := [.agg [vi 0, vi 0, vi 0, nls, vb false], vi (vFq x)]) ?_ rfl ⟨P5, aB _, trivial⟩
  refine gI oD Tryz.func52 Tryz.results52 ?_
  exact wRA trivial h1 ae
theorem svS (l : List (List Nat)) (x : List Nat) : sv l ++ [V.c (.string (sB x))] = sv (l ++ [x]) := by simp [sv]
theorem P6 (l : List (List Nat)) (i : Nat) (k : List Nat) : (sv l).set i (vs k) = sv (l.set i k) := by simp [sv, List.map_set]
theorem GR (l : List (List Nat)) (n : Nat) : (sv l).drop n = sv (l.drop n) := by simp [sv, List.map_drop]
theorem vI (l : List (List Nat)) (hn : l.length ≤ 1000000) : Pg.Good Tryz.prog 213 [fzs l] (.sl (.own 0 9) 1 (sv (srt kl l))) := by
 have hel := bU l
 refine gI oW Tryz.func213 Tryz.results213 ?_
 refine wS trivial trivial ?_
 refine aK (fun x : Nat × List (List Nat) => mkA [(0, fzs l), (3, .sl (.own 0 9) 1 (sv x.2.reverse)), (4, vi x.1)] [] 1 (fun _ => .top)) (fun x => x.1 ≤ l.length ∧ x.2.length = x.1 ∧ qB kl x.2 (l.drop x.1) = qB kl [] l) (fun x => l.length - x.1) (0, []) [] [] ?_ ⟨Nat.zero_le _, rfl, rfl⟩ ?_
 ·exact kE
  all_goals first | exact dR rfl | skip
 ·rintro ⟨i, acc⟩ ⟨hi, ha, hs⟩
  simp only at hi ha hs
  have hal : (sv acc.reverse).length = i := by rw [bU, List.length_reverse, ha]
  rcases Nat.lt_or_ge i l.length with hlt | hge
  ·rw [gu l i [] hlt] at hs
   have hg := iJ l i hlt
   generalize l.getD i [] = x at *
   have hsn : sv acc.reverse ++ [vs x] = sv (mov acc x []) := by rw [svS]; unfold mov; rfl
   have hml : (sv (mov acc x [])).length = i + 1 := by rw [bU, sS, ha]; rfl
   (repeat' (first | (simp (disch := first | exact dqz | fail) only [pgz, simprocAttr, hg, bU, hsn, hml, hal]) | ((with_reducible first | apply fB | apply dP | apply gY) <;> intro hc <;> (try simp only [hc]) <;> (try simp only [pgd] at hc)) | (with_reducible refine cK ?_)))
   refine aK (fun y : List (List Nat) × List (List Nat) => mkA [(0, fzs l), (3, .sl (.own 0 9) 1 (sv (mov y.1 x y.2))), (4, vi i), (5, vi y.1.length)] [] 1 (fun _ => .top)) (fun y => y.1.length + y.2.length = i ∧ (jZ kl x y.1).reverse ++ y.2 = (jZ kl x acc).reverse) (fun y => y.1.length) (acc, []) [0] [] ?_ ⟨by simp [ha], by simp⟩ ?_
   ·(refine bZ ?_ ?_ (fC _ _ _) (by decide) (by decide) (by decide) (by decide); (repeat' (first | exact trivial | refine bQ _ _ rfl rfl ?_ ?_)); all_goals (try simp only [pgs, pgl, pgx, pgf, pgw, bI, bV, bJ, bW, dJ, gK, eP, pgn, simprocAttr]); all_goals (try (repeat' (first | apply aI))); all_goals (try (first | exact trivial | exact aX (by omega) | exact dQ rfl | exact aP rfl rfl | exact dK rfl)))
    all_goals exact aX (by omega)
   ·rintro ⟨p, t⟩ ⟨hp1, hp2⟩
    simp only at hp1 hp2
    have hmp := sS p x t
    have hmp2 : (sv (mov p x t)).length = i + 1 := by rw [bU, hmp]; omega
    cases p with
    | nil =>
     rw [sU kl [] x t (.inl rfl)] at hp2
     refine wS @hmp2 trivial ?_
     refine aQ (i + 1, jZ kl x acc) [0] [] ⟨hlt, by simp only; rw [lX, ha], by simp only; rw [← hs]; rfl⟩ (by show l.length - (i + 1) < l.length - i; omega) ?_
     refine kL ?_
     all_goals exact aP rfl (by rw [hp2])
    | cons y p =>
     have g1 := iJ (mov (y :: p) x t) (p.length + 1) (by rw [hmp]; simp only [List.length_cons]; omega)
     have g2 := iJ (mov (y :: p) x t) p.length (by rw [hmp]; simp only [List.length_cons]; omega)
     have m1 : (mov (y :: p) x t).getD (p.length + 1) [] = x := PT (y :: p) x t _
     rw [m1] at g1
     rw [GL] at g2
     have hi1 : (((y :: p).length : Nat) : Int) = (p.length : Int) + 1 := by simp
     have hi2 : ((p.length : Int) + 1).toNat = p.length + 1 := by omega
     have hi3 : ((p.length : Int) + 1 - 1) = (p.length : Int) := by omega
     cases hbf : kl x y
     ·rw [sU kl (y :: p) x t (.inr ⟨y, p, rfl, hbf⟩)] at hp2
      refine wS (aI @hi1 (aI @hi2 (aI @hi3 (aI @hmp2 (aI @g1 (aI @g2 (aI @iE @hbf))))))) trivial ?_
      refine aQ (i + 1, jZ kl x acc) [0] [] ⟨hlt, by simp only; rw [lX, ha], by simp only; rw [← hs]; rfl⟩ (by show l.length - (i + 1) < l.length - i; omega) ?_
      refine kL ?_
      all_goals exact aP rfl (by rw [hp2])
     ·rw [PU kl y p x t hbf] at hp2
      have hsw := Cb y p x t
      have hs1 : (sv (mov (y :: p) x t)).set (p.length + 1) (vs y) = sv ((mov (y :: p) x t).set (p.length + 1) y) := P6 _ _ _
      have hs2 : (sv ((mov (y :: p) x t).set (p.length + 1) y)).set p.length (vs x) = sv (mov p x (y :: t)) := by
       rw [P6]
       exact congrArg sv hsw
      have hl1 : (sv ((mov (y :: p) x t).set (p.length + 1) y)).length = i + 1 := by rw [bU, List.length_set, hmp]; simp only [List.length_cons] at hp1 ⊢; omega
      have hg3 : (sv ((mov (y :: p) x t).set (p.length + 1) y))[p.length]? = some (vs y) := by rw [← hs1, List.getElem?_set_ne (by omega), g2]
      generalize (mov (y :: p) x t).set (p.length + 1) y = mm at hs1 hs2 hl1 hg3
      refine wS (aI @hi1 (aI @hi2 (aI @hi3 (aI @hmp2 (aI @g1 (aI @g2 (aI @hs1 (aI @hs2 (aI @hl1 (aI @hg3 (aI @iE @hbf))))))))))) trivial ?_
      refine aQ (p, y :: t) [0] [] ⟨by simp only [List.length_cons] at hp1 ⊢; omega, hp2⟩ (by show p.length < (y :: p).length; simp) ?_
      refine kL ?_
      all_goals (simp only [pgo, hs1, hs2]; first | exact trivial | exact aP rfl rfl)
  ·have : i = l.length := by omega
   subst this
   rw [List.drop_length] at hs
   have hs' : acc = qB kl [] l := hs
   refine wS @bU trivial ?_
   (refine rT [0] ?_; first | rfl | simp only [pgo, simprocAttr] | skip)
   all_goals (unfold srt; rw [hs']; rfl)
theorem Cj (n : Int) : Pg.Good Tryz.prog 144 [vi n] (vb (decide (0 ≤ n ∧ n ≤ 1073741824))) := by
 by_cases h1 : 0 ≤ n
 ·by_cases h2 : n ≤ 1073741824
  ·rw [decide_eq_true ⟨h1, h2⟩]
   refine gI oW Tryz.func144 Tryz.results144 ?_
   exact wR trivial trivial ae
  ·rw [decide_eq_false (by omega)]
   refine gI oW Tryz.func144 Tryz.results144 ?_
   exact wR trivial trivial ae
 ·rw [decide_eq_false (by omega)]
  refine gI oW Tryz.func144 Tryz.results144 ?_
  exact wR trivial trivial ae
def pI (l : List (List Nat)) (i : Nat) : Int := if dS (l.getD i []) = false then 7 else if 0 < i ∧ kl (l.getD i []) (l.getD (i - 1) []) = true then 19 else 0
def jr (z : Int) (v : List (List (List Nat))) (h : Nat) : Int := if ((v.getD h []).length : Int) ≥ z then 11 else iG (pI (v.getD h [])) (v.getD h []).length 0
def unR (v : List (List (List Nat))) : Nat → Int
 | 0 => 0
 | n + 1 => unR v n + (v.getD n []).length * 2 ^ n
def CB (t : Int) (v : List (List (List Nat))) : Int := if 0 < v.length ∧ (v.getD (v.length - 1) []).length = 0 then 18 else if unR v v.length ≠ t then 17 else 0
def vRk (x : Rk) : Int := if ¬ (((2 ≤ x.z ∧ x.z ≤ 32) ∧ x.z % 2 = 0) ∧ (0 ≤ x.t ∧ x.t ≤ 1099511627776) ∧ (0 ≤ x.l ∧ x.l ≤ 1099511627776)) then 5 else if x.v.length > 41 then 11
 else if iG (jr x.z x.v) x.v.length 0 ≠ 0 then iG (jr x.z x.v) x.v.length 0 else CB x.t x.v
def octL (l : List (List Nat)) : Prop := ∀ e ∈ l, oct e
theorem l7 {l : List (List Nat)} (h : octL l) (i : Nat) : oct (l.getD i []) := by
 rcases Nat.lt_or_ge i l.length with hi | hi
 ·have : l.getD i [] = l[i] := by simp [List.getD, hi]
  rw [this]; exact h _ (List.getElem_mem hi)
 ·have : l.getD i [] = [] := by simp [List.getD, hi]
  rw [this]; exact yT
theorem P7 (v : List (List (List Nat))) (n : Nat) (hn : n ≤ 41) (h : ∀ i, i < n → (v.getD i []).length < 32) : 0 ≤ unR v n ∧ unR v n ≤ n * 35184372088832 := by
 induction n with
 | zero => exact ⟨Int.le_refl _, Int.le_refl _⟩
 | succ n ih =>
  obtain ⟨h1, h2⟩ := ih (by omega) (fun i hi => h i (by omega))
  have h3 := h n (by omega)
  have h4 : 2 ^ n ≤ 2 ^ 40 := Nat.pow_le_pow_right (by decide) (by omega)
  have h5 : (v.getD n []).length * 2 ^ n ≤ 32 * 2 ^ 40 := Nat.mul_le_mul (by omega) h4
  have h6 : (((v.getD n []).length * 2 ^ n : Nat) : Int) = ((v.getD n []).length : Int) * 2 ^ n := by simp
  simp only [unR]
  rw [← h6]
  generalize (v.getD n []).length * 2 ^ n = m at *
  omega
theorem P8 (l n : Nat) (hl : l < 32) (hn : n ≤ 40) : IntKind.i64.wrap ((l : Int) * 2 ^ min n IntKind.i64.bits) = (l : Int) * 2 ^ n ∧ 0 ≤ (l : Int) * 2 ^ n ∧ (l : Int) * 2 ^ n ≤ 35184372088832 := by
 have h4 : 2 ^ n ≤ 2 ^ 40 := Nat.pow_le_pow_right (by decide) hn
 have h5 : l * 2 ^ n ≤ 32 * 2 ^ 40 := Nat.mul_le_mul (by omega) h4
 have h6 : ((l * 2 ^ n : Nat) : Int) = (l : Int) * 2 ^ n := by simp
 have h7 : min n IntKind.i64.bits = n := Nat.min_eq_left (show n ≤ 64 by omega)
 rw [h7, ← h6]
 generalize l * 2 ^ n = m at *
 refine ⟨?_, by omega, by omega⟩
 exact OJ _ (by omega) (by omega)
theorem kP (x : Rk) (hv : ∀ l ∈ x.v, octL l) (hn : x.v.length ≤ 1000000) (hn2 : ∀ l ∈ x.v, l.length ≤ 1000000) : Pg.Good Tryz.prog 70 [.agg (rkF x)] (vi (vRk x)) := by
 obtain ⟨z, t, lo, v, b⟩ := x
 simp only at hv hn hn2
 have hv' : ∀ i, octL (v.getD i []) := fun i => by
  rcases Nat.lt_or_ge i v.length with hi | hi
  ·have : v.getD i [] = v[i] := by simp [List.getD, hi]
   rw [this]; exact hv _ (List.getElem_mem hi)
  ·have : v.getD i [] = [] := by simp [List.getD, hi]
   rw [this]; intro e he; cases he
 unfold vRk
 simp only
 have hel := aS v
 by_cases c1 : ((2 ≤ z ∧ z ≤ 32) ∧ z % 2 = 0) ∧ (0 ≤ t ∧ t ≤ 1099511627776) ∧ (0 ≤ lo ∧ lo ≤ 1099511627776)
 ·rw [if_neg (fun h => h c1)]
  have k1 := ay z 2 32 c1.1.1
  have k2 := ay t 0 1099511627776 c1.2.1
  have k2' := ay lo 0 1099511627776 c1.2.2
  have et : z.tmod 2 = z % 2 := Int.tmod_eq_emod_of_nonneg (by omega)
  by_cases c2 : v.length > 41
  ·rw [if_pos c2]
   refine gI oW Tryz.func70 Tryz.results70 ?_
   exact wR (aI @aS @et) (aI k1 (aI k2 k2')) ae
  ·rw [if_neg c2]
   refine gI oW Tryz.func70 Tryz.results70 ?_
   refine wS (aI @aS @et) (aI k1 (aI k2 k2')) ?_
   generalize hE : iG (jr z v) v.length 0 = E
   generalize hR : (if E ≠ 0 then E else CB t v) = R
   refine aK (fun i : Nat => mkA [(1, .ref 0 0), (3, vi (unR v i)), (4, vi i)] [(0, (39, rkF ⟨z, t, lo, v, b⟩))] 1 (fun _ => .top)) (fun i => i ≤ v.length ∧ iG (jr z v) (v.length - i) i = E ∧ ∀ j, j < i → (v.getD j []).length < 32) (fun i => v.length - i) 0 [] [0] ?_ ⟨Nat.zero_le _, hE, fun j hj => by omega⟩ ?_
   ·exact kE
    all_goals first | exact aX rfl | skip
   ·rintro h ⟨hi, he, hlt32⟩
    rcases Nat.lt_or_ge h v.length with hlt | hge
    ·have hg := jo v h hlt
     have hoct := hv' h
     have hun := P7 v h (by omega) hlt32
     rw [show v.length - h = (v.length - (h + 1)) + 1 by omega] at he
     have eRk : jr z v h = if ((v.getD h []).length : Int) ≥ z then 11 else iG (pI (v.getD h [])) (v.getD h []).length 0 := rfl
     have eun : unR v (h + 1) = unR v h + (v.getD h []).length * 2 ^ h := rfl
     have ext : ∀ c : Int, c ≠ 0 → jr z v h = c → c = R := fun c h0 h1 => by
      rw [lh _ _ _ (by omega)] at he
      rw [← hR, ← he, h1, if_pos h0]
     have hlt32' : (v.getD h []).length < 32 → ∀ j, j < h + 1 → (v.getD j []).length < 32 := fun h0 j hj => by
      rcases Nat.lt_or_ge j h with h1 | h1
      ·exact hlt32 j h1
      ·have : j = h := by omega
       rw [this]; exact h0
     generalize hlev : v.getD h [] = lev at *
     have hsl := bU lev
     generalize hS : unR v h = S at *
     by_cases q1 : (lev.length : Int) ≥ z
     ·rw [if_pos q1] at eRk
      have := ext 11 (by omega) eRk
      subst this
      exact wR (aI @pgv (aI @hel (aI @hg @hsl))) trivial ae
     ·rw [if_neg q1] at eRk
      have hlt32'' := hlt32' (by omega)
      obtain ⟨hsh, hsh1, hsh2⟩ := P8 lev.length h (by omega) (by omega)
      refine wS (aI @pgv (aI @hel (aI @hg @hsl))) trivial ?_
      refine aK (fun i : Nat => mkA [(1, .ref 0 0), (3, vi S), (4, vi h), (5, vi i)] [(0, (39, rkF ⟨z, t, lo, v, b⟩))] 1 (fun _ => .top)) (fun i => i ≤ lev.length ∧ iG (pI lev) (lev.length - i) i = jr z v h) (fun i => lev.length - i) 0 [] [0] ?_ ⟨Nat.zero_le _, eRk.symm⟩ ?_
      ·exact kE
      ·rintro i ⟨hi2, he2⟩
       rcases Nat.lt_or_ge i lev.length with hlt2 | hge2
       ·have hg2 := iJ lev i hlt2
        rw [show lev.length - i = (lev.length - (i + 1)) + 1 by omega] at he2
        have k3 := qy (lev.getD i [])
        have eLv : pI lev i = if dS (lev.getD i []) = false then 7 else if 0 < i ∧ kl (lev.getD i []) (lev.getD (i - 1) []) = true then 19 else 0 := rfl
        have hox := l7 hoct i
        generalize lev.getD i [] = xk at *
        have ext2 : ∀ c : Int, c ≠ 0 → pI lev i = c → c = R := fun c h0 h1 => by
         rw [lh _ _ _ (by omega), h1] at he2
         exact ext c h0 he2.symm
        cases q2 : dS xk
        ·rw [q2] at k3 eLv
         have := ext2 7 (by omega) (by rw [eLv]; rfl)
         subst this
         exact wR (aI @pgv (aI @hel (aI @hg (aI @hsl @hg2)))) k3 ae
        ·rw [q2] at k3 eLv
         rw [if_neg (by simp)] at eLv
         by_cases q4 : 0 < i
         ·have hg3 := iJ lev (i - 1) (by omega)
          have hi1 : ((i : Int) - 1).toNat = i - 1 := by omega
          generalize lev.getD (i - 1) [] = yk at *
          cases q5 : kl xk yk
          ·rw [if_neg (by rw [q5]; simp)] at eLv
           rw [fO _ _ _ eLv] at he2
           refine wS (aI @pgv (aI @hel (aI @hg (aI @hsl (aI @hg2 (aI @hg3 (aI @hi1 (aI @iE @q5)))))))) k3 ?_
           exact bE (i + 1) [] [0] ⟨hlt2, he2⟩
          ·rw [if_pos ⟨q4, q5⟩] at eLv
           have := ext2 19 (by omega) eLv
           subst this
           exact wR (aI @pgv (aI @hel (aI @hg (aI @hsl (aI @hg2 (aI @hg3 (aI @hi1 (aI @iE @q5)))))))) k3 ae
         ·rw [if_neg (by omega)] at eLv
          rw [fO _ _ _ eLv] at he2
          refine wS (aI @pgv (aI @hel (aI @hg (aI @hsl @hg2)))) k3 ?_
          exact bE (i + 1) [] [0] ⟨hlt2, he2⟩
       ·have : i = lev.length := by omega
        subst this
        rw [Nat.sub_self] at he2
        have he3 : jr z v h = 0 := he2.symm
        rw [fO _ _ _ he3] at he
        refine wS (aI @pgv (aI @hel (aI @hg (aI @hsl @hsh)))) trivial ?_
        (refine aQ (h + 1) [] [0] (⟨hlt, he, hlt32''⟩) (by first | omega | (simp only [List.length_cons]; omega)) ?_; (refine bZ ?_ ?_ (fC _ _ _) (by decide) (by decide) (by decide) (by decide); (repeat' (first | exact trivial | refine bQ _ _ rfl rfl ?_ ?_)); all_goals (try simp only [pgs, pgl, pgx, pgf, pgw, bI, bV, bJ, bW, dJ, gK, eP, pgn, simprocAttr]); all_goals (try (repeat' (first | apply aI))); all_goals (try (first | exact trivial | exact aX (by omega) | exact dQ rfl | exact aP rfl rfl | exact dK rfl))))
        all_goals first | exact aX (by rw [eun]) | skip
    ·have : h = v.length := by omega
     subst this
     rw [Nat.sub_self] at he
     have he0 : 0 = E := he
     subst he0
     rw [if_neg (by omega)] at hR
     unfold CB at hR
     by_cases q6 : 0 < v.length
     ·have hg := jo v (v.length - 1) (by omega)
      have hi1 : ((v.length : Int) - 1).toNat = v.length - 1 := by omega
      generalize v.getD (v.length - 1) [] = lev at *
      have hsl := bU lev
      by_cases q7 : lev.length = 0
      ·rw [if_pos ⟨q6, q7⟩] at hR
       subst hR
       exact wR (aI @pgv (aI @hel (aI @hg (aI @hsl @hi1)))) trivial ae
      ·rw [if_neg (by omega)] at hR
       by_cases q8 : unR v v.length = t
       ·rw [if_neg (by omega)] at hR
        subst hR
        exact wR (aI @pgv (aI @hel (aI @hg (aI @hsl @hi1)))) trivial ae
       ·rw [if_pos q8] at hR
        subst hR
        exact wR (aI @pgv (aI @hel (aI @hg (aI @hsl @hi1)))) trivial ae
     ·rw [if_neg (by omega)] at hR
      by_cases q8 : unR v v.length = t
      ·rw [if_neg (by omega)] at hR
       subst hR
       exact wR (aI @pgv @hel) trivial ae
      ·rw [if_pos q8] at hR
       subst hR
       exact wR (aI @pgv @hel) trivial ae
 ·rw [if_pos c1]
  have k1 := bi z 2 32
  have k2 := bi t 0 1099511627776
  have k3 := bi lo 0 1099511627776
  by_cases c2 : 2 ≤ z ∧ z ≤ 32
  ·rw [xE c2] at k1
   have et : z.tmod 2 = z % 2 := Int.tmod_eq_emod_of_nonneg (by omega)
   by_cases c4 : z % 2 = 0
   ·by_cases c3 : 0 ≤ t ∧ t ≤ 1099511627776
    ·rw [xE c3] at k2
     rw [gq (by omega)] at k3
     refine gI oW Tryz.func70 Tryz.results70 ?_
     exact wR @et (aI k1 (aI k2 k3)) ae
    ·rw [gq c3] at k2
     refine gI oW Tryz.func70 Tryz.results70 ?_
     exact wR @et (aI k1 k2) ae
   ·refine gI oW Tryz.func70 Tryz.results70 ?_
    exact wR @et k1 ae
  ·rw [gq c2] at k1
   refine gI oW Tryz.func70 Tryz.results70 ?_
   exact wR trivial k1 ae
def pk (l : List Nat) : List Nat × Nat :=
 if (dS l && BV l) = true then (l, 0) else
 if l.length = 0 then ([], 1) else
 if l.getD 0 0 ≠ 37 then ([], 1) else
 if okB (l.drop 1) ((l.drop 1).length / 2) = false then ([], 1) else
 if (l.drop 1).length % 2 ≠ 0 then ([], 1) else
 if dS (prs (l.drop 1) ((l.drop 1).length / 2)) = false then ([], 1) else
 if BV (prs (l.drop 1) ((l.drop 1).length / 2)) = true then ([], 1) else (prs (l.drop 1) ((l.drop 1).length / 2), 0)
def dig (l : List Nat) : Nat := l.foldl (fun x c => 10 * x + (c - 48)) 0
def GU (l : List Nat) : List Nat := if WP l [45] = true then l.drop 1 else l
def Zq (b : List Nat) (neg : Bool) : Bool := decide (b.length < 1) || decide (12 < b.length) || (b.getD 0 0 == 48 && (decide (1 < b.length) || neg))
def WX (l : List Nat) : Int × Nat :=
 if Zq (GU l) (WP l [45]) = true then (0, 1) else
 if (GU l).all (fun c => bt c 48 57) = false then (0, 1) else
 (if WP l [45] = true then - (dig (GU l) : Int) else (dig (GU l) : Int), 0)
theorem dL (n : Int) (j : Nat) (hj : j ≤ 62) : bits .and .i64 n (2 ^ j - 1) = n % 2 ^ j := by
 have hb : IntKind.i64.bits = 64 := rfl
 have e1 : (BitVec.ofInt 64 (2 ^ j - 1)).toNat = 2 ^ j - 1 := by
  have hle : (2 : Nat) ^ j ≤ 2 ^ 62 := Nat.pow_le_pow_right (by omega) hj
  have h1 : ((2 : Int) ^ j - 1) = ((2 ^ j - 1 : Nat) : Int) := by
   have : 0 < (2 : Nat) ^ j := Nat.two_pow_pos j
   rw [Int.natCast_sub (by omega)]
   simp
  rw [h1, BitVec.toNat_ofInt]
  rw [show ((2 ^ 64 : Nat) : Int) = 18446744073709551616 from rfl]
  omega
 have e2 : (((BitVec.ofInt 64 n).toNat % 2 ^ j : Nat) : Int) = n % 2 ^ j := by
  rw [BitVec.toNat_ofInt, Int.natCast_emod, Int.toNat_of_nonneg (Int.emod_nonneg _ (by decide))]
  have : ((2 ^ 64 : Nat) : Int) = 2 ^ j * 2 ^ (64 - j) := by
   rw [← Int.pow_add, show j + (64 - j) = 64 by omega]
   rfl
  rw [show (((2 ^ j : Nat)) : Int) = 2 ^ j by simp, this]
  exact Int.emod_emod_of_dvd n ⟨_, rfl⟩
 show IntKind.i64.wrap (((BitVec.ofInt 64 n &&& BitVec.ofInt 64 (2 ^ j - 1)).toNat : Nat) : Int) = _
 rw [BitVec.toNat_and, e1, Nat.and_two_pow_sub_one_eq_mod, e2]
 have h0 : 0 ≤ n % 2 ^ j := Int.emod_nonneg _ (by have : (0 : Int) < 2 ^ j := Int.pow_pos (by decide); omega)
 have h1 : n % 2 ^ j < 2 ^ j := Int.emod_lt_of_pos _ (Int.pow_pos (by decide))
 have h2 : (2 : Int) ^ j ≤ 2 ^ 62 := by
  have := Nat.pow_le_pow_right (n := 2) (by omega) hj
  exact_mod_cast this
 have h3 : (2 : Int) ^ 62 = 4611686018427387904 := rfl
 exact OJ _ (by omega) (by omega)
theorem WY (n : Int) : bits .and .i64 n 255 = n % 256 := dL n 8 (by decide)
theorem Zr (n : Int) : bits .and .i64 n 15 = n % 16 := dL n 4 (by decide)
end Go.Proofs.YtaoejnjkmfkbeaaGreat
