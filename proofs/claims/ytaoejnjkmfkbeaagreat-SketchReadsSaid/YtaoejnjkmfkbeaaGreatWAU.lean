/-
  Texts of this claim, merged; own names are short.
-/
import Derived.Test.YtaoejnjkmfkbeaaGreatWAT
set_option linter.unusedVariables false
set_option linter.unusedSimpArgs false
set_option linter.unusedSectionVars false
set_option linter.defProp false
set_option maxRecDepth 100000
set_option maxHeartbeats 8000000
namespace Go.Proofs.YtaoejnjkmfkbeaaGreat
open Go Go.Pg
def lZ (x : En) : List En → List En
 | [] => [x]
 | y :: l => if kl x.1 y.1 = true then x :: y :: l else y :: lZ x l
theorem DI (x y : En) (l : List En) : lZ x (y :: l) = if kl x.1 y.1 = true then x :: y :: l else y :: lZ x l := rfl
theorem IK (x : En) (l : List En) : (lZ x l).length = l.length + 1 := by
 induction l with
 | nil => rfl
 | cons y l ih => unfold lZ; split <;> simp [ih]
theorem Wv (x z : En) (l : List En) : z ∈ lZ x l ↔ z = x ∨ z ∈ l := by
 induction l with
 | nil => simp [lZ]
 | cons y l ih =>
  unfold lZ
  split
  ·simp
  ·simp only [List.mem_cons, ih]
   constructor
   ·rintro (h | h | h) <;> simp [h]
   ·rintro (h | h | h) <;> simp [h]
def rF (x : En) (d : Bool) (l : List En) : List En := if d = true then l else lZ x l
theorem DJ (l : List En) (x : En) (hn : l.length ≤ 1000000) : Pg.Good Tryz.prog 142 [fzv l, .agg [vs x.1, vi x.2.1, vi x.2.2]] (.sl (.own 0 149) 3 (ev (lZ x l))) := by
 have hel := aP l
 refine gI oW Tryz.func142 Tryz.results142 ?_
 refine wS trivial trivial ?_
 refine bn (fun s : Nat × Bool × List En => mkA [(0, fzv l), (3, .ref 0 0), (5, .sl (.own 0 149) 3 (ev s.2.2)), (6, vb s.2.1), (7, vi s.1)] [(0, (149, [vs x.1, vi x.2.1, vi x.2.2]))] 1 (fun _ => .top)) (fun s => s.1 ≤ l.length ∧ s.2.2.length ≤ s.1 + 1 ∧ (s.2.2.length = s.1 ∨ s.2.1 = true) ∧ s.2.2 ++ rF x s.2.1 (l.drop s.1) = lZ x l) (fun s => l.length - s.1) (0, false, []) [] [0] ?_ ⟨Nat.zero_le _, Nat.zero_le _, .inl rfl, rfl⟩ ?_
 ·exact kE
  all_goals first | exact di rfl | skip
 ·rintro ⟨i, d, o⟩ ⟨hi, ho1, ho2, ho⟩
  simp only at hi ho1 ho2 ho
  have hol := aP o
  rcases Nat.lt_or_ge i l.length with hlt | hge
  ·rw [ku l i ([], 0, 0) hlt] at ho
   have hg := fG l i hlt
   generalize l.getD i ([], 0, 0) = y at *
   obtain ⟨yk, yc, ye⟩ := y
   obtain ⟨xk, xc, xe⟩ := x
   simp only at hg ho ⊢
   have s1 := lW o xk xc xe
   have s2 := lW o yk yc ye
   have s3 := lW (o ++ [(xk, xc, xe)]) yk yc ye
   have l3 : (ev (o ++ [(xk, xc, xe)])).length = o.length + 1 := by rw [aP]; simp
   have l4 : (o ++ [(xk, xc, xe)]).length = o.length + 1 := by simp
   generalize hm1 : o ++ [(xk, xc, xe)] = o1 at *
   cases d
   ·cases hk : kl xk yk
    ·have e1 : rF (xk, xc, xe) false ((yk, yc, ye) :: l.drop (i + 1)) = (yk, yc, ye) :: lZ (xk, xc, xe) (l.drop (i + 1)) := by unfold rF; rw [DI]; simp [hk]
     rw [e1] at ho
     refine wS (aI @pgv (aI @lC (aI @hg (aI @hk @s2)))) trivial ?_
     refine bu (i + 1, false, o ++ [(yk, yc, ye)]) [0] [0] ⟨hlt, by simp only [List.length_append, List.length_cons, List.length_nil]; omega, .inl (by simp only [List.length_append, List.length_cons, List.length_nil]; rcases ho2 with h | h; omega; cases h), by rw [← ho]; simp [rF]⟩ (by show l.length - (i + 1) < l.length - i; omega) ?_
     exact kE
    ·have e1 : rF (xk, xc, xe) false ((yk, yc, ye) :: l.drop (i + 1)) = (xk, xc, xe) :: (yk, yc, ye) :: (l.drop (i + 1)) := by unfold rF; rw [DI]; simp [hk]
     rw [e1] at ho
     refine wS (aI @pgv (aI @lC (aI @hg (aI @hk (aI @s1 (aI @s3 @l3)))))) trivial ?_
     refine bu (i + 1, true, o1 ++ [(yk, yc, ye)]) [0] [0] ⟨hlt, (by show (o1 ++ [((yk, yc, ye) : En)]).length ≤ i + 1 + 1; rw [List.length_append, l4]; simp only [List.length_cons, List.length_nil]; rcases ho2 with h | h; omega; cases h), .inr rfl, by rw [← ho, ← hm1]; simp [rF]⟩ (by show l.length - (i + 1) < l.length - i; omega) ?_
     exact kE
   ·have e1 : rF (xk, xc, xe) true ((yk, yc, ye) :: l.drop (i + 1)) = (yk, yc, ye) :: (l.drop (i + 1)) := by unfold rF; simp
    rw [e1] at ho
    refine wS (aI @pgv (aI @lC (aI @hg @s2))) trivial ?_
    refine bu (i + 1, true, o ++ [(yk, yc, ye)]) [0] [0] ⟨hlt, by simp only [List.length_append, List.length_cons, List.length_nil]; omega, .inr rfl, by rw [← ho]; simp [rF]⟩ (by show l.length - (i + 1) < l.length - i; omega) ?_
    exact kE
  ·have : i = l.length := by omega
   subst this
   rw [List.drop_length] at ho
   cases d
   ·have ho' : o ++ [x] = lZ x l := ho
    have s1 := lW o x.1 x.2.1 x.2.2
    have ho2' : ev (o ++ [(x.1, x.2.1, x.2.2)]) = ev (lZ x l) := congrArg ev ho'
    exact wR (aI @aP (aI @s1 @ho2')) trivial (ids [0])
   ·have ho' : o = lZ x l := by rw [← ho]; simp [rF]
    subst ho'
    exact wR @aP trivial (ids [0])
def nM (d : Int) : List En → List En
 | [] => []
 | y :: l => if y.2.1 > d then (y.1, y.2.1 - d, 0) :: nM d l else nM d l
theorem DK (d : Int) (y : En) (l : List En) : nM d (y :: l) = if y.2.1 > d then (y.1, y.2.1 - d, 0) :: nM d l else nM d l := rfl
theorem IL (d : Int) (l : List En) : (nM d l).length ≤ l.length := by
 induction l with
 | nil => exact Nat.le_refl _
 | cons y l ih => unfold nM; split <;> simp only [List.length_cons] <;> omega
def cin (l : List En) : Prop := ∀ e ∈ l, 1 ≤ e.2.1 ∧ e.2.1 ≤ 1099511627776
theorem aaR {l : List En} (h : cin l) {i : Nat} (hi : i < l.length) : 1 ≤ (l.getD i ([], 0, 0)).2.1 ∧ (l.getD i ([], 0, 0)).2.1 ≤ 1099511627776 := by
 have : l.getD i ([], 0, 0) = l[i] := by simp [List.getD, hi]
 rw [this]; exact h _ (List.getElem_mem hi)
theorem QD (l : List En) (d : Int) (hl : cin l) (hd : 1 ≤ d ∧ d ≤ 1099511627776) (hn : l.length ≤ 1000000) : Pg.Good Tryz.prog 143 [fzv l, vi d] (.sl (.own 0 149) 3 (ev (nM d l))) := by
 have hel := aP l
 refine gI oW Tryz.func143 Tryz.results143 ?_
 refine wS trivial trivial ?_
 refine bn (fun s : Nat × List En => mkA [(0, fzv l), (1, vi d), (5, .sl (.own 0 149) 3 (ev s.2)), (6, vi s.1)] [] 1 (fun _ => .top)) (fun s => s.1 ≤ l.length ∧ s.2.length ≤ s.1 ∧ s.2 ++ nM d (l.drop s.1) = nM d l) (fun s => l.length - s.1) (0, []) [] [] ?_ ⟨Nat.zero_le _, Nat.zero_le _, rfl⟩ ?_
 ·exact kE
  all_goals first | exact di rfl | skip
 ·rintro ⟨i, o⟩ ⟨hi, ho1, ho⟩
  simp only at hi ho1 ho
  have hol := aP o
  rcases Nat.lt_or_ge i l.length with hlt | hge
  ·rw [ku l i ([], 0, 0) hlt] at ho
   have hg := fG l i hlt
   have hc := aaR hl hlt
   generalize l.getD i ([], 0, 0) = y at *
   obtain ⟨yk, yc, ye⟩ := y
   simp only at hg hc
   rw [DK] at ho
   simp only at ho
   have s1 := lW o yk (yc - d) 0
   by_cases hy : yc > d
   ·rw [if_pos hy] at ho
    refine wS (aI @aP (aI @hg @s1)) trivial ?_
    refine bu (i + 1, o ++ [(yk, yc - d, 0)]) [0] [] ⟨hlt, by simp only [List.length_append, List.length_cons, List.length_nil]; omega, by rw [← ho]; simp⟩ (by show l.length - (i + 1) < l.length - i; omega) ?_
    exact kE
   ·rw [if_neg hy] at ho
    refine wS (aI @aP @hg) trivial ?_
    refine bu (i + 1, o) [0] [] ⟨hlt, by simp only; omega, ho⟩ (by show l.length - (i + 1) < l.length - i; omega) ?_
    exact kE
  ·have : i = l.length := by omega
   subst this
   rw [List.drop_length] at ho
   have ho' : o = nM d l := by rw [← ho]; simp [nM]
   subst ho'
   exact wR @aP trivial (ids [0])
def leK (a b : List Nat) : Bool := kl a b || decide (a = b)
def pM (l : List En) (i : Nat) : Int :=
 if ig (l.getD i eD).1 = false then 7
 else if ¬ ((1 ≤ (l.getD i eD).2.1 ∧ (l.getD i eD).2.1 ≤ 1099511627776) ∧ (l.getD i eD).2.2 = 0) then 5
 else if 0 < i ∧ leK (l.getD i eD).1 (l.getD (i - 1) eD).1 = true then 19 else 0
def vFq (t : Fq) : Int := if ¬ ((1 ≤ t.z ∧ t.z ≤ 32) ∧ (0 ≤ t.t ∧ t.t ≤ 1099511627776) ∧ (0 ≤ t.l ∧ t.l ≤ 1099511627776)) then 5 else if (t.e.length : Int) > t.z then 11 else kT (pM t.e) t.e.length 0
theorem jB (x : Fq) (ho : octE x.e) (hn : x.e.length ≤ 1000000) : Pg.Good Tryz.prog 69 [.agg (fqF x)] (vi (vFq x)) := by
 obtain ⟨z, t, lo, l, b⟩ := x
 simp only at ho hn
 unfold vFq
 simp only
 have hel := aP l
 by_cases c1 : (1 ≤ z ∧ z ≤ 32) ∧ (0 ≤ t ∧ t ≤ 1099511627776) ∧ (0 ≤ lo ∧ lo ≤ 1099511627776)
 ·rw [if_neg (fun h => h c1)]
  have k1 := bH z 1 32 c1.1
  have k2 := bH t 0 1099511627776 c1.2.1
  have k2' := bH lo 0 1099511627776 c1.2.2
  by_cases c2 : (l.length : Int) > z
  ·rw [if_pos c2]
   refine gI oW Tryz.func69 Tryz.results69 ?_
   exact wR @aP (aI k1 (aI k2 k2')) ah
  ·rw [if_neg c2]
   refine gI oW Tryz.func69 Tryz.results69 ?_
   refine wS @aP (aI k1 (aI k2 k2')) ?_
   generalize hE : kT (pM l) l.length 0 = E
   refine bn (fun i : Nat => mkA [(1, .ref 0 0), (3, vi i)] [(0, (36, fqF ⟨z, t, lo, l, b⟩))] 1 (fun _ => .top)) (fun i => i ≤ l.length ∧ kT (pM l) (l.length - i) i = E) (fun i => l.length - i) 0 [] [0] ?_ ⟨Nat.zero_le _, hE⟩ ?_
   ·exact kE
   ·rintro i ⟨hi, he⟩
    rcases Nat.lt_or_ge i l.length with hlt | hge
    ·have hg := fG l i hlt
     have hox := fM ho i
     have hoy := fM ho (i - 1)
     rw [show l.length - i = (l.length - (i + 1)) + 1 by omega] at he
     have k3 := xB (l.getD i eD).1
     have et : pM l i = if ig (l.getD i eD).1 = false then 7 else if ¬ ((1 ≤ (l.getD i eD).2.1 ∧ (l.getD i eD).2.1 ≤ 1099511627776) ∧ (l.getD i eD).2.2 = 0) then 5 else if 0 < i ∧ leK (l.getD i eD).1 (l.getD (i - 1) eD).1 = true then 19 else 0 := rfl
     generalize hxx : l.getD i eD = x at *
     obtain ⟨xk, xc, xe⟩ := x
     simp only at hox k3 et hg
     have ext : ∀ v : Int, v ≠ 0 → pM l i = v → v = E := fun v h0 h1 => by rw [qo _ _ _ (by omega)] at he; omega
     cases q1 : ig xk
     ·rw [q1] at k3 et
      have := ext 7 (by omega) (by rw [et]; rfl)
      subst this
      exact wR (aI @aP @hg) k3 ah
     ·rw [q1] at k3 et
      rw [if_neg (by simp)] at et
      by_cases q2 : (1 ≤ xc ∧ xc ≤ 1099511627776) ∧ xe = 0
      ·rw [if_neg (fun h => h q2)] at et
       have k5 := bH xc 1 1099511627776 q2.1
       have q0 := q2.2
       subst q0
       by_cases q4 : 0 < i
       ·have hg1 := fG l (i - 1) (by omega)
        have hi1 : ((i : Int) - 1).toNat = i - 1 := by omega
        generalize l.getD (i - 1) eD = y at *
        have hd := jw hox hoy
        have hle : (kl xk y.1 || decide (sB xk = sB y.1)) = leK xk y.1 := by rw [hd]; rfl
        cases q5 : leK xk y.1
        ·rw [if_neg (by rw [q5]; simp)] at et
         rw [q5] at hle
         rw [jO _ _ _ et] at he
         refine wS (aI @pgv (aI @lC (aI @hle (aI @hg (aI @hi1 @hg1))))) (aI k3 k5) ?_
         exact bE (i + 1) [] [0] ⟨hlt, he⟩
        ·rw [if_pos ⟨q4, q5⟩] at et
         rw [q5] at hle
         have := ext 19 (by omega) et
         subst this
         exact wR (aI @pgv (aI @lC (aI @hle (aI @hg (aI @hi1 @hg1))))) (aI k3 k5) ah
       ·rw [if_neg (by omega)] at et
        rw [jO _ _ _ et] at he
        refine wS (aI @pgv @hg) (aI k3 k5) ?_
        exact bE (i + 1) [] [0] ⟨hlt, he⟩
      ·rw [if_pos q2] at et
       have := ext 5 (by omega) et
       subst this
       by_cases q6 : 1 ≤ xc ∧ xc ≤ 1099511627776
       ·have k5 := bH xc 1 1099511627776 q6
        have q7 : xe ≠ 0 := fun h => q2 ⟨q6, h⟩
        exact wR (aI @aP @hg) (aI k3 k5) ah
       ·have k5 := dN xc 1 1099511627776
        rw [jY q6] at k5
        exact wR (aI @aP @hg) (aI k3 k5) ah
    ·have : i = l.length := by omega
     subst this
     rw [Nat.sub_self] at he
     have he0 : 0 = E := he
     subst he0
     exact wR @aP trivial ah
 ·rw [if_pos c1]
  by_cases c2 : 1 ≤ z ∧ z ≤ 32
  ·have k1 := bH z 1 32 c2
   by_cases c3 : 0 ≤ t ∧ t ≤ 1099511627776
   ·have k2 := bH t 0 1099511627776 c3
    have k2' := dN lo 0 1099511627776
    rw [jY (by omega)] at k2'
    refine gI oW Tryz.func69 Tryz.results69 ?_
    exact wR trivial (aI k1 (aI k2 k2')) ah
   ·have k2 := dN t 0 1099511627776
    rw [jY c3] at k2
    refine gI oW Tryz.func69 Tryz.results69 ?_
    exact wR trivial (aI k1 k2) ah
  ·have k1 := dN z 1 32
   rw [jY c2] at k1
   refine gI oW Tryz.func69 Tryz.results69 ?_
   exact wR trivial k1 ah
def iH (w : Int) (l : List En) : Int := l.foldl (fun m e => min m e.2.1) w
theorem NL (l : List En) : ∀ w, iH w l ≤ w := by
 induction l with
 | nil => intro w; exact Int.le_refl _
 | cons e l ih => intro w; have := ih (min w e.2.1); simp only [iH, List.foldl_cons] at *; omega
theorem NM (l : List En) (h : cin l) : ∀ w, 1 ≤ w → 1 ≤ iH w l := by
 induction l with
 | nil => intro w hw; exact hw
 | cons e l ih =>
  intro w hw
  have h1 := h e (by simp)
  have := ih (fun e he => h e (by simp [he])) (min w e.2.1) (by omega)
  simpa only [iH, List.foldl_cons] using this
theorem QE (w : Int) (l : List En) (i : Nat) (h : i < l.length) : iH w (l.take (i + 1)) = min (iH w (l.take i)) (l.getD i ([], 0, 0)).2.1 := by
 rw [List.take_succ_eq_append_getElem h]
 unfold iH
 rw [List.foldl_append]
 simp [List.getD, h]
def kw (t : Fq) (k : List Nat) (w : Int) : List En × Int × Bool :=
 if 0 ≤ eG t.e k then (t.e.set (eG t.e k).toNat ((t.e.getD (eG t.e k).toNat eD).1, (dR (t.e.getD (eG t.e k).toNat eD).2.1 w).1, (t.e.getD (eG t.e k).toNat eD).2.2), t.l, (dR (t.e.getD (eG t.e k).toNat eD).2.1 w).2)
 else if (t.e.length : Int) < t.z then (lZ (k, w, 0) t.e, t.l, false)
 else (if w > iH w t.e then lZ (k, w - iH w t.e, 0) (nM (iH w t.e) t.e) else nM (iH w t.e) t.e, (dR t.l (iH w t.e)).1, (dR t.l (iH w t.e)).2)
def vT (t : Fq) (k : List Nat) (w : Int) : Fq × Int :=
 if vFq t ≠ 0 then (Fq.o, vFq t) else if dW k w ≠ 0 then (Fq.o, dW k w) else (⟨t.z, (dR t.t w).1, (kw t k w).2.1, (kw t k w).1, t.b || (dR t.t w).2 || (kw t k w).2.2⟩, 0)
theorem pO {l : List En} {i : Nat} (h : pM l i = 0) : ig (l.getD i eD).1 = true ∧ (1 ≤ (l.getD i eD).2.1 ∧ (l.getD i eD).2.1 ≤ 1099511627776) ∧ (l.getD i eD).2.2 = 0 := by
 unfold pM at h
 split at h
 ·cases h
 ·rename_i h1
  split at h
  ·cases h
  ·rename_i h2
   have h2 := Classical.byContradiction h2
   exact ⟨by simpa using h1, h2.1, h2.2⟩
theorem uD {t : Fq} (h : vFq t = 0) : (1 ≤ t.z ∧ t.z ≤ 32) ∧ (0 ≤ t.t ∧ t.t ≤ 1099511627776) ∧ (0 ≤ t.l ∧ t.l ≤ 1099511627776) ∧ (t.e.length : Int) ≤ t.z ∧ ∀ i, i < t.e.length → pM t.e i = 0 := by
 unfold vFq at h
 split at h
 ·cases h
 ·rename_i h1
  split at h
  ·cases h
  ·rename_i h2
   have h1 := Classical.byContradiction h1
   exact ⟨h1.1, h1.2.1, h1.2.2, by omega, fun i hi => Bf _ _ _ h i (Nat.zero_le _) (by omega)⟩
theorem adn {l : List En} (h : ∀ i, i < l.length → pM l i = 0) : cin l := by
 intro e he
 obtain ⟨i, hi, rfl⟩ := List.getElem_of_mem he
 have := (pO (h i hi)).2.1
 simpa [List.getD, hi] using this
theorem Wx : wkV (.agg [vi 0, vi 0, vi 0, nls, vb false]) (.agg (fqF Fq.o)) := .inr ⟨_, _, rfl, rfl, ⟨.inl rfl, .inl rfl, .inl rfl, jM _ _, .inl rfl, trivial⟩⟩
theorem vU (x : Fq) (k : List Nat) (w : Int) (ho : oct k) (hx : octE x.e) (hn : x.e.length ≤ 1000000) : Pg.Good Tryz.prog 52 [.agg (fqF x), .agg [vs k, vi w]] (.tup [.agg (fqF (vT x k w).1), vi (vT x k w).2]) := by
 have h1 := jB x hx hn
 have h2 := bZ k w
 unfold vT
 by_cases c1 : vFq x = 0
 ·rw [if_neg (by omega)]
  rw [c1] at h1
  by_cases c2 : dW k w = 0
  ·rw [if_neg (by omega)]
   rw [c2] at h2
   obtain ⟨i1, i2, i2', i3, i4⟩ := uD c1
   have hcin := adn i4
   obtain ⟨j1, j2⟩ := ng c2
   have hw : W64 w := by unfold W64; omega
   have k1 := qp x.t w (by unfold W64; omega) hw
   have k2 := EX x.e k hx ho (by omega)
   have hfr := Bd x.e k
   refine Good.fzt (vs := [.agg [vi x.z, vi (dR x.t w).1, vi (kw x k w).2.1, .sl (.own 0 149) 3 (ev (kw x k w).1), vb (x.b || (dR x.t w).2 || (kw x k w).2.2)], vi 0]) ?_ rfl ⟨aj _, aj _, trivial⟩
   have hel := aP x.e
   by_cases q1 : 0 ≤ eG x.e k
   ·have ei : kw x k w = (x.e.set (eG x.e k).toNat ((x.e.getD (eG x.e k).toNat eD).1, (dR (x.e.getD (eG x.e k).toNat eD).2.1 w).1, (x.e.getD (eG x.e k).toNat eD).2.2), x.l, (dR (x.e.getD (eG x.e k).toNat eD).2.1 w).2) := if_pos q1
    rw [ei]
    have hlt : (eG x.e k).toNat < x.e.length := by omega
    have hg := fG x.e (eG x.e k).toNat hlt
    have her := pO (i4 _ hlt)
    have k3 := qp (x.e.getD (eG x.e k).toNat eD).2.1 w (by unfold W64; omega) hw
    generalize x.e.getD (eG x.e k).toNat eD = y at *
    obtain ⟨yk, yc, ye⟩ := y
    simp only at hg her k3 ⊢
    have hes := AU x.e (eG x.e k).toNat yk (dR yc w).1 ye
    generalize hes2 : x.e.set (eG x.e k).toNat (yk, (dR yc w).1, ye) = e2 at *
    generalize eG x.e k = fi at *
    generalize dR x.t w = a at *
    generalize dR yc w = a' at *
    obtain ⟨a1, a2⟩ := a
    obtain ⟨b1, b2⟩ := a'
    simp only at k1 k3 hes ⊢
    obtain ⟨z, t, lo, l, b⟩ := x
    simp only at *
    refine gI oD Tryz.func52 Tryz.results52 ?_
    exact wRA (aI @aP (aI @hg @hes)) (aI h1 (aI h2 (aI k1 (aI k2 k3)))) (ids [11])
   ·by_cases q2 : (x.e.length : Int) < x.z
    ·have ei : kw x k w = (lZ (k, w, 0) x.e, x.l, false) := by unfold kw; rw [if_neg q1, if_pos q2]
     rw [ei]
     have hso := DJ x.e (k, w, 0) hn
     have hfl := pJ 0 149 3 (lZ (k, w, 0) x.e)
     generalize lZ (k, w, 0) x.e = e2 at *
     generalize eG x.e k = fi at *
     generalize dR x.t w = a at *
     obtain ⟨a1, a2⟩ := a
     simp only at k1 hso ⊢
     obtain ⟨z, t, lo, l, b⟩ := x
     simp only at *
     refine gI oD Tryz.func52 Tryz.results52 ?_
     (repeat' first | refine wPA @aP (aI h1 (aI h2 (aI k1 k2))) ?_ | refine cF hso hfl ?_ | refine tS ?_ ?_ <;> intro hc | fail)
     all_goals exact rE [15]
    ·have ei : kw x k w = (if w > iH w x.e then lZ (k, w - iH w x.e, 0) (nM (iH w x.e) x.e) else nM (iH w x.e) x.e, (dR x.l (iH w x.e)).1, (dR x.l (iH w x.e)).2) := by unfold kw; rw [if_neg q1, if_neg q2]
     rw [ei]
     have hmle := NL x.e w
     have hmge := NM x.e hcin w (by omega)
     have hlo := QD x.e (iH w x.e) hcin (by omega) hn
     have hlf := pJ 0 149 3 (nM (iH w x.e) x.e)
     have hll := IL (iH w x.e) x.e
     have hso := DJ (nM (iH w x.e) x.e) (k, w - iH w x.e, 0) (by omega)
     have hfl := pJ 0 149 3 (lZ (k, w - iH w x.e, 0) (nM (iH w x.e) x.e))
     have k3 := qp x.l (iH w x.e) (by unfold W64; omega) (by unfold W64; omega)
     have hmt := fun i (hi : i < x.e.length) => QE w x.e i hi
     have hm0 : iH w (x.e.take 0) = w := by simp [iH]
     have hmN : iH w (x.e.take x.e.length) = iH w x.e := by rw [List.take_length]
     have hmle2 := fun i => NL (x.e.take i) w
     have hmge2 := fun i => NM (x.e.take i) (fun e he => hcin e (List.mem_of_mem_take he)) w (by omega)
     generalize lZ (k, w - iH w x.e, 0) (nM (iH w x.e) x.e) = e3 at *
     generalize nM (iH w x.e) x.e = e2 at *
     generalize eG x.e k = fi at *
     generalize dR x.t w = a at *
     generalize dR x.l (iH w x.e) = a' at *
     obtain ⟨a1, a2⟩ := a
     obtain ⟨b1, b2⟩ := a'
     simp only at k1 k3 hso ⊢
     obtain ⟨z, t, lo, l, b⟩ := x
     simp only at *
     cases b
     ·refine gI oD Tryz.func52 Tryz.results52 ?_
      refine wSA @aP (aI h1 (aI h2 (aI k1 k2))) ?_
      refine bn (fun i : Nat => mkA [(3, .ref 0 0), (4, .ref 1 0), (8, .ref 2 0), (12, vi (iH w (l.take i))), (13, vi i)] [(0, (45, [vs k, vi w])), (1, (36, [vi 0, vi 0, vi 0, nls, vb false])), (2, (36, [vi z, vi a1, vi lo, .sl (.own 0 149) 3 (ev l), vb a2]))] 3 (fun _ => .top)) (fun i => i ≤ l.length) (fun i => l.length - i) 0 [11] [1, 2, 13] ?_ (Nat.zero_le _) ?_
      ·(refine aN ?_ ?_ (bG _ _ _) (by decide) (by decide) (by decide) (by decide); (repeat' (first | exact trivial | refine aG _ _ rfl rfl ?_ ?_)); all_goals (try simp only [pgs, pgl, pgx, pgf, pgw, ay, aJ, az, aK, aZ, bV, bD, pgn, simprocAttr]); all_goals (try (repeat' (first | apply aI))); all_goals (try (first | exact trivial | exact au (by omega) | exact aU rfl | exact ak rfl rfl | exact bg rfl)))
       all_goals first | exact au (by rw [hm0]) | skip
      ·intro i hi
       replace hi : i ≤ l.length := hi
       rcases Nat.lt_or_ge i l.length with hlt | hge
       ·have hg := fG l i hlt
        have hmi := hmt i hlt
        generalize l.getD i ([], 0, 0) = y at *
        obtain ⟨yk, yc, ye⟩ := y
        simp only at hg hmi
        refine wSA (aI @aP @hg) trivial ?_
        exact bE (i + 1) [0] [0, 1, 2] hlt
       ·have : i = l.length := by omega
        subst this
        rw [hmN]
        by_cases q3 : w > iH w l
        ·rw [if_pos q3]
         (repeat' first | refine wPA @aP k3 ?_ | refine cF hlo hlf ?_ | refine cF hso hfl ?_ | refine tS ?_ ?_ <;> intro hc | fail)
         all_goals exact rE [4]
        ·rw [if_neg q3]
         (repeat' first | refine wPA @aP k3 ?_ | refine cF hlo hlf ?_ | refine tS ?_ ?_ <;> intro hc | fail)
         all_goals exact rE [3]
     ·refine gI oD Tryz.func52 Tryz.results52 ?_
      refine wSA @aP (aI h1 (aI h2 (aI k1 k2))) ?_
      refine bn (fun i : Nat => mkA [(3, .ref 0 0), (4, .ref 1 0), (8, .ref 2 0), (12, vi (iH w (l.take i))), (13, vi i)] [(0, (45, [vs k, vi w])), (1, (36, [vi 0, vi 0, vi 0, nls, vb false])), (2, (36, [vi z, vi a1, vi lo, .sl (.own 0 149) 3 (ev l), vb true]))] 3 (fun _ => .top)) (fun i => i ≤ l.length) (fun i => l.length - i) 0 [11] [1, 2, 13] ?_ (Nat.zero_le _) ?_
      ·(refine aN ?_ ?_ (bG _ _ _) (by decide) (by decide) (by decide) (by decide); (repeat' (first | exact trivial | refine aG _ _ rfl rfl ?_ ?_)); all_goals (try simp only [pgs, pgl, pgx, pgf, pgw, ay, aJ, az, aK, aZ, bV, bD, pgn, simprocAttr]); all_goals (try (repeat' (first | apply aI))); all_goals (try (first | exact trivial | exact au (by omega) | exact aU rfl | exact ak rfl rfl | exact bg rfl)))
       all_goals first | exact au (by rw [hm0]) | skip
      ·intro i hi
       replace hi : i ≤ l.length := hi
       rcases Nat.lt_or_ge i l.length with hlt | hge
       ·have hg := fG l i hlt
        have hmi := hmt i hlt
        generalize l.getD i ([], 0, 0) = y at *
        obtain ⟨yk, yc, ye⟩ := y
        simp only at hg hmi
        refine wSA (aI @aP @hg) trivial ?_
        exact bE (i + 1) [0] [0, 1, 2] hlt
       ·have : i = l.length := by omega
        subst this
        rw [hmN]
        by_cases q3 : w > iH w l
        ·rw [if_pos q3]
         (repeat' first | refine wPA @aP k3 ?_ | refine cF hlo hlf ?_ | refine cF hso hfl ?_ | refine tS ?_ ?_ <;> intro hc | fail)
         all_goals exact rE [4]
        ·rw [if_neg q3]
         (repeat' first | refine wPA @aP k3 ?_ | refine cF hlo hlf ?_ | refine tS ?_ ?_ <;> intro hc | fail)
         all_goals exact rE [3]
  ·rw [if_pos (by omega)]
   refine Good.fzt (vs := [.agg [vi 0, vi 0, vi 0, nls, vb false], vi (dW k w)]) ?_ rfl ⟨Wx, aj _, trivial⟩
   refine gI oD Tryz.func52 Tryz.results52 ?_
   exact wRA trivial (aI h1 h2) ah
 ·rw [if_pos (by omega)]
  refine Good.fzt (vs := [.agg [vi 0, vi 0, vi 0, nls, vb false], vi (vFq x)]) ?_ rfl ⟨Wx, aj _, trivial⟩
  refine gI oD Tryz.func52 Tryz.results52 ?_
  exact wRA trivial h1 ah
theorem svS (l : List (List Nat)) (x : List Nat) : sv l ++ [V.c (.string (sB x))] = sv (l ++ [x]) := by simp [sv]
theorem Wy (l : List (List Nat)) (i : Nat) (k : List Nat) : (sv l).set i (vs k) = sv (l.set i k) := by simp [sv, List.map_set]
theorem NP (l : List (List Nat)) (n : Nat) : (sv l).drop n = sv (l.drop n) := by simp [sv, List.map_drop]
theorem Bg (l : List (List Nat)) (hn : l.length ≤ 1000000) : Pg.Good Tryz.prog 213 [fzs l] (.sl (.own 0 9) 1 (sv (srt kl l))) := by
 have hel := Cc l
 refine gI oW Tryz.func213 Tryz.results213 ?_
 refine wS trivial trivial ?_
 refine bn (fun x : Nat × List (List Nat) => mkA [(0, fzs l), (3, .sl (.own 0 9) 1 (sv x.2.reverse)), (4, vi x.1)] [] 1 (fun _ => .top)) (fun x => x.1 ≤ l.length ∧ x.2.length = x.1 ∧ xM kl x.2 (l.drop x.1) = xM kl [] l) (fun x => l.length - x.1) (0, []) [] [] ?_ ⟨Nat.zero_le _, rfl, rfl⟩ ?_
 ·exact kE
  all_goals first | exact di rfl | skip
 ·rintro ⟨i, acc⟩ ⟨hi, ha, hs⟩
  simp only at hi ha hs
  have hal : (sv acc.reverse).length = i := by rw [Cc, List.length_reverse, ha]
  rcases Nat.lt_or_ge i l.length with hlt | hge
  ·rw [ku l i [] hlt] at hs
   have hg := jX l i hlt
   generalize l.getD i [] = x at *
   have hsn : sv acc.reverse ++ [vs x] = sv (mov acc x []) := by rw [svS]; unfold mov; rfl
   have hml : (sv (mov acc x [])).length = i + 1 := by rw [Cc, zG, ha]; rfl
   (repeat' (first | (simp (disch := first | exact dqz | fail) only [pgz, simprocAttr, hg, Cc, hsn, hml, hal]) | ((with_reducible first | apply aQ | apply aB | apply bz) <;> intro hc <;> (try simp only [hc]) <;> (try simp only [pgd] at hc)) | (with_reducible refine cK ?_)))
   refine bn (fun y : List (List Nat) × List (List Nat) => mkA [(0, fzs l), (3, .sl (.own 0 9) 1 (sv (mov y.1 x y.2))), (4, vi i), (5, vi y.1.length)] [] 1 (fun _ => .top)) (fun y => y.1.length + y.2.length = i ∧ (oP kl x y.1).reverse ++ y.2 = (oP kl x acc).reverse) (fun y => y.1.length) (acc, []) [0] [] ?_ ⟨by simp [ha], by simp⟩ ?_
   ·(refine aN ?_ ?_ (bG _ _ _) (by decide) (by decide) (by decide) (by decide); (repeat' (first | exact trivial | refine aG _ _ rfl rfl ?_ ?_)); all_goals (try simp only [pgs, pgl, pgx, pgf, pgw, ay, aJ, az, aK, aZ, bV, bD, pgn, simprocAttr]); all_goals (try (repeat' (first | apply aI))); all_goals (try (first | exact trivial | exact au (by omega) | exact aU rfl | exact ak rfl rfl | exact bg rfl)))
    all_goals exact au (by omega)
   ·rintro ⟨p, t⟩ ⟨hp1, hp2⟩
    simp only at hp1 hp2
    have hmp := zG p x t
    have hmp2 : (sv (mov p x t)).length = i + 1 := by rw [Cc, hmp]; omega
    cases p with
    | nil =>
     rw [zH kl [] x t (.inl rfl)] at hp2
     refine wS @hmp2 trivial ?_
     refine bu (i + 1, oP kl x acc) [0] [] ⟨hlt, by simp only; rw [rD, ha], by simp only; rw [← hs]; rfl⟩ (by show l.length - (i + 1) < l.length - i; omega) ?_
     refine kL ?_
     all_goals exact ak rfl (by rw [hp2])
    | cons y p =>
     have g1 := jX (mov (y :: p) x t) (p.length + 1) (by rw [hmp]; simp only [List.length_cons]; omega)
     have g2 := jX (mov (y :: p) x t) p.length (by rw [hmp]; simp only [List.length_cons]; omega)
     have m1 : (mov (y :: p) x t).getD (p.length + 1) [] = x := Wp (y :: p) x t _
     rw [m1] at g1
     rw [NK] at g2
     have hi1 : (((y :: p).length : Nat) : Int) = (p.length : Int) + 1 := by simp
     have hi2 : ((p.length : Int) + 1).toNat = p.length + 1 := by omega
     have hi3 : ((p.length : Int) + 1 - 1) = (p.length : Int) := by omega
     cases hbf : kl x y
     ·rw [zH kl (y :: p) x t (.inr ⟨y, p, rfl, hbf⟩)] at hp2
      refine wS (aI @hi1 (aI @hi2 (aI @hi3 (aI @hmp2 (aI @g1 (aI @g2 (aI @lC @hbf))))))) trivial ?_
      refine bu (i + 1, oP kl x acc) [0] [] ⟨hlt, by simp only; rw [rD, ha], by simp only; rw [← hs]; rfl⟩ (by show l.length - (i + 1) < l.length - i; omega) ?_
      refine kL ?_
      all_goals exact ak rfl (by rw [hp2])
     ·rw [Wq kl y p x t hbf] at hp2
      have hsw := IJ y p x t
      have hs1 : (sv (mov (y :: p) x t)).set (p.length + 1) (vs y) = sv ((mov (y :: p) x t).set (p.length + 1) y) := Wy _ _ _
      have hs2 : (sv ((mov (y :: p) x t).set (p.length + 1) y)).set p.length (vs x) = sv (mov p x (y :: t)) := by
       rw [Wy]
       exact congrArg sv hsw
      have hl1 : (sv ((mov (y :: p) x t).set (p.length + 1) y)).length = i + 1 := by rw [Cc, List.length_set, hmp]; simp only [List.length_cons] at hp1 ⊢; omega
      have hg3 : (sv ((mov (y :: p) x t).set (p.length + 1) y))[p.length]? = some (vs y) := by rw [← hs1, List.getElem?_set_ne (by omega), g2]
      generalize (mov (y :: p) x t).set (p.length + 1) y = mm at hs1 hs2 hl1 hg3
      refine wS (aI @hi1 (aI @hi2 (aI @hi3 (aI @hmp2 (aI @g1 (aI @g2 (aI @hs1 (aI @hs2 (aI @hl1 (aI @hg3 (aI @lC @hbf))))))))))) trivial ?_
      refine bu (p, y :: t) [0] [] ⟨by simp only [List.length_cons] at hp1 ⊢; omega, hp2⟩ (by show p.length < (y :: p).length; simp) ?_
      refine kL ?_
      all_goals (simp only [pgo, hs1, hs2]; first | exact trivial | exact ak rfl rfl)
  ·have : i = l.length := by omega
   subst this
   rw [List.drop_length] at hs
   have hs' : acc = xM kl [] l := hs
   refine wS @Cc trivial ?_
   (refine rT [0] ?_; first | rfl | simp only [pgo, simprocAttr] | skip)
   all_goals (unfold srt; rw [hs']; rfl)
theorem IM (n : Int) : Pg.Good Tryz.prog 144 [vi n] (vb (decide (0 ≤ n ∧ n ≤ 1073741824))) := by
 by_cases h1 : 0 ≤ n
 ·by_cases h2 : n ≤ 1073741824
  ·rw [decide_eq_true ⟨h1, h2⟩]
   refine gI oW Tryz.func144 Tryz.results144 ?_
   exact wR trivial trivial ah
  ·rw [decide_eq_false (by omega)]
   refine gI oW Tryz.func144 Tryz.results144 ?_
   exact wR trivial trivial ah
 ·rw [decide_eq_false (by omega)]
  refine gI oW Tryz.func144 Tryz.results144 ?_
  exact wR trivial trivial ah
def tK (l : List (List Nat)) (i : Nat) : Int := if ig (l.getD i []) = false then 7 else if 0 < i ∧ kl (l.getD i []) (l.getD (i - 1) []) = true then 19 else 0
def lD (z : Int) (v : List (List (List Nat))) (h : Nat) : Int := if ((v.getD h []).length : Int) ≥ z then 11 else kT (tK (v.getD h [])) (v.getD h []).length 0
def unR (v : List (List (List Nat))) : Nat → Int
 | 0 => 0
 | n + 1 => unR v n + (v.getD n []).length * 2 ^ n
def IP (t : Int) (v : List (List (List Nat))) : Int := if 0 < v.length ∧ (v.getD (v.length - 1) []).length = 0 then 18 else if unR v v.length ≠ t then 17 else 0
def vRk (x : Rk) : Int := if ¬ (((2 ≤ x.z ∧ x.z ≤ 32) ∧ x.z % 2 = 0) ∧ (0 ≤ x.t ∧ x.t ≤ 1099511627776) ∧ (0 ≤ x.l ∧ x.l ≤ 1099511627776)) then 5 else if x.v.length > 41 then 11
 else if kT (lD x.z x.v) x.v.length 0 ≠ 0 then kT (lD x.z x.v) x.v.length 0 else IP x.t x.v
def octL (l : List (List Nat)) : Prop := ∀ e ∈ l, oct e
theorem ny {l : List (List Nat)} (h : octL l) (i : Nat) : oct (l.getD i []) := by
 rcases Nat.lt_or_ge i l.length with hi | hi
 ·have : l.getD i [] = l[i] := by simp [List.getD, hi]
  rw [this]; exact h _ (List.getElem_mem hi)
 ·have : l.getD i [] = [] := by simp [List.getD, hi]
  rw [this]; exact kY
theorem WA (v : List (List (List Nat))) (n : Nat) (hn : n ≤ 41) (h : ∀ i, i < n → (v.getD i []).length < 32) : 0 ≤ unR v n ∧ unR v n ≤ n * 35184372088832 := by
 induction n with
 | zero => exact ⟨Int.le_refl _, Int.le_refl _⟩
 | succ n ih =>
  obtain ⟨h1, h2⟩ := ih (by omega) (fun i hi => h i (by omega))
  have h3 := h n (by omega)
  have h4 : 2 ^ n ≤ 2 ^ 40 := Nat.pow_le_pow_right (by decide) (by omega)
  have h5 : (v.getD n []).length * 2 ^ n ≤ 32 * 2 ^ 40 := Nat.mul_le_mul (by omega) h4
  have h6 : (((v.getD n []).length * 2 ^ n : Nat) : Int) = ((v.getD n []).length : Int) * 2 ^ n := by simp
  simp only [unR]
  rw [← h6]
  generalize (v.getD n []).length * 2 ^ n = m at *
  omega
theorem WB (l n : Nat) (hl : l < 32) (hn : n ≤ 40) : IntKind.i64.wrap ((l : Int) * 2 ^ min n IntKind.i64.bits) = (l : Int) * 2 ^ n ∧ 0 ≤ (l : Int) * 2 ^ n ∧ (l : Int) * 2 ^ n ≤ 35184372088832 := by
 have h4 : 2 ^ n ≤ 2 ^ 40 := Nat.pow_le_pow_right (by decide) hn
 have h5 : l * 2 ^ n ≤ 32 * 2 ^ 40 := Nat.mul_le_mul (by omega) h4
 have h6 : ((l * 2 ^ n : Nat) : Int) = (l : Int) * 2 ^ n := by simp
 have h7 : min n IntKind.i64.bits = n := Nat.min_eq_left (show n ≤ 64 by omega)
 rw [h7, ← h6]
 generalize l * 2 ^ n = m at *
 refine ⟨?_, by omega, by omega⟩
 exact Vo _ (by omega) (by omega)
theorem kU (x : Rk) (hv : ∀ l ∈ x.v, octL l) (hn : x.v.length ≤ 1000000) (hn2 : ∀ l ∈ x.v, l.length ≤ 1000000) : Pg.Good Tryz.prog 70 [.agg (rkF x)] (vi (vRk x)) := by
 obtain ⟨z, t, lo, v, b⟩ := x
 simp only at hv hn hn2
 have hv' : ∀ i, octL (v.getD i []) := fun i => by
  rcases Nat.lt_or_ge i v.length with hi | hi
  ·have : v.getD i [] = v[i] := by simp [List.getD, hi]
   rw [this]; exact hv _ (List.getElem_mem hi)
  ·have : v.getD i [] = [] := by simp [List.getD, hi]
   rw [this]; intro e he; cases he
 unfold vRk
 simp only
 have hel := dQ v
 by_cases c1 : ((2 ≤ z ∧ z ≤ 32) ∧ z % 2 = 0) ∧ (0 ≤ t ∧ t ≤ 1099511627776) ∧ (0 ≤ lo ∧ lo ≤ 1099511627776)
 ·rw [if_neg (fun h => h c1)]
  have k1 := bH z 2 32 c1.1.1
  have k2 := bH t 0 1099511627776 c1.2.1
  have k2' := bH lo 0 1099511627776 c1.2.2
  have et : z.tmod 2 = z % 2 := Int.tmod_eq_emod_of_nonneg (by omega)
  by_cases c2 : v.length > 41
  ·rw [if_pos c2]
   refine gI oW Tryz.func70 Tryz.results70 ?_
   exact wR (aI @dQ @et) (aI k1 (aI k2 k2')) ah
  ·rw [if_neg c2]
   refine gI oW Tryz.func70 Tryz.results70 ?_
   refine wS (aI @dQ @et) (aI k1 (aI k2 k2')) ?_
   generalize hE : kT (lD z v) v.length 0 = E
   generalize hR : (if E ≠ 0 then E else IP t v) = R
   refine bn (fun i : Nat => mkA [(1, .ref 0 0), (3, vi (unR v i)), (4, vi i)] [(0, (39, rkF ⟨z, t, lo, v, b⟩))] 1 (fun _ => .top)) (fun i => i ≤ v.length ∧ kT (lD z v) (v.length - i) i = E ∧ ∀ j, j < i → (v.getD j []).length < 32) (fun i => v.length - i) 0 [] [0] ?_ ⟨Nat.zero_le _, hE, fun j hj => by omega⟩ ?_
   ·exact kE
    all_goals first | exact au rfl | skip
   ·rintro h ⟨hi, he, hlt32⟩
    rcases Nat.lt_or_ge h v.length with hlt | hge
    ·have hg := lN v h hlt
     have hoct := hv' h
     have hun := WA v h (by omega) hlt32
     rw [show v.length - h = (v.length - (h + 1)) + 1 by omega] at he
     have eRk : lD z v h = if ((v.getD h []).length : Int) ≥ z then 11 else kT (tK (v.getD h [])) (v.getD h []).length 0 := rfl
     have eun : unR v (h + 1) = unR v h + (v.getD h []).length * 2 ^ h := rfl
     have ext : ∀ c : Int, c ≠ 0 → lD z v h = c → c = R := fun c h0 h1 => by
      rw [qo _ _ _ (by omega)] at he
      rw [← hR, ← he, h1, if_pos h0]
     have hlt32' : (v.getD h []).length < 32 → ∀ j, j < h + 1 → (v.getD j []).length < 32 := fun h0 j hj => by
      rcases Nat.lt_or_ge j h with h1 | h1
      ·exact hlt32 j h1
      ·have : j = h := by omega
       rw [this]; exact h0
     generalize hlev : v.getD h [] = lev at *
     have hsl := Cc lev
     generalize hS : unR v h = S at *
     by_cases q1 : (lev.length : Int) ≥ z
     ·rw [if_pos q1] at eRk
      have := ext 11 (by omega) eRk
      subst this
      exact wR (aI @pgv (aI @hel (aI @hg @hsl))) trivial ah
     ·rw [if_neg q1] at eRk
      have hlt32'' := hlt32' (by omega)
      obtain ⟨hsh, hsh1, hsh2⟩ := WB lev.length h (by omega) (by omega)
      refine wS (aI @pgv (aI @hel (aI @hg @hsl))) trivial ?_
      refine bn (fun i : Nat => mkA [(1, .ref 0 0), (3, vi S), (4, vi h), (5, vi i)] [(0, (39, rkF ⟨z, t, lo, v, b⟩))] 1 (fun _ => .top)) (fun i => i ≤ lev.length ∧ kT (tK lev) (lev.length - i) i = lD z v h) (fun i => lev.length - i) 0 [] [0] ?_ ⟨Nat.zero_le _, eRk.symm⟩ ?_
      ·exact kE
      ·rintro i ⟨hi2, he2⟩
       rcases Nat.lt_or_ge i lev.length with hlt2 | hge2
       ·have hg2 := jX lev i hlt2
        rw [show lev.length - i = (lev.length - (i + 1)) + 1 by omega] at he2
        have k3 := xB (lev.getD i [])
        have eLv : tK lev i = if ig (lev.getD i []) = false then 7 else if 0 < i ∧ kl (lev.getD i []) (lev.getD (i - 1) []) = true then 19 else 0 := rfl
        have hox := ny hoct i
        generalize lev.getD i [] = xk at *
        have ext2 : ∀ c : Int, c ≠ 0 → tK lev i = c → c = R := fun c h0 h1 => by
         rw [qo _ _ _ (by omega), h1] at he2
         exact ext c h0 he2.symm
        cases q2 : ig xk
        ·rw [q2] at k3 eLv
         have := ext2 7 (by omega) (by rw [eLv]; rfl)
         subst this
         exact wR (aI @pgv (aI @hel (aI @hg (aI @hsl @hg2)))) k3 ah
        ·rw [q2] at k3 eLv
         rw [if_neg (by simp)] at eLv
         by_cases q4 : 0 < i
         ·have hg3 := jX lev (i - 1) (by omega)
          have hi1 : ((i : Int) - 1).toNat = i - 1 := by omega
          generalize lev.getD (i - 1) [] = yk at *
          cases q5 : kl xk yk
          ·rw [if_neg (by rw [q5]; simp)] at eLv
           rw [jO _ _ _ eLv] at he2
           refine wS (aI @pgv (aI @hel (aI @hg (aI @hsl (aI @hg2 (aI @hg3 (aI @hi1 (aI @lC @q5)))))))) k3 ?_
           exact bE (i + 1) [] [0] ⟨hlt2, he2⟩
          ·rw [if_pos ⟨q4, q5⟩] at eLv
           have := ext2 19 (by omega) eLv
           subst this
           exact wR (aI @pgv (aI @hel (aI @hg (aI @hsl (aI @hg2 (aI @hg3 (aI @hi1 (aI @lC @q5)))))))) k3 ah
         ·rw [if_neg (by omega)] at eLv
          rw [jO _ _ _ eLv] at he2
          refine wS (aI @pgv (aI @hel (aI @hg (aI @hsl @hg2)))) k3 ?_
          exact bE (i + 1) [] [0] ⟨hlt2, he2⟩
       ·have : i = lev.length := by omega
        subst this
        rw [Nat.sub_self] at he2
        have he3 : lD z v h = 0 := he2.symm
        rw [jO _ _ _ he3] at he
        refine wS (aI @pgv (aI @hel (aI @hg (aI @hsl @hsh)))) trivial ?_
        (refine bu (h + 1) [] [0] (⟨hlt, he, hlt32''⟩) (by first | omega | (simp only [List.length_cons]; omega)) ?_; (refine aN ?_ ?_ (bG _ _ _) (by decide) (by decide) (by decide) (by decide); (repeat' (first | exact trivial | refine aG _ _ rfl rfl ?_ ?_)); all_goals (try simp only [pgs, pgl, pgx, pgf, pgw, ay, aJ, az, aK, aZ, bV, bD, pgn, simprocAttr]); all_goals (try (repeat' (first | apply aI))); all_goals (try (first | exact trivial | exact au (by omega) | exact aU rfl | exact ak rfl rfl | exact bg rfl))))
        all_goals first | exact au (by rw [eun]) | skip
    ·have : h = v.length := by omega
     subst this
     rw [Nat.sub_self] at he
     have he0 : 0 = E := he
     subst he0
     rw [if_neg (by omega)] at hR
     unfold IP at hR
     by_cases q6 : 0 < v.length
     ·have hg := lN v (v.length - 1) (by omega)
      have hi1 : ((v.length : Int) - 1).toNat = v.length - 1 := by omega
      generalize v.getD (v.length - 1) [] = lev at *
      have hsl := Cc lev
      by_cases q7 : lev.length = 0
      ·rw [if_pos ⟨q6, q7⟩] at hR
       subst hR
       exact wR (aI @pgv (aI @hel (aI @hg (aI @hsl @hi1)))) trivial ah
      ·rw [if_neg (by omega)] at hR
       by_cases q8 : unR v v.length = t
       ·rw [if_neg (by omega)] at hR
        subst hR
        exact wR (aI @pgv (aI @hel (aI @hg (aI @hsl @hi1)))) trivial ah
       ·rw [if_pos q8] at hR
        subst hR
        exact wR (aI @pgv (aI @hel (aI @hg (aI @hsl @hi1)))) trivial ah
     ·rw [if_neg (by omega)] at hR
      by_cases q8 : unR v v.length = t
      ·rw [if_neg (by omega)] at hR
       subst hR
       exact wR (aI @pgv @hel) trivial ah
      ·rw [if_pos q8] at hR
       subst hR
       exact wR (aI @pgv @hel) trivial ah
 ·rw [if_pos c1]
  have k1 := dN z 2 32
  have k2 := dN t 0 1099511627776
  have k3 := dN lo 0 1099511627776
  by_cases c2 : 2 ≤ z ∧ z ≤ 32
  ·rw [Dz c2] at k1
   have et : z.tmod 2 = z % 2 := Int.tmod_eq_emod_of_nonneg (by omega)
   by_cases c4 : z % 2 = 0
   ·by_cases c3 : 0 ≤ t ∧ t ≤ 1099511627776
    ·rw [Dz c3] at k2
     rw [jY (by omega)] at k3
     refine gI oW Tryz.func70 Tryz.results70 ?_
     exact wR @et (aI k1 (aI k2 k3)) ah
    ·rw [jY c3] at k2
     refine gI oW Tryz.func70 Tryz.results70 ?_
     exact wR @et (aI k1 k2) ah
   ·refine gI oW Tryz.func70 Tryz.results70 ?_
    exact wR @et k1 ah
  ·rw [jY c2] at k1
   refine gI oW Tryz.func70 Tryz.results70 ?_
   exact wR trivial k1 ah
end Go.Proofs.YtaoejnjkmfkbeaaGreat
