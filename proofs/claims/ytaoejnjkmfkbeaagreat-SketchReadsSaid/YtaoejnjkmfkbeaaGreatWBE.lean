/-
  Texts of this claim, merged; own names are short.
-/
import Derived.Test.YtaoejnjkmfkbeaaGreatWBD
import Derived.Test.YtaoejnjkmfkbeaaGreatWAY
set_option linter.unusedVariables false
set_option linter.unusedSimpArgs false
set_option linter.unusedSectionVars false
set_option linter.defProp false
set_option maxRecDepth 100000
set_option maxHeartbeats 8000000
namespace Go.Proofs.YtaoejnjkmfkbeaaGreat
open Go Go.Pg
theorem XN (c : Cm) (h : vCm c ≠ 0) : Pg.Good Tryz.prog 166 [.agg (cmF c)] (.tup [.c (.slice none 0 0), vi (vCm c)]) := by
 have h1 := WH c
 generalize vCm c = v at *
 refine gI oW Tryz.func166 Tryz.results166 ?_
 exact wR trivial h1 ah
def tV : Nat → List Int → List Nat → Bool → List Int × List Nat × Bool
 | 0, c, l, b => (c, l, b)
 | k + 1, c, l, b => tV k (c ++ [((nuX l b : Nat) : Int)]) (nuL l b) (nuB l b)
theorem LV {k : Nat} {c : List Int} {l : List Nat} {b : Bool} (h : k ≠ 0) : tV k c l b = tV (k - 1) (c ++ [((nuX l b : Nat) : Int)]) (nuL l b) (nuB l b) := by
 cases k with
 | zero => exact absurd rfl h
 | succ k => rfl
def fCm (l : List Nat) (x : Cm) (b : Bool) : Option Cm := if b = true then none else if vCm x = 0 ∧ jk x = l then some x else none
def eCm (l : List Nat) (d z s : Nat) (q : List Int × List Nat × Bool) : Option Cm := fCm l ⟨d, z, s, q.1, decide ((nuX q.2.1 q.2.2 : Int) = 1)⟩ (nuB q.2.1 q.2.2)
def dCm (l : List Nat) (d z s : Nat) (l3 : List Nat) (b3 : Bool) : Option Cm := if b3 = true ∨ ¬ (1 ≤ (d : Int) ∧ (d : Int) ≤ 8 ∧ 1 ≤ (z : Int) ∧ (z : Int) ≤ 64) then none else eCm l d z s (tV (d * z) [] l3 b3)
def wF (l : List Nat) : Option Cm := dCm l (sx l 0) (sx l 1) (woX (sS l 2).1 (sS l 2).2) (woL (sS l 2).1 (sS l 2).2) (woB (sS l 2).1 (sS l 2).2)
theorem Rn (t : Cm) : oct (jk t) := by
 unfold jk
 exact aY (aY (aY (aY (aO _) (aO _)) (xE _)) (oQ _ _ fun _ _ => aO _)) (by cases t.b <;> exact lV (by omega))
theorem XO (c : List Int) (n : Int) : iv c ++ [vi n] = iv (c ++ [n]) := zB c n
theorem XP (l0 : List Nat) (ho : oct l0) (hl : l0.length ≤ 2147483648) : Pg.Good Tryz.prog 97 [fzb l0] (oV cmF Cm.o (wF l0)) := by
 refine wC (F' := cmF) (zs := [vi 0, vi 0, vu 0, .c (.slice none 0 0), vb false]) ?_ (fun _ => rfl) (fun _ => ⟨aj _, aj _, trivial⟩) rfl ⟨.inr ⟨_, _, rfl, rfl, ⟨.inl rfl, .inl rfl, .inl rfl, jM _ _, .inl rfl, trivial⟩⟩, aj _, trivial⟩
 have hcv := fun (l : List Nat) s d K => dV (P := Tryz.prog) s d 48 9 .fz l K (by kernel_rfl) (by kernel_rfl) (by kernel_rfl) (by kernel_rfl)
 have z1 := fun e bx n' h hb hbn => ae1 e bx n' h 1 l0 0 ho hl hb hbn
 have z2 := fun e bx n' h hb hbn => ae1 e bx n' h 1 l0 1 ho hl hb hbn
 have o2 := nI ho 2
 have n2 := Nat.le_trans (qy l0 2) hl
 have z3 := fun e bx n' h hb hbn => aeX e bx n' h 1 (sS l0 2).1 (sS l0 2).2 o2 n2 hb hbn
 have m0 := jC ho 0
 have m1 := jC ho 1
 have m2 := Og (sS l0 2).1 (sS l0 2).2 o2
 have o3 := abe (sS l0 2).2 o2
 have n3 := Nat.le_trans (abf (sS l0 2).1 (sS l0 2).2) n2
 unfold wF
 generalize sx l0 0 = d at *
 generalize sx l0 1 = z at *
 generalize woX (sS l0 2).1 (sS l0 2).2 = s at *
 generalize woL (sS l0 2).1 (sS l0 2).2 = l3 at *
 generalize woB (sS l0 2).1 (sS l0 2).2 = b3 at *
 cases b3
 case true =>
  rw [kD (o := dCm l0 d z s l3 true) (if_pos (.inl rfl))]
  refine gI (BO mix) Tryz.func97 Tryz.results97 ?_
  (repeat' (first | (simp (disch := first | exact dqz | fail) only [pgz, simprocAttr, jH, hcv]) | ((with_reducible show cu _ _ _ _ _ _); first | refine eu _ (z1 _ _ _ _ rfl (by omega)) rfl ?_ | refine eu _ (z2 _ _ _ _ rfl (by omega)) rfl ?_ | refine eu _ (z3 _ _ _ _ rfl (by omega)) rfl ?_) | ((with_reducible first | apply aQ | apply aB | apply bz) <;> intro hc <;> (try simp only [hc]) <;> (try simp only [pgd] at hc)) | (with_reducible refine cK ?_)))
  all_goals exact rE []
 case false =>
  by_cases hsz : 1 ≤ (d : Int) ∧ (d : Int) ≤ 8 ∧ 1 ≤ (z : Int) ∧ (z : Int) ≤ 64
  case neg =>
   rw [kD (o := dCm l0 d z s l3 false) (if_pos (.inr hsz))]
   have kB := DR d z hsz
   refine gI (BO mix) Tryz.func97 Tryz.results97 ?_
   (repeat' (first | (simp (disch := first | exact dqz | fail) only [pgz, simprocAttr, jH, hcv]) | ((with_reducible show cu _ _ _ _ _ _); first | refine eu _ (z1 _ _ _ _ rfl (by omega)) rfl ?_ | refine eu _ (z2 _ _ _ _ rfl (by omega)) rfl ?_ | refine eu _ (z3 _ _ _ _ rfl (by omega)) rfl ?_ | refine cU kB ?_) | ((with_reducible first | apply aQ | apply aB | apply bz) <;> intro hc <;> (try simp only [hc]) <;> (try simp only [pgd] at hc)) | (with_reducible refine cK ?_)))
   all_goals exact rE []
  case pos =>
   have hdC : dCm l0 d z s l3 false = eCm l0 d z s (tV (d * z) [] l3 false) := if_neg (by rintro (h | h); cases h; exact h hsz)
   rw [hdC]
   have kB := IX d z hsz
   obtain ⟨F, hF⟩ : ∃ F, F = tV (d * z) [] l3 false := ⟨_, rfl⟩
   rw [← hF]
   have hm := oN (d := (d : Int)) (z := (z : Int)) ⟨hsz.1, hsz.2.1⟩ hsz.2.2
   obtain ⟨M, hM⟩ : ∃ M, M = d * z := ⟨_, rfl⟩
   have hdz : (d : Int) * (z : Int) = (M : Nat) := by rw [hM]; simp
   rw [hdz] at hm
   rw [← hM] at hF
   refine gI (BO mix) Tryz.func97 Tryz.results97 ?_
   (repeat' (first | (simp (disch := first | exact dqz | fail) only [pgz, simprocAttr, jH, hcv, hdz]) | ((with_reducible show cu _ _ _ _ _ _); first | refine eu _ (z1 _ _ _ _ rfl (by omega)) rfl ?_ | refine eu _ (z2 _ _ _ _ rfl (by omega)) rfl ?_ | refine eu _ (z3 _ _ _ _ rfl (by omega)) rfl ?_ | refine cU kB ?_) | ((with_reducible first | apply aQ | apply aB | apply bz) <;> intro hc <;> (try simp only [hc]) <;> (try simp only [pgd] at hc)) | (with_reducible refine cK ?_)))
   refine bn (fun x : List Int × List Nat × Bool => mkA [(0, fzb l0), (2, .ref 0 0), (4, .ref 1 0), (5, .ref 2 0), (36, vi M), (37, vi x.1.length)] [(0, (29, [vi 0, vi 0, vu 0, .c (.slice none 0 0), vb false])), (1, (193, [fzb x.2.1, vb x.2.2])), (2, (29, [vi d, vi z, vu s, .sl (.own 0 3) 1 (iv x.1), vb false]))] 3 (fun _ => .top))
    (fun x => tV (M - x.1.length) x.1 x.2.1 x.2.2 = F ∧ x.1.length ≤ M ∧ oct x.2.1 ∧ x.2.1.length ≤ 2147483648) (fun x => M - x.1.length) ([], l3, false) [] [0, 1, 2] ?_ ⟨hF.symm, Nat.zero_le _, o3, n3⟩ ?_
   ·(refine aN ?_ ?_ (bG _ _ _) (by decide) (by decide) (by decide) (by decide); (repeat' (first | exact trivial | refine aG _ _ rfl rfl ?_ ?_)); all_goals (try simp only [pgs, pgl, pgx, pgf, pgw, ay, aJ, az, aK, aZ, bV, bD, pgn, simprocAttr]); all_goals (try (repeat' (first | apply aI))); all_goals (try (first | exact trivial | exact au (by omega) | exact aU rfl | exact ak rfl rfl | exact bg rfl)))
    all_goals first | exact di rfl | exact au (by omega) | exact aU rfl | skip
   ·rintro ⟨c, l, b⟩ ⟨i1, i2, i3, i4⟩
    simp only at i1 i2 i3 i4
    have hil := bC c
    by_cases hgo : c.length < M
    ·rw [LV (by omega)] at i1
     have w1 := fun e bx n' h hb hbn => Xy e bx n' h 1 l b i3 i4 hb hbn
     have q1 := sQ b i3
     have q2 := Nat.le_trans (sU l b) i4
     have q3 := zK l b i3
     generalize nuX l b = x at *
     generalize nuL l b = l' at *
     generalize nuB l b = b' at *
     have hln : (c ++ [(x : Int)]).length = c.length + 1 := by simp
     rw [show M - c.length - 1 = M - (c ++ [(x : Int)]).length by rw [hln]; omega] at i1
     have hap := XO c (x : Int)
     (repeat' (first | (simp (disch := first | exact dqz | fail) only [pgz, simprocAttr, jH, hil]) | ((with_reducible first | apply aQ | apply aB | apply bz) <;> intro hc <;> (try simp only [hc]) <;> (try simp only [pgd] at hc)) | (with_reducible refine cK ?_)))
     obtain ⟨B0, hB0⟩ : ∃ f, f = H5 [(0, (29, [vi 0, vi 0, vu 0, .c (.slice none 0 0), vb false])), (1, (193, [fzb l, vb b])), (2, (29, [vi d, vi z, vu s, .sl (.own 0 3) 1 (iv c), vb false]))] := ⟨_, rfl⟩
     obtain ⟨B1, hB1⟩ : ∃ f, f = upd B0 1 (some (193, [fzb l', vb b'])) := ⟨_, rfl⟩
     obtain ⟨BX, hBX⟩ : ∃ f : (Nat → Bool) → Nat → Option (TypeId × List V), f = fun S => if S 3 = true then B1 else B0 := ⟨_, rfl⟩
     obtain ⟨NI, hNI⟩ : ∃ f : (Nat → Bool) → Nat, f = fun S => if S 4 = true then 4 else 3 := ⟨_, rfl⟩
     have b0 : B0 1 = some (193, [fzb l, vb b]) := by rw [hB0]; rfl
     have hBi : ∀ S i, i ≠ 3 → BX S = BX (ins S i) := fun S i h3 => by rw [hBX]; simp only [rW (Ne.symm h3)]
     have hNi : ∀ S i, i ≠ 4 → NI S = NI (ins S i) := fun S i h7 => by rw [hNI]; simp only [rW (Ne.symm h7)]
     have hb2 : ∀ S, BX S 2 = some (29, [vi d, vi z, vu s, .sl (.own 0 3) 1 (iv c), vb false]) := fun S => by
      rw [hBX]
      show (if S 3 = true then B1 else B0) 2 = _
      cases S 3
      ·rw [if_neg Bool.false_ne_true, hB0]; exact rfl
      ·rw [if_pos rfl, hB1, hB0]; exact rfl
     have hnd : ([39, 40, 41, 42, 43] : List Nat).Nodup := by decide
     refine Rl mix 5 [(39, .ref 2 3), (40, .sl (.own 0 3) 1 (iv c)), (41, .ref 1 0), (42, vi (x : Nat)), (43, .sl (.own 3 3) 1 [vi (x : Nat)])] BX NI (by rw [hBX]; show B0 = _; exact hB0) (by rw [hNI]; rfl) (by decide) (by decide) (by decide) ?_ ?_
     ·intro S i o ho hi hS he hcl
      rcases (by omega : i = 0 ∨ i = 1 ∨ i = 2 ∨ i = 3 ∨ i = 4) with rfl | rfl | rfl | rfl | rfl
      all_goals (simp only [List.getElem?_cons_zero, List.getElem?_cons_succ, Option.some.injEq] at ho; subst ho)
      ·(repeat' (first | (simp (disch := first | exact dqz | fail) only [pgz, simprocAttr, hS, fJ, nJ]) | ((with_reducible first | apply aQ | apply aB | apply bz) <;> intro hc <;> (try simp only [hc]) <;> (try simp only [pgd] at hc)) | (with_reducible refine cK ?_)))
       exact wE 0 rfl hnd (hBi S 0 (by decide)) (hNi S 0 (by decide))
      ·have s0 := he 0 (by decide)
       (repeat' (first | (simp (disch := first | exact dqz | fail) only [pgz, simprocAttr, hS, s0, fJ, nJ, hb2]) | ((with_reducible first | apply aQ | apply aB | apply bz) <;> intro hc <;> (try simp only [hc]) <;> (try simp only [pgd] at hc)) | (with_reducible refine cK ?_)))
       exact wE 1 rfl hnd (hBi S 1 (by decide)) (hNi S 1 (by decide))
      ·(repeat' (first | (simp (disch := first | exact dqz | fail) only [pgz, simprocAttr, hS, fJ, nJ]) | ((with_reducible first | apply aQ | apply aB | apply bz) <;> intro hc <;> (try simp only [hc]) <;> (try simp only [pgd] at hc)) | (with_reducible refine cK ?_)))
       exact wE 2 rfl hnd (hBi S 2 (by decide)) (hNi S 2 (by decide))
      ·have s2 := he 2 (by decide)
       have e0 : BX S = B0 := by rw [hBX]; simp only [hS]; rfl
       have e1 : BX (ins S 3) = B1 := by rw [hBX]; simp only [F5]; rfl
       (repeat' (first | (simp (disch := first | exact dqz | fail) only [pgz, simprocAttr, hS, s2, e0, fJ, nJ]) | ((with_reducible first | apply aQ | apply aB | apply bz) <;> intro hc <;> (try simp only [hc]) <;> (try simp only [pgd] at hc)) | (with_reducible refine cK ?_)))
       refine cZ (w1 _ _ _ _ b0 (by rw [hNI]; simp only; split <;> omega)) ?_ (by simp only [List.map_cons, List.map_nil, pgo, simprocAttr, s2, fJ])
       exact wE 3 (T := [(39, .ref 2 3), (40, .sl (.own 0 3) 1 (iv c)), (41, .ref 1 0), (42, vi (x : Nat)), (43, .sl (.own 3 3) 1 [vi (x : Nat)])]) rfl hnd (by rw [e1, hB1]) (hNi S 3 (by decide))
      ·have s3 := he 3 (by decide)
       have e0 : NI S = 3 := by rw [hNI]; simp only [hS]; rfl
       have e1 : NI (ins S 4) = 4 := by rw [hNI]; simp only [F5]; rfl
       (repeat' (first | (simp (disch := first | exact dqz | fail) only [pgz, simprocAttr, hS, s3, e0, fJ, nJ]) | ((with_reducible first | apply aQ | apply aB | apply bz) <;> intro hc <;> (try simp only [hc]) <;> (try simp only [pgd] at hc)) | (with_reducible refine cK ?_)))
       exact wE 4 rfl hnd (hBi S 4 (by decide)) e1.symm
     ·intro S hall
      have s1 := hall 1 (by decide) (by decide)
      have s4 := hall 4 (by decide) (by decide)
      have e0 : BX S = B1 := by rw [hBX]; simp only [hall 3 (by decide) (by decide)]; rfl
      have e1 : NI S = 4 := by rw [hNI]; simp only [s4]; rfl
      have hB2n := hb2 S
      rw [e0] at hB2n
      rw [e0, e1, hB1, hB0]
      simp only [List.drop_succ_cons, List.drop_zero, List.map_cons, List.map_nil]
      (repeat' (first | (simp (disch := first | exact dqz | fail) only [pgz, simprocAttr, jH, hil, hap, s1, s4, fJ, nJ, hB2n]) | ((with_reducible first | apply aQ | apply aB | apply bz) <;> intro hc <;> (try simp only [hc]) <;> (try simp only [pgd] at hc)) | (with_reducible refine cK ?_)))
      refine bu (c ++ [(x : Int)], l', b') [0] [0, 1, 2] ⟨i1, by show (c ++ [(x : Int)]).length ≤ M; omega, q1, q2⟩ (by show M - (c ++ [(x : Int)]).length < M - c.length; omega) ?_
      (refine aN ?_ ?_ (bG _ _ _) (by decide) (by decide) (by decide) (by decide); (repeat' (first | exact trivial | refine aG _ _ rfl rfl ?_ ?_)); all_goals (try simp only [pgs, pgl, pgx, pgf, pgw, ay, aJ, az, aK, aZ, bV, bD, pgn, simprocAttr]); all_goals (try (repeat' (first | apply aI))); all_goals (try (first | exact trivial | exact au (by omega) | exact aU rfl | exact ak rfl rfl | exact bg rfl)))
      all_goals (try simp only [fJ, nJ, pgo, simprocAttr, bV, bD, aZ])
      all_goals first | done | exact ak rfl rfl | exact au (by rw [hln]; omega) | exact au (by omega) | exact aU rfl | skip
    ·have hMc : M - c.length = 0 := by omega
     rw [hMc] at i1
     have hF2 : F = (c, l, b) := i1.symm
     subst hF2
     have w1 := fun e bx n' h hb hbn => Xy e bx n' h 1 l b i3 i4 hb hbn
     have q3 := zK l b i3
     have hfC : eCm l0 d z s (c, l, b) = fCm l0 ⟨d, z, s, c, decide ((nuX l b : Int) = 1)⟩ (nuB l b) := rfl
     rw [hfC]
     have hE := NU ⟨d, z, s, c, decide ((nuX l b : Int) = 1)⟩
     have hX := XN ⟨d, z, s, c, decide ((nuX l b : Int) = 1)⟩
     have hd := jw (Rn ⟨d, z, s, c, decide ((nuX l b : Int) = 1)⟩) ho
     generalize nuX l b = x at *
     generalize nuL l b = l' at *
     generalize nuB l b = b' at *
     have hf2 : ((x : Int) == 1) = decide ((x : Int) = 1) := rfl
     generalize decide ((x : Int) = 1) = f at *
     have hdT : fCm l0 ⟨d, z, s, c, f⟩ b' = if b' = true then none else if vCm ⟨d, z, s, c, f⟩ = 0 ∧ jk ⟨d, z, s, c, f⟩ = l0 then some ⟨d, z, s, c, f⟩ else none := rfl
     clear z1 z2 z3 hF
     cases b' with
     | false =>
      by_cases hv : vCm ⟨d, z, s, c, f⟩ = 0
      ·have hE := hE hv ⟨by show (0 : Int) ≤ (s : Int); omega, by show (s : Int) < _; omega⟩
       by_cases he : jk ⟨d, z, s, c, f⟩ = l0
       ·rw [Jh (x := ⟨d, z, s, c, f⟩) (hdT.trans (by rw [if_neg Bool.false_ne_true]; exact if_pos ⟨hv, he⟩))]
        rw [he] at hE
        (repeat' (first | (simp (disch := first | exact dqz | fail) only [pgz, simprocAttr, jH, hil, hcv, hf2, id_eq.{1}]) | ((with_reducible show cu _ _ _ _ _ _); first | refine eu _ (w1 _ _ _ _ rfl (by omega)) rfl ?_ | refine dh [0] _ (hE) rfl rfl rfl rfl ?_) | ((with_reducible first | apply aQ | apply aB | apply bz) <;> intro hc <;> (try simp only [hc]) <;> (try simp only [pgd] at hc)) | (with_reducible refine cK ?_)))
        all_goals exact rE []
       ·rw [kD (hdT.trans (by rw [if_neg Bool.false_ne_true]; exact if_neg fun h => he h.2))]
        rw [decide_eq_false he] at hd
        generalize jk ⟨d, z, s, c, f⟩ = E at *
        (repeat' (first | (simp (disch := first | exact dqz | fail) only [pgz, simprocAttr, jH, hil, hcv, hd, hf2, id_eq.{1}]) | ((with_reducible show cu _ _ _ _ _ _); first | refine eu _ (w1 _ _ _ _ rfl (by omega)) rfl ?_ | refine dh [0] _ (hE) rfl rfl rfl rfl ?_) | ((with_reducible first | apply aQ | apply aB | apply bz) <;> intro hc <;> (try simp only [hc]) <;> (try simp only [pgd] at hc)) | (with_reducible refine cK ?_)))
        all_goals exact rE []
      ·have hX := hX hv
       rw [kD (hdT.trans (by rw [if_neg Bool.false_ne_true]; exact if_neg fun h => hv h.1))]
       generalize vCm ⟨d, z, s, c, f⟩ = vv at *
       (repeat' (first | (simp (disch := first | exact dqz | fail) only [pgz, simprocAttr, jH, hil, hcv, hf2, id_eq.{1}]) | ((with_reducible show cu _ _ _ _ _ _); first | refine eu _ (w1 _ _ _ _ rfl (by omega)) rfl ?_ | refine dh [0] _ (hX) rfl rfl rfl rfl ?_) | ((with_reducible first | apply aQ | apply aB | apply bz) <;> intro hc <;> (try simp only [hc]) <;> (try simp only [pgd] at hc)) | (with_reducible refine cK ?_)))
       all_goals exact rE []
     | true =>
      rw [kD (hdT.trans (if_pos rfl))]
      by_cases hv : vCm ⟨d, z, s, c, f⟩ = 0
      ·have hE := hE hv ⟨by show (0 : Int) ≤ (s : Int); omega, by show (s : Int) < _; omega⟩
       generalize jk ⟨d, z, s, c, f⟩ = E at *
       (repeat' (first | (simp (disch := first | exact dqz | fail) only [pgz, simprocAttr, jH, hil, hcv, hf2, id_eq.{1}]) | ((with_reducible show cu _ _ _ _ _ _); first | refine eu _ (w1 _ _ _ _ rfl (by omega)) rfl ?_ | refine dh [0] _ (hE) rfl rfl rfl rfl ?_) | ((with_reducible first | apply aQ | apply aB | apply bz) <;> intro hc <;> (try simp only [hc]) <;> (try simp only [pgd] at hc)) | (with_reducible refine cK ?_)))
       all_goals exact rE []
      ·have hX := hX hv
       generalize vCm ⟨d, z, s, c, f⟩ = vv at *
       (repeat' (first | (simp (disch := first | exact dqz | fail) only [pgz, simprocAttr, jH, hil, hcv, hf2, id_eq.{1}]) | ((with_reducible show cu _ _ _ _ _ _); first | refine eu _ (w1 _ _ _ _ rfl (by omega)) rfl ?_ | refine dh [0] _ (hX) rfl rfl rfl rfl ?_) | ((with_reducible first | apply aQ | apply aB | apply bz) <;> intro hc <;> (try simp only [hc]) <;> (try simp only [pgd] at hc)) | (with_reducible refine cK ?_)))
       all_goals exact rE []
def ivU (l : List Nat) : List Int := l.map fun (n : Nat) => (n : Int)
theorem XQ (l : List Nat) (n : Nat) : iv (ivU l) ++ [vi n] = iv (ivU (l ++ [n])) := by rw [zB]; simp [ivU]
theorem abk (l : List Nat) : (iv (ivU l)).length = l.length := by rw [bC]; simp [ivU]
def XR (x : Ll) : Option Ll := if vLl x = 0 then some x else none
def dLl (p : Nat) (l : List Nat) : Option Ll := if (kF l).2.2 = 0 ∧ (l.drop 8).length = 2 ^ p then XR ⟨p, ((kF l).1 : Nat), ivU (l.drop 8)⟩ else none
def wG (l : List Nat) : Option Ll := if (aW l).2.2 = 0 ∧ (2 ≤ (aW l).1 ∧ (aW l).1 ≤ 8) then dLl (aW l).1 (l.drop (aW l).2.1) else none
abbrev llO (x : Ll) : List V := [vi x.p, vu x.s, .sl (.own 0 3) 1 (iv x.r)]
theorem XT (l : List Nat) (ho : oct l) (hl : l.length ≤ 2147483648) : Pg.Good Tryz.prog 98 [fzb l] (oV llF Ll.o (wG l)) := by
 refine wC (F' := llO) (zs := [vi 0, vu 0, .c (.slice none 0 0)]) ?_ (fun _ => rfl) (fun _ => ⟨aj _, aj _, trivial⟩) rfl ⟨.inr ⟨_, _, rfl, rfl, ⟨.inl rfl, .inl rfl, jM _ _, trivial⟩⟩, aj _, trivial⟩
 have k0 := eQ l ho hl
 obtain ⟨m0, y0, _⟩ := iT l ho
 unfold uK at k0
 have b0 := ai l
 unfold wG
 generalize aW l = q at *
 obtain ⟨p, u, er⟩ := q
 simp only at *
 have x0 := iq l u
 by_cases he : er = 0
 case neg =>
  rw [kD (if_neg fun h => he h.1)]
  refine gI oW Tryz.func98 Tryz.results98 ?_
  exact wR @b0 k0 ah
 case pos =>
  subst he
  by_cases hp : 2 ≤ p ∧ p ≤ 8
  case neg =>
   rw [kD (if_neg fun h => hp h.2)]
   have kB := DT (p : Int) (by omega)
   refine gI oW Tryz.func98 Tryz.results98 ?_
   exact wR @b0 (aI k0 kB) ah
  case pos =>
   rw [if_pos ⟨rfl, hp⟩]
   have kB := IY (p : Int) (by omega)
   obtain ⟨hw, hp1, hp2⟩ := oO (p := (p : Int)) (by omega)
   rw [Int.toNat_natCast] at hw hp1 hp2
   have o1 := dZ ho u
   have k1 := xR (l.drop u) o1 (by rw [List.length_drop]; omega)
   have n1 : (l.drop u).length = l.length - u := List.length_drop
   unfold dLl
   rcases Nat.lt_or_ge (l.drop u).length 8 with h8 | h8
   ·have d1 : kF (l.drop u) = (0, 0, 3) := if_pos h8
    rw [d1] at k1 ⊢
    rw [kD (if_neg fun h => nomatch h.1)]
    unfold Xx at k1
    simp only at k1
    refine gI oW Tryz.func98 Tryz.results98 ?_
    exact wR (aI @pgv (aI @b0 (aI @x0 @n1))) (aI k0 (aI k1 kB)) ah
   ·have d1 : kF (l.drop u) = (acc ((l.drop u).take 8), 8, 0) := if_neg (by omega)
    rw [d1] at k1 ⊢
    unfold Xx at k1
    simp only at k1 ⊢
    have ha := wz o1 (i := 8) (by omega)
    have t1 : Int.toNat ((u : Int) + 8) = u + 8 := by omega
    have x1 : (bv l).drop (u + 8) = bv ((l.drop u).drop 8) := by rw [iq, List.drop_drop]
    have b2 := ai ((l.drop u).drop 8)
    have n2 : ((l.drop u).drop 8).length = l.length - u - 8 := by rw [List.length_drop, n1]
    have oR := dZ o1 8
    generalize acc ((l.drop u).take 8) = s at *
    by_cases hR : ((l.drop u).drop 8).length = 2 ^ p
    case neg =>
     rw [kD (if_neg fun h => hR h.2)]
     generalize (l.drop u).drop 8 = R at *
     refine gI oW Tryz.func98 Tryz.results98 ?_
     exact wR (aI @pgv (aI @b0 (aI @x0 (aI @n1 (aI @t1 (aI @x1 (aI @b2 @hw))))))) (aI k0 (aI k1 kB)) ah
    case pos =>
     rw [if_pos ⟨trivial, hR⟩]
     rw [← hR] at hw hp1 hp2
     have hgr := fun i (hi : i < ((l.drop u).drop 8).length) => lL ((l.drop u).drop 8) i hi
     generalize (l.drop u).drop 8 = R at *
     have hV := WI ⟨p, (s : Nat), ivU R⟩ (by show (ivU R).length ≤ _; unfold ivU; rw [List.length_map]; omega)
     refine gI oW Tryz.func98 Tryz.results98 ?_
     refine wS (aI @pgv (aI @b0 (aI @b2 (aI @x0 (aI @n1 (aI @x1 (aI @t1 @hw))))))) (aI k0 (aI k1 kB)) ?_
     refine bn (fun i : Nat => mkA [(2, .ref 0 0), (10, .ref 1 0), (53, fzb R), (54, vi R.length), (55, vi i)] [(0, (31, [vi 0, vu 0, .c (.slice none 0 0)])), (1, (31, [vi p, vu (s : Nat), .sl (.own 0 3) 1 (iv (ivU (R.take i)))]))] 2 (fun _ => .top)) (fun i => i ≤ R.length) (fun i => R.length - i) 0 [] [0, 1] ?_ (Nat.zero_le _) ?_
     ·(refine aN ?_ ?_ (bG _ _ _) (by decide) (by decide) (by decide) (by decide); (repeat' (first | exact trivial | refine aG _ _ rfl rfl ?_ ?_)); all_goals (try simp only [pgs, pgl, pgx, pgf, pgw, ay, aJ, az, aK, aZ, bV, bD, pgn, simprocAttr]); all_goals (try (repeat' (first | apply aI))); all_goals (try (first | exact trivial | exact au (by omega) | exact aU rfl | exact ak rfl rfl | exact bg rfl)))
      all_goals first | exact di rfl | exact au (by omega) | exact aU rfl | skip
     ·intro i hi
      replace hi : i ≤ R.length := hi
      have hil := abk (R.take i)
      rw [List.length_take, Nat.min_eq_left hi] at hil
      rcases Nat.lt_or_ge i R.length with hlt | hge
      ·have hg := hgr i hlt
       have et : R.take (i + 1) = R.take i ++ [R.getD i 0] := by rw [List.take_succ_eq_append_getElem hlt]; simp [List.getD, hlt]
       have hap := XQ (R.take i) (R.getD i 0)
       rw [← et] at hap
       clear et
       have hb := iZ oR i
       generalize R.getD i 0 = m at *
       refine wS (aI @b2 (aI @hg (aI @hil @hap))) trivial ?_
       (refine bu (i + 1) [0] [0, 1] (hlt) (by first | omega | (simp only [List.length_cons]; omega)) ?_; (refine aN ?_ ?_ (bG _ _ _) (by decide) (by decide) (by decide) (by decide); (repeat' (first | exact trivial | refine aG _ _ rfl rfl ?_ ?_)); all_goals (try simp only [pgs, pgl, pgx, pgf, pgw, ay, aJ, az, aK, aZ, bV, bD, pgn, simprocAttr]); all_goals (try (repeat' (first | apply aI))); all_goals (try (first | exact trivial | exact au (by omega) | exact aU rfl | exact ak rfl rfl | exact bg rfl))))
       all_goals first | exact ak rfl rfl | exact au (by omega) | exact aU rfl | skip
      ·have : i = R.length := by omega
       subst this
       rw [List.take_length] at *
       have hf : XR ⟨p, (s : Nat), ivU R⟩ = if vLl ⟨p, (s : Nat), ivU R⟩ = 0 then some ⟨p, (s : Nat), ivU R⟩ else none := rfl
       by_cases hv : vLl ⟨p, (s : Nat), ivU R⟩ = 0
       ·rw [Jh (hf.trans (if_pos hv))]
        rw [hv] at hV
        exact wR (aI @b2 @hil) hV (ids [0])
       ·rw [kD (hf.trans (if_neg hv))]
        generalize vLl ⟨p, (s : Nat), ivU R⟩ = v at *
        exact wR (aI @b2 @hil) hV ah
theorem XU (t : Tp) (h : vTp t ≠ 0) (ho : octE t.e) (hn : t.e.length ≤ 1000000) : Pg.Good Tryz.prog 168 [.agg (tpF t)] (.tup [.c (.slice none 0 0), vi (vTp t)]) := by
 have h1 := WU t ho hn
 generalize vTp t = v at *
 refine ji (qU (fun d => bif d == 48 then true else false) [] mix) Tryz.func168 rfl Tryz.results168 rfl (by kernel_rfl) (Nat.le_of_ble_eq_true (by kernel_rfl)) ?_
 (repeat' (first | (simp (disch := first | exact dqz | fail) only [pgz, simprocAttr, pgF]) | ((with_reducible show cu _ _ _ _ _ _); first | refine cU h1 ?_) | ((with_reducible first | apply aQ | apply aB | apply bz) <;> intro hc <;> (try simp only [hc]) <;> (try simp only [pgd] at hc)) | (with_reducible show qj _ _ _ _ _ _ _ _ _ _ _); refine oM _ _ (fun hc => ?_) (fun hc => ?_) <;> (try simp only [hc]) <;> (try simp only [pgd] at hc) | (with_reducible refine cK ?_)))
 exact rE []
def rdE (l : List Nat) (b : Bool) : En := (teX l b, (nuX (teL l b) (teB l b) : Nat), (nuX (nuL (teL l b) (teB l b)) (nuB (teL l b) (teB l b)) : Nat))
def LX (l : List Nat) (b : Bool) : List Nat := nuL (nuL (teL l b) (teB l b)) (nuB (teL l b) (teB l b))
def XV (l : List Nat) (b : Bool) : Bool := nuB (nuL (teL l b) (teB l b)) (nuB (teL l b) (teB l b))
def yJ : Nat → Nat → List En → List Nat → Bool → List En × List Nat × Bool
 | 0, _, e, l, b => (e, l, b)
 | k + 1, n, e, l, b => if n = 0 ∨ b = true then (e, l, b) else yJ k (n - 1) (e ++ [rdE l b]) (LX l b) (XV l b)
def abN (l : List Nat) (x : Tp) : Option Tp := if vTp x = 0 ∧ jc x = l then some x else none
def dTp (l : List Nat) (z tt : Nat) (f : Bool) (q : List En × List Nat × Bool) : Option Tp := if q.2.2 = true then none else abN l ⟨z, tt, q.1, f⟩
def wH (l : List Nat) : Option Tp := dTp l (sx l 0) (sx l 1) (decide ((sx l 2 : Int) = 1)) (yJ 32 (sx l 3) [] (sS l 4).1 (sS l 4).2)
theorem DY {k n : Nat} {e : List En} {l : List Nat} {b : Bool} (h : k = 0 ∨ n = 0 ∨ b = true) : yJ k n e l b = (e, l, b) := by
 cases k with
 | zero => rfl
 | succ k => exact if_pos (by rcases h with h | h | h; omega; exact .inl h; exact .inr h)
theorem BP {k n : Nat} {e : List En} {l : List Nat} {b : Bool} (h1 : k ≠ 0) (h2 : n ≠ 0) (h3 : b = false) : yJ k n e l b = yJ (k - 1) (n - 1) (e ++ [rdE l b]) (LX l b) (XV l b) := by
 cases k with
 | zero => exact absurd rfl h1
 | succ k => exact if_neg (by rintro (h | h); exact h2 h; rw [h3] at h; cases h)
theorem Ro {t : Tp} (ho : octE t.e) : oct (jc t) := by
 unfold jc
 refine aY (aY (aY (aY (aO _) (aO _)) (by cases t.b <;> exact lV (by omega))) (aO _)) ?_
 exact oQ _ _ fun e he => aY (aY (mr (ho e he)) (aO _)) (aO _)
theorem XW (l0 : List Nat) (ho : oct l0) (hl : l0.length ≤ 2147483648) : Pg.Good Tryz.prog 99 [fzb l0] (oV tpF Tp.o (wH l0)) := by
 refine wC (F' := tpF) (zs := [vi 0, vi 0, .c (.slice none 0 0), vb false]) ?_ (fun _ => rfl) (fun _ => ⟨aj _, aj _, trivial⟩) rfl ⟨.inr ⟨_, _, rfl, rfl, ⟨.inl rfl, .inl rfl, jM _ _, .inl rfl, trivial⟩⟩, aj _, trivial⟩
 have hcv := fun (l : List Nat) s d K => dV (P := Tryz.prog) s d 48 9 .fz l K (by kernel_rfl) (by kernel_rfl) (by kernel_rfl) (by kernel_rfl)
 have z1 := fun e bx n' h hb hbn => abh e bx n' h 1 l0 0 ho hl hb hbn
 have z2 := fun e bx n' h hb hbn => abh e bx n' h 1 l0 1 ho hl hb hbn
 have z3 := fun e bx n' h hb hbn => abh e bx n' h 1 l0 2 ho hl hb hbn
 have z4 := fun e bx n' h hb hbn => abh e bx n' h 1 l0 3 ho hl hb hbn
 have m0 := jC ho 0
 have m1 := jC ho 1
 have m2 := jC ho 2
 have m3 := jC ho 3
 have o4 := nI ho 4
 have n4 := qy l0 4
 unfold wH
 generalize sx l0 0 = z at *
 generalize sx l0 1 = tt at *
 generalize sx l0 2 = fl at *
 generalize sx l0 3 = N at *
 obtain ⟨f, hf⟩ : ∃ f, f = decide ((fl : Int) = 1) := ⟨_, rfl⟩
 rw [← hf]
 obtain ⟨F, hF⟩ : ∃ F, F = yJ 32 N [] (sS l0 4).1 (sS l0 4).2 := ⟨_, rfl⟩
 rw [← hF]
 refine gI oW Tryz.func99 Tryz.results99 ?_
 (repeat' (first | (simp (disch := first | exact dqz | fail) only [pgz, simprocAttr, hcv]) | ((with_reducible show cu _ _ _ _ _ _); first | refine eu _ (z1 _ _ _ _ rfl (by omega)) rfl ?_ | refine eu _ (z2 _ _ _ _ rfl (by omega)) rfl ?_ | refine eu _ (z3 _ _ _ _ rfl (by omega)) rfl ?_ | refine eu _ (z4 _ _ _ _ rfl (by omega)) rfl ?_) | ((with_reducible first | apply aQ | apply aB | apply bz) <;> intro hc <;> (try simp only [hc]) <;> (try simp only [pgd] at hc)) | (with_reducible refine cK ?_)))
 refine bn (fun x : List En × List Nat × Bool => mkA [(0, fzb l0), (2, .ref 0 0), (4, .ref 1 0), (5, .ref 2 0), (6, vi N), (7, vi x.1.length)] [(0, (34, [vi 0, vi 0, .c (.slice none 0 0), vb false])), (1, (201, [fzb x.2.1, vb x.2.2])), (2, (34, [vi z, vi tt, .sl (.own 0 149) 3 (ev x.1), vb f]))] 3 (fun _ => .top))
  (fun x => yJ (32 - x.1.length) (N - x.1.length) x.1 x.2.1 x.2.2 = F ∧ x.1.length ≤ 32 ∧ x.1.length ≤ N ∧ oct x.2.1 ∧ x.2.1.length ≤ 2147483648 ∧ octE x.1) (fun x => 32 - x.1.length) ([], (sS l0 4).1, (sS l0 4).2) [] [0, 1, 2] ?_ ⟨hF.symm, by simp, by simp, o4, Nat.le_trans n4 hl, fun x hx => by cases hx⟩ ?_
 ·(refine aN ?_ ?_ (bG _ _ _) (by decide) (by decide) (by decide) (by decide); (repeat' (first | exact trivial | refine aG _ _ rfl rfl ?_ ?_)); all_goals (try simp only [pgs, pgl, pgx, pgf, pgw, ay, aJ, az, aK, aZ, bV, bD, pgn, simprocAttr]); all_goals (try (repeat' (first | apply aI))); all_goals (try (first | exact trivial | exact au (by omega) | exact aU rfl | exact ak rfl rfl | exact bg rfl)))
  all_goals first | exact di rfl | exact au (by omega) | exact aU rfl | exact aU (by rw [hf]; rfl) | skip
 ·rintro ⟨e, l, b⟩ ⟨i1, i2, i3, i4, i5, i6⟩
  simp only at i1 i2 i3 i4 i5 i6
  have hel := aP e
  by_cases hgo : e.length < N ∧ e.length < 32 ∧ b = false
  ·obtain ⟨g1, g2, rfl⟩ := hgo
   rw [BP (by omega) (by omega) rfl] at i1
   have w1 := fun e bx n' h hb hbn => aeY e bx n' h 1 l false i4 i5 hb hbn
   have q1 := FV false i4
   have q2 := Nat.le_trans (FW l false) i5
   have w2 := fun e bx n' h hb hbn => Xz e bx n' h 1 (teL l false) (teB l false) q1 q2 hb hbn
   have q3 := sQ (teB l false) q1
   have q4 := Nat.le_trans (sU (teL l false) (teB l false)) q2
   have w3 := fun e bx n' h hb hbn => Xz e bx n' h 1 (nuL (teL l false) (teB l false)) (nuB (teL l false) (teB l false)) q3 q4 hb hbn
   have q5 : oct (LX l false) := sQ _ q3
   have q6 : (LX l false).length ≤ 2147483648 := Nat.le_trans (sU _ _) q4
   obtain ⟨q7, _⟩ := FX l false i4
   have hap := lW e (teX l false) (nuX (teL l false) (teB l false) : Nat) (nuX (nuL (teL l false) (teB l false)) (nuB (teL l false) (teB l false)) : Nat)
   have hrd : rdE l false = (teX l false, ((nuX (teL l false) (teB l false) : Nat) : Int), ((nuX (nuL (teL l false) (teB l false)) (nuB (teL l false) (teB l false)) : Nat) : Int)) := rfl
   have hln : (e ++ [rdE l false]).length = e.length + 1 := by simp
   have q8 : octE (e ++ [rdE l false]) := DX i6 _ _ _ q7
   rw [← hrd] at hap
   rw [show 32 - e.length - 1 = 32 - (e ++ [rdE l false]).length by rw [hln]; omega, show N - e.length - 1 = N - (e ++ [rdE l false]).length by rw [hln]; omega] at i1
   (repeat' (first | (simp (disch := first | exact dqz | fail) only [pgz, simprocAttr, hel, hap]) | ((with_reducible show cu _ _ _ _ _ _); first | refine eu _ (w1 _ _ _ _ rfl (by omega)) rfl ?_ | refine eu _ (w2 _ _ _ _ rfl (by omega)) rfl ?_ | refine eu _ (w3 _ _ _ _ rfl (by omega)) rfl ?_) | ((with_reducible first | apply aQ | apply aB | apply bz) <;> intro hc <;> (try simp only [hc]) <;> (try simp only [pgd] at hc)) | (with_reducible refine cK ?_)))
   refine bu (e ++ [rdE l false], LX l false, XV l false) [0] [0, 1, 2] ⟨i1, by show (e ++ [rdE l false]).length ≤ 32; omega, by show (e ++ [rdE l false]).length ≤ N; omega, q5, q6, q8⟩ (by show 32 - (e ++ [rdE l false]).length < 32 - e.length; omega) ?_
   (refine aN ?_ ?_ (bG _ _ _) (by decide) (by decide) (by decide) (by decide); (repeat' (first | exact trivial | refine aG _ _ rfl rfl ?_ ?_)); all_goals (try simp only [pgs, pgl, pgx, pgf, pgw, ay, aJ, az, aK, aZ, bV, bD, pgn, simprocAttr]); all_goals (try (repeat' (first | apply aI))); all_goals (try (first | exact trivial | exact au (by omega) | exact aU rfl | exact ak rfl rfl | exact bg rfl)))
   all_goals first | exact ak rfl rfl | exact au (by omega) | exact aU rfl | exact au (by rw [hln]; omega) | exact Nc rfl | skip
  ·rw [DY (by
    by_cases c1 : e.length < N
    ·by_cases c2 : e.length < 32
     ·cases b with
      | false => exact absurd ⟨c1, c2, rfl⟩ hgo
      | true => exact .inr (.inr rfl)
     ·exact .inl (by omega)
    ·exact .inr (.inl (by omega)))] at i1
   subst i1
   have hE := NZ ⟨z, tt, e, f⟩
   have hX := XU ⟨z, tt, e, f⟩
   have hd := jw (Ro (t := ⟨z, tt, e, f⟩) i6) ho
   have hdT : dTp l0 z tt f (e, l, b) = if b = true then none else if vTp ⟨z, tt, e, f⟩ = 0 ∧ jc ⟨z, tt, e, f⟩ = l0 then some ⟨z, tt, e, f⟩ else none := rfl
   clear z1 z2 z3 z4 hf
   cases b with
   | false =>
    rcases (by
     rcases Nat.lt_or_ge e.length N with h1 | h1
     ·rcases Nat.lt_or_ge e.length 32 with h2 | h2
      ·exact absurd ⟨h1, h2, rfl⟩ hgo
      ·exact .inr ⟨h1, h2⟩
     ·exact .inl h1 : (N ≤ e.length) ∨ (e.length < N ∧ 32 ≤ e.length)) with c | c
    all_goals
     by_cases hv : vTp ⟨z, tt, e, f⟩ = 0
     ·have hE := hE hv i6 (by show e.length ≤ _; omega)
      by_cases he : jc ⟨z, tt, e, f⟩ = l0
      ·rw [Jh (x := ⟨z, tt, e, f⟩) (hdT.trans (by rw [if_neg Bool.false_ne_true]; exact if_pos ⟨hv, he⟩))]
       rw [he] at hE
       (repeat' (first | (simp (disch := first | exact dqz | fail) only [pgz, simprocAttr, hel, hcv, id_eq.{1}]) | ((with_reducible show cu _ _ _ _ _ _); first | refine dh [0] _ (hE) rfl rfl rfl rfl ?_) | ((with_reducible first | apply aQ | apply aB | apply bz) <;> intro hc <;> (try simp only [hc]) <;> (try simp only [pgd] at hc)) | (with_reducible refine cK ?_)))
       all_goals exact rE []
      ·rw [kD (hdT.trans (by rw [if_neg Bool.false_ne_true]; exact if_neg fun h => he h.2))]
       rw [decide_eq_false he] at hd
       generalize jc ⟨z, tt, e, f⟩ = E at *
       (repeat' (first | (simp (disch := first | exact dqz | fail) only [pgz, simprocAttr, hel, hcv, hd, id_eq.{1}]) | ((with_reducible show cu _ _ _ _ _ _); first | refine dh [0] _ (hE) rfl rfl rfl rfl ?_) | ((with_reducible first | apply aQ | apply aB | apply bz) <;> intro hc <;> (try simp only [hc]) <;> (try simp only [pgd] at hc)) | (with_reducible refine cK ?_)))
       all_goals exact rE []
     ·have hX := hX hv i6 (by show e.length ≤ _; omega)
      rw [kD (hdT.trans (by rw [if_neg Bool.false_ne_true]; exact if_neg fun h => hv h.1))]
      generalize vTp ⟨z, tt, e, f⟩ = v at *
      (repeat' (first | (simp (disch := first | exact dqz | fail) only [pgz, simprocAttr, hel, hcv, id_eq.{1}]) | ((with_reducible show cu _ _ _ _ _ _); first | refine dh [0] _ (hX) rfl rfl rfl rfl ?_) | ((with_reducible first | apply aQ | apply aB | apply bz) <;> intro hc <;> (try simp only [hc]) <;> (try simp only [pgd] at hc)) | (with_reducible refine cK ?_)))
      all_goals exact rE []
   | true =>
    rw [kD (hdT.trans (if_pos rfl))]
    rcases (by omega : (N ≤ e.length) ∨ (e.length < N ∧ 32 ≤ e.length) ∨ (e.length < N ∧ e.length < 32)) with c | c | c
    all_goals
     by_cases hv : vTp ⟨z, tt, e, f⟩ = 0
     ·have hE := hE hv i6 (by show e.length ≤ _; omega)
      generalize jc ⟨z, tt, e, f⟩ = E at *
      (repeat' (first | (simp (disch := first | exact dqz | fail) only [pgz, simprocAttr, hel, hcv, id_eq.{1}]) | ((with_reducible show cu _ _ _ _ _ _); first | refine dh [0] _ (hE) rfl rfl rfl rfl ?_) | ((with_reducible first | apply aQ | apply aB | apply bz) <;> intro hc <;> (try simp only [hc]) <;> (try simp only [pgd] at hc)) | (with_reducible refine cK ?_)))
      all_goals exact rE []
     ·have hX := hX hv i6 (by show e.length ≤ _; omega)
      generalize vTp ⟨z, tt, e, f⟩ = v at *
      (repeat' (first | (simp (disch := first | exact dqz | fail) only [pgz, simprocAttr, hel, hcv, id_eq.{1}]) | ((with_reducible show cu _ _ _ _ _ _); first | refine dh [0] _ (hX) rfl rfl rfl rfl ?_) | ((with_reducible first | apply aQ | apply aB | apply bz) <;> intro hc <;> (try simp only [hc]) <;> (try simp only [pgd] at hc)) | (with_reducible refine cK ?_)))
      all_goals exact rE []
end Go.Proofs.YtaoejnjkmfkbeaaGreat
