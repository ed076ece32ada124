/-
  Texts of this claim, merged; own names are short.
-/
import Derived.Test.YtaoejnjkmfkbeaaGreatWBG
import Derived.Test.YtaoejnjkmfkbeaaGreatWBB
import Derived.Test.YtaoejnjkmfkbeaaGreatWAX
import Derived.ChangeSlices
import Derived.DataReads
import Derived.Test.YtaoejnjkmfkbeaaGreatWAL
set_option linter.unusedVariables false
set_option linter.unusedSimpArgs false
set_option linter.unusedSectionVars false
set_option linter.defProp false
set_option maxRecDepth 100000
set_option maxHeartbeats 8000000
namespace Go.Proofs.YtaoejnjkmfkbeaaGreat
open Go Go.Pg
theorem abm (n : Nat) (hn : n ≤ 4611686018427387904) (r : List Nat) : nuX (ae n ++ r) false = n ∧ nuL (ae n ++ r) false = r ∧ nuB (ae n ++ r) false = false := by
 have h := lG n hn r
 have hc : ¬ (false = true ∨ (aW (ae n ++ r)).2.2 ≠ 0) := by rw [h]; rintro (h | h); cases h; exact h rfl
 refine ⟨?_, ?_, ?_⟩
 ·unfold nuX; rw [if_neg hc, h]
 ·unfold nuL; rw [if_neg hc, h, List.drop_left]
 ·exact if_neg hc
theorem abl (x : Int) (hx : 0 ≤ x ∧ x < 18446744073709551616) (r : List Nat) : woX (eX x ++ r) false = x.toNat ∧ woL (eX x ++ r) false = r ∧ woB (eX x ++ r) false = false := by
 have h := Jg x hx r
 have hc : ¬ (false = true ∨ (kF (eX x ++ r)).2.2 ≠ 0) := by rw [h]; rintro (h | h); cases h; exact h rfl
 refine ⟨?_, ?_, ?_⟩
 ·unfold woX; rw [if_neg hc, h]
 ·unfold woL; rw [if_neg hc, h, ← fC x, List.drop_left]
 ·exact if_neg hc
theorem F7 (s : List Nat) (hs : s.length ≤ 65536) (r : List Nat) : teX (bT s ++ r) false = s ∧ teL (bT s ++ r) false = r ∧ teB (bT s ++ r) false = false := by
 have h := XE s hs r
 have hc : ¬ (false = true ∨ (fO (bT s ++ r)).2.2 ≠ 0) := by rw [h]; rintro (h | h); cases h; exact h rfl
 refine ⟨?_, ?_, ?_⟩
 ·unfold teX; rw [if_neg hc, h]
 ·unfold teL; rw [if_neg hc, h, List.drop_left]
 ·exact if_neg hc
theorem iC {l : List Nat} {i n : Nat} {r : List Nat} (h : sS l i = (ae n ++ r, false)) (hn : n ≤ 4611686018427387904) : sS l (i + 1) = (r, false) ∧ sx l i = n := by
 obtain ⟨h1, h2, h3⟩ := abm n hn r
 refine ⟨?_, ?_⟩
 ·show (nuL (sS l i).1 (sS l i).2, nuB (sS l i).1 (sS l i).2) = _
  rw [h]; simp only; rw [h2, h3]
 ·unfold sx; rw [h]; exact h1
theorem wK (b : Bool) : decide (((if b = true then 1 else 0 : Nat) : Int) = 1) = b := by cases b <;> rfl
theorem wL (b : Bool) : gy b = ae (if b = true then 1 else 0 : Nat) := by cases b <;> decide
theorem BZ (b : Bool) : (if b = true then 1 else 0 : Nat) ≤ 4611686018427387904 := by cases b <;> decide
theorem fF {n : Int} (h : 0 ≤ n) : ((n.toNat : Nat) : Int) = n := by omega
theorem Ry (x : Tl) (h : vTl x = 0) : tN (fP x) = some x := by
 obtain ⟨a, c, b⟩ := x
 have hr : (0 ≤ a ∧ a ≤ 4294967295) ∧ (0 ≤ c ∧ c ≤ 4294967295) := by
  have h := h
  unfold vTl at h
  split at h
  ·simp only at *; omega
  ·cases h
 have e0 : fP ⟨a, c, b⟩ = ae a.toNat ++ (ae c.toNat ++ (ae (if b = true then 1 else 0 : Nat) ++ [])) := by
  unfold fP; rw [wL]; simp only [List.append_assoc, List.append_nil]
 have d0 := lG a.toNat (by omega) (ae c.toNat ++ (ae (if b = true then 1 else 0 : Nat) ++ []))
 have d1 := lG c.toNat (by omega) (ae (if b = true then 1 else 0 : Nat) ++ [])
 have d2 := lG (if b = true then 1 else 0 : Nat) (BZ b) []
 have t1 : tr (fP ⟨a, c, b⟩) 1 = ae c.toNat ++ (ae (if b = true then 1 else 0 : Nat) ++ []) := by
  show (fP ⟨a, c, b⟩).drop (aW (fP ⟨a, c, b⟩)).2.1 = _
  rw [e0, d0]; exact List.drop_left
 have t2 : tr (fP ⟨a, c, b⟩) 2 = ae (if b = true then 1 else 0 : Nat) ++ [] := by
  show (tr (fP ⟨a, c, b⟩) 1).drop (aW (tr (fP ⟨a, c, b⟩) 1)).2.1 = _
  rw [t1, d1]; exact List.drop_left
 have t0 : tr (fP ⟨a, c, b⟩) 0 = ae a.toNat ++ (ae c.toNat ++ (ae (if b = true then 1 else 0 : Nat) ++ [])) := e0
 unfold tN
 rw [t0, t1, t2, d0, d1, d2, if_pos ⟨rfl, rfl, rfl⟩]
 simp only
 rw [wK, fF hr.1.1, fF hr.2.1]
 exact if_pos ⟨h, rfl⟩
theorem Rz (x : Ll) (h : vLl x = 0) (hs : 0 ≤ x.s ∧ x.s < 18446744073709551616) : wG (ou x) = some x := by
 obtain ⟨i1, i2, i3⟩ := xK h
 obtain ⟨p, s, r⟩ := x
 simp only at *
 have e0 : ou ⟨p, s, r⟩ = ae p.toNat ++ (eX s ++ r.map u8i) := by unfold ou; rw [List.append_assoc]
 have d0 := lG p.toNat (by omega) (eX s ++ r.map u8i)
 have d1 := Jg s hs (r.map u8i)
 have x1 : (eX s ++ r.map u8i).drop 8 = r.map u8i := by rw [← fC s, List.drop_left]
 have hr : ivU (r.map u8i) = r := by
  unfold ivU
  rw [List.map_map]
  refine (List.map_congr_left (g := id) fun y hy => ?_).trans (List.map_id _)
  obtain ⟨j, hj, he⟩ := gG 0 hy
  have := pI i3 hj
  rw [he] at this
  show ((u8i y : Nat) : Int) = y
  exact adx y (by omega)
 unfold wG
 rw [e0, d0, if_pos ⟨rfl, by omega⟩]
 simp only
 rw [List.drop_left]
 unfold dLl
 rw [d1, x1, if_pos ⟨rfl, by rw [List.length_map]; exact i2⟩, hr, fF (by omega), fF hs.1]
 exact if_pos h
theorem RD : ∀ (c acc : List Int) (r : List Nat), (∀ i, i < c.length → 0 ≤ c.getD i 0 ∧ c.getD i 0 ≤ 4294967295) → tV c.length acc (aS c ++ r) false = (acc ++ c, r, false) := by
 intro c
 induction c with
 | nil => intro acc r _; simp [tV, aS]
 | cons x c ih =>
  intro acc r h
  have h0 := h 0 (by simp)
  have e : aS (x :: c) ++ r = ae x.toNat ++ (aS c ++ r) := by simp [aS, List.append_assoc]
  simp only [List.getD, List.getElem?_cons_zero, Option.getD_some] at h0
  obtain ⟨a1, a2, a3⟩ := abm x.toNat (by omega) (aS c ++ r)
  rw [e]
  show tV c.length (acc ++ [((nuX (ae x.toNat ++ (aS c ++ r)) false : Nat) : Int)]) (nuL (ae x.toNat ++ (aS c ++ r)) false) (nuB (ae x.toNat ++ (aS c ++ r)) false) = _
  rw [a1, a2, a3, fF h0.1, ih _ _ (fun i hi => by have := h (i + 1) (by simp; omega); simpa [List.getD] using this)]
  simp [List.append_assoc]
theorem RF (x : Cm) (h : vCm x = 0) (hs : 0 ≤ x.s ∧ x.s < 18446744073709551616) : wF (jk x) = some x := by
 obtain ⟨i1, i2, i3, i4⟩ := xI h
 obtain ⟨d, z, s, c, b⟩ := x
 simp only at *
 have e0 : jk ⟨d, z, s, c, b⟩ = ae d.toNat ++ (ae z.toNat ++ (eX s ++ (aS c ++ (ae (if b = true then 1 else 0 : Nat) ++ [])))) := by
  unfold jk; rw [wL]; simp only [List.append_assoc, List.append_nil]
 have s0 : sS (jk ⟨d, z, s, c, b⟩) 0 = (ae d.toNat ++ (ae z.toNat ++ (eX s ++ (aS c ++ (ae (if b = true then 1 else 0 : Nat) ++ [])))), false) := by rw [← e0]; rfl
 obtain ⟨s1, v0⟩ := iC s0 (by omega)
 obtain ⟨s2, v1⟩ := iC s1 (by omega)
 obtain ⟨w1, w2, w3⟩ := abl s hs (aS c ++ (ae (if b = true then 1 else 0 : Nat) ++ []))
 have hcl : d.toNat * z.toNat = c.length := by
  have : ((d.toNat * z.toNat : Nat) : Int) = d * z := by rw [Int.natCast_mul, fF (by omega), fF (by omega)]
  omega
 have hr := RD c [] (ae (if b = true then 1 else 0 : Nat) ++ []) (fun i hi => pI i4 hi)
 obtain ⟨f1, f2, f3⟩ := abm (if b = true then 1 else 0 : Nat) (BZ b) []
 unfold wF
 rw [s2, v0, v1]
 simp only
 rw [w1, w2, w3]
 unfold dCm
 rw [if_neg (by rintro (h | h); cases h; exact h (by omega)), hcl, hr]
 unfold eCm
 simp only [List.nil_append]
 rw [f1, f3, wK, fF (by omega), fF (by omega), fF hs.1]
 unfold fCm
 rw [if_neg Bool.false_ne_true]
 exact if_pos ⟨h, rfl⟩
theorem RG : ∀ (l : List En) (k : Nat) (acc : List En) (r : List Nat), l.length ≤ k → (∀ e ∈ l, e.1.length ≤ 65536 ∧ (0 ≤ e.2.1 ∧ e.2.1 ≤ 4611686018427387904) ∧ (0 ≤ e.2.2 ∧ e.2.2 ≤ 4611686018427387904)) → yJ k l.length acc (l.flatMap iW ++ r) false = (acc ++ l, r, false) := by
 intro l
 induction l with
 | nil => intro k acc r _ _; rw [List.length_nil, DY (.inr (.inl rfl))]; simp
 | cons y l ih =>
  intro k acc r hk h
  obtain ⟨key, c, er⟩ := y
  obtain ⟨h1, h2, h3⟩ := h _ (by simp : (key, c, er) ∈ (key, c, er) :: l)
  simp only at h1 h2 h3
  have e : ((key, c, er) :: l).flatMap iW ++ r = bT key ++ (ae c.toNat ++ (ae er.toNat ++ (l.flatMap iW ++ r))) := by simp [iW, List.append_assoc]
  obtain ⟨t1, t2, t3⟩ := F7 key h1 (ae c.toNat ++ (ae er.toNat ++ (l.flatMap iW ++ r)))
  obtain ⟨a1, a2, a3⟩ := abm c.toNat (by omega) (ae er.toNat ++ (l.flatMap iW ++ r))
  obtain ⟨b1, b2, b3⟩ := abm er.toNat (by omega) (l.flatMap iW ++ r)
  rw [BP (by simp only [List.length_cons] at hk; omega) (by simp) rfl, e]
  have q1 : rdE (bT key ++ (ae c.toNat ++ (ae er.toNat ++ (l.flatMap iW ++ r)))) false = (key, c, er) := by
   unfold rdE; rw [t1, t2, t3, a1, a2, a3, b1, fF h2.1, fF h3.1]
  have q2 : LX (bT key ++ (ae c.toNat ++ (ae er.toNat ++ (l.flatMap iW ++ r)))) false = l.flatMap iW ++ r := by
   unfold LX; rw [t2, t3, a2, a3, b2]
  have q3 : XV (bT key ++ (ae c.toNat ++ (ae er.toNat ++ (l.flatMap iW ++ r)))) false = false := by
   unfold XV; rw [t2, t3, a2, a3, b3]
  rw [q1, q2, q3]
  rw [show ((key, c, er) :: l).length - 1 = l.length by simp, ih (k - 1) _ r (by simp only [List.length_cons] at hk; omega) (fun e he => h e (by simp [he]))]
  simp [List.append_assoc]
theorem RH : ∀ (l : List En) (k : Nat) (acc : List En) (r : List Nat), l.length ≤ k → (∀ e ∈ l, e.1.length ≤ 65536 ∧ (0 ≤ e.2.1 ∧ e.2.1 ≤ 4611686018427387904) ∧ e.2.2 = 0) → yK k l.length acc (l.flatMap jh ++ r) false = (acc ++ l, r, false) := by
 intro l
 induction l with
 | nil => intro k acc r _ _; rw [List.length_nil, DZ (.inr (.inl rfl))]; simp
 | cons y l ih =>
  intro k acc r hk h
  obtain ⟨key, c, er⟩ := y
  obtain ⟨h1, h2, h3⟩ := h _ (by simp : (key, c, er) ∈ (key, c, er) :: l)
  simp only at h1 h2 h3
  subst h3
  have e : ((key, c, 0) :: l).flatMap jh ++ r = bT key ++ (ae c.toNat ++ (l.flatMap jh ++ r)) := by simp [jh, List.append_assoc]
  obtain ⟨t1, t2, t3⟩ := F7 key h1 (ae c.toNat ++ (l.flatMap jh ++ r))
  obtain ⟨a1, a2, a3⟩ := abm c.toNat (by omega) (l.flatMap jh ++ r)
  rw [BQ (by simp only [List.length_cons] at hk; omega) (by simp) rfl, e]
  have q1 : rfE (bT key ++ (ae c.toNat ++ (l.flatMap jh ++ r))) false = (key, c, 0) := by
   unfold rfE; rw [t1, t2, t3, a1, fF h2.1]
  have q2 : LY (bT key ++ (ae c.toNat ++ (l.flatMap jh ++ r))) false = l.flatMap jh ++ r := by
   unfold LY; rw [t2, t3, a2]
  have q3 : XY (bT key ++ (ae c.toNat ++ (l.flatMap jh ++ r))) false = false := by
   unfold XY; rw [t2, t3, a3]
  rw [q1, q2, q3]
  rw [show ((key, c, (0 : Int)) :: l).length - 1 = l.length by simp, ih (k - 1) _ r (by simp only [List.length_cons] at hk; omega) (fun e he => h e (by simp [he]))]
  simp [List.append_assoc]
theorem RI : ∀ (l : List (List Nat)) (acc : List (List Nat)) (r : List Nat), (∀ k ∈ l, k.length ≤ 65536) → oH l.length acc (l.flatMap bT ++ r) false = (acc ++ l, r, false) := by
 intro l
 induction l with
 | nil => intro acc r _; simp [oH]
 | cons y l ih =>
  intro acc r h
  have e : (y :: l).flatMap bT ++ r = bT y ++ (l.flatMap bT ++ r) := by simp [List.append_assoc]
  obtain ⟨t1, t2, t3⟩ := F7 y (h y (by simp)) (l.flatMap bT ++ r)
  rw [BR (by simp), e, t1, t2, t3, show (y :: l).length - 1 = l.length by simp, ih _ r (fun k hk => h k (by simp [hk]))]
  simp [List.append_assoc]
theorem RJ : ∀ (v : List (List (List Nat))) (k : Nat) (acc : List (List (List Nat))) (r : List Nat), v.length ≤ k → (∀ l ∈ v, l.length ≤ 1000000 ∧ ∀ x ∈ l, x.length ≤ 65536) → yM k v.length acc (v.flatMap iQ ++ r) false = (acc ++ v, r, false) := by
 intro v
 induction v with
 | nil => intro k acc r _ _; rw [List.length_nil, D5 (.inr (.inl rfl))]; simp
 | cons y v ih =>
  intro k acc r hk h
  obtain ⟨h1, h2⟩ := h y (by simp)
  have e : (y :: v).flatMap iQ ++ r = ae y.length ++ (y.flatMap bT ++ (v.flatMap iQ ++ r)) := by simp [iQ, List.append_assoc]
  obtain ⟨a1, a2, a3⟩ := abm y.length (by omega) (y.flatMap bT ++ (v.flatMap iQ ++ r))
  have hks := RI y [] (v.flatMap iQ ++ r) h2
  rw [BU (by simp only [List.length_cons] at hk; omega) (by simp), e, a1, a2, a3, hks]
  simp only [List.nil_append]
  rw [show (y :: v).length - 1 = v.length by simp, ih (k - 1) _ r (by simp only [List.length_cons] at hk; omega) (fun l hl => h l (by simp [hl]))]
  simp [List.append_assoc]
theorem RN (x : Tp) (h : vTp x = 0) : wH (jc x) = some x := by
 obtain ⟨i1, i2, i3, i4⟩ := uC h
 obtain ⟨z, t, e, b⟩ := x
 simp only at *
 have hen := fun i (hi : i < e.length) => pK (i4 i hi)
 have e0 : jc ⟨z, t, e, b⟩ = ae z.toNat ++ (ae t.toNat ++ (ae (if b = true then 1 else 0 : Nat) ++ (ae e.length ++ (e.flatMap iW ++ [])))) := by
  unfold jc; rw [wL]; simp only [List.append_assoc, List.append_nil]
 have s0 : sS (jc ⟨z, t, e, b⟩) 0 = (ae z.toNat ++ (ae t.toNat ++ (ae (if b = true then 1 else 0 : Nat) ++ (ae e.length ++ (e.flatMap iW ++ [])))), false) := by rw [← e0]; rfl
 obtain ⟨s1, v0⟩ := iC s0 (by omega)
 obtain ⟨s2, v1⟩ := iC s1 (by omega)
 obtain ⟨s3, v2⟩ := iC s2 (BZ b)
 obtain ⟨s4, v3⟩ := iC s3 (by omega)
 have hr := RG e 32 [] [] (by omega) (fun y hy => by
  obtain ⟨i, hi, rfl⟩ := gG eD hy
  obtain ⟨k1, k2, k3⟩ := hen i hi
  rw [jr] at k1
  exact ⟨by omega, ⟨by omega, by omega⟩, ⟨by omega, by omega⟩⟩)
 unfold wH
 rw [v0, v1, v2, v3, s4]
 simp only
 rw [hr, wK]
 unfold dTp
 rw [if_neg Bool.false_ne_true, List.nil_append, fF (by omega), fF (by omega)]
 exact if_pos ⟨h, rfl⟩
theorem RP (x : Fq) (h : vFq x = 0) : wI (jd x) = some x := by
 obtain ⟨i1, i2, i2l, i3, i4⟩ := uD h
 obtain ⟨z, t, lo, e, b⟩ := x
 simp only at *
 have hen := fun i (hi : i < e.length) => pO (i4 i hi)
 have e0 : jd ⟨z, t, lo, e, b⟩ = ae z.toNat ++ (ae t.toNat ++ (ae lo.toNat ++ (ae (if b = true then 1 else 0 : Nat) ++ (ae e.length ++ (e.flatMap jh ++ []))))) := by
  unfold jd; rw [wL]; simp only [List.append_assoc, List.append_nil]
 have s0 : sS (jd ⟨z, t, lo, e, b⟩) 0 = (ae z.toNat ++ (ae t.toNat ++ (ae lo.toNat ++ (ae (if b = true then 1 else 0 : Nat) ++ (ae e.length ++ (e.flatMap jh ++ []))))), false) := by rw [← e0]; rfl
 obtain ⟨s1, v0⟩ := iC s0 (by omega)
 obtain ⟨s2, v1⟩ := iC s1 (by omega)
 obtain ⟨s2', v1'⟩ := iC s2 (by omega)
 obtain ⟨s3, v2⟩ := iC s2' (BZ b)
 obtain ⟨s4, v3⟩ := iC s3 (by omega)
 have hr := RH e 32 [] [] (by omega) (fun y hy => by
  obtain ⟨i, hi, rfl⟩ := gG eD hy
  obtain ⟨k1, k2, k3⟩ := hen i hi
  rw [jr] at k1
  exact ⟨by omega, ⟨by omega, by omega⟩, k3⟩)
 unfold wI
 rw [v0, v1, v1', v2, v3, s4]
 simp only
 rw [hr, wK]
 unfold dFq
 rw [if_neg Bool.false_ne_true, List.nil_append, fF (by omega), fF (by omega), fF (by omega)]
 exact if_pos ⟨h, rfl⟩
theorem RQ (x : Rk) (h : vRk x = 0) : wJ (je x) = some x := by
 have hkeys := vY h
 obtain ⟨i1, i2, i2l, i3, i4⟩ := uG h
 obtain ⟨z, t, lo, v, b⟩ := x
 simp only at *
 have e0 : je ⟨z, t, lo, v, b⟩ = ae z.toNat ++ (ae t.toNat ++ (ae lo.toNat ++ (ae (if b = true then 1 else 0 : Nat) ++ (ae v.length ++ (v.flatMap iQ ++ []))))) := by
  unfold je; rw [wL]; simp only [List.append_assoc, List.append_nil]
 have s0 : sS (je ⟨z, t, lo, v, b⟩) 0 = (ae z.toNat ++ (ae t.toNat ++ (ae lo.toNat ++ (ae (if b = true then 1 else 0 : Nat) ++ (ae v.length ++ (v.flatMap iQ ++ []))))), false) := by rw [← e0]; rfl
 obtain ⟨s1, v0⟩ := iC s0 (by omega)
 obtain ⟨s2, v1⟩ := iC s1 (by omega)
 obtain ⟨s2', v1'⟩ := iC s2 (by omega)
 obtain ⟨s3, v2⟩ := iC s2' (BZ b)
 obtain ⟨s4, v3⟩ := iC s3 (by omega)
 have hr := RJ v 41 [] [] (by omega) (fun y hy => by
  obtain ⟨i, hi, he⟩ := gG [] hy
  have h1 := i4 i
  have h2 := hkeys i hi
  rw [he] at h1 h2
  exact ⟨by omega, fun k hk => by have := h2 k hk; omega⟩)
 unfold wJ
 rw [v0, v1, v1', v2, v3, s4]
 simp only
 rw [hr, wK]
 unfold dRk
 rw [if_neg Bool.false_ne_true, List.nil_append, fF (by omega), fF (by omega), fF (by omega)]
 exact if_pos ⟨h, rfl⟩
def oI (l : List Int) : Sk := (lU (wu (atN l 0)) (kC (l.drop (min l.length 2)) (atN l 1 % 8)) (lQ (atN l 9)) (atN l 1 % 8)).1
theorem Cb (l : List Int) (n : Nat) : ∀ x ∈ kC l n, oct x.1 := by
 intro x hx
 obtain ⟨i, _, rfl⟩ := List.mem_map.1 hx
 exact (aaD _).1
theorem MF (l : List Int) : (oI l).Ok := Jd _ (Xi _) (FM _) _ (Cb _ _) _ _
theorem abn (l : List Int) (n : Nat) : (iv l).drop n = iv (l.drop n) := by simp [iv, List.map_drop]
theorem min2 (a : Nat) : (min (a : Int) 2).toNat = min a 2 := by omega
theorem RX (l : List Int) (hl : l.length ≤ 9223372036854775807) : Pg.Good Tryz.prog 10 [fzi l] (.agg (skF (oI l))) := by
 have a0 := aa8 l 0 hl (by omega)
 have a1 := aa8 l 1 hl (by omega)
 have a9 := aa8 l 9 hl (by omega)
 have b0 := FK l 0
 have b1 := FK l 1
 have b9 := FK l 9
 have h1 := Xj (atN l 0) (by omega)
 have h2 := aa9 (l.drop (min l.length 2)) (atN l 1 % 8) (by rw [List.length_drop]; omega) (by omega)
 have h3 := aaG ((atN l 9 : Nat) : Int)
 have h4 := adw (wu (atN l 0)) (Xi _) (FM _) (kC (l.drop (min l.length 2)) (atN l 1 % 8)) (by rw [uI]; omega) (Cb _ _) (lQ (atN l 9)) (Qw _).1
 rw [uI] at h4
 have e : (lU (wu (atN l 0)) (kC (l.drop (min l.length 2)) (atN l 1 % 8)) (lQ (atN l 9)) (atN l 1 % 8)).1 = oI l := rfl
 rw [e] at h4
 have hil := bC l
 have hdr := abn l (min l.length 2)
 have hmn := min2 l.length
 generalize oI l = S at *
 generalize wu (atN l 0) = p at *
 generalize kC (l.drop (min l.length 2)) (atN l 1 % 8) = its at *
 generalize lQ (atN l 9) = co at *
 generalize atN l 0 = n0 at *
 generalize atN l 1 = n1 at *
 generalize atN l 9 = n9 at *
 clear e
 obtain ⟨⟨pk, pz, pd, ps⟩, ⟨t1, t2, t3⟩, ⟨c1, c2, c3, c4, c5⟩, ⟨l1, l2, l3⟩, ⟨e1, e2, e3, e4⟩, ⟨f1, f2, f3, f4, f5⟩, ⟨r1, r2, r3, r4, r5⟩⟩ := S
 obtain ⟨qk, qz, qd, qs⟩ := p
 refine gI oW Tryz.func10 Tryz.results10 ?_
 exact wR (aI @pgv (aI @mmF (aI @hil (aI @hmn (aI @hdr @anB))))) (aI a0 (aI a1 (aI a9 (aI h1 (aI h2 (aI h3 h4)))))) ah
theorem aiH (n : Int) : bits .and .i64 n 65535 = n % 65536 := iy n 16 (by decide)
def F8 (v : List (List (List Nat))) : Nat → Int
 | 0 => 1
 | n + 1 => F8 v n + (v.getD n []).length
def abQ (s : Sk) : Int := if s.p.k = 1 then 1 else if s.p.k = 2 then s.cm.c.length else if s.p.k = 3 then s.ll.r.length else if s.p.k = 4 then 1 + s.tp.e.length else if s.p.k = 5 then 1 + s.fq.e.length else if s.p.k = 6 then F8 s.rk.v s.rk.v.length else 0
theorem abp (v : List (List (List Nat))) (hm : ∀ l ∈ v, l.length ≤ 1000000) : ∀ n, n ≤ v.length → 1 ≤ F8 v n ∧ F8 v n ≤ 1 + n * 1000000 := by
 intro n
 induction n with
 | zero => intro _; exact ⟨Int.le_refl _, by simp [F8]⟩
 | succ n ih =>
  intro hn
  have h1 := ih (by omega)
  have h2 : (v.getD n []).length ≤ 1000000 := by
   have : v.getD n [] = v[n] := by simp [List.getD, show n < v.length by omega]
   rw [this]; exact hm _ (List.getElem_mem _)
  simp only [F8]
  omega
theorem abq (s : Sk) (ok : s.Ok) : Pg.Good Tryz.prog 22 [.agg (skF s)] (vi (abQ s)) := by
 have b1 := ok.cn
 have b2 := ok.ln
 have b3 := ok.tn
 have b4 := ok.fn
 have b5 := ok.rn
 have b6 := abp s.rk.v ok.rm
 clear ok
 unfold abQ
 obtain ⟨⟨pk, pz, pd, ps⟩, ⟨t1, t2, t3⟩, ⟨c1, c2, c3, c4, c5⟩, ⟨l1, l2, l3⟩, ⟨e1, e2, e3, e4⟩, ⟨f1, f2, f3, f4, f5⟩, ⟨r1, r2, r3, r4, r5⟩⟩ := s
 simp only at *
 by_cases h1 : pk = 1
 ·rw [if_pos h1]
  refine gI oW Tryz.func22 Tryz.results22 ?_
  exact wR (aI @h1 (aI @aP (aI @bC @dQ))) trivial ah
 rw [if_neg h1]
 by_cases h2 : pk = 2
 ·rw [if_pos h2]
  refine gI oW Tryz.func22 Tryz.results22 ?_
  exact wR (aI @h2 (aI @aP (aI @bC @dQ))) trivial ah
 rw [if_neg h2]
 by_cases h3 : pk = 3
 ·rw [if_pos h3]
  refine gI oW Tryz.func22 Tryz.results22 ?_
  exact wR (aI @h3 (aI @aP (aI @bC @dQ))) trivial ah
 rw [if_neg h3]
 by_cases h4 : pk = 4
 ·rw [if_pos h4]
  refine gI oW Tryz.func22 Tryz.results22 ?_
  exact wR (aI @h4 (aI @aP (aI @bC @dQ))) trivial ah
 rw [if_neg h4]
 by_cases h5 : pk = 5
 ·rw [if_pos h5]
  refine gI oW Tryz.func22 Tryz.results22 ?_
  exact wR (aI @h5 (aI @aP (aI @bC @dQ))) trivial ah
 rw [if_neg h5]
 by_cases h6 : pk = 6
 ·rw [if_pos h6]
  have hel := dQ r4
  refine gI oW Tryz.func22 Tryz.results22 ?_
  refine wS (aI @h6 (aI @aP (aI @bC @dQ))) trivial ?_
  refine bn (fun i : Nat => mkA [(3, vi (F8 r4 i)), (41, fzl r4), (42, vi r4.length), (43, vi i)] [] 0 (fun _ => .top)) (fun i => i ≤ r4.length) (fun i => r4.length - i) 0 [] [] ?_ (Nat.zero_le _) ?_
  ·exact kE
   all_goals first | exact au rfl | skip
  ·intro i hi
   replace hi : i ≤ r4.length := hi
   rcases Nat.lt_or_ge i r4.length with hlt | hge
   ·have hg := lN r4 i hlt
    have eun : F8 r4 (i + 1) = F8 r4 i + (r4.getD i []).length := rfl
    have hb := b6 i hi
    have hb2 := b6 (i + 1) hlt
    rw [eun] at hb2
    generalize hlev : r4.getD i [] = lev at *
    have hsl := Cc lev
    refine wS (aI @hel (aI @hg @hsl)) trivial ?_
    (refine bu (i + 1) [] [] (hlt) (by first | omega | (simp only [List.length_cons]; omega)) ?_; (refine aN ?_ ?_ (bG _ _ _) (by decide) (by decide) (by decide) (by decide); (repeat' (first | exact trivial | refine aG _ _ rfl rfl ?_ ?_)); all_goals (try simp only [pgs, pgl, pgx, pgf, pgw, ay, aJ, az, aK, aZ, bV, bD, pgn, simprocAttr]); all_goals (try (repeat' (first | apply aI))); all_goals (try (first | exact trivial | exact au (by omega) | exact aU rfl | exact ak rfl rfl | exact bg rfl))))
    all_goals first | exact au (by rw [eun, hlev]) | exact au eun.symm | skip
   ·have : i = r4.length := by omega
    subst this
    exact wR @hel trivial ah
 rw [if_neg h6]
 refine gI oW Tryz.func22 Tryz.results22 ?_
 exact wR trivial trivial ah
theorem abR (a b m : Int) (hm : m ≤ 4611686018427387904) (ha : W64 a) (hb : W64 b) : Pg.Good Tryz.prog 113 [vi a, vi b, vi m] (.tup [vi (lX a b m).1, vb (lX a b m).2]) := by
 have h1 := jF a
 have h2 := jF b
 have h3 := jF m
 obtain ⟨a0, a1⟩ := ha
 obtain ⟨b0, b1⟩ := hb
 have e : lX a b m = if iw a > iw m ∨ iw b > iw m - iw a then (iw m, true) else (iw a + iw b, false) := rfl
 by_cases c1 : iw m < iw a + iw b
 ·rw [if_pos (by omega)] at e
  rw [e]
  refine gI oW Tryz.func113 Tryz.results113 ?_
  exact wR (aI @mmT @adc) trivial ah
 ·rw [if_neg (by omega)] at e
  rw [e]
  refine gI oW Tryz.func113 Tryz.results113 ?_
  exact wR (aI @mmT @adc) trivial ah
theorem adH (t : Tl) (n i : Int) (h1 : W64 t.t) (h2 : W64 t.i) (h3 : W64 n) (h4 : W64 i) : Pg.Good Tryz.prog 108 [.agg (tlF t), vi n, vi i] (.agg (tlF (AZ t ⟨n, i, false⟩))) := by
 obtain ⟨a1, a2, a3⟩ := t
 simp only at h1 h2
 unfold AZ
 simp only
 have k1 := abR a1 n 4294967295 (by decide) h1 h3
 have k2 := abR a2 i 4294967295 (by decide) h2 h4
 generalize lX a1 n 4294967295 = x at *
 generalize lX a2 i 4294967295 = y at *
 obtain ⟨x1, x2⟩ := x
 obtain ⟨y1, y2⟩ := y
 simp only at k1 k2 ⊢
 refine gI oW Tryz.func108 Tryz.results108 ?_
 cases a3 <;> cases x2 <;> cases y2
 all_goals
  exact wR trivial (aI k1 k2) ah
theorem abr (t : Tl) (k : List Nat) (w : Int) : Pg.Good Tryz.prog 40 [.agg (tlF t), .agg [vs k, vi w]] (.tup [.agg (tlF (vN t k w).1), vi (vN t k w).2]) := by
 have h1 := vZ t
 have h2 := agI k w
 unfold vN
 by_cases c1 : vTl t = 0
 ·rw [if_neg (by omega)]
  rw [c1] at h1
  by_cases c2 : dW k w = 0
  ·rw [if_neg (by omega)]
   rw [c2] at h2
   have h3 := adH t w 1 (ET c1).1 (ET c1).2 (show W64 w from by have := ng c2; unfold W64; omega) (show W64 1 from ⟨by decide, by decide⟩)
   generalize AZ t ⟨w, 1, false⟩ = r at *
   refine gI oW Tryz.func40 Tryz.results40 ?_
   exact wR trivial (aI h1 (aI h2 h3)) ah
  ·rw [if_pos (by omega)]
   refine gI oW Tryz.func40 Tryz.results40 ?_
   exact wR trivial (aI h1 h2) ah
 ·rw [if_pos (by omega)]
  refine gI oW Tryz.func40 Tryz.results40 ?_
  exact wR trivial h1 ah
theorem abt : Pg.Good Tryz.prog 149 [] (.agg (tlF Tl.o)) := by
 refine gI oW Tryz.func149 Tryz.results149 ?_
 exact wR trivial trivial ah
theorem abu (n : Int) : Pg.Good Tryz.prog 39 [vi n] (vb (decide (0 ≤ n ∧ n ≤ 1073741824))) := by
 by_cases h1 : 0 ≤ n
 ·by_cases h2 : n ≤ 1073741824
  ·rw [decide_eq_true ⟨h1, h2⟩]
   refine gI oW Tryz.func39 Tryz.results39 ?_
   exact wR trivial trivial ah
  ·rw [decide_eq_false (fun h => h2 h.2)]
   refine gI oW Tryz.func39 Tryz.results39 ?_
   exact wR trivial trivial ah
 ·rw [decide_eq_false (fun h => h1 h.1)]
  refine gI oW Tryz.func39 Tryz.results39 ?_
  exact wR trivial trivial ah
abbrev S1 : Sk := ⟨⟨1, 0, 0, 0⟩, Tl.o, Cm.o, Ll.o, Tp.o, Fq.o, Rk.o⟩
abbrev S2 : Sk := ⟨⟨1, 0, 0, 0⟩, ⟨3, 1, false⟩, Cm.o, Ll.o, Tp.o, Fq.o, Rk.o⟩
theorem Ye : octE [] := fun _ h => by cases h
theorem abS (p : Pm) (t : Tl) (h : 0 ≤ p.s ∧ p.s < 18446744073709551616) : Sk.Ok ⟨p, t, Cm.o, Ll.o, Tp.o, Fq.o, Rk.o⟩ :=
 ⟨h, (⟨by decide, by decide⟩ : (0 : Int) ≤ 0 ∧ (0 : Int) < 18446744073709551616), (⟨by decide, by decide⟩ : (0 : Int) ≤ 0 ∧ (0 : Int) < 18446744073709551616), Nat.zero_le _, Nat.zero_le _, Ye, Nat.zero_le _, Ye, Nat.zero_le _, (fun _ h => by cases h), Nat.zero_le _, (fun _ h => by cases h)⟩
theorem adI : Pg.Good Tryz.prog 59 [.agg [vi 1, vi 0, vi 0, vu 0]] (.tup [.agg (skF S1), vi 0]) := by
 have h1 : Pg.Good Tryz.prog 60 [.agg [vi 1, vi 0, vi 0, vu 0]] (vi 0) := kR 1 0 0 0
 refine Good.wkt (vs := [.agg (skC S1 nls nls nls nls nls), vi 0]) ?_ ⟨dK S1 (aA _) (aA _) (aA _) (aA _) (aA _), aj _, trivial⟩
 refine gI oW Tryz.func59 Tryz.results59 ?_
 exact wR trivial (aI h1 abt) ah
theorem adJ : Pg.Good Tryz.prog 59 [.agg [vi 1, vi 1, vi 0, vu 0]] (.tup [.agg (skF Sk.o), vi 10]) := by
 have h1 : Pg.Good Tryz.prog 60 [.agg [vi 1, vi 1, vi 0, vu 0]] (vi 10) := kR 1 1 0 0
 refine Good.wkt (vs := [.agg (skC Sk.o nls nls nls nls nls), vi 10]) ?_ ⟨BK, aj _, trivial⟩
 refine gI oW Tryz.func59 Tryz.results59 ?_
 exact wR trivial h1 ah
theorem MH : Pg.Good Tryz.prog 13 [.agg (skF S1), .agg [vs [97], vi 3], nls, vi 5] (.tup [.agg (skF S2), vi 5, vi 0]) := by
 have h1 : Pg.Good Tryz.prog 17 [.agg (skF S1)] (vi 0) := uJ S1 (abS _ _ ⟨by decide, by decide⟩)
 have h2 : Pg.Good Tryz.prog 38 [.agg [vs [97], vi 3]] (vi 0) := agI [97] 3
 have h3 : Pg.Good Tryz.prog 39 [vi 5] (vb true) := abu 5
 have h4 : Pg.Good Tryz.prog 40 [.agg (tlF Tl.o), .agg [vs [97], vi 3]] (.tup [.agg [vi 3, vi 1, vb false], vi 0]) := abr Tl.o [97] 3
 refine Good.wkt (vs := [.agg (skC S2 nls nls nls nls nls), vi 5, vi 0]) ?_ ⟨dK S2 (aA _) (aA _) (aA _) (aA _) (aA _), aj _, aj _, trivial⟩
 refine gI oW Tryz.func13 Tryz.results13 ?_
 exact wR trivial (aI h1 (aI h2 (aI h3 h4))) ah
theorem Oi : Pg.Good Tryz.prog 16 [] (vb true) := by
 have h4 : Pg.Good Tryz.prog 22 [.agg (skF S2)] (vi 1) := abq S2 (abS _ _ ⟨by decide, by decide⟩)
 have ha : (⟨#[97]⟩ : ByteArray) = sB [97] := by rfl
 refine gI oW Tryz.func16 Tryz.results16 ?_
 exact wR @ha (aI adI (aI adJ (aI MH h4))) ah
end Go.Proofs.YtaoejnjkmfkbeaaGreat
section
namespace Go.Pg
open Go Go.ChangeShapes Go.WideShapes
theorem ae2 {w : World} {g o : Nat} {vs : List Value} (hp : 0 < vs.length) (h : ∀ i, i < vs.length → w.cell? ⟨g, o + i, none⟩ = vs[i]?) : Pg.Row w g o vs := by
 have h0 := h 0 hp
 rw [List.getElem?_eq_getElem hp] at h0
 unfold World.cell? at h0
 split at h0
 ·rename_i arr e fr hg
  refine ⟨arr, e, fr, hg, ?_⟩
  apply List.ext_getElem?
  intro i
  rw [List.getElem?_take]
  split
  ·rename_i hi
   have hi' := h i hi
   unfold World.cell? at hi'
   simp only [hg] at hi'
   rw [List.getElem?_drop, Array.getElem?_toList]
   simpa using hi'
  ·rename_i hi
   rw [List.getElem?_eq_none (by omega)]
 ·cases h0
section
variable {H : Type} {enc : TypeId × Value → H} {P : Program} {w : World} {base : Nat} {spare : Nat → Bool} {held : Bool}
structure Elem (enc : TypeId × Value → H) (P : Program) (w : World) (base : Nat) (spare : Nat → Bool) (held : Bool) (e : TypeId) (k : Nat) {α : Type} (Ok : α → Prop) (el : α → V) (elc : α → List Value) : Prop where
 pos : 0 < k
 cells : P.cellsOf e = k
 len : ∀ a, (elc a).length = k
 get : ∀ n cs x, DataW.trod enc P w base spare held n e cs = some x → ∃ a, Ok a ∧ cs = elc a
 rep : ∀ a L w', ∃ u : Value, u.cells.toList = elc a ∧ u.cells.size = k ∧ ((el a).free = true ∧ u.cells.toList.all Value.oneCell' = true) ∧ Rep L w' (el a) u
theorem Elem.repE {e : TypeId} {k : Nat} {α : Type} {Ok : α → Prop} {el : α → V} {elc : α → List Value} (E : Elem enc P w base spare held e k Ok el elc) (L : Lay) (w' : World) : ∀ l : List α, RepE L w' k (l.map el) (l.map elc).flatten := by
 intro l
 induction l with
 | nil => rfl
 | cons a l ih =>
  obtain ⟨u, h1, h2, h3, h4⟩ := E.rep a L w'
  exact ⟨u, (l.map elc).flatten, by rw [h1]; rfl, h2, h3, h4, ih⟩
theorem ae4 {t e : TypeId} {k : Nat} {α : Type} {Ok : α → Prop} {el : α → V} {elc : α → List Value} (E : Elem enc P w base spare held e k Ok el elc) (ht : P.underlying t = some (.slice e)) {fuel : Nat} {cs : List Value} {x : DataW H × List MemPlace} (h : DataW.trod enc P w base spare held fuel t cs = some x) :
  ∃ l : List α, (∀ a ∈ l, Ok a) ∧ ∃ u, cs = [u] ∧ Rep ⟨fun g => g < w.heap.size, fun _ => none, fun _ => none⟩ w (.sl .fz k (l.map el)) u := by
 rcases DataW.trod_slice ht h with ⟨rfl, _⟩ | ⟨a, len, cap, elems, rest, n, _, rfl, rfl, hb, hl, hm, hlen, hel, _, _⟩
 ·exact ⟨[], (fun a h => by cases h), _, rfl, none, 0, [], rfl, rfl, Nat.le_refl _, .inl rfl⟩
 have each : ∀ i, i < len → ∃ y : α, Ok y ∧ w.cells? base (a.add (i * k)) k = some (elc y) := by
  intro i hi
  have h1 := hel i hi
  rw [E.cells, List.getElem?_eq_getElem (by omega), Option.bind_eq_some_iff] at h1
  obtain ⟨cs', h2, h3⟩ := h1
  obtain ⟨y, hy, rfl⟩ := E.get _ _ _ h3
  exact ⟨y, hy, h2⟩
 rcases Nat.eq_zero_or_pos len with hz | hz
 ·subst hz
  exact ⟨[], (fun a h => by cases h), _, rfl, some a, cap, [], rfl, rfl, Nat.zero_le _, .inl rfl⟩
 obtain ⟨g, o, spot⟩ := a
 have hspot : spot = none := by
  obtain ⟨y, hy, hc⟩ := each 0 hz
  obtain ⟨hcb, hcl, hcc⟩ := World.cells?_some hc
  have h5 := hcc 0 E.pos
  rw [List.getElem?_eq_getElem (by rw [hcl]; exact E.pos)] at h5
  have := World.cell?_spot h5
  simpa [Addr.add] using this
 subst hspot
 have main : ∀ m, m ≤ len → ∃ l : List α, l.length = m ∧ (∀ y ∈ l, Ok y) ∧ ((l.map elc).flatten).length = m * k ∧ ∀ j, j < m * k → w.cell? ((⟨g, o, none⟩ : Addr).add j) = ((l.map elc).flatten)[j]? := by
  intro m
  induction m with
  | zero => intro _; exact ⟨[], rfl, (fun y h => by cases h), by simp, fun j hj => by omega⟩
  | succ m ih =>
   intro hm'
   obtain ⟨l, h1, h2, h3, h4⟩ := ih (by omega)
   obtain ⟨y, hy, hc⟩ := each m (by omega)
   obtain ⟨hcb, hcl, hcc⟩ := World.cells?_some hc
   have hyl := E.len y
   refine ⟨l ++ [y], by simp [h1], ?_, ?_, ?_⟩
   ·intro z hz
    rcases List.mem_append.1 hz with hz | hz
    ·exact h2 z hz
    ·rw [List.mem_singleton.1 hz]; exact hy
   ·rw [List.map_append, List.flatten_append, List.length_append, h3, Nat.add_mul]
    simp [hyl]
   ·intro j hj
    rw [Nat.add_mul, Nat.one_mul] at hj
    rw [List.map_append, List.flatten_append]
    rcases Nat.lt_or_ge j (m * k) with hlt | hge
    ·rw [List.getElem?_append_left (by omega)]; exact h4 j hlt
    ·rw [List.getElem?_append_right (by omega), h3]
     have h5 := hcc (j - m * k) (by omega)
     have e1 : ((⟨g, o, none⟩ : Addr).add (m * k)).add (j - m * k) = (⟨g, o, none⟩ : Addr).add j := by
      rw [Pg.jm, Pg.jm, Pg.jm, Nat.add_assoc, Nat.add_sub_cancel' hge]
     rw [e1] at h5
     simpa using h5
 obtain ⟨l, h1, h2, h3, h4⟩ := main len (Nat.le_refl _)
 refine ⟨l, h2, _, rfl, some ⟨g, o, none⟩, cap, (l.map elc).flatten, by rw [List.length_map, h1], E.repE _ _ l, ?_⟩
 rw [List.length_map, h1]
 refine ⟨hl, ?_⟩
 rcases Nat.eq_zero_or_pos len with h0 | h0
 ·exact .inl h0
 ·right
  have hpos : 0 < len * k := Nat.mul_pos h0 E.pos
  have hrow : Pg.Row w g o (l.map elc).flatten := by
   refine ae2 (by omega) (fun i hi => ?_)
   have := h4 i (by omega)
   rw [Pg.jm] at this
   exact this
  refine ⟨g, o, rfl, ?_, hrow⟩
  obtain ⟨arr, e', fr, hg, _⟩ := hrow
  exact (Array.getElem?_eq_some_iff.1 hg).1
end
end Go.Pg
end
