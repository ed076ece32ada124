/-
  Texts of this claim, merged; own names are short.
-/
import Derived.Test.YtaoejnjkmfkbeaaGreatWBL
set_option linter.unusedVariables false
set_option linter.unusedSimpArgs false
set_option linter.unusedSectionVars false
set_option linter.defProp false
set_option maxRecDepth 100000
set_option maxHeartbeats 8000000
namespace Go.Proofs.YtaoejnjkmfkbeaaGreat
open Go Go.Pg
def ahp (B : List Nat) (a : Nat) (b : Bool) : En := (tqX B a b, ((qX B (tqA B a b) (tqB B a b) 1099511627776 : Nat) : Int), 0)
def ahD (B : List Nat) (a : Nat) (b : Bool) : Nat := qA B (tqA B a b) (tqB B a b) 1099511627776
def ahZ (B : List Nat) (a : Nat) (b : Bool) : Bool := qB B (tqA B a b) (tqB B a b) 1099511627776
def RY (B : List Nat) : Nat → List En → Nat → Bool → List En × Nat × Bool
 | 0, e, a, b => (e, a, b)
 | k + 1, e, a, b => if b = true then (e, a, b) else RY B k (e ++ [ahp B a b]) (ahD B a b) (ahZ B a b)
theorem ahE {B : List Nat} {k : Nat} {e : List En} {a : Nat} {b : Bool} (h : k = 0 ∨ b = true) : RY B k e a b = (e, a, b) := by
 cases k with
 | zero => rfl
 | succ k => exact if_pos (by rcases h with h | h; omega; exact h)
theorem agN {B : List Nat} {k : Nat} {e : List En} {a : Nat} (h : k ≠ 0) : RY B k e a false = RY B (k - 1) (e ++ [ahp B a false]) (ahD B a false) (ahZ B a false) := by
 cases k with
 | zero => exact absurd rfl h
 | succ k => exact if_neg Bool.false_ne_true
def aiq (B : List Nat) (z t lo : Nat) (f : Bool) (q : List En × Nat × Bool) : Option Fq := if qD B q.2.1 q.2.2 = true ∧ vFq ⟨z, t, lo, q.1, f⟩ = 0 then some ⟨z, t, lo, q.1, f⟩ else none
def ag0 (B : List Nat) : Option Fq := xU B 0 false 32 fun z a b => xU B a b 1099511627776 fun t a b => xU B a b 1099511627776 fun lo a b => xU B a b 1 fun f a b => xU B a b 32 fun n a b => aiq B z t lo (decide ((f : Int) = 1)) (RY B n [] a b)
abbrev oFq (x : Fq) : List V := [vi x.z, vi x.t, vi x.l, .sl (.own 0 149) 3 (ev x.e), vb x.b]
theorem aig (B : List Nat) (ho : oct B) (hl : B.length ≤ 2147483648) : Pg.Good Tryz.prog 189 [fzb B] (oV fqF Fq.o (ag0 B)) := by
 refine wC (F' := oFq) (zs := [vi 0, vi 0, vi 0, .c (.slice none 0 0), vb false]) ?_ (fun _ => rfl) (fun _ => ⟨aj _, aj _, trivial⟩) rfl ⟨.inr ⟨_, _, rfl, rfl, ⟨.inl rfl, .inl rfl, .inl rfl, jM _ _, .inl rfl, trivial⟩⟩, aj _, trivial⟩
 simp only [ag0, xU]
 have z1 := fun e bx n' h hb hbn => zQN e bx n' h 1 B 0 false 32 ho hl (Nat.zero_le _) hb hbn
 have a1 := rY (B := B) (a := 0) (bad := false) (m := 32) ho (Nat.zero_le _)
 have m1 := Jj (B := B) (a := 0) (bad := false) (m := 32) ho
 have k1 := rZ (B := B) (a := 0) (bad := false) (m := 32) (by decide)
 generalize qX B 0 false 32 = z at *
 generalize qA B 0 false 32 = A1 at *
 generalize qB B 0 false 32 = b1 at *
 have z2 := fun e bx n' h hb hbn => zQN e bx n' h 1 B A1 b1 1099511627776 ho hl a1 hb hbn
 have a2 := rY (B := B) (a := A1) (bad := b1) (m := 1099511627776) ho a1
 have m2 := Jj (B := B) (a := A1) (bad := b1) (m := 1099511627776) ho
 have k2 := rZ (B := B) (a := A1) (bad := b1) (m := 1099511627776) (by decide)
 generalize qX B A1 b1 1099511627776 = t at *
 generalize qA B A1 b1 1099511627776 = A2 at *
 generalize qB B A1 b1 1099511627776 = b2 at *
 have z3 := fun e bx n' h hb hbn => zQN e bx n' h 1 B A2 b2 1099511627776 ho hl a2 hb hbn
 have a3 := rY (B := B) (a := A2) (bad := b2) (m := 1099511627776) ho a2
 have m3 := Jj (B := B) (a := A2) (bad := b2) (m := 1099511627776) ho
 have k3 := rZ (B := B) (a := A2) (bad := b2) (m := 1099511627776) (by decide)
 generalize qX B A2 b2 1099511627776 = lo at *
 generalize qA B A2 b2 1099511627776 = A3 at *
 generalize qB B A2 b2 1099511627776 = b3 at *
 have z4 := fun e bx n' h hb hbn => zQN e bx n' h 1 B A3 b3 1 ho hl a3 hb hbn
 have a4 := rY (B := B) (a := A3) (bad := b3) (m := 1) ho a3
 have m4 := Jj (B := B) (a := A3) (bad := b3) (m := 1) ho
 have k4 := rZ (B := B) (a := A3) (bad := b3) (m := 1) (by decide)
 generalize qX B A3 b3 1 = fl at *
 generalize qA B A3 b3 1 = A4 at *
 generalize qB B A3 b3 1 = b4 at *
 have z5 := fun e bx n' h hb hbn => zQN e bx n' h 1 B A4 b4 32 ho hl a4 hb hbn
 have a5 := rY (B := B) (a := A4) (bad := b4) (m := 32) ho a4
 have m5 := Jj (B := B) (a := A4) (bad := b4) (m := 32) ho
 have k5 := rZ (B := B) (a := A4) (bad := b4) (m := 32) (by decide)
 generalize qX B A4 b4 32 = N at *
 generalize qA B A4 b4 32 = A5 at *
 generalize qB B A4 b4 32 = b5 at *
 have hf1 : ((fl : Int) == 1) = decide ((fl : Int) = 1) := rfl
 obtain ⟨f, hf⟩ : ∃ f, f = decide ((fl : Int) = 1) := ⟨_, rfl⟩
 rw [← hf] at hf1 ⊢
 obtain ⟨F, hF⟩ : ∃ F, F = RY B N [] A5 b5 := ⟨_, rfl⟩
 rw [← hF]
 refine gI (BO mix) Tryz.func189 Tryz.results189 ?_
 (repeat' (first | (simp (disch := first | exact dqz | fail) only [pgz, simprocAttr, jH, hf1]) | ((with_reducible show cu _ _ _ _ _ _); first | refine eu _ (z1 _ _ _ _ rfl (by omega)) rfl ?_ | refine eu _ (z2 _ _ _ _ rfl (by omega)) rfl ?_ | refine eu _ (z3 _ _ _ _ rfl (by omega)) rfl ?_ | refine eu _ (z4 _ _ _ _ rfl (by omega)) rfl ?_ | refine eu _ (z5 _ _ _ _ rfl (by omega)) rfl ?_) | ((with_reducible first | apply aQ | apply aB | apply bz) <;> intro hc <;> (try simp only [hc]) <;> (try simp only [pgd] at hc)) | (with_reducible refine cK ?_)))
 refine bn (fun x : List En × Nat × Bool => mkA [(2, .ref 0 0), (4, .ref 1 0), (5, .ref 2 0), (6, vi N), (7, vi x.1.length)] [(0, (36, [vi 0, vi 0, vi 0, .c (.slice none 0 0), vb false])), (1, (234, [fzb B, vi x.2.1, vb x.2.2])), (2, (36, [vi z, vi t, vi lo, .sl (.own 0 149) 3 (ev x.1), vb f]))] 3 (fun _ => .top))
  (fun x => RY B (N - x.1.length) x.1 x.2.1 x.2.2 = F ∧ x.1.length ≤ N ∧ x.2.1 ≤ B.length ∧ octE x.1) (fun x => N - x.1.length) ([], A5, b5) [] [0, 1, 2] ?_ ⟨hF.symm, Nat.zero_le _, a5, oU⟩ ?_
 ·(refine aN ?_ ?_ (bG _ _ _) (by decide) (by decide) (by decide) (by decide); (repeat' (first | exact trivial | refine aG _ _ rfl rfl ?_ ?_)); all_goals (try simp only [pgs, pgl, pgx, pgf, pgw, ay, aJ, az, aK, aZ, bV, bD, pgn, simprocAttr]); all_goals (try (repeat' (first | apply aI))); all_goals (try (first | exact trivial | exact au (by omega) | exact aU rfl | exact ak rfl rfl | exact bg rfl)))
  all_goals first | exact di rfl | exact au (by omega) | exact aU rfl | skip
 ·rintro ⟨e, a, b⟩ ⟨i1, i2, i3, i4⟩
  simp only at i1 i2 i3 i4
  have hil := aP e
  clear z1 z2 z3 z4 z5
  by_cases hgo : e.length < N ∧ b = false
  ·obtain ⟨hgo, rfl⟩ := hgo
   rw [agN (by omega)] at i1
   have w1 := fun e bx n' h hb hbn => zQT e bx n' h 1 B a false ho hl i3 hb hbn
   have r1 := agV (B := B) (a := a) (bad := false) ho i3
   have t1 := (ahg (B := B) (a := a) (bad := false) ho).1
   have w2 := fun e bx n' h hb hbn => zQN e bx n' h 1 B (tqA B a false) (tqB B a false) 1099511627776 ho hl r1 hb hbn
   have r2 := rY (B := B) (a := tqA B a false) (bad := tqB B a false) (m := 1099511627776) ho r1
   have m2 := Jj (B := B) (a := tqA B a false) (bad := tqB B a false) (m := 1099511627776) ho
   unfold ahp ahD ahZ at i1
   generalize tqX B a false = x1 at *
   generalize tqA B a false = p1 at *
   generalize tqB B a false = c1 at *
   generalize qX B p1 c1 1099511627776 = x2 at *
   generalize qA B p1 c1 1099511627776 = p2 at *
   generalize qB B p1 c1 1099511627776 = c2 at *
   have hap := lW e x1 (x2 : Nat) 0
   have q8 := DX i4 x1 (x2 : Nat) 0 t1
   obtain ⟨y, hy⟩ : ∃ y : En, y = (x1, ((x2 : Nat) : Int), 0) := ⟨_, rfl⟩
   rw [← hy] at hap q8 i1
   have hln : (e ++ [y]).length = e.length + 1 := by simp
   rw [show N - e.length - 1 = N - (e ++ [y]).length by rw [hln]; omega] at i1
   (repeat' (first | (simp (disch := first | exact dqz | fail) only [pgz, simprocAttr, jH, hil]) | ((with_reducible first | apply aQ | apply aB | apply bz) <;> intro hc <;> (try simp only [hc]) <;> (try simp only [pgd] at hc)) | (with_reducible refine cK ?_)))
   obtain ⟨B0, hB0⟩ : ∃ fB, fB = H5 [(0, (36, [vi 0, vi 0, vi 0, .c (.slice none 0 0), vb false])), (1, (234, [fzb B, vi a, vb false])), (2, (36, [vi z, vi t, vi lo, .sl (.own 0 149) 3 (ev e), vb f]))] := ⟨_, rfl⟩
   obtain ⟨B1, hB1⟩ : ∃ fB, fB = upd B0 1 (some (234, [fzb B, vi p1, vb c1])) := ⟨_, rfl⟩
   obtain ⟨B2, hB2⟩ : ∃ fB, fB = upd B1 1 (some (234, [fzb B, vi p2, vb c2])) := ⟨_, rfl⟩
   obtain ⟨BX, hBX⟩ : ∃ fB : (Nat → Bool) → Nat → Option (TypeId × List V), fB = fun S => if S 5 = true then B2 else if S 3 = true then B1 else B0 := ⟨_, rfl⟩
   obtain ⟨NI, hNI⟩ : ∃ fB : (Nat → Bool) → Nat, fB = fun S => if S 7 = true then 4 else 3 := ⟨_, rfl⟩
   have cc0 : B0 1 = some (234, [fzb B, vi a, vb false]) := by rw [hB0]; rfl
   have d0 : B0 2 = some (36, [vi z, vi t, vi lo, .sl (.own 0 149) 3 (ev e), vb f]) := by rw [hB0]; rfl
   have cc1 : B1 1 = some (234, [fzb B, vi p1, vb c1]) := by rw [hB1]; exact Yb _ _ _
   have d1 : B1 2 = some (36, [vi z, vi t, vi lo, .sl (.own 0 149) 3 (ev e), vb f]) := by rw [hB1, abT _ _ _ _ (by omega), d0]
   have cc2 : B2 1 = some (234, [fzb B, vi p2, vb c2]) := by rw [hB2]; exact Yb _ _ _
   have d2 : B2 2 = some (36, [vi z, vi t, vi lo, .sl (.own 0 149) 3 (ev e), vb f]) := by rw [hB2, abT _ _ _ _ (by omega), d1]
   have hBi : ∀ S i, i ≠ 3 → i ≠ 5 → BX S = BX (ins S i) := fun S i h3 h5 => by rw [hBX]; simp only [rW (Ne.symm h3), rW (Ne.symm h5)]
   have hNi : ∀ S i, i ≠ 7 → NI S = NI (ins S i) := fun S i h7 => by rw [hNI]; simp only [rW (Ne.symm h7)]
   have hb2 : ∀ S, BX S 2 = some (36, [vi z, vi t, vi lo, .sl (.own 0 149) 3 (ev e), vb f]) := fun S => by
    rw [hBX]
    show (if S 5 = true then B2 else if S 3 = true then B1 else B0) 2 = _
    (repeat' split) <;> assumption
   have hnl : ∀ S, 1 < NI S := fun S => by rw [hNI]; simp only; split <;> omega
   have hnd : ([35, 36, 37, 38, 39, 40, 41, 42] : List Nat).Nodup := by decide
   refine Rl mix 8 [(35, .ref 2 3), (36, .sl (.own 0 149) 3 (ev e)), (37, .ref 1 0), (38, vs x1), (39, .ref 1 0), (40, vi (x2 : Nat)), (41, .agg [vs x1, vi (x2 : Nat), vi 0]), (42, .sl (.own 3 149) 3 [.agg [vs x1, vi (x2 : Nat), vi 0]])] BX NI (by rw [hBX]; show B0 = _; exact hB0) (by rw [hNI]; rfl) (by decide) (by decide) (by decide) ?_ ?_
   ·intro S i o ho hi hS he hcl
    rcases (by omega : i = 0 ∨ i = 1 ∨ i = 2 ∨ i = 3 ∨ i = 4 ∨ i = 5 ∨ i = 6 ∨ i = 7) with rfl | rfl | rfl | rfl | rfl | rfl | rfl | rfl
    all_goals (simp only [List.getElem?_cons_zero, List.getElem?_cons_succ, Option.some.injEq] at ho; subst ho)
    ·(repeat' (first | (simp (disch := first | exact dqz | fail) only [pgz, simprocAttr, hS, fJ, nJ]) | ((with_reducible first | apply aQ | apply aB | apply bz) <;> intro hc <;> (try simp only [hc]) <;> (try simp only [pgd] at hc)) | (with_reducible refine cK ?_)))
     exact wE 0 rfl hnd (hBi S 0 (by decide) (by decide)) (hNi S 0 (by decide))
    ·have s0 := he 0 (by decide)
     (repeat' (first | (simp (disch := first | exact dqz | fail) only [pgz, simprocAttr, hS, s0, fJ, nJ, hb2]) | ((with_reducible first | apply aQ | apply aB | apply bz) <;> intro hc <;> (try simp only [hc]) <;> (try simp only [pgd] at hc)) | (with_reducible refine cK ?_)))
     exact wE 1 rfl hnd (hBi S 1 (by decide) (by decide)) (hNi S 1 (by decide))
    ·(repeat' (first | (simp (disch := first | exact dqz | fail) only [pgz, simprocAttr, hS, fJ, nJ]) | ((with_reducible first | apply aQ | apply aB | apply bz) <;> intro hc <;> (try simp only [hc]) <;> (try simp only [pgd] at hc)) | (with_reducible refine cK ?_)))
     exact wE 2 rfl hnd (hBi S 2 (by decide) (by decide)) (hNi S 2 (by decide))
    ·have s2 := he 2 (by decide)
     have n5 : S 5 = false := by
      cases h5 : S 5 with
      | false => rfl
      | true => have := hcl 5 _ rfl h5 3 (by decide); rw [hS] at this; cases this
     have e0 : BX S = B0 := by rw [hBX]; simp only [hS, n5]; rfl
     have e1 : BX (ins S 3) = B1 := by rw [hBX]; simp only [F5, rW (show 5 ≠ 3 by decide), n5]; rfl
     (repeat' (first | (simp (disch := first | exact dqz | fail) only [pgz, simprocAttr, hS, s2, e0, fJ, nJ]) | ((with_reducible first | apply aQ | apply aB | apply bz) <;> intro hc <;> (try simp only [hc]) <;> (try simp only [pgd] at hc)) | (with_reducible refine cK ?_)))
     refine cZ (w1 _ _ _ _ cc0 (hnl S)) ?_ (by simp only [List.map_cons, List.map_nil, pgo, simprocAttr, s2, fJ])
     exact wE 3 (T := [(35, .ref 2 3), (36, .sl (.own 0 149) 3 (ev e)), (37, .ref 1 0), (38, vs x1), (39, .ref 1 0), (40, vi (x2 : Nat)), (41, .agg [vs x1, vi (x2 : Nat), vi 0]), (42, .sl (.own 3 149) 3 [.agg [vs x1, vi (x2 : Nat), vi 0]])]) rfl hnd (by rw [e1, hB1]) (hNi S 3 (by decide))
    ·(repeat' (first | (simp (disch := first | exact dqz | fail) only [pgz, simprocAttr, hS, fJ, nJ]) | ((with_reducible first | apply aQ | apply aB | apply bz) <;> intro hc <;> (try simp only [hc]) <;> (try simp only [pgd] at hc)) | (with_reducible refine cK ?_)))
     exact wE 4 rfl hnd (hBi S 4 (by decide) (by decide)) (hNi S 4 (by decide))
    ·have s4 := he 4 (by decide)
     have p2 := he 3 (by decide)
     have e0 : BX S = B1 := by rw [hBX]; simp only [hS, p2]; rfl
     have e1 : BX (ins S 5) = B2 := by rw [hBX]; simp only [F5]; rfl
     (repeat' (first | (simp (disch := first | exact dqz | fail) only [pgz, simprocAttr, hS, s4, e0, fJ, nJ]) | ((with_reducible first | apply aQ | apply aB | apply bz) <;> intro hc <;> (try simp only [hc]) <;> (try simp only [pgd] at hc)) | (with_reducible refine cK ?_)))
     refine cZ (w2 _ _ _ _ cc1 (hnl S)) ?_ (by simp only [List.map_cons, List.map_nil, pgo, simprocAttr, s4, fJ])
     exact wE 5 (T := [(35, .ref 2 3), (36, .sl (.own 0 149) 3 (ev e)), (37, .ref 1 0), (38, vs x1), (39, .ref 1 0), (40, vi (x2 : Nat)), (41, .agg [vs x1, vi (x2 : Nat), vi 0]), (42, .sl (.own 3 149) 3 [.agg [vs x1, vi (x2 : Nat), vi 0]])]) rfl hnd (by rw [e1, hB2]) (hNi S 5 (by decide))
    ·have s3 := he 3 (by decide)
     have s5 := he 5 (by decide)
     (repeat' (first | (simp (disch := first | exact dqz | fail) only [pgz, simprocAttr, hS, s3, s5, fJ, nJ]) | ((with_reducible first | apply aQ | apply aB | apply bz) <;> intro hc <;> (try simp only [hc]) <;> (try simp only [pgd] at hc)) | (with_reducible refine cK ?_)))
     exact wE 6 rfl hnd (hBi S 6 (by decide) (by decide)) (hNi S 6 (by decide))
    ·have s6 := he 6 (by decide)
     have e0 : NI S = 3 := by rw [hNI]; simp only [hS]; rfl
     have e1 : NI (ins S 7) = 4 := by rw [hNI]; simp only [F5]; rfl
     (repeat' (first | (simp (disch := first | exact dqz | fail) only [pgz, simprocAttr, hS, s6, e0, fJ, nJ]) | ((with_reducible first | apply aQ | apply aB | apply bz) <;> intro hc <;> (try simp only [hc]) <;> (try simp only [pgd] at hc)) | (with_reducible refine cK ?_)))
     exact wE 7 rfl hnd (hBi S 7 (by decide) (by decide)) e1.symm
   ·intro S hall
    have s1 := hall 1 (by decide) (by decide)
    have s4 := hall 7 (by decide) (by decide)
    have e0 : BX S = B2 := by rw [hBX]; simp only [hall 5 (by decide) (by decide)]; rfl
    have e1 : NI S = 4 := by rw [hNI]; simp only [s4]; rfl
    have hB2n := hb2 S
    rw [e0] at hB2n
    rw [e0, e1, hB2, hB1, hB0]
    simp only [List.drop_succ_cons, List.drop_zero, List.map_cons, List.map_nil]
    (repeat' (first | (simp (disch := first | exact dqz | fail) only [pgz, simprocAttr, jH, hil, hap, s1, s4, fJ, nJ, hB2n]) | ((with_reducible first | apply aQ | apply aB | apply bz) <;> intro hc <;> (try simp only [hc]) <;> (try simp only [pgd] at hc)) | (with_reducible refine cK ?_)))
    refine bu (e ++ [y], p2, c2) [0] [0, 1, 2] ⟨i1, by show (e ++ [y]).length ≤ N; omega, by show p2 ≤ B.length; omega, q8⟩ (by show N - (e ++ [y]).length < N - e.length; omega) ?_
    (refine aN ?_ ?_ (bG _ _ _) (by decide) (by decide) (by decide) (by decide); (repeat' (first | exact trivial | refine aG _ _ rfl rfl ?_ ?_)); all_goals (try simp only [pgs, pgl, pgx, pgf, pgw, ay, aJ, az, aK, aZ, bV, bD, pgn, simprocAttr]); all_goals (try (repeat' (first | apply aI))); all_goals (try (first | exact trivial | exact au (by omega) | exact aU rfl | exact ak rfl rfl | exact bg rfl)))
    all_goals (try simp only [fJ, nJ, pgo, simprocAttr, bV, bD, aZ])
    all_goals first | done | exact ak rfl rfl | exact au (by rw [hln]; omega) | exact au (by omega) | exact aU rfl | skip
  ·have hend : N - e.length = 0 ∨ b = true := by
    rcases Nat.lt_or_ge e.length N with h | h
    ·cases b with
     | false => exact absurd ⟨h, rfl⟩ hgo
     | true => exact .inr rfl
    ·exact .inl (by omega)
   rw [ahE hend] at i1
   subst i1
   have w2 := fun e bx n' h hb => zQD e bx n' h 1 B a b hb
   have hv := jB ⟨z, t, lo, e, f⟩ i4 (by show e.length ≤ _; omega)
   have hfd : aiq B z t lo f (e, a, b) = if qD B a b = true ∧ vFq ⟨z, t, lo, e, f⟩ = 0 then some ⟨z, t, lo, e, f⟩ else none := rfl
   clear hf hf1
   generalize qD B a b = D at *
   rcases (by
    rcases Nat.lt_or_ge e.length N with h | h
    ·rcases hend with h1 | h1
     ·omega
     ·exact .inr ⟨h, h1⟩
    ·exact .inl h : N ≤ e.length ∨ (e.length < N ∧ b = true)) with hc | ⟨hc, rfl⟩
   all_goals
    cases D
    ·rw [kD (hfd.trans (if_neg fun h => nomatch h.1))]
     (repeat' (first | (simp (disch := first | exact dqz | fail) only [pgz, simprocAttr, jH, hil]) | ((with_reducible show cu _ _ _ _ _ _); first | refine eu _ (w2 _ _ _ _ rfl) rfl ?_) | ((with_reducible first | apply aQ | apply aB | apply bz) <;> intro hc <;> (try simp only [hc]) <;> (try simp only [pgd] at hc)) | (with_reducible refine cK ?_)))
     all_goals exact rE []
    ·by_cases h0 : vFq ⟨z, t, lo, e, f⟩ = 0
     ·rw [Jh (hfd.trans (if_pos ⟨rfl, h0⟩))]
      rw [h0] at hv
      (repeat' (first | (simp (disch := first | exact dqz | fail) only [pgz, simprocAttr, jH, hil]) | ((with_reducible show cu _ _ _ _ _ _); first | refine eu _ (w2 _ _ _ _ rfl) rfl ?_ | refine cU hv ?_) | ((with_reducible first | apply aQ | apply aB | apply bz) <;> intro hc <;> (try simp only [hc]) <;> (try simp only [pgd] at hc)) | (with_reducible refine cK ?_)))
      all_goals exact rE [0]
     ·rw [kD (hfd.trans (if_neg fun h => h0 h.2))]
      generalize vFq ⟨z, t, lo, e, f⟩ = v at *
      (repeat' (first | (simp (disch := first | exact dqz | fail) only [pgz, simprocAttr, jH, hil]) | ((with_reducible show cu _ _ _ _ _ _); first | refine eu _ (w2 _ _ _ _ rfl) rfl ?_ | refine cU hv ?_) | ((with_reducible first | apply aQ | apply aB | apply bz) <;> intro hc <;> (try simp only [hc]) <;> (try simp only [pgd] at hc)) | (with_reducible refine cK ?_)))
      all_goals exact rE []
theorem ah0 {B : List Nat} (ho : oct B) : ∀ (k : Nat) (e : List En) (a : Nat) (b : Bool), (RY B k e a b).2.2 = false → b = false ∧ ∃ xs : List En, xs.length = k ∧ (RY B k e a b).1 = e ++ xs ∧ B.drop a = xs.flatMap jh ++ B.drop (RY B k e a b).2.1 := by
 intro k
 induction k with
 | zero => intro e a b h; exact ⟨h, [], rfl, (List.append_nil _).symm, rfl⟩
 | succ k ih =>
  intro e a b h
  cases b with
  | true => cases h
  | false =>
   rw [agN (by omega), Nat.add_sub_cancel] at h ⊢
   obtain ⟨h1, xs, h2, h3, h4⟩ := ih _ _ _ h
   have h5 : B.drop a = jh (ahp B a false) ++ B.drop (ahD B a false) := by
    unfold ahZ at h1
    unfold ahp ahD jh
    simp only [Int.toNat_natCast, List.append_assoc]
    obtain ⟨g2, e2⟩ := MG ho h1
    obtain ⟨_, e1⟩ := ah9 ho g2
    exact e1.trans (by rw [← e2])
   refine ⟨rfl, ahp B a false :: xs, by simp [h2], by rw [h3]; simp, ?_⟩
   rw [List.flatMap_cons, List.append_assoc, ← h4]
   exact h5
theorem ahF {B : List Nat} (ho : oct B) : ∀ (l acc : List En) (a : Nat) (r : List Nat), B.drop a = l.flatMap jh ++ r → a ≤ B.length → (∀ y ∈ l, y.1.length ≤ 65536 ∧ (0 ≤ y.2.1 ∧ y.2.1 ≤ 1099511627776) ∧ y.2.2 = 0) → ∃ a', RY B l.length acc a false = (acc ++ l, a', false) ∧ B.drop a' = r ∧ a' ≤ B.length := by
 intro l
 induction l with
 | nil => intro acc a r h ha _; exact ⟨a, by simp [RY], h, ha⟩
 | cons y l ih =>
  intro acc a r h ha hx
  obtain ⟨key, c, er⟩ := y
  obtain ⟨h1, h2, h3⟩ := hx _ (by simp : (key, c, er) ∈ (key, c, er) :: l)
  simp only at h1 h2 h3
  subst h3
  have e : B.drop a = bT key ++ (ae c.toNat ++ (l.flatMap jh ++ r)) := by rw [h]; simp [jh, List.append_assoc]
  obtain ⟨x1, y1, f1⟩ := ahv h1 e
  obtain ⟨x2, y2, f2⟩ := MC (m := 1099511627776) y1 (by omega) (by omega)
  have l1 := agV (bad := false) ho ha
  have l2 := rY (bad := false) (m := 1099511627776) ho l1
  have g1 : ahp B a false = (key, c, 0) := by unfold ahp; rw [x1, f1, x2, fF h2.1]
  have g2 : ahD B a false = qA B (tqA B a false) false 1099511627776 := by unfold ahD; rw [f1]
  have g3 : ahZ B a false = false := by unfold ahZ; rw [f1, f2]
  obtain ⟨a', j1, j2, j3⟩ := ih (acc ++ [(key, c, 0)]) _ r y2 l2 (fun y hy => hx y (by simp [hy]))
  refine ⟨a', ?_, j2, j3⟩
  rw [List.length_cons, agN (by omega), Nat.add_sub_cancel, g1, g2, g3, j1]
  simp [List.append_assoc]
theorem ahq {B : List Nat} {x : Fq} (ho : oct B) (h : ag0 B = some x) : vFq x = 0 ∧ jd x = B := by
 simp only [ag0, xU] at h
 unfold aiq at h
 split at h
 ·rename_i hc
  obtain ⟨h1, h2⟩ := hc
  simp only [Option.some.injEq] at h
  subst h
  refine ⟨h2, ?_⟩
  obtain ⟨d1, d2⟩ := ahP h1
  obtain ⟨q9, xs, hx1, hx2, p9⟩ := ah0 ho _ _ _ _ d1
  obtain ⟨q5, p5⟩ := MG ho q9
  obtain ⟨q4, p4⟩ := MG ho q5
  obtain ⟨q3, p3⟩ := MG ho q4
  obtain ⟨q2, p2⟩ := MG ho q3
  obtain ⟨q1, p1⟩ := MG ho q2
  rw [d2, List.drop_length] at p9
  rw [p2, p3, p4, p5, p9, List.drop_zero] at p1
  unfold jd
  simp only
  rw [agS (rZ (by decide)), hx2]
  simp only [Int.toNat_natCast, List.nil_append, hx1]
  exact (p1.trans (by simp only [List.append_assoc, List.append_nil])).symm
 ·cases h
theorem ah1 (B : List Nat) (ho : oct B) : ag0 B = wI B := by
 refine agQ (fun x h => ?_) (fun x h => ?_)
 ·obtain ⟨h1, h2⟩ := ahq ho h
  rw [← h2]; exact RP x h1
 ·obtain ⟨h1, h2⟩ := L9 h
  obtain ⟨i1, i2, i2l, i3, i4⟩ := uD h1
  obtain ⟨z, t, lo, e, f⟩ := x
  simp only at i1 i2 i3 i4 i2l
  have hen := fun i (hi : i < e.length) => pO (i4 i hi)
  have e0 : B.drop 0 = ae z.toNat ++ (ae t.toNat ++ (ae lo.toNat ++ (ae (if f = true then 1 else 0 : Nat) ++ (ae e.length ++ (e.flatMap jh ++ []))))) := by
   rw [← h2]; unfold jd; rw [wL]; simp only [List.append_assoc, List.append_nil, List.drop_zero]
  obtain ⟨x1, y1, f1⟩ := MC (m := 32) e0 (by omega) (by omega)
  obtain ⟨x2, y2, f2⟩ := MC (m := 1099511627776) y1 (by omega) (by omega)
  obtain ⟨x3, y3, f3⟩ := MC (m := 1099511627776) y2 (by omega) (by omega)
  obtain ⟨x4, y4, f4⟩ := MC (m := 1) y3 (BZ f) (by cases f <;> decide)
  obtain ⟨x5, y5, f5⟩ := MC (m := 32) y4 (by omega) (by omega)
  obtain ⟨a9, x9, y9, l9⟩ := ahF ho e [] _ _ y5 (rY (bad := false) (m := 32) ho (rY (bad := false) (m := 1) ho (rY (bad := false) (m := 1099511627776) ho (rY (bad := false) (m := 1099511627776) ho (rY (bad := false) (m := 32) ho (Nat.zero_le B.length)))))) (fun y hy => by
   obtain ⟨i, hi, rfl⟩ := gG eD hy
   obtain ⟨k1, k2, k3⟩ := hen i hi
   rw [jr] at k1
   exact ⟨by omega, ⟨by omega, by omega⟩, k3⟩)
  simp only [ag0, xU]
  rw [f1, f2, f3, f4, x1, x2, x3, x4, x5, f5, x9, wK]
  unfold aiq
  simp only [List.nil_append]
  rw [fF (by omega), fF (by omega), fF (by omega)]
  exact if_pos ⟨ahQ y9 l9, h1⟩
def Yd (B : List Nat) : Nat → List (List Nat) → Nat → Bool → List (List Nat) × Nat × Bool
 | 0, ks, a, b => (ks, a, b)
 | k + 1, ks, a, b => if b = true then (ks, a, b) else Yd B k (ks ++ [tqX B a b]) (tqA B a b) (tqB B a b)
theorem ahG {B : List Nat} {k : Nat} {ks : List (List Nat)} {a : Nat} {b : Bool} (h : k = 0 ∨ b = true) : Yd B k ks a b = (ks, a, b) := by
 cases k with
 | zero => rfl
 | succ k => exact if_pos (by rcases h with h | h; omega; exact h)
theorem agO {B : List Nat} {k : Nat} {ks : List (List Nat)} {a : Nat} (h : k ≠ 0) : Yd B k ks a false = Yd B (k - 1) (ks ++ [tqX B a false]) (tqA B a false) (tqB B a false) := by
 cases k with
 | zero => exact absurd rfl h
 | succ k => exact if_neg Bool.false_ne_true
def agT (B : List Nat) (a : Nat) (b : Bool) : List (List Nat) × Nat × Bool := Yd B (qX B a b 32) [] (qA B a b 32) (qB B a b 32)
def X9 (B : List Nat) : Nat → List (List (List Nat)) → Nat → Bool → List (List (List Nat)) × Nat × Bool
 | 0, v, a, b => (v, a, b)
 | k + 1, v, a, b => if b = true then (v, a, b) else X9 B k (v ++ [(agT B a b).1]) (agT B a b).2.1 (agT B a b).2.2
theorem ahH {B : List Nat} {k : Nat} {v : List (List (List Nat))} {a : Nat} {b : Bool} (h : k = 0 ∨ b = true) : X9 B k v a b = (v, a, b) := by
 cases k with
 | zero => rfl
 | succ k => exact if_pos (by rcases h with h | h; omega; exact h)
theorem agP {B : List Nat} {k : Nat} {v : List (List (List Nat))} {a : Nat} (h : k ≠ 0) : X9 B k v a false = X9 B (k - 1) (v ++ [(agT B a false).1]) (agT B a false).2.1 (agT B a false).2.2 := by
 cases k with
 | zero => exact absurd rfl h
 | succ k => exact if_neg Bool.false_ne_true
def air (B : List Nat) (z t lo : Nat) (f : Bool) (q : List (List (List Nat)) × Nat × Bool) : Option Rk := if qD B q.2.1 q.2.2 = true ∧ vRk ⟨z, t, lo, q.1, f⟩ = 0 then some ⟨z, t, lo, q.1, f⟩ else none
def ag1 (B : List Nat) : Option Rk := xU B 0 false 32 fun z a b => xU B a b 1099511627776 fun t a b => xU B a b 1099511627776 fun lo a b => xU B a b 1 fun f a b => xU B a b 41 fun n a b => air B z t lo (decide ((f : Int) = 1)) (X9 B n [] a b)
abbrev oRk (x : Rk) : List V := [vi x.z, vi x.t, vi x.l, .sl (.own 0 108) 1 (lv x.v), vb x.b]
theorem aih (B : List Nat) (ho : oct B) (hl : B.length ≤ 2147483648) : Pg.Good Tryz.prog 190 [fzb B] (oV rkF Rk.o (ag1 B)) := by
 refine wC (F' := oRk) (zs := [vi 0, vi 0, vi 0, .c (.slice none 0 0), vb false]) ?_ (fun _ => rfl) (fun _ => ⟨aj _, aj _, trivial⟩) rfl ⟨.inr ⟨_, _, rfl, rfl, ⟨.inl rfl, .inl rfl, .inl rfl, jM _ _, .inl rfl, trivial⟩⟩, aj _, trivial⟩
 simp only [ag1, xU]
 have z1 := fun e bx n' h hb hbn => zQN e bx n' h 1 B 0 false 32 ho hl (Nat.zero_le _) hb hbn
 have a1 := rY (B := B) (a := 0) (bad := false) (m := 32) ho (Nat.zero_le _)
 have m1 := Jj (B := B) (a := 0) (bad := false) (m := 32) ho
 have k1 := rZ (B := B) (a := 0) (bad := false) (m := 32) (by decide)
 generalize qX B 0 false 32 = z at *
 generalize qA B 0 false 32 = A1 at *
 generalize qB B 0 false 32 = b1 at *
 have z2 := fun e bx n' h hb hbn => zQN e bx n' h 1 B A1 b1 1099511627776 ho hl a1 hb hbn
 have a2 := rY (B := B) (a := A1) (bad := b1) (m := 1099511627776) ho a1
 have m2 := Jj (B := B) (a := A1) (bad := b1) (m := 1099511627776) ho
 have k2 := rZ (B := B) (a := A1) (bad := b1) (m := 1099511627776) (by decide)
 generalize qX B A1 b1 1099511627776 = t at *
 generalize qA B A1 b1 1099511627776 = A2 at *
 generalize qB B A1 b1 1099511627776 = b2 at *
 have z3 := fun e bx n' h hb hbn => zQN e bx n' h 1 B A2 b2 1099511627776 ho hl a2 hb hbn
 have a3 := rY (B := B) (a := A2) (bad := b2) (m := 1099511627776) ho a2
 have m3 := Jj (B := B) (a := A2) (bad := b2) (m := 1099511627776) ho
 have k3 := rZ (B := B) (a := A2) (bad := b2) (m := 1099511627776) (by decide)
 generalize qX B A2 b2 1099511627776 = lo at *
 generalize qA B A2 b2 1099511627776 = A3 at *
 generalize qB B A2 b2 1099511627776 = b3 at *
 have z4 := fun e bx n' h hb hbn => zQN e bx n' h 1 B A3 b3 1 ho hl a3 hb hbn
 have a4 := rY (B := B) (a := A3) (bad := b3) (m := 1) ho a3
 have m4 := Jj (B := B) (a := A3) (bad := b3) (m := 1) ho
 have k4 := rZ (B := B) (a := A3) (bad := b3) (m := 1) (by decide)
 generalize qX B A3 b3 1 = fl at *
 generalize qA B A3 b3 1 = A4 at *
 generalize qB B A3 b3 1 = b4 at *
 have z5 := fun e bx n' h hb hbn => zQN e bx n' h 1 B A4 b4 41 ho hl a4 hb hbn
 have a5 := rY (B := B) (a := A4) (bad := b4) (m := 41) ho a4
 have m5 := Jj (B := B) (a := A4) (bad := b4) (m := 41) ho
 have k5 := rZ (B := B) (a := A4) (bad := b4) (m := 41) (by decide)
 generalize qX B A4 b4 41 = N at *
 generalize qA B A4 b4 41 = A5 at *
 generalize qB B A4 b4 41 = b5 at *
 have hf1 : ((fl : Int) == 1) = decide ((fl : Int) = 1) := rfl
 obtain ⟨f, hf⟩ : ∃ f, f = decide ((fl : Int) = 1) := ⟨_, rfl⟩
 rw [← hf] at hf1 ⊢
 obtain ⟨F, hF⟩ : ∃ F, F = X9 B N [] A5 b5 := ⟨_, rfl⟩
 rw [← hF]
 refine gI oW Tryz.func190 Tryz.results190 ?_
 (repeat' (first | (simp (disch := first | exact dqz | fail) only [pgz, simprocAttr, hf1]) | ((with_reducible show cu _ _ _ _ _ _); first | refine eu _ (z1 _ _ _ _ rfl (by omega)) rfl ?_ | refine eu _ (z2 _ _ _ _ rfl (by omega)) rfl ?_ | refine eu _ (z3 _ _ _ _ rfl (by omega)) rfl ?_ | refine eu _ (z4 _ _ _ _ rfl (by omega)) rfl ?_ | refine eu _ (z5 _ _ _ _ rfl (by omega)) rfl ?_) | ((with_reducible first | apply aQ | apply aB | apply bz) <;> intro hc <;> (try simp only [hc]) <;> (try simp only [pgd] at hc)) | (with_reducible refine cK ?_)))
 refine bn (fun x : List (List (List Nat)) × Nat × Bool => mkA [(2, .ref 0 0), (4, .ref 1 0), (5, .ref 2 0), (6, vi N), (7, vi x.1.length)] [(0, (39, [vi 0, vi 0, vi 0, .c (.slice none 0 0), vb false])), (1, (234, [fzb B, vi x.2.1, vb x.2.2])), (2, (39, [vi z, vi t, vi lo, .sl (.own 0 108) 1 (lv x.1), vb f]))] 3 (fun _ => .top))
  (fun x => X9 B (N - x.1.length) x.1 x.2.1 x.2.2 = F ∧ x.1.length ≤ N ∧ x.2.1 ≤ B.length ∧ (∀ l ∈ x.1, octL l) ∧ ∀ l ∈ x.1, l.length ≤ 1000000) (fun x => N - x.1.length) ([], A5, b5) [] [0, 1, 2] ?_ ⟨hF.symm, Nat.zero_le _, a5, fun x hx => (by cases hx), fun x hx => by cases hx⟩ ?_
 ·(refine aN ?_ ?_ (bG _ _ _) (by decide) (by decide) (by decide) (by decide); (repeat' (first | exact trivial | refine aG _ _ rfl rfl ?_ ?_)); all_goals (try simp only [pgs, pgl, pgx, pgf, pgw, ay, aJ, az, aK, aZ, bV, bD, pgn, simprocAttr]); all_goals (try (repeat' (first | apply aI))); all_goals (try (first | exact trivial | exact au (by omega) | exact aU rfl | exact ak rfl rfl | exact bg rfl)))
  all_goals first | exact di rfl | exact au (by omega) | exact aU rfl | skip
 ·rintro ⟨v, a, b⟩ ⟨i1, i2, i3, i6, i7⟩
  simp only at i1 i2 i3 i6 i7
  have hel := dQ v
  clear z1 z2 z3 z4 z5
  by_cases hgo : v.length < N ∧ b = false
  ·obtain ⟨g1, rfl⟩ := hgo
   rw [agP (by omega)] at i1
   have w1 := fun e bx n' h hb hbn => zQN e bx n' h 1 B a false 32 ho hl i3 hb hbn
   have q2 := rY (B := B) (a := a) (bad := false) (m := 32) ho i3
   have q3 := rZ (B := B) (a := a) (bad := false) (m := 32) (by decide)
   obtain ⟨G, hG⟩ : ∃ G, G = agT B a false := ⟨_, rfl⟩
   rw [← hG] at i1
   unfold agT at hG
   (repeat' (first | (simp (disch := first | exact dqz | fail) only [pgz, simprocAttr, hel]) | ((with_reducible show cu _ _ _ _ _ _); first | refine eu _ (w1 _ _ _ _ rfl (by omega)) rfl ?_) | ((with_reducible first | apply aQ | apply aB | apply bz) <;> intro hc <;> (try simp only [hc]) <;> (try simp only [pgd] at hc)) | (with_reducible refine cK ?_)))
   generalize qX B a false 32 = K0 at *
   generalize qA B a false 32 = p1 at *
   generalize qB B a false 32 = c1 at *
   refine bn (fun x : List (List Nat) × Nat × Bool => mkA [(2, .ref 0 0), (4, .ref 1 0), (5, .ref 2 0), (6, vi N), (7, vi v.length), (8, vi K0), (9, .sl (.own 1 9) 1 (sv x.1)), (10, vi x.1.length)] [(0, (39, [vi 0, vi 0, vi 0, .c (.slice none 0 0), vb false])), (1, (234, [fzb B, vi x.2.1, vb x.2.2])), (2, (39, [vi z, vi t, vi lo, .sl (.own 0 108) 1 (lv v), vb f]))] 3 (fun _ => .top))
    (fun x => Yd B (K0 - x.1.length) x.1 x.2.1 x.2.2 = G ∧ x.1.length ≤ K0 ∧ x.2.1 ≤ B.length ∧ octL x.1) (fun x => K0 - x.1.length) ([], p1, c1) [0] [0, 1, 2] ?_ ⟨hG.symm, Nat.zero_le _, q2, fun x hx => by cases hx⟩ ?_
   ·(refine aN ?_ ?_ (bG _ _ _) (by decide) (by decide) (by decide) (by decide); (repeat' (first | exact trivial | refine aG _ _ rfl rfl ?_ ?_)); all_goals (try simp only [pgs, pgl, pgx, pgf, pgw, ay, aJ, az, aK, aZ, bV, bD, pgn, simprocAttr]); all_goals (try (repeat' (first | apply aI))); all_goals (try (first | exact trivial | exact au (by omega) | exact aU rfl | exact ak rfl rfl | exact bg rfl)))
    all_goals first | exact ak rfl rfl | exact di rfl | exact au (by omega) | exact aU rfl | skip
   ·rintro ⟨ks, a2, b2⟩ ⟨j1, j2, j3, j5⟩
    simp only at j1 j2 j3 j5
    have hkl := Cc ks
    by_cases hk : ks.length < K0 ∧ b2 = false
    ·obtain ⟨hk1, rfl⟩ := hk
     rw [agO (by omega)] at j1
     have w2 := fun e bx n' h hb hbn => zQT e bx n' h 1 B a2 false ho hl j3 hb hbn
     have r1 := agV (B := B) (a := a2) (bad := false) ho j3
     obtain ⟨r4, _⟩ := ahg (B := B) (a := a2) (bad := false) ho
     have hap := acB ks [tqX B a2 false]
     have hs1 : sv [tqX B a2 false] = [vs (tqX B a2 false)] := rfl
     rw [hs1] at hap
     have r5 := Rx j5 r4
     have r6 : (ks ++ [tqX B a2 false]).length = ks.length + 1 := by simp
     generalize tqX B a2 false = X at *
     generalize tqA B a2 false = a3' at *
     generalize tqB B a2 false = b3' at *
     rw [show K0 - ks.length - 1 = K0 - (ks ++ [X]).length by rw [r6]; omega] at j1
     (repeat' (first | (simp (disch := first | exact dqz | fail) only [pgz, simprocAttr, hel, hkl, hap]) | ((with_reducible show cu _ _ _ _ _ _); first | refine eu _ (w2 _ _ _ _ rfl (by omega)) rfl ?_) | ((with_reducible first | apply aQ | apply aB | apply bz) <;> intro hc <;> (try simp only [hc]) <;> (try simp only [pgd] at hc)) | (with_reducible refine cK ?_)))
     refine bu (ks ++ [X], a3', b3') [0, 1] [0, 1, 2] ⟨j1, by show (ks ++ [X]).length ≤ K0; omega, r1, r5⟩ (by show K0 - (ks ++ [X]).length < K0 - ks.length; omega) ?_
     (refine aN ?_ ?_ (bG _ _ _) (by decide) (by decide) (by decide) (by decide); (repeat' (first | exact trivial | refine aG _ _ rfl rfl ?_ ?_)); all_goals (try simp only [pgs, pgl, pgx, pgf, pgw, ay, aJ, az, aK, aZ, bV, bD, pgn, simprocAttr]); all_goals (try (repeat' (first | apply aI))); all_goals (try (first | exact trivial | exact au (by omega) | exact aU rfl | exact ak rfl rfl | exact bg rfl)))
     all_goals first | exact ak rfl rfl | exact au (by rw [r6]; omega) | exact au (by omega) | exact aU rfl | skip
    ·have hend : K0 - ks.length = 0 ∨ b2 = true := by
      rcases Nat.lt_or_ge ks.length K0 with h | h
      ·cases b2 with
       | false => exact absurd ⟨h, rfl⟩ hk
       | true => exact .inr rfl
      ·exact .inl (by omega)
     rw [ahG hend] at j1
     subst j1
     simp only at i1
     have hln : (v ++ [ks]).length = v.length + 1 := by simp
     rw [show N - v.length - 1 = N - (v ++ [ks]).length by rw [hln]; omega] at i1
     have hap := sH v ks
     have r5 := Rw i6 j5
     have r6 : ∀ l ∈ v ++ [ks], l.length ≤ 1000000 := by
      intro x hx
      rcases List.mem_append.1 hx with hx | hx
      ·exact i7 x hx
      ·simp only [List.mem_singleton] at hx; subst hx; omega
     rcases (by
      rcases Nat.lt_or_ge ks.length K0 with h | h
      ·rcases hend with h1 | h1
       ·omega
       ·exact .inr ⟨h, h1⟩
      ·exact .inl h : K0 ≤ ks.length ∨ (ks.length < K0 ∧ b2 = true)) with c | ⟨c, rfl⟩
     all_goals
      (repeat' (first | (simp (disch := first | exact dqz | fail) only [pgz, simprocAttr, hel, hkl, hap, id_eq.{1}, lF, aV, false_or, Bool.false_eq_true, Option.bind_none]) | ((with_reducible first | apply aQ | apply aB | apply bz) <;> intro hc <;> (try simp only [hc]) <;> (try simp only [pgd] at hc)) | (with_reducible refine cK ?_)))
      first
       | refine bu (v ++ [ks], a2, b2) [0] [0, 1, 2] ⟨i1, by show (v ++ [ks]).length ≤ N; omega, j3, r5, r6⟩ (by show N - (v ++ [ks]).length < N - v.length; omega) ?_
       | refine bu (v ++ [ks], a2, true) [0] [0, 1, 2] ⟨i1, by show (v ++ [ks]).length ≤ N; omega, j3, r5, r6⟩ (by show N - (v ++ [ks]).length < N - v.length; omega) ?_
      (refine aN ?_ ?_ (bG _ _ _) (by decide) (by decide) (by decide) (by decide); (repeat' (first | exact trivial | refine aG _ _ rfl rfl ?_ ?_)); all_goals (try simp only [pgs, pgl, pgx, pgf, pgw, ay, aJ, az, aK, aZ, bV, bD, pgn, simprocAttr]); all_goals (try (repeat' (first | apply aI))); all_goals (try (first | exact trivial | exact au (by omega) | exact aU rfl | exact ak rfl rfl | exact bg rfl)))
      all_goals first | exact ak rfl rfl | exact au (by rw [hln]; omega) | exact au (by omega) | exact aU rfl | skip
  ·have hend : N - v.length = 0 ∨ b = true := by
    rcases Nat.lt_or_ge v.length N with h | h
    ·cases b with
     | false => exact absurd ⟨h, rfl⟩ hgo
     | true => exact .inr rfl
    ·exact .inl (by omega)
   rw [ahH hend] at i1
   subst i1
   have w2 := fun e bx n' h hb => zQD e bx n' h 1 B a b hb
   have hv := kU ⟨z, t, lo, v, f⟩ i6 (by show v.length ≤ _; omega) i7
   have hfd : air B z t lo f (v, a, b) = if qD B a b = true ∧ vRk ⟨z, t, lo, v, f⟩ = 0 then some ⟨z, t, lo, v, f⟩ else none := rfl
   clear hf hf1
   generalize qD B a b = D at *
   rcases (by
    rcases Nat.lt_or_ge v.length N with h | h
    ·rcases hend with h1 | h1
     ·omega
     ·exact .inr ⟨h, h1⟩
    ·exact .inl h : N ≤ v.length ∨ (v.length < N ∧ b = true)) with hc | ⟨hc, rfl⟩
   all_goals
    cases D
    ·rw [kD (hfd.trans (if_neg fun h => nomatch h.1))]
     (repeat' (first | (simp (disch := first | exact dqz | fail) only [pgz, simprocAttr, hel]) | ((with_reducible show cu _ _ _ _ _ _); first | refine eu _ (w2 _ _ _ _ rfl) rfl ?_) | ((with_reducible first | apply aQ | apply aB | apply bz) <;> intro hc <;> (try simp only [hc]) <;> (try simp only [pgd] at hc)) | (with_reducible refine cK ?_)))
     all_goals exact rE []
    ·by_cases h0 : vRk ⟨z, t, lo, v, f⟩ = 0
     ·rw [Jh (hfd.trans (if_pos ⟨rfl, h0⟩))]
      rw [h0] at hv
      (repeat' (first | (simp (disch := first | exact dqz | fail) only [pgz, simprocAttr, hel]) | ((with_reducible show cu _ _ _ _ _ _); first | refine eu _ (w2 _ _ _ _ rfl) rfl ?_ | refine cU hv ?_) | ((with_reducible first | apply aQ | apply aB | apply bz) <;> intro hc <;> (try simp only [hc]) <;> (try simp only [pgd] at hc)) | (with_reducible refine cK ?_)))
      all_goals exact rE [0]
     ·rw [kD (hfd.trans (if_neg fun h => h0 h.2))]
      generalize vRk ⟨z, t, lo, v, f⟩ = vv at *
      (repeat' (first | (simp (disch := first | exact dqz | fail) only [pgz, simprocAttr, hel]) | ((with_reducible show cu _ _ _ _ _ _); first | refine eu _ (w2 _ _ _ _ rfl) rfl ?_ | refine cU hv ?_) | ((with_reducible first | apply aQ | apply aB | apply bz) <;> intro hc <;> (try simp only [hc]) <;> (try simp only [pgd] at hc)) | (with_reducible refine cK ?_)))
      all_goals exact rE []
theorem ah2 {B : List Nat} (ho : oct B) : ∀ (k : Nat) (ks : List (List Nat)) (a : Nat) (b : Bool), (Yd B k ks a b).2.2 = false → b = false ∧ ∃ xs : List (List Nat), xs.length = k ∧ (Yd B k ks a b).1 = ks ++ xs ∧ B.drop a = xs.flatMap bT ++ B.drop (Yd B k ks a b).2.1 := by
 intro k
 induction k with
 | zero => intro ks a b h; exact ⟨h, [], rfl, (List.append_nil _).symm, rfl⟩
 | succ k ih =>
  intro ks a b h
  cases b with
  | true => cases h
  | false =>
   rw [agO (by omega), Nat.add_sub_cancel] at h ⊢
   obtain ⟨h1, xs, h2, h3, h4⟩ := ih _ _ _ h
   obtain ⟨_, h5⟩ := ah9 ho h1
   refine ⟨rfl, tqX B a false :: xs, by simp [h2], by rw [h3]; simp, ?_⟩
   rw [List.flatMap_cons, List.append_assoc, ← h4]
   exact h5
theorem ah3 {B : List Nat} (ho : oct B) : ∀ (k : Nat) (v : List (List (List Nat))) (a : Nat) (b : Bool), (X9 B k v a b).2.2 = false → b = false ∧ ∃ xs : List (List (List Nat)), xs.length = k ∧ (X9 B k v a b).1 = v ++ xs ∧ B.drop a = xs.flatMap iQ ++ B.drop (X9 B k v a b).2.1 := by
 intro k
 induction k with
 | zero => intro v a b h; exact ⟨h, [], rfl, (List.append_nil _).symm, rfl⟩
 | succ k ih =>
  intro v a b h
  cases b with
  | true => cases h
  | false =>
   rw [agP (by omega), Nat.add_sub_cancel] at h ⊢
   obtain ⟨h1, xs, h2, h3, h4⟩ := ih _ _ _ h
   have h5 : B.drop a = iQ (agT B a false).1 ++ B.drop (agT B a false).2.1 := by
    unfold agT at h1 ⊢
    obtain ⟨g1, ys, g2, g3, g4⟩ := ah2 ho _ _ _ _ h1
    obtain ⟨_, g5⟩ := MG ho g1
    rw [g3, List.nil_append]
    unfold iQ
    rw [g2, List.append_assoc, ← g4]
    exact g5
   refine ⟨rfl, (agT B a false).1 :: xs, by simp [h2], by rw [h3]; simp, ?_⟩
   rw [List.flatMap_cons, List.append_assoc, ← h4]
   exact h5
theorem ahI {B : List Nat} (ho : oct B) : ∀ (l acc : List (List Nat)) (a : Nat) (r : List Nat), B.drop a = l.flatMap bT ++ r → a ≤ B.length → (∀ k ∈ l, k.length ≤ 65536) → ∃ a', Yd B l.length acc a false = (acc ++ l, a', false) ∧ B.drop a' = r ∧ a' ≤ B.length := by
 intro l
 induction l with
 | nil => intro acc a r h ha _; exact ⟨a, by simp [Yd], h, ha⟩
 | cons y l ih =>
  intro acc a r h ha hx
  have e : B.drop a = bT y ++ (l.flatMap bT ++ r) := by rw [h]; simp [List.append_assoc]
  obtain ⟨x1, y1, f1⟩ := ahv (hx y (by simp)) e
  obtain ⟨a', j1, j2, j3⟩ := ih (acc ++ [y]) _ r y1 (agV ho ha) (fun y hy => hx y (by simp [hy]))
  refine ⟨a', ?_, j2, j3⟩
  rw [List.length_cons, agO (by omega), Nat.add_sub_cancel, x1, f1, j1]
  simp [List.append_assoc]
theorem ahJ {B : List Nat} (ho : oct B) : ∀ (v acc : List (List (List Nat))) (a : Nat) (r : List Nat), B.drop a = v.flatMap iQ ++ r → a ≤ B.length → (∀ l ∈ v, l.length ≤ 32 ∧ ∀ x ∈ l, x.length ≤ 65536) → ∃ a', X9 B v.length acc a false = (acc ++ v, a', false) ∧ B.drop a' = r ∧ a' ≤ B.length := by
 intro v
 induction v with
 | nil => intro acc a r h ha _; exact ⟨a, by simp [X9], h, ha⟩
 | cons y v ih =>
  intro acc a r h ha hx
  obtain ⟨h1, h2⟩ := hx y (by simp)
  have e : B.drop a = ae y.length ++ (y.flatMap bT ++ (v.flatMap iQ ++ r)) := by rw [h]; simp [iQ, List.append_assoc]
  obtain ⟨x1, y1, f1⟩ := MC (m := 32) e (by omega) (by omega)
  obtain ⟨a2, k1, k2, k3⟩ := ahI ho y [] _ _ y1 (rY ho ha) h2
  have g : agT B a false = (y, a2, false) := by unfold agT; rw [x1, f1, k1]; rfl
  obtain ⟨a', j1, j2, j3⟩ := ih (acc ++ [y]) _ r k2 k3 (fun y hy => hx y (by simp [hy]))
  refine ⟨a', ?_, j2, j3⟩
  rw [List.length_cons, agP (by omega), Nat.add_sub_cancel, g, j1]
  simp [List.append_assoc]
theorem ahr {B : List Nat} {x : Rk} (ho : oct B) (h : ag1 B = some x) : vRk x = 0 ∧ je x = B := by
 simp only [ag1, xU] at h
 unfold air at h
 split at h
 ·rename_i hc
  obtain ⟨h1, h2⟩ := hc
  simp only [Option.some.injEq] at h
  subst h
  refine ⟨h2, ?_⟩
  obtain ⟨d1, d2⟩ := ahP h1
  obtain ⟨q9, xs, hx1, hx2, p9⟩ := ah3 ho _ _ _ _ d1
  obtain ⟨q5, p5⟩ := MG ho q9
  obtain ⟨q4, p4⟩ := MG ho q5
  obtain ⟨q3, p3⟩ := MG ho q4
  obtain ⟨q2, p2⟩ := MG ho q3
  obtain ⟨q1, p1⟩ := MG ho q2
  rw [d2, List.drop_length] at p9
  rw [p2, p3, p4, p5, p9, List.drop_zero] at p1
  unfold je
  simp only
  rw [agS (rZ (by decide)), hx2]
  simp only [Int.toNat_natCast, List.nil_append, hx1]
  exact (p1.trans (by simp only [List.append_assoc, List.append_nil])).symm
 ·cases h
theorem ah4 (B : List Nat) (ho : oct B) : ag1 B = wJ B := by
 refine agQ (fun x h => ?_) (fun x h => ?_)
 ·obtain ⟨h1, h2⟩ := ahr ho h
  rw [← h2]; exact RQ x h1
 ·obtain ⟨h1, h2⟩ := Mc h
  have hkeys := vY h1
  obtain ⟨i1, i2, i2l, i3, i4⟩ := uG h1
  obtain ⟨z, t, lo, v, f⟩ := x
  simp only at i1 i2 i3 i4 i2l hkeys
  have e0 : B.drop 0 = ae z.toNat ++ (ae t.toNat ++ (ae lo.toNat ++ (ae (if f = true then 1 else 0 : Nat) ++ (ae v.length ++ (v.flatMap iQ ++ []))))) := by
   rw [← h2]; unfold je; rw [wL]; simp only [List.append_assoc, List.append_nil, List.drop_zero]
  obtain ⟨x1, y1, f1⟩ := MC (m := 32) e0 (by omega) (by omega)
  obtain ⟨x2, y2, f2⟩ := MC (m := 1099511627776) y1 (by omega) (by omega)
  obtain ⟨x3, y3, f3⟩ := MC (m := 1099511627776) y2 (by omega) (by omega)
  obtain ⟨x4, y4, f4⟩ := MC (m := 1) y3 (BZ f) (by cases f <;> decide)
  obtain ⟨x5, y5, f5⟩ := MC (m := 41) y4 (by omega) (by omega)
  obtain ⟨a9, x9, y9, l9⟩ := ahJ ho v [] _ _ y5 (rY (bad := false) (m := 41) ho (rY (bad := false) (m := 1) ho (rY (bad := false) (m := 1099511627776) ho (rY (bad := false) (m := 1099511627776) ho (rY (bad := false) (m := 32) ho (Nat.zero_le B.length)))))) (fun y hy => by
   obtain ⟨i, hi, he⟩ := gG [] hy
   have g1 := i4 i
   have g2 := hkeys i hi
   rw [he] at g1 g2
   exact ⟨by omega, fun k hk => by have := g2 k hk; omega⟩)
  simp only [ag1, xU]
  rw [f1, f2, f3, f4, x1, x2, x3, x4, x5, f5, x9, wK]
  unfold air
  simp only [List.nil_append]
  rw [fF (by omega), fF (by omega), fF (by omega)]
  exact if_pos ⟨ahQ y9 l9, h1⟩
end Go.Proofs.YtaoejnjkmfkbeaaGreat
