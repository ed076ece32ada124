/-
  Texts of this claim, merged; own names are short.
-/
import Derived.Test.YtaoejnjkmfkbeaaGreatWBK
set_option linter.unusedVariables false
set_option linter.unusedSimpArgs false
set_option linter.unusedSectionVars false
set_option linter.defProp false
set_option maxRecDepth 100000
set_option maxHeartbeats 8000000
namespace Go.Proofs.YtaoejnjkmfkbeaaGreat
open Go Go.Pg
def ahn (B : List Nat) (a : Nat) (b : Bool) : En := (tqX B a b, ((qX B (tqA B a b) (tqB B a b) 1099511627776 : Nat) : Int), ((qX B (qA B (tqA B a b) (tqB B a b) 1099511627776) (qB B (tqA B a b) (tqB B a b) 1099511627776) 1099511627776 : Nat) : Int))
def ahA (B : List Nat) (a : Nat) (b : Bool) : Nat := qA B (qA B (tqA B a b) (tqB B a b) 1099511627776) (qB B (tqA B a b) (tqB B a b) 1099511627776) 1099511627776
def ahW (B : List Nat) (a : Nat) (b : Bool) : Bool := qB B (qA B (tqA B a b) (tqB B a b) 1099511627776) (qB B (tqA B a b) (tqB B a b) 1099511627776) 1099511627776
def RV (B : List Nat) : Nat → List En → Nat → Bool → List En × Nat × Bool
 | 0, e, a, b => (e, a, b)
 | k + 1, e, a, b => if b = true then (e, a, b) else RV B k (e ++ [ahn B a b]) (ahA B a b) (ahW B a b)
theorem ahB {B : List Nat} {k : Nat} {e : List En} {a : Nat} {b : Bool} (h : k = 0 ∨ b = true) : RV B k e a b = (e, a, b) := by
 cases k with
 | zero => rfl
 | succ k => exact if_pos (by rcases h with h | h; omega; exact h)
theorem agM {B : List Nat} {k : Nat} {e : List En} {a : Nat} (h : k ≠ 0) : RV B k e a false = RV B (k - 1) (e ++ [ahn B a false]) (ahA B a false) (ahW B a false) := by
 cases k with
 | zero => exact absurd rfl h
 | succ k => exact if_neg Bool.false_ne_true
def aip (B : List Nat) (z t : Nat) (f : Bool) (q : List En × Nat × Bool) : Option Tp := if qD B q.2.1 q.2.2 = true ∧ vTp ⟨z, t, q.1, f⟩ = 0 then some ⟨z, t, q.1, f⟩ else none
def agZ (B : List Nat) : Option Tp := xU B 0 false 32 fun z a b => xU B a b 1099511627776 fun t a b => xU B a b 1 fun f a b => xU B a b 32 fun n a b => aip B z t (decide ((f : Int) = 1)) (RV B n [] a b)
abbrev oTp (x : Tp) : List V := [vi x.z, vi x.t, .sl (.own 0 149) 3 (ev x.e), vb x.b]
theorem aif (B : List Nat) (ho : oct B) (hl : B.length ≤ 2147483648) : Pg.Good Tryz.prog 188 [fzb B] (oV tpF Tp.o (agZ B)) := by
 refine wC (F' := oTp) (zs := [vi 0, vi 0, .c (.slice none 0 0), vb false]) ?_ (fun _ => rfl) (fun _ => ⟨aj _, aj _, trivial⟩) rfl ⟨.inr ⟨_, _, rfl, rfl, ⟨.inl rfl, .inl rfl, jM _ _, .inl rfl, trivial⟩⟩, aj _, trivial⟩
 simp only [agZ, xU]
 have z1 := fun e bx n' h hb hbn => zQN e bx n' h 1 B 0 false 32 ho hl (Nat.zero_le _) hb hbn
 have a1 := rY (B := B) (a := 0) (bad := false) (m := 32) ho (Nat.zero_le _)
 have m1 := Jj (B := B) (a := 0) (bad := false) (m := 32) ho
 have k1 := rZ (B := B) (a := 0) (bad := false) (m := 32) (by decide)
 generalize qX B 0 false 32 = z at *
 generalize qA B 0 false 32 = A1 at *
 generalize qB B 0 false 32 = b1 at *
 have z2 := fun e bx n' h hb hbn => zQN e bx n' h 1 B A1 b1 1099511627776 ho hl a1 hb hbn
 have a2 := rY (B := B) (a := A1) (bad := b1) (m := 1099511627776) ho a1
 have m2 := Jj (B := B) (a := A1) (bad := b1) (m := 1099511627776) ho
 have k2 := rZ (B := B) (a := A1) (bad := b1) (m := 1099511627776) (by decide)
 generalize qX B A1 b1 1099511627776 = t at *
 generalize qA B A1 b1 1099511627776 = A2 at *
 generalize qB B A1 b1 1099511627776 = b2 at *
 have z3 := fun e bx n' h hb hbn => zQN e bx n' h 1 B A2 b2 1 ho hl a2 hb hbn
 have a3 := rY (B := B) (a := A2) (bad := b2) (m := 1) ho a2
 have m3 := Jj (B := B) (a := A2) (bad := b2) (m := 1) ho
 have k3 := rZ (B := B) (a := A2) (bad := b2) (m := 1) (by decide)
 generalize qX B A2 b2 1 = fl at *
 generalize qA B A2 b2 1 = A3 at *
 generalize qB B A2 b2 1 = b3 at *
 have z4 := fun e bx n' h hb hbn => zQN e bx n' h 1 B A3 b3 32 ho hl a3 hb hbn
 have a4 := rY (B := B) (a := A3) (bad := b3) (m := 32) ho a3
 have m4 := Jj (B := B) (a := A3) (bad := b3) (m := 32) ho
 have k4 := rZ (B := B) (a := A3) (bad := b3) (m := 32) (by decide)
 generalize qX B A3 b3 32 = N at *
 generalize qA B A3 b3 32 = A4 at *
 generalize qB B A3 b3 32 = b4 at *
 have hf1 : ((fl : Int) == 1) = decide ((fl : Int) = 1) := rfl
 obtain ⟨f, hf⟩ : ∃ f, f = decide ((fl : Int) = 1) := ⟨_, rfl⟩
 rw [← hf] at hf1 ⊢
 obtain ⟨F, hF⟩ : ∃ F, F = RV B N [] A4 b4 := ⟨_, rfl⟩
 rw [← hF]
 refine gI (BO mix) Tryz.func188 Tryz.results188 ?_
 (repeat' (first | (simp (disch := first | exact dqz | fail) only [pgz, simprocAttr, jH, hf1]) | ((with_reducible show cu _ _ _ _ _ _); first | refine eu _ (z1 _ _ _ _ rfl (by omega)) rfl ?_ | refine eu _ (z2 _ _ _ _ rfl (by omega)) rfl ?_ | refine eu _ (z3 _ _ _ _ rfl (by omega)) rfl ?_ | refine eu _ (z4 _ _ _ _ rfl (by omega)) rfl ?_) | ((with_reducible first | apply aQ | apply aB | apply bz) <;> intro hc <;> (try simp only [hc]) <;> (try simp only [pgd] at hc)) | (with_reducible refine cK ?_)))
 refine bn (fun x : List En × Nat × Bool => mkA [(2, .ref 0 0), (4, .ref 1 0), (5, .ref 2 0), (6, vi N), (7, vi x.1.length)] [(0, (34, [vi 0, vi 0, .c (.slice none 0 0), vb false])), (1, (234, [fzb B, vi x.2.1, vb x.2.2])), (2, (34, [vi z, vi t, .sl (.own 0 149) 3 (ev x.1), vb f]))] 3 (fun _ => .top))
  (fun x => RV B (N - x.1.length) x.1 x.2.1 x.2.2 = F ∧ x.1.length ≤ N ∧ x.2.1 ≤ B.length ∧ octE x.1) (fun x => N - x.1.length) ([], A4, b4) [] [0, 1, 2] ?_ ⟨hF.symm, Nat.zero_le _, a4, oU⟩ ?_
 ·(refine aN ?_ ?_ (bG _ _ _) (by decide) (by decide) (by decide) (by decide); (repeat' (first | exact trivial | refine aG _ _ rfl rfl ?_ ?_)); all_goals (try simp only [pgs, pgl, pgx, pgf, pgw, ay, aJ, az, aK, aZ, bV, bD, pgn, simprocAttr]); all_goals (try (repeat' (first | apply aI))); all_goals (try (first | exact trivial | exact au (by omega) | exact aU rfl | exact ak rfl rfl | exact bg rfl)))
  all_goals first | exact di rfl | exact au (by omega) | exact aU rfl | skip
 ·rintro ⟨e, a, b⟩ ⟨i1, i2, i3, i4⟩
  simp only at i1 i2 i3 i4
  have hil := aP e
  clear z1 z2 z3 z4
  by_cases hgo : e.length < N ∧ b = false
  ·obtain ⟨hgo, rfl⟩ := hgo
   rw [agM (by omega)] at i1
   have w1 := fun e bx n' h hb hbn => zQT e bx n' h 1 B a false ho hl i3 hb hbn
   have r1 := agV (B := B) (a := a) (bad := false) ho i3
   have t1 := (ahg (B := B) (a := a) (bad := false) ho).1
   have w2 := fun e bx n' h hb hbn => zQN e bx n' h 1 B (tqA B a false) (tqB B a false) 1099511627776 ho hl r1 hb hbn
   have r2 := rY (B := B) (a := tqA B a false) (bad := tqB B a false) (m := 1099511627776) ho r1
   have m2 := Jj (B := B) (a := tqA B a false) (bad := tqB B a false) (m := 1099511627776) ho
   have w3 := fun e bx n' h hb hbn => zQN e bx n' h 1 B (qA B (tqA B a false) (tqB B a false) 1099511627776) (qB B (tqA B a false) (tqB B a false) 1099511627776) 1099511627776 ho hl r2 hb hbn
   have r3 := rY (B := B) (a := qA B (tqA B a false) (tqB B a false) 1099511627776) (bad := qB B (tqA B a false) (tqB B a false) 1099511627776) (m := 1099511627776) ho r2
   have m3 := Jj (B := B) (a := qA B (tqA B a false) (tqB B a false) 1099511627776) (bad := qB B (tqA B a false) (tqB B a false) 1099511627776) (m := 1099511627776) ho
   unfold ahn ahA ahW at i1
   generalize tqX B a false = x1 at *
   generalize tqA B a false = p1 at *
   generalize tqB B a false = c1 at *
   generalize qX B p1 c1 1099511627776 = x2 at *
   generalize qA B p1 c1 1099511627776 = p2 at *
   generalize qB B p1 c1 1099511627776 = c2 at *
   generalize qX B p2 c2 1099511627776 = x3 at *
   generalize qA B p2 c2 1099511627776 = p3 at *
   generalize qB B p2 c2 1099511627776 = c3 at *
   have hap := lW e x1 (x2 : Nat) (x3 : Nat)
   have q8 := DX i4 x1 (x2 : Nat) (x3 : Nat) t1
   obtain ⟨y, hy⟩ : ∃ y : En, y = (x1, ((x2 : Nat) : Int), ((x3 : Nat) : Int)) := ⟨_, rfl⟩
   rw [← hy] at hap q8 i1
   have hln : (e ++ [y]).length = e.length + 1 := by simp
   rw [show N - e.length - 1 = N - (e ++ [y]).length by rw [hln]; omega] at i1
   (repeat' (first | (simp (disch := first | exact dqz | fail) only [pgz, simprocAttr, jH, hil]) | ((with_reducible first | apply aQ | apply aB | apply bz) <;> intro hc <;> (try simp only [hc]) <;> (try simp only [pgd] at hc)) | (with_reducible refine cK ?_)))
   obtain ⟨B0, hB0⟩ : ∃ fB, fB = H5 [(0, (34, [vi 0, vi 0, .c (.slice none 0 0), vb false])), (1, (234, [fzb B, vi a, vb false])), (2, (34, [vi z, vi t, .sl (.own 0 149) 3 (ev e), vb f]))] := ⟨_, rfl⟩
   obtain ⟨B1, hB1⟩ : ∃ fB, fB = upd B0 1 (some (234, [fzb B, vi p1, vb c1])) := ⟨_, rfl⟩
   obtain ⟨B2, hB2⟩ : ∃ fB, fB = upd B1 1 (some (234, [fzb B, vi p2, vb c2])) := ⟨_, rfl⟩
   obtain ⟨B3, hB3⟩ : ∃ fB, fB = upd B2 1 (some (234, [fzb B, vi p3, vb c3])) := ⟨_, rfl⟩
   obtain ⟨BX, hBX⟩ : ∃ fB : (Nat → Bool) → Nat → Option (TypeId × List V), fB = fun S => if S 7 = true then B3 else if S 5 = true then B2 else if S 3 = true then B1 else B0 := ⟨_, rfl⟩
   obtain ⟨NI, hNI⟩ : ∃ fB : (Nat → Bool) → Nat, fB = fun S => if S 9 = true then 4 else 3 := ⟨_, rfl⟩
   have cc0 : B0 1 = some (234, [fzb B, vi a, vb false]) := by rw [hB0]; rfl
   have d0 : B0 2 = some (34, [vi z, vi t, .sl (.own 0 149) 3 (ev e), vb f]) := by rw [hB0]; rfl
   have cc1 : B1 1 = some (234, [fzb B, vi p1, vb c1]) := by rw [hB1]; exact Yb _ _ _
   have d1 : B1 2 = some (34, [vi z, vi t, .sl (.own 0 149) 3 (ev e), vb f]) := by rw [hB1, abT _ _ _ _ (by omega), d0]
   have cc2 : B2 1 = some (234, [fzb B, vi p2, vb c2]) := by rw [hB2]; exact Yb _ _ _
   have d2 : B2 2 = some (34, [vi z, vi t, .sl (.own 0 149) 3 (ev e), vb f]) := by rw [hB2, abT _ _ _ _ (by omega), d1]
   have cc3 : B3 1 = some (234, [fzb B, vi p3, vb c3]) := by rw [hB3]; exact Yb _ _ _
   have d3 : B3 2 = some (34, [vi z, vi t, .sl (.own 0 149) 3 (ev e), vb f]) := by rw [hB3, abT _ _ _ _ (by omega), d2]
   have hBi : ∀ S i, i ≠ 3 → i ≠ 5 → i ≠ 7 → BX S = BX (ins S i) := fun S i h3 h5 h7 => by rw [hBX]; simp only [rW (Ne.symm h3), rW (Ne.symm h5), rW (Ne.symm h7)]
   have hNi : ∀ S i, i ≠ 9 → NI S = NI (ins S i) := fun S i h7 => by rw [hNI]; simp only [rW (Ne.symm h7)]
   have hb2 : ∀ S, BX S 2 = some (34, [vi z, vi t, .sl (.own 0 149) 3 (ev e), vb f]) := fun S => by
    rw [hBX]
    show (if S 7 = true then B3 else if S 5 = true then B2 else if S 3 = true then B1 else B0) 2 = _
    (repeat' split) <;> assumption
   have hnl : ∀ S, 1 < NI S := fun S => by rw [hNI]; simp only; split <;> omega
   have hnd : ([33, 34, 35, 36, 37, 38, 39, 40, 41, 42] : List Nat).Nodup := by decide
   refine Rl mix 10 [(33, .ref 2 2), (34, .sl (.own 0 149) 3 (ev e)), (35, .ref 1 0), (36, vs x1), (37, .ref 1 0), (38, vi (x2 : Nat)), (39, .ref 1 0), (40, vi (x3 : Nat)), (41, .agg [vs x1, vi (x2 : Nat), vi (x3 : Nat)]), (42, .sl (.own 3 149) 3 [.agg [vs x1, vi (x2 : Nat), vi (x3 : Nat)]])] BX NI (by rw [hBX]; show B0 = _; exact hB0) (by rw [hNI]; rfl) (by decide) (by decide) (by decide) ?_ ?_
   ·intro S i o ho hi hS he hcl
    rcases (by omega : i = 0 ∨ i = 1 ∨ i = 2 ∨ i = 3 ∨ i = 4 ∨ i = 5 ∨ i = 6 ∨ i = 7 ∨ i = 8 ∨ i = 9) with rfl | rfl | rfl | rfl | rfl | rfl | rfl | rfl | rfl | rfl
    all_goals (simp only [List.getElem?_cons_zero, List.getElem?_cons_succ, Option.some.injEq] at ho; subst ho)
    ·(repeat' (first | (simp (disch := first | exact dqz | fail) only [pgz, simprocAttr, hS, fJ, nJ]) | ((with_reducible first | apply aQ | apply aB | apply bz) <;> intro hc <;> (try simp only [hc]) <;> (try simp only [pgd] at hc)) | (with_reducible refine cK ?_)))
     exact wE 0 rfl hnd (hBi S 0 (by decide) (by decide) (by decide)) (hNi S 0 (by decide))
    ·have s0 := he 0 (by decide)
     (repeat' (first | (simp (disch := first | exact dqz | fail) only [pgz, simprocAttr, hS, s0, fJ, nJ, hb2]) | ((with_reducible first | apply aQ | apply aB | apply bz) <;> intro hc <;> (try simp only [hc]) <;> (try simp only [pgd] at hc)) | (with_reducible refine cK ?_)))
     exact wE 1 rfl hnd (hBi S 1 (by decide) (by decide) (by decide)) (hNi S 1 (by decide))
    ·(repeat' (first | (simp (disch := first | exact dqz | fail) only [pgz, simprocAttr, hS, fJ, nJ]) | ((with_reducible first | apply aQ | apply aB | apply bz) <;> intro hc <;> (try simp only [hc]) <;> (try simp only [pgd] at hc)) | (with_reducible refine cK ?_)))
     exact wE 2 rfl hnd (hBi S 2 (by decide) (by decide) (by decide)) (hNi S 2 (by decide))
    ·have s2 := he 2 (by decide)
     have n5 : S 5 = false := by
      cases h5 : S 5 with
      | false => rfl
      | true => have := hcl 5 _ rfl h5 3 (by decide); rw [hS] at this; cases this
     have n7 : S 7 = false := by
      cases h5 : S 7 with
      | false => rfl
      | true => have := hcl 7 _ rfl h5 5 (by decide); rw [n5] at this; cases this
     have e0 : BX S = B0 := by rw [hBX]; simp only [hS, n5, n7]; rfl
     have e1 : BX (ins S 3) = B1 := by rw [hBX]; simp only [F5, rW (show 5 ≠ 3 by decide), n5, rW (show 7 ≠ 3 by decide), n7]; rfl
     (repeat' (first | (simp (disch := first | exact dqz | fail) only [pgz, simprocAttr, hS, s2, e0, fJ, nJ]) | ((with_reducible first | apply aQ | apply aB | apply bz) <;> intro hc <;> (try simp only [hc]) <;> (try simp only [pgd] at hc)) | (with_reducible refine cK ?_)))
     refine cZ (w1 _ _ _ _ cc0 (hnl S)) ?_ (by simp only [List.map_cons, List.map_nil, pgo, simprocAttr, s2, fJ])
     exact wE 3 (T := [(33, .ref 2 2), (34, .sl (.own 0 149) 3 (ev e)), (35, .ref 1 0), (36, vs x1), (37, .ref 1 0), (38, vi (x2 : Nat)), (39, .ref 1 0), (40, vi (x3 : Nat)), (41, .agg [vs x1, vi (x2 : Nat), vi (x3 : Nat)]), (42, .sl (.own 3 149) 3 [.agg [vs x1, vi (x2 : Nat), vi (x3 : Nat)]])]) rfl hnd (by rw [e1, hB1]) (hNi S 3 (by decide))
    ·(repeat' (first | (simp (disch := first | exact dqz | fail) only [pgz, simprocAttr, hS, fJ, nJ]) | ((with_reducible first | apply aQ | apply aB | apply bz) <;> intro hc <;> (try simp only [hc]) <;> (try simp only [pgd] at hc)) | (with_reducible refine cK ?_)))
     exact wE 4 rfl hnd (hBi S 4 (by decide) (by decide) (by decide)) (hNi S 4 (by decide))
    ·have s4 := he 4 (by decide)
     have p2 := he 3 (by decide)
     have n7 : S 7 = false := by
      cases h5 : S 7 with
      | false => rfl
      | true => have := hcl 7 _ rfl h5 5 (by decide); rw [hS] at this; cases this
     have e0 : BX S = B1 := by rw [hBX]; simp only [hS, n7, p2]; rfl
     have e1 : BX (ins S 5) = B2 := by rw [hBX]; simp only [F5, rW (show 7 ≠ 5 by decide), n7]; rfl
     (repeat' (first | (simp (disch := first | exact dqz | fail) only [pgz, simprocAttr, hS, s4, e0, fJ, nJ]) | ((with_reducible first | apply aQ | apply aB | apply bz) <;> intro hc <;> (try simp only [hc]) <;> (try simp only [pgd] at hc)) | (with_reducible refine cK ?_)))
     refine cZ (w2 _ _ _ _ cc1 (hnl S)) ?_ (by simp only [List.map_cons, List.map_nil, pgo, simprocAttr, s4, fJ])
     exact wE 5 (T := [(33, .ref 2 2), (34, .sl (.own 0 149) 3 (ev e)), (35, .ref 1 0), (36, vs x1), (37, .ref 1 0), (38, vi (x2 : Nat)), (39, .ref 1 0), (40, vi (x3 : Nat)), (41, .agg [vs x1, vi (x2 : Nat), vi (x3 : Nat)]), (42, .sl (.own 3 149) 3 [.agg [vs x1, vi (x2 : Nat), vi (x3 : Nat)]])]) rfl hnd (by rw [e1, hB2]) (hNi S 5 (by decide))
    ·(repeat' (first | (simp (disch := first | exact dqz | fail) only [pgz, simprocAttr, hS, fJ, nJ]) | ((with_reducible first | apply aQ | apply aB | apply bz) <;> intro hc <;> (try simp only [hc]) <;> (try simp only [pgd] at hc)) | (with_reducible refine cK ?_)))
     exact wE 6 rfl hnd (hBi S 6 (by decide) (by decide) (by decide)) (hNi S 6 (by decide))
    ·have s6 := he 6 (by decide)
     have p3 := he 5 (by decide)
     have e0 : BX S = B2 := by rw [hBX]; simp only [hS, p3]; rfl
     have e1 : BX (ins S 7) = B3 := by rw [hBX]; simp only [F5]; rfl
     (repeat' (first | (simp (disch := first | exact dqz | fail) only [pgz, simprocAttr, hS, s6, e0, fJ, nJ]) | ((with_reducible first | apply aQ | apply aB | apply bz) <;> intro hc <;> (try simp only [hc]) <;> (try simp only [pgd] at hc)) | (with_reducible refine cK ?_)))
     refine cZ (w3 _ _ _ _ cc2 (hnl S)) ?_ (by simp only [List.map_cons, List.map_nil, pgo, simprocAttr, s6, fJ])
     exact wE 7 (T := [(33, .ref 2 2), (34, .sl (.own 0 149) 3 (ev e)), (35, .ref 1 0), (36, vs x1), (37, .ref 1 0), (38, vi (x2 : Nat)), (39, .ref 1 0), (40, vi (x3 : Nat)), (41, .agg [vs x1, vi (x2 : Nat), vi (x3 : Nat)]), (42, .sl (.own 3 149) 3 [.agg [vs x1, vi (x2 : Nat), vi (x3 : Nat)]])]) rfl hnd (by rw [e1, hB3]) (hNi S 7 (by decide))
    ·have s3 := he 3 (by decide)
     have s5 := he 5 (by decide)
     have s7 := he 7 (by decide)
     (repeat' (first | (simp (disch := first | exact dqz | fail) only [pgz, simprocAttr, hS, s3, s5, s7, fJ, nJ]) | ((with_reducible first | apply aQ | apply aB | apply bz) <;> intro hc <;> (try simp only [hc]) <;> (try simp only [pgd] at hc)) | (with_reducible refine cK ?_)))
     exact wE 8 rfl hnd (hBi S 8 (by decide) (by decide) (by decide)) (hNi S 8 (by decide))
    ·have s8 := he 8 (by decide)
     have e0 : NI S = 3 := by rw [hNI]; simp only [hS]; rfl
     have e1 : NI (ins S 9) = 4 := by rw [hNI]; simp only [F5]; rfl
     (repeat' (first | (simp (disch := first | exact dqz | fail) only [pgz, simprocAttr, hS, s8, e0, fJ, nJ]) | ((with_reducible first | apply aQ | apply aB | apply bz) <;> intro hc <;> (try simp only [hc]) <;> (try simp only [pgd] at hc)) | (with_reducible refine cK ?_)))
     exact wE 9 rfl hnd (hBi S 9 (by decide) (by decide) (by decide)) e1.symm
   ·intro S hall
    have s1 := hall 1 (by decide) (by decide)
    have s4 := hall 9 (by decide) (by decide)
    have e0 : BX S = B3 := by rw [hBX]; simp only [hall 7 (by decide) (by decide)]; rfl
    have e1 : NI S = 4 := by rw [hNI]; simp only [s4]; rfl
    have hB2n := hb2 S
    rw [e0] at hB2n
    rw [e0, e1, hB3, hB2, hB1, hB0]
    simp only [List.drop_succ_cons, List.drop_zero, List.map_cons, List.map_nil]
    (repeat' (first | (simp (disch := first | exact dqz | fail) only [pgz, simprocAttr, jH, hil, hap, s1, s4, fJ, nJ, hB2n]) | ((with_reducible first | apply aQ | apply aB | apply bz) <;> intro hc <;> (try simp only [hc]) <;> (try simp only [pgd] at hc)) | (with_reducible refine cK ?_)))
    refine bu (e ++ [y], p3, c3) [0] [0, 1, 2] ⟨i1, by show (e ++ [y]).length ≤ N; omega, by show p3 ≤ B.length; omega, q8⟩ (by show N - (e ++ [y]).length < N - e.length; omega) ?_
    (refine aN ?_ ?_ (bG _ _ _) (by decide) (by decide) (by decide) (by decide); (repeat' (first | exact trivial | refine aG _ _ rfl rfl ?_ ?_)); all_goals (try simp only [pgs, pgl, pgx, pgf, pgw, ay, aJ, az, aK, aZ, bV, bD, pgn, simprocAttr]); all_goals (try (repeat' (first | apply aI))); all_goals (try (first | exact trivial | exact au (by omega) | exact aU rfl | exact ak rfl rfl | exact bg rfl)))
    all_goals (try simp only [fJ, nJ, pgo, simprocAttr, bV, bD, aZ])
    all_goals first | done | exact ak rfl rfl | exact au (by rw [hln]; omega) | exact au (by omega) | exact aU rfl | skip
  ·have hend : N - e.length = 0 ∨ b = true := by
    rcases Nat.lt_or_ge e.length N with h | h
    ·cases b with
     | false => exact absurd ⟨h, rfl⟩ hgo
     | true => exact .inr rfl
    ·exact .inl (by omega)
   rw [ahB hend] at i1
   subst i1
   have w2 := fun e bx n' h hb => zQD e bx n' h 1 B a b hb
   have hv := ni ⟨z, t, e, f⟩ i4 (by show e.length ≤ _; omega)
   have hfd : aip B z t f (e, a, b) = if qD B a b = true ∧ vTp ⟨z, t, e, f⟩ = 0 then some ⟨z, t, e, f⟩ else none := rfl
   clear hf hf1
   generalize qD B a b = D at *
   rcases (by
    rcases Nat.lt_or_ge e.length N with h | h
    ·rcases hend with h1 | h1
     ·omega
     ·exact .inr ⟨h, h1⟩
    ·exact .inl h : N ≤ e.length ∨ (e.length < N ∧ b = true)) with hc | ⟨hc, rfl⟩
   all_goals
    cases D
    ·rw [kD (hfd.trans (if_neg fun h => nomatch h.1))]
     (repeat' (first | (simp (disch := first | exact dqz | fail) only [pgz, simprocAttr, jH, hil]) | ((with_reducible show cu _ _ _ _ _ _); first | refine eu _ (w2 _ _ _ _ rfl) rfl ?_) | ((with_reducible first | apply aQ | apply aB | apply bz) <;> intro hc <;> (try simp only [hc]) <;> (try simp only [pgd] at hc)) | (with_reducible refine cK ?_)))
     all_goals exact rE []
    ·by_cases h0 : vTp ⟨z, t, e, f⟩ = 0
     ·rw [Jh (hfd.trans (if_pos ⟨rfl, h0⟩))]
      rw [h0] at hv
      (repeat' (first | (simp (disch := first | exact dqz | fail) only [pgz, simprocAttr, jH, hil]) | ((with_reducible show cu _ _ _ _ _ _); first | refine eu _ (w2 _ _ _ _ rfl) rfl ?_ | refine cU hv ?_) | ((with_reducible first | apply aQ | apply aB | apply bz) <;> intro hc <;> (try simp only [hc]) <;> (try simp only [pgd] at hc)) | (with_reducible refine cK ?_)))
      all_goals exact rE [0]
     ·rw [kD (hfd.trans (if_neg fun h => h0 h.2))]
      generalize vTp ⟨z, t, e, f⟩ = v at *
      (repeat' (first | (simp (disch := first | exact dqz | fail) only [pgz, simprocAttr, jH, hil]) | ((with_reducible show cu _ _ _ _ _ _); first | refine eu _ (w2 _ _ _ _ rfl) rfl ?_ | refine cU hv ?_) | ((with_reducible first | apply aQ | apply aB | apply bz) <;> intro hc <;> (try simp only [hc]) <;> (try simp only [pgd] at hc)) | (with_reducible refine cK ?_)))
      all_goals exact rE []
theorem ahX {B : List Nat} (ho : oct B) : ∀ (k : Nat) (e : List En) (a : Nat) (b : Bool), (RV B k e a b).2.2 = false → b = false ∧ ∃ xs : List En, xs.length = k ∧ (RV B k e a b).1 = e ++ xs ∧ B.drop a = xs.flatMap iW ++ B.drop (RV B k e a b).2.1 := by
 intro k
 induction k with
 | zero => intro e a b h; exact ⟨h, [], rfl, (List.append_nil _).symm, rfl⟩
 | succ k ih =>
  intro e a b h
  cases b with
  | true => cases h
  | false =>
   rw [agM (by omega), Nat.add_sub_cancel] at h ⊢
   obtain ⟨h1, xs, h2, h3, h4⟩ := ih _ _ _ h
   have h5 : B.drop a = iW (ahn B a false) ++ B.drop (ahA B a false) := by
    unfold ahW at h1
    unfold ahn ahA iW
    simp only [Int.toNat_natCast, List.append_assoc]
    obtain ⟨g3, e3⟩ := MG ho h1
    obtain ⟨g2, e2⟩ := MG ho g3
    obtain ⟨_, e1⟩ := ah9 ho g2
    exact e1.trans (by rw [← e3, ← e2])
   refine ⟨rfl, ahn B a false :: xs, by simp [h2], by rw [h3]; simp, ?_⟩
   rw [List.flatMap_cons, List.append_assoc, ← h4]
   exact h5
theorem ahC {B : List Nat} (ho : oct B) : ∀ (l acc : List En) (a : Nat) (r : List Nat), B.drop a = l.flatMap iW ++ r → a ≤ B.length → (∀ y ∈ l, y.1.length ≤ 65536 ∧ (0 ≤ y.2.1 ∧ y.2.1 ≤ 1099511627776) ∧ (0 ≤ y.2.2 ∧ y.2.2 ≤ 1099511627776)) → ∃ a', RV B l.length acc a false = (acc ++ l, a', false) ∧ B.drop a' = r ∧ a' ≤ B.length := by
 intro l
 induction l with
 | nil => intro acc a r h ha _; exact ⟨a, by simp [RV], h, ha⟩
 | cons y l ih =>
  intro acc a r h ha hx
  obtain ⟨key, c, er⟩ := y
  obtain ⟨h1, h2, h3⟩ := hx _ (by simp : (key, c, er) ∈ (key, c, er) :: l)
  simp only at h1 h2 h3
  have e : B.drop a = bT key ++ (ae c.toNat ++ (ae er.toNat ++ (l.flatMap iW ++ r))) := by rw [h]; simp [iW, List.append_assoc]
  obtain ⟨x1, y1, f1⟩ := ahv h1 e
  obtain ⟨x2, y2, f2⟩ := MC (m := 1099511627776) y1 (by omega) (by omega)
  obtain ⟨x3, y3, f3⟩ := MC (m := 1099511627776) y2 (by omega) (by omega)
  have l1 := agV (bad := false) ho ha
  have l2 := rY (bad := false) (m := 1099511627776) ho l1
  have l3 := rY (bad := false) (m := 1099511627776) ho l2
  have g1 : ahn B a false = (key, c, er) := by unfold ahn; rw [x1, f1, x2, f2, x3, fF h2.1, fF h3.1]
  have g2 : ahA B a false = qA B (qA B (tqA B a false) false 1099511627776) false 1099511627776 := by unfold ahA; rw [f1, f2]
  have g3 : ahW B a false = false := by unfold ahW; rw [f1, f2, f3]
  obtain ⟨a', j1, j2, j3⟩ := ih (acc ++ [(key, c, er)]) _ r y3 l3 (fun y hy => hx y (by simp [hy]))
  refine ⟨a', ?_, j2, j3⟩
  rw [List.length_cons, agM (by omega), Nat.add_sub_cancel, g1, g2, g3, j1]
  simp [List.append_assoc]
theorem aho {B : List Nat} {x : Tp} (ho : oct B) (h : agZ B = some x) : vTp x = 0 ∧ jc x = B := by
 simp only [agZ, xU] at h
 unfold aip at h
 split at h
 ·rename_i hc
  obtain ⟨h1, h2⟩ := hc
  simp only [Option.some.injEq] at h
  subst h
  refine ⟨h2, ?_⟩
  obtain ⟨d1, d2⟩ := ahP h1
  obtain ⟨q9, xs, hx1, hx2, p9⟩ := ahX ho _ _ _ _ d1
  obtain ⟨q4, p4⟩ := MG ho q9
  obtain ⟨q3, p3⟩ := MG ho q4
  obtain ⟨q2, p2⟩ := MG ho q3
  obtain ⟨q1, p1⟩ := MG ho q2
  rw [d2, List.drop_length] at p9
  rw [p2, p3, p4, p9, List.drop_zero] at p1
  unfold jc
  simp only
  rw [agS (rZ (by decide)), hx2]
  simp only [Int.toNat_natCast, List.nil_append, hx1]
  exact (p1.trans (by simp only [List.append_assoc, List.append_nil])).symm
 ·cases h
theorem ahY (B : List Nat) (ho : oct B) : agZ B = wH B := by
 refine agQ (fun x h => ?_) (fun x h => ?_)
 ·obtain ⟨h1, h2⟩ := aho ho h
  rw [← h2]; exact RN x h1
 ·obtain ⟨h1, h2⟩ := L8 h
  obtain ⟨i1, i2, i3, i4⟩ := uC h1
  obtain ⟨z, t, e, f⟩ := x
  simp only at i1 i2 i3 i4
  have hen := fun i (hi : i < e.length) => pK (i4 i hi)
  have e0 : B.drop 0 = ae z.toNat ++ (ae t.toNat ++ (ae (if f = true then 1 else 0 : Nat) ++ (ae e.length ++ (e.flatMap iW ++ [])))) := by
   rw [← h2]; unfold jc; rw [wL]; simp only [List.append_assoc, List.append_nil, List.drop_zero]
  obtain ⟨x1, y1, f1⟩ := MC (m := 32) e0 (by omega) (by omega)
  obtain ⟨x2, y2, f2⟩ := MC (m := 1099511627776) y1 (by omega) (by omega)
  obtain ⟨x3, y3, f3⟩ := MC (m := 1) y2 (BZ f) (by cases f <;> decide)
  obtain ⟨x4, y4, f4⟩ := MC (m := 32) y3 (by omega) (by omega)
  obtain ⟨a9, x9, y9, l9⟩ := ahC ho e [] _ _ y4 (rY (bad := false) (m := 32) ho (rY (bad := false) (m := 1) ho (rY (bad := false) (m := 1099511627776) ho (rY (bad := false) (m := 32) ho (Nat.zero_le B.length))))) (fun y hy => by
   obtain ⟨i, hi, rfl⟩ := gG eD hy
   obtain ⟨k1, k2, k3⟩ := hen i hi
   rw [jr] at k1
   exact ⟨by omega, ⟨by omega, by omega⟩, ⟨by omega, by omega⟩⟩)
  simp only [agZ, xU]
  rw [f1, f2, f3, x1, x2, x3, x4, f4, x9, wK]
  unfold aip
  simp only [List.nil_append]
  rw [fF (by omega), fF (by omega)]
  exact if_pos ⟨ahQ y9 l9, h1⟩
end Go.Proofs.YtaoejnjkmfkbeaaGreat
