/-
  Texts of this claim, merged; own names are short.
-/
import Derived.Test.YtaoejnjkmfkbeaaGreatWBJ
import Derived.Test.YtaoejnjkmfkbeaaGreatWBD
set_option linter.unusedVariables false
set_option linter.unusedSimpArgs false
set_option linter.unusedSectionVars false
set_option linter.defProp false
set_option maxRecDepth 100000
set_option maxHeartbeats 8000000
namespace Go.Proofs.YtaoejnjkmfkbeaaGreat
open Go Go.Pg
def RS (B : List Nat) : Nat → List Int → Nat → Bool → List Int × Nat × Bool
 | 0, c, a, b => (c, a, b)
 | k + 1, c, a, b => if b = true then (c, a, b) else RS B k (c ++ [((qX B a b 4294967295 : Nat) : Int)]) (qA B a b 4294967295) (qB B a b 4294967295)
theorem ahw {B : List Nat} {k : Nat} {c : List Int} {a : Nat} {b : Bool} (h : k = 0 ∨ b = true) : RS B k c a b = (c, a, b) := by
 cases k with
 | zero => rfl
 | succ k => exact if_pos (by rcases h with h | h; omega; exact h)
theorem agK {B : List Nat} {k : Nat} {c : List Int} {a : Nat} (h : k ≠ 0) : RS B k c a false = RS B (k - 1) (c ++ [((qX B a false 4294967295 : Nat) : Int)]) (qA B a false 4294967295) (qB B a false 4294967295) := by
 cases k with
 | zero => exact absurd rfl h
 | succ k => exact if_neg Bool.false_ne_true
def aic (B : List Nat) (x : Cm) (a : Nat) (b : Bool) : Option Cm := if qD B a b = true ∧ vCm x = 0 then some x else none
def ain (B : List Nat) (d z s : Nat) (q : List Int × Nat × Bool) : Option Cm := xU B q.2.1 q.2.2 1 fun f a b => aic B ⟨d, z, s, q.1, decide ((f : Int) = 1)⟩ a b
def agX (B : List Nat) : Option Cm := xU B 0 false 8 fun d a b => xU B a b 64 fun z a b => agJ B a b fun s a b => ain B d z s (RS B (d * z) [] a b)
abbrev cmO (x : Cm) : List V := [vi x.d, vi x.z, vu x.s, .sl (.own 0 3) 1 (iv x.c), vb x.b]
theorem aid (B : List Nat) (ho : oct B) (hl : B.length ≤ 2147483648) : Pg.Good Tryz.prog 186 [fzb B] (oV cmF Cm.o (agX B)) := by
 refine wC (F' := cmO) (zs := [vi 0, vi 0, vu 0, .c (.slice none 0 0), vb false]) ?_ (fun _ => rfl) (fun _ => ⟨aj _, aj _, trivial⟩) rfl ⟨.inr ⟨_, _, rfl, rfl, ⟨.inl rfl, .inl rfl, .inl rfl, jM _ _, .inl rfl, trivial⟩⟩, aj _, trivial⟩
 simp only [agX, xU, agJ]
 have z1 := fun e bx n' h hb hbn => zQN e bx n' h 1 B 0 false 8 ho hl (Nat.zero_le _) hb hbn
 have a1 := rY (B := B) (a := 0) (bad := false) (m := 8) ho (Nat.zero_le _)
 have m1 := Jj (B := B) (a := 0) (bad := false) (m := 8) ho
 have k1 := rZ (B := B) (a := 0) (bad := false) (m := 8) (by decide)
 generalize qX B 0 false 8 = d at *
 generalize qA B 0 false 8 = A1 at *
 generalize qB B 0 false 8 = b1 at *
 have z2 := fun e bx n' h hb hbn => zQN e bx n' h 1 B A1 b1 64 ho hl a1 hb hbn
 have a2 := rY (B := B) (a := A1) (bad := b1) (m := 64) ho a1
 have m2 := Jj (B := B) (a := A1) (bad := b1) (m := 64) ho
 have k2 := rZ (B := B) (a := A1) (bad := b1) (m := 64) (by decide)
 generalize qX B A1 b1 64 = z at *
 generalize qA B A1 b1 64 = A2 at *
 generalize qB B A1 b1 64 = b2 at *
 have z3 := fun e bx n' h hb hbn => zQW e bx n' h 1 B A2 b2 ho hl a2 hb hbn
 have a3 := ahf (B := B) (a := A2) (bad := b2) ho a2
 have m3 := ag5 (B := B) (a := A2) (bad := b2) ho
 generalize wqX B A2 b2 = s at *
 generalize wqA B A2 b2 = A3 at *
 generalize wqB B A2 b2 = b3 at *
 obtain ⟨F, hF⟩ : ∃ F, F = RS B (d * z) [] A3 b3 := ⟨_, rfl⟩
 rw [← hF]
 obtain ⟨M, hM⟩ : ∃ M, M = d * z := ⟨_, rfl⟩
 have hM5 : M ≤ 512 := by rw [hM]; exact Nat.le_trans (Nat.mul_le_mul (show d ≤ 8 by omega) (show z ≤ 64 by omega)) (by decide)
 have hdz : (d : Int) * (z : Int) = (M : Nat) := by rw [hM]; simp
 rw [← hM] at hF
 refine gI (BO mix) Tryz.func186 Tryz.results186 ?_
 (repeat' (first | (simp (disch := first | exact dqz | fail) only [pgz, simprocAttr, jH]) | ((with_reducible show cu _ _ _ _ _ _); first | refine eu _ (z1 _ _ _ _ rfl (by omega)) rfl ?_ | refine eu _ (z2 _ _ _ _ rfl (by omega)) rfl ?_ | refine eu _ (z3 _ _ _ _ rfl (by omega)) rfl ?_) | ((with_reducible first | apply aQ | apply aB | apply bz) <;> intro hc <;> (try simp only [hc]) <;> (try simp only [pgd] at hc)) | (with_reducible refine cK ?_)))
 refine bn (fun x : List Int × Nat × Bool => mkA [(2, .ref 0 0), (4, .ref 1 0), (5, .ref 2 0), (6, vi x.1.length)] [(0, (29, [vi 0, vi 0, vu 0, .c (.slice none 0 0), vb false])), (1, (234, [fzb B, vi x.2.1, vb x.2.2])), (2, (29, [vi d, vi z, vu s, .sl (.own 0 3) 1 (iv x.1), vb false]))] 3 (fun _ => .top))
  (fun x => RS B (M - x.1.length) x.1 x.2.1 x.2.2 = F ∧ x.1.length ≤ M ∧ x.2.1 ≤ B.length) (fun x => M - x.1.length) ([], A3, b3) [] [0, 1, 2] ?_ ⟨hF.symm, Nat.zero_le _, a3⟩ ?_
 ·(refine aN ?_ ?_ (bG _ _ _) (by decide) (by decide) (by decide) (by decide); (repeat' (first | exact trivial | refine aG _ _ rfl rfl ?_ ?_)); all_goals (try simp only [pgs, pgl, pgx, pgf, pgw, ay, aJ, az, aK, aZ, bV, bD, pgn, simprocAttr]); all_goals (try (repeat' (first | apply aI))); all_goals (try (first | exact trivial | exact au (by omega) | exact aU rfl | exact ak rfl rfl | exact bg rfl)))
  all_goals first | exact di rfl | exact au (by omega) | exact aU rfl | skip
 ·rintro ⟨c, a, b⟩ ⟨i1, i2, i3⟩
  simp only at i1 i2 i3
  have hil := bC c
  clear z1 z2 z3
  by_cases hgo : c.length < M ∧ b = false
  ·obtain ⟨hgo, rfl⟩ := hgo
   rw [agK (by omega)] at i1
   have w1 := fun e bx n' h hb hbn => zQN e bx n' h 1 B a false 4294967295 ho hl i3 hb hbn
   have q2 := rY (B := B) (a := a) (bad := false) (m := 4294967295) ho i3
   have q3 := Jj (B := B) (a := a) (bad := false) (m := 4294967295) ho
   generalize qX B a false 4294967295 = x at *
   generalize qA B a false 4294967295 = a' at *
   generalize qB B a false 4294967295 = b' at *
   have hln : (c ++ [(x : Int)]).length = c.length + 1 := by simp
   rw [show M - c.length - 1 = M - (c ++ [(x : Int)]).length by rw [hln]; omega] at i1
   have hap := XO c (x : Int)
   (repeat' (first | (simp (disch := first | exact dqz | fail) only [pgz, simprocAttr, jH, hil, hdz]) | ((with_reducible first | apply aQ | apply aB | apply bz) <;> intro hc <;> (try simp only [hc]) <;> (try simp only [pgd] at hc)) | (with_reducible refine cK ?_)))
   obtain ⟨B0, hB0⟩ : ∃ f, f = H5 [(0, (29, [vi 0, vi 0, vu 0, .c (.slice none 0 0), vb false])), (1, (234, [fzb B, vi a, vb false])), (2, (29, [vi d, vi z, vu s, .sl (.own 0 3) 1 (iv c), vb false]))] := ⟨_, rfl⟩
   obtain ⟨B1, hB1⟩ : ∃ f, f = upd B0 1 (some (234, [fzb B, vi a', vb b'])) := ⟨_, rfl⟩
   obtain ⟨BX, hBX⟩ : ∃ f : (Nat → Bool) → Nat → Option (TypeId × List V), f = fun S => if S 3 = true then B1 else B0 := ⟨_, rfl⟩
   obtain ⟨NI, hNI⟩ : ∃ f : (Nat → Bool) → Nat, f = fun S => if S 4 = true then 4 else 3 := ⟨_, rfl⟩
   have c0 : B0 1 = some (234, [fzb B, vi a, vb false]) := by rw [hB0]; rfl
   have d0 : B0 2 = some (29, [vi d, vi z, vu s, .sl (.own 0 3) 1 (iv c), vb false]) := by rw [hB0]; rfl
   have c1 : B1 1 = some (234, [fzb B, vi a', vb b']) := by rw [hB1]; exact Yb _ _ _
   have d1 : B1 2 = some (29, [vi d, vi z, vu s, .sl (.own 0 3) 1 (iv c), vb false]) := by rw [hB1, abT _ _ _ _ (by omega), d0]
   have hBi : ∀ S i, i ≠ 3 → BX S = BX (ins S i) := fun S i h3 => by rw [hBX]; simp only [rW (Ne.symm h3)]
   have hNi : ∀ S i, i ≠ 4 → NI S = NI (ins S i) := fun S i h7 => by rw [hNI]; simp only [rW (Ne.symm h7)]
   have hb2 : ∀ S, BX S 2 = some (29, [vi d, vi z, vu s, .sl (.own 0 3) 1 (iv c), vb false]) := fun S => by
    rw [hBX]
    show (if S 3 = true then B1 else B0) 2 = _
    (repeat' split) <;> assumption
   have hnl : ∀ S, 1 < NI S := fun S => by rw [hNI]; simp only; split <;> omega
   have hnd : ([33, 34, 35, 36, 37] : List Nat).Nodup := by decide
   refine Rl mix 5 [(33, .ref 2 3), (34, .sl (.own 0 3) 1 (iv c)), (35, .ref 1 0), (36, vi (x : Nat)), (37, .sl (.own 3 3) 1 [vi (x : Nat)])] BX NI (by rw [hBX]; show B0 = _; exact hB0) (by rw [hNI]; rfl) (by decide) (by decide) (by decide) ?_ ?_
   ·intro S i o ho hi hS he hcl
    rcases (by omega : i = 0 ∨ i = 1 ∨ i = 2 ∨ i = 3 ∨ i = 4) with rfl | rfl | rfl | rfl | rfl
    all_goals (simp only [List.getElem?_cons_zero, List.getElem?_cons_succ, Option.some.injEq] at ho; subst ho)
    ·(repeat' (first | (simp (disch := first | exact dqz | fail) only [pgz, simprocAttr, hS, fJ, nJ]) | ((with_reducible first | apply aQ | apply aB | apply bz) <;> intro hc <;> (try simp only [hc]) <;> (try simp only [pgd] at hc)) | (with_reducible refine cK ?_)))
     exact wE 0 rfl hnd (hBi S 0 (by decide)) (hNi S 0 (by decide))
    ·have s0 := he 0 (by decide)
     (repeat' (first | (simp (disch := first | exact dqz | fail) only [pgz, simprocAttr, hS, s0, fJ, nJ, hb2]) | ((with_reducible first | apply aQ | apply aB | apply bz) <;> intro hc <;> (try simp only [hc]) <;> (try simp only [pgd] at hc)) | (with_reducible refine cK ?_)))
     exact wE 1 rfl hnd (hBi S 1 (by decide)) (hNi S 1 (by decide))
    ·(repeat' (first | (simp (disch := first | exact dqz | fail) only [pgz, simprocAttr, hS, fJ, nJ]) | ((with_reducible first | apply aQ | apply aB | apply bz) <;> intro hc <;> (try simp only [hc]) <;> (try simp only [pgd] at hc)) | (with_reducible refine cK ?_)))
     exact wE 2 rfl hnd (hBi S 2 (by decide)) (hNi S 2 (by decide))
    ·have s2 := he 2 (by decide)
     have e0 : BX S = B0 := by rw [hBX]; simp only [hS]; rfl
     have e1 : BX (ins S 3) = B1 := by rw [hBX]; simp only [F5]; rfl
     (repeat' (first | (simp (disch := first | exact dqz | fail) only [pgz, simprocAttr, hS, s2, e0, fJ, nJ]) | ((with_reducible first | apply aQ | apply aB | apply bz) <;> intro hc <;> (try simp only [hc]) <;> (try simp only [pgd] at hc)) | (with_reducible refine cK ?_)))
     refine cZ (w1 _ _ _ _ c0 (hnl S)) ?_ (by simp only [List.map_cons, List.map_nil, pgo, simprocAttr, s2, fJ])
     exact wE 3 (T := [(33, .ref 2 3), (34, .sl (.own 0 3) 1 (iv c)), (35, .ref 1 0), (36, vi (x : Nat)), (37, .sl (.own 3 3) 1 [vi (x : Nat)])]) rfl hnd (by rw [e1, hB1]) (hNi S 3 (by decide))
    ·have s3 := he 3 (by decide)
     have e0 : NI S = 3 := by rw [hNI]; simp only [hS]; rfl
     have e1 : NI (ins S 4) = 4 := by rw [hNI]; simp only [F5]; rfl
     (repeat' (first | (simp (disch := first | exact dqz | fail) only [pgz, simprocAttr, hS, s3, e0, fJ, nJ]) | ((with_reducible first | apply aQ | apply aB | apply bz) <;> intro hc <;> (try simp only [hc]) <;> (try simp only [pgd] at hc)) | (with_reducible refine cK ?_)))
     exact wE 4 rfl hnd (hBi S 4 (by decide)) e1.symm
   ·intro S hall
    have s1 := hall 1 (by decide) (by decide)
    have s4 := hall 4 (by decide) (by decide)
    have e0 : BX S = B1 := by rw [hBX]; simp only [hall 3 (by decide) (by decide)]; rfl
    have e1 : NI S = 4 := by rw [hNI]; simp only [s4]; rfl
    have hB2n := hb2 S
    rw [e0] at hB2n
    rw [e0, e1, hB1, hB0]
    simp only [List.drop_succ_cons, List.drop_zero, List.map_cons, List.map_nil]
    (repeat' (first | (simp (disch := first | exact dqz | fail) only [pgz, simprocAttr, jH, hil, hap, s1, s4, fJ, nJ, hB2n]) | ((with_reducible first | apply aQ | apply aB | apply bz) <;> intro hc <;> (try simp only [hc]) <;> (try simp only [pgd] at hc)) | (with_reducible refine cK ?_)))
    refine bu (c ++ [(x : Int)], a', b') [0] [0, 1, 2] ⟨i1, by show (c ++ [(x : Int)]).length ≤ M; omega, q2⟩ (by show M - (c ++ [(x : Int)]).length < M - c.length; omega) ?_
    (refine aN ?_ ?_ (bG _ _ _) (by decide) (by decide) (by decide) (by decide); (repeat' (first | exact trivial | refine aG _ _ rfl rfl ?_ ?_)); all_goals (try simp only [pgs, pgl, pgx, pgf, pgw, ay, aJ, az, aK, aZ, bV, bD, pgn, simprocAttr]); all_goals (try (repeat' (first | apply aI))); all_goals (try (first | exact trivial | exact au (by omega) | exact aU rfl | exact ak rfl rfl | exact bg rfl)))
    all_goals (try simp only [fJ, nJ, pgo, simprocAttr, bV, bD, aZ])
    all_goals first | done | exact ak rfl rfl | exact au (by rw [hln]; omega) | exact au (by omega) | exact aU rfl | skip
  ·have hend : M - c.length = 0 ∨ b = true := by
    rcases Nat.lt_or_ge c.length M with h | h
    ·cases b with
     | false => exact absurd ⟨h, rfl⟩ hgo
     | true => exact .inr rfl
    ·exact .inl (by omega)
   rw [ahw hend] at i1
   subst i1
   have hfC : ain B d z s (c, a, b) = aic B ⟨d, z, s, c, decide ((qX B a b 1 : Int) = 1)⟩ (qA B a b 1) (qB B a b 1) := rfl
   rw [hfC]
   have w1 := fun e bx n' h hb hbn => zQN e bx n' h 1 B a b 1 ho hl i3 hb hbn
   generalize qX B a b 1 = x at *
   generalize qA B a b 1 = a' at *
   generalize qB B a b 1 = b' at *
   have w2 := fun e bx n' h hb => zQD e bx n' h 1 B a' b' hb
   have hf2 : ((x : Int) == 1) = decide ((x : Int) = 1) := rfl
   generalize decide ((x : Int) = 1) = f at *
   have hv := jA ⟨d, z, s, c, f⟩
   have hf : aic B ⟨d, z, s, c, f⟩ a' b' = if qD B a' b' = true ∧ vCm ⟨d, z, s, c, f⟩ = 0 then some ⟨d, z, s, c, f⟩ else none := rfl
   generalize qD B a' b' = D at *
   rcases (by
    rcases Nat.lt_or_ge c.length M with h | h
    ·rcases hend with h1 | h1
     ·omega
     ·exact .inr ⟨h, h1⟩
    ·exact .inl h : M ≤ c.length ∨ (c.length < M ∧ b = true)) with hc | ⟨hc, rfl⟩
   all_goals
    cases D
    ·rw [kD (hf.trans (if_neg fun h => nomatch h.1))]
     (repeat' (first | (simp (disch := first | exact dqz | fail) only [pgz, simprocAttr, jH, hil, hdz, hf2]) | ((with_reducible show cu _ _ _ _ _ _); first | refine eu _ (w1 _ _ _ _ rfl (by omega)) rfl ?_ | refine eu _ (w2 _ _ _ _ rfl) rfl ?_) | ((with_reducible first | apply aQ | apply aB | apply bz) <;> intro hc <;> (try simp only [hc]) <;> (try simp only [pgd] at hc)) | (with_reducible refine cK ?_)))
     all_goals exact rE []
    ·by_cases h0 : vCm ⟨d, z, s, c, f⟩ = 0
     ·rw [Jh (hf.trans (if_pos ⟨rfl, h0⟩))]
      rw [h0] at hv
      (repeat' (first | (simp (disch := first | exact dqz | fail) only [pgz, simprocAttr, jH, hil, hdz, hf2]) | ((with_reducible show cu _ _ _ _ _ _); first | refine eu _ (w1 _ _ _ _ rfl (by omega)) rfl ?_ | refine eu _ (w2 _ _ _ _ rfl) rfl ?_ | refine cU hv ?_) | ((with_reducible first | apply aQ | apply aB | apply bz) <;> intro hc <;> (try simp only [hc]) <;> (try simp only [pgd] at hc)) | (with_reducible refine cK ?_)))
      all_goals exact rE [0]
     ·rw [kD (hf.trans (if_neg fun h => h0 h.2))]
      generalize vCm ⟨d, z, s, c, f⟩ = v at *
      (repeat' (first | (simp (disch := first | exact dqz | fail) only [pgz, simprocAttr, jH, hil, hdz, hf2]) | ((with_reducible show cu _ _ _ _ _ _); first | refine eu _ (w1 _ _ _ _ rfl (by omega)) rfl ?_ | refine eu _ (w2 _ _ _ _ rfl) rfl ?_ | refine cU hv ?_) | ((with_reducible first | apply aQ | apply aB | apply bz) <;> intro hc <;> (try simp only [hc]) <;> (try simp only [pgd] at hc)) | (with_reducible refine cK ?_)))
      all_goals exact rE []
theorem ahS {B : List Nat} (ho : oct B) : ∀ (k : Nat) (c : List Int) (a : Nat) (b : Bool), (RS B k c a b).2.2 = false → b = false ∧ ∃ xs : List Int, xs.length = k ∧ (RS B k c a b).1 = c ++ xs ∧ B.drop a = aS xs ++ B.drop (RS B k c a b).2.1 := by
 intro k
 induction k with
 | zero => intro c a b h; exact ⟨h, [], rfl, (List.append_nil _).symm, rfl⟩
 | succ k ih =>
  intro c a b h
  cases b with
  | true => cases h
  | false =>
   rw [agK (by omega), Nat.add_sub_cancel] at h ⊢
   obtain ⟨h1, xs, h2, h3, h4⟩ := ih _ _ _ h
   obtain ⟨_, h5⟩ := MG ho h1
   refine ⟨rfl, ((qX B a false 4294967295 : Nat) : Int) :: xs, by simp [h2], by rw [h3]; simp, ?_⟩
   rw [h5, h4]
   simp [aS, List.append_assoc]
theorem ahx {B : List Nat} (ho : oct B) : ∀ (c acc : List Int) (a : Nat) (r : List Nat), B.drop a = aS c ++ r → a ≤ B.length → (∀ i, i < c.length → 0 ≤ c.getD i 0 ∧ c.getD i 0 ≤ 4294967295) → ∃ a', RS B c.length acc a false = (acc ++ c, a', false) ∧ B.drop a' = r ∧ a' ≤ B.length := by
 intro c
 induction c with
 | nil => intro acc a r h ha _; exact ⟨a, by simp [RS], h, ha⟩
 | cons x c ih =>
  intro acc a r h ha hx
  have h0 := hx 0 (by simp)
  simp only [List.getD, List.getElem?_cons_zero, Option.getD_some] at h0
  have e : B.drop a = ae x.toNat ++ (aS c ++ r) := by rw [h]; simp [aS, List.append_assoc]
  obtain ⟨x1, y1, f1⟩ := MC (m := 4294967295) e (by omega) (by omega)
  obtain ⟨a', h1, h2, h3⟩ := ih (acc ++ [x]) (qA B a false 4294967295) r y1 (rY ho ha) (fun i hi => by have := hx (i + 1) (by simp; omega); simpa [List.getD] using this)
  refine ⟨a', ?_, h2, h3⟩
  rw [List.length_cons, agK (by omega), Nat.add_sub_cancel, x1, f1, fF h0.1, h1]
  simp [List.append_assoc]
theorem ahl {B : List Nat} {t : Cm} (ho : oct B) (h : agX B = some t) : (vCm t = 0 ∧ jk t = B) ∧ 0 ≤ t.s ∧ t.s < 18446744073709551616 := by
 simp only [agX, xU, agJ, ain] at h
 unfold aic at h
 split at h
 ·rename_i hc
  obtain ⟨h1, h2⟩ := hc
  simp only [Option.some.injEq] at h
  subst h
  obtain ⟨d1, d2⟩ := ahP h1
  obtain ⟨q5, p5⟩ := MG ho d1
  obtain ⟨q4, xs, hx1, hx2, p4⟩ := ahS ho _ _ _ _ q5
  obtain ⟨q3, p3⟩ := aiw ho q4
  obtain ⟨q2, p2⟩ := MG ho q3
  obtain ⟨q1, p1⟩ := MG ho q2
  refine ⟨⟨h2, ?_⟩, Int.natCast_nonneg _, by have := ag5 (B := B) (a := qA B (qA B 0 false 8) (qB B 0 false 8) 64) (bad := qB B (qA B 0 false 8) (qB B 0 false 8) 64) ho; simp only; omega⟩
  rw [d2, List.drop_length] at p5
  rw [p2, p3, p4, p5, List.drop_zero] at p1
  unfold jk
  simp only
  rw [agS (rZ (by decide)), hx2]
  simp only [Int.toNat_natCast, List.nil_append]
  exact (p1.trans (by simp only [List.append_assoc, List.append_nil])).symm
 ·cases h
theorem ahT (B : List Nat) (ho : oct B) : agX B = wF B := by
 refine agQ (fun t h => ?_) (fun t h => ?_)
 ·obtain ⟨⟨h1, h2⟩, hs⟩ := ahl ho h
  rw [← h2]; exact RF t h1 hs
 ·obtain ⟨⟨h1, h2⟩, hs⟩ := Me ho h
  obtain ⟨i1, i2, i3, i4⟩ := xI h1
  obtain ⟨d, z, s, c, b⟩ := t
  simp only at i1 i2 i3 i4 hs
  have e0 : B.drop 0 = ae d.toNat ++ (ae z.toNat ++ (eX s ++ (aS c ++ (ae (if b = true then 1 else 0 : Nat) ++ [])))) := by
   rw [← h2]; unfold jk; rw [wL]; simp only [List.append_assoc, List.append_nil, List.drop_zero]
  obtain ⟨x1, y1, f1⟩ := MC (m := 8) e0 (by omega) (by omega)
  obtain ⟨x2, y2, f2⟩ := MC (m := 64) y1 (by omega) (by omega)
  obtain ⟨x3, y3, f3⟩ := aia hs y2
  have l3 := ahf (bad := false) ho (rY (bad := false) (m := 64) ho (rY (bad := false) (m := 8) ho (Nat.zero_le B.length)))
  obtain ⟨a4, x4, y4, l4⟩ := ahx ho c [] _ _ y3 l3 (fun i hi => pI i4 hi)
  obtain ⟨x5, y5, f5⟩ := MC (m := 1) y4 (BZ b) (by cases b <;> decide)
  have hcl : d.toNat * z.toNat = c.length := by
   have : ((d.toNat * z.toNat : Nat) : Int) = d * z := by rw [Int.natCast_mul, fF (by omega), fF (by omega)]
   omega
  simp only [agX, xU, agJ]
  rw [f1, f2, x1, x2, x3, f3, hcl, x4]
  simp only [ain, xU]
  rw [x5, f5, wK, fF (by omega), fF (by omega), fF hs.1, List.nil_append]
  unfold aic
  exact if_pos ⟨ahQ y5 (rY ho l4), h1⟩
def RU (B : List Nat) : Nat → List Int → Nat → Bool → List Int × Nat × Bool
 | 0, c, a, b => (c, a, b)
 | k + 1, c, a, b => if b = true then (c, a, b) else RU B k (c ++ [((qX B a b 65 : Nat) : Int)]) (qA B a b 65) (qB B a b 65)
theorem ahy {B : List Nat} {k : Nat} {c : List Int} {a : Nat} {b : Bool} (h : k = 0 ∨ b = true) : RU B k c a b = (c, a, b) := by
 cases k with
 | zero => rfl
 | succ k => exact if_pos (by rcases h with h | h; omega; exact h)
theorem agL {B : List Nat} {k : Nat} {c : List Int} {a : Nat} (h : k ≠ 0) : RU B k c a false = RU B (k - 1) (c ++ [((qX B a false 65 : Nat) : Int)]) (qA B a false 65) (qB B a false 65) := by
 cases k with
 | zero => exact absurd rfl h
 | succ k => exact if_neg Bool.false_ne_true
def aiy (B : List Nat) (x : Ll) (a : Nat) (b : Bool) : Option Ll := if qD B a b = true ∧ vLl x = 0 then some x else none
def aio (B : List Nat) (p s : Nat) (q : List Int × Nat × Bool) : Option Ll := aiy B ⟨p, s, q.1⟩ q.2.1 q.2.2
def agY (B : List Nat) : Option Ll := xU B 0 false 8 fun p a b => agJ B a b fun s a b => aio B p s (RU B (2 ^ p) [] a b)
theorem aiK {p : Nat} (h : p ≤ 8) : IntKind.i64.wrap (1 * 2 ^ min p IntKind.i64.bits) = ((2 ^ p : Nat) : Int) ∧ 2 ^ p ≤ 256 := by
 have : p = 0 ∨ p = 1 ∨ p = 2 ∨ p = 3 ∨ p = 4 ∨ p = 5 ∨ p = 6 ∨ p = 7 ∨ p = 8 := by omega
 rcases this with rfl | rfl | rfl | rfl | rfl | rfl | rfl | rfl | rfl <;> exact ⟨by decide, by decide⟩
theorem aie (B : List Nat) (ho : oct B) (hl : B.length ≤ 2147483648) : Pg.Good Tryz.prog 187 [fzb B] (oV llF Ll.o (agY B)) := by
 refine wC (F' := llO) (zs := [vi 0, vu 0, .c (.slice none 0 0)]) ?_ (fun _ => rfl) (fun _ => ⟨aj _, aj _, trivial⟩) rfl ⟨.inr ⟨_, _, rfl, rfl, ⟨.inl rfl, .inl rfl, jM _ _, trivial⟩⟩, aj _, trivial⟩
 simp only [agY, xU, agJ]
 have z1 := fun e bx n' h hb hbn => zQN e bx n' h 1 B 0 false 8 ho hl (Nat.zero_le _) hb hbn
 have a1 := rY (B := B) (a := 0) (bad := false) (m := 8) ho (Nat.zero_le _)
 have m1 := Jj (B := B) (a := 0) (bad := false) (m := 8) ho
 have k1 := rZ (B := B) (a := 0) (bad := false) (m := 8) (by decide)
 generalize qX B 0 false 8 = p at *
 generalize qA B 0 false 8 = A1 at *
 generalize qB B 0 false 8 = b1 at *
 have z2 := fun e bx n' h hb hbn => zQW e bx n' h 1 B A1 b1 ho hl a1 hb hbn
 have a2 := ahf (B := B) (a := A1) (bad := b1) ho a1
 have m2 := ag5 (B := B) (a := A1) (bad := b1) ho
 generalize wqX B A1 b1 = s at *
 generalize wqA B A1 b1 = A2 at *
 generalize wqB B A1 b1 = b2 at *
 obtain ⟨F, hF⟩ : ∃ F, F = RU B (2 ^ p) [] A2 b2 := ⟨_, rfl⟩
 rw [← hF]
 obtain ⟨hw, hM5⟩ := aiK (p := p) (by omega)
 obtain ⟨M, hM⟩ : ∃ M, M = 2 ^ p := ⟨_, rfl⟩
 rw [← hM] at hF hw hM5
 refine gI (BO mix) Tryz.func187 Tryz.results187 ?_
 (repeat' (first | (simp (disch := first | exact dqz | fail) only [pgz, simprocAttr, jH]) | ((with_reducible show cu _ _ _ _ _ _); first | refine eu _ (z1 _ _ _ _ rfl (by omega)) rfl ?_ | refine eu _ (z2 _ _ _ _ rfl (by omega)) rfl ?_) | ((with_reducible first | apply aQ | apply aB | apply bz) <;> intro hc <;> (try simp only [hc]) <;> (try simp only [pgd] at hc)) | (with_reducible refine cK ?_)))
 refine bn (fun x : List Int × Nat × Bool => mkA [(2, .ref 0 0), (4, .ref 1 0), (5, .ref 2 0), (6, vi x.1.length)] [(0, (31, [vi 0, vu 0, .c (.slice none 0 0)])), (1, (234, [fzb B, vi x.2.1, vb x.2.2])), (2, (31, [vi p, vu s, .sl (.own 0 3) 1 (iv x.1)]))] 3 (fun _ => .top))
  (fun x => RU B (M - x.1.length) x.1 x.2.1 x.2.2 = F ∧ x.1.length ≤ M ∧ x.2.1 ≤ B.length) (fun x => M - x.1.length) ([], A2, b2) [] [0, 1, 2] ?_ ⟨hF.symm, Nat.zero_le _, a2⟩ ?_
 ·(refine aN ?_ ?_ (bG _ _ _) (by decide) (by decide) (by decide) (by decide); (repeat' (first | exact trivial | refine aG _ _ rfl rfl ?_ ?_)); all_goals (try simp only [pgs, pgl, pgx, pgf, pgw, ay, aJ, az, aK, aZ, bV, bD, pgn, simprocAttr]); all_goals (try (repeat' (first | apply aI))); all_goals (try (first | exact trivial | exact au (by omega) | exact aU rfl | exact ak rfl rfl | exact bg rfl)))
  all_goals first | exact di rfl | exact au (by omega) | exact aU rfl | skip
 ·rintro ⟨c, a, b⟩ ⟨i1, i2, i3⟩
  simp only at i1 i2 i3
  have hil := bC c
  clear z1 z2
  by_cases hgo : c.length < M ∧ b = false
  ·obtain ⟨hgo, rfl⟩ := hgo
   rw [agL (by omega)] at i1
   have w1 := fun e bx n' h hb hbn => zQN e bx n' h 1 B a false 65 ho hl i3 hb hbn
   have q2 := rY (B := B) (a := a) (bad := false) (m := 65) ho i3
   have q3 := Jj (B := B) (a := a) (bad := false) (m := 65) ho
   generalize qX B a false 65 = x at *
   generalize qA B a false 65 = a' at *
   generalize qB B a false 65 = b' at *
   have hln : (c ++ [(x : Int)]).length = c.length + 1 := by simp
   rw [show M - c.length - 1 = M - (c ++ [(x : Int)]).length by rw [hln]; omega] at i1
   have hap := XO c (x : Int)
   (repeat' (first | (simp (disch := first | exact dqz | fail) only [pgz, simprocAttr, jH, hil, hw]) | ((with_reducible first | apply aQ | apply aB | apply bz) <;> intro hc <;> (try simp only [hc]) <;> (try simp only [pgd] at hc)) | (with_reducible refine cK ?_)))
   obtain ⟨B0, hB0⟩ : ∃ f, f = H5 [(0, (31, [vi 0, vu 0, .c (.slice none 0 0)])), (1, (234, [fzb B, vi a, vb false])), (2, (31, [vi p, vu s, .sl (.own 0 3) 1 (iv c)]))] := ⟨_, rfl⟩
   obtain ⟨B1, hB1⟩ : ∃ f, f = upd B0 1 (some (234, [fzb B, vi a', vb b'])) := ⟨_, rfl⟩
   obtain ⟨BX, hBX⟩ : ∃ f : (Nat → Bool) → Nat → Option (TypeId × List V), f = fun S => if S 3 = true then B1 else B0 := ⟨_, rfl⟩
   obtain ⟨NI, hNI⟩ : ∃ f : (Nat → Bool) → Nat, f = fun S => if S 4 = true then 4 else 3 := ⟨_, rfl⟩
   have c0 : B0 1 = some (234, [fzb B, vi a, vb false]) := by rw [hB0]; rfl
   have d0 : B0 2 = some (31, [vi p, vu s, .sl (.own 0 3) 1 (iv c)]) := by rw [hB0]; rfl
   have c1 : B1 1 = some (234, [fzb B, vi a', vb b']) := by rw [hB1]; exact Yb _ _ _
   have d1 : B1 2 = some (31, [vi p, vu s, .sl (.own 0 3) 1 (iv c)]) := by rw [hB1, abT _ _ _ _ (by omega), d0]
   have hBi : ∀ S i, i ≠ 3 → BX S = BX (ins S i) := fun S i h3 => by rw [hBX]; simp only [rW (Ne.symm h3)]
   have hNi : ∀ S i, i ≠ 4 → NI S = NI (ins S i) := fun S i h7 => by rw [hNI]; simp only [rW (Ne.symm h7)]
   have hb2 : ∀ S, BX S 2 = some (31, [vi p, vu s, .sl (.own 0 3) 1 (iv c)]) := fun S => by
    rw [hBX]
    show (if S 3 = true then B1 else B0) 2 = _
    (repeat' split) <;> assumption
   have hnl : ∀ S, 1 < NI S := fun S => by rw [hNI]; simp only; split <;> omega
   have hnd : ([30, 31, 32, 33, 34] : List Nat).Nodup := by decide
   refine Rl mix 5 [(30, .ref 2 2), (31, .sl (.own 0 3) 1 (iv c)), (32, .ref 1 0), (33, vi (x : Nat)), (34, .sl (.own 3 3) 1 [vi (x : Nat)])] BX NI (by rw [hBX]; show B0 = _; exact hB0) (by rw [hNI]; rfl) (by decide) (by decide) (by decide) ?_ ?_
   ·intro S i o ho hi hS he hcl
    rcases (by omega : i = 0 ∨ i = 1 ∨ i = 2 ∨ i = 3 ∨ i = 4) with rfl | rfl | rfl | rfl | rfl
    all_goals (simp only [List.getElem?_cons_zero, List.getElem?_cons_succ, Option.some.injEq] at ho; subst ho)
    ·(repeat' (first | (simp (disch := first | exact dqz | fail) only [pgz, simprocAttr, hS, fJ, nJ]) | ((with_reducible first | apply aQ | apply aB | apply bz) <;> intro hc <;> (try simp only [hc]) <;> (try simp only [pgd] at hc)) | (with_reducible refine cK ?_)))
     exact wE 0 rfl hnd (hBi S 0 (by decide)) (hNi S 0 (by decide))
    ·have s0 := he 0 (by decide)
     (repeat' (first | (simp (disch := first | exact dqz | fail) only [pgz, simprocAttr, hS, s0, fJ, nJ, hb2]) | ((with_reducible first | apply aQ | apply aB | apply bz) <;> intro hc <;> (try simp only [hc]) <;> (try simp only [pgd] at hc)) | (with_reducible refine cK ?_)))
     exact wE 1 rfl hnd (hBi S 1 (by decide)) (hNi S 1 (by decide))
    ·(repeat' (first | (simp (disch := first | exact dqz | fail) only [pgz, simprocAttr, hS, fJ, nJ]) | ((with_reducible first | apply aQ | apply aB | apply bz) <;> intro hc <;> (try simp only [hc]) <;> (try simp only [pgd] at hc)) | (with_reducible refine cK ?_)))
     exact wE 2 rfl hnd (hBi S 2 (by decide)) (hNi S 2 (by decide))
    ·have s2 := he 2 (by decide)
     have e0 : BX S = B0 := by rw [hBX]; simp only [hS]; rfl
     have e1 : BX (ins S 3) = B1 := by rw [hBX]; simp only [F5]; rfl
     (repeat' (first | (simp (disch := first | exact dqz | fail) only [pgz, simprocAttr, hS, s2, e0, fJ, nJ]) | ((with_reducible first | apply aQ | apply aB | apply bz) <;> intro hc <;> (try simp only [hc]) <;> (try simp only [pgd] at hc)) | (with_reducible refine cK ?_)))
     refine cZ (w1 _ _ _ _ c0 (hnl S)) ?_ (by simp only [List.map_cons, List.map_nil, pgo, simprocAttr, s2, fJ])
     exact wE 3 (T := [(30, .ref 2 2), (31, .sl (.own 0 3) 1 (iv c)), (32, .ref 1 0), (33, vi (x : Nat)), (34, .sl (.own 3 3) 1 [vi (x : Nat)])]) rfl hnd (by rw [e1, hB1]) (hNi S 3 (by decide))
    ·have s3 := he 3 (by decide)
     have e0 : NI S = 3 := by rw [hNI]; simp only [hS]; rfl
     have e1 : NI (ins S 4) = 4 := by rw [hNI]; simp only [F5]; rfl
     (repeat' (first | (simp (disch := first | exact dqz | fail) only [pgz, simprocAttr, hS, s3, e0, fJ, nJ]) | ((with_reducible first | apply aQ | apply aB | apply bz) <;> intro hc <;> (try simp only [hc]) <;> (try simp only [pgd] at hc)) | (with_reducible refine cK ?_)))
     exact wE 4 rfl hnd (hBi S 4 (by decide)) e1.symm
   ·intro S hall
    have s1 := hall 1 (by decide) (by decide)
    have s4 := hall 4 (by decide) (by decide)
    have e0 : BX S = B1 := by rw [hBX]; simp only [hall 3 (by decide) (by decide)]; rfl
    have e1 : NI S = 4 := by rw [hNI]; simp only [s4]; rfl
    have hB2n := hb2 S
    rw [e0] at hB2n
    rw [e0, e1, hB1, hB0]
    simp only [List.drop_succ_cons, List.drop_zero, List.map_cons, List.map_nil]
    (repeat' (first | (simp (disch := first | exact dqz | fail) only [pgz, simprocAttr, jH, hil, hap, s1, s4, fJ, nJ, hB2n]) | ((with_reducible first | apply aQ | apply aB | apply bz) <;> intro hc <;> (try simp only [hc]) <;> (try simp only [pgd] at hc)) | (with_reducible refine cK ?_)))
    refine bu (c ++ [(x : Int)], a', b') [0] [0, 1, 2] ⟨i1, by show (c ++ [(x : Int)]).length ≤ M; omega, q2⟩ (by show M - (c ++ [(x : Int)]).length < M - c.length; omega) ?_
    (refine aN ?_ ?_ (bG _ _ _) (by decide) (by decide) (by decide) (by decide); (repeat' (first | exact trivial | refine aG _ _ rfl rfl ?_ ?_)); all_goals (try simp only [pgs, pgl, pgx, pgf, pgw, ay, aJ, az, aK, aZ, bV, bD, pgn, simprocAttr]); all_goals (try (repeat' (first | apply aI))); all_goals (try (first | exact trivial | exact au (by omega) | exact aU rfl | exact ak rfl rfl | exact bg rfl)))
    all_goals (try simp only [fJ, nJ, pgo, simprocAttr, bV, bD, aZ])
    all_goals first | done | exact ak rfl rfl | exact au (by rw [hln]; omega) | exact au (by omega) | exact aU rfl | skip
  ·have hend : M - c.length = 0 ∨ b = true := by
    rcases Nat.lt_or_ge c.length M with h | h
    ·cases b with
     | false => exact absurd ⟨h, rfl⟩ hgo
     | true => exact .inr rfl
    ·exact .inl (by omega)
   rw [ahy hend] at i1
   subst i1
   have w2 := fun e bx n' h hb => zQD e bx n' h 1 B a b hb
   have hv := jZ ⟨p, s, c⟩ (by show c.length ≤ _; omega)
   have hf : aio B p s (c, a, b) = if qD B a b = true ∧ vLl ⟨p, s, c⟩ = 0 then some ⟨p, s, c⟩ else none := rfl
   generalize qD B a b = D at *
   rcases (by
    rcases Nat.lt_or_ge c.length M with h | h
    ·rcases hend with h1 | h1
     ·omega
     ·exact .inr ⟨h, h1⟩
    ·exact .inl h : M ≤ c.length ∨ (c.length < M ∧ b = true)) with hc | ⟨hc, rfl⟩
   all_goals
    cases D
    ·rw [kD (hf.trans (if_neg fun h => nomatch h.1))]
     (repeat' (first | (simp (disch := first | exact dqz | fail) only [pgz, simprocAttr, jH, hil, hw]) | ((with_reducible show cu _ _ _ _ _ _); first | refine eu _ (w2 _ _ _ _ rfl) rfl ?_) | ((with_reducible first | apply aQ | apply aB | apply bz) <;> intro hc <;> (try simp only [hc]) <;> (try simp only [pgd] at hc)) | (with_reducible refine cK ?_)))
     all_goals exact rE []
    ·by_cases h0 : vLl ⟨p, s, c⟩ = 0
     ·rw [Jh (hf.trans (if_pos ⟨rfl, h0⟩))]
      rw [h0] at hv
      (repeat' (first | (simp (disch := first | exact dqz | fail) only [pgz, simprocAttr, jH, hil, hw]) | ((with_reducible show cu _ _ _ _ _ _); first | refine eu _ (w2 _ _ _ _ rfl) rfl ?_ | refine cU hv ?_) | ((with_reducible first | apply aQ | apply aB | apply bz) <;> intro hc <;> (try simp only [hc]) <;> (try simp only [pgd] at hc)) | (with_reducible refine cK ?_)))
      all_goals exact rE [0]
     ·rw [kD (hf.trans (if_neg fun h => h0 h.2))]
      generalize vLl ⟨p, s, c⟩ = v at *
      (repeat' (first | (simp (disch := first | exact dqz | fail) only [pgz, simprocAttr, jH, hil, hw]) | ((with_reducible show cu _ _ _ _ _ _); first | refine eu _ (w2 _ _ _ _ rfl) rfl ?_ | refine cU hv ?_) | ((with_reducible first | apply aQ | apply aB | apply bz) <;> intro hc <;> (try simp only [hc]) <;> (try simp only [pgd] at hc)) | (with_reducible refine cK ?_)))
      all_goals exact rE []
theorem ahU {B : List Nat} (ho : oct B) : ∀ (k : Nat) (c : List Int) (a : Nat) (b : Bool), (RU B k c a b).2.2 = false → b = false ∧ ∃ xs : List Int, xs.length = k ∧ (RU B k c a b).1 = c ++ xs ∧ B.drop a = xs.map u8i ++ B.drop (RU B k c a b).2.1 := by
 intro k
 induction k with
 | zero => intro c a b h; exact ⟨h, [], rfl, (List.append_nil _).symm, rfl⟩
 | succ k ih =>
  intro c a b h
  cases b with
  | true => cases h
  | false =>
   rw [agL (by omega), Nat.add_sub_cancel] at h ⊢
   obtain ⟨h1, xs, h2, h3, h4⟩ := ih _ _ _ h
   obtain ⟨_, h5⟩ := MG ho h1
   have h6 := rZ (B := B) (a := a) (bad := false) (m := 65) (by decide)
   have h7 : ae (qX B a false 65) = [u8i ((qX B a false 65 : Nat) : Int)] := by
    unfold ae; rw [if_pos (by omega)]; congr 1; unfold u8i; omega
   refine ⟨rfl, ((qX B a false 65 : Nat) : Int) :: xs, by simp [h2], by rw [h3]; simp, ?_⟩
   rw [h5, h4, h7]
   simp
theorem ahz {B : List Nat} (ho : oct B) : ∀ (c acc : List Int) (a : Nat) (r : List Nat), B.drop a = c.map u8i ++ r → a ≤ B.length → (∀ i, i < c.length → 0 ≤ c.getD i 0 ∧ c.getD i 0 ≤ 65) → ∃ a', RU B c.length acc a false = (acc ++ c, a', false) ∧ B.drop a' = r ∧ a' ≤ B.length := by
 intro c
 induction c with
 | nil => intro acc a r h ha _; exact ⟨a, by simp [RU], h, ha⟩
 | cons x c ih =>
  intro acc a r h ha hx
  have h0 := hx 0 (by simp)
  simp only [List.getD, List.getElem?_cons_zero, Option.getD_some] at h0
  have e : B.drop a = ae x.toNat ++ (c.map u8i ++ r) := by
   rw [h]
   have h7 : ae x.toNat = [u8i x] := by unfold ae; rw [if_pos (by omega)]; congr 1; unfold u8i; omega
   rw [h7]; simp
  obtain ⟨x1, y1, f1⟩ := MC (m := 65) e (by omega) (by omega)
  obtain ⟨a', h1, h2, h3⟩ := ih (acc ++ [x]) (qA B a false 65) r y1 (rY ho ha) (fun i hi => by have := hx (i + 1) (by simp; omega); simpa [List.getD] using this)
  refine ⟨a', ?_, h2, h3⟩
  rw [List.length_cons, agL (by omega), Nat.add_sub_cancel, x1, f1, fF h0.1, h1]
  simp [List.append_assoc]
theorem aha {l : List Nat} {x : Ll} (ho : oct l) (h : wG l = some x) : ou x = l := by
 unfold wG at h
 split at h
 ·rename_i h1
  unfold dLl at h
  split at h
  ·rename_i h2
   unfold XR at h
   split at h
   ·simp only [Option.some.injEq] at h
    subst h
    have c1 := Yc l ho h1.1
    have c2 := ahj _ (dZ ho (aW l).2.1) h2.1
    unfold ou
    simp only [Int.toNat_natCast]
    have c3 : (ivU ((l.drop (aW l).2.1).drop 8)).map u8i = (l.drop (aW l).2.1).drop 8 := by
     have hoo := dZ (dZ ho (aW l).2.1) 8
     generalize (l.drop (aW l).2.1).drop 8 = R at *
     unfold ivU
     rw [List.map_map]
     refine (List.map_congr_left (g := id) fun y hy => ?_).trans (List.map_id _)
     have := hoo y hy
     show u8i ((y : Nat) : Int) = y
     unfold u8i; omega
    rw [c3, List.append_assoc, ← c2]
    exact c1.symm
   ·cases h
  ·cases h
 ·cases h
theorem ahm {B : List Nat} {t : Ll} (ho : oct B) (h : agY B = some t) : (vLl t = 0 ∧ ou t = B) ∧ 0 ≤ t.s ∧ t.s < 18446744073709551616 := by
 simp only [agY, xU, agJ] at h
 unfold aio aiy at h
 split at h
 ·rename_i hc
  obtain ⟨h1, h2⟩ := hc
  simp only [Option.some.injEq] at h
  subst h
  obtain ⟨q4, d2⟩ := ahP h1
  obtain ⟨q3, xs, hx1, hx2, p4⟩ := ahU ho _ _ _ _ q4
  obtain ⟨q2, p3⟩ := aiw ho q3
  obtain ⟨q1, p1⟩ := MG ho q2
  refine ⟨⟨h2, ?_⟩, Int.natCast_nonneg _, by have := ag5 (B := B) (a := qA B 0 false 8) (bad := qB B 0 false 8) ho; simp only; omega⟩
  rw [d2, List.drop_length] at p4
  rw [p3, p4, List.drop_zero] at p1
  unfold ou
  simp only
  rw [hx2]
  simp only [Int.toNat_natCast, List.nil_append]
  exact (p1.trans (by simp only [List.append_assoc, List.append_nil])).symm
 ·cases h
theorem ahV (B : List Nat) (ho : oct B) : agY B = wG B := by
 refine agQ (fun t h => ?_) (fun t h => ?_)
 ·obtain ⟨⟨h1, h2⟩, hs⟩ := ahm ho h
  rw [← h2]; exact Rz t h1 hs
 ·obtain ⟨h1, hs⟩ := MB ho h
  have h2 := aha ho h
  obtain ⟨i1, i2, i3⟩ := xK h1
  obtain ⟨p, s, r⟩ := t
  simp only at i1 i2 i3 hs
  have e0 : B.drop 0 = ae p.toNat ++ (eX s ++ (r.map u8i ++ [])) := by
   rw [← h2]; unfold ou; simp only [List.append_assoc, List.append_nil, List.drop_zero]
  obtain ⟨x1, y1, f1⟩ := MC (m := 8) e0 (by omega) (by omega)
  obtain ⟨x3, y3, f3⟩ := aia hs y1
  have l3 := ahf (bad := false) ho (rY (bad := false) (m := 8) ho (Nat.zero_le B.length))
  obtain ⟨a4, x4, y4, l4⟩ := ahz ho r [] _ _ y3 l3 (fun i hi => by have := pI i3 hi; omega)
  simp only [agY, xU, agJ]
  rw [f1, x1, x3, f3, ← i2, x4]
  unfold aio aiy
  simp only [List.nil_append]
  rw [fF (by omega), fF hs.1]
  exact if_pos ⟨ahQ y4 l4, h1⟩
end Go.Proofs.YtaoejnjkmfkbeaaGreat
