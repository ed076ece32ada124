/-
  Texts of this claim, merged; own names are short.
-/
import Derived.Test.YtaoejnjkmfkbeaaGreatWBC
import Derived.Test.YtaoejnjkmfkbeaaGreatWBF
import Derived.Test.YtaoejnjkmfkbeaaGreatWBD
import Derived.Test.YtaoejnjkmfkbeaaGreatWBH
set_option linter.unusedVariables false
set_option linter.unusedSimpArgs false
set_option linter.unusedSectionVars false
set_option linter.defProp false
set_option maxRecDepth 100000
set_option maxHeartbeats 8000000
namespace Go.Proofs.YtaoejnjkmfkbeaaGreat
open Go Go.Pg
theorem abo (l : List Nat) (ho : oct l) (hl : l.length ≤ 2147483648) : Pg.Good Tryz.prog 103 [fzb l] (uK (aW l)) := by
 have hbl := ai l
 unfold aW
 rcases Nat.eq_zero_or_pos l.length with h0 | h0
 ·rw [if_pos h0]
  refine gI oW Tryz.func103 Tryz.results103 ?_
  exact wR @hbl trivial ah
 rw [if_neg (by omega)]
 have hc := iZ ho 0
 have hg0 := lL l 0 h0
 generalize hcd : l.getD 0 0 = c at *
 rcases Nat.lt_or_ge c 248 with h1 | h1
 ·rw [if_pos h1]
  refine gI oW Tryz.func103 Tryz.results103 ?_
  exact wR (aI @hbl @hg0) trivial ah
 rw [if_neg (by omega)]
 obtain ⟨k, rfl⟩ : ∃ k, c = k + 247 := ⟨c - 247, by omega⟩
 have ek : (k : Int) + 247 - 247 = (k : Int) := by omega
 have ek2 : k + 247 - 246 = k + 1 := by omega
 rw [ek2]
 rcases Nat.lt_or_ge l.length (k + 1) with h2 | h2
 ·rw [if_pos h2]
  refine gI oW Tryz.func103 Tryz.results103 ?_
  exact wR (aI @hbl (aI @hg0 @ek)) trivial ah
 rw [if_neg (by omega)]
 have hg1 := lL l 1 (by omega)
 have ha1 : acc (mid l 1) = 0 := by
  have := Oe (l := l) (i := 1) ho (by omega)
  simpa using this
 refine gI oW Tryz.func103 Tryz.results103 ?_
 refine wS (aI @hbl (aI @hg0 @ek)) trivial ?_
 refine bn (fun i : Nat => mkA [(0, fzb l), (5, vi k), (6, .c (.int .u64 (acc (mid l i) : Nat))), (7, vi i)] [] 0 (fun _ => .top)) (fun i => 1 ≤ i ∧ i ≤ k + 1) (fun i => k + 1 - i) 1 [] [] ?_ ⟨Nat.le_refl 1, by omega⟩ ?_
 ·(refine aN ?_ ?_ (bG _ _ _) (by decide) (by decide) (by decide) (by decide); (repeat' (first | exact trivial | refine aG _ _ rfl rfl ?_ ?_)); all_goals (try simp only [pgs, pgl, pgx, pgf, pgw, ay, aJ, az, aK, aZ, bV, bD, pgn, simprocAttr]); all_goals (try (repeat' (first | apply aI))); all_goals (try (first | exact trivial | exact au (by omega) | exact aU rfl | exact ak rfl rfl | exact bg rfl)))
  all_goals first | exact aU (by rw [ha1]; rfl) | exact au (by omega) | skip
 ·rintro i ⟨hi1, hi⟩
  have hb := iZ ho i
  have ha := Oe (l := l) (i := i) ho (by omega)
  rcases Nat.lt_or_ge i (k + 1) with hlt | hge
  ·have hp : 256 ^ (i - 1) ≤ 256 ^ 7 := Nat.pow_le_pow_right (by omega) (by omega)
   have hgi := lL l i (by omega)
   have e6 : acc (mid l i) * 256 + l.getD i 0 = acc (mid l (i + 1)) := by rw [Xw (l := l) (i := i) (by omega) (by omega), ww]
   have e7 := Xu (acc (mid l i)) (l.getD i 0) (by omega) hb
   rw [e6] at e7
   refine wS (aI @hbl (aI @hgi @e7)) trivial ?_
   (refine bu (i + 1) [] [] (⟨Nat.le_succ_of_le hi1, hlt⟩) (by first | omega | (simp only [List.length_cons]; omega)) ?_; (refine aN ?_ ?_ (bG _ _ _) (by decide) (by decide) (by decide) (by decide); (repeat' (first | exact trivial | refine aG _ _ rfl rfl ?_ ?_)); all_goals (try simp only [pgs, pgl, pgx, pgf, pgw, ay, aJ, az, aK, aZ, bV, bD, pgn, simprocAttr]); all_goals (try (repeat' (first | apply aI))); all_goals (try (first | exact trivial | exact au (by omega) | exact aU rfl | exact ak rfl rfl | exact bg rfl))))
   all_goals first | exact au (by omega) | skip
  ·have hik : i = k + 1 := by omega
   subst hik
   have hp : 256 ^ (k + 1 - 1) ≤ 256 ^ 8 := Nat.pow_le_pow_right (by omega) (by omega)
   have hb1 := iZ ho 1
   generalize acc (mid l (k + 1)) = x at *
   generalize l.getD 1 0 = y at *
   rcases Nat.eq_zero_or_pos y with hy | hy
   ·rw [if_pos (.inl hy)]
    subst hy
    exact wR (aI @hbl @hg1) trivial ah
   ·rcases Nat.lt_or_ge x 248 with hx | hx
    ·rw [if_pos (.inr (.inl hx))]
     exact wR (aI @hbl @hg1) trivial ah
    ·rcases Nat.lt_or_ge 4611686018427387904 x with hx2 | hx2
     ·rw [if_pos (.inr (.inr hx2))]
      exact wR (aI @hbl @hg1) trivial ah
     ·rw [if_neg (by omega)]
      (repeat' first | refine wP (aI @hbl @hg1) trivial ?_ | refine tS ?_ ?_ <;> intro hc | fail)
      all_goals (refine rT [] ?_; first | rfl | simp only [pgo, simprocAttr] | skip)
theorem aht (l : List Nat) (ho : oct l) (hl : l.length ≤ 2147483648) : Pg.Good Tryz.prog 253 [fzb l] (Xx (kF l)) := by
 have hbl := ai l
 unfold kF
 rcases Nat.lt_or_ge l.length 8 with h1 | h1
 ·rw [if_pos h1]
  refine gI oW Tryz.func253 Tryz.results253 ?_
  exact wR @hbl trivial ah
 rw [if_neg (by omega)]
 refine gI oW Tryz.func253 Tryz.results253 ?_
 refine wS @hbl trivial ?_
 refine bn (fun i : Nat => mkA [(0, fzb l), (5, .c (.int .u64 (acc (l.take i) : Nat))), (6, vi i)] [] 0 (fun _ => .top)) (fun i => i ≤ 8) (fun i => 8 - i) 0 [] [] ?_ (Nat.zero_le _) ?_
 ·(refine aN ?_ ?_ (bG _ _ _) (by decide) (by decide) (by decide) (by decide); (repeat' (first | exact trivial | refine aG _ _ rfl rfl ?_ ?_)); all_goals (try simp only [pgs, pgl, pgx, pgf, pgw, ay, aJ, az, aK, aZ, bV, bD, pgn, simprocAttr]); all_goals (try (repeat' (first | apply aI))); all_goals (try (first | exact trivial | exact au (by omega) | exact aU rfl | exact ak rfl rfl | exact bg rfl)))
  all_goals first | exact aU rfl | exact au (by omega) | skip
 ·intro i hi
  replace hi : i ≤ 8 := hi
  have hb := iZ ho i
  have ha := wz ho (i := i) (by omega)
  rcases Nat.lt_or_ge i 8 with hlt | hge
  ·have hp : 256 ^ i ≤ 256 ^ 7 := Nat.pow_le_pow_right (by omega) (by omega)
   have hgi := lL l i (by omega)
   have e6 := BM (s := l) (i := i) (by omega)
   have e7 := Xu (acc (l.take i)) (l.getD i 0) (by omega) hb
   rw [e6] at e7
   refine wS (aI @hbl (aI @hgi @e7)) trivial ?_
   (refine bu (i + 1) [] [] (hlt) (by first | omega | (simp only [List.length_cons]; omega)) ?_; (refine aN ?_ ?_ (bG _ _ _) (by decide) (by decide) (by decide) (by decide); (repeat' (first | exact trivial | refine aG _ _ rfl rfl ?_ ?_)); all_goals (try simp only [pgs, pgl, pgx, pgf, pgw, ay, aJ, az, aK, aZ, bV, bD, pgn, simprocAttr]); all_goals (try (repeat' (first | apply aI))); all_goals (try (first | exact trivial | exact au (by omega) | exact aU rfl | exact ak rfl rfl | exact bg rfl))))
   all_goals first | exact au (by omega) | skip
  ·have hik : i = 8 := by omega
   subst hik
   exact wR @hbl trivial ah
theorem ahu (l : List Nat) (ho : oct l) (hl : l.length ≤ 2147483648) : Pg.Good Tryz.prog 254 [fzb l] (LQ (fO l)) := by
 have hbl := ai l
 have h1 := abo l ho hl
 obtain ⟨l1, l2, l3⟩ := iT l ho
 unfold uK at h1
 unfold fO
 generalize aW l = q at *
 obtain ⟨n, k, e⟩ := q
 simp only at *
 by_cases he : e = 0
 ·subst he
  rw [if_neg (by simp)]
  rcases Nat.lt_or_ge 65536 n with h2 | h2
  ·rw [if_pos h2]
   refine gI oW Tryz.func254 Tryz.results254 ?_
   exact wR @hbl h1 ah
  ·rw [if_neg (by omega)]
   rcases Nat.lt_or_ge (l.length - k) n with h3 | h3
   ·rw [if_pos h3]
    refine gI oW Tryz.func254 Tryz.results254 ?_
    exact wR @hbl h1 ah
   ·rw [if_neg (by omega)]
    have et : ((bv l).take (k + n)).drop k = bv ((l.drop k).take n) := by rw [BL, iq, List.drop_take]; congr 2; omega
    have et1 : Int.toNat ((k : Int) + (n : Int)) = k + n := by omega
    have hcv := fun s d K => dV (P := Tryz.prog) s d 48 9 .fz ((l.drop k).take n) K (by kernel_rfl) (by kernel_rfl) (by kernel_rfl) (by kernel_rfl)
    refine gI oW Tryz.func254 Tryz.results254 ?_
    (repeat' first | refine wP (aI @pgv (aI @hbl (aI @et1 (aI @et @hcv)))) h1 ?_ | refine tS ?_ ?_ <;> intro hc | fail)
    all_goals (refine rT [] ?_; first | rfl | simp only [pgo, simprocAttr] | skip)
 ·rw [if_pos he]
  refine gI oW Tryz.func254 Tryz.results254 ?_
  exact wR @hbl h1 ah
theorem aik : ∀ (n : Nat) (m : List Nat), m.length = n → m.getD 0 0 ≠ 0 → 1 ≤ acc m := by
 intro n
 induction n with
 | zero => intro m h h0; rw [List.length_eq_zero_iff.1 h] at h0; exact absurd rfl h0
 | succ n ih =>
  intro m h h0
  rcases List.eq_nil_or_concat m with rfl | ⟨L, b, rfl⟩
  ·simp at h
  ·rw [List.concat_eq_append] at *
   rw [ww]
   rcases List.eq_nil_or_concat L with rfl | ⟨L', b', rfl⟩
   ·simp at h0; omega
   ·have := ih (L'.concat b') (by simpa using h) (by
     intro e; apply h0
     cases L' with
     | nil => simpa using e
     | cons x y => simpa using e)
    omega
theorem ail : ∀ (f : Nat) (m : List Nat), m.length ≤ f → oct m → (m ≠ [] → m.getD 0 0 ≠ 0) → beF f (acc m) = m := by
 intro f
 induction f with
 | zero => intro m h _ _; rw [List.length_eq_zero_iff.1 (Nat.le_zero.1 h)]; rfl
 | succ f ih =>
  intro m h ho h0
  rcases List.eq_nil_or_concat m with rfl | ⟨L, b, rfl⟩
  ·rfl
  ·rw [List.concat_eq_append] at *
   have hb := ho b (by simp)
   have hp := aik _ (L ++ [b]) rfl (h0 (by simp))
   have e1 := ww L b
   unfold beF
   rw [if_neg (by omega), e1, show (acc L * 256 + b) / 256 = acc L by omega, show (acc L * 256 + b) % 256 = b by omega, ih L (by simpa using h) (fun x hx => ho x (by simp [hx])) (fun hn => by
    have := h0 (by simp)
    cases L with
    | nil => exact absurd rfl hn
    | cons x y => simpa using this)]
theorem Yc (l : List Nat) (ho : oct l) (h : (aW l).2.2 = 0) : l = ae (aW l).1 ++ l.drop (aW l).2.1 := by
 unfold aW at h ⊢
 have hc := iZ ho 0
 split
 ·rename_i h1; rw [if_pos h1] at h; cases h
 ·rename_i h1
  rw [if_neg h1] at h
  have el : l = l.getD 0 0 :: l.drop 1 := by
   cases l with
   | nil => exact absurd rfl h1
   | cons a r => rfl
  split
  ·rename_i h2
   simp only
   unfold ae
   rw [if_pos h2]
   exact el
  ·rename_i h2
   rw [if_neg h2] at h
   split
   ·rename_i h3; rw [if_pos h3] at h; cases h
   ·rename_i h3
    rw [if_neg h3] at h
    split
    ·rename_i h4; rw [if_pos h4] at h; cases h
    ·rename_i h4
     simp only [not_or, Nat.not_lt] at h4
     obtain ⟨h4, h5, h6⟩ := h4
     simp only
     generalize hcd : l.getD 0 0 = c at *
     obtain ⟨k, rfl⟩ : ∃ k, c = k + 248 := ⟨c - 248, by omega⟩
     have e246 : k + 248 - 246 = k + 2 := by omega
     have h3' : k + 2 ≤ l.length := by omega
     simp only [e246] at h5 h6 ⊢
     have hml : (mid l (k + 2)).length = k + 1 := by rw [Oc h3']; omega
     have hbe := ail 8 (mid l (k + 2)) (by omega) (abb ho _) (fun _ => by rw [abd (by omega)]; exact h4)
     have hB : beB (acc (mid l (k + 2))) = mid l (k + 2) := hbe
     unfold ae
     rw [if_neg (by omega), hB, hml]
     rw [show 247 + (k + 1) = k + 248 by omega]
     refine el.trans ?_
     rw [List.cons_append]
     congr 1
     have : mid l (k + 2) = (l.drop 1).take (k + 1) := by unfold mid; rw [List.drop_take]; rfl
     rw [this, show l.drop (k + 2) = (l.drop 1).drop (k + 1) by rw [List.drop_drop]; congr 1; omega, List.take_append_drop]
theorem ag7 (l : List Nat) (ho : oct l) (h : (aW l).2.2 = 0) : (aW l).2.1 = (ae (aW l).1).length := by
 have h1 := Yc l ho h
 have h2 := (iT l ho).2.1
 have := congrArg List.length h1
 rw [List.length_append, List.length_drop] at this
 omega
theorem ah6 (l : List Nat) (ho : oct l) (h : (fO l).2.2 = 0) : l = bT (fO l).1 ++ l.drop (fO l).2.1 := by
 have hN : (aW l).2.2 = 0 := by
  unfold fO at h
  split at h
  ·rename_i h1; exact h
  ·rename_i h1; exact Classical.byContradiction h1
 have h1 := Yc l ho hN
 have h2 := ag7 l ho hN
 unfold fO at h ⊢
 rw [if_neg (fun e => e hN)] at h ⊢
 split
 ·rename_i h3; rw [if_pos h3] at h; cases h
 ·rename_i h3
  rw [if_neg h3] at h
  split
  ·rename_i h4; rw [if_pos h4] at h; cases h
  ·rename_i h4
   simp only
   unfold bT
   have hl := (iT l ho).2.1
   rw [show ((l.drop (aW l).2.1).take (aW l).1).length = (aW l).1 by rw [List.length_take, List.length_drop]; omega, List.append_assoc, ← List.drop_drop, List.take_append_drop]
   exact h1
theorem ahe (m : List Nat) (ho : oct m) : ∀ n, m.length = n → be n (acc m) = m := by
 intro n
 induction n generalizing m with
 | zero => intro h; rw [List.length_eq_zero_iff.1 h]; rfl
 | succ n ih =>
  intro h
  rcases List.eq_nil_or_concat m with rfl | ⟨L, b, rfl⟩
  ·simp at h
  ·rw [List.concat_eq_append] at *
   have hb := ho b (by simp)
   have e1 := ww L b
   unfold be
   rw [e1, show (acc L * 256 + b) / 256 = acc L by omega, show (acc L * 256 + b) % 256 = b by omega, ih L (fun x hx => ho x (by simp [hx])) (by simpa using h)]
theorem ahj (l : List Nat) (ho : oct l) (h : (kF l).2.2 = 0) : l = eX ((kF l).1 : Nat) ++ l.drop 8 := by
 unfold kF at h ⊢
 split
 ·rename_i h1; rw [if_pos h1] at h; cases h
 ·rename_i h1
  simp only
  rw [XD, ahe (l.take 8) (mY ho 8) 8 (by rw [List.length_take]; omega), List.take_append_drop]
theorem ag9 (tag : Nat) (body : List Nat) (ht : tag < 256) (ho : oct body) (hl : body.length ≤ 1048576) : Pg.Good Tryz.prog 33 [.c (.int .u8 (tag : Nat)), fzb body] (.tup [ob 0 (jG tag body), vi 0]) := by
 have h1 := AX body.length (by omega)
 have hul := ax body.length
 have hbl := ai (ae body.length)
 have hbb := ai body
 have ho2 : oct (eU tag body) := aY (vI ht (aO _)) ho
 have hfl : (eU tag body).length = 1 + (ae body.length).length + body.length := by unfold eU; simp only [List.length_append, List.length_cons]; omega
 have h2 := IB (eU tag body) ho2 (by omega)
 have hck := xG (eU tag body)
 have e24 := aeB _ hck
 have e16 := aeC (ckN (eU tag body))
 have e8 := ck8 (ckN (eU tag body))
 have e0 := ck0 (ckN (eU tag body))
 have hF : V.c (.int .u8 (tag : Int)) :: (bv (ae body.length) ++ bv body) = bv (eU tag body) := by unfold eU; rw [List.cons_append, ← bvC, ← bQ]
 have hE : jG tag body = eU tag body ++ [ckN (eU tag body) / 16777216, ckN (eU tag body) / 65536 % 256, ckN (eU tag body) / 256 % 256, ckN (eU tag body) % 256] := rfl
 rw [hE]
 have hfbl := ai (eU tag body)
 generalize eU tag body = F at *
 generalize ckN F = c at *
 refine gI oW Tryz.func33 Tryz.results33 ?_
 (repeat' first | refine wP (aI @hbl (aI @hbb (aI @hfbl (aI @hF (aI @e24 (aI @e16 (aI @e8 (aI @e0 (aI @List.cons_append.{0} @List.nil_append.{0}))))))))) (aI h1 h2) ?_ | refine tS ?_ ?_ <;> intro hc | fail)
 all_goals (refine rT [0] ?_; first | rfl | simp only [pgo, simprocAttr] | skip)
 all_goals (rw [bv4, bQ]; rfl)
def unO (l : List Nat) : V := if unE l ≠ 0 then zl (unE l) else .tup [.c (.int .u8 (l.getD 0 0 : Nat)), ob 0 (unB l), vi (unU l + 4 : Nat), vi 0]
theorem aim (F : List Nat) : (ckB F).length = 4 := rfl
theorem ah7 (l : List Nat) (e : Nat) (ho : oct l) (h : e + 4 ≤ l.length) : acc (ft l e) = ckN (l.take e) ↔ ft l e = ckB (l.take e) := by
 constructor
 ·intro h1
  have h2 := ahe (ft l e) (XB ho e) 4 (XA h)
  have h3 := ahe (ckB (l.take e)) (aaJ _) 4 rfl
  rw [abg, ← h1, h2] at h3
  exact h3
 ·intro h1; rw [h1, abg]
theorem ah8 (l : List Nat) (e j : Nat) (hj : j < 4) : (ft l e).getD j 0 = l.getD (e + j) 0 := by
 unfold ft
 simp only [List.getD, List.getElem?_drop, List.getElem?_take]
 rw [if_pos (by omega)]
theorem aiI {a b : List Nat} (ha : a.length = 4) (hb : b.length = 4) (h : ∀ j, j < 4 → a.getD j 0 = b.getD j 0) : a = b := by
 apply List.ext_getElem?
 intro j
 rcases Nat.lt_or_ge j 4 with h1 | h1
 ·have := h j h1
  simp only [List.getD, List.getElem?_eq_getElem (show j < a.length by omega), List.getElem?_eq_getElem (show j < b.length by omega), Option.getD_some] at this
  rw [List.getElem?_eq_getElem (by omega), List.getElem?_eq_getElem (by omega), this]
 ·rw [List.getElem?_eq_none (by omega), List.getElem?_eq_none (by omega)]
theorem ag8 (l : List Nat) (ho : oct l) (hl : l.length ≤ 2147483648) : Pg.Good Tryz.prog 34 [fzb l] (unO l) := by
 have hbl := ai l
 rcases Nat.eq_zero_or_pos l.length with h0 | h0
 ·have e : unE l = 3 := by unfold unE; rw [if_pos h0]
  have e1 : unO l = zl 3 := by unfold unO; rw [e]; rfl
  rw [e1]
  refine gI oW Tryz.func34 Tryz.results34 ?_
  exact wR @hbl trivial ah
 have hG := abo (l.drop 1) (dZ ho 1) (by simp; omega)
 obtain ⟨x1, x2⟩ := Oh (l.drop 1) (dZ ho 1)
 have hcan := Yc (l.drop 1) (dZ ho 1)
 have huse := ag7 (l.drop 1) (dZ ho 1)
 have hlim := (iT (l.drop 1) (dZ ho 1)).2.1
 unfold uK at hG
 have ed := iq l 1
 have hg0 := lL l 0 h0
 have hE : unE l = if (aW (l.drop 1)).2.2 ≠ 0 then (aW (l.drop 1)).2.2 else if 1048576 < (aW (l.drop 1)).1 then 2 else if l.length < 1 + (aW (l.drop 1)).2.1 + (aW (l.drop 1)).1 + 4 then 3 else
   if acc (ft l (1 + (aW (l.drop 1)).2.1 + (aW (l.drop 1)).1)) ≠ ckN (l.take (1 + (aW (l.drop 1)).2.1 + (aW (l.drop 1)).1)) then 4 else 0 := if_neg (by omega)
 have hUU : unU l = 1 + (aW (l.drop 1)).2.1 + (aW (l.drop 1)).1 := rfl
 have hBB : unB l = (l.take (unU l)).drop (1 + (aW (l.drop 1)).2.1) := rfl
 have hOO : unO l = if unE l ≠ 0 then zl (unE l) else .tup [.c (.int .u8 (l.getD 0 0 : Nat)), ob 0 (unB l), vi (unU l + 4 : Nat), vi 0] := rfl
 generalize unO l = O at *
 generalize unE l = EE at *
 generalize unB l = BB at *
 generalize unU l = UU at *
 generalize aW (l.drop 1) = q at *
 obtain ⟨x, u, e⟩ := q
 simp only at *
 by_cases he : e = 0
 case neg =>
  rw [if_pos he] at hE
  rw [hOO, hE, if_pos he]
  refine gI oW Tryz.func34 Tryz.results34 ?_
  exact wR (aI @pgv (aI @hbl @ed)) hG ah
 case pos =>
  subst he
  rw [if_neg (by simp)] at hE
  rcases Nat.lt_or_ge 1048576 x with h1 | h1
  ·rw [if_pos h1] at hE
   rw [hOO, hE]
   refine gI oW Tryz.func34 Tryz.results34 ?_
   exact wR (aI @pgv (aI @hbl @ed)) hG ah
  rw [if_neg (show ¬ 1048576 < x by omega)] at hE
  rcases Nat.lt_or_ge l.length (1 + u + x + 4) with h2 | h2
  ·rw [if_pos h2] at hE
   rw [hOO, hE]
   refine gI oW Tryz.func34 Tryz.results34 ?_
   exact wR (aI @pgv (aI @hbl @ed)) hG ah
  rw [if_neg (show ¬ l.length < 1 + u + x + 4 by omega)] at hE
  have hcan := hcan rfl
  have huse := huse rfl
  have hBl : BB.length = x := by rw [hBB, List.length_drop, List.length_take, hUU]; omega
  have hBo : oct BB := by rw [hBB]; exact dZ (mY ho _) _
  have hHead : eU (l.getD 0 0) BB = l.take UU := by
   unfold eU
   rw [hBl]
   have e1 : l = l.getD 0 0 :: l.drop 1 := by
    cases l with
    | nil => exact absurd h0 (by simp)
    | cons a r => rfl
   have e2 : l.take UU = l.getD 0 0 :: (ae x ++ ((l.drop 1).drop u).take x) := by
    conv => lhs; rw [e1, hcan]
    rw [hUU, show 1 + u + x = (u + x) + 1 by omega, List.take_succ_cons, List.take_append, huse]
    rw [List.take_of_length_le (by omega), show (ae x).length + x - (ae x).length = x by omega]
   have e3 : BB = ((l.drop 1).drop u).take x := by
    rw [hBB, hUU, List.drop_take, List.drop_drop]
    congr 1; omega
   rw [e2, ← e3, List.cons_append]
  have hF := ag9 (l.getD 0 0) BB (iZ ho 0) hBo (by omega)
  have hfr : jG (l.getD 0 0) BB = l.take UU ++ ckB (l.take UU) := by unfold jG; rw [hHead]
  have hfl : (jG (l.getD 0 0) BB).length = UU + 4 := by rw [hfr, List.length_append, List.length_take, aim]; omega
  have hfg : ∀ j, j < 4 → (jG (l.getD 0 0) BB).getD (UU + j) 0 = (ckB (l.take UU)).getD j 0 := by
   intro j hj
   have hlt : (l.take UU).length = UU := by rw [List.length_take]; omega
   rw [hfr]
   simp only [List.getD, List.getElem?_append_right (show (l.take UU).length ≤ UU + j by omega), hlt, Nat.add_sub_cancel_left]
  have hiff := ah7 l UU ho (by omega)
  have hfo : oct (jG (l.getD 0 0) BB) := V4 (iZ ho 0) hBo
  have etk : ((bv l).take (1 + u + x)).drop (1 + u) = bv BB := by rw [BL, iq, hBB, hUU]
  have t2 : Int.toNat (1 + (u : Int) + (x : Int)) = 1 + u + x := by omega
  have t3 : Int.toNat (1 + (u : Int)) = 1 + u := by omega
  have hBb := ai BB
  generalize hFF : jG (l.getD 0 0) BB = FF at *
  have hfb := ai FF
  rw [hfl] at hfb
  rw [hUU.symm] at hE
  have hft : (V.tup [ob 0 FF, vi 0]).flat = true := by show (V.flatL (bv FF) && _) = true; rw [ahO]; rfl
  refine gI oW Tryz.func34 Tryz.results34 ?_
  (repeat' (first | (simp (disch := first | exact dqz | fail) only [pgz, simprocAttr, pgv, hbl, ed, t2, t3, etk, hg0, hBb, hfb]) | ((with_reducible show cu _ _ _ _ _ _); first | refine cU hG ?_ | refine xw _ (hF) rfl rfl rfl (by rw [Bool.or_eq_true]; exact .inr hft) ?_) | ((with_reducible first | apply aQ | apply aB | apply bz) <;> intro hc <;> (try simp only [hc]) <;> (try simp only [pgd] at hc)) | (with_reducible refine cK ?_)))
  refine bn (fun i : Nat => mkA [(0, fzb l), (9, ob 0 BB), (10, ob 1 FF), (12, vi i)] [] 2 (fun _ => .top)) (fun i => UU ≤ i ∧ i ≤ UU + 4 ∧ ∀ j, UU ≤ j → j < i → FF.getD j 0 = l.getD j 0) (fun i => UU + 4 - i) UU [0, 1] [] ?_ ⟨Nat.le_refl _, by omega, fun j h1 h2 => by omega⟩ ?_
  ·(refine aN ?_ ?_ (bG _ _ _) (by decide) (by decide) (by decide) (by decide); (repeat' (first | exact trivial | refine aG _ _ rfl rfl ?_ ?_)); all_goals (try simp only [pgs, pgl, pgx, pgf, pgw, ay, aJ, az, aK, aZ, bV, bD, pgn, simprocAttr]); all_goals (try (repeat' (first | apply aI))); all_goals (try (first | exact trivial | exact au (by omega) | exact aU rfl | exact ak rfl rfl | exact bg rfl)))
   all_goals first | exact ak rfl rfl | exact au (by omega) | skip
  ·rintro i ⟨hi1, hi2, hall⟩
   rcases Nat.lt_or_ge i (UU + 4) with hlt | hge
   ·have ha := lL FF i (by omega)
    have hb := lL l i (by omega)
    have q1 := iZ hfo i
    have q2 := iZ ho i
    by_cases hq : FF.getD i 0 = l.getD i 0
    ·have hnx : ∀ j, UU ≤ j → j < i + 1 → FF.getD j 0 = l.getD j 0 := fun j h1 h2 => by
      rcases Nat.lt_or_ge j i with h3 | h3
      ·exact hall j h1 h3
      ·rw [show j = i by omega]; exact hq
     (repeat' (first | (simp (disch := first | exact dqz | fail) only [pgz, simprocAttr, hbl, hfb, ha, hb]) | ((with_reducible show cu _ _ _ _ _ _); first | refine cU hG ?_) | ((with_reducible first | apply aQ | apply aB | apply bz) <;> intro hc <;> (try simp only [hc]) <;> (try simp only [pgd] at hc)) | (with_reducible refine cK ?_)))
     (refine bu (i + 1) [0, 1] [] (⟨Nat.le_succ_of_le hi1, hlt, hnx⟩) (by first | omega | (simp only [List.length_cons]; omega)) ?_; (refine aN ?_ ?_ (bG _ _ _) (by decide) (by decide) (by decide) (by decide); (repeat' (first | exact trivial | refine aG _ _ rfl rfl ?_ ?_)); all_goals (try simp only [pgs, pgl, pgx, pgf, pgw, ay, aJ, az, aK, aZ, bV, bD, pgn, simprocAttr]); all_goals (try (repeat' (first | apply aI))); all_goals (try (first | exact trivial | exact au (by omega) | exact aU rfl | exact ak rfl rfl | exact bg rfl))))
     all_goals first | exact ak rfl rfl | exact au (by omega) | skip
    ·have hne : ¬ acc (ft l UU) = ckN (l.take UU) := fun h => by
      have h3 := hiff.1 h
      apply hq
      have h4 := hfg (i - UU) (by omega)
      have h5 := ah8 l UU (i - UU) (by omega)
      rw [show UU + (i - UU) = i by omega] at h4 h5
      rw [h4, ← h5, h3]
     rw [if_pos hne] at hE
     have hO : O = zl 4 := by rw [hOO, hE]; rfl
     subst hO
     (repeat' (first | (simp (disch := first | exact dqz | fail) only [pgz, simprocAttr, hbl, hfb, ha, hb]) | ((with_reducible show cu _ _ _ _ _ _); first | refine cU hG ?_) | ((with_reducible first | apply aQ | apply aB | apply bz) <;> intro hc <;> (try simp only [hc]) <;> (try simp only [pgd] at hc)) | (with_reducible refine cK ?_)))
     all_goals exact rE []
   ·have hi : i = UU + 4 := by omega
    subst hi
    have heq : acc (ft l UU) = ckN (l.take UU) := hiff.2 (aiI (XA (by omega)) rfl fun j hj => by
     rw [ah8 l UU j hj, ← hall (UU + j) (by omega) (by omega), hfg j hj])
    rw [if_neg (fun h => h heq)] at hE
    have hO : O = .tup [.c (.int .u8 (l.getD 0 0 : Nat)), ob 0 BB, vi (UU + 4 : Nat), vi 0] := by rw [hOO, hE]; rfl
    subst hO
    (repeat' (first | (simp (disch := first | exact dqz | fail) only [pgz, simprocAttr, hbl, hfb, hg0]) | ((with_reducible show cu _ _ _ _ _ _); first | refine cU hG ?_) | ((with_reducible first | apply aQ | apply aB | apply bz) <;> intro hc <;> (try simp only [hc]) <;> (try simp only [pgd] at hc)) | (with_reducible refine cK ?_)))
    all_goals exact rE [0]
end Go.Proofs.YtaoejnjkmfkbeaaGreat
section
namespace Go.Proofs.YtaoejnjkmfkbeaaGreat
open Go Go.Pg
def qC (B : List Nat) (a : Nat) (bad : Bool) (m : Int) : Prop := bad = true ∨ (aW (B.drop a)).2.2 ≠ 0 ∨ m < ((aW (B.drop a)).1 : Int)
instance (B : List Nat) (a : Nat) (bad : Bool) (m : Int) : Decidable (qC B a bad m) := by unfold qC; infer_instance
def qX (B : List Nat) (a : Nat) (bad : Bool) (m : Int) : Nat := if qC B a bad m then 0 else (aW (B.drop a)).1
def qA (B : List Nat) (a : Nat) (bad : Bool) (m : Int) : Nat := if qC B a bad m then a else a + (aW (B.drop a)).2.1
def qB (B : List Nat) (a : Nat) (bad : Bool) (m : Int) : Bool := if qC B a bad m then true else false
def wqX (B : List Nat) (a : Nat) (bad : Bool) : Nat := if bad = true ∨ (kF (B.drop a)).2.2 ≠ 0 then 0 else (kF (B.drop a)).1
def wqA (B : List Nat) (a : Nat) (bad : Bool) : Nat := if bad = true ∨ (kF (B.drop a)).2.2 ≠ 0 then a else a + (kF (B.drop a)).2.1
def wqB (B : List Nat) (a : Nat) (bad : Bool) : Bool := if bad = true ∨ (kF (B.drop a)).2.2 ≠ 0 then true else false
def tqX (B : List Nat) (a : Nat) (bad : Bool) : List Nat := if bad = true ∨ (fO (B.drop a)).2.2 ≠ 0 then [] else (fO (B.drop a)).1
def tqA (B : List Nat) (a : Nat) (bad : Bool) : Nat := if bad = true ∨ (fO (B.drop a)).2.2 ≠ 0 then a else a + (fO (B.drop a)).2.1
def tqB (B : List Nat) (a : Nat) (bad : Bool) : Bool := if bad = true ∨ (fO (B.drop a)).2.2 ≠ 0 then true else false
section
variable {B : List Nat} {a : Nat} {bad : Bool} {m : Int}
theorem Jj (ho : oct B) : qX B a bad m ≤ 4611686018427387904 := by unfold qX; split; omega; exact (iT _ (dZ ho a)).1
theorem rZ (h : 0 ≤ m) : (qX B a bad m : Int) ≤ m := by
 unfold qX; split
 ·exact h
 ·rename_i hc; unfold qC at hc; omega
theorem rY (ho : oct B) (h : a ≤ B.length) : qA B a bad m ≤ B.length := by
 unfold qA; split; exact h
 have := (iT _ (dZ ho a)).2.1
 rw [List.length_drop] at this; omega
theorem ag5 (ho : oct B) : wqX B a bad < 18446744073709551616 := by unfold wqX; split; omega; exact (BN _ (dZ ho a)).1
theorem ahf (ho : oct B) (h : a ≤ B.length) : wqA B a bad ≤ B.length := by
 unfold wqA; split; exact h
 rename_i hc
 have := (BN _ (dZ ho a)).2 (Classical.byContradiction fun e => hc (.inr e))
 rw [List.length_drop] at this; omega
theorem ahg (ho : oct B) : oct (tqX B a bad) ∧ (tqX B a bad).length ≤ 65536 := by
 unfold tqX; split; exact ⟨kY, by simp⟩
 exact ⟨(rV _ (dZ ho a)).1, (rV _ (dZ ho a)).2.1⟩
theorem agV (ho : oct B) (h : a ≤ B.length) : tqA B a bad ≤ B.length := by
 unfold tqA; split; exact h
 rename_i hc
 have := (rV _ (dZ ho a)).2.2 (Classical.byContradiction fun e => hc (.inr e))
 rw [List.length_drop] at this; omega
theorem MG (ho : oct B) (h : qB B a bad m = false) : bad = false ∧ B.drop a = ae (qX B a bad m) ++ B.drop (qA B a bad m) := by
 unfold qB at h
 split at h
 ·cases h
 ·rename_i hc
  have h1 : bad = false := by cases bad; rfl; exact absurd (.inl rfl) hc
  have h2 : (aW (B.drop a)).2.2 = 0 := Classical.byContradiction fun e => hc (.inr (.inl e))
  refine ⟨h1, ?_⟩
  unfold qX qA
  rw [if_neg hc, if_neg hc, ← List.drop_drop]
  exact Yc _ (dZ ho a) h2
theorem aiw (ho : oct B) (h : wqB B a bad = false) : bad = false ∧ B.drop a = eX (wqX B a bad : Nat) ++ B.drop (wqA B a bad) := by
 unfold wqB at h
 split at h
 ·cases h
 ·rename_i hc
  have h1 : bad = false := by cases bad; rfl; exact absurd (.inl rfl) hc
  have h2 : (kF (B.drop a)).2.2 = 0 := Classical.byContradiction fun e => hc (.inr e)
  refine ⟨h1, ?_⟩
  unfold wqX wqA
  have h3 : (kF (B.drop a)).2.1 = 8 := by
   unfold kF at h2 ⊢
   split
   ·rename_i h4; rw [if_pos h4] at h2; cases h2
   ·rfl
  rw [if_neg hc, if_neg hc, ← List.drop_drop, h3]
  exact ahj _ (dZ ho a) h2
theorem ah9 (ho : oct B) (h : tqB B a bad = false) : bad = false ∧ B.drop a = bT (tqX B a bad) ++ B.drop (tqA B a bad) := by
 unfold tqB at h
 split at h
 ·cases h
 ·rename_i hc
  have h1 : bad = false := by cases bad; rfl; exact absurd (.inl rfl) hc
  have h2 : (fO (B.drop a)).2.2 = 0 := Classical.byContradiction fun e => hc (.inr e)
  refine ⟨h1, ?_⟩
  unfold tqX tqA
  rw [if_neg hc, if_neg hc, ← List.drop_drop]
  exact ah6 _ (dZ ho a) h2
theorem MC {n : Nat} {r : List Nat} (h : B.drop a = ae n ++ r) (hn : n ≤ 4611686018427387904) (hm : (n : Int) ≤ m) : qX B a false m = n ∧ B.drop (qA B a false m) = r ∧ qB B a false m = false := by
 have h1 := lG n hn r
 rw [← h] at h1
 have hc : ¬ qC B a false m := by unfold qC; rw [h1]; simp only; rintro (h | h | h); cases h; exact h rfl; omega
 refine ⟨?_, ?_, if_neg hc⟩
 ·unfold qX; rw [if_neg hc, h1]
 ·unfold qA; rw [if_neg hc, h1, ← List.drop_drop, h, List.drop_left]
theorem aia {x : Int} {r : List Nat} (hx : 0 ≤ x ∧ x < 18446744073709551616) (h : B.drop a = eX x ++ r) : wqX B a false = x.toNat ∧ B.drop (wqA B a false) = r ∧ wqB B a false = false := by
 have h1 := Jg x hx r
 rw [← h] at h1
 have hc : ¬ (false = true ∨ (kF (B.drop a)).2.2 ≠ 0) := by rw [h1]; rintro (h | h); cases h; exact h rfl
 refine ⟨?_, ?_, if_neg hc⟩
 ·unfold wqX; rw [if_neg hc, h1]
 ·unfold wqA; rw [if_neg hc, h1, ← List.drop_drop, h, ← fC x, List.drop_left]
theorem ahv {s r : List Nat} (hs : s.length ≤ 65536) (h : B.drop a = bT s ++ r) : tqX B a false = s ∧ B.drop (tqA B a false) = r ∧ tqB B a false = false := by
 have h1 := XE s hs r
 rw [← h] at h1
 have hc : ¬ (false = true ∨ (fO (B.drop a)).2.2 ≠ 0) := by rw [h1]; rintro (h | h); cases h; exact h rfl
 refine ⟨?_, ?_, if_neg hc⟩
 ·unfold tqX; rw [if_neg hc, h1]
 ·unfold tqA; rw [if_neg hc, h1, ← List.drop_drop, h, List.drop_left]
end
section
variable (e : Nat → V) (bx : Nat → Option (TypeId × List V)) (n : Nat) (h : Nat → V)
theorem zQN (b : Nat) (B : List Nat) (a : Nat) (bad : Bool) (m : Int) (ho : oct B) (hl : B.length ≤ 2147483648) (ha : a ≤ B.length) (hb : bx b = some (234, [fzb B, vi a, vb bad])) (hbn : b < n) :
  GoodZ Tryz.prog 226 [.ref b 0, vi m] ⟨e, bx, n, h⟩ ⟨e, upd bx b (some (234, [fzb B, vi (qA B a bad m : Nat), vb (qB B a bad m)])), n, h⟩ (vi (qX B a bad m : Nat)) := by
 have hn := abo (B.drop a) (dZ ho a) (by rw [List.length_drop]; omega)
 obtain ⟨m1, m2, _⟩ := iT (B.drop a) (dZ ho a)
 rw [List.length_drop] at m2
 have hbl := ai B
 have ed := iq B a
 have ea : qA B a bad m = if bad = true ∨ (aW (B.drop a)).2.2 ≠ 0 ∨ m < ((aW (B.drop a)).1 : Int) then a else a + (aW (B.drop a)).2.1 := rfl
 have eb : qB B a bad m = if bad = true ∨ (aW (B.drop a)).2.2 ≠ 0 ∨ m < ((aW (B.drop a)).1 : Int) then true else false := rfl
 have ex : qX B a bad m = if bad = true ∨ (aW (B.drop a)).2.2 ≠ 0 ∨ m < ((aW (B.drop a)).1 : Int) then 0 else (aW (B.drop a)).1 := rfl
 generalize qA B a bad m = A' at *
 generalize qB B a bad m = B' at *
 generalize qX B a bad m = X' at *
 unfold uK at hn
 generalize aW (B.drop a) = q at *
 obtain ⟨x, k, er⟩ := q
 simp only at *
 by_cases hc : bad = true ∨ er ≠ 0 ∨ m < (x : Int)
 ·rw [if_pos hc] at ea eb ex
  subst ea eb ex
  cases bad
  ·by_cases he : er = 0
   ·have hm : m < (x : Int) := by rcases hc with h | h | h; cases h; exact absurd he h; exact h
    subst he
    refine gZ oW Tryz.func226 Tryz.results226 ?_
    (repeat' first | refine wP (aI @dB (aI @bP (aI @bi (aI @hb (aI @pgv (aI @hbl @ed)))))) hn ?_ | refine tS ?_ ?_ <;> intro hc | fail)
    all_goals (refine eY (bU _ _ _) ?_; rw [cO, df])
   ·refine gZ oW Tryz.func226 Tryz.results226 ?_
    (repeat' first | refine wP (aI @dB (aI @bP (aI @bi (aI @hb (aI @pgv (aI @hbl @ed)))))) hn ?_ | refine tS ?_ ?_ <;> intro hc | fail)
    all_goals (refine eY (bU _ _ _) ?_; rw [cO, df])
  ·refine gZ oW Tryz.func226 Tryz.results226 ?_
   (repeat' first | refine wP (aI @dB (aI @bP (aI @bi (aI @hb (aI @pgv (aI @hbl @ed)))))) hn ?_ | refine tS ?_ ?_ <;> intro hc | fail)
   all_goals (refine eY (bU _ _ _) ?_; rw [cO, df])
 ·rw [if_neg hc] at ea eb ex
  have h1 : bad = false := by cases bad; rfl; exact absurd (.inl rfl) hc
  have h2 : er = 0 := Classical.byContradiction fun e => hc (.inr (.inl e))
  have h3 : ¬ m < (x : Int) := fun e => hc (.inr (.inr e))
  subst h1 h2 ea eb ex
  refine gZ oW Tryz.func226 Tryz.results226 ?_
  (repeat' first | refine wP (aI @dB (aI @bP (aI @bi (aI @hb (aI @pgv (aI @hbl @ed)))))) hn ?_ | refine tS ?_ ?_ <;> intro hc | fail)
  all_goals (refine eY (bU _ _ _) ?_; rw [cO, df])
theorem zQW (b : Nat) (B : List Nat) (a : Nat) (bad : Bool) (ho : oct B) (hl : B.length ≤ 2147483648) (ha : a ≤ B.length) (hb : bx b = some (234, [fzb B, vi a, vb bad])) (hbn : b < n) :
  GoodZ Tryz.prog 228 [.ref b 0] ⟨e, bx, n, h⟩ ⟨e, upd bx b (some (234, [fzb B, vi (wqA B a bad : Nat), vb (wqB B a bad)])), n, h⟩ (vu (wqX B a bad : Nat)) := by
 have hn := aht (B.drop a) (dZ ho a) (by rw [List.length_drop]; omega)
 have m2 := (BN (B.drop a) (dZ ho a)).2
 rw [List.length_drop] at m2
 have hbl := ai B
 have ed := iq B a
 have ea : wqA B a bad = if bad = true ∨ (kF (B.drop a)).2.2 ≠ 0 then a else a + (kF (B.drop a)).2.1 := rfl
 have eb : wqB B a bad = if bad = true ∨ (kF (B.drop a)).2.2 ≠ 0 then true else false := rfl
 have ex : wqX B a bad = if bad = true ∨ (kF (B.drop a)).2.2 ≠ 0 then 0 else (kF (B.drop a)).1 := rfl
 generalize wqA B a bad = A' at *
 generalize wqB B a bad = B' at *
 generalize wqX B a bad = X' at *
 unfold Xx at hn
 generalize kF (B.drop a) = q at *
 obtain ⟨x, k, er⟩ := q
 simp only at *
 by_cases hc : bad = true ∨ er ≠ 0
 ·rw [if_pos hc] at ea eb ex
  subst ea eb ex
  cases bad
  ·have he : er ≠ 0 := by rcases hc with h | h; cases h; exact h
   refine gZ oW Tryz.func228 Tryz.results228 ?_
   (repeat' first | refine wP (aI @dB (aI @bP (aI @bi (aI @hb (aI @pgv (aI @hbl @ed)))))) hn ?_ | refine tS ?_ ?_ <;> intro hc | fail)
   all_goals (refine eY (bU _ _ _) ?_; rw [cO, df])
  ·refine gZ oW Tryz.func228 Tryz.results228 ?_
   (repeat' first | refine wP (aI @dB (aI @bP (aI @bi (aI @hb (aI @pgv (aI @hbl @ed)))))) hn ?_ | refine tS ?_ ?_ <;> intro hc | fail)
   all_goals (refine eY (bU _ _ _) ?_; rw [cO, df])
 ·rw [if_neg hc] at ea eb ex
  have h1 : bad = false := by cases bad; rfl; exact absurd (.inl rfl) hc
  have h2 : er = 0 := Classical.byContradiction fun e => hc (.inr e)
  subst h1 h2 ea eb ex
  have m2 := m2 rfl
  refine gZ oW Tryz.func228 Tryz.results228 ?_
  (repeat' first | refine wP (aI @dB (aI @bP (aI @bi (aI @hb (aI @pgv (aI @hbl @ed)))))) hn ?_ | refine tS ?_ ?_ <;> intro hc | fail)
  all_goals (refine eY (bU _ _ _) ?_; rw [cO, df])
theorem zQT (b : Nat) (B : List Nat) (a : Nat) (bad : Bool) (ho : oct B) (hl : B.length ≤ 2147483648) (ha : a ≤ B.length) (hb : bx b = some (234, [fzb B, vi a, vb bad])) (hbn : b < n) :
  GoodZ Tryz.prog 229 [.ref b 0] ⟨e, bx, n, h⟩ ⟨e, upd bx b (some (234, [fzb B, vi (tqA B a bad : Nat), vb (tqB B a bad)])), n, h⟩ (vs (tqX B a bad)) := by
 have hn := ahu (B.drop a) (dZ ho a) (by rw [List.length_drop]; omega)
 have m2 := (rV (B.drop a) (dZ ho a)).2.2
 rw [List.length_drop] at m2
 have hbl := ai B
 have ed := iq B a
 have ea : tqA B a bad = if bad = true ∨ (fO (B.drop a)).2.2 ≠ 0 then a else a + (fO (B.drop a)).2.1 := rfl
 have eb : tqB B a bad = if bad = true ∨ (fO (B.drop a)).2.2 ≠ 0 then true else false := rfl
 have ex : tqX B a bad = if bad = true ∨ (fO (B.drop a)).2.2 ≠ 0 then [] else (fO (B.drop a)).1 := rfl
 generalize tqA B a bad = A' at *
 generalize tqB B a bad = B' at *
 generalize tqX B a bad = X' at *
 unfold LQ at hn
 generalize fO (B.drop a) = q at *
 obtain ⟨x, k, er⟩ := q
 simp only at *
 by_cases hc : bad = true ∨ er ≠ 0
 ·rw [if_pos hc] at ea eb ex
  subst ea eb ex
  cases bad
  ·have he : er ≠ 0 := by rcases hc with h | h; cases h; exact h
   refine gZ oW Tryz.func229 Tryz.results229 ?_
   (repeat' first | refine wP (aI @dB (aI @bP (aI @bi (aI @hb (aI @pgv (aI @hbl @ed)))))) hn ?_ | refine tS ?_ ?_ <;> intro hc | fail)
   all_goals (refine eY (bU _ _ _) ?_; rw [cO, df])
  ·refine gZ oW Tryz.func229 Tryz.results229 ?_
   (repeat' first | refine wP (aI @dB (aI @bP (aI @bi (aI @hb (aI @pgv (aI @hbl @ed)))))) hn ?_ | refine tS ?_ ?_ <;> intro hc | fail)
   all_goals (refine eY (bU _ _ _) ?_; rw [cO, df])
 ·rw [if_neg hc] at ea eb ex
  have h1 : bad = false := by cases bad; rfl; exact absurd (.inl rfl) hc
  have h2 : er = 0 := Classical.byContradiction fun e => hc (.inr e)
  subst h1 h2 ea eb ex
  have m2 := m2 rfl
  refine gZ oW Tryz.func229 Tryz.results229 ?_
  (repeat' first | refine wP (aI @dB (aI @bP (aI @bi (aI @hb (aI @pgv (aI @hbl @ed)))))) hn ?_ | refine tS ?_ ?_ <;> intro hc | fail)
  all_goals (refine eY (bU _ _ _) ?_; rw [cO, df])
def qD (B : List Nat) (a : Nat) (bad : Bool) : Bool := if bad = false ∧ a = B.length then true else false
theorem zQD (b : Nat) (B : List Nat) (a : Nat) (bad : Bool) (hb : bx b = some (234, [fzb B, vi a, vb bad])) :
  GoodZ Tryz.prog 227 [.ref b 0] ⟨e, bx, n, h⟩ ⟨e, bx, n, h⟩ (vb (qD B a bad)) := by
 have hbl := ai B
 have eq : qD B a bad = if bad = false ∧ a = B.length then true else false := rfl
 generalize qD B a bad = Q at *
 cases bad
 ·by_cases he : a = B.length
  ·rw [if_pos ⟨rfl, he⟩] at eq
   subst eq
   refine gZ oW Tryz.func227 Tryz.results227 ?_
   (repeat' first | refine wP (aI @dB (aI @bP (aI @bi (aI @hb (aI @pgv @hbl))))) trivial ?_ | refine tS ?_ ?_ <;> intro hc | fail)
   all_goals (refine eY (bU _ _ _) ?_; rw [cO, df])
  ·rw [if_neg (fun h => he h.2)] at eq
   subst eq
   refine gZ oW Tryz.func227 Tryz.results227 ?_
   (repeat' first | refine wP (aI @dB (aI @bP (aI @bi (aI @hb (aI @pgv @hbl))))) trivial ?_ | refine tS ?_ ?_ <;> intro hc | fail)
   all_goals (refine eY (bU _ _ _) ?_; rw [cO, df])
 ·rw [if_neg (fun h => nomatch h.1)] at eq
  subst eq
  refine gZ oW Tryz.func227 Tryz.results227 ?_
  (repeat' first | refine wP (aI @dB (aI @bP (aI @bi (aI @hb (aI @pgv @hbl))))) trivial ?_ | refine tS ?_ ?_ <;> intro hc | fail)
  all_goals (refine eY (bU _ _ _) ?_; rw [cO, df])
end
end Go.Proofs.YtaoejnjkmfkbeaaGreat
end
namespace Go.Proofs.YtaoejnjkmfkbeaaGreat
open Go Go.Pg
def xU {α : Type} (B : List Nat) (a : Nat) (b : Bool) (m : Int) (k : Nat → Nat → Bool → α) : α := k (qX B a b m) (qA B a b m) (qB B a b m)
def agJ {α : Type} (B : List Nat) (a : Nat) (b : Bool) (k : Nat → Nat → Bool → α) : α := k (wqX B a b) (wqA B a b) (wqB B a b)
theorem ahP {B : List Nat} {a : Nat} {b : Bool} (h : qD B a b = true) : b = false ∧ a = B.length := by
 unfold qD at h
 split at h
 ·rename_i h1; exact h1
 ·cases h
theorem ahQ {B : List Nat} {a : Nat} (h : B.drop a = []) (ha : a ≤ B.length) : qD B a false = true := if_pos ⟨rfl, by have := congrArg List.length h; rw [List.length_drop, List.length_nil] at this; omega⟩
theorem agS {x : Nat} (h : (x : Int) ≤ 1) : gy (decide ((x : Int) = 1)) = ae x := by
 have : x = 0 ∨ x = 1 := by omega
 rcases this with rfl | rfl <;> decide
theorem agQ {α : Type} {a b : Option α} (h1 : ∀ x, a = some x → b = some x) (h2 : ∀ x, b = some x → a = some x) : a = b := by
 cases ha : a with
 | some x => exact (h1 x ha).symm
 | none =>
  cases hb : b with
  | some x => rw [h2 x hb] at ha; cases ha
  | none => rfl
def fTl (B : List Nat) (x : Tl) (a : Nat) (b : Bool) : Option Tl := if qD B a b = true ∧ vTl x = 0 then some x else none
def agW (B : List Nat) : Option Tl := xU B 0 false 4294967295 fun x a b => xU B a b 4294967295 fun y a b => xU B a b 1 fun z a b => fTl B ⟨x, y, decide ((z : Int) = 1)⟩ a b
theorem aib (B : List Nat) (ho : oct B) (hl : B.length ≤ 2147483648) : Pg.Good Tryz.prog 185 [fzb B] (oV tlF Tl.o (agW B)) := by
 simp only [agW, xU]
 have z1 := fun e bx n' h hb hbn => zQN e bx n' h 1 B 0 false 4294967295 ho hl (Nat.zero_le _) hb hbn
 have a1 := rY (B := B) (a := 0) (bad := false) (m := 4294967295) ho (Nat.zero_le _)
 have m1 := Jj (B := B) (a := 0) (bad := false) (m := 4294967295) ho
 have k1 := rZ (B := B) (a := 0) (bad := false) (m := 4294967295) (by decide)
 generalize qX B 0 false 4294967295 = x at *
 generalize qA B 0 false 4294967295 = A1 at *
 generalize qB B 0 false 4294967295 = b1 at *
 have z2 := fun e bx n' h hb hbn => zQN e bx n' h 1 B A1 b1 4294967295 ho hl a1 hb hbn
 have a2 := rY (B := B) (a := A1) (bad := b1) (m := 4294967295) ho a1
 have m2 := Jj (B := B) (a := A1) (bad := b1) (m := 4294967295) ho
 have k2 := rZ (B := B) (a := A1) (bad := b1) (m := 4294967295) (by decide)
 generalize qX B A1 b1 4294967295 = y at *
 generalize qA B A1 b1 4294967295 = A2 at *
 generalize qB B A1 b1 4294967295 = b2 at *
 have z3 := fun e bx n' h hb hbn => zQN e bx n' h 1 B A2 b2 1 ho hl a2 hb hbn
 have a3 := rY (B := B) (a := A2) (bad := b2) (m := 1) ho a2
 have m3 := Jj (B := B) (a := A2) (bad := b2) (m := 1) ho
 have k3 := rZ (B := B) (a := A2) (bad := b2) (m := 1) (by decide)
 generalize qX B A2 b2 1 = w at *
 generalize qA B A2 b2 1 = A3 at *
 generalize qB B A2 b2 1 = b3 at *
 have z4 := fun e bx n' h hb => zQD e bx n' h 1 B A3 b3 hb
 have hw : ((w : Int) == 1) = decide ((w : Int) = 1) := rfl
 generalize decide ((w : Int) = 1) = f at *
 have hv := kS ⟨x, y, f⟩
 have hf : fTl B ⟨x, y, f⟩ A3 b3 = if qD B A3 b3 = true ∧ vTl ⟨x, y, f⟩ = 0 then some ⟨x, y, f⟩ else none := rfl
 generalize qD B A3 b3 = D at *
 cases D
 ·rw [FY (hf.trans (if_neg fun h => nomatch h.1))]
  refine gI oW Tryz.func185 Tryz.results185 ?_
  (repeat' first | refine wP @hw trivial ?_ | refine cZ (z1 _ _ _ _ rfl (by omega)) ?_ | refine cZ (z2 _ _ _ _ rfl (by omega)) ?_ | refine cZ (z3 _ _ _ _ rfl (by omega)) ?_ | refine cZ (z4 _ _ _ _ rfl) ?_ | refine tS ?_ ?_ <;> intro hc | fail)
  all_goals exact rE []
 ·by_cases h0 : vTl ⟨x, y, f⟩ = 0
  ·rw [LU (hf.trans (if_pos ⟨rfl, h0⟩))]
   rw [h0] at hv
   refine gI oW Tryz.func185 Tryz.results185 ?_
   (repeat' first | refine wP @hw hv ?_ | refine cZ (z1 _ _ _ _ rfl (by omega)) ?_ | refine cZ (z2 _ _ _ _ rfl (by omega)) ?_ | refine cZ (z3 _ _ _ _ rfl (by omega)) ?_ | refine cZ (z4 _ _ _ _ rfl) ?_ | refine tS ?_ ?_ <;> intro hc | fail)
   all_goals exact rE []
  ·rw [FY (hf.trans (if_neg fun h => h0 h.2))]
   generalize vTl ⟨x, y, f⟩ = v at *
   refine gI oW Tryz.func185 Tryz.results185 ?_
   (repeat' first | refine wP @hw hv ?_ | refine cZ (z1 _ _ _ _ rfl (by omega)) ?_ | refine cZ (z2 _ _ _ _ rfl (by omega)) ?_ | refine cZ (z3 _ _ _ _ rfl (by omega)) ?_ | refine cZ (z4 _ _ _ _ rfl) ?_ | refine tS ?_ ?_ <;> intro hc | fail)
   all_goals exact rE []
theorem ahk {B : List Nat} {t : Tl} (ho : oct B) (h : agW B = some t) : vTl t = 0 ∧ fP t = B := by
 simp only [agW, xU] at h
 unfold fTl at h
 split at h
 ·rename_i hc
  obtain ⟨h1, h2⟩ := hc
  simp only [Option.some.injEq] at h
  subst h
  refine ⟨h2, ?_⟩
  obtain ⟨d1, d2⟩ := ahP h1
  obtain ⟨q3, p3⟩ := MG ho d1
  obtain ⟨q2, p2⟩ := MG ho q3
  obtain ⟨q1, p1⟩ := MG ho q2
  rw [p2, p3, d2, List.drop_length, List.drop_zero] at p1
  unfold fP
  simp only
  rw [agS (rZ (by decide))]
  simp only [Int.toNat_natCast]
  exact (p1.trans (by simp only [List.append_assoc, List.append_nil])).symm
 ·cases h
theorem ahR (B : List Nat) (ho : oct B) : agW B = tN B := by
 refine agQ (fun t h => ?_) (fun t h => ?_)
 ·obtain ⟨h1, h2⟩ := ahk ho h
  rw [← h2]; exact Ry t h1
 ·obtain ⟨h1, h2⟩ := Md h
  obtain ⟨a, c, b⟩ := t
  have hr : (0 ≤ a ∧ a ≤ 4294967295) ∧ (0 ≤ c ∧ c ≤ 4294967295) := by
   have h := h1
   unfold vTl at h
   split at h
   ·simp only at *; omega
   ·cases h
  have e0 : B.drop 0 = ae a.toNat ++ (ae c.toNat ++ (ae (if b = true then 1 else 0 : Nat) ++ [])) := by
   rw [← h2]; unfold fP; rw [wL]; simp only [List.append_assoc, List.append_nil, List.drop_zero]
  obtain ⟨x1, y1, f1⟩ := MC (m := 4294967295) e0 (by omega) (by omega)
  obtain ⟨x2, y2, f2⟩ := MC (m := 4294967295) y1 (by omega) (by omega)
  obtain ⟨x3, y3, f3⟩ := MC (m := 1) y2 (BZ b) (by cases b <;> decide)
  simp only [agW, xU]
  rw [f1, f2, x1, x2, x3, f3]
  unfold fTl
  rw [wK, fF hr.1.1, fF hr.2.1]
  exact if_pos ⟨ahQ y3 (rY ho (rY ho (rY ho (Nat.zero_le _)))), h1⟩
end Go.Proofs.YtaoejnjkmfkbeaaGreat
