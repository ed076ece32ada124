/-
  Texts of this claim, merged; own names are short.
-/
import Derived.Test.YtaoejnjkmfkbeaaGreatWAQ
import Derived.Test.YtaoejnjkmfkbeaaGreatWAT
import Derived.Test.YtaoejnjkmfkbeaaGreatWAR
import Derived.Test.YtaoejnjkmfkbeaaGreatWAS
set_option linter.unusedVariables false
set_option linter.unusedSimpArgs false
set_option linter.unusedSectionVars false
set_option linter.defProp false
set_option maxRecDepth 100000
set_option maxHeartbeats 8000000
namespace Go.Proofs.YtaoejnjkmfkbeaaGreat
open Go Go.Pg
def vLl (l : Ll) : Int := if ¬ (2 ≤ l.p ∧ l.p ≤ 8) then 5 else if l.r.length ≠ 2 ^ l.p.toNat then 18 else if fQ 0 (65 - l.p) l.r = true then 0 else 5
theorem nY {p : Int} (hp : 2 ≤ p ∧ p ≤ 8) : IntKind.i64.wrap (1 * 2 ^ min p.toNat IntKind.i64.bits) = ((2 ^ p.toNat : Nat) : Int) ∧ 2 ^ p.toNat ≤ 256 ∧ 1 ≤ 2 ^ p.toNat := by
 have : p = 2 ∨ p = 3 ∨ p = 4 ∨ p = 5 ∨ p = 6 ∨ p = 7 ∨ p = 8 := by omega
 rcases this with rfl | rfl | rfl | rfl | rfl | rfl | rfl <;> exact ⟨by decide, by decide, by decide⟩
theorem jS (x : Ll) (hx : x.r.length ≤ 1000000) : Pg.Good Tryz.prog 67 [.agg (llF x)] (vi (vLl x)) := by
 obtain ⟨p, s, l⟩ := x
 simp only at hx
 unfold vLl
 simp only
 have hil := ax l
 by_cases c1 : 2 ≤ p ∧ p ≤ 8
 ·rw [if_neg (by simpa using c1)]
  have k1 := ay p 2 8 c1
  obtain ⟨hw, hp1, hp2⟩ := nY c1
  by_cases c2 : l.length = 2 ^ p.toNat
  ·rw [if_neg (by omega)]
   rw [← c2] at hw hp1 hp2
   refine gI oW Tryz.func67 Tryz.results67 ?_
   refine wS (aI @hw @ax) k1 ?_
   refine aK (fun i : Nat => mkA [(1, .ref 0 0), (3, vi i)] [(0, (31, llF ⟨p, s, l⟩))] 1 (fun _ => .top)) (fun i => i ≤ l.length ∧ fQ 0 (65 - p) (l.take i) = true) (fun i => l.length - i) 0 [] [0] ?_ ⟨Nat.zero_le _, rfl⟩ ?_
   ·exact kE
   ·rintro i ⟨hi, ha⟩
    rcases Nat.lt_or_ge i l.length with hlt | hge
    ·have hg := jm l i hlt
     have hx := mJ (a := 0) (b := 65 - p) hlt
     have hn := lg (a := 0) (b := 65 - p) hlt
     rw [ha] at hn
     generalize l.getD i 0 = n at *
     by_cases hc : 0 ≤ n ∧ n ≤ 65 - p
     ·have k3 := ay n 0 (65 - p) hc
      refine wS (aI @ax @hg) k3 ?_
      exact bE (i + 1) [] [0] ⟨hlt, by rw [hn, decide_eq_true hc]; rfl⟩
     ·have k3 := bi n 0 (65 - p)
      rw [gq hc] at k3
      rw [hx hc, if_neg (by simp)]
      exact wR (aI @ax @hg) k3 ae
    ·have : i = l.length := by omega
     subst this
     rw [List.take_length] at ha
     rw [ha, if_pos rfl]
     exact wR @ax trivial ae
  ·rw [if_pos c2]
   generalize hq : 2 ^ p.toNat = q at *
   refine gI oW Tryz.func67 Tryz.results67 ?_
   exact wR (aI @hw @ax) k1 ae
 ·rw [if_pos c1]
  have k1 := bi p 2 8
  rw [gq c1] at k1
  refine gI oW Tryz.func67 Tryz.results67 ?_
  exact wR trivial k1 ae
def Qe (h : Int) (j : Nat) : Int := bits .and .u64 (h.fdiv (2 ^ min j IntKind.u64.bits)) 1
def qG (h : Int) : Nat → Int
 | 0 => 1
 | j + 1 => if Qe h j = 0 then 1 + qG h j else 1
theorem vM (h : Int) (j : Nat) : 1 ≤ qG h j ∧ qG h j ≤ j + 1 := by
 induction j with
 | zero => simp [qG]
 | succ j ih => unfold qG; split <;> omega
def zu (p s : Int) (k : List Nat) : Int := (lW (jA s 256) k).fdiv (2 ^ min (64 - p).toNat IntKind.u64.bits)
def UM (p s : Int) (k : List Nat) : Int := qG (lW (jA s 256) k) (64 - p).toNat
theorem CS (p s : Int) (k : List Nat) (hp : 2 ≤ p ∧ p ≤ 8) : 0 ≤ zu p s k ∧ zu p s k < ((2 ^ p.toNat : Nat) : Int) := by
 have h := mM (jA s 256) k
 unfold zu
 generalize lW (jA s 256) k = x at *
 have : p = 2 ∨ p = 3 ∨ p = 4 ∨ p = 5 ∨ p = 6 ∨ p = 7 ∨ p = 8 := by omega
 have key : ∀ m : Nat, 1 ≤ m → ∀ n : Int, x < n * (m : Int) → 0 ≤ x.fdiv (m : Int) ∧ x.fdiv (m : Int) < n := by
  intro m hm n hn
  rw [Int.fdiv_eq_ediv_of_nonneg _ (by omega)]
  exact ⟨Int.ediv_nonneg h.1 (by omega), Int.ediv_lt_of_lt_mul (by omega) hn⟩
 rcases this with rfl | rfl | rfl | rfl | rfl | rfl | rfl
 ·exact key (2 ^ 62) (by decide) 4 (by omega)
 ·exact key (2 ^ 61) (by decide) 8 (by omega)
 ·exact key (2 ^ 60) (by decide) 16 (by omega)
 ·exact key (2 ^ 59) (by decide) 32 (by omega)
 ·exact key (2 ^ 58) (by decide) 64 (by omega)
 ·exact key (2 ^ 57) (by decide) 128 (by omega)
 ·exact key (2 ^ 56) (by decide) 256 (by omega)
theorem CU (p s : Int) (k : List Nat) (ho : oct k) (hp : 2 ≤ p ∧ p ≤ 8) (hk : 1 ≤ k.length ∧ k.length ≤ 32) : Pg.Good Tryz.prog 137 [vi p, vu s, vs k] (.tup [vi (zu p s k), vi (UM p s k), vi 0]) := by
 have k1 := ay p 2 8 hp
 have k3 := qy k
 rw [Gx hk] at k3
 have k4 := Gz (jA s 256) (vg _ _) k ho (by omega)
 have hh := mM (jA s 256) k
 have hr := CS p s k hp
 have hp2 := (nY hp).2.1
 have er : zu p s k = (lW (jA s 256) k).fdiv (2 ^ min (64 - p).toNat IntKind.u64.bits) := rfl
 unfold UM
 generalize zu p s k = rg at *
 generalize lW (jA s 256) k = h at *
 refine gI oW Tryz.func137 Tryz.results137 ?_
 (repeat' first | refine wP trivial (aI k1 (aI k3 k4)) ?_ | refine cU (BX _) ?_ | refine tS ?_ ?_ <;> intro hc | fail)
 refine aK (fun j : Nat × Int => mkA [(0, vi p), (9, vu h), (11, vi j.2), (12, vi ((j.1 : Int) - 1))] [] 0 (fun _ => .top)) (fun j => (j.1 : Int) ≤ 64 - p ∧ 1 ≤ j.2 ∧ j.2 + qG h j.1 - 1 = qG h (64 - p).toNat) (fun j => j.1) ((64 - p).toNat, 1) [] [] ?_ ⟨by simp only; omega, by simp only; omega, by simp only; omega⟩ ?_
 ·exact kE
  all_goals exact aX (by omega)
 ·rintro ⟨j, q⟩ ⟨hj, hq1, hq⟩
  simp only at hj hq1 hq
  have hrn := vM h j
  have hrf := vM h (64 - p).toNat
  cases j with
  | zero =>
   have e0 : qG h 0 = 1 := rfl
   rw [e0] at hq
   have : q = qG h (64 - p).toNat := by omega
   subst this
   (repeat' (first | (simp (disch := first | exact dqz | fail) only [pgz, simprocAttr, ← er]) | ((with_reducible first | apply fB | apply dP | apply gY) <;> intro hc <;> (try simp only [hc]) <;> (try simp only [pgd] at hc)) | (with_reducible refine cK ?_)))
   exact rE []
  | succ j =>
   have hrj := vM h j
   have en : qG h (j + 1) = if Qe h j = 0 then 1 + qG h j else 1 := rfl
   have hix : (((j + 1 : Nat) : Int) - 1) = (j : Int) := by omega
   have hix2 : ((j : Int) + 1 - 1) = (j : Int) := by omega
   have hw : IntKind.u64.wrap (j : Int) = (j : Int) := U8 _ (by omega) (by omega)
   by_cases hb : Qe h j = 0
   ·rw [en, if_pos hb] at hq
    unfold Qe at hb
    refine wS (aI @hix (aI @hix2 (aI @hw @hb))) trivial ?_
    refine aQ (j, q + 1) [] [] ⟨by simp only; omega, by simp only; omega, by simp only; omega⟩ (by show j < j + 1; omega) ?_
    exact kE
   ·rw [en, if_neg hb] at hq
    have : q = qG h (64 - p).toNat := by omega
    subst this
    unfold Qe at hb
    (repeat' (first | (simp (disch := first | exact dqz | fail) only [pgz, simprocAttr, hix, hix2, hw, hb, ← er]) | ((with_reducible first | apply fB | apply dP | apply gY) <;> intro hc <;> (try simp only [hc]) <;> (try simp only [pgd] at hc)) | (with_reducible refine cK ?_)))
    exact rE []
def lF (l : Ll) (k : List Nat) (w : Int) : Ll × Int := if vLl l ≠ 0 then (Ll.o, vLl l) else if bD k w ≠ 0 then (Ll.o, bD k w) else (⟨l.p, l.s, l.r.set (zu l.p l.s k).toNat (max (l.r.getD (zu l.p l.s k).toNat 0) (UM l.p l.s k))⟩, 0)
theorem Xb {l : Ll} (h : vLl l = 0) : (2 ≤ l.p ∧ l.p ≤ 8) ∧ l.r.length = 2 ^ l.p.toNat ∧ fQ 0 (65 - l.p) l.r = true := by
 unfold vLl at h
 split at h
 ·cases h
 ·rename_i h1
  split at h
  ·cases h
  ·rename_i h2
   split at h
   ·rename_i h3
    exact ⟨Classical.byContradiction h1, Classical.byContradiction h2, h3⟩
   ·cases h
theorem Qg : wkV (.agg [vi 0, vu 0, nls]) (.agg (llF Ll.o)) := .inr ⟨_, _, rfl, rfl, ⟨.inl rfl, .inl rfl, kY _ _, trivial⟩⟩
theorem rV (x : Ll) (k : List Nat) (w : Int) (ho : oct k) (hx : x.r.length ≤ 1000000) : Pg.Good Tryz.prog 50 [.agg (llF x), .agg [vs k, vi w]] (.tup [.agg (llF (lF x k w).1), vi (lF x k w).2]) := by
 have h1 := jS x hx
 have h2 := aJ k w
 unfold lF
 by_cases c1 : vLl x = 0
 ·rw [if_neg (by omega)]
  rw [c1] at h1
  by_cases c2 : bD k w = 0
  ·rw [if_neg (by omega)]
   rw [c2] at h2
   obtain ⟨i1, i2, i3⟩ := Xb c1
   obtain ⟨j1, j2⟩ := jq c2
   have hr := CS x.p x.s k i1
   have hp := (nY i1).2
   have k1 := CU x.p x.s k ho i1 j2
   obtain ⟨p, s, l⟩ := x
   simp only at i1 i2 i3 hr hp k1 hx ⊢
   rw [← i2] at hr
   generalize zu p s k = rg at *
   generalize UM p s k = rk at *
   have hrn : rg.toNat < l.length := by omega
   have hg := jm l rg.toNat hrn
   generalize hgg : l.getD rg.toNat 0 = g at *
   have hil := ax l
   refine Good.fzt (vs := [.agg [vi p, vu s, .sl (.own 0 3) 1 (iv (l.set rg.toNat (max g rk)))], vi 0]) ?_ rfl ⟨aB _, aB _, trivial⟩
   refine gI oW Tryz.func50 Tryz.results50 ?_
   exact wR (aI @ax (aI @hg @zf)) (aI h1 (aI h2 k1)) (ids [3])
  ·rw [if_pos (by omega)]
   refine Good.fzt (vs := [.agg [vi 0, vu 0, nls], vi (bD k w)]) ?_ rfl ⟨Qg, aB _, trivial⟩
   refine gI oW Tryz.func50 Tryz.results50 ?_
   exact wR trivial (aI h1 h2) ae
 ·rw [if_pos (by omega)]
  refine Good.fzt (vs := [.agg [vi 0, vu 0, nls], vi (vLl x)]) ?_ rfl ⟨Qg, aB _, trivial⟩
  refine gI oW Tryz.func50 Tryz.results50 ?_
  exact wR trivial h1 ae
theorem jy {α : Type} (l : List α) (i : Nat) (d : α) (h : i < l.length) : l.getD i d ∈ l := by rw [List.getD_eq_getElem?_getD, List.getElem?_eq_getElem h]; exact List.getElem_mem h
theorem sV {α : Type} (d : α) {a b : List α} {i : Nat} (ha : i < a.length) (hb : i < b.length) (h : a.take i = b.take i) (he : a.getD i d = b.getD i d) : a.take (i + 1) = b.take (i + 1) := by
 rw [List.take_succ_eq_append_getElem ha, List.take_succ_eq_append_getElem hb, h]
 simp only [List.getD, List.getElem?_eq_getElem ha, List.getElem?_eq_getElem hb, Option.getD_some] at he
 rw [he]
theorem zx {α : Type} {a b : List α} (hl : a.length = b.length) (h : a.take a.length = b.take a.length) : a = b := by
 rw [List.take_length, hl, List.take_length] at h
 exact h
theorem bP (b : Bool) : (b == b) = true := by cases b <;> rfl
theorem GX (b : Bool) : (b != b) = false := by cases b <;> rfl
theorem GY {a b : Bool} (h : a ≠ b) : (a == b) = false := by cases a <;> cases b <;> first | rfl | exact absurd rfl h
theorem Yd {a b : Bool} (h : a ≠ b) : (a != b) = true := by cases a <;> cases b <;> first | rfl | exact absurd rfl h
theorem sW (a : ByteArray) : decide (a = a) = true := decide_eq_true rfl
theorem qZ (a b : List Int) (hn : a.length ≤ 1000000) (hn2 : b.length ≤ 1000000) : Pg.Good Tryz.prog 147 [fzi a, fzi b] (vb (decide (a = b))) := by
 have hal := ax a
 have hbl := ax b
 by_cases hl : a.length = b.length
 ·refine gI oW Tryz.func147 Tryz.results147 ?_
  refine wS (aI @hal @hbl) trivial ?_
  refine aK (fun i : Nat => mkA [(0, fzi a), (1, fzi b), (5, vi i)] [] 0 (fun _ => .top)) (fun i => i ≤ a.length ∧ a.take i = b.take i) (fun i => a.length - i) 0 [] [] ?_ ⟨Nat.zero_le _, rfl⟩ ?_
  ·exact kE
  ·rintro i ⟨hi, he⟩
   rcases Nat.lt_or_ge i a.length with hlt | hge
   ·have hg := jm a i hlt
    have hg2 := jm b i (by omega)
    have hx := sV (0 : Int) hlt (by omega) he
    by_cases q : a.getD i 0 = b.getD i 0
    ·have hx' := hx q
     generalize a.getD i 0 = x at *
     generalize b.getD i 0 = y at *
     refine wS (aI @hal (aI @hbl (aI @hg @hg2))) trivial ?_
     exact bE (i + 1) [] [] ⟨hlt, hx'⟩
    ·rw [decide_eq_false (fun h => q (by rw [h]))]
     generalize a.getD i 0 = x at *
     generalize b.getD i 0 = y at *
     exact wR (aI @hal (aI @hbl (aI @hg @hg2))) trivial ae
   ·have : i = a.length := by omega
    subst this
    rw [decide_eq_true (zx hl he)]
    exact wR (aI @hal @hbl) trivial ae
 ·rw [decide_eq_false (fun h => hl (by rw [h]))]
  refine gI oW Tryz.func147 Tryz.results147 ?_
  exact wR (aI @hal @hbl) trivial ae
theorem mi (a b : List En) (ha : octE a) (hb : octE b) (hn : a.length ≤ 1000000) (hn2 : b.length ≤ 1000000) : Pg.Good Tryz.prog 148 [fzv a, fzv b] (vb (decide (a = b))) := by
 have hal := aj a
 have hbl := aj b
 by_cases hl : a.length = b.length
 ·refine gI oW Tryz.func148 Tryz.results148 ?_
  refine wS (aI @hal @hbl) trivial ?_
  refine aK (fun i : Nat => mkA [(0, fzv a), (1, fzv b), (5, vi i)] [] 0 (fun _ => .top)) (fun i => i ≤ a.length ∧ a.take i = b.take i) (fun i => a.length - i) 0 [] [] ?_ ⟨Nat.zero_le _, rfl⟩ ?_
  ·exact kE
  ·rintro i ⟨hi, he⟩
   rcases Nat.lt_or_ge i a.length with hlt | hge
   ·have hg := dw a i hlt
    have hg2 := dw b i (by omega)
    have hx := sV (([], 0, 0) : En) hlt (by omega) he
    have o1 := eu ha i
    have o2 := eu hb i
    by_cases q : a.getD i ([], 0, 0) = b.getD i ([], 0, 0)
    ·have hx' := hx q
     rw [← q] at hg2
     generalize a.getD i ([], 0, 0) = x at *
     obtain ⟨k, c, e⟩ := x
     refine wS (aI @hal (aI @hbl (aI @hg (aI @hg2 (aI @sW (aI @Bool.not_true (aI @Bool.and_true @Bool.true_and))))))) trivial ?_
     exact bE (i + 1) [] [] ⟨hlt, hx'⟩
    ·rw [decide_eq_false (fun h => q (by rw [h]))]
     generalize a.getD i ([], 0, 0) = x at *
     generalize b.getD i ([], 0, 0) = y at *
     obtain ⟨k, c, e⟩ := x
     obtain ⟨k', c', e'⟩ := y
     simp only at hg hg2 o1 o2
     by_cases q1 : k = k'
     ·subst q1
      by_cases q2 : c = c'
      ·subst q2
       have q3 : e ≠ e' := fun h => q (by rw [h])
       exact wR (aI @hal (aI @hbl (aI @hg (aI @hg2 (aI @sW (aI @Bool.not_true (aI @Bool.not_false (aI @Bool.and_true (aI @Bool.true_and (aI @Bool.false_and @Bool.and_false)))))))))) trivial ae
      ·exact wR (aI @hal (aI @hbl (aI @hg (aI @hg2 (aI @sW (aI @Bool.not_true (aI @Bool.not_false (aI @Bool.and_true (aI @Bool.true_and (aI @Bool.false_and @Bool.and_false)))))))))) trivial ae
     ·have q4 : decide (sB k = sB k') = false := by rw [uQ o1 o2]; exact decide_eq_false q1
      exact wR (aI @hal (aI @hbl (aI @hg (aI @hg2 (aI @q4 (aI @Bool.not_true (aI @Bool.not_false (aI @Bool.and_true (aI @Bool.true_and (aI @Bool.false_and @Bool.and_false)))))))))) trivial ae
   ·have : i = a.length := by omega
    subst this
    rw [decide_eq_true (zx hl he)]
    exact wR (aI @hal @hbl) trivial ae
 ·rw [decide_eq_false (fun h => hl (by rw [h]))]
  refine gI oW Tryz.func148 Tryz.results148 ?_
  exact wR (aI @hal @hbl) trivial ae
def ny (a b : Cm) : Bool := decide (a.d = b.d ∧ a.z = b.z ∧ a.s = b.s ∧ a.b = b.b ∧ a.c = b.c)
theorem rW (a b : Cm) (hn : a.c.length ≤ 1000000) (hn2 : b.c.length ≤ 1000000) : Pg.Good Tryz.prog 54 [.agg (cmF a), .agg (cmF b)] (vb (ny a b)) := by
 have k1 := qZ a.c b.c hn hn2
 unfold ny
 by_cases q0 : a.d = b.d
 ·by_cases q1 : a.z = b.z
  ·by_cases q2 : a.s = b.s
   ·by_cases q3 : a.b = b.b
    ·by_cases q4 : a.c = b.c
     ·rw [decide_eq_true ⟨q0, q1, q2, q3, q4⟩]
      rw [decide_eq_true q4] at k1
      obtain ⟨d1, z1, s1, c1, b1⟩ := a
      obtain ⟨d2, z2, s2, c2, b2⟩ := b
      simp only at *
      try subst q3
      refine gI oW Tryz.func54 Tryz.results54 ?_
      exact wR (aI @bP (aI @Bool.not_true (aI @Bool.not_false (aI @Bool.and_true (aI @Bool.true_and (aI @Bool.false_and @Bool.and_false)))))) k1 ae
     ·rw [decide_eq_false (fun h => q4 h.2.2.2.2)]
      rw [decide_eq_false q4] at k1
      obtain ⟨d1, z1, s1, c1, b1⟩ := a
      obtain ⟨d2, z2, s2, c2, b2⟩ := b
      simp only at *
      try subst q3
      refine gI oW Tryz.func54 Tryz.results54 ?_
      exact wR (aI @bP (aI @Bool.not_true (aI @Bool.not_false (aI @Bool.and_true (aI @Bool.true_and (aI @Bool.false_and @Bool.and_false)))))) k1 ae
    ·rw [decide_eq_false (fun h => q3 h.2.2.2.1)]
     have hb := GY q3
     obtain ⟨d1, z1, s1, c1, b1⟩ := a
     obtain ⟨d2, z2, s2, c2, b2⟩ := b
     simp only at *
     try subst q3
     refine gI oW Tryz.func54 Tryz.results54 ?_
     exact wR (aI @bP (aI @Bool.not_true (aI @Bool.not_false (aI @Bool.and_true (aI @Bool.true_and (aI @Bool.false_and (aI @Bool.and_false @hb))))))) k1 ae
   ·rw [decide_eq_false (fun h => q2 h.2.2.1)]
    obtain ⟨d1, z1, s1, c1, b1⟩ := a
    obtain ⟨d2, z2, s2, c2, b2⟩ := b
    simp only at *
    try subst q3
    refine gI oW Tryz.func54 Tryz.results54 ?_
    exact wR (aI @bP (aI @Bool.not_true (aI @Bool.not_false (aI @Bool.and_true (aI @Bool.true_and (aI @Bool.false_and @Bool.and_false)))))) k1 ae
  ·rw [decide_eq_false (fun h => q1 h.2.1)]
   obtain ⟨d1, z1, s1, c1, b1⟩ := a
   obtain ⟨d2, z2, s2, c2, b2⟩ := b
   simp only at *
   try subst q3
   refine gI oW Tryz.func54 Tryz.results54 ?_
   exact wR (aI @bP (aI @Bool.not_true (aI @Bool.not_false (aI @Bool.and_true (aI @Bool.true_and (aI @Bool.false_and @Bool.and_false)))))) k1 ae
 ·rw [decide_eq_false (fun h => q0 h.1)]
  obtain ⟨d1, z1, s1, c1, b1⟩ := a
  obtain ⟨d2, z2, s2, c2, b2⟩ := b
  simp only at *
  try subst q3
  refine gI oW Tryz.func54 Tryz.results54 ?_
  exact wR (aI @bP (aI @Bool.not_true (aI @Bool.not_false (aI @Bool.and_true (aI @Bool.true_and (aI @Bool.false_and @Bool.and_false)))))) k1 ae
def nz (a b : Ll) : Bool := decide (a.p = b.p ∧ a.s = b.s ∧ a.r = b.r)
theorem wQ (a b : Ll) (hn : a.r.length ≤ 1000000) (hn2 : b.r.length ≤ 1000000) : Pg.Good Tryz.prog 55 [.agg (llF a), .agg (llF b)] (vb (nz a b)) := by
 have k1 := qZ a.r b.r hn hn2
 unfold nz
 by_cases q0 : a.p = b.p
 ·by_cases q1 : a.s = b.s
  ·by_cases q2 : a.r = b.r
   ·rw [decide_eq_true ⟨q0, q1, q2⟩]
    rw [decide_eq_true q2] at k1
    obtain ⟨p1, s1, r1⟩ := a
    obtain ⟨p2, s2, r2⟩ := b
    simp only at *
    refine gI oW Tryz.func55 Tryz.results55 ?_
    exact wR (aI @bP (aI @Bool.not_true (aI @Bool.not_false (aI @Bool.and_true (aI @Bool.true_and (aI @Bool.false_and @Bool.and_false)))))) k1 ae
   ·rw [decide_eq_false (fun h => q2 h.2.2)]
    rw [decide_eq_false q2] at k1
    obtain ⟨p1, s1, r1⟩ := a
    obtain ⟨p2, s2, r2⟩ := b
    simp only at *
    refine gI oW Tryz.func55 Tryz.results55 ?_
    exact wR (aI @bP (aI @Bool.not_true (aI @Bool.not_false (aI @Bool.and_true (aI @Bool.true_and (aI @Bool.false_and @Bool.and_false)))))) k1 ae
  ·rw [decide_eq_false (fun h => q1 h.2.1)]
   obtain ⟨p1, s1, r1⟩ := a
   obtain ⟨p2, s2, r2⟩ := b
   simp only at *
   refine gI oW Tryz.func55 Tryz.results55 ?_
   exact wR (aI @bP (aI @Bool.not_true (aI @Bool.not_false (aI @Bool.and_true (aI @Bool.true_and (aI @Bool.false_and @Bool.and_false)))))) k1 ae
 ·rw [decide_eq_false (fun h => q0 h.1)]
  obtain ⟨p1, s1, r1⟩ := a
  obtain ⟨p2, s2, r2⟩ := b
  simp only at *
  refine gI oW Tryz.func55 Tryz.results55 ?_
  exact wR (aI @bP (aI @Bool.not_true (aI @Bool.not_false (aI @Bool.and_true (aI @Bool.true_and (aI @Bool.false_and @Bool.and_false)))))) k1 ae
def nC (a b : Tp) : Bool := decide (a.z = b.z ∧ a.t = b.t ∧ a.b = b.b ∧ a.e = b.e)
theorem FI (a b : Tp) (ho : octE a.e) (ho2 : octE b.e) (hn : a.e.length ≤ 1000000) (hn2 : b.e.length ≤ 1000000) : Pg.Good Tryz.prog 56 [.agg (tpF a), .agg (tpF b)] (vb (nC a b)) := by
 have k1 := mi a.e b.e ho ho2 hn hn2
 unfold nC
 by_cases q0 : a.z = b.z
 ·by_cases q1 : a.t = b.t
  ·by_cases q2 : a.b = b.b
   ·by_cases q3 : a.e = b.e
    ·rw [decide_eq_true ⟨q0, q1, q2, q3⟩]
     rw [decide_eq_true q3] at k1
     obtain ⟨z1, t1, e1, b1⟩ := a
     obtain ⟨z2, t2, e2, b2⟩ := b
     simp only at *
     try subst q2
     refine gI oW Tryz.func56 Tryz.results56 ?_
     exact wR (aI @bP (aI @Bool.not_true (aI @Bool.not_false (aI @Bool.and_true (aI @Bool.true_and (aI @Bool.false_and @Bool.and_false)))))) k1 ae
    ·rw [decide_eq_false (fun h => q3 h.2.2.2)]
     rw [decide_eq_false q3] at k1
     obtain ⟨z1, t1, e1, b1⟩ := a
     obtain ⟨z2, t2, e2, b2⟩ := b
     simp only at *
     try subst q2
     refine gI oW Tryz.func56 Tryz.results56 ?_
     exact wR (aI @bP (aI @Bool.not_true (aI @Bool.not_false (aI @Bool.and_true (aI @Bool.true_and (aI @Bool.false_and @Bool.and_false)))))) k1 ae
   ·rw [decide_eq_false (fun h => q2 h.2.2.1)]
    have hb := GY q2
    obtain ⟨z1, t1, e1, b1⟩ := a
    obtain ⟨z2, t2, e2, b2⟩ := b
    simp only at *
    try subst q2
    refine gI oW Tryz.func56 Tryz.results56 ?_
    exact wR (aI @bP (aI @Bool.not_true (aI @Bool.not_false (aI @Bool.and_true (aI @Bool.true_and (aI @Bool.false_and (aI @Bool.and_false @hb))))))) k1 ae
  ·rw [decide_eq_false (fun h => q1 h.2.1)]
   obtain ⟨z1, t1, e1, b1⟩ := a
   obtain ⟨z2, t2, e2, b2⟩ := b
   simp only at *
   try subst q2
   refine gI oW Tryz.func56 Tryz.results56 ?_
   exact wR (aI @bP (aI @Bool.not_true (aI @Bool.not_false (aI @Bool.and_true (aI @Bool.true_and (aI @Bool.false_and @Bool.and_false)))))) k1 ae
 ·rw [decide_eq_false (fun h => q0 h.1)]
  obtain ⟨z1, t1, e1, b1⟩ := a
  obtain ⟨z2, t2, e2, b2⟩ := b
  simp only at *
  try subst q2
  refine gI oW Tryz.func56 Tryz.results56 ?_
  exact wR (aI @bP (aI @Bool.not_true (aI @Bool.not_false (aI @Bool.and_true (aI @Bool.true_and (aI @Bool.false_and @Bool.and_false)))))) k1 ae
def nD (a b : Fq) : Bool := decide (a.z = b.z ∧ a.t = b.t ∧ a.l = b.l ∧ a.b = b.b ∧ a.e = b.e)
theorem rX (a b : Fq) (ho : octE a.e) (ho2 : octE b.e) (hn : a.e.length ≤ 1000000) (hn2 : b.e.length ≤ 1000000) : Pg.Good Tryz.prog 57 [.agg (fqF a), .agg (fqF b)] (vb (nD a b)) := by
 have k1 := mi a.e b.e ho ho2 hn hn2
 unfold nD
 by_cases q0 : a.z = b.z
 ·by_cases q1 : a.t = b.t
  ·by_cases q2 : a.l = b.l
   ·by_cases q3 : a.b = b.b
    ·by_cases q4 : a.e = b.e
     ·rw [decide_eq_true ⟨q0, q1, q2, q3, q4⟩]
      rw [decide_eq_true q4] at k1
      obtain ⟨z1, t1, l1, e1, b1⟩ := a
      obtain ⟨z2, t2, l2, e2, b2⟩ := b
      simp only at *
      try subst q3
      refine gI oW Tryz.func57 Tryz.results57 ?_
      exact wR (aI @bP (aI @Bool.not_true (aI @Bool.not_false (aI @Bool.and_true (aI @Bool.true_and (aI @Bool.false_and @Bool.and_false)))))) k1 ae
     ·rw [decide_eq_false (fun h => q4 h.2.2.2.2)]
      rw [decide_eq_false q4] at k1
      obtain ⟨z1, t1, l1, e1, b1⟩ := a
      obtain ⟨z2, t2, l2, e2, b2⟩ := b
      simp only at *
      try subst q3
      refine gI oW Tryz.func57 Tryz.results57 ?_
      exact wR (aI @bP (aI @Bool.not_true (aI @Bool.not_false (aI @Bool.and_true (aI @Bool.true_and (aI @Bool.false_and @Bool.and_false)))))) k1 ae
    ·rw [decide_eq_false (fun h => q3 h.2.2.2.1)]
     have hb := GY q3
     obtain ⟨z1, t1, l1, e1, b1⟩ := a
     obtain ⟨z2, t2, l2, e2, b2⟩ := b
     simp only at *
     try subst q3
     refine gI oW Tryz.func57 Tryz.results57 ?_
     exact wR (aI @bP (aI @Bool.not_true (aI @Bool.not_false (aI @Bool.and_true (aI @Bool.true_and (aI @Bool.false_and (aI @Bool.and_false @hb))))))) k1 ae
   ·rw [decide_eq_false (fun h => q2 h.2.2.1)]
    obtain ⟨z1, t1, l1, e1, b1⟩ := a
    obtain ⟨z2, t2, l2, e2, b2⟩ := b
    simp only at *
    try subst q3
    refine gI oW Tryz.func57 Tryz.results57 ?_
    exact wR (aI @bP (aI @Bool.not_true (aI @Bool.not_false (aI @Bool.and_true (aI @Bool.true_and (aI @Bool.false_and @Bool.and_false)))))) k1 ae
  ·rw [decide_eq_false (fun h => q1 h.2.1)]
   obtain ⟨z1, t1, l1, e1, b1⟩ := a
   obtain ⟨z2, t2, l2, e2, b2⟩ := b
   simp only at *
   try subst q3
   refine gI oW Tryz.func57 Tryz.results57 ?_
   exact wR (aI @bP (aI @Bool.not_true (aI @Bool.not_false (aI @Bool.and_true (aI @Bool.true_and (aI @Bool.false_and @Bool.and_false)))))) k1 ae
 ·rw [decide_eq_false (fun h => q0 h.1)]
  obtain ⟨z1, t1, l1, e1, b1⟩ := a
  obtain ⟨z2, t2, l2, e2, b2⟩ := b
  simp only at *
  try subst q3
  refine gI oW Tryz.func57 Tryz.results57 ?_
  exact wR (aI @bP (aI @Bool.not_true (aI @Bool.not_false (aI @Bool.and_true (aI @Bool.true_and (aI @Bool.false_and @Bool.and_false)))))) k1 ae
def nG (a b : Rk) : Bool := decide (a.z = b.z ∧ a.t = b.t ∧ a.l = b.l ∧ a.b = b.b ∧ a.v = b.v)
theorem zy (a b : Rk) (ha : ∀ l ∈ a.v, octL l) (hb : ∀ l ∈ b.v, octL l) (hn : a.v.length ≤ 1000000) (hn2 : b.v.length ≤ 1000000) (hm : ∀ l ∈ a.v, l.length ≤ 1000000) (hm2 : ∀ l ∈ b.v, l.length ≤ 1000000) : Pg.Good Tryz.prog 58 [.agg (rkF a), .agg (rkF b)] (vb (nG a b)) := by
 have hA : ∀ i, octL (a.v.getD i []) ∧ (a.v.getD i []).length ≤ 1000000 := fun i => by
  rcases Nat.lt_or_ge i a.v.length with hi | hi
  ·exact ⟨ha _ (jy _ _ _ hi), hm _ (jy _ _ _ hi)⟩
  ·rw [List.getD, List.getElem?_eq_none hi]; exact ⟨(fun e he => by cases he), by simp⟩
 have hB : ∀ i, octL (b.v.getD i []) ∧ (b.v.getD i []).length ≤ 1000000 := fun i => by
  rcases Nat.lt_or_ge i b.v.length with hi | hi
  ·exact ⟨hb _ (jy _ _ _ hi), hm2 _ (jy _ _ _ hi)⟩
  ·rw [List.getD, List.getElem?_eq_none hi]; exact ⟨(fun e he => by cases he), by simp⟩
 unfold nG
 obtain ⟨z, t, l, v, bb⟩ := a
 obtain ⟨z', t', l', v', bb'⟩ := b
 simp only at *
 have hal := aS v
 have hbl := aS v'
 generalize hD : decide (z = z' ∧ t = t' ∧ l = l' ∧ bb = bb' ∧ v = v') = D
 by_cases q0 : z = z'
 ·by_cases q1 : t = t'
  ·by_cases q2 : l = l'
   ·by_cases q3 : bb = bb'
    ·by_cases q4 : v.length = v'.length
     ·subst q3
      refine gI oW Tryz.func58 Tryz.results58 ?_
      refine wS (aI @GX (aI @hal (aI @hbl (aI @Bool.not_true (aI @Bool.not_false (aI @Bool.and_true (aI @Bool.true_and (aI @Bool.false_and @Bool.and_false)))))))) trivial ?_
      refine aK (fun i : Nat => mkA [(2, .ref 0 0), (3, .ref 1 0), (5, vi i)] [(0, (39, rkF ⟨z, t, l, v, bb⟩)), (1, (39, rkF ⟨z', t', l', v', bb⟩))] 2 (fun _ => .top)) (fun i => i ≤ v.length ∧ v.take i = v'.take i) (fun i => v.length - i) 0 [] [0, 1] ?_ ⟨Nat.zero_le _, rfl⟩ ?_
      ·exact kE
      ·rintro i ⟨hi, he⟩
       rcases Nat.lt_or_ge i v.length with hlt | hge
       ·have hg := jo v i hlt
        have hg2 := jo v' i (by omega)
        have hx := sV ([] : List (List Nat)) hlt (by omega) he
        have o1 := hA i
        have o2 := hB i
        have hne : v.getD i [] ≠ v'.getD i [] → v ≠ v' := fun h h2 => h (by rw [h2])
        generalize v.getD i [] = x at *
        generalize v'.getD i [] = y at *
        have hxl := bU x
        have hyl := bU y
        by_cases q5 : x.length = y.length
        ·refine wS (aI @hal (aI @hbl (aI @hg (aI @hg2 (aI @hxl @hyl))))) trivial ?_
         refine aK (fun j : Nat => mkA [(2, .ref 0 0), (3, .ref 1 0), (5, vi i), (6, vi j)] [(0, (39, rkF ⟨z, t, l, v, bb⟩)), (1, (39, rkF ⟨z', t', l', v', bb⟩))] 2 (fun _ => .top)) (fun j => j ≤ x.length ∧ x.take j = y.take j) (fun j => x.length - j) 0 [] [0, 1] ?_ ⟨Nat.zero_le _, rfl⟩ ?_
         ·exact kE
         ·rintro j ⟨hj, he2⟩
          rcases Nat.lt_or_ge j x.length with hlt2 | hge2
          ·have hh := iJ x j hlt2
           have hh2 := iJ y j (by omega)
           have hx2 := sV ([] : List Nat) hlt2 (by omega) he2
           have p1 := l7 o1.1 j
           have p2 := l7 o2.1 j
           have hne2 : x.getD j [] ≠ y.getD j [] → x ≠ y := fun h h2 => h (by rw [h2])
           generalize x.getD j [] = k at *
           generalize y.getD j [] = k' at *
           by_cases q6 : k = k'
           ·subst q6
            refine wS (aI @hal (aI @hbl (aI @hg (aI @hg2 (aI @hxl (aI @hyl (aI @hh (aI @hh2 (aI @sW (aI @Bool.not_true @Bool.not_false)))))))))) trivial ?_
            exact bE (j + 1) [] [0, 1] ⟨hlt2, hx2 rfl⟩
           ·have q7 : decide (sB k = sB k') = false := by rw [uQ p1 p2]; exact decide_eq_false q6
            rw [← hD, decide_eq_false (fun h => hne (hne2 q6) h.2.2.2.2)]
            exact wR (aI @hal (aI @hbl (aI @hg (aI @hg2 (aI @hxl (aI @hyl (aI @hh (aI @hh2 (aI @q7 (aI @Bool.not_true @Bool.not_false)))))))))) trivial ae
          ·have : j = x.length := by omega
           subst this
           have hxy := zx q5 he2
           refine wS (aI @hal (aI @hbl (aI @hg (aI @hg2 (aI @hxl @hyl))))) trivial ?_
           exact bE (i + 1) [] [0, 1] ⟨hlt, hx hxy⟩
        ·rw [← hD, decide_eq_false (fun h => hne (fun h2 => q5 (by rw [h2])) h.2.2.2.2)]
         exact wR (aI @hal (aI @hbl (aI @hg (aI @hg2 (aI @hxl @hyl))))) trivial ae
       ·have : i = v.length := by omega
        subst this
        rw [← hD, decide_eq_true ⟨q0, q1, q2, rfl, zx q4 he⟩]
        exact wR (aI @hal @hbl) trivial ae
     ·rw [← hD, decide_eq_false (fun h => q4 (by rw [h.2.2.2.2]))]
      subst q3
      refine gI oW Tryz.func58 Tryz.results58 ?_
      exact wR (aI @GX (aI @hal (aI @hbl (aI @Bool.not_true (aI @Bool.not_false (aI @Bool.and_true (aI @Bool.true_and (aI @Bool.false_and @Bool.and_false)))))))) trivial ae
    ·rw [← hD, decide_eq_false (fun h => q3 h.2.2.2.1)]
     have hq := Yd q3
     have hq2 := GY q3
     refine gI oW Tryz.func58 Tryz.results58 ?_
     exact wR (aI @hq (aI @hq2 (aI @hal (aI @hbl (aI @Bool.not_true (aI @Bool.not_false (aI @Bool.and_true (aI @Bool.true_and (aI @Bool.false_and @Bool.and_false))))))))) trivial ae
   ·rw [← hD, decide_eq_false (fun h => q2 h.2.2.1)]
    refine gI oW Tryz.func58 Tryz.results58 ?_
    exact wR (aI @hal (aI @hbl (aI @Bool.not_true (aI @Bool.not_false (aI @Bool.and_true (aI @Bool.true_and (aI @Bool.false_and @Bool.and_false))))))) trivial ae
  ·rw [← hD, decide_eq_false (fun h => q1 h.2.1)]
   refine gI oW Tryz.func58 Tryz.results58 ?_
   exact wR (aI @hal (aI @hbl (aI @Bool.not_true (aI @Bool.not_false (aI @Bool.and_true (aI @Bool.true_and (aI @Bool.false_and @Bool.and_false))))))) trivial ae
 ·rw [← hD, decide_eq_false (fun h => q0 h.1)]
  refine gI oW Tryz.func58 Tryz.results58 ?_
  exact wR (aI @hal (aI @hbl (aI @Bool.not_true (aI @Bool.not_false (aI @Bool.and_true (aI @Bool.true_and (aI @Bool.false_and @Bool.and_false))))))) trivial ae
end Go.Proofs.YtaoejnjkmfkbeaaGreat
