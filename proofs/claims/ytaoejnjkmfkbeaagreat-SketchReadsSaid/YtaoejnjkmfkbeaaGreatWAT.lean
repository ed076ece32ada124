/-
  Texts of this claim, merged; own names are short.
-/
import Derived.Test.YtaoejnjkmfkbeaaGreatWAS
set_option linter.unusedVariables false
set_option linter.unusedSimpArgs false
set_option linter.unusedSectionVars false
set_option linter.defProp false
set_option maxRecDepth 100000
set_option maxHeartbeats 8000000
namespace Go.Proofs.YtaoejnjkmfkbeaaGreat
open Go Go.Pg
def EU (c : Cm) (k : List Nat) (w : Int) (row : Nat) : Cm :=
 ⟨c.d, c.z, c.s, c.c.set (vO c.s c.z row k).toNat (lX (c.c.getD (vO c.s c.z row k).toNat 0) w 4294967295).1, c.b || (lX (c.c.getD (vO c.s c.z row k).toNat 0) w 4294967295).2⟩
def gB (c : Cm) (k : List Nat) (w : Int) : Nat → Cm
 | 0 => c
 | n + 1 => EU (gB c k w n) k w n
theorem V7 (a b m : Int) (hm : 0 ≤ m) : 0 ≤ (lX a b m).1 ∧ (lX a b m).1 ≤ m := by
 have h1 := jF a
 have h2 := jF b
 have h3 := Ny hm
 unfold lX
 split
 ·simp only; omega
 ·simp only; omega
theorem IE (c : Cm) (k : List Nat) (w : Int) (n : Nat) : (gB c k w n).d = c.d ∧ (gB c k w n).z = c.z ∧ (gB c k w n).s = c.s ∧ (gB c k w n).c.length = c.c.length := by
 induction n with
 | zero => exact ⟨rfl, rfl, rfl, rfl⟩
 | succ n ih => simp only [gB, EU, List.length_set]; exact ih
theorem QA {a b : Int} {l : List Int} (h : jR a b l = true) (i : Nat) (n : Int) (hn : a ≤ n ∧ n ≤ b) : jR a b (l.set i n) = true := by
 unfold jR at *
 rw [List.all_eq_true] at *
 intro x hx
 rcases List.mem_or_eq_of_mem_set hx with h1 | rfl
 ·exact h x h1
 ·exact decide_eq_true hn
theorem QB (c : Cm) (k : List Nat) (w : Int) (h : jR 0 4294967295 c.c = true) (n : Nat) : jR 0 4294967295 (gB c k w n).c = true := by
 induction n with
 | zero => exact h
 | succ n ih => exact QA ih _ _ (V7 _ _ _ (by decide))
def tJ (c : Cm) (k : List Nat) (w : Int) : Cm × Int := if vCm c ≠ 0 then (Cm.o, vCm c) else if dW k w ≠ 0 then (Cm.o, dW k w) else (gB c k w c.d.toNat, 0)
theorem xI {c : Cm} (h : vCm c = 0) : (1 ≤ c.d ∧ c.d ≤ 8) ∧ (1 ≤ c.z ∧ c.z ≤ 64) ∧ (c.c.length : Int) = c.d * c.z ∧ jR 0 4294967295 c.c = true := by
 unfold vCm at h
 split at h
 ·cases h
 ·rename_i h1
  split at h
  ·cases h
  ·rename_i h2
   split at h
   ·rename_i h3
    have h1 : 1 ≤ c.d ∧ c.d ≤ 8 ∧ 1 ≤ c.z ∧ c.z ≤ 64 := Classical.byContradiction h1
    exact ⟨by omega, by omega, by omega, h3⟩
   ·cases h
theorem V8 : wkV (.agg [vi 0, vi 0, vu 0, nls, vb false]) (.agg (cmF Cm.o)) := .inr ⟨_, _, rfl, rfl, ⟨.inl rfl, .inl rfl, .inl rfl, jM _ _, .inl rfl, trivial⟩⟩
theorem vP (c : Cm) (k : List Nat) (w : Int) (ho : oct k) : Pg.Good Tryz.prog 49 [.agg (cmF c), .agg [vs k, vi w]] (.tup [.agg (cmF (tJ c k w).1), vi (tJ c k w).2]) := by
 have h1 := jA c
 have h2 := bZ k w
 unfold tJ
 by_cases c1 : vCm c = 0
 ·rw [if_neg (by omega)]
  rw [c1] at h1
  by_cases c2 : dW k w = 0
  ·rw [if_neg (by omega)]
   rw [c2] at h2
   obtain ⟨i1, i2, i3, i4⟩ := xI c1
   obtain ⟨j1, j2⟩ := ng c2
   have hm := oN i1 i2
   have hd := IE c k w
   have hin := QB c k w i4
   have hcell := fun (r : Nat) (hr : (r : Int) < c.d) => DD c.s c.z r c.d k i2.1 ⟨by omega, hr⟩
   have e0 : gB c k w 0 = c := rfl
   have es : ∀ n, gB c k w (n + 1) = EU (gB c k w n) k w n := fun _ => rfl
   have hcl := fun (n : Nat) (hn : (n : Int) ≤ 7) => aaO (gB c k w n) n k ho (by omega) (by rw [(hd n).2.1]; exact i2) j2
   have ec : cmF (gB c k w c.d.toNat) = [vi c.d, vi c.z, vu c.s, fzi (gB c k w c.d.toNat).c, vb (gB c k w c.d.toNat).b] := by
    show [vi (gB c k w c.d.toNat).d, vi (gB c k w c.d.toNat).z, vu (gB c k w c.d.toNat).s, _, _] = _
    rw [(hd _).1, (hd _).2.1, (hd _).2.2.1]
   refine Good.fzt (vs := [.agg [vi c.d, vi c.z, vu c.s, .sl (.own 0 3) 1 (iv (gB c k w c.d.toNat).c), vb (gB c k w c.d.toNat).b], vi 0]) ?_ rfl (by simp only; rw [ec]; exact ⟨aj _, aj _, trivial⟩)
   generalize hR : gB c k w = R at *
   obtain ⟨d, z, s, l, b⟩ := c
   simp only at i1 i2 i3 i4 hd hcell e0 ⊢
   have hil := bC l
   refine gI oW Tryz.func49 Tryz.results49 ?_
   refine wS @bC (aI h1 h2) ?_
   refine bn (fun r : Nat => mkA [(2, .ref 0 0), (3, .ref 1 0), (4, .ref 2 0), (8, vi r)] [(0, (29, [vi d, vi z, vu s, .sl (.own 0 3) 1 (iv (R r).c), vb (R r).b])), (1, (45, [vs k, vi w])), (2, (29, [vi 0, vi 0, vu 0, nls, vb false]))] 3 (fun _ => .top)) (fun r => r ≤ d.toNat) (fun r => d.toNat - r) 0 [3] [0, 1, 2] ?_ (Nat.zero_le _) ?_
   ·(refine aN ?_ ?_ (bG _ _ _) (by decide) (by decide) (by decide) (by decide); (repeat' (first | exact trivial | refine aG _ _ rfl rfl ?_ ?_)); all_goals (try simp only [pgs, pgl, pgx, pgf, pgw, ay, aJ, az, aK, aZ, bV, bD, pgn, simprocAttr]); all_goals (try (repeat' (first | apply aI))); all_goals (try (first | exact trivial | exact au (by omega) | exact aU rfl | exact ak rfl rfl | exact bg rfl)))
    all_goals first | (exact ak rfl (by rw [e0])) | (exact aU (by rw [e0])) | skip
   ·intro r hr
    replace hr : r ≤ d.toNat := hr
    rcases Nat.lt_or_ge r d.toNat with hlt | hge
    ·have hrd : (r : Int) < d := by omega
     have hq := hcell r hrd
     have hk1 := hcl r (by omega)
     obtain ⟨d1, d2, d3, d4⟩ := hd r
     have hRr := es r
     have hinr := hin r
     generalize hR1 : R r = q at *
     obtain ⟨qd, qz, qs, ql, qb⟩ := q
     simp only at d1 d2 d3 d4 hk1 hinr hRr
     subst d1
     subst d2
     subst d3
     rw [EU] at hRr
     simp only at hRr
     generalize hcc : vO qs qz (r : Int) k = ci at *
     have hcn : ci.toNat < ql.length := by omega
     have hg := gQ ql ci.toNat hcn
     have hgin := pI hinr hcn
     generalize hgg : ql.getD ci.toNat 0 = g at *
     have hadd := EO g w 4294967295 (by decide) (by unfold W64; omega) (by unfold W64; omega)
     generalize lX g w 4294967295 = a at *
     obtain ⟨a1, a2⟩ := a
     simp only at hadd hRr
     have hql := bC ql
     cases qb
     ·cases a2
      ·refine wS (aI @bC (aI @hg @EM)) (aI hk1 hadd) ?_
       (refine bu (r + 1) [0] [0, 1, 2] (hlt) (by first | omega | (simp only [List.length_cons]; omega)) ?_; (refine aN ?_ ?_ (bG _ _ _) (by decide) (by decide) (by decide) (by decide); (repeat' (first | exact trivial | refine aG _ _ rfl rfl ?_ ?_)); all_goals (try simp only [pgs, pgl, pgx, pgf, pgw, ay, aJ, az, aK, aZ, bV, bD, pgn, simprocAttr]); all_goals (try (repeat' (first | apply aI))); all_goals (try (first | exact trivial | exact au (by omega) | exact aU rfl | exact ak rfl rfl | exact bg rfl))))
       all_goals first | (exact ak rfl (by rw [hRr])) | (exact aU (by rw [hRr]; rfl)) | skip
      ·refine wS (aI @bC (aI @hg @EM)) (aI hk1 hadd) ?_
       (refine bu (r + 1) [0] [0, 1, 2] (hlt) (by first | omega | (simp only [List.length_cons]; omega)) ?_; (refine aN ?_ ?_ (bG _ _ _) (by decide) (by decide) (by decide) (by decide); (repeat' (first | exact trivial | refine aG _ _ rfl rfl ?_ ?_)); all_goals (try simp only [pgs, pgl, pgx, pgf, pgw, ay, aJ, az, aK, aZ, bV, bD, pgn, simprocAttr]); all_goals (try (repeat' (first | apply aI))); all_goals (try (first | exact trivial | exact au (by omega) | exact aU rfl | exact ak rfl rfl | exact bg rfl))))
       all_goals first | (exact ak rfl (by rw [hRr])) | (exact aU (by rw [hRr]; rfl)) | skip
     ·refine wS (aI @bC (aI @hg @EM)) (aI hk1 hadd) ?_
      (refine bu (r + 1) [0] [0, 1, 2] (hlt) (by first | omega | (simp only [List.length_cons]; omega)) ?_; (refine aN ?_ ?_ (bG _ _ _) (by decide) (by decide) (by decide) (by decide); (repeat' (first | exact trivial | refine aG _ _ rfl rfl ?_ ?_)); all_goals (try simp only [pgs, pgl, pgx, pgf, pgw, ay, aJ, az, aK, aZ, bV, bD, pgn, simprocAttr]); all_goals (try (repeat' (first | apply aI))); all_goals (try (first | exact trivial | exact au (by omega) | exact aU rfl | exact ak rfl rfl | exact bg rfl))))
      all_goals first | (exact ak rfl (by rw [hRr])) | (exact aU (by rw [hRr]; rfl)) | skip
    ·have : r = d.toNat := by omega
     subst this
     exact wR @bC trivial (ids [0])
  ·rw [if_pos (by omega)]
   refine Good.fzt (vs := [.agg [vi 0, vi 0, vu 0, nls, vb false], vi (dW k w)]) ?_ rfl ⟨V8, aj _, trivial⟩
   refine gI oW Tryz.func49 Tryz.results49 ?_
   exact wR trivial (aI h1 h2) ah
 ·rw [if_pos (by omega)]
  refine Good.fzt (vs := [.agg [vi 0, vi 0, vu 0, nls, vb false], vi (vCm c)]) ?_ rfl ⟨V8, aj _, trivial⟩
  refine gI oW Tryz.func49 Tryz.results49 ?_
  exact wR trivial h1 ah
def vLl (l : Ll) : Int := if ¬ (2 ≤ l.p ∧ l.p ≤ 8) then 5 else if l.r.length ≠ 2 ^ l.p.toNat then 18 else if jR 0 (65 - l.p) l.r = true then 0 else 5
theorem oO {p : Int} (hp : 2 ≤ p ∧ p ≤ 8) : IntKind.i64.wrap (1 * 2 ^ min p.toNat IntKind.i64.bits) = ((2 ^ p.toNat : Nat) : Int) ∧ 2 ^ p.toNat ≤ 256 ∧ 1 ≤ 2 ^ p.toNat := by
 have : p = 2 ∨ p = 3 ∨ p = 4 ∨ p = 5 ∨ p = 6 ∨ p = 7 ∨ p = 8 := by omega
 rcases this with rfl | rfl | rfl | rfl | rfl | rfl | rfl <;> exact ⟨by decide, by decide, by decide⟩
theorem jZ (x : Ll) (hx : x.r.length ≤ 1000000) : Pg.Good Tryz.prog 67 [.agg (llF x)] (vi (vLl x)) := by
 obtain ⟨p, s, l⟩ := x
 simp only at hx
 unfold vLl
 simp only
 have hil := bC l
 by_cases c1 : 2 ≤ p ∧ p ≤ 8
 ·rw [if_neg (by simpa using c1)]
  have k1 := bH p 2 8 c1
  obtain ⟨hw, hp1, hp2⟩ := oO c1
  by_cases c2 : l.length = 2 ^ p.toNat
  ·rw [if_neg (by omega)]
   rw [← c2] at hw hp1 hp2
   refine gI oW Tryz.func67 Tryz.results67 ?_
   refine wS (aI @hw @bC) k1 ?_
   refine bn (fun i : Nat => mkA [(1, .ref 0 0), (3, vi i)] [(0, (31, llF ⟨p, s, l⟩))] 1 (fun _ => .top)) (fun i => i ≤ l.length ∧ jR 0 (65 - p) (l.take i) = true) (fun i => l.length - i) 0 [] [0] ?_ ⟨Nat.zero_le _, rfl⟩ ?_
   ·exact kE
   ·rintro i ⟨hi, ha⟩
    rcases Nat.lt_or_ge i l.length with hlt | hge
    ·have hg := gQ l i hlt
     have hx := sJ (a := 0) (b := 65 - p) hlt
     have hn := qm (a := 0) (b := 65 - p) hlt
     rw [ha] at hn
     generalize l.getD i 0 = n at *
     by_cases hc : 0 ≤ n ∧ n ≤ 65 - p
     ·have k3 := bH n 0 (65 - p) hc
      refine wS (aI @bC @hg) k3 ?_
      exact bE (i + 1) [] [0] ⟨hlt, by rw [hn, decide_eq_true hc]; rfl⟩
     ·have k3 := dN n 0 (65 - p)
      rw [jY hc] at k3
      rw [hx hc, if_neg (by simp)]
      exact wR (aI @bC @hg) k3 ah
    ·have : i = l.length := by omega
     subst this
     rw [List.take_length] at ha
     rw [ha, if_pos rfl]
     exact wR @bC trivial ah
  ·rw [if_pos c2]
   generalize hq : 2 ^ p.toNat = q at *
   refine gI oW Tryz.func67 Tryz.results67 ?_
   exact wR (aI @hw @bC) k1 ah
 ·rw [if_pos c1]
  have k1 := dN p 2 8
  rw [jY c1] at k1
  refine gI oW Tryz.func67 Tryz.results67 ?_
  exact wR trivial k1 ah
def V9 (h : Int) (j : Nat) : Int := bits .and .u64 (h.fdiv (2 ^ min j IntKind.u64.bits)) 1
def xJ (h : Int) : Nat → Int
 | 0 => 1
 | j + 1 => if V9 h j = 0 then 1 + xJ h j else 1
theorem Ba (h : Int) (j : Nat) : 1 ≤ xJ h j ∧ xJ h j ≤ j + 1 := by
 induction j with
 | zero => simp [xJ]
 | succ j ih => unfold xJ; split <;> omega
def EW (p s : Int) (k : List Nat) : Int := (qY (nK s 256) k).fdiv (2 ^ min (64 - p).toNat IntKind.u64.bits)
def aaP (p s : Int) (k : List Nat) : Int := xJ (qY (nK s 256) k) (64 - p).toNat
theorem IG (p s : Int) (k : List Nat) (hp : 2 ≤ p ∧ p ≤ 8) : 0 ≤ EW p s k ∧ EW p s k < ((2 ^ p.toNat : Nat) : Int) := by
 have h := sK (nK s 256) k
 unfold EW
 generalize qY (nK s 256) k = x at *
 have : p = 2 ∨ p = 3 ∨ p = 4 ∨ p = 5 ∨ p = 6 ∨ p = 7 ∨ p = 8 := by omega
 have key : ∀ m : Nat, 1 ≤ m → ∀ n : Int, x < n * (m : Int) → 0 ≤ x.fdiv (m : Int) ∧ x.fdiv (m : Int) < n := by
  intro m hm n hn
  rw [Int.fdiv_eq_ediv_of_nonneg _ (by omega)]
  exact ⟨Int.ediv_nonneg h.1 (by omega), Int.ediv_lt_of_lt_mul (by omega) hn⟩
 rcases this with rfl | rfl | rfl | rfl | rfl | rfl | rfl
 ·exact key (2 ^ 62) (by decide) 4 (by omega)
 ·exact key (2 ^ 61) (by decide) 8 (by omega)
 ·exact key (2 ^ 60) (by decide) 16 (by omega)
 ·exact key (2 ^ 59) (by decide) 32 (by omega)
 ·exact key (2 ^ 58) (by decide) 64 (by omega)
 ·exact key (2 ^ 57) (by decide) 128 (by omega)
 ·exact key (2 ^ 56) (by decide) 256 (by omega)
theorem II (p s : Int) (k : List Nat) (ho : oct k) (hp : 2 ≤ p ∧ p ≤ 8) (hk : 1 ≤ k.length ∧ k.length ≤ 32) : Pg.Good Tryz.prog 137 [vi p, vu s, vs k] (.tup [vi (EW p s k), vi (aaP p s k), vi 0]) := by
 have k1 := bH p 2 8 hp
 have k3 := xB k
 rw [Nw hk] at k3
 have k4 := Nz (nK s 256) (AV _ _) k ho (by omega)
 have hh := sK (nK s 256) k
 have hr := IG p s k hp
 have hp2 := (oO hp).2.1
 have er : EW p s k = (qY (nK s 256) k).fdiv (2 ^ min (64 - p).toNat IntKind.u64.bits) := rfl
 unfold aaP
 generalize EW p s k = rg at *
 generalize qY (nK s 256) k = h at *
 refine gI oW Tryz.func137 Tryz.results137 ?_
 (repeat' first | refine wP trivial (aI k1 (aI k3 k4)) ?_ | refine cU (Iy _) ?_ | refine tS ?_ ?_ <;> intro hc | fail)
 refine bn (fun j : Nat × Int => mkA [(0, vi p), (9, vu h), (11, vi j.2), (12, vi ((j.1 : Int) - 1))] [] 0 (fun _ => .top)) (fun j => (j.1 : Int) ≤ 64 - p ∧ 1 ≤ j.2 ∧ j.2 + xJ h j.1 - 1 = xJ h (64 - p).toNat) (fun j => j.1) ((64 - p).toNat, 1) [] [] ?_ ⟨by simp only; omega, by simp only; omega, by simp only; omega⟩ ?_
 ·exact kE
  all_goals exact au (by omega)
 ·rintro ⟨j, q⟩ ⟨hj, hq1, hq⟩
  simp only at hj hq1 hq
  have hrn := Ba h j
  have hrf := Ba h (64 - p).toNat
  cases j with
  | zero =>
   have e0 : xJ h 0 = 1 := rfl
   rw [e0] at hq
   have : q = xJ h (64 - p).toNat := by omega
   subst this
   (repeat' (first | (simp (disch := first | exact dqz | fail) only [pgz, simprocAttr, ← er]) | ((with_reducible first | apply aQ | apply aB | apply bz) <;> intro hc <;> (try simp only [hc]) <;> (try simp only [pgd] at hc)) | (with_reducible refine cK ?_)))
   exact rE []
  | succ j =>
   have hrj := Ba h j
   have en : xJ h (j + 1) = if V9 h j = 0 then 1 + xJ h j else 1 := rfl
   have hix : (((j + 1 : Nat) : Int) - 1) = (j : Int) := by omega
   have hix2 : ((j : Int) + 1 - 1) = (j : Int) := by omega
   have hw : IntKind.u64.wrap (j : Int) = (j : Int) := abB _ (by omega) (by omega)
   by_cases hb : V9 h j = 0
   ·rw [en, if_pos hb] at hq
    unfold V9 at hb
    refine wS (aI @hix (aI @hix2 (aI @hw @hb))) trivial ?_
    refine bu (j, q + 1) [] [] ⟨by simp only; omega, by simp only; omega, by simp only; omega⟩ (by show j < j + 1; omega) ?_
    exact kE
   ·rw [en, if_neg hb] at hq
    have : q = xJ h (64 - p).toNat := by omega
    subst this
    unfold V9 at hb
    (repeat' (first | (simp (disch := first | exact dqz | fail) only [pgz, simprocAttr, hix, hix2, hw, hb, ← er]) | ((with_reducible first | apply aQ | apply aB | apply bz) <;> intro hc <;> (try simp only [hc]) <;> (try simp only [pgd] at hc)) | (with_reducible refine cK ?_)))
    exact rE []
def qI (l : Ll) (k : List Nat) (w : Int) : Ll × Int := if vLl l ≠ 0 then (Ll.o, vLl l) else if dW k w ≠ 0 then (Ll.o, dW k w) else (⟨l.p, l.s, l.r.set (EW l.p l.s k).toNat (max (l.r.getD (EW l.p l.s k).toNat 0) (aaP l.p l.s k))⟩, 0)
theorem xK {l : Ll} (h : vLl l = 0) : (2 ≤ l.p ∧ l.p ≤ 8) ∧ l.r.length = 2 ^ l.p.toNat ∧ jR 0 (65 - l.p) l.r = true := by
 unfold vLl at h
 split at h
 ·cases h
 ·rename_i h1
  split at h
  ·cases h
  ·rename_i h2
   split at h
   ·rename_i h3
    exact ⟨Classical.byContradiction h1, Classical.byContradiction h2, h3⟩
   ·cases h
theorem We : wkV (.agg [vi 0, vu 0, nls]) (.agg (llF Ll.o)) := .inr ⟨_, _, rfl, rfl, ⟨.inl rfl, .inl rfl, jM _ _, trivial⟩⟩
theorem zf (x : Ll) (k : List Nat) (w : Int) (ho : oct k) (hx : x.r.length ≤ 1000000) : Pg.Good Tryz.prog 50 [.agg (llF x), .agg [vs k, vi w]] (.tup [.agg (llF (qI x k w).1), vi (qI x k w).2]) := by
 have h1 := jZ x hx
 have h2 := bZ k w
 unfold qI
 by_cases c1 : vLl x = 0
 ·rw [if_neg (by omega)]
  rw [c1] at h1
  by_cases c2 : dW k w = 0
  ·rw [if_neg (by omega)]
   rw [c2] at h2
   obtain ⟨i1, i2, i3⟩ := xK c1
   obtain ⟨j1, j2⟩ := ng c2
   have hr := IG x.p x.s k i1
   have hp := (oO i1).2
   have k1 := II x.p x.s k ho i1 j2
   obtain ⟨p, s, l⟩ := x
   simp only at i1 i2 i3 hr hp k1 hx ⊢
   rw [← i2] at hr
   generalize EW p s k = rg at *
   generalize aaP p s k = rk at *
   have hrn : rg.toNat < l.length := by omega
   have hg := gQ l rg.toNat hrn
   generalize hgg : l.getD rg.toNat 0 = g at *
   have hil := bC l
   refine Good.fzt (vs := [.agg [vi p, vu s, .sl (.own 0 3) 1 (iv (l.set rg.toNat (max g rk)))], vi 0]) ?_ rfl ⟨aj _, aj _, trivial⟩
   refine gI oW Tryz.func50 Tryz.results50 ?_
   exact wR (aI @bC (aI @hg @EM)) (aI h1 (aI h2 k1)) (ids [3])
  ·rw [if_pos (by omega)]
   refine Good.fzt (vs := [.agg [vi 0, vu 0, nls], vi (dW k w)]) ?_ rfl ⟨We, aj _, trivial⟩
   refine gI oW Tryz.func50 Tryz.results50 ?_
   exact wR trivial (aI h1 h2) ah
 ·rw [if_pos (by omega)]
  refine Good.fzt (vs := [.agg [vi 0, vu 0, nls], vi (vLl x)]) ?_ rfl ⟨We, aj _, trivial⟩
  refine gI oW Tryz.func50 Tryz.results50 ?_
  exact wR trivial h1 ah
end Go.Proofs.YtaoejnjkmfkbeaaGreat
section
namespace Go.Proofs.YtaoejnjkmfkbeaaGreat
open Go Go.Pg
def kl (a b : List Nat) : Bool := Op.bytesLess (sB a).toList (sB b).toList
theorem lC (a b : List Nat) : Op.bytesLess (sB a).toList (sB b).toList = kl a b := rfl
def octE (l : List En) : Prop := ∀ e ∈ l, oct e.1
theorem fM {l : List En} (h : octE l) (i : Nat) : oct (l.getD i ([], 0, 0)).1 := by
 rcases Nat.lt_or_ge i l.length with hi | hi
 ·have : l.getD i ([], 0, 0) = l[i] := by simp [List.getD, hi]
  rw [this]; exact h _ (List.getElem_mem hi)
 ·have : l.getD i ([], 0, 0) = ([], 0, 0) := by simp [List.getD, hi]
  rw [this]; exact kY
theorem QC {l : List En} (h : octE l) (n : Nat) : octE (l.take n) := fun e he => h e (List.mem_of_mem_take he)
def bfE (a b : En) : Bool := decide (b.2.1 < a.2.1) || (decide (a.2.1 = b.2.1) && kl a.1 b.1)
theorem DF (a b : En) : Pg.Good Tryz.prog 158 [.agg [vs a.1, vi a.2.1, vi a.2.2], .agg [vs b.1, vi b.2.1, vi b.2.2]] (vb (bfE a b)) := by
 obtain ⟨k1, c1, e1⟩ := a
 obtain ⟨k2, c2, e2⟩ := b
 unfold bfE
 simp only
 refine gI oW Tryz.func158 Tryz.results158 ?_
 by_cases h1 : c2 < c1
 ·rw [decide_eq_true h1]
  exact wR @lC trivial ah
 ·rw [decide_eq_false h1]
  by_cases h2 : c1 = c2
  ·rw [decide_eq_true h2]
   cases hk : kl k1 k2
   ·exact wR (aI @lC @hk) trivial ah
   ·exact wR (aI @lC @hk) trivial ah
  ·rw [decide_eq_false h2]
   exact wR @lC trivial ah
def Bc (k : List Nat) : Nat → List En → Int
 | _, [] => -1
 | i, e :: l => if e.1 = k then i else Bc k (i + 1) l
def eG (l : List En) (k : List Nat) : Int := Bc k 0 l
theorem Wh (k : List Nat) : ∀ (l : List En) (i : Nat), Bc k i l = -1 ∨ (i : Int) ≤ Bc k i l ∧ Bc k i l < i + l.length := by
 intro l
 induction l with
 | nil => intro i; exact .inl rfl
 | cons e l ih =>
  intro i
  unfold Bc
  split
  ·right; simp only [List.length_cons]; omega
  ·rcases ih (i + 1) with h | h
   ·exact .inl h
   ·right; simp only [List.length_cons]; omega
theorem Bd (l : List En) (k : List Nat) : eG l k = -1 ∨ 0 ≤ eG l k ∧ eG l k < l.length := by
 have := Wh k l 0
 unfold eG
 omega
theorem Wi (l : List En) (i : Nat) (h : i < l.length) : l.drop i = l.getD i ([], 0, 0) :: l.drop (i + 1) := by rw [List.drop_eq_getElem_cons h]; simp [List.getD, h]
theorem EX (l : List En) (k : List Nat) (hl : octE l) (ho : oct k) (hn : l.length ≤ 1000000) : Pg.Good Tryz.prog 139 [fzv l, vs k] (vi (eG l k)) := by
 have hel := aP l
 refine gI oW Tryz.func139 Tryz.results139 ?_
 refine wS trivial trivial ?_
 refine bn (fun i : Nat => mkA [(0, fzv l), (1, vs k), (5, vi i)] [] 0 (fun _ => .top)) (fun i => i ≤ l.length ∧ eG l k = Bc k i (l.drop i)) (fun i => l.length - i) 0 [] [] ?_ ⟨Nat.zero_le _, rfl⟩ ?_
 ·exact kE
 ·rintro i ⟨hi, he⟩
  rcases Nat.lt_or_ge i l.length with hlt | hge
  ·rw [Wi l i hlt] at he
   have hg := fG l i hlt
   have hox := fM hl i
   generalize l.getD i ([], 0, 0) = x at *
   obtain ⟨xk, xc, xe⟩ := x
   simp only at hg hox
   unfold Bc at he
   have hd := jw hox ho
   by_cases hx : xk = k
   ·rw [if_pos hx] at he
    rw [he]
    rw [decide_eq_true hx] at hd
    exact wR (aI @aP (aI @hg @hd)) trivial ah
   ·rw [if_neg hx] at he
    rw [decide_eq_false hx] at hd
    refine wS (aI @aP (aI @hg @hd)) trivial ?_
    exact bE (i + 1) [] [] ⟨hlt, he⟩
  ·have : i = l.length := by omega
   subst this
   rw [List.drop_length] at he
   rw [he]
   exact wR @aP trivial ah
section
variable {α : Type}
def oP (bf : α → α → Bool) (x : α) : List α → List α
 | [] => [x]
 | y :: ys => if bf x y = true then y :: oP bf x ys else x :: y :: ys
def xM (bf : α → α → Bool) : List α → List α → List α
 | acc, [] => acc
 | acc, x :: l => xM bf (oP bf x acc) l
def srt (bf : α → α → Bool) (l : List α) : List α := (xM bf [] l).reverse
theorem rD (bf : α → α → Bool) (x : α) (l : List α) : (oP bf x l).length = l.length + 1 := by
 induction l with
 | nil => rfl
 | cons y ys ih => unfold oP; split <;> simp [ih]
theorem Wj (bf : α → α → Bool) (x z : α) (l : List α) : z ∈ oP bf x l ↔ z = x ∨ z ∈ l := by
 induction l with
 | nil => simp [oP]
 | cons y ys ih =>
  unfold oP
  split
  ·simp only [List.mem_cons, ih]
   constructor
   ·rintro (h | h | h) <;> simp [h]
   ·rintro (h | h | h) <;> simp [h]
  ·simp
theorem Wl (bf : α → α → Bool) (l : List α) : ∀ acc, (xM bf acc l).length = acc.length + l.length := by
 induction l with
 | nil => intro acc; rfl
 | cons x l ih => intro acc; rw [xM, ih, rD]; simp only [List.length_cons]; omega
theorem Wn (bf : α → α → Bool) (z : α) (l : List α) : ∀ acc, z ∈ xM bf acc l ↔ z ∈ acc ∨ z ∈ l := by
 induction l with
 | nil => intro acc; simp [xM]
 | cons x l ih =>
  intro acc
  rw [xM, ih, Wj]
  simp only [List.mem_cons]
  constructor
  ·rintro ((h | h) | h) <;> simp [h]
  ·rintro (h | h | h) <;> simp [h]
theorem NH (bf : α → α → Bool) (l : List α) : (srt bf l).length = l.length := by simp [srt, Wl]
theorem NJ (bf : α → α → Bool) (z : α) (l : List α) : z ∈ srt bf l ↔ z ∈ l := by simp [srt, Wn]
def mov (p : List α) (x : α) (t : List α) : List α := p.reverse ++ x :: t
theorem zG (p : List α) (x : α) (t : List α) : (mov p x t).length = p.length + 1 + t.length := by simp [mov]; omega
theorem Wp (p : List α) (x : α) (t : List α) (d : α) : (mov p x t).getD p.length d = x := by simp [mov, List.getD]
theorem NK (y : α) (p : List α) (x : α) (t : List α) (d : α) : (mov (y :: p) x t).getD p.length d = y := by simp [mov, List.getD]
theorem IJ (y : α) (p : List α) (x : α) (t : List α) : ((mov (y :: p) x t).set (p.length + 1) y).set p.length x = mov p x (y :: t) := by
 unfold mov
 have h1 : (y :: p).reverse = p.reverse ++ [y] := by simp
 rw [h1]
 have e1 : p.length = p.reverse.length := by simp
 rw [e1]
 rw [List.append_assoc, List.set_append_right _ _ (by omega), show p.reverse.length + 1 - p.reverse.length = 1 by omega]
 rw [List.set_append_right _ _ (by omega), Nat.sub_self]
 rfl
theorem zH (bf : α → α → Bool) (p : List α) (x : α) (t : List α) (h : p = [] ∨ ∃ y q, p = y :: q ∧ bf x y = false) : (oP bf x p).reverse ++ t = mov p x t := by
 rcases h with rfl | ⟨y, q, rfl, h⟩
 ·simp [oP, mov]
 ·unfold oP
  rw [if_neg (by rw [h]; simp)]
  simp [mov]
theorem Wq (bf : α → α → Bool) (y : α) (p : List α) (x : α) (t : List α) (h : bf x y = true) : (oP bf x (y :: p)).reverse ++ t = (oP bf x p).reverse ++ y :: t := by
 conv => lhs; unfold oP
 rw [if_pos h]
 simp
end
theorem ku {α : Type} (l : List α) (i : Nat) (d : α) (h : i < l.length) : l.drop i = l.getD i d :: l.drop (i + 1) := by rw [List.drop_eq_getElem_cons h]; simp [List.getD, h]
theorem Be (l : List En) (hn : l.length ≤ 1000000) : Pg.Good Tryz.prog 141 [fzv l] (.sl (.own 0 149) 3 (ev (srt bfE l))) := by
 have hel := aP l
 refine gI oW Tryz.func141 Tryz.results141 ?_
 refine wS trivial trivial ?_
 refine bn (fun x : Nat × List En => mkA [(0, fzv l), (3, .sl (.own 0 149) 3 (ev x.2.reverse)), (4, vi x.1)] [] 1 (fun _ => .top)) (fun x => x.1 ≤ l.length ∧ x.2.length = x.1 ∧ xM bfE x.2 (l.drop x.1) = xM bfE [] l) (fun x => l.length - x.1) (0, []) [] [] ?_ ⟨Nat.zero_le _, rfl, rfl⟩ ?_
 ·exact kE
  all_goals first | exact di rfl | skip
 ·rintro ⟨i, acc⟩ ⟨hi, ha, hs⟩
  simp only at hi ha hs
  have hal : (ev acc.reverse).length = i := by rw [aP, List.length_reverse, ha]
  rcases Nat.lt_or_ge i l.length with hlt | hge
  ·rw [ku l i ([], 0, 0) hlt] at hs
   have hg := fG l i hlt
   generalize l.getD i ([], 0, 0) = x at *
   have hsn : ev acc.reverse ++ [V.agg [vs x.1, vi x.2.1, vi x.2.2]] = ev (mov acc x []) := by rw [lW]; unfold mov; rfl
   have hml : (ev (mov acc x [])).length = i + 1 := by rw [aP, zG, ha]; rfl
   (repeat' (first | (simp (disch := first | exact dqz | fail) only [pgz, simprocAttr, hg, aP, hsn, hml, hal]) | ((with_reducible first | apply aQ | apply aB | apply bz) <;> intro hc <;> (try simp only [hc]) <;> (try simp only [pgd] at hc)) | (with_reducible refine cK ?_)))
   refine bn (fun y : List En × List En => mkA [(0, fzv l), (3, .sl (.own 0 149) 3 (ev (mov y.1 x y.2))), (4, vi i), (5, vi y.1.length)] [] 1 (fun _ => .top)) (fun y => y.1.length + y.2.length = i ∧ (oP bfE x y.1).reverse ++ y.2 = (oP bfE x acc).reverse) (fun y => y.1.length) (acc, []) [0] [] ?_ ⟨by simp [ha], by simp⟩ ?_
   ·(refine aN ?_ ?_ (bG _ _ _) (by decide) (by decide) (by decide) (by decide); (repeat' (first | exact trivial | refine aG _ _ rfl rfl ?_ ?_)); all_goals (try simp only [pgs, pgl, pgx, pgf, pgw, ay, aJ, az, aK, aZ, bV, bD, pgn, simprocAttr]); all_goals (try (repeat' (first | apply aI))); all_goals (try (first | exact trivial | exact au (by omega) | exact aU rfl | exact ak rfl rfl | exact bg rfl)))
    all_goals exact au (by omega)
   ·rintro ⟨p, t⟩ ⟨hp1, hp2⟩
    simp only at hp1 hp2
    have hmp := zG p x t
    have hmp2 : (ev (mov p x t)).length = i + 1 := by rw [aP, hmp]; omega
    cases p with
    | nil =>
     rw [zH bfE [] x t (.inl rfl)] at hp2
     refine wS @hmp2 trivial ?_
     refine bu (i + 1, oP bfE x acc) [0] [] ⟨hlt, by simp only; rw [rD, ha], by simp only; rw [← hs]; rfl⟩ (by show l.length - (i + 1) < l.length - i; omega) ?_
     refine kL ?_
     all_goals exact ak rfl (by rw [hp2])
    | cons y p =>
     have g1 := fG (mov (y :: p) x t) (p.length + 1) (by rw [hmp]; simp only [List.length_cons]; omega)
     have g2 := fG (mov (y :: p) x t) p.length (by rw [hmp]; simp only [List.length_cons]; omega)
     have m1 : (mov (y :: p) x t).getD (p.length + 1) ([], 0, 0) = x := Wp (y :: p) x t _
     rw [m1] at g1
     rw [NK] at g2
     have hb := DF x y
     have hi1 : (((y :: p).length : Nat) : Int) = (p.length : Int) + 1 := by simp
     have hi2 : ((p.length : Int) + 1).toNat = p.length + 1 := by omega
     have hi3 : ((p.length : Int) + 1 - 1) = (p.length : Int) := by omega
     cases hbf : bfE x y
     ·rw [zH bfE (y :: p) x t (.inr ⟨y, p, rfl, hbf⟩)] at hp2
      rw [hbf] at hb
      refine wS (aI @hi1 (aI @hi2 (aI @hi3 (aI @hmp2 (aI @g1 @g2))))) hb ?_
      refine bu (i + 1, oP bfE x acc) [0] [] ⟨hlt, by simp only; rw [rD, ha], by simp only; rw [← hs]; rfl⟩ (by show l.length - (i + 1) < l.length - i; omega) ?_
      refine kL ?_
      all_goals exact ak rfl (by rw [hp2])
     ·rw [Wq bfE y p x t hbf] at hp2
      rw [hbf] at hb
      have hsw := IJ y p x t
      have hs1 : (ev (mov (y :: p) x t)).set (p.length + 1) (V.agg [vs y.1, vi y.2.1, vi y.2.2]) = ev ((mov (y :: p) x t).set (p.length + 1) y) := AU _ _ _ _ _
      have hs2 : (ev ((mov (y :: p) x t).set (p.length + 1) y)).set p.length (V.agg [vs x.1, vi x.2.1, vi x.2.2]) = ev (mov p x (y :: t)) := by
       rw [AU]
       exact congrArg ev hsw
      have hl1 : (ev ((mov (y :: p) x t).set (p.length + 1) y)).length = i + 1 := by rw [aP, List.length_set, hmp]; simp only [List.length_cons] at hp1 ⊢; omega
      have hg3 : (ev ((mov (y :: p) x t).set (p.length + 1) y))[p.length]? = some (V.agg [vs y.1, vi y.2.1, vi y.2.2]) := by rw [← hs1, List.getElem?_set_ne (by omega), g2]
      generalize (mov (y :: p) x t).set (p.length + 1) y = mm at hs1 hs2 hl1 hg3
      refine wS (aI @hi1 (aI @hi2 (aI @hi3 (aI @hmp2 (aI @g1 (aI @g2 (aI @hs1 (aI @hs2 (aI @hl1 @hg3))))))))) hb ?_
      refine bu (p, y :: t) [0] [] ⟨by simp only [List.length_cons] at hp1 ⊢; omega, hp2⟩ (by show p.length < (y :: p).length; simp) ?_
      refine kL ?_
      all_goals (simp only [pgo, hs1, hs2]; first | exact trivial | exact ak rfl rfl)
  ·have : i = l.length := by omega
   subst this
   rw [List.drop_length] at hs
   have hs' : acc = xM bfE [] l := hs
   refine wS @aP trivial ?_
   (refine rT [0] ?_; first | rfl | simp only [pgo, simprocAttr] | skip)
   all_goals (unfold srt; rw [hs']; rfl)
theorem aaQ (l : List En) : V.flatL (ev l) = true := by
 induction l with
 | nil => rfl
 | cons a l ih => simp only [ev, List.map_cons, V.flatL, V.flat] at ih ⊢; simpa using ih
theorem pJ (id : Nat) (e : TypeId) (k : Nat) (l : List En) : (V.sl (.own id e) k (ev l)).flat = true := aaQ l
end Go.Proofs.YtaoejnjkmfkbeaaGreat
end
namespace Go.Proofs.YtaoejnjkmfkbeaaGreat
open Go Go.Pg
def kT (f : Nat → Int) : Nat → Nat → Int
 | 0, _ => 0
 | n + 1, i => if f i ≠ 0 then f i else kT f n (i + 1)
theorem qo (f : Nat → Int) (n i : Nat) (h : f i ≠ 0) : kT f (n + 1) i = f i := if_pos h
theorem jO (f : Nat → Int) (n i : Nat) (h : f i = 0) : kT f (n + 1) i = kT f n (i + 1) := if_neg (by omega)
theorem Bf (f : Nat → Int) : ∀ n i, kT f n i = 0 → ∀ j, i ≤ j → j < i + n → f j = 0 := by
 intro n
 induction n with
 | zero => intro i _ j h1 h2; omega
 | succ n ih =>
  intro i h j h1 h2
  by_cases hf : f i = 0
  ·rw [jO f n i hf] at h
   rcases Nat.eq_or_lt_of_le h1 with rfl | h3
   ·exact hf
   ·exact ih (i + 1) h j h3 (by omega)
  ·rw [qo f n i hf] at h; exact absurd h hf
abbrev eD : En := ([], 0, 0)
def qJ (l : List En) (i : Nat) : Int :=
 if ig (l.getD i eD).1 = false then 7
 else if ¬ ((1 ≤ (l.getD i eD).2.1 ∧ (l.getD i eD).2.1 ≤ 1099511627776) ∧ (0 ≤ (l.getD i eD).2.2 ∧ (l.getD i eD).2.2 ≤ (l.getD i eD).2.1 - 1)) then 5
 else if eG (l.take i) (l.getD i eD).1 ≥ 0 then 9
 else if 0 < i ∧ bfE (l.getD (i - 1) eD) (l.getD i eD) = false then 19 else 0
def vTp (t : Tp) : Int := if ¬ ((1 ≤ t.z ∧ t.z ≤ 32) ∧ (0 ≤ t.t ∧ t.t ≤ 1099511627776)) then 5 else if (t.e.length : Int) > t.z then 11 else kT (qJ t.e) t.e.length 0
theorem ni (x : Tp) (ho : octE x.e) (hn : x.e.length ≤ 1000000) : Pg.Good Tryz.prog 68 [.agg (tpF x)] (vi (vTp x)) := by
 obtain ⟨z, t, l, b⟩ := x
 simp only at ho hn
 unfold vTp
 simp only
 have hel := aP l
 by_cases c1 : (1 ≤ z ∧ z ≤ 32) ∧ (0 ≤ t ∧ t ≤ 1099511627776)
 ·rw [if_neg (fun h => h c1)]
  have k1 := bH z 1 32 c1.1
  have k2 := bH t 0 1099511627776 c1.2
  by_cases c2 : (l.length : Int) > z
  ·rw [if_pos c2]
   refine gI oW Tryz.func68 Tryz.results68 ?_
   exact wR @aP (aI k1 k2) ah
  ·rw [if_neg c2]
   refine gI oW Tryz.func68 Tryz.results68 ?_
   refine wS @aP (aI k1 k2) ?_
   generalize hE : kT (qJ l) l.length 0 = E
   refine bn (fun i : Nat => mkA [(1, .ref 0 0), (3, vi i)] [(0, (34, tpF ⟨z, t, l, b⟩))] 1 (fun _ => .top)) (fun i => i ≤ l.length ∧ kT (qJ l) (l.length - i) i = E) (fun i => l.length - i) 0 [] [0] ?_ ⟨Nat.zero_le _, hE⟩ ?_
   ·exact kE
   ·rintro i ⟨hi, he⟩
    rcases Nat.lt_or_ge i l.length with hlt | hge
    ·have hg := fG l i hlt
     have hox := fM ho i
     rw [show l.length - i = (l.length - (i + 1)) + 1 by omega] at he
     have k3 := xB (l.getD i eD).1
     have k4 := EX (l.take i) (l.getD i eD).1 (QC ho i) hox (by simp only [List.length_take]; omega)
     have hfr := Bd (l.take i) (l.getD i eD).1
     have htk := aav l i
     have et : qJ l i = if ig (l.getD i eD).1 = false then 7 else if ¬ ((1 ≤ (l.getD i eD).2.1 ∧ (l.getD i eD).2.1 ≤ 1099511627776) ∧ (0 ≤ (l.getD i eD).2.2 ∧ (l.getD i eD).2.2 ≤ (l.getD i eD).2.1 - 1)) then 5 else if eG (l.take i) (l.getD i eD).1 ≥ 0 then 9 else if 0 < i ∧ bfE (l.getD (i - 1) eD) (l.getD i eD) = false then 19 else 0 := rfl
     generalize hxx : l.getD i eD = x at *
     have hb := fun y => DF y x
     obtain ⟨xk, xc, xe⟩ := x
     simp only at hox k3 k4 hfr et hg hb
     have ext : ∀ v : Int, v ≠ 0 → qJ l i = v → v = E := fun v h0 h1 => by rw [qo _ _ _ (by omega)] at he; omega
     cases q1 : ig xk
     ·rw [q1] at k3 et
      have := ext 7 (by omega) (by rw [et]; rfl)
      subst this
      exact wR (aI @aP @hg) k3 ah
     ·rw [q1] at k3 et
      rw [if_neg (by simp)] at et
      by_cases q2 : (1 ≤ xc ∧ xc ≤ 1099511627776) ∧ (0 ≤ xe ∧ xe ≤ xc - 1)
      ·rw [if_neg (fun h => h q2)] at et
       have k5 := bH xc 1 1099511627776 q2.1
       have k6 := bH xe 0 (xc - 1) q2.2
       by_cases q3 : eG (l.take i) xk ≥ 0
       ·rw [if_pos q3] at et
        have := ext 9 (by omega) et
        subst this
        exact wR (aI @pgv (aI @hg @htk)) (aI k3 (aI k5 (aI k6 k4))) ah
       ·rw [if_neg q3] at et
        by_cases q4 : 0 < i
        ·have hg1 := fG l (i - 1) (by omega)
         have hi1 : ((i : Int) - 1).toNat = i - 1 := by omega
         have hb1 := hb (l.getD (i - 1) eD)
         generalize l.getD (i - 1) eD = y at *
         cases q5 : bfE y (xk, xc, xe)
         ·rw [if_pos ⟨q4, q5⟩] at et
          rw [q5] at hb1
          have := ext 19 (by omega) et
          subst this
          exact wR (aI @pgv (aI @hg (aI @htk (aI @hi1 @hg1)))) (aI k3 (aI k5 (aI k6 (aI k4 hb1)))) ah
         ·rw [if_neg (by rw [q5]; simp)] at et
          rw [q5] at hb1
          rw [jO _ _ _ et] at he
          refine wS (aI @pgv (aI @hg (aI @htk (aI @hi1 @hg1)))) (aI k3 (aI k5 (aI k6 (aI k4 hb1)))) ?_
          exact bE (i + 1) [] [0] ⟨hlt, he⟩
        ·rw [if_neg (by omega)] at et
         rw [jO _ _ _ et] at he
         refine wS (aI @pgv (aI @hg @htk)) (aI k3 (aI k5 (aI k6 k4))) ?_
         exact bE (i + 1) [] [0] ⟨hlt, he⟩
      ·rw [if_pos q2] at et
       have := ext 5 (by omega) et
       subst this
       by_cases q6 : 1 ≤ xc ∧ xc ≤ 1099511627776
       ·have k5 := bH xc 1 1099511627776 q6
        have k6 := dN xe 0 (xc - 1)
        rw [jY (by omega)] at k6
        exact wR (aI @aP @hg) (aI k3 (aI k5 k6)) ah
       ·have k5 := dN xc 1 1099511627776
        rw [jY q6] at k5
        exact wR (aI @aP @hg) (aI k3 k5) ah
    ·have : i = l.length := by omega
     subst this
     rw [Nat.sub_self] at he
     have he0 : 0 = E := he
     subst he0
     exact wR @aP trivial ah
 ·rw [if_pos c1]
  by_cases c2 : 1 ≤ z ∧ z ≤ 32
  ·have k1 := bH z 1 32 c2
   have k2 := dN t 0 1099511627776
   rw [jY (by omega)] at k2
   refine gI oW Tryz.func68 Tryz.results68 ?_
   exact wR trivial (aI k1 k2) ah
  ·have k1 := dN z 1 32
   rw [jY c2] at k1
   refine gI oW Tryz.func68 Tryz.results68 ?_
   exact wR trivial k1 ah
def iP (t : Tp) : Int := if t.e.length = 0 ∨ (t.e.length : Int) ≠ t.z then 0 else (t.e.getD (t.e.length - 1) eD).2.1
theorem Ws (x : Tp) (hn : x.e.length ≤ 1000000) : Pg.Good Tryz.prog 140 [.agg (tpF x)] (vi (iP x)) := by
 obtain ⟨z, t, l, b⟩ := x
 simp only at hn
 unfold iP
 simp only
 have hel := aP l
 by_cases c1 : l.length = 0
 ·rw [if_pos (.inl c1)]
  refine gI oW Tryz.func140 Tryz.results140 ?_
  exact wR @aP trivial ah
 ·by_cases c2 : (l.length : Int) = z
  ·rw [if_neg (by omega)]
   have hg := fG l (l.length - 1) (by omega)
   generalize l.getD (l.length - 1) eD = y at *
   have hi : ((l.length : Int) - 1).toNat = l.length - 1 := by omega
   refine gI oW Tryz.func140 Tryz.results140 ?_
   exact wR (aI @aP (aI @hi @hg)) trivial ah
  ·rw [if_pos (.inr c2)]
   refine gI oW Tryz.func140 Tryz.results140 ?_
   exact wR @aP trivial ah
def dR (a b : Int) : Int × Bool := lX a b 1099511627776
theorem qp (a b : Int) (ha : W64 a) (hb : W64 b) : Pg.Good Tryz.prog 138 [vi a, vi b] (.tup [vi (dR a b).1, vb (dR a b).2]) := ade a b ha hb
theorem xN (a b : Int) : 0 ≤ (dR a b).1 ∧ (dR a b).1 ≤ 1099511627776 := by
 have h1 := jF a
 have h2 := jF b
 have h3 : iw 1099511627776 = 1099511627776 := Ny (by decide)
 unfold dR lX
 split
 ·simp only; omega
 ·simp only; omega
def xO (t : Tp) (k : List Nat) (w : Int) : List En × Bool :=
 if 0 ≤ eG t.e k then (t.e.set (eG t.e k).toNat ((t.e.getD (eG t.e k).toNat eD).1, (dR (t.e.getD (eG t.e k).toNat eD).2.1 w).1, (t.e.getD (eG t.e k).toNat eD).2.2), (dR (t.e.getD (eG t.e k).toNat eD).2.1 w).2)
 else if (t.e.length : Int) < t.z then (t.e ++ [(k, w, 0)], false)
 else (t.e.set (t.e.length - 1) (k, (dR (iP t) w).1, min (iP t) ((dR (iP t) w).1 - 1)), (dR (iP t) w).2)
def vS (t : Tp) (k : List Nat) (w : Int) : Tp × Int :=
 if vTp t ≠ 0 then (Tp.o, vTp t) else if dW k w ≠ 0 then (Tp.o, dW k w) else (⟨t.z, (dR t.t w).1, srt bfE (xO t k w).1, t.b || (dR t.t w).2 || (xO t k w).2⟩, 0)
theorem uC {t : Tp} (h : vTp t = 0) : (1 ≤ t.z ∧ t.z ≤ 32) ∧ (0 ≤ t.t ∧ t.t ≤ 1099511627776) ∧ (t.e.length : Int) ≤ t.z ∧ ∀ i, i < t.e.length → qJ t.e i = 0 := by
 unfold vTp at h
 split at h
 ·cases h
 ·rename_i h1
  split at h
  ·cases h
  ·rename_i h2
   have h1 := Classical.byContradiction h1
   exact ⟨h1.1, h1.2, by omega, fun i hi => Bf _ _ _ h i (Nat.zero_le _) (by omega)⟩
theorem pK {l : List En} {i : Nat} (h : qJ l i = 0) : ig (l.getD i eD).1 = true ∧ (1 ≤ (l.getD i eD).2.1 ∧ (l.getD i eD).2.1 ≤ 1099511627776) ∧ 0 ≤ (l.getD i eD).2.2 ∧ (l.getD i eD).2.2 ≤ (l.getD i eD).2.1 - 1 := by
 unfold qJ at h
 split at h
 ·cases h
 ·rename_i h1
  split at h
  ·cases h
  ·rename_i h2
   have h2 := Classical.byContradiction h2
   exact ⟨by simpa using h1, h2.1, h2.2⟩
theorem Wu : wkV (.agg [vi 0, vi 0, nls, vb false]) (.agg (tpF Tp.o)) := .inr ⟨_, _, rfl, rfl, ⟨.inl rfl, .inl rfl, jM _ _, .inl rfl, trivial⟩⟩
theorem EY (x : Tp) (k : List Nat) (w : Int) (ho : oct k) (hx : octE x.e) (hn : x.e.length ≤ 1000000) : Pg.Good Tryz.prog 51 [.agg (tpF x), .agg [vs k, vi w]] (.tup [.agg (tpF (vS x k w).1), vi (vS x k w).2]) := by
 have h1 := ni x hx hn
 have h2 := bZ k w
 unfold vS
 by_cases c1 : vTp x = 0
 ·rw [if_neg (by omega)]
  rw [c1] at h1
  by_cases c2 : dW k w = 0
  ·rw [if_neg (by omega)]
   rw [c2] at h2
   obtain ⟨i1, i2, i3, i4⟩ := uC c1
   obtain ⟨j1, j2⟩ := ng c2
   have hw : W64 w := by unfold W64; omega
   have k1 := qp x.t w (by unfold W64; omega) hw
   have k2 := EX x.e k hx ho (by omega)
   have hfr := Bd x.e k
   refine Good.fzt (vs := [.agg [vi x.z, vi (dR x.t w).1, .sl (.own 0 149) 3 (ev (srt bfE (xO x k w).1)), vb (x.b || (dR x.t w).2 || (xO x k w).2)], vi 0]) ?_ rfl ⟨aj _, aj _, trivial⟩
   have hel := aP x.e
   by_cases q1 : 0 ≤ eG x.e k
   ·have ei : xO x k w = (x.e.set (eG x.e k).toNat ((x.e.getD (eG x.e k).toNat eD).1, (dR (x.e.getD (eG x.e k).toNat eD).2.1 w).1, (x.e.getD (eG x.e k).toNat eD).2.2), (dR (x.e.getD (eG x.e k).toNat eD).2.1 w).2) := if_pos q1
    rw [ei]
    have hlt : (eG x.e k).toNat < x.e.length := by omega
    have hg := fG x.e (eG x.e k).toNat hlt
    have her := pK (i4 _ hlt)
    have k3 := qp (x.e.getD (eG x.e k).toNat eD).2.1 w (by unfold W64; omega) hw
    generalize x.e.getD (eG x.e k).toNat eD = y at *
    obtain ⟨yk, yc, ye⟩ := y
    simp only at hg her k3 ⊢
    have hes := AU x.e (eG x.e k).toNat yk (dR yc w).1 ye
    have hso := Be (x.e.set (eG x.e k).toNat (yk, (dR yc w).1, ye)) (by rw [List.length_set]; omega)
    generalize hes2 : x.e.set (eG x.e k).toNat (yk, (dR yc w).1, ye) = e2 at *
    have hfl := pJ 0 149 3 (srt bfE e2)
    generalize eG x.e k = fi at *
    generalize dR x.t w = a at *
    generalize dR yc w = a' at *
    obtain ⟨a1, a2⟩ := a
    obtain ⟨b1, b2⟩ := a'
    simp only at k1 k3 hes ⊢
    obtain ⟨z, t, l, b⟩ := x
    simp only at *
    refine gI oD Tryz.func51 Tryz.results51 ?_
    (repeat' first | refine wPA (aI @aP (aI @hg @hes)) (aI h1 (aI h2 (aI k1 (aI k2 k3)))) ?_ | refine cF hso hfl ?_ | refine tS ?_ ?_ <;> intro hc | fail)
    all_goals exact rE [13]
   ·by_cases q2 : (x.e.length : Int) < x.z
    ·have ei : xO x k w = (x.e ++ [(k, w, 0)], false) := by unfold xO; rw [if_neg q1, if_pos q2]
     rw [ei]
     have hes := lW x.e k w 0
     have hso := Be (x.e ++ [(k, w, 0)]) (by simp; omega)
     generalize hes2 : x.e ++ [(k, w, 0)] = e2 at *
     have hfl := pJ 0 149 3 (srt bfE e2)
     generalize eG x.e k = fi at *
     generalize dR x.t w = a at *
     obtain ⟨a1, a2⟩ := a
     simp only at k1 ⊢
     obtain ⟨z, t, l, b⟩ := x
     simp only at *
     refine gI oD Tryz.func51 Tryz.results51 ?_
     (repeat' first | refine wPA (aI @aP @hes) (aI h1 (aI h2 (aI k1 k2))) ?_ | refine cF hso hfl ?_ | refine tS ?_ ?_ <;> intro hc | fail)
     all_goals (refine rT [14] ?_; first | rfl | simp only [pgo, simprocAttr] | skip)
     all_goals skip
    ·have ei : xO x k w = (x.e.set (x.e.length - 1) (k, (dR (iP x) w).1, min (iP x) ((dR (iP x) w).1 - 1)), (dR (iP x) w).2) := by unfold xO; rw [if_neg q1, if_neg q2]
     rw [ei]
     have hl1 : x.e.length - 1 < x.e.length := by omega
     have hle : iP x = (x.e.getD (x.e.length - 1) eD).2.1 := if_neg (by omega)
     have her := pK (i4 _ hl1)
     have hlr : 1 ≤ iP x ∧ iP x ≤ 1099511627776 := by rw [hle]; exact her.2.1
     have k3 := qp (iP x) w (by unfold W64; omega) hw
     have k4 := Ws x hn
     have har := xN (iP x) w
     have hes := AU x.e (x.e.length - 1) k (dR (iP x) w).1 (min (iP x) ((dR (iP x) w).1 - 1))
     have hso := Be (x.e.set (x.e.length - 1) (k, (dR (iP x) w).1, min (iP x) ((dR (iP x) w).1 - 1))) (by rw [List.length_set]; omega)
     have hg := fG x.e (x.e.length - 1) hl1
     generalize hes2 : x.e.set (x.e.length - 1) (k, (dR (iP x) w).1, min (iP x) ((dR (iP x) w).1 - 1)) = e2 at *
     generalize x.e.getD (x.e.length - 1) eD = y at *
     have hfl := pJ 0 149 3 (srt bfE e2)
     clear hle
     generalize eG x.e k = fi at *
     generalize iP x = low at *
     generalize dR x.t w = a at *
     generalize dR low w = a' at *
     obtain ⟨a1, a2⟩ := a
     obtain ⟨b1, b2⟩ := a'
     simp only at k1 k3 hes har ⊢
     obtain ⟨z, t, l, b⟩ := x
     simp only at *
     have hi : ((l.length : Int) - 1).toNat = l.length - 1 := by omega
     cases b
     ·refine gI oD Tryz.func51 Tryz.results51 ?_
      (repeat' first | refine wPA (aI @aP (aI @hi (aI @hg @hes))) (aI h1 (aI h2 (aI k1 (aI k2 (aI k3 k4))))) ?_ | refine cF hso hfl ?_ | refine tS ?_ ?_ <;> intro hc | fail)
      all_goals exact rE [13]
     ·refine gI oD Tryz.func51 Tryz.results51 ?_
      (repeat' first | refine wPA (aI @aP (aI @hi (aI @hg @hes))) (aI h1 (aI h2 (aI k1 (aI k2 (aI k3 k4))))) ?_ | refine cF hso hfl ?_ | refine tS ?_ ?_ <;> intro hc | fail)
      all_goals exact rE [13]
  ·rw [if_pos (by omega)]
   refine Good.fzt (vs := [.agg [vi 0, vi 0, nls, vb false], vi (dW k w)]) ?_ rfl ⟨Wu, aj _, trivial⟩
   refine gI oD Tryz.func51 Tryz.results51 ?_
   exact wRA trivial (aI h1 h2) ah
 ·rw [if_pos (by omega)]
  refine Good.fzt (vs := [.agg [vi 0, vi 0, nls, vb false], vi (vTp x)]) ?_ rfl ⟨Wu, aj _, trivial⟩
  refine gI oD Tryz.func51 Tryz.results51 ?_
  exact wRA trivial h1 ah
end Go.Proofs.YtaoejnjkmfkbeaaGreat
