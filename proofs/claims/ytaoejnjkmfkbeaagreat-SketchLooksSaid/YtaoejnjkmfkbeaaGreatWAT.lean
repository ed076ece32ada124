/-
  Texts of this claim, merged; own names are short.
-/
import Derived.Test.YtaoejnjkmfkbeaaGreatWAS
import Derived.Test.YtaoejnjkmfkbeaaGreatWAO
import Derived.Test.YtaoejnjkmfkbeaaGreatWAQ
import Derived.Test.YtaoejnjkmfkbeaaGreatWAM
import Derived.Test.YtaoejnjkmfkbeaaGreatWAP
set_option linter.unusedVariables false
set_option linter.unusedSimpArgs false
set_option linter.unusedSectionVars false
set_option linter.defProp false
set_option maxRecDepth 100000
set_option maxHeartbeats 8000000
namespace Go.Proofs.YtaoejnjkmfkbeaaGreat
open Go Go.Pg
def pwI (h : Nat) : Int := IntKind.i64.wrap (1 * 2 ^ min h IntKind.i64.bits)
theorem P9 (h : Nat) : IntKind.i64.wrap (1 * 2 ^ min h IntKind.i64.bits) = pwI h := rfl
theorem Vb (h : Nat) : W64 (pwI h) := by
 unfold pwI W64
 rw [IntKind.wrap_i64]
 omega
theorem Zt (n : Int) : bits .and .i64 n 1 = n % 2 := dL n 1 (by decide)
theorem GV (co : List Nat) (i : Int) : zk co i = 0 ∨ zk co i = 1 := by
 unfold zk
 split
 ·exact .inl rfl
 ·rw [Zt]; omega
theorem WZ (a b : List (List Nat)) : sv a ++ sv b = sv (a ++ b) := by simp [sv]
theorem Qa (l : List (List Nat)) : V.flatL (sv l) = true := by
 induction l with
 | nil => rfl
 | cons a l ih => simp only [sv, List.map_cons, V.flatL, V.flat] at ih ⊢; simpa using ih
theorem CE (id : Nat) (e : TypeId) (l : List (List Nat)) : (V.sl (.own id e) 1 (sv l)).flat = true := Qa l
theorem jv (i k : Nat) (e : TypeId) (xs : List V) : V.free (.sl (.own i e) k xs) = false := rfl
def evN (l : List (List Nat)) (c n : Nat) : List (List Nat) := (List.range n).map fun j => l.getD (c + 2 * j) []
theorem CG (l : List (List Nat)) (c n : Nat) : evN l c n ++ [l.getD (c + 2 * n) []] = evN l c (n + 1) := by simp [evN, List.range_succ]
theorem zq (l : List (List Nat)) (c n : Nat) : (evN l c n).length = n := by simp [evN]
abbrev Stl := Nat × List (List Nat) × Int × Int × List (List (List Nat))
def bT (v : List (List (List Nat))) (s : Stl) : List (List Nat) := srt kl (if s.1 < v.length then v.getD s.1 [] ++ s.2.1 else s.2.1)
def eU (v : List (List (List Nat))) (z : Int) (co : List Nat) (s : Stl) : Stl :=
 if ((bT v s).length : Int) < z then (s.1 + 1, [], s.2.2.1, s.2.2.2.1, s.2.2.2.2 ++ [bT v s])
 else (s.1 + 1, evN (bT v s) (zk co s.2.2.2.1).toNat ((bT v s).length / 2), (bu s.2.2.1 (pwI s.1)).1, s.2.2.2.1 + 1, s.2.2.2.2 ++ [(bT v s).drop ((bT v s).length / 2 * 2)])
def l9 (v : List (List (List Nat))) (z : Int) (co : List Nat) : Nat → Stl → Stl
 | 0, s => s
 | f + 1, s => if s.1 < v.length ∨ 0 < s.2.1.length then l9 v z co f (eU v z co s) else s
def pJ (v : List (List (List Nat))) (M : Nat) (s : Stl) : Nat := (v.length - s.1) * (M + 1) + s.2.1.length
theorem vJ (v : List (List (List Nat))) (s : Stl) : (bT v s).length = (if s.1 < v.length then (v.getD s.1 []).length else 0) + s.2.1.length := by
 unfold bT
 rw [GI]
 split <;> simp
theorem W9 (v : List (List (List Nat))) (z : Int) (hz : 2 ≤ z) (co : List Nat) (M : Nat) (hM : ∀ i, (v.getD i []).length ≤ M) (s : Stl) (hs : s.2.1.length ≤ M) (hc : s.1 < v.length ∨ 0 < s.2.1.length) :
  (eU v z co s).2.1.length ≤ M ∧ pJ v M (eU v z co s) < pJ v M s := by
 have hl := vJ v s
 have hi := hM s.1
 obtain ⟨h, ca, lo, a, o⟩ := s
 have key : (eU v z co (h, ca, lo, a, o)).1 = h + 1 ∧ (eU v z co (h, ca, lo, a, o)).2.1.length ≤ (bT v (h, ca, lo, a, o)).length / 2 := by
  unfold eU
  by_cases q : ((bT v (h, ca, lo, a, o)).length : Int) < z
  ·rw [if_pos q]; exact ⟨rfl, Nat.zero_le _⟩
  ·rw [if_neg q]; exact ⟨rfl, by simp only [zq]; omega⟩
 obtain ⟨k1, k2⟩ := key
 unfold pJ
 rw [k1]
 generalize (eU v z co (h, ca, lo, a, o)).2.1.length = n at *
 simp only at *
 rcases Nat.lt_or_ge h v.length with h1 | h1
 ·rw [if_pos h1] at hl
  have e : v.length - h = (v.length - (h + 1)) + 1 := by omega
  have e2 : (v.length - h) * (M + 1) = (v.length - (h + 1)) * (M + 1) + (M + 1) := by rw [e, Nat.succ_mul]
  rw [e2]
  generalize (v.length - (h + 1)) * (M + 1) = q
  omega
 ·rw [if_neg (by omega)] at hl
  have e : v.length - h = 0 := by omega
  have e2 : v.length - (h + 1) = 0 := by omega
  rw [e, e2, Nat.zero_mul]
  omega
def jw : Nat → List (List (List Nat)) → List (List (List Nat))
 | 0, l => l
 | f + 1, l => if 0 < l.length ∧ (l.getD (l.length - 1) []).length = 0 then jw f (l.take (l.length - 1)) else l
def lq (v : List (List (List Nat))) (z lost : Int) (co : List Nat) (at' : Int) (M : Nat) : Stl := l9 v z co (v.length * (M + 1)) (0, [], lost, at', [])
theorem UG (v : List (List (List Nat))) (z : Int) (co : List Nat) : ∀ (f : Nat) (s : Stl), (l9 v z co f s).2.2.2.2.length ≤ s.2.2.2.2.length + f := by
 intro f
 induction f with
 | zero => intro s; exact Nat.le_refl _
 | succ f ih =>
  intro s
  unfold l9
  split
  ·have := ih (eU v z co s)
   have h : (eU v z co s).2.2.2.2.length = s.2.2.2.2.length + 1 := by unfold eU; split <;> simp
   omega
  ·omega
theorem JR (v : List (List (List Nat))) (z lost : Int) (co : List Nat) (at' : Int) (M : Nat) (hz : 2 ≤ z ∧ z ≤ 32) (hco : oct co) (hM : ∀ i, (v.getD i []).length ≤ M) (hM2 : M ≤ 10000) (hv : v.length ≤ 100) (hl : W64 lost) (ha : 0 ≤ at' ∧ at' ≤ 1073741824) :
  Pg.Good Tryz.prog 146 [fzl v, vi z, vi lost, fzb co, vi at'] (.tup [fzl (jw (lq v z lost co at' M).2.2.2.2.length (lq v z lost co at' M).2.2.2.2), vi (lq v z lost co at' M).2.2.1, vi (lq v z lost co at' M).2.2.2.1]) := by
 have hvl := aS v
 have hF : v.length * (M + 1) ≤ 100 * 10001 := Nat.mul_le_mul hv (by omega)
 unfold lq
 generalize hR : l9 v z co (v.length * (M + 1)) (0, [], lost, at', []) = R
 refine gI oW Tryz.func146 Tryz.results146 ?_
 refine wS trivial trivial ?_
 refine aK (fun x : Nat × Stl => mkA [(0, fzl v), (1, vi z), (2, vi x.2.2.2.1), (3, fzb co), (4, vi x.2.2.2.2.1), (13, .sl (.own 0 108) 1 (lv x.2.2.2.2.2)), (14, .sl (.own 1 9) 1 (sv x.2.2.1)), (15, vi x.2.1)] [] 2 (fun _ => .top))
  (fun x => pJ v M x.2 ≤ x.1 ∧ x.2.2.1.length ≤ M ∧ W64 x.2.2.2.1 ∧ l9 v z co x.1 x.2 = R ∧ x.1 + x.2.1 = v.length * (M + 1) ∧ x.2.2.2.2.2.length = x.2.1 ∧ 0 ≤ x.2.2.2.2.1 ∧ x.2.2.2.2.1 ≤ 1073741824 + x.2.1) (fun x => x.1) (v.length * (M + 1), (0, [], lost, at', [])) [] [] ?_ ⟨by simp [pJ], Nat.zero_le _, hl, hR, rfl, rfl, ha.1, by simp only; omega⟩ ?_
 ·exact kE
  all_goals first | exact dR rfl | skip
 ·rintro ⟨f, h, ca, lo, a, o⟩ ⟨i1, i2, i3, i4, i5, i6, i7, i8⟩
  simp only at i1 i2 i3 i4 i5 i6 i7 i8
  have hcl := bU ca
  have hol := aS o
  by_cases hc : h < v.length ∨ 0 < ca.length
  ·have hmu := W9 v z hz.1 co M hM (h, ca, lo, a, o) i2 hc
   have hcu := vJ v (h, ca, lo, a, o)
   have est : eU v z co (h, ca, lo, a, o) = if ((bT v (h, ca, lo, a, o)).length : Int) < z then (h + 1, [], lo, a, o ++ [bT v (h, ca, lo, a, o)]) else (h + 1, evN (bT v (h, ca, lo, a, o)) (zk co a).toNat ((bT v (h, ca, lo, a, o)).length / 2), (bu lo (pwI h)).1, a + 1, o ++ [(bT v (h, ca, lo, a, o)).drop ((bT v (h, ca, lo, a, o)).length / 2 * 2)]) := rfl
   cases f with
   | zero => exact absurd hmu.2 (by omega)
   | succ f =>
   have e : l9 v z co (f + 1) (h, ca, lo, a, o) = l9 v z co f (eU v z co (h, ca, lo, a, o)) := if_pos hc
   rw [e] at i4
   by_cases hlt : h < v.length
   ·have ecu : bT v (h, ca, lo, a, o) = srt kl (v.getD h [] ++ ca) := by unfold bT; simp only [if_pos hlt]
    have hg := jo v h hlt
    have hlM := hM h
    simp only [if_pos hlt] at hcu
    have hso := vI (v.getD h [] ++ ca) (by rw [List.length_append]; omega)
    rw [← ecu] at hso
    have hfl := CE 0 9 (bT v (h, ca, lo, a, o))
    have hbi := PL co hco a (by omega)
    have hb01 := GV co a
    generalize bT v (h, ca, lo, a, o) = cur at *
    have hsl := bU cur
    have hap := WZ (v.getD h []) ca
    have hsl2 := bU (v.getD h [])
    generalize v.getD h [] ++ ca = lc at *
    generalize v.getD h [] = lev at *
    by_cases q1 : (cur.length : Int) < z
    ·rw [if_pos q1] at est
     rw [est] at hmu i4
     have hls := o7 o cur
     (repeat' first | refine wP (aI @pgv (aI @jv (aI @au (aI @false_or (aI @Bool.false_eq_true (aI @Option.bind_none.{0,0} (aI @hvl (aI @hcl (aI @hol (aI @hg (aI @hap (aI @hsl (aI @hls @hsl2))))))))))))) trivial ?_ | refine cF hso hfl ?_ | refine tS ?_ ?_ <;> intro hc | fail)
     refine aQ (f, (h + 1, [], lo, a, o ++ [cur])) [0, 1] [] ⟨by have := hmu.2; show pJ v M (h + 1, [], lo, a, o ++ [cur]) ≤ f; omega, Nat.zero_le _, i3, i4, by simp only; omega, by simp [i6], i7, by simp only; omega⟩ (by show f < f + 1; omega) ?_
     exact kE
     all_goals exact dR rfl
    ·rw [if_neg q1] at est
     rw [est] at hmu i4
     have k5 := lm lo (pwI h) i3 (Vb h)
     have har := qC lo (pwI h)
     have ed : (cur.length : Int).tdiv 2 = ((cur.length / 2 : Nat) : Int) := by rw [Int.tdiv_eq_ediv_of_nonneg (by omega)]; omega
     have em : (((cur.length / 2 : Nat) : Int) * 2).toNat = cur.length / 2 * 2 := by omega
     have hdr := GR cur (cur.length / 2 * 2)
     have hls := o7 o (cur.drop (cur.length / 2 * 2))
     obtain ⟨cn, hcn, hcn1⟩ : ∃ cn : Nat, zk co a = (cn : Int) ∧ cn ≤ 1 := by
      rcases hb01 with h | h
      ·exact ⟨0, h, by decide⟩
      ·exact ⟨1, h, by decide⟩
     rw [hcn] at hbi est hmu i4
     rw [Int.toNat_natCast] at est hmu i4
     (repeat' first | refine wP (aI @pgv (aI @jv (aI @au (aI @false_or (aI @Bool.false_eq_true (aI @Option.bind_none.{0,0} (aI @hvl (aI @hcl (aI @hol (aI @hg (aI @hap (aI @hsl (aI @hsl2 @ed))))))))))))) hbi ?_ | refine cF hso hfl ?_ | refine tS ?_ ?_ <;> intro hc | fail)
     refine aK (fun j : Nat => mkA [(0, fzl v), (1, vi z), (2, vi lo), (3, fzb co), (4, vi a), (13, .sl (.own 0 108) 1 (lv o)), (14, .sl (.own 1 9) 1 (sv (evN cur cn j))), (15, vi h), (16, .sl (.own 2 9) 1 (sv cur)), (17, vi (((cur.length / 2 : Nat) : Int) * 2)), (18, vi ((cn : Int) + 2 * j))] [] 3 (fun _ => .top)) (fun j => j ≤ cur.length / 2) (fun j => cur.length / 2 - j) 0 [0, 1, 3] [] ?_ (Nat.zero_le _) ?_
     ·exact kE
      all_goals exact dR rfl
     ·intro j hj
      replace hj : j ≤ cur.length / 2 := hj
      have hev : (sv (evN cur cn j)).length = j := by rw [bU, zq]
      rcases Nat.lt_or_ge j (cur.length / 2) with hjl | hjg
      ·have hin : ((cn : Int) + 2 * (j : Int)).toNat = cn + 2 * j := by omega
       have hg2 := iJ cur (cn + 2 * j) (by omega)
       have hsn : sv (evN cur cn j) ++ [vs (cur.getD (cn + 2 * j) [])] = sv (evN cur cn (j + 1)) := by rw [svS, CG]
       refine wS (aI @pgv (aI @hsl (aI @hin (aI @hg2 (aI @hsn @hev))))) trivial ?_
       exact bE (j + 1) [0, 1, 2] [] hjl
       all_goals first | exact aX (by omega) | skip
      ·have : j = cur.length / 2 := by omega
       subst this
       refine wS (aI @pgv (aI @jv (aI @au (aI @false_or (aI @Bool.false_eq_true (aI @Option.bind_none.{0,0} (aI @hvl (aI @hcl (aI @hol (aI @hsl (aI @hev (aI @em (aI @hdr (aI @hls @P9)))))))))))))) k5 ?_
       refine aQ (f, (h + 1, evN cur cn (cur.length / 2), (bu lo (pwI h)).1, a + 1, o ++ [cur.drop (cur.length / 2 * 2)])) [0, 1] [] ⟨by have := hmu.2; show pJ v M (h + 1, evN cur cn (cur.length / 2), (bu lo (pwI h)).1, a + 1, o ++ [cur.drop (cur.length / 2 * 2)]) ≤ f; omega, hmu.1, by simp only; unfold W64; omega, i4, by simp only; omega, by simp [i6], by simp only; omega, by simp only; omega⟩ (by show f < f + 1; omega) ?_
       exact kE
   ·have hca : 0 < ca.length := by rcases hc with h | h; exact absurd h hlt; exact h
    have ecu : bT v (h, ca, lo, a, o) = srt kl ca := by unfold bT; simp only [if_neg hlt]
    simp only [if_neg hlt] at hcu
    have hso := vI ca (by omega)
    rw [← ecu] at hso
    have hfl := CE 0 9 (bT v (h, ca, lo, a, o))
    have hbi := PL co hco a (by omega)
    have hb01 := GV co a
    generalize bT v (h, ca, lo, a, o) = cur at *
    have hsl := bU cur
    by_cases q1 : (cur.length : Int) < z
    ·rw [if_pos q1] at est
     rw [est] at hmu i4
     have hls := o7 o cur
     (repeat' first | refine wP (aI @pgv (aI @jv (aI @au (aI @false_or (aI @Bool.false_eq_true (aI @Option.bind_none.{0,0} (aI @hvl (aI @hcl (aI @hol (aI @hsl @hls)))))))))) trivial ?_ | refine cF hso hfl ?_ | refine tS ?_ ?_ <;> intro hc | fail)
     refine aQ (f, (h + 1, [], lo, a, o ++ [cur])) [0, 1] [] ⟨by have := hmu.2; show pJ v M (h + 1, [], lo, a, o ++ [cur]) ≤ f; omega, Nat.zero_le _, i3, i4, by simp only; omega, by simp [i6], i7, by simp only; omega⟩ (by show f < f + 1; omega) ?_
     exact kE
     all_goals exact dR rfl
    ·rw [if_neg q1] at est
     rw [est] at hmu i4
     have k5 := lm lo (pwI h) i3 (Vb h)
     have har := qC lo (pwI h)
     have ed : (cur.length : Int).tdiv 2 = ((cur.length / 2 : Nat) : Int) := by rw [Int.tdiv_eq_ediv_of_nonneg (by omega)]; omega
     have em : (((cur.length / 2 : Nat) : Int) * 2).toNat = cur.length / 2 * 2 := by omega
     have hdr := GR cur (cur.length / 2 * 2)
     have hls := o7 o (cur.drop (cur.length / 2 * 2))
     obtain ⟨cn, hcn, hcn1⟩ : ∃ cn : Nat, zk co a = (cn : Int) ∧ cn ≤ 1 := by
      rcases hb01 with h | h
      ·exact ⟨0, h, by decide⟩
      ·exact ⟨1, h, by decide⟩
     rw [hcn] at hbi est hmu i4
     rw [Int.toNat_natCast] at est hmu i4
     (repeat' first | refine wP (aI @pgv (aI @jv (aI @au (aI @false_or (aI @Bool.false_eq_true (aI @Option.bind_none.{0,0} (aI @hvl (aI @hcl (aI @hol (aI @hsl @ed)))))))))) hbi ?_ | refine cF hso hfl ?_ | refine tS ?_ ?_ <;> intro hc | fail)
     refine aK (fun j : Nat => mkA [(0, fzl v), (1, vi z), (2, vi lo), (3, fzb co), (4, vi a), (13, .sl (.own 0 108) 1 (lv o)), (14, .sl (.own 1 9) 1 (sv (evN cur cn j))), (15, vi h), (16, .sl (.own 2 9) 1 (sv cur)), (17, vi (((cur.length / 2 : Nat) : Int) * 2)), (18, vi ((cn : Int) + 2 * j))] [] 3 (fun _ => .top)) (fun j => j ≤ cur.length / 2) (fun j => cur.length / 2 - j) 0 [0, 1, 2] [] ?_ (Nat.zero_le _) ?_
     ·exact kE
      all_goals exact dR rfl
     ·intro j hj
      replace hj : j ≤ cur.length / 2 := hj
      have hev : (sv (evN cur cn j)).length = j := by rw [bU, zq]
      rcases Nat.lt_or_ge j (cur.length / 2) with hjl | hjg
      ·have hin : ((cn : Int) + 2 * (j : Int)).toNat = cn + 2 * j := by omega
       have hg2 := iJ cur (cn + 2 * j) (by omega)
       have hsn : sv (evN cur cn j) ++ [vs (cur.getD (cn + 2 * j) [])] = sv (evN cur cn (j + 1)) := by rw [svS, CG]
       refine wS (aI @pgv (aI @hsl (aI @hin (aI @hg2 (aI @hsn @hev))))) trivial ?_
       exact bE (j + 1) [0, 1, 2] [] hjl
       all_goals first | exact aX (by omega) | skip
      ·have : j = cur.length / 2 := by omega
       subst this
       refine wS (aI @pgv (aI @jv (aI @au (aI @false_or (aI @Bool.false_eq_true (aI @Option.bind_none.{0,0} (aI @hvl (aI @hcl (aI @hol (aI @hsl (aI @hev (aI @em (aI @hdr (aI @hls @P9)))))))))))))) k5 ?_
       refine aQ (f, (h + 1, evN cur cn (cur.length / 2), (bu lo (pwI h)).1, a + 1, o ++ [cur.drop (cur.length / 2 * 2)])) [0, 1] [] ⟨by have := hmu.2; show pJ v M (h + 1, evN cur cn (cur.length / 2), (bu lo (pwI h)).1, a + 1, o ++ [cur.drop (cur.length / 2 * 2)]) ≤ f; omega, hmu.1, by simp only; unfold W64; omega, i4, by simp only; omega, by simp [i6], by simp only; omega, by simp only; omega⟩ (by show f < f + 1; omega) ?_
       exact kE
  ·have e : l9 v z co f (h, ca, lo, a, o) = (h, ca, lo, a, o) := by
    cases f with
    | zero => rfl
    | succ f => exact if_neg hc
   rw [e] at i4
   subst i4
   simp only
   refine wS (aI @hvl (aI @hcl @hol)) trivial ?_
   refine Pn 0 ?_
   refine wS @hvl trivial ?_
   generalize hT : jw o.length o = T
   refine aK (fun x : Nat × List (List (List Nat)) => mkA [(2, vi lo), (4, vi a), (13, fzl x.2)] [] 0 (fun _ => .top)) (fun x => x.2.length ≤ x.1 ∧ jw x.1 x.2 = T ∧ x.2.length ≤ 10000000) (fun x => x.1) (o.length, o) [] [] ?_ ⟨Nat.le_refl _, hT, by simp only; omega⟩ ?_
   ·exact kE
   ·rintro ⟨g, o⟩ ⟨n1, n2, n3⟩
    simp only at n1 n2 n3
    have hol := aS o
    by_cases q6 : 0 < o.length
    ·have hg := jo o (o.length - 1) (by omega)
     have hi1 : ((o.length : Int) - 1).toNat = o.length - 1 := by omega
     cases g with
     | zero => exact absurd q6 (by omega)
     | succ g =>
     have e : jw (g + 1) o = if 0 < o.length ∧ (o.getD (o.length - 1) []).length = 0 then jw g (o.take (o.length - 1)) else o := rfl
     rw [e] at n2
     have htk := Ux o (o.length - 1)
     generalize o.getD (o.length - 1) [] = lev at *
     have hsl := bU lev
     by_cases q7 : lev.length = 0
     ·rw [if_pos ⟨q6, q7⟩] at n2
      refine wS (aI @pgv (aI @hol (aI @hg (aI @hsl (aI @hi1 @htk))))) trivial ?_
      refine aQ (g, o.take (o.length - 1)) [] [] ⟨by simp only [List.length_take]; omega, n2, by simp only [List.length_take]; omega⟩ (by show g < g + 1; omega) ?_
      exact kE
     ·rw [if_neg (by omega)] at n2
      subst n2
      exact wR (aI @pgv (aI @hol (aI @hg (aI @hsl @hi1)))) trivial ae
    ·have e : jw g o = o := by
      cases g with
      | zero => rfl
      | succ g => exact if_neg (fun h => q6 h.1)
     rw [e] at n2
     subst n2
     exact wR (aI @pgv @hol) trivial ae
def fU (v : List (List (List Nat))) (n : Nat) : List (List (List Nat)) := v ++ List.replicate (n - v.length) []
theorem xM (v : List (List (List Nat))) (n : Nat) : (fU v n).length = max v.length n := by simp [fU]; omega
theorem nX (v : List (List (List Nat))) (n : Nat) (h : n ≤ v.length) : fU v n = v := by
 have : n - v.length = 0 := by omega
 simp [fU, this]
theorem FD (v : List (List (List Nat))) (n : Nat) (h : v.length ≤ n) : fU v n ++ [[]] = fU v (n + 1) := by
 unfold fU
 rw [show n + 1 - v.length = (n - v.length) + 1 by omega, List.replicate_succ', List.append_assoc]
theorem xN (v : List (List (List Nat))) (n i : Nat) : (fU v n).getD i [] = v.getD i [] := by
 unfold fU
 rcases Nat.lt_or_ge i v.length with h | h
 ·simp [List.getD, List.getElem?_append, h]
 ·rw [List.getD, List.getD, List.getElem?_append_right h, List.getElem?_eq_none (l := v) h]
  rcases Nat.lt_or_ge (i - v.length) (n - v.length) with h2 | h2
  ·simp [List.getElem?_replicate, h2]
  ·simp [List.getElem?_replicate, Nat.not_lt.2 h2]
def wM (k : List Nat) (v : List (List (List Nat))) (p : Nat) : List (List (List Nat)) := (fU v (p + 1)).set p (v.getD p [] ++ [k])
def jR (k : List Nat) (ps : List Int) (v : List (List (List Nat))) : Nat → List (List (List Nat))
 | 0 => v
 | i + 1 => wM k (jR k ps v i) (ps.getD i 0).toNat
theorem CJ (l : List (List (List Nat))) (p : Nat) (x : List (List Nat)) (i n : Nat) (h : ∀ i, (l.getD i []).length ≤ n) (hx : x.length ≤ n) : ((l.set p x).getD i []).length ≤ n := by
 rw [List.getD]
 rcases Nat.lt_or_ge p l.length with hp | hp
 ·by_cases he : p = i
  ·subst he; rw [List.getElem?_set_self hp]; exact hx
  ·rw [List.getElem?_set_ne he]; exact h i
 ·rw [List.set_eq_of_length_le hp]; exact h i
theorem CO (k : List Nat) (ps : List Int) (v : List (List (List Nat))) (hps : ∀ i, (ps.getD i 0).toNat ≤ 62) (M : Nat) (hM : ∀ i, (v.getD i []).length ≤ M) (hv : v.length ≤ 63) (i : Nat) : (jR k ps v i).length ≤ 63 ∧ ∀ j, ((jR k ps v i).getD j []).length ≤ M + i := by
 induction i with
 | zero => exact ⟨hv, hM⟩
 | succ i ih =>
  obtain ⟨h1, h2⟩ := ih
  refine ⟨?_, fun j => ?_⟩
  ·show (wM k (jR k ps v i) (ps.getD i 0).toNat).length ≤ 63
   have := hps i
   unfold wM
   rw [List.length_set, xM]
   omega
  ·show ((wM k (jR k ps v i) (ps.getD i 0).toNat).getD j []).length ≤ M + (i + 1)
   unfold wM
   refine CJ _ _ _ _ _ (fun j => ?_) ?_
   ·rw [xN]; have := h2 j; omega
   ·rw [List.length_append]; have := h2 (ps.getD i 0).toNat; simp only [List.length_cons, List.length_nil]; omega
theorem CP (n : Int) (m i : Nat) (hm : 0 < m) : 0 ≤ (fD n m).getD i 0 ∧ (fD n m).getD i 0 ≤ m - 1 := by
 rcases Nat.lt_or_ge i (fD n m).length with h | h
 ·have hmem : (fD n m).getD i 0 ∈ fD n m := by rw [List.getD_eq_getElem?_getD, List.getElem?_eq_getElem h]; exact List.getElem_mem h
  unfold fD at hmem
  obtain ⟨j, hj, he⟩ := List.mem_map.1 hmem
  have := List.mem_range.1 (List.mem_filter.1 hj).1
  unfold fD
  rw [← he]; omega
 ·rw [List.getD, List.getElem?_eq_none h]; simp; omega
theorem Qb {x : Rk} (h : vRk x = 0) : ((2 ≤ x.z ∧ x.z ≤ 32) ∧ x.z % 2 = 0) ∧ (0 ≤ x.t ∧ x.t ≤ 1099511627776) ∧ (0 ≤ x.l ∧ x.l ≤ 1099511627776) ∧ x.v.length ≤ 41 ∧ ∀ i, (x.v.getD i []).length ≤ 31 := by
 unfold vRk at h
 split at h
 ·cases h
 ·rename_i h1
  have h1 := Classical.byContradiction h1
  split at h
  ·cases h
  ·rename_i h2
   split at h
   ·rename_i h3; exact absurd h h3
   ·rename_i h3
    have h3 := Classical.byContradiction h3
    refine ⟨h1.1, h1.2.1, h1.2.2, by omega, fun i => ?_⟩
    rcases Nat.lt_or_ge i x.v.length with hi | hi
    ·have h4 := FC _ _ _ h3 i (Nat.zero_le _) (by omega)
     unfold jr at h4
     split at h4
     ·cases h4
     ·omega
    ·rw [List.getD, List.getElem?_eq_none hi]; simp
def qF (x : Rk) (k : List Nat) (w : Int) : List (List (List Nat)) := jR k (fD w 63) x.v (fD w 63).length
def wO (x : Rk) (k : List Nat) (w : Int) (co : List Nat) (at' : Int) : Stl := lq (qF x k w) x.z x.l co at' 100
def kQ (x : Rk) (k : List Nat) (w : Int) (co : List Nat) (at' : Int) : Rk × Int × Int :=
 if vRk x ≠ 0 then (Rk.o, 0, vRk x) else if bD k w ≠ 0 then (Rk.o, 0, bD k w) else if ¬ (0 ≤ at' ∧ at' ≤ 1073741824) then (Rk.o, 0, 5)
 else if (bu x.t w).2 = true then (⟨x.z, x.t, x.l, x.v, true⟩, at', 0)
 else (⟨x.z, (bu x.t w).1, (wO x k w co at').2.2.1, jw (wO x k w co at').2.2.2.2.length (wO x k w co at').2.2.2.2, x.b⟩, (wO x k w co at').2.2.2.1, 0)
theorem FH : wkV (.agg [vi 0, vi 0, vi 0, nls, vb false]) (.agg (rkF Rk.o)) := .inr ⟨_, _, rfl, rfl, ⟨.inl rfl, .inl rfl, .inl rfl, kY _ _, .inl rfl, trivial⟩⟩
theorem vK (x : Rk) (k : List Nat) (w : Int) (co : List Nat) (at' : Int) (ho : oct k) (hco : oct co) (hv : ∀ l ∈ x.v, octL l) (hn : x.v.length ≤ 1000000) (hn2 : ∀ l ∈ x.v, l.length ≤ 1000000) :
  Pg.Good Tryz.prog 53 [.agg (rkF x), .agg [vs k, vi w], fzb co, vi at'] (.tup [.agg (rkF (kQ x k w co at').1), vi (kQ x k w co at').2.1, vi (kQ x k w co at').2.2]) := by
 have h1 := kP x hv hn hn2
 have h2 := aJ k w
 have h3 := Cj at'
 unfold kQ
 by_cases c1 : vRk x = 0
 ·rw [if_neg (by omega)]
  rw [c1] at h1
  by_cases c2 : bD k w = 0
  ·rw [if_neg (by omega)]
   rw [c2] at h2
   by_cases c3 : 0 ≤ at' ∧ at' ≤ 1073741824
   ·rw [if_neg (fun h => h c3)]
    rw [decide_eq_true c3] at h3
    obtain ⟨i1, i2, i3, i4, i5⟩ := Qb c1
    obtain ⟨j1, j2⟩ := jq c2
    have k1 := lm x.t w (by unfold W64; omega) (by unfold W64; omega)
    by_cases c4 : (bu x.t w).2 = true
    ·rw [if_pos c4]
     generalize bu x.t w = a at *
     obtain ⟨a1, a2⟩ := a
     simp only at c4 k1
     subst c4
     obtain ⟨z, t, lo, v, b⟩ := x
     simp only at *
     refine gI oW Tryz.func53 Tryz.results53 ?_
     exact wR trivial (aI h1 (aI h2 (aI h3 k1))) ae
    ·rw [if_neg c4]
     have k2 := JK w (by omega)
     have hps := fun i => CP w 63 i (by decide)
     have hpl := BZ w 63
     have hin := fun i => CO k (fD w 63) x.v (fun i => by have := hps i; omega) 31 i5 (by omega) i
     have hst := JR (qF x k w) x.z x.l co at' 100 (by omega) hco (fun i => by have := (hin (fD w 63).length).2 i; unfold qF; omega) (by omega) (by have := (hin (fD w 63).length).1; unfold qF; omega) (by unfold W64; omega) c3
     have hR : lq (qF x k w) x.z x.l co at' 100 = wO x k w co at' := rfl
     rw [hR] at hst
     generalize wO x k w co at' = R at *
     generalize jw R.2.2.2.2.length R.2.2.2.2 = T at *
     unfold qF at hst
     have hp0 : jR k (fD w 63) x.v 0 = x.v := rfl
     have hpn : ∀ i, jR k (fD w 63) x.v (i + 1) = wM k (jR k (fD w 63) x.v i) ((fD w 63).getD i 0).toNat := fun _ => rfl
     generalize hps2 : fD w 63 = ps at *
     generalize bu x.t w = a at *
     obtain ⟨a1, a2⟩ := a
     simp only at c4 k1
     have c4 : a2 = false := by simpa using c4
     subst c4
     obtain ⟨z, t, lo, v, b⟩ := x
     simp only at *
     have hvl := aS v
     have hil := ax ps
     refine kW (MB (fun d => bif d == 85 then true else false) [] mix) Tryz.func53 rfl Tryz.results53 rfl (by kernel_rfl) (Nat.le_of_ble_eq_true (by kernel_rfl)) ?_
     refine wS (aI @pgF @aS) (aI h1 (aI h2 (aI h3 (aI k1 k2)))) ?_
     refine aK (fun i : Nat => mkA [(2, fzb co), (3, vi at'), (4, .ref 0 0), (5, .ref 1 0), (8, .ref 2 0), (13, vi a1), (15, .sl (.own 0 108) 1 (lv (jR k ps v i))), (16, fzi ps), (17, vi i)] [(0, (39, rkF ⟨z, t, lo, v, b⟩)), (1, (45, [vs k, vi w])), (2, (39, [vi 0, vi 0, vi 0, nls, vb false]))] 3 (fun _ => .top)) (fun i => i ≤ ps.length) (fun i => ps.length - i) 0 [3] [0, 1, 2] ?_ (Nat.zero_le _) ?_
     ·exact kE
     ·intro i hi
      replace hi : i ≤ ps.length := hi
      have hcl := (hin i).1
      have hlc := aS (jR k ps v i)
      rcases Nat.lt_or_ge i ps.length with hlt | hge
      ·have hg := jm ps i hlt
       have hpi := hps i
       have hnx := hpn i
       generalize hcur : jR k ps v i = cur at *
       generalize hpp : ps.getD i 0 = p' at *
       obtain ⟨p, rfl⟩ : ∃ p : Nat, p' = p := ⟨p'.toNat, by omega⟩
       rw [Int.toNat_natCast] at hnx
       refine wS (aI @pgF (aI @hil @hg)) trivial ?_
       refine aK (fun m : Nat => mkA [(2, fzb co), (3, vi at'), (4, .ref 0 0), (5, .ref 1 0), (8, .ref 2 0), (13, vi a1), (15, .sl (.own 0 108) 1 (lv (fU cur m))), (16, fzi ps), (17, vi i)] [(0, (39, rkF ⟨z, t, lo, v, b⟩)), (1, (45, [vs k, vi w])), (2, (39, [vi 0, vi 0, vi 0, nls, vb false]))] 3 (fun _ => .top)) (fun m => cur.length ≤ m ∧ (m = cur.length ∨ m ≤ p + 1)) (fun m => p + 1 - m) cur.length [0] [0, 1, 2] ?_ ⟨Nat.le_refl _, .inl rfl⟩ ?_
       ·refine kL ?_
        all_goals exact aP rfl (by rw [nX _ _ (Nat.le_refl _)])
       ·rintro m ⟨hm1, hm2⟩
        have hgl := xM cur m
        rw [Nat.max_eq_right hm1] at hgl
        have hlg := aS (fU cur m)
        have hgn := FD cur m hm1
        have hls := o7 (fU cur m) []
        rw [hgn] at hls
        rcases Nat.lt_or_ge p m with hpm | hpm
        ·have hmm : fU cur m = fU cur (p + 1) := by
          rcases hm2 with rfl | h
          ·rw [nX _ _ (Nat.le_refl _), nX _ _ hpm]
          ·have : m = p + 1 := by omega
           rw [this]
         have hgp := jo (fU cur m) p (by omega)
         rw [xN] at hgp
         have hput : wM k cur p = (fU cur m).set p (cur.getD p [] ++ [k]) := by unfold wM; rw [hmm]
         rw [hput] at hnx
         have hset := WO (fU cur m) p (cur.getD p [] ++ [k])
         rw [← hnx] at hset
         have hll := (hin i).2 p
         rw [hcur] at hll
         generalize fU cur m = G at *
         generalize cur.getD p [] = lev at *
         have hsl := bU lev
         have hsn := svS lev k
         refine wS (aI @pgF (aI @pgv (aI @jv (aI @au (aI @false_or (aI @Bool.false_eq_true (aI @Option.bind_none.{0,0} (aI @hil (aI @hg (aI @hlg (aI @hgl (aI @hgp (aI @hsl (aI @hsn @hset)))))))))))))) trivial ?_
         (refine bL (i + 1) [0] [0, 1, 2] hlt ?_; refine kL ?_)
         all_goals exact aP rfl hset
        ·refine wS (aI @pgF (aI @pgv (aI @hil (aI @hg (aI @hlg @hgl))))) trivial ?_
         (refine bL (m + 1) [0] [0, 1, 2] ⟨by omega, .inr (by omega)⟩ ?_; refine kL ?_)
         all_goals exact OO rfl (by rw [← hls]; exact Ah (.inr (.inl ⟨rfl, rfl, 1, rfl⟩)) _)
      ·have : i = ps.length := by omega
       subst this
       (repeat' first | refine wP (aI @pgF (aI @pgv (aI @hil @id_eq.{1}))) trivial ?_ | refine cG [0] hst ?_ | refine tS ?_ ?_ <;> intro hc | fail)
       exact rE []
   ·rw [if_pos c3]
    rw [decide_eq_false c3] at h3
    refine Good.fzt (vs := [.agg [vi 0, vi 0, vi 0, nls, vb false], vi 0, vi 5]) ?_ rfl ⟨FH, aB _, aB _, trivial⟩
    refine gI oW Tryz.func53 Tryz.results53 ?_
    exact wR trivial (aI h1 (aI h2 h3)) ae
  ·rw [if_pos (by omega)]
   refine Good.fzt (vs := [.agg [vi 0, vi 0, vi 0, nls, vb false], vi 0, vi (bD k w)]) ?_ rfl ⟨FH, aB _, aB _, trivial⟩
   refine gI oW Tryz.func53 Tryz.results53 ?_
   exact wR trivial (aI h1 h2) ae
 ·rw [if_pos (by omega)]
  refine Good.fzt (vs := [.agg [vi 0, vi 0, vi 0, nls, vb false], vi 0, vi (vRk x)]) ?_ rfl ⟨FH, aB _, aB _, trivial⟩
  refine gI oW Tryz.func53 Tryz.results53 ?_
  exact wR trivial h1 ae
theorem getD_some {α : Type} (l : List α) (i : Nat) (d : α) (h : i < l.length) : l[i]? = some (l.getD i d) := by simp [List.getD, h]
theorem UH (l : List Nat) (h : (l.all fun b => decide (b < 256)) = true) : oct l := fun b hb => by simpa using List.all_eq_true.1 h b hb
def hdW (l : List (List Nat)) : List Nat := l.headD []
def Zu (l : List (List Nat)) : Bool := l.isEmpty || !decide ((WX (hdW l)).2 = 0)
def Zv (l : List (List Nat)) : Bool := l.isEmpty || !decide ((pk (hdW l)).2 = 0)
def its (acc : List (List Nat × Int)) (l : List (List Nat)) (bad : Bool) : List (List Nat × Int) × List (List Nat) × Bool :=
 match bad, l with
 | true, l => (acc, l, true)
 | false, [] => (acc, [], false)
 | false, [k] => (acc ++ [((pk k).1, (WX []).1)], [], true)
 | false, k :: w :: r => its (acc ++ [((pk k).1, (WX w).1)]) r (Zv (k :: w :: r) || Zu (w :: r))
termination_by l.length
def Wt (n : Int) : Prop := -9223372036854775808 ≤ n ∧ n ≤ 9223372036854775807
theorem sh5 (n : Int) : Int.fdiv n (2 ^ min 5 IntKind.i64.bits) = n.fdiv 32 := rfl
theorem sh7 (n : Int) : Int.fdiv n (2 ^ min 7 IntKind.i64.bits) = n.fdiv 128 := rfl
def mf : List (List Nat) := [[97], [98], [99], [100], [101], [102], [97, 97], [98, 32, 99], [37, 54, 49], [65, 58, 49], [0], [122, 47, 255]]
def u8i (n : Int) : Nat := (n % 256).toNat
theorem Yb (n : Int) : IntKind.u8.wrap n = ((u8i n : Nat) : Int) := by rw [IntKind.wrap_u8]; unfold u8i; omega
def JS (n : Int) : List Nat := if n.fdiv 256 % 16 = 15 then [u8i n, u8i (n.fdiv 2), u8i (n.fdiv 8)] else mf.getD ((n % 256).toNat % 12) []
theorem UI (n : Int) : oct (JS n) ∧ (JS n).length ≤ 12 := by
 unfold JS
 split
 ·refine ⟨?_, by simp⟩
  intro b hb
  simp at hb
  rcases hb with rfl | rfl | rfl <;> (unfold u8i; omega)
 ·generalize hk : (n % 256).toNat % 12 = k
  have hlt : k < 12 := by omega
  have : ∀ k, k < 12 → ((mf.getD k []).all fun b => decide (b < 256)) = true ∧ (mf.getD k []).length ≤ 12 := by decide
  exact ⟨UH _ (this k hlt).1, (this k hlt).2⟩
theorem sh8 (n : Int) : Int.fdiv n (2 ^ min 8 IntKind.i64.bits) = n.fdiv 256 := rfl
theorem sh1 (n : Int) : Int.fdiv n (2 ^ min 1 IntKind.i64.bits) = n.fdiv 2 := rfl
theorem sh3 (n : Int) : Int.fdiv n (2 ^ min 3 IntKind.i64.bits) = n.fdiv 8 := rfl
theorem bs3 (a b c : Nat) : [V.c (.int .u8 (a : Int)), V.c (.int .u8 (b : Int)), V.c (.int .u8 (c : Int))] = bv [a, b, c] := rfl
theorem Zw (e : Nat → V) (b : Nat → Option (TypeId × List V)) (n : Nat) (h : Nat → V) : aZ Tryz.prog ⟨e, b, n, h⟩ 108 12 [(0, .c (.string ⟨#[97]⟩)), (1, .c (.string ⟨#[98]⟩)), (2, .c (.string ⟨#[99]⟩)), (3, .c (.string ⟨#[100]⟩)), (4, .c (.string ⟨#[101]⟩)), (5, .c (.string ⟨#[102]⟩)), (6, .c (.string ⟨#[97, 97]⟩)), (7, .c (.string ⟨#[98, 32, 99]⟩)), (8, .c (.string ⟨#[37, 54, 49]⟩)), (9, .c (.string ⟨#[65, 58, 49]⟩)), (10, .c (.string ⟨#[0]⟩)), (11, .c (.string ⟨#[122, 47, 255]⟩))] = some (.sl (.own n 9) 1 (sv mf), ⟨e, b, n + 1, h⟩) := by
 rw [iw, TU, Option.bind_some, XZ, Option.bind_some, XY, Option.bind_some]
 rfl
theorem Zx (e : Nat → V) (bx : Nat → Option (TypeId × List V)) (n : Nat) (h : Nat → V) (a b c : Nat) : aZ Tryz.prog ⟨e, bx, n, h⟩ 48 3 [(0, .c (.int .u8 (a : Int))), (1, .c (.int .u8 (b : Int))), (2, .c (.int .u8 (c : Int)))] = some (.sl (.own n 5) 1 (bv [a, b, c]), ⟨e, bx, n + 1, h⟩) := by
 rw [iw, ES, Option.bind_some, Va, Option.bind_some, U9, Option.bind_some]
 rfl
theorem k12 : mf.length = 12 := rfl
theorem Zy (n : Int) : Int.tmod (n % 256) 12 = (((n % 256).toNat % 12 : Nat) : Int) := by
 rw [Int.tmod_eq_emod_of_nonneg (by omega)]
 omega
theorem Zz (k : Nat) (h : k < 12) : (sv mf)[k]? = some (.c (.string (sB (mf.getD k [])))) := iJ mf k h
theorem m12 (n : Nat) : n % 12 < 12 := Nat.mod_lt _ (by omega)
theorem UJ (l : List Nat) : V.idsL (bv l) = [] := by
 induction l with
 | nil => rfl
 | cons a l ih => simpa [bv, V.idsL, V.ids] using ih
theorem Yc (n : Int) : Pg.Good Tryz.prog 37 [vi n] (vs (JS n)) := by
 refine gI oW Tryz.func37 Tryz.results37 ?_
 unfold JS
 have hm := m12 (n % 256).toNat
 have hk := k12
 (repeat' first | refine wP' (aI @UJ (aI @Zx (aI @Zw (aI @k12 (aI @Zy (aI @Zz (aI @sh8 (aI @sh1 (aI @sh3 (aI @Zr (aI @WY (aI @Yb (aI @bs3 (aI @PI @Int.cast_ofNat_Int)))))))))))))) trivial ?_ | refine tS ?_ ?_ <;> intro hc | fail)
 all_goals (refine rT [] ?_; first | rfl | simp only [pgo, simprocAttr] | skip)
 all_goals simp [*]
theorem ZA (n : Int) : bits .and .i64 n 3 = n % 4 := dL n 2 (by decide)
theorem UK (n : Int) : bits .and .i64 n 65535 = n % 65536 := dL n 16 (by decide)
def mg (n : Int) : List Nat := [u8i n, u8i (n.fdiv 8), u8i (n.fdiv 32), u8i (n.fdiv 128)]
def iL (n : Int) : List Nat := (mg n).take ((n % 4).toNat + 1)
theorem JU (n : Int) : oct (iL n) ∧ (iL n).length ≤ 4 ∧ iL n ≠ [] := by
 refine ⟨Ov ?_ _, ?_, ?_⟩
 ·intro b hb
  simp [mg] at hb
  rcases hb with rfl | rfl | rfl | rfl <;> (unfold u8i; omega)
 ·simp only [iL, mg, List.length_take, List.length_cons, List.length_nil]; omega
 ·intro h
  have := congrArg List.length h
  simp only [iL, mg, List.length_take, List.length_cons, List.length_nil] at this
  omega
theorem ZB (e : Nat → V) (bx : Nat → Option (TypeId × List V)) (n : Nat) (h : Nat → V) (a b c d : Nat) : aZ Tryz.prog ⟨e, bx, n, h⟩ 48 4 [(0, .c (.int .u8 (a : Int))), (1, .c (.int .u8 (b : Int))), (2, .c (.int .u8 (c : Int))), (3, .c (.int .u8 (d : Int)))] = some (.sl (.own n 5) 1 (bv [a, b, c, d]), ⟨e, bx, n + 1, h⟩) := by
 rw [iw, ES, Option.bind_some, Va, Option.bind_some, U9, Option.bind_some]
 rfl
theorem UL (n : Int) : Pg.Good Tryz.prog 12 [vi n] (fzb (iL n)) := by
 have hl : (bv (mg n)).length = 4 := rfl
 have hcut : slV Tryz.prog 48 (.sl .fz 1 (bv (mg n))) none (some (.c (.int .i64 (n % 4 + 1)))) = some (fzb (iL n)) := by
  rw [yO]
  simp only [bdV, Option.bind_some, ES, X0]
  rw [if_pos ⟨trivial, by omega, by omega, by rw [hl]; omega⟩]
  have e : (n % 4 + 1).toNat = (n % 4).toNat + 1 := by omega
  simp only [e, Int.toNat_natCast, List.drop_zero, Tc]
  rfl
 have hown : ∀ (s : St) id, iC Tryz.prog s 48 id 1 (bv (mg n)) none (some (.c (.int .i64 (n % 4 + 1)))) = some (fzb (iL n), s.mapV (frz id)) := fun s id => by unfold iC; rw [hcut]; rfl
 have hb4 : ([u8i n, u8i (n.fdiv 8), u8i (n.fdiv 32), u8i (n.fdiv 128)] : List Nat) = mg n := rfl
 refine gI oW Tryz.func12 Tryz.results12 ?_
 (repeat' (first | (simp (disch := first | exact dqz | fail) only [X8, simprocAttr, Tryz.f12, ZB, hb4, sh3, sh5, sh7, ZA, Yb, hown, isC, Option.all_some, Option.all_none, Bool.and_true, Bool.true_and]) | ((with_reducible first | apply fB | apply dP | apply gY) <;> intro hc <;> (try simp only [hc]) <;> (try simp only [pgd] at hc)) | (with_reducible refine cK ?_)))
 (refine rT [] ?_; first | rfl | simp only [pgo, simprocAttr] | skip)
def zt (c : Cm) (k : List Nat) (w : Int) (row : Nat) : Cm :=
 ⟨c.d, c.z, c.s, c.c.set (pg c.s c.z row k).toNat (iU (c.c.getD (pg c.s c.z row k).toNat 0) w 4294967295).1, c.b || (iU (c.c.getD (pg c.s c.z row k).toNat 0) w 4294967295).2⟩
def dm (c : Cm) (k : List Nat) (w : Int) : Nat → Cm
 | 0 => c
 | n + 1 => zt (dm c k w n) k w n
theorem Qc (a b m : Int) (hm : 0 ≤ m) : 0 ≤ (iU a b m).1 ∧ (iU a b m).1 ≤ m := by
 have h1 := fG a
 have h2 := fG b
 have h3 := Gy hm
 unfold iU
 split
 ·simp only; omega
 ·simp only; omega
theorem CQ (c : Cm) (k : List Nat) (w : Int) (n : Nat) : (dm c k w n).d = c.d ∧ (dm c k w n).z = c.z ∧ (dm c k w n).s = c.s ∧ (dm c k w n).c.length = c.c.length := by
 induction n with
 | zero => exact ⟨rfl, rfl, rfl, rfl⟩
 | succ n ih => simp only [dm, zt, List.length_set]; exact ih
theorem JV {a b : Int} {l : List Int} (h : fQ a b l = true) (i : Nat) (n : Int) (hn : a ≤ n ∧ n ≤ b) : fQ a b (l.set i n) = true := by
 unfold fQ at *
 rw [List.all_eq_true] at *
 intro x hx
 rcases List.mem_or_eq_of_mem_set hx with h1 | rfl
 ·exact h x h1
 ·exact decide_eq_true hn
theorem JW (c : Cm) (k : List Nat) (w : Int) (h : fQ 0 4294967295 c.c = true) (n : Nat) : fQ 0 4294967295 (dm c k w n).c = true := by
 induction n with
 | zero => exact h
 | succ n ih => exact JV ih _ _ (Qc _ _ _ (by decide))
def ni (c : Cm) (k : List Nat) (w : Int) : Cm × Int := if vCm c ≠ 0 then (Cm.o, vCm c) else if bD k w ≠ 0 then (Cm.o, bD k w) else (dm c k w c.d.toNat, 0)
theorem Xa {c : Cm} (h : vCm c = 0) : (1 ≤ c.d ∧ c.d ≤ 8) ∧ (1 ≤ c.z ∧ c.z ≤ 64) ∧ (c.c.length : Int) = c.d * c.z ∧ fQ 0 4294967295 c.c = true := by
 unfold vCm at h
 split at h
 ·cases h
 ·rename_i h1
  split at h
  ·cases h
  ·rename_i h2
   split at h
   ·rename_i h3
    have h1 : 1 ≤ c.d ∧ c.d ≤ 8 ∧ 1 ≤ c.z ∧ c.z ≤ 64 := Classical.byContradiction h1
    exact ⟨by omega, by omega, by omega, h3⟩
   ·cases h
theorem Qd : wkV (.agg [vi 0, vi 0, vu 0, nls, vb false]) (.agg (cmF Cm.o)) := .inr ⟨_, _, rfl, rfl, ⟨.inl rfl, .inl rfl, .inl rfl, kY _ _, .inl rfl, trivial⟩⟩
theorem pK (c : Cm) (k : List Nat) (w : Int) (ho : oct k) : Pg.Good Tryz.prog 49 [.agg (cmF c), .agg [vs k, vi w]] (.tup [.agg (cmF (ni c k w).1), vi (ni c k w).2]) := by
 have h1 := iQ c
 have h2 := aJ k w
 unfold ni
 by_cases c1 : vCm c = 0
 ·rw [if_neg (by omega)]
  rw [c1] at h1
  by_cases c2 : bD k w = 0
  ·rw [if_neg (by omega)]
   rw [c2] at h2
   obtain ⟨i1, i2, i3, i4⟩ := Xa c1
   obtain ⟨j1, j2⟩ := jq c2
   have hm := vz i1 i2
   have hd := CQ c k w
   have hin := JW c k w i4
   have hcell := fun (r : Nat) (hr : (r : Int) < c.d) => xG c.s c.z r c.d k i2.1 ⟨by omega, hr⟩
   have e0 : dm c k w 0 = c := rfl
   have es : ∀ n, dm c k w (n + 1) = zt (dm c k w n) k w n := fun _ => rfl
   have hcl := fun (n : Nat) (hn : (n : Int) ≤ 7) => UD (dm c k w n) n k ho (by omega) (by rw [(hd n).2.1]; exact i2) j2
   have ec : cmF (dm c k w c.d.toNat) = [vi c.d, vi c.z, vu c.s, fzi (dm c k w c.d.toNat).c, vb (dm c k w c.d.toNat).b] := by
    show [vi (dm c k w c.d.toNat).d, vi (dm c k w c.d.toNat).z, vu (dm c k w c.d.toNat).s, _, _] = _
    rw [(hd _).1, (hd _).2.1, (hd _).2.2.1]
   refine Good.fzt (vs := [.agg [vi c.d, vi c.z, vu c.s, .sl (.own 0 3) 1 (iv (dm c k w c.d.toNat).c), vb (dm c k w c.d.toNat).b], vi 0]) ?_ rfl (by simp only; rw [ec]; exact ⟨aB _, aB _, trivial⟩)
   generalize hR : dm c k w = R at *
   obtain ⟨d, z, s, l, b⟩ := c
   simp only at i1 i2 i3 i4 hd hcell e0 ⊢
   have hil := ax l
   refine gI oW Tryz.func49 Tryz.results49 ?_
   refine wS @ax (aI h1 h2) ?_
   refine aK (fun r : Nat => mkA [(2, .ref 0 0), (3, .ref 1 0), (4, .ref 2 0), (8, vi r)] [(0, (29, [vi d, vi z, vu s, .sl (.own 0 3) 1 (iv (R r).c), vb (R r).b])), (1, (45, [vs k, vi w])), (2, (29, [vi 0, vi 0, vu 0, nls, vb false]))] 3 (fun _ => .top)) (fun r => r ≤ d.toNat) (fun r => d.toNat - r) 0 [3] [0, 1, 2] ?_ (Nat.zero_le _) ?_
   ·(refine bZ ?_ ?_ (fC _ _ _) (by decide) (by decide) (by decide) (by decide); (repeat' (first | exact trivial | refine bQ _ _ rfl rfl ?_ ?_)); all_goals (try simp only [pgs, pgl, pgx, pgf, pgw, bI, bV, bJ, bW, dJ, gK, eP, pgn, simprocAttr]); all_goals (try (repeat' (first | apply aI))); all_goals (try (first | exact trivial | exact aX (by omega) | exact dQ rfl | exact aP rfl rfl | exact dK rfl)))
    all_goals first | (exact aP rfl (by rw [e0])) | (exact dQ (by rw [e0])) | skip
   ·intro r hr
    replace hr : r ≤ d.toNat := hr
    rcases Nat.lt_or_ge r d.toNat with hlt | hge
    ·have hrd : (r : Int) < d := by omega
     have hq := hcell r hrd
     have hk1 := hcl r (by omega)
     obtain ⟨d1, d2, d3, d4⟩ := hd r
     have hRr := es r
     have hinr := hin r
     generalize hR1 : R r = q at *
     obtain ⟨qd, qz, qs, ql, qb⟩ := q
     simp only at d1 d2 d3 d4 hk1 hinr hRr
     subst d1
     subst d2
     subst d3
     rw [zt] at hRr
     simp only at hRr
     generalize hcc : pg qs qz (r : Int) k = ci at *
     have hcn : ci.toNat < ql.length := by omega
     have hg := jm ql ci.toNat hcn
     have hgin := JL hinr hcn
     generalize hgg : ql.getD ci.toNat 0 = g at *
     have hadd := zh g w 4294967295 (by decide) (by unfold W64; omega) (by unfold W64; omega)
     generalize iU g w 4294967295 = a at *
     obtain ⟨a1, a2⟩ := a
     simp only at hadd hRr
     have hql := ax ql
     cases qb
     ·cases a2
      ·refine wS (aI @ax (aI @hg @zf)) (aI hk1 hadd) ?_
       (refine aQ (r + 1) [0] [0, 1, 2] (hlt) (by first | omega | (simp only [List.length_cons]; omega)) ?_; (refine bZ ?_ ?_ (fC _ _ _) (by decide) (by decide) (by decide) (by decide); (repeat' (first | exact trivial | refine bQ _ _ rfl rfl ?_ ?_)); all_goals (try simp only [pgs, pgl, pgx, pgf, pgw, bI, bV, bJ, bW, dJ, gK, eP, pgn, simprocAttr]); all_goals (try (repeat' (first | apply aI))); all_goals (try (first | exact trivial | exact aX (by omega) | exact dQ rfl | exact aP rfl rfl | exact dK rfl))))
       all_goals first | (exact aP rfl (by rw [hRr])) | (exact dQ (by rw [hRr]; rfl)) | skip
      ·refine wS (aI @ax (aI @hg @zf)) (aI hk1 hadd) ?_
       (refine aQ (r + 1) [0] [0, 1, 2] (hlt) (by first | omega | (simp only [List.length_cons]; omega)) ?_; (refine bZ ?_ ?_ (fC _ _ _) (by decide) (by decide) (by decide) (by decide); (repeat' (first | exact trivial | refine bQ _ _ rfl rfl ?_ ?_)); all_goals (try simp only [pgs, pgl, pgx, pgf, pgw, bI, bV, bJ, bW, dJ, gK, eP, pgn, simprocAttr]); all_goals (try (repeat' (first | apply aI))); all_goals (try (first | exact trivial | exact aX (by omega) | exact dQ rfl | exact aP rfl rfl | exact dK rfl))))
       all_goals first | (exact aP rfl (by rw [hRr])) | (exact dQ (by rw [hRr]; rfl)) | skip
     ·refine wS (aI @ax (aI @hg @zf)) (aI hk1 hadd) ?_
      (refine aQ (r + 1) [0] [0, 1, 2] (hlt) (by first | omega | (simp only [List.length_cons]; omega)) ?_; (refine bZ ?_ ?_ (fC _ _ _) (by decide) (by decide) (by decide) (by decide); (repeat' (first | exact trivial | refine bQ _ _ rfl rfl ?_ ?_)); all_goals (try simp only [pgs, pgl, pgx, pgf, pgw, bI, bV, bJ, bW, dJ, gK, eP, pgn, simprocAttr]); all_goals (try (repeat' (first | apply aI))); all_goals (try (first | exact trivial | exact aX (by omega) | exact dQ rfl | exact aP rfl rfl | exact dK rfl))))
      all_goals first | (exact aP rfl (by rw [hRr])) | (exact dQ (by rw [hRr]; rfl)) | skip
    ·have : r = d.toNat := by omega
     subst this
     exact wR @ax trivial (ids [0])
  ·rw [if_pos (by omega)]
   refine Good.fzt (vs := [.agg [vi 0, vi 0, vu 0, nls, vb false], vi (bD k w)]) ?_ rfl ⟨Qd, aB _, trivial⟩
   refine gI oW Tryz.func49 Tryz.results49 ?_
   exact wR trivial (aI h1 h2) ae
 ·rw [if_pos (by omega)]
  refine Good.fzt (vs := [.agg [vi 0, vi 0, vu 0, nls, vb false], vi (vCm c)]) ?_ rfl ⟨Qd, aB _, trivial⟩
  refine gI oW Tryz.func49 Tryz.results49 ?_
  exact wR trivial h1 ae
end Go.Proofs.YtaoejnjkmfkbeaaGreat
