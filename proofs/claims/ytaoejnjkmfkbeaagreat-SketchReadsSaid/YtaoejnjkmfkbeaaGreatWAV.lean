/-
  Texts of this claim, merged; own names are short.
-/
import Derived.Test.YtaoejnjkmfkbeaaGreatWAU
import Derived.Test.YtaoejnjkmfkbeaaGreatWAP
import Derived.Test.YtaoejnjkmfkbeaaGreatWAR
set_option linter.unusedVariables false
set_option linter.unusedSimpArgs false
set_option linter.unusedSectionVars false
set_option linter.defProp false
set_option maxRecDepth 100000
set_option maxHeartbeats 8000000
namespace Go.Proofs.YtaoejnjkmfkbeaaGreat
open Go Go.Pg
def pwI (h : Nat) : Int := IntKind.i64.wrap (1 * 2 ^ min h IntKind.i64.bits)
theorem WC (h : Nat) : IntKind.i64.wrap (1 * 2 ^ min h IntKind.i64.bits) = pwI h := rfl
theorem abG (h : Nat) : W64 (pwI h) := by
 unfold pwI W64
 rw [IntKind.wrap_i64]
 omega
theorem aga (n : Int) : bits .and .i64 n 1 = n % 2 := iy n 1 (by decide)
theorem NQ (co : List Nat) (i : Int) : EQ co i = 0 ∨ EQ co i = 1 := by
 unfold EQ
 split
 ·exact .inl rfl
 ·rw [aga]; omega
theorem ado (a b : List (List Nat)) : sv a ++ sv b = sv (a ++ b) := by simp [sv]
theorem WE (l : List (List Nat)) : V.flatL (sv l) = true := by
 induction l with
 | nil => rfl
 | cons a l ih => simp only [sv, List.map_cons, V.flatL, V.flat] at ih ⊢; simpa using ih
theorem IQ (id : Nat) (e : TypeId) (l : List (List Nat)) : (V.sl (.own id e) 1 (sv l)).flat = true := WE l
theorem lF (i k : Nat) (e : TypeId) (xs : List V) : V.free (.sl (.own i e) k xs) = false := rfl
def evN (l : List (List Nat)) (c n : Nat) : List (List Nat) := (List.range n).map fun j => l.getD (c + 2 * j) []
theorem IR (l : List (List Nat)) (c n : Nat) : evN l c n ++ [l.getD (c + 2 * n) []] = evN l c (n + 1) := by simp [evN, List.range_succ]
theorem EZ (l : List (List Nat)) (c n : Nat) : (evN l c n).length = n := by simp [evN]
abbrev Stl := Nat × List (List Nat) × Int × Int × List (List (List Nat))
def fH (v : List (List (List Nat))) (s : Stl) : List (List Nat) := srt kl (if s.1 < v.length then v.getD s.1 [] ++ s.2.1 else s.2.1)
def jb (v : List (List (List Nat))) (z : Int) (co : List Nat) (s : Stl) : Stl :=
 if ((fH v s).length : Int) < z then (s.1 + 1, [], s.2.2.1, s.2.2.2.1, s.2.2.2.2 ++ [fH v s])
 else (s.1 + 1, evN (fH v s) (EQ co s.2.2.2.1).toNat ((fH v s).length / 2), (dR s.2.2.1 (pwI s.1)).1, s.2.2.2.1 + 1, s.2.2.2.2 ++ [(fH v s).drop ((fH v s).length / 2 * 2)])
def rG (v : List (List (List Nat))) (z : Int) (co : List Nat) : Nat → Stl → Stl
 | 0, s => s
 | f + 1, s => if s.1 < v.length ∨ 0 < s.2.1.length then rG v z co f (jb v z co s) else s
def vV (v : List (List (List Nat))) (M : Nat) (s : Stl) : Nat := (v.length - s.1) * (M + 1) + s.2.1.length
theorem Bh (v : List (List (List Nat))) (s : Stl) : (fH v s).length = (if s.1 < v.length then (v.getD s.1 []).length else 0) + s.2.1.length := by
 unfold fH
 rw [NH]
 split <;> simp
theorem adp (v : List (List (List Nat))) (z : Int) (hz : 2 ≤ z) (co : List Nat) (M : Nat) (hM : ∀ i, (v.getD i []).length ≤ M) (s : Stl) (hs : s.2.1.length ≤ M) (hc : s.1 < v.length ∨ 0 < s.2.1.length) :
  (jb v z co s).2.1.length ≤ M ∧ vV v M (jb v z co s) < vV v M s := by
 have hl := Bh v s
 have hi := hM s.1
 obtain ⟨h, ca, lo, a, o⟩ := s
 have key : (jb v z co (h, ca, lo, a, o)).1 = h + 1 ∧ (jb v z co (h, ca, lo, a, o)).2.1.length ≤ (fH v (h, ca, lo, a, o)).length / 2 := by
  unfold jb
  by_cases q : ((fH v (h, ca, lo, a, o)).length : Int) < z
  ·rw [if_pos q]; exact ⟨rfl, Nat.zero_le _⟩
  ·rw [if_neg q]; exact ⟨rfl, by simp only [EZ]; omega⟩
 obtain ⟨k1, k2⟩ := key
 unfold vV
 rw [k1]
 generalize (jb v z co (h, ca, lo, a, o)).2.1.length = n at *
 simp only at *
 rcases Nat.lt_or_ge h v.length with h1 | h1
 ·rw [if_pos h1] at hl
  have e : v.length - h = (v.length - (h + 1)) + 1 := by omega
  have e2 : (v.length - h) * (M + 1) = (v.length - (h + 1)) * (M + 1) + (M + 1) := by rw [e, Nat.succ_mul]
  rw [e2]
  generalize (v.length - (h + 1)) * (M + 1) = q
  omega
 ·rw [if_neg (by omega)] at hl
  have e : v.length - h = 0 := by omega
  have e2 : v.length - (h + 1) = 0 := by omega
  rw [e, e2, Nat.zero_mul]
  omega
def nz : Nat → List (List (List Nat)) → List (List (List Nat))
 | 0, l => l
 | f + 1, l => if 0 < l.length ∧ (l.getD (l.length - 1) []).length = 0 then nz f (l.take (l.length - 1)) else l
def qw (v : List (List (List Nat))) (z lost : Int) (co : List Nat) (at' : Int) (M : Nat) : Stl := rG v z co (v.length * (M + 1)) (0, [], lost, at', [])
theorem aaS (v : List (List (List Nat))) (z : Int) (co : List Nat) : ∀ (f : Nat) (s : Stl), (rG v z co f s).2.2.2.2.length ≤ s.2.2.2.2.length + f := by
 intro f
 induction f with
 | zero => intro s; exact Nat.le_refl _
 | succ f ih =>
  intro s
  unfold rG
  split
  ·have := ih (jb v z co s)
   have h : (jb v z co s).2.2.2.2.length = s.2.2.2.2.length + 1 := by unfold jb; split <;> simp
   omega
  ·omega
theorem QF (v : List (List (List Nat))) (z lost : Int) (co : List Nat) (at' : Int) (M : Nat) (hz : 2 ≤ z ∧ z ≤ 32) (hco : oct co) (hM : ∀ i, (v.getD i []).length ≤ M) (hM2 : M ≤ 10000) (hv : v.length ≤ 100) (hl : W64 lost) (ha : 0 ≤ at' ∧ at' ≤ 1073741824) :
  Pg.Good Tryz.prog 146 [fzl v, vi z, vi lost, fzb co, vi at'] (.tup [fzl (nz (qw v z lost co at' M).2.2.2.2.length (qw v z lost co at' M).2.2.2.2), vi (qw v z lost co at' M).2.2.1, vi (qw v z lost co at' M).2.2.2.1]) := by
 have hvl := dQ v
 have hF : v.length * (M + 1) ≤ 100 * 10001 := Nat.mul_le_mul hv (by omega)
 unfold qw
 generalize hR : rG v z co (v.length * (M + 1)) (0, [], lost, at', []) = R
 refine gI oW Tryz.func146 Tryz.results146 ?_
 refine wS trivial trivial ?_
 refine bn (fun x : Nat × Stl => mkA [(0, fzl v), (1, vi z), (2, vi x.2.2.2.1), (3, fzb co), (4, vi x.2.2.2.2.1), (13, .sl (.own 0 108) 1 (lv x.2.2.2.2.2)), (14, .sl (.own 1 9) 1 (sv x.2.2.1)), (15, vi x.2.1)] [] 2 (fun _ => .top))
  (fun x => vV v M x.2 ≤ x.1 ∧ x.2.2.1.length ≤ M ∧ W64 x.2.2.2.1 ∧ rG v z co x.1 x.2 = R ∧ x.1 + x.2.1 = v.length * (M + 1) ∧ x.2.2.2.2.2.length = x.2.1 ∧ 0 ≤ x.2.2.2.2.1 ∧ x.2.2.2.2.1 ≤ 1073741824 + x.2.1) (fun x => x.1) (v.length * (M + 1), (0, [], lost, at', [])) [] [] ?_ ⟨by simp [vV], Nat.zero_le _, hl, hR, rfl, rfl, ha.1, by simp only; omega⟩ ?_
 ·exact kE
  all_goals first | exact di rfl | skip
 ·rintro ⟨f, h, ca, lo, a, o⟩ ⟨i1, i2, i3, i4, i5, i6, i7, i8⟩
  simp only at i1 i2 i3 i4 i5 i6 i7 i8
  have hcl := Cc ca
  have hol := dQ o
  by_cases hc : h < v.length ∨ 0 < ca.length
  ·have hmu := adp v z hz.1 co M hM (h, ca, lo, a, o) i2 hc
   have hcu := Bh v (h, ca, lo, a, o)
   have est : jb v z co (h, ca, lo, a, o) = if ((fH v (h, ca, lo, a, o)).length : Int) < z then (h + 1, [], lo, a, o ++ [fH v (h, ca, lo, a, o)]) else (h + 1, evN (fH v (h, ca, lo, a, o)) (EQ co a).toNat ((fH v (h, ca, lo, a, o)).length / 2), (dR lo (pwI h)).1, a + 1, o ++ [(fH v (h, ca, lo, a, o)).drop ((fH v (h, ca, lo, a, o)).length / 2 * 2)]) := rfl
   cases f with
   | zero => exact absurd hmu.2 (by omega)
   | succ f =>
   have e : rG v z co (f + 1) (h, ca, lo, a, o) = rG v z co f (jb v z co (h, ca, lo, a, o)) := if_pos hc
   rw [e] at i4
   by_cases hlt : h < v.length
   ·have ecu : fH v (h, ca, lo, a, o) = srt kl (v.getD h [] ++ ca) := by unfold fH; simp only [if_pos hlt]
    have hg := lN v h hlt
    have hlM := hM h
    simp only [if_pos hlt] at hcu
    have hso := Bg (v.getD h [] ++ ca) (by rw [List.length_append]; omega)
    rw [← ecu] at hso
    have hfl := IQ 0 9 (fH v (h, ca, lo, a, o))
    have hbi := VX co hco a (by omega)
    have hb01 := NQ co a
    generalize fH v (h, ca, lo, a, o) = cur at *
    have hsl := Cc cur
    have hap := ado (v.getD h []) ca
    have hsl2 := Cc (v.getD h [])
    generalize v.getD h [] ++ ca = lc at *
    generalize v.getD h [] = lev at *
    by_cases q1 : (cur.length : Int) < z
    ·rw [if_pos q1] at est
     rw [est] at hmu i4
     have hls := sH o cur
     (repeat' first | refine wP (aI @pgv (aI @lF (aI @aV (aI @false_or (aI @Bool.false_eq_true (aI @Option.bind_none.{0,0} (aI @hvl (aI @hcl (aI @hol (aI @hg (aI @hap (aI @hsl (aI @hls @hsl2))))))))))))) trivial ?_ | refine cF hso hfl ?_ | refine tS ?_ ?_ <;> intro hc | fail)
     refine bu (f, (h + 1, [], lo, a, o ++ [cur])) [0, 1] [] ⟨by have := hmu.2; show vV v M (h + 1, [], lo, a, o ++ [cur]) ≤ f; omega, Nat.zero_le _, i3, i4, by simp only; omega, by simp [i6], i7, by simp only; omega⟩ (by show f < f + 1; omega) ?_
     exact kE
     all_goals exact di rfl
    ·rw [if_neg q1] at est
     rw [est] at hmu i4
     have k5 := qp lo (pwI h) i3 (abG h)
     have har := xN lo (pwI h)
     have ed : (cur.length : Int).tdiv 2 = ((cur.length / 2 : Nat) : Int) := by rw [Int.tdiv_eq_ediv_of_nonneg (by omega)]; omega
     have em : (((cur.length / 2 : Nat) : Int) * 2).toNat = cur.length / 2 * 2 := by omega
     have hdr := NP cur (cur.length / 2 * 2)
     have hls := sH o (cur.drop (cur.length / 2 * 2))
     obtain ⟨cn, hcn, hcn1⟩ : ∃ cn : Nat, EQ co a = (cn : Int) ∧ cn ≤ 1 := by
      rcases hb01 with h | h
      ·exact ⟨0, h, by decide⟩
      ·exact ⟨1, h, by decide⟩
     rw [hcn] at hbi est hmu i4
     rw [Int.toNat_natCast] at est hmu i4
     (repeat' first | refine wP (aI @pgv (aI @lF (aI @aV (aI @false_or (aI @Bool.false_eq_true (aI @Option.bind_none.{0,0} (aI @hvl (aI @hcl (aI @hol (aI @hg (aI @hap (aI @hsl (aI @hsl2 @ed))))))))))))) hbi ?_ | refine cF hso hfl ?_ | refine tS ?_ ?_ <;> intro hc | fail)
     refine bn (fun j : Nat => mkA [(0, fzl v), (1, vi z), (2, vi lo), (3, fzb co), (4, vi a), (13, .sl (.own 0 108) 1 (lv o)), (14, .sl (.own 1 9) 1 (sv (evN cur cn j))), (15, vi h), (16, .sl (.own 2 9) 1 (sv cur)), (17, vi (((cur.length / 2 : Nat) : Int) * 2)), (18, vi ((cn : Int) + 2 * j))] [] 3 (fun _ => .top)) (fun j => j ≤ cur.length / 2) (fun j => cur.length / 2 - j) 0 [0, 1, 3] [] ?_ (Nat.zero_le _) ?_
     ·exact kE
      all_goals exact di rfl
     ·intro j hj
      replace hj : j ≤ cur.length / 2 := hj
      have hev : (sv (evN cur cn j)).length = j := by rw [Cc, EZ]
      rcases Nat.lt_or_ge j (cur.length / 2) with hjl | hjg
      ·have hin : ((cn : Int) + 2 * (j : Int)).toNat = cn + 2 * j := by omega
       have hg2 := jX cur (cn + 2 * j) (by omega)
       have hsn : sv (evN cur cn j) ++ [vs (cur.getD (cn + 2 * j) [])] = sv (evN cur cn (j + 1)) := by rw [svS, IR]
       refine wS (aI @pgv (aI @hsl (aI @hin (aI @hg2 (aI @hsn @hev))))) trivial ?_
       exact bE (j + 1) [0, 1, 2] [] hjl
       all_goals first | exact au (by omega) | skip
      ·have : j = cur.length / 2 := by omega
       subst this
       refine wS (aI @pgv (aI @lF (aI @aV (aI @false_or (aI @Bool.false_eq_true (aI @Option.bind_none.{0,0} (aI @hvl (aI @hcl (aI @hol (aI @hsl (aI @hev (aI @em (aI @hdr (aI @hls @WC)))))))))))))) k5 ?_
       refine bu (f, (h + 1, evN cur cn (cur.length / 2), (dR lo (pwI h)).1, a + 1, o ++ [cur.drop (cur.length / 2 * 2)])) [0, 1] [] ⟨by have := hmu.2; show vV v M (h + 1, evN cur cn (cur.length / 2), (dR lo (pwI h)).1, a + 1, o ++ [cur.drop (cur.length / 2 * 2)]) ≤ f; omega, hmu.1, by simp only; unfold W64; omega, i4, by simp only; omega, by simp [i6], by simp only; omega, by simp only; omega⟩ (by show f < f + 1; omega) ?_
       exact kE
   ·have hca : 0 < ca.length := by rcases hc with h | h; exact absurd h hlt; exact h
    have ecu : fH v (h, ca, lo, a, o) = srt kl ca := by unfold fH; simp only [if_neg hlt]
    simp only [if_neg hlt] at hcu
    have hso := Bg ca (by omega)
    rw [← ecu] at hso
    have hfl := IQ 0 9 (fH v (h, ca, lo, a, o))
    have hbi := VX co hco a (by omega)
    have hb01 := NQ co a
    generalize fH v (h, ca, lo, a, o) = cur at *
    have hsl := Cc cur
    by_cases q1 : (cur.length : Int) < z
    ·rw [if_pos q1] at est
     rw [est] at hmu i4
     have hls := sH o cur
     (repeat' first | refine wP (aI @pgv (aI @lF (aI @aV (aI @false_or (aI @Bool.false_eq_true (aI @Option.bind_none.{0,0} (aI @hvl (aI @hcl (aI @hol (aI @hsl @hls)))))))))) trivial ?_ | refine cF hso hfl ?_ | refine tS ?_ ?_ <;> intro hc | fail)
     refine bu (f, (h + 1, [], lo, a, o ++ [cur])) [0, 1] [] ⟨by have := hmu.2; show vV v M (h + 1, [], lo, a, o ++ [cur]) ≤ f; omega, Nat.zero_le _, i3, i4, by simp only; omega, by simp [i6], i7, by simp only; omega⟩ (by show f < f + 1; omega) ?_
     exact kE
     all_goals exact di rfl
    ·rw [if_neg q1] at est
     rw [est] at hmu i4
     have k5 := qp lo (pwI h) i3 (abG h)
     have har := xN lo (pwI h)
     have ed : (cur.length : Int).tdiv 2 = ((cur.length / 2 : Nat) : Int) := by rw [Int.tdiv_eq_ediv_of_nonneg (by omega)]; omega
     have em : (((cur.length / 2 : Nat) : Int) * 2).toNat = cur.length / 2 * 2 := by omega
     have hdr := NP cur (cur.length / 2 * 2)
     have hls := sH o (cur.drop (cur.length / 2 * 2))
     obtain ⟨cn, hcn, hcn1⟩ : ∃ cn : Nat, EQ co a = (cn : Int) ∧ cn ≤ 1 := by
      rcases hb01 with h | h
      ·exact ⟨0, h, by decide⟩
      ·exact ⟨1, h, by decide⟩
     rw [hcn] at hbi est hmu i4
     rw [Int.toNat_natCast] at est hmu i4
     (repeat' first | refine wP (aI @pgv (aI @lF (aI @aV (aI @false_or (aI @Bool.false_eq_true (aI @Option.bind_none.{0,0} (aI @hvl (aI @hcl (aI @hol (aI @hsl @ed)))))))))) hbi ?_ | refine cF hso hfl ?_ | refine tS ?_ ?_ <;> intro hc | fail)
     refine bn (fun j : Nat => mkA [(0, fzl v), (1, vi z), (2, vi lo), (3, fzb co), (4, vi a), (13, .sl (.own 0 108) 1 (lv o)), (14, .sl (.own 1 9) 1 (sv (evN cur cn j))), (15, vi h), (16, .sl (.own 2 9) 1 (sv cur)), (17, vi (((cur.length / 2 : Nat) : Int) * 2)), (18, vi ((cn : Int) + 2 * j))] [] 3 (fun _ => .top)) (fun j => j ≤ cur.length / 2) (fun j => cur.length / 2 - j) 0 [0, 1, 2] [] ?_ (Nat.zero_le _) ?_
     ·exact kE
      all_goals exact di rfl
     ·intro j hj
      replace hj : j ≤ cur.length / 2 := hj
      have hev : (sv (evN cur cn j)).length = j := by rw [Cc, EZ]
      rcases Nat.lt_or_ge j (cur.length / 2) with hjl | hjg
      ·have hin : ((cn : Int) + 2 * (j : Int)).toNat = cn + 2 * j := by omega
       have hg2 := jX cur (cn + 2 * j) (by omega)
       have hsn : sv (evN cur cn j) ++ [vs (cur.getD (cn + 2 * j) [])] = sv (evN cur cn (j + 1)) := by rw [svS, IR]
       refine wS (aI @pgv (aI @hsl (aI @hin (aI @hg2 (aI @hsn @hev))))) trivial ?_
       exact bE (j + 1) [0, 1, 2] [] hjl
       all_goals first | exact au (by omega) | skip
      ·have : j = cur.length / 2 := by omega
       subst this
       refine wS (aI @pgv (aI @lF (aI @aV (aI @false_or (aI @Bool.false_eq_true (aI @Option.bind_none.{0,0} (aI @hvl (aI @hcl (aI @hol (aI @hsl (aI @hev (aI @em (aI @hdr (aI @hls @WC)))))))))))))) k5 ?_
       refine bu (f, (h + 1, evN cur cn (cur.length / 2), (dR lo (pwI h)).1, a + 1, o ++ [cur.drop (cur.length / 2 * 2)])) [0, 1] [] ⟨by have := hmu.2; show vV v M (h + 1, evN cur cn (cur.length / 2), (dR lo (pwI h)).1, a + 1, o ++ [cur.drop (cur.length / 2 * 2)]) ≤ f; omega, hmu.1, by simp only; unfold W64; omega, i4, by simp only; omega, by simp [i6], by simp only; omega, by simp only; omega⟩ (by show f < f + 1; omega) ?_
       exact kE
  ·have e : rG v z co f (h, ca, lo, a, o) = (h, ca, lo, a, o) := by
    cases f with
    | zero => rfl
    | succ f => exact if_neg hc
   rw [e] at i4
   subst i4
   simp only
   refine wS (aI @hvl (aI @hcl @hol)) trivial ?_
   refine VM 0 ?_
   refine wS @hvl trivial ?_
   generalize hT : nz o.length o = T
   refine bn (fun x : Nat × List (List (List Nat)) => mkA [(2, vi lo), (4, vi a), (13, fzl x.2)] [] 0 (fun _ => .top)) (fun x => x.2.length ≤ x.1 ∧ nz x.1 x.2 = T ∧ x.2.length ≤ 10000000) (fun x => x.1) (o.length, o) [] [] ?_ ⟨Nat.le_refl _, hT, by simp only; omega⟩ ?_
   ·exact kE
   ·rintro ⟨g, o⟩ ⟨n1, n2, n3⟩
    simp only at n1 n2 n3
    have hol := dQ o
    by_cases q6 : 0 < o.length
    ·have hg := lN o (o.length - 1) (by omega)
     have hi1 : ((o.length : Int) - 1).toNat = o.length - 1 := by omega
     cases g with
     | zero => exact absurd q6 (by omega)
     | succ g =>
     have e : nz (g + 1) o = if 0 < o.length ∧ (o.getD (o.length - 1) []).length = 0 then nz g (o.take (o.length - 1)) else o := rfl
     rw [e] at n2
     have htk := aaw o (o.length - 1)
     generalize o.getD (o.length - 1) [] = lev at *
     have hsl := Cc lev
     by_cases q7 : lev.length = 0
     ·rw [if_pos ⟨q6, q7⟩] at n2
      refine wS (aI @pgv (aI @hol (aI @hg (aI @hsl (aI @hi1 @htk))))) trivial ?_
      refine bu (g, o.take (o.length - 1)) [] [] ⟨by simp only [List.length_take]; omega, n2, by simp only [List.length_take]; omega⟩ (by show g < g + 1; omega) ?_
      exact kE
     ·rw [if_neg (by omega)] at n2
      subst n2
      exact wR (aI @pgv (aI @hol (aI @hg (aI @hsl @hi1)))) trivial ah
    ·have e : nz g o = o := by
      cases g with
      | zero => rfl
      | succ g => exact if_neg (fun h => q6 h.1)
     rw [e] at n2
     subst n2
     exact wR (aI @pgv @hol) trivial ah
def jS (v : List (List (List Nat))) (n : Nat) : List (List (List Nat)) := v ++ List.replicate (n - v.length) []
theorem DL (v : List (List (List Nat))) (n : Nat) : (jS v n).length = max v.length n := by simp [jS]; omega
theorem uF (v : List (List (List Nat))) (n : Nat) (h : n ≤ v.length) : jS v n = v := by
 have : n - v.length = 0 := by omega
 simp [jS, this]
theorem Lr (v : List (List (List Nat))) (n : Nat) (h : v.length ≤ n) : jS v n ++ [[]] = jS v (n + 1) := by
 unfold jS
 rw [show n + 1 - v.length = (n - v.length) + 1 by omega, List.replicate_succ', List.append_assoc]
theorem DN (v : List (List (List Nat))) (n i : Nat) : (jS v n).getD i [] = v.getD i [] := by
 unfold jS
 rcases Nat.lt_or_ge i v.length with h | h
 ·simp [List.getD, List.getElem?_append, h]
 ·rw [List.getD, List.getD, List.getElem?_append_right h, List.getElem?_eq_none (l := v) h]
  rcases Nat.lt_or_ge (i - v.length) (n - v.length) with h2 | h2
  ·simp [List.getElem?_replicate, h2]
  ·simp [List.getElem?_replicate, Nat.not_lt.2 h2]
def CQ (k : List Nat) (v : List (List (List Nat))) (p : Nat) : List (List (List Nat)) := (jS v (p + 1)).set p (v.getD p [] ++ [k])
def oq (k : List Nat) (ps : List Int) (v : List (List (List Nat))) : Nat → List (List (List Nat))
 | 0 => v
 | i + 1 => CQ k (oq k ps v i) (ps.getD i 0).toNat
theorem IU (l : List (List (List Nat))) (p : Nat) (x : List (List Nat)) (i n : Nat) (h : ∀ i, (l.getD i []).length ≤ n) (hx : x.length ≤ n) : ((l.set p x).getD i []).length ≤ n := by
 rw [List.getD]
 rcases Nat.lt_or_ge p l.length with hp | hp
 ·by_cases he : p = i
  ·subst he; rw [List.getElem?_set_self hp]; exact hx
  ·rw [List.getElem?_set_ne he]; exact h i
 ·rw [List.set_eq_of_length_le hp]; exact h i
theorem IV (k : List Nat) (ps : List Int) (v : List (List (List Nat))) (hps : ∀ i, (ps.getD i 0).toNat ≤ 62) (M : Nat) (hM : ∀ i, (v.getD i []).length ≤ M) (hv : v.length ≤ 63) (i : Nat) : (oq k ps v i).length ≤ 63 ∧ ∀ j, ((oq k ps v i).getD j []).length ≤ M + i := by
 induction i with
 | zero => exact ⟨hv, hM⟩
 | succ i ih =>
  obtain ⟨h1, h2⟩ := ih
  refine ⟨?_, fun j => ?_⟩
  ·show (CQ k (oq k ps v i) (ps.getD i 0).toNat).length ≤ 63
   have := hps i
   unfold CQ
   rw [List.length_set, DL]
   omega
  ·show ((CQ k (oq k ps v i) (ps.getD i 0).toNat).getD j []).length ≤ M + (i + 1)
   unfold CQ
   refine IU _ _ _ _ _ (fun j => ?_) ?_
   ·rw [DN]; have := h2 j; omega
   ·rw [List.length_append]; have := h2 (ps.getD i 0).toNat; simp only [List.length_cons, List.length_nil]; omega
theorem IW (n : Int) (m i : Nat) (hm : 0 < m) : 0 ≤ (jy n m).getD i 0 ∧ (jy n m).getD i 0 ≤ m - 1 := by
 rcases Nat.lt_or_ge i (jy n m).length with h | h
 ·have hmem : (jy n m).getD i 0 ∈ jy n m := by rw [List.getD_eq_getElem?_getD, List.getElem?_eq_getElem h]; exact List.getElem_mem h
  unfold jy at hmem
  obtain ⟨j, hj, he⟩ := List.mem_map.1 hmem
  have := List.mem_range.1 (List.mem_filter.1 hj).1
  unfold jy
  rw [← he]; omega
 ·rw [List.getD, List.getElem?_eq_none h]; simp; omega
theorem uG {x : Rk} (h : vRk x = 0) : ((2 ≤ x.z ∧ x.z ≤ 32) ∧ x.z % 2 = 0) ∧ (0 ≤ x.t ∧ x.t ≤ 1099511627776) ∧ (0 ≤ x.l ∧ x.l ≤ 1099511627776) ∧ x.v.length ≤ 41 ∧ ∀ i, (x.v.getD i []).length ≤ 31 := by
 unfold vRk at h
 split at h
 ·cases h
 ·rename_i h1
  have h1 := Classical.byContradiction h1
  split at h
  ·cases h
  ·rename_i h2
   split at h
   ·rename_i h3; exact absurd h h3
   ·rename_i h3
    have h3 := Classical.byContradiction h3
    refine ⟨h1.1, h1.2.1, h1.2.2, by omega, fun i => ?_⟩
    rcases Nat.lt_or_ge i x.v.length with hi | hi
    ·have h4 := Bf _ _ _ h3 i (Nat.zero_le _) (by omega)
     unfold lD at h4
     split at h4
     ·cases h4
     ·omega
    ·rw [List.getD, List.getElem?_eq_none hi]; simp
def xP (x : Rk) (k : List Nat) (w : Int) : List (List (List Nat)) := oq k (jy w 63) x.v (jy w 63).length
def CS (x : Rk) (k : List Nat) (w : Int) (co : List Nat) (at' : Int) : Stl := qw (xP x k w) x.z x.l co at' 100
def pR (x : Rk) (k : List Nat) (w : Int) (co : List Nat) (at' : Int) : Rk × Int × Int :=
 if vRk x ≠ 0 then (Rk.o, 0, vRk x) else if dW k w ≠ 0 then (Rk.o, 0, dW k w) else if ¬ (0 ≤ at' ∧ at' ≤ 1073741824) then (Rk.o, 0, 5)
 else if (dR x.t w).2 = true then (⟨x.z, x.t, x.l, x.v, true⟩, at', 0)
 else (⟨x.z, (dR x.t w).1, (CS x k w co at').2.2.1, nz (CS x k w co at').2.2.2.2.length (CS x k w co at').2.2.2.2, x.b⟩, (CS x k w co at').2.2.2.1, 0)
theorem Ls : wkV (.agg [vi 0, vi 0, vi 0, nls, vb false]) (.agg (rkF Rk.o)) := .inr ⟨_, _, rfl, rfl, ⟨.inl rfl, .inl rfl, .inl rfl, jM _ _, .inl rfl, trivial⟩⟩
theorem Bi (x : Rk) (k : List Nat) (w : Int) (co : List Nat) (at' : Int) (ho : oct k) (hco : oct co) (hv : ∀ l ∈ x.v, octL l) (hn : x.v.length ≤ 1000000) (hn2 : ∀ l ∈ x.v, l.length ≤ 1000000) :
  Pg.Good Tryz.prog 53 [.agg (rkF x), .agg [vs k, vi w], fzb co, vi at'] (.tup [.agg (rkF (pR x k w co at').1), vi (pR x k w co at').2.1, vi (pR x k w co at').2.2]) := by
 have h1 := kU x hv hn hn2
 have h2 := bZ k w
 have h3 := IM at'
 unfold pR
 by_cases c1 : vRk x = 0
 ·rw [if_neg (by omega)]
  rw [c1] at h1
  by_cases c2 : dW k w = 0
  ·rw [if_neg (by omega)]
   rw [c2] at h2
   by_cases c3 : 0 ≤ at' ∧ at' ≤ 1073741824
   ·rw [if_neg (fun h => h c3)]
    rw [decide_eq_true c3] at h3
    obtain ⟨i1, i2, i3, i4, i5⟩ := uG c1
    obtain ⟨j1, j2⟩ := ng c2
    have k1 := qp x.t w (by unfold W64; omega) (by unfold W64; omega)
    by_cases c4 : (dR x.t w).2 = true
    ·rw [if_pos c4]
     generalize dR x.t w = a at *
     obtain ⟨a1, a2⟩ := a
     simp only at c4 k1
     subst c4
     obtain ⟨z, t, lo, v, b⟩ := x
     simp only at *
     refine gI oW Tryz.func53 Tryz.results53 ?_
     exact wR trivial (aI h1 (aI h2 (aI h3 k1))) ah
    ·rw [if_neg c4]
     have k2 := Qr w (by omega)
     have hps := fun i => IW w 63 i (by decide)
     have hpl := Iz w 63
     have hin := fun i => IV k (jy w 63) x.v (fun i => by have := hps i; omega) 31 i5 (by omega) i
     have hst := QF (xP x k w) x.z x.l co at' 100 (by omega) hco (fun i => by have := (hin (jy w 63).length).2 i; unfold xP; omega) (by omega) (by have := (hin (jy w 63).length).1; unfold xP; omega) (by unfold W64; omega) c3
     have hR : qw (xP x k w) x.z x.l co at' 100 = CS x k w co at' := rfl
     rw [hR] at hst
     generalize CS x k w co at' = R at *
     generalize nz R.2.2.2.2.length R.2.2.2.2 = T at *
     unfold xP at hst
     have hp0 : oq k (jy w 63) x.v 0 = x.v := rfl
     have hpn : ∀ i, oq k (jy w 63) x.v (i + 1) = CQ k (oq k (jy w 63) x.v i) ((jy w 63).getD i 0).toNat := fun _ => rfl
     generalize hps2 : jy w 63 = ps at *
     generalize dR x.t w = a at *
     obtain ⟨a1, a2⟩ := a
     simp only at c4 k1
     have c4 : a2 = false := by simpa using c4
     subst c4
     obtain ⟨z, t, lo, v, b⟩ := x
     simp only at *
     have hvl := dQ v
     have hil := bC ps
     refine ji (qU (fun d => bif d == 85 then true else false) [] mix) Tryz.func53 rfl Tryz.results53 rfl (by kernel_rfl) (Nat.le_of_ble_eq_true (by kernel_rfl)) ?_
     refine wS (aI @pgF @dQ) (aI h1 (aI h2 (aI h3 (aI k1 k2)))) ?_
     refine bn (fun i : Nat => mkA [(2, fzb co), (3, vi at'), (4, .ref 0 0), (5, .ref 1 0), (8, .ref 2 0), (13, vi a1), (15, .sl (.own 0 108) 1 (lv (oq k ps v i))), (16, fzi ps), (17, vi i)] [(0, (39, rkF ⟨z, t, lo, v, b⟩)), (1, (45, [vs k, vi w])), (2, (39, [vi 0, vi 0, vi 0, nls, vb false]))] 3 (fun _ => .top)) (fun i => i ≤ ps.length) (fun i => ps.length - i) 0 [3] [0, 1, 2] ?_ (Nat.zero_le _) ?_
     ·exact kE
     ·intro i hi
      replace hi : i ≤ ps.length := hi
      have hcl := (hin i).1
      have hlc := dQ (oq k ps v i)
      rcases Nat.lt_or_ge i ps.length with hlt | hge
      ·have hg := gQ ps i hlt
       have hpi := hps i
       have hnx := hpn i
       generalize hcur : oq k ps v i = cur at *
       generalize hpp : ps.getD i 0 = p' at *
       obtain ⟨p, rfl⟩ : ∃ p : Nat, p' = p := ⟨p'.toNat, by omega⟩
       rw [Int.toNat_natCast] at hnx
       refine wS (aI @pgF (aI @hil @hg)) trivial ?_
       refine bn (fun m : Nat => mkA [(2, fzb co), (3, vi at'), (4, .ref 0 0), (5, .ref 1 0), (8, .ref 2 0), (13, vi a1), (15, .sl (.own 0 108) 1 (lv (jS cur m))), (16, fzi ps), (17, vi i)] [(0, (39, rkF ⟨z, t, lo, v, b⟩)), (1, (45, [vs k, vi w])), (2, (39, [vi 0, vi 0, vi 0, nls, vb false]))] 3 (fun _ => .top)) (fun m => cur.length ≤ m ∧ (m = cur.length ∨ m ≤ p + 1)) (fun m => p + 1 - m) cur.length [0] [0, 1, 2] ?_ ⟨Nat.le_refl _, .inl rfl⟩ ?_
       ·refine kL ?_
        all_goals exact ak rfl (by rw [uF _ _ (Nat.le_refl _)])
       ·rintro m ⟨hm1, hm2⟩
        have hgl := DL cur m
        rw [Nat.max_eq_right hm1] at hgl
        have hlg := dQ (jS cur m)
        have hgn := Lr cur m hm1
        have hls := sH (jS cur m) []
        rw [hgn] at hls
        rcases Nat.lt_or_ge p m with hpm | hpm
        ·have hmm : jS cur m = jS cur (p + 1) := by
          rcases hm2 with rfl | h
          ·rw [uF _ _ (Nat.le_refl _), uF _ _ hpm]
          ·have : m = p + 1 := by omega
           rw [this]
         have hgp := lN (jS cur m) p (by omega)
         rw [DN] at hgp
         have hput : CQ k cur p = (jS cur m).set p (cur.getD p [] ++ [k]) := by unfold CQ; rw [hmm]
         rw [hput] at hnx
         have hset := ada (jS cur m) p (cur.getD p [] ++ [k])
         rw [← hnx] at hset
         have hll := (hin i).2 p
         rw [hcur] at hll
         generalize jS cur m = G at *
         generalize cur.getD p [] = lev at *
         have hsl := Cc lev
         have hsn := svS lev k
         refine wS (aI @pgF (aI @pgv (aI @lF (aI @aV (aI @false_or (aI @Bool.false_eq_true (aI @Option.bind_none.{0,0} (aI @hil (aI @hg (aI @hlg (aI @hgl (aI @hgp (aI @hsl (aI @hsn @hset)))))))))))))) trivial ?_
         (refine bL (i + 1) [0] [0, 1, 2] hlt ?_; refine kL ?_)
         all_goals exact ak rfl hset
        ·refine wS (aI @pgF (aI @pgv (aI @hil (aI @hg (aI @hlg @hgl))))) trivial ?_
         (refine bL (m + 1) [0] [0, 1, 2] ⟨by omega, .inr (by omega)⟩ ?_; refine kL ?_)
         all_goals exact Vq rfl (by rw [← hls]; exact Gx (.inr (.inl ⟨rfl, rfl, 1, rfl⟩)) _)
      ·have : i = ps.length := by omega
       subst this
       (repeat' first | refine wP (aI @pgF (aI @pgv (aI @hil @id_eq.{1}))) trivial ?_ | refine cG [0] hst ?_ | refine tS ?_ ?_ <;> intro hc | fail)
       exact rE []
   ·rw [if_pos c3]
    rw [decide_eq_false c3] at h3
    refine Good.fzt (vs := [.agg [vi 0, vi 0, vi 0, nls, vb false], vi 0, vi 5]) ?_ rfl ⟨Ls, aj _, aj _, trivial⟩
    refine gI oW Tryz.func53 Tryz.results53 ?_
    exact wR trivial (aI h1 (aI h2 h3)) ah
  ·rw [if_pos (by omega)]
   refine Good.fzt (vs := [.agg [vi 0, vi 0, vi 0, nls, vb false], vi 0, vi (dW k w)]) ?_ rfl ⟨Ls, aj _, aj _, trivial⟩
   refine gI oW Tryz.func53 Tryz.results53 ?_
   exact wR trivial (aI h1 h2) ah
 ·rw [if_pos (by omega)]
  refine Good.fzt (vs := [.agg [vi 0, vi 0, vi 0, nls, vb false], vi 0, vi (vRk x)]) ?_ rfl ⟨Ls, aj _, aj _, trivial⟩
  refine gI oW Tryz.func53 Tryz.results53 ?_
  exact wR trivial h1 ah
end Go.Proofs.YtaoejnjkmfkbeaaGreat
