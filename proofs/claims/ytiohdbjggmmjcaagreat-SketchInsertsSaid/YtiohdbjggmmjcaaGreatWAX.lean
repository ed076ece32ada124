/-
  Texts of this claim, merged; own names are short.
-/
import Derived.Test.YtiohdbjggmmjcaaGreatWAW
import Derived.Test.YtiohdbjggmmjcaaGreatWAN
import Derived.Test.YtiohdbjggmmjcaaGreatWAR
set_option linter.unusedVariables false
set_option linter.unusedSimpArgs false
set_option linter.unusedSectionVars false
set_option linter.defProp false
set_option maxRecDepth 100000
set_option maxHeartbeats 8000000
namespace Go.Proofs.YtiohdbjggmmjcaaGreat
open Go Go.Pg
def ji (n : Nat) : Nat := if n = 0 then 0 else Nat.log2 n + 1
theorem Nh : ji 0 = 0 := rfl
theorem O4 {n k : Nat} (h1 : 2 ^ k ≤ n) (h2 : n < 2 ^ (k + 1)) : ji n = k + 1 := by
 have hn : n ≠ 0 := by have := Nat.two_pow_pos k; omega
 unfold ji
 rw [if_neg hn, (Nat.log2_eq_iff hn).2 ⟨h1, h2⟩]
theorem FW {n k : Nat} (h : n < 2 ^ k) : ji n ≤ k := by
 unfold ji
 split
 ·exact Nat.zero_le _
 ·rename_i hn
  have := (Nat.log2_lt hn).2 h
  omega
theorem abT (n : Nat) (h : n ≠ 0) : ∃ k, ji n = k + 1 ∧ 2 ^ k ≤ n ∧ n < 2 ^ (k + 1) := by
 refine ⟨Nat.log2 n, by unfold ji; rw [if_neg h], ?_⟩
 exact (Nat.log2_eq_iff h).1 rfl
theorem jq (n k : Nat) (h : 2 ^ k ≤ n) : ji n = ji (n / 2 ^ k) + k := by
 have hp := Nat.two_pow_pos k
 have hq : n / 2 ^ k ≠ 0 := by have := Nat.div_pos h hp; omega
 obtain ⟨m, h1, h2, h3⟩ := abT _ hq
 rw [h1, show m + 1 + k = (m + k) + 1 by omega]
 apply O4
 ·rw [Nat.pow_add]; exact (Nat.le_div_iff_mul_le hp).1 h2
 ·rw [show m + k + 1 = (m + 1) + k by omega, Nat.pow_add]; exact (Nat.div_lt_iff_lt_mul hp).1 h3
theorem XW (n k : Nat) (h : n ≠ 0) : ji (n * 2 ^ k) = ji n + k := by
 have hp := Nat.two_pow_pos k
 have : 2 ^ k ≤ n * 2 ^ k := Nat.le_mul_of_pos_left _ (by omega)
 rw [jq _ k this, Nat.mul_div_cancel _ hp]
def agt : List Nat := [0, 1, 2, 2, 3, 3, 3, 3, 4, 4, 4, 4, 4, 4, 4, 4, 5, 5, 5, 5, 5, 5, 5, 5, 5, 5, 5, 5, 5, 5, 5, 5, 6, 6, 6, 6, 6, 6, 6, 6, 6, 6, 6, 6, 6, 6, 6, 6, 6, 6, 6, 6, 6, 6, 6, 6, 6, 6, 6, 6, 6, 6, 6, 6, 7, 7, 7, 7, 7, 7, 7, 7, 7, 7, 7, 7, 7, 7, 7, 7, 7, 7, 7, 7, 7, 7, 7, 7, 7, 7, 7, 7, 7, 7, 7, 7, 7, 7, 7, 7, 7, 7, 7, 7, 7, 7, 7, 7, 7, 7, 7, 7, 7, 7, 7, 7, 7, 7, 7, 7, 7, 7, 7, 7, 7, 7, 7, 7, 8, 8, 8, 8, 8, 8, 8, 8, 8, 8, 8, 8, 8, 8, 8, 8, 8, 8, 8, 8, 8, 8, 8, 8, 8, 8, 8, 8, 8, 8, 8, 8, 8, 8, 8, 8, 8, 8, 8, 8, 8, 8, 8, 8, 8, 8, 8, 8, 8, 8, 8, 8, 8, 8, 8, 8, 8, 8, 8, 8, 8, 8, 8, 8, 8, 8, 8, 8, 8, 8, 8, 8, 8, 8, 8, 8, 8, 8, 8, 8, 8, 8, 8, 8, 8, 8, 8, 8, 8, 8, 8, 8, 8, 8, 8, 8, 8, 8, 8, 8, 8, 8, 8, 8, 8, 8, 8, 8, 8, 8, 8, 8, 8, 8, 8, 8, 8, 8, 8, 8, 8, 8, 8, 8, 8, 8, 8, 8]
theorem agu : gy Tryz.prog 9 = true := by kernel_rfl
theorem abU : ∀ i : Fin 256, (sB agt).data.toList.getD i.1 0 = UInt8.ofNat (ji i.1) := by decide +kernel
theorem wM : ∀ i : Fin 256, ji i.1 ≤ 8 := by decide +kernel
theorem sJ (n : Nat) (hn : n < 256) : ixV Tryz.prog 9 (.c (.string { data := ((([0, 1, 2, 2, 3, 3, 3, 3, 4, 4, 4, 4, 4, 4, 4, 4, 5, 5, 5, 5, 5, 5, 5, 5, 5, 5, 5, 5, 5, 5, 5, 5, 6, 6, 6, 6, 6, 6, 6, 6, 6, 6, 6, 6, 6, 6, 6, 6, 6, 6, 6, 6, 6, 6, 6, 6, 6, 6, 6, 6, 6, 6, 6, 6].append [7, 7, 7, 7, 7, 7, 7, 7, 7, 7, 7, 7, 7, 7, 7, 7, 7, 7, 7, 7, 7, 7, 7, 7, 7, 7, 7, 7, 7, 7, 7, 7, 7, 7, 7, 7, 7, 7, 7, 7, 7, 7, 7, 7, 7, 7, 7, 7, 7, 7, 7, 7, 7, 7, 7, 7, 7, 7, 7, 7, 7, 7, 7, 7]).append ([8, 8, 8, 8, 8, 8, 8, 8, 8, 8, 8, 8, 8, 8, 8, 8, 8, 8, 8, 8, 8, 8, 8, 8, 8, 8, 8, 8, 8, 8, 8, 8, 8, 8, 8, 8, 8, 8, 8, 8, 8, 8, 8, 8, 8, 8, 8, 8, 8, 8, 8, 8, 8, 8, 8, 8, 8, 8, 8, 8, 8, 8, 8, 8].append [8, 8, 8, 8, 8, 8, 8, 8, 8, 8, 8, 8, 8, 8, 8, 8, 8, 8, 8, 8, 8, 8, 8, 8, 8, 8, 8, 8, 8, 8, 8, 8, 8, 8, 8, 8, 8, 8, 8, 8, 8, 8, 8, 8, 8, 8, 8, 8, 8, 8, 8, 8, 8, 8, 8, 8, 8, 8, 8, 8, 8, 8, 8, 8]))).toArray })) (.c (.int .u8 (n : Int))) = some (.c (.int .u8 (ji n : Nat))) := by
 have e : ({ data := ((([0, 1, 2, 2, 3, 3, 3, 3, 4, 4, 4, 4, 4, 4, 4, 4, 5, 5, 5, 5, 5, 5, 5, 5, 5, 5, 5, 5, 5, 5, 5, 5, 6, 6, 6, 6, 6, 6, 6, 6, 6, 6, 6, 6, 6, 6, 6, 6, 6, 6, 6, 6, 6, 6, 6, 6, 6, 6, 6, 6, 6, 6, 6, 6].append [7, 7, 7, 7, 7, 7, 7, 7, 7, 7, 7, 7, 7, 7, 7, 7, 7, 7, 7, 7, 7, 7, 7, 7, 7, 7, 7, 7, 7, 7, 7, 7, 7, 7, 7, 7, 7, 7, 7, 7, 7, 7, 7, 7, 7, 7, 7, 7, 7, 7, 7, 7, 7, 7, 7, 7, 7, 7, 7, 7, 7, 7, 7, 7]).append ([8, 8, 8, 8, 8, 8, 8, 8, 8, 8, 8, 8, 8, 8, 8, 8, 8, 8, 8, 8, 8, 8, 8, 8, 8, 8, 8, 8, 8, 8, 8, 8, 8, 8, 8, 8, 8, 8, 8, 8, 8, 8, 8, 8, 8, 8, 8, 8, 8, 8, 8, 8, 8, 8, 8, 8, 8, 8, 8, 8, 8, 8, 8, 8].append [8, 8, 8, 8, 8, 8, 8, 8, 8, 8, 8, 8, 8, 8, 8, 8, 8, 8, 8, 8, 8, 8, 8, 8, 8, 8, 8, 8, 8, 8, 8, 8, 8, 8, 8, 8, 8, 8, 8, 8, 8, 8, 8, 8, 8, 8, 8, 8, 8, 8, 8, 8, 8, 8, 8, 8, 8, 8, 8, 8, 8, 8, 8, 8]))).toArray } : ByteArray) = sB agt := by rfl
 rw [e, Oq _ _ _ _ _ (by omega) (by rw [mi]; exact_mod_cast hn), agu, if_pos rfl, Int.toNat_natCast, abU ⟨n, hn⟩]
 have : ji n ≤ 8 := wM ⟨n, hn⟩
 simp only
 rw [UInt8.toNat_ofNat', Nat.mod_eq_of_lt (by omega)]
theorem fdN (x k : Nat) (hk : k ≤ 64) : Int.fdiv (x : Int) (2 ^ min k IntKind.u64.bits) = ((x / 2 ^ k : Nat) : Int) := by
 have hb : IntKind.u64.bits = 64 := rfl
 rw [hb, Nat.min_eq_left hk, Int.fdiv_eq_ediv_of_nonneg _ (Int.le_of_lt (Int.pow_pos (by decide)))]
 simp
theorem abV (x : Nat) (hx : x < 18446744073709551616) : Pg.Good Tryz.prog 182 [vu x] (vi (ji x : Nat)) := by
 have f32 := fdN x 32 (by decide)
 by_cases c1 : x < 4294967296
 ·have e1 : ji x = ji x + 0 := rfl
  by_cases c2 : x < 65536
  ·by_cases c3 : x < 256
   ·have ht := sJ x c3
    have h8 : ji (x) ≤ 8 := wM ⟨x, c3⟩
    refine gI oW Tryz.func182 Tryz.results182 ?_
    refine wS @ht trivial ?_
    (refine rT [] ?_; first | rfl | simp only [pgo, simprocAttr] | skip)
    all_goals first | (congr 2; omega) | skip
   ·have s1 := jq x 8 (by omega)
    have f1 := fdN x 8 (by decide)
    have ht := sJ (x / 2 ^ 8) (by omega)
    have h8 : ji (x / 2 ^ 8) ≤ 8 := wM ⟨x / 2 ^ 8, by omega⟩
    rw [s1]
    have hby : x / 2 ^ 8 < 256 := by omega
    generalize x / 2 ^ 8 = y at *
    refine gI oW Tryz.func182 Tryz.results182 ?_
    refine wS (aI @f1 @ht) trivial ?_
    (refine rT [] ?_; first | rfl | simp only [pgo, simprocAttr] | skip)
    all_goals first | (congr 2; omega) | skip
  ·have s1 := jq x 16 (by omega)
   have f1 := fdN x 16 (by decide)
   have hy : x / 2 ^ 16 < 65536 := by omega
   rw [s1]
   generalize x / 2 ^ 16 = y at *
   by_cases c3 : y < 256
   ·have ht := sJ y c3
    have h8 : ji (y) ≤ 8 := wM ⟨y, c3⟩
    refine gI oW Tryz.func182 Tryz.results182 ?_
    refine wS (aI @f1 @ht) trivial ?_
    (refine rT [] ?_; first | rfl | simp only [pgo, simprocAttr] | skip)
    all_goals first | (congr 2; omega) | skip
   ·have s2 := jq y 8 (by omega)
    have f2 := fdN y 8 (by decide)
    have ht := sJ (y / 2 ^ 8) (by omega)
    have h8 : ji (y / 2 ^ 8) ≤ 8 := wM ⟨y / 2 ^ 8, by omega⟩
    rw [s2]
    have hbz : y / 2 ^ 8 < 256 := by omega
    generalize y / 2 ^ 8 = z at *
    refine gI oW Tryz.func182 Tryz.results182 ?_
    refine wS (aI @f1 (aI @f2 @ht)) trivial ?_
    (refine rT [] ?_; first | rfl | simp only [pgo, simprocAttr] | skip)
    all_goals first | (congr 2; omega) | skip
 ·have s0 := jq x 32 (by omega)
  have hw : x / 2 ^ 32 < 4294967296 := by omega
  rw [s0]
  generalize x / 2 ^ 32 = w at *
  by_cases c2 : w < 65536
  ·by_cases c3 : w < 256
   ·have ht := sJ w c3
    have h8 : ji (w) ≤ 8 := wM ⟨w, c3⟩
    refine gI oW Tryz.func182 Tryz.results182 ?_
    refine wS (aI @f32 @ht) trivial ?_
    (refine rT [] ?_; first | rfl | simp only [pgo, simprocAttr] | skip)
    all_goals first | (congr 2; omega) | skip
   ·have s1 := jq w 8 (by omega)
    have f1 := fdN w 8 (by decide)
    have ht := sJ (w / 2 ^ 8) (by omega)
    have h8 : ji (w / 2 ^ 8) ≤ 8 := wM ⟨w / 2 ^ 8, by omega⟩
    rw [s1]
    have hby : w / 2 ^ 8 < 256 := by omega
    generalize w / 2 ^ 8 = y at *
    refine gI oW Tryz.func182 Tryz.results182 ?_
    refine wS (aI @f32 (aI @f1 @ht)) trivial ?_
    (refine rT [] ?_; first | rfl | simp only [pgo, simprocAttr] | skip)
    all_goals first | (congr 2; omega) | skip
  ·have s1 := jq w 16 (by omega)
   have f1 := fdN w 16 (by decide)
   have hy : w / 2 ^ 16 < 65536 := by omega
   rw [s1]
   generalize w / 2 ^ 16 = y at *
   by_cases c3 : y < 256
   ·have ht := sJ y c3
    have h8 : ji (y) ≤ 8 := wM ⟨y, c3⟩
    refine gI oW Tryz.func182 Tryz.results182 ?_
    refine wS (aI @f32 (aI @f1 @ht)) trivial ?_
    (refine rT [] ?_; first | rfl | simp only [pgo, simprocAttr] | skip)
    all_goals first | (congr 2; omega) | skip
   ·have s2 := jq y 8 (by omega)
    have f2 := fdN y 8 (by decide)
    have ht := sJ (y / 2 ^ 8) (by omega)
    have h8 : ji (y / 2 ^ 8) ≤ 8 := wM ⟨y / 2 ^ 8, by omega⟩
    rw [s2]
    have hbz : y / 2 ^ 8 < 256 := by omega
    generalize y / 2 ^ 8 = z at *
    refine gI oW Tryz.func182 Tryz.results182 ?_
    refine wS (aI @f32 (aI @f1 (aI @f2 @ht))) trivial ?_
    (refine rT [] ?_; first | rfl | simp only [pgo, simprocAttr] | skip)
    all_goals first | (congr 2; omega) | skip
theorem aeP (x : Nat) (hx : x < 18446744073709551616) : Pg.Good Tryz.prog 163 [vu x] (vi (64 - (ji x : Nat))) := by
 have h1 := abV x hx
 have h2 : ji x ≤ 64 := FW (by omega)
 refine gI oW Tryz.func163 Tryz.results163 ?_
 exact wR trivial h1 ay
theorem ahP (x : Nat) (hx : x < 18446744073709551616) : Pg.Good Tryz.prog 138 [vu x] (vi (64 - (ji x : Nat))) := by
 have h1 := aeP x hx
 refine gI oW Tryz.func138 Tryz.results138 ?_
 exact wR trivial h1 ay
theorem XX (a : Nat) (h : a < 18446744073709551616) : bits .and .u64 (a : Int) 1 = ((a % 2 : Nat) : Int) := by
 have := bits_and_u64_nat a 1 h (by omega)
 rw [show ((1 : Nat) : Int) = 1 from rfl] at this
 rw [this, show (1 : Nat) = 2 ^ 1 - 1 from rfl, Nat.and_two_pow_sub_one_eq_mod]
theorem XY (H j : Nat) (hj : j ≤ 64) (hH : H < 18446744073709551616) : Je (H : Int) j = ((H / 2 ^ j % 2 : Nat) : Int) := by
 unfold Je
 rw [fdN H j hj]
 exact XX _ (Nat.lt_of_le_of_lt (Nat.div_le_self _ _) hH)
theorem XZ (H : Nat) (hH : H < 18446744073709551616) : ∀ j, j ≤ 64 → qU (H : Int) j = 1 + ((j : Int) - (ji (H % 2 ^ j) : Nat)) := by
 intro j
 induction j with
 | zero => intro _; simp [qU, Nat.mod_one, Nh]
 | succ j ih =>
  intro hj
  have hm : H % 2 ^ (j + 1) = H % 2 ^ j + 2 ^ j * (H / 2 ^ j % 2) := Nat.mod_pow_succ
  have hlt : H % 2 ^ j < 2 ^ j := Nat.mod_lt _ (Nat.two_pow_pos j)
  have e : qU (H : Int) (j + 1) = if Je (H : Int) j = 0 then 1 + qU (H : Int) j else 1 := rfl
  rw [e, XY H j (by omega) hH, hm]
  rcases (by omega : H / 2 ^ j % 2 = 0 ∨ H / 2 ^ j % 2 = 1) with hb | hb
  ·have e0 : H % 2 ^ j + 2 ^ j * 0 = H % 2 ^ j := by omega
   rw [hb, if_pos (show ((0 : Nat) : Int) = 0 from rfl), e0, ih (by omega)]
   omega
  ·rw [hb, if_neg (by decide), Nat.mul_one, O4 (k := j) (by omega) (by rw [Nat.pow_succ]; omega)]
   omega
theorem Nj (p s : Int) (k : List Nat) (ho : oct k) (hp : 2 ≤ p ∧ p ≤ 8) (hk : 1 ≤ k.length ∧ k.length ≤ 32) : Pg.Good Tryz.prog 74 [vi p, vu s, vs k] (.tup [vi (xQ p s k), vi (FD p s k), vi 0]) := by
 have k1 := Jv p hp
 have k3 := xH k
 rw [zT hk] at k3
 have k4 := XU (jy s 256) (lK _ _) k ho (by omega)
 have hh := mO (jy s 256) k
 have hr := wH p s k hp
 have hp2 := (qo hp).2.1
 have er : xQ p s k = (lL (jy s 256) k).fdiv (2 ^ min (64 - p).toNat IntKind.u64.bits) := rfl
 have ek : FD p s k = qU (lL (jy s 256) k) (64 - p).toNat := rfl
 have hrr := wG (lL (jy s 256) k) (64 - p).toNat
 rw [← ek] at hrr
 obtain ⟨H, hH⟩ := Int.eq_ofNat_of_zero_le hh.1
 rw [hH] at hh er ek k4
 have hq := XZ H (by omega) (64 - p).toNat (by omega)
 rw [← ek] at hq
 have hmul : IntKind.u64.wrap ((H : Int) * 2 ^ min p.toNat IntKind.u64.bits) = ((H % 2 ^ (64 - p).toNat * 2 ^ p.toNat : Nat) : Int) := by
  obtain ⟨q, hq⟩ := Int.eq_ofNat_of_zero_le (by omega : 0 ≤ p)
  subst hq
  have hb : IntKind.u64.bits = 64 := rfl
  rw [IntKind.wrap_u64, hb, Int.toNat_natCast, Nat.min_eq_left (by omega)]
  have e1 : ((64 : Int) - (q : Int)).toNat = 64 - q := by omega
  rw [e1]
  have e2 : H * 2 ^ q % 18446744073709551616 = H % 2 ^ (64 - q) * 2 ^ q := by
   have e3 : (18446744073709551616 : Nat) = 2 ^ (64 - q) * 2 ^ q := by rw [← Nat.pow_add, show 64 - q + q = 64 by omega]
   rw [e3, Nat.mul_mod_mul_right]
  have e4 : ((H : Int) * 2 ^ q) = ((H * 2 ^ q : Nat) : Int) := by simp
  first | rw [e1, e4, ← e2] | rw [e4, ← e2]
  rfl
 have hlt : H % 2 ^ (64 - p).toNat * 2 ^ p.toNat < 18446744073709551616 := by
  have h1 : H % 2 ^ (64 - p).toNat < 2 ^ (64 - p).toNat := Nat.mod_lt _ (Nat.two_pow_pos _)
  have h2 : 2 ^ (64 - p).toNat * 2 ^ p.toNat = 18446744073709551616 := by
   rw [← Nat.pow_add, show (64 - p).toNat + p.toNat = 64 by omega]
  have h3 := (Nat.mul_lt_mul_right (Nat.two_pow_pos p.toNat)).2 h1
  omega
 have k5 := ahP _ hlt
 have hbl : ji (H % 2 ^ (64 - p).toNat * 2 ^ p.toNat) = if H % 2 ^ (64 - p).toNat = 0 then 0 else ji (H % 2 ^ (64 - p).toNat) + p.toNat := by
  split
  ·rename_i h0; rw [h0]; simp [Nh]
  ·rename_i h0; exact XW _ _ h0
 have hb2 : ji (H % 2 ^ (64 - p).toNat) ≤ (64 - p).toNat := FW (Nat.mod_lt _ (Nat.two_pow_pos _))
 have hmin : min (1 + (64 - ((ji (H % 2 ^ (64 - p).toNat * 2 ^ p.toNat) : Nat) : Int))) (65 - p) = FD p s k := by
  rw [hbl, hq]
  split
  ·rename_i h0; rw [h0, Nh]; omega
  ·omega
 have hb3 : ji (H % 2 ^ (64 - p).toNat * 2 ^ p.toNat) ≤ 64 := FW (by omega)
 generalize hY : H % 2 ^ (64 - p).toNat * 2 ^ p.toNat = Y at *
 generalize xQ p s k = rg at *
 generalize FD p s k = rk at *
 generalize ji Y = B at *
 clear hbl hq ek hb2 hY
 refine gI oW Tryz.func74 Tryz.results74 ?_
 (repeat' (first | (simp (disch := first | exact dqz | fail) only [pgz, simprocAttr, mmF, hmul, hmin, ← er]) | ((with_reducible show bU _ _ _ _ _ _); first | refine cU k1 ?_ | refine cU k3 ?_ | refine ah _ (O3 _) rfl rfl rfl rfl ?_ | refine cU k4 ?_ | refine cU k5 ?_) | ((with_reducible first | apply aj | apply ai | apply ak) <;> intro hc <;> (try simp only [hc]) <;> (try simp only [pgd] at hc)) | (with_reducible refine cK ?_)))
 exact rE []
theorem abW (x : Ll) (k : List Nat) (w : Int) (ho : oct k) (hx : x.r.length ≤ 1000000) : Pg.Good Tryz.prog 27 [.agg (llF x), .agg [vs k, vi w]] (.tup [.agg (llF (lN x k w).1), vi (lN x k w).2]) := by
 have h1 := ac5 x hx
 have h2 := bz k w
 unfold lN
 by_cases c1 : vLl x = 0
 ·rw [if_neg (by omega)]
  rw [c1] at h1
  by_cases c2 : bT k w = 0
  ·rw [if_neg (by omega)]
   rw [c2] at h2
   obtain ⟨i1, i2, i3⟩ := Xt c1
   obtain ⟨j1, j2⟩ := fU c2
   have hr := wH x.p x.s k i1
   have hp := (qo i1).2
   have k1 := Nj x.p x.s k ho i1 j2
   obtain ⟨p, s, l⟩ := x
   simp only at i1 i2 i3 hr hp k1 hx ⊢
   rw [← i2] at hr
   generalize xQ p s k = rg at *
   generalize FD p s k = rk at *
   have hrn : rg.toNat < l.length := by omega
   have hg := kF l rg.toNat hrn
   generalize hgg : l.getD rg.toNat 0 = g at *
   have hil := aZ l
   refine Good.fzt (vs := [.agg [vi p, vu s, .sl (.own 0 3) 1 (iv (l.set rg.toNat (max g rk)))], vi 0]) ?_ rfl ⟨aH _, aH _, trivial⟩
   refine gI oW Tryz.func27 Tryz.results27 ?_
   exact wR (aI @mmT (aI @aZ (aI @hg @rP))) (aI h1 (aI h2 k1)) (ids [4])
  ·rw [if_pos (by omega)]
   refine Good.fzt (vs := [.agg [vi 0, vu 0, nls], vi (bT k w)]) ?_ rfl ⟨FH, aH _, trivial⟩
   refine gI oW Tryz.func27 Tryz.results27 ?_
   exact wR trivial (aI h1 h2) ay
 ·rw [if_pos (by omega)]
  refine Good.fzt (vs := [.agg [vi 0, vu 0, nls], vi (vLl x)]) ?_ rfl ⟨FH, aH _, trivial⟩
  refine gI oW Tryz.func27 Tryz.results27 ?_
  exact wR trivial h1 ay
end Go.Proofs.YtiohdbjggmmjcaaGreat
section
namespace Go.Pg
open Go
section
variable {P : Program} [Tb P] {s : St} {d : Option Nat} {ty : TypeId} {pos : String} {af : Array Edge} {g : Option (Nat × Bool)} {K : Kd → St → Prop}
theorem Dv (x y : Operand) (ts : Array TypeId) : aA P s ⟨d, .call { callee := .builtin .complex, args := #[x, y], argTypes := ts }, ty, pos, af, g⟩ K = kz (cxV (s.ev x) (s.ev y)) s d [s.ev x, s.ev y] K := by
 have e : (Op.call { callee := .builtin .complex, args := #[x, y], argTypes := ts }).operands.toList.map s.ev = [s.ev x, s.ev y] := rfl
 simp only [aA, kqo, dA, kx, qv, rv, xv, zv, e, bK, bC, aP, or_false]
theorem Nk (x : Operand) (ts : Array TypeId) : aA P s ⟨d, .call { callee := .builtin .real, args := #[x], argTypes := ts }, ty, pos, af, g⟩ K = kz (reV (s.ev x)) s d [s.ev x] K := by
 have e : (Op.call { callee := .builtin .real, args := #[x], argTypes := ts }).operands.toList.map s.ev = [s.ev x] := rfl
 simp only [aA, kqo, dA, kx, qv, rv, xv, zv, e, bK, bC, aP, or_false]
theorem Nl (x : Operand) (ts : Array TypeId) : aA P s ⟨d, .call { callee := .builtin .imag, args := #[x], argTypes := ts }, ty, pos, af, g⟩ K = kz (imV (s.ev x)) s d [s.ev x] K := by
 have e : (Op.call { callee := .builtin .imag, args := #[x], argTypes := ts }).operands.toList.map s.ev = [s.ev x] := rfl
 simp only [aA, kqo, dA, kx, qv, rv, xv, zv, e, bK, bC, aP, or_false]
theorem SC (src dst : TypeId) (k : FloatKind) (n : Nat) : Bc P s d src dst (.c (.float k n)) K = kz (kW P src dst (.c (.float k n))) s d [.c (.float k n)] K := by
 rw [vY]
 have h1 : (jG P src dst (.c (.float k n))).map (fun r => (r, s)) = none := rfl
 have h2 : mZ P s src dst (.c (.float k n)) = none := rfl
 have h3 : jg P s src dst (.c (.float k n)) = none := rfl
 rw [h1, h2, h3]
 simp only [aP, bC, or_false]
end
def cvF (d : Option IntKind) (s : FloatKind) (b : Nat) : Option V := match d with | some k => (PH s b k).map fun n => .c (.int k n) | none => none
theorem SE (P : Program) (src t : TypeId) (s : FloatKind) (b : Nat) : kW P src t (.c (.float s b)) = if (P.underlying src).isSome = true then cvF (qg P t) s b else none := by
 unfold kW
 cases qg P t with
 | none => simp [cvF]
 | some k' => rfl
theorem agv (k : IntKind) (s : FloatKind) (b : Nat) : cvF (some k) s b = (PH s b k).map fun n => V.c (.int k n) := rfl
theorem agw (k : FloatKind) (n : Int) : cvK none (some k) n = some (.c (.float k (k.nearest n))) := rfl
theorem agx (k : FloatKind) (a b : Nat) : cxV (.c (.float k a)) (.c (.float k b)) = some (.c (.complex k a b)) := if_pos rfl
theorem agy (k : FloatKind) (a b : Nat) : reV (.c (.complex k a b)) = some (.c (.float k a)) := rfl
theorem agz (k : FloatKind) (a b : Nat) : imV (.c (.complex k a b)) = some (.c (.float k b)) := rfl
theorem ahQ : ∀ n : Fin 512, PH .f64 (FloatKind.f64.nearest (n.1 : Int)) .i64 = some (n.1 : Int) := by decide +kernel
theorem X0 (n : Int) (h0 : 0 ≤ n) (h : n < 512) : PH .f64 (FloatKind.f64.nearest n) .i64 = some n := by
 obtain ⟨k, rfl⟩ := Int.eq_ofNat_of_zero_le h0
 exact ahQ ⟨k, by omega⟩
def pgc := aI @Dv (aI @Nk (aI @Nl (aI @SC (aI @SE (aI @agv (aI @agw (aI @agx (aI @agy (aI @agz (aI @X0 @Option.map_some.{0,0}))))))))))
end Go.Pg
end
namespace Go.Proofs.YtiohdbjggmmjcaaGreat
open Go Go.Pg
def cpx (a b : Int) : V := .c (.complex .f64 (FloatKind.f64.nearest a) (FloatKind.f64.nearest b))
def adL (s z : Int) (k : List Nat) (n : Nat) : List V := (List.range n).map fun (r : Nat) => cpx r (uP s r z k)
theorem O5 (s z : Int) (k : List Nat) (n : Nat) : (adL s z k n).length = n := by simp [adL]
theorem X3 (s z : Int) (k : List Nat) (n : Nat) : adL s z k n ++ [V.c (.complex .f64 (FloatKind.f64.nearest (n : Int)) (FloatKind.f64.nearest (uP s n z k)))] = adL s z k (n + 1) := by simp [adL, List.range_succ, cpx]
theorem abX (s z : Int) (k : List Nat) (n i : Nat) (h : i < n) : (adL s z k n)[i]? = some (.c (.complex .f64 (FloatKind.f64.nearest (i : Int)) (FloatKind.f64.nearest (uP s i z k)))) := by simp [adL, h, cpx]
theorem ahR : Ue Tryz.prog 163 = some .f64 := by kernel_rfl
theorem O6 (f : FloatKind) (a b) : V.cs (.c (.complex f a b)) = some [.c (.complex f a b)] := rfl
theorem FX (f : FloatKind) (a b) : V.one (.c (.complex f a b)) = true := rfl
theorem ahS : zelem Tryz.prog 106 = some (.c (.complex .f64 0 0)) := by kernel_rfl
theorem Np (c : Cm) (h0 : 0 < c.c.length) (hn : c.c.length ≤ 1000000) : Pg.Good Tryz.prog 69 [.agg (cmF c)] (.agg [vi c.d, vi c.z, vu c.s, .sl (.own 0 3) 1 (iv c.c), vb c.b]) := by
 have hil := aZ c.c
 refine aK (dw mix) Tryz.func69 rfl Tryz.results69 rfl (by kernel_rfl) (Nat.le_of_ble_eq_true (by kernel_rfl)) ?_
 (repeat' (first | (simp (disch := first | assumption | omega | (simp only [Fits, maxLen, pgq] at *; omega)) only [pgo, pgb, tyf, ae, simprocAttr, aZ]) | ((first | ((with_reducible show aB _ _ _ _ _ _ _); refine aj (fun hc => ?_) (fun hc => ?_)) | ((with_reducible show ax _ _ _ _ _ _ _ _); refine ai (fun hc => ?_) (fun hc => ?_)) | ((with_reducible show aU _ _ _ _ _ _ _ _ _ _); refine ak (fun hc => ?_) (fun hc => ?_))) <;> (try simp only [hc]) <;> (try simp only [pgd] at hc)) | (with_reducible refine az (by kernel_rfl) ?_)))
 (refine bZ [3] _ (by first | exact aW _ _ _ | exact bD _ _ _ _ | exact aS _ _ _ _ _ | exact aY _ _ _ _ _ _ | (simp (disch := first | assumption | omega | (simp only [Fits, maxLen, pgq] at *; omega)) only [pgr, pgo, tyf, simprocAttr]; rfl)) (by decide) (by simp only [pgo, simprocAttr]) ?_; (first | rfl | simp only [pgo, simprocAttr] | skip))
theorem Jy (c : Cm) (k : List Nat) (ho : oct k) (hd : 1 ≤ c.d ∧ c.d ≤ 8) (hz : 1 ≤ c.z ∧ c.z ≤ 64) (hk : 1 ≤ k.length ∧ k.length ≤ 32) : Pg.Good Tryz.prog 70 [.agg (cmF c), vs k] (.sl .fz 1 (adL c.s c.z k c.d.toNat)) := by
 refine Good.fzr (r := .sl (.own 0 106) 1 (adL c.s c.z k c.d.toNat)) ?_ rfl (.inl (.inl rfl))
 obtain ⟨d, z, s, l, b⟩ := c
 simp only at hd hz ⊢
 refine aK (dw mix) Tryz.func70 rfl Tryz.results70 rfl (by kernel_rfl) (Nat.le_of_ble_eq_true (by kernel_rfl)) ?_
 (repeat' (first | (simp (disch := first | assumption | omega | (simp only [Fits, maxLen, pgq] at *; omega)) only [pgo, pgb, tyf, ae, simprocAttr]) | ((first | ((with_reducible show aB _ _ _ _ _ _ _); refine aj (fun hc => ?_) (fun hc => ?_)) | ((with_reducible show ax _ _ _ _ _ _ _ _); refine ai (fun hc => ?_) (fun hc => ?_)) | ((with_reducible show aU _ _ _ _ _ _ _ _ _ _); refine ak (fun hc => ?_) (fun hc => ?_))) <;> (try simp only [hc]) <;> (try simp only [pgd] at hc)) | (with_reducible refine az (by kernel_rfl) ?_)))
 refine df (fun i : Nat => mkA [(1, vs k), (2, .ref 0 0), (5, .sl (.own 0 106) 1 (adL s z k i)), (10, vi d), (11, vi i)] [(0, (29, cmF ⟨d, z, s, l, b⟩))] 1 (fun _ => .top)) (fun i => i ≤ d.toNat) (fun i => d.toNat - i) 0 [] [0] ?_ (Nat.zero_le _) ?_
 ·(refine dN ?_ ?_ (gu _ _ _) (by decide) (by decide) (by decide) (by decide); (repeat' (first | exact trivial | refine dI _ _ rfl rfl ?_ ?_)); all_goals (try simp only [pgs, pgl, pgx, pgf, pgw, di, dL, dm, dM, fA, iO, fO, pgn, simprocAttr]); all_goals (try (repeat' (first | apply aI))); all_goals (try (first | exact trivial | exact dE (by omega) | exact eH rfl | exact bP rfl rfl | exact fB rfl)))
  all_goals first | exact gG rfl | skip
 ·intro i hi
  replace hi : i ≤ d.toNat := hi
  have hal := O5 s z k i
  rcases Nat.lt_or_ge i d.toNat with hlt | hge
  ·have hn := X3 s z k i
   have hcl := XV s i z k ho (by omega) hz hk
   generalize uP s i z k = ci at *
   (repeat' (first | (simp (disch := first | assumption | omega | (simp only [Fits, maxLen, pgq] at *; omega)) only [pgo, pgb, tyf, ae, simprocAttr, pgc, ahR, ahS, O6, FX, hn]) | ((with_reducible show bU _ _ _ _ _ _); first | refine ah _ (hcl) rfl rfl rfl rfl ?_) | ((first | ((with_reducible show aB _ _ _ _ _ _ _); refine aj (fun hc => ?_) (fun hc => ?_)) | ((with_reducible show ax _ _ _ _ _ _ _ _); refine ai (fun hc => ?_) (fun hc => ?_)) | ((with_reducible show aU _ _ _ _ _ _ _ _ _ _); refine ak (fun hc => ?_) (fun hc => ?_))) <;> (try simp only [hc]) <;> (try simp only [pgd] at hc)) | (with_reducible refine az (by kernel_rfl) ?_)))
   (refine dh (i + 1) [0] [0] (hlt) (by first | omega | (simp only [List.length_cons]; omega)) ?_; (refine dN ?_ ?_ (gu _ _ _) (by decide) (by decide) (by decide) (by decide); (repeat' (first | exact trivial | refine dI _ _ rfl rfl ?_ ?_)); all_goals (try simp only [pgs, pgl, pgx, pgf, pgw, di, dL, dm, dM, fA, iO, fO, pgn, simprocAttr]); all_goals (try (repeat' (first | apply aI))); all_goals (try (first | exact trivial | exact dE (by omega) | exact eH rfl | exact bP rfl rfl | exact fB rfl))))
  ·have : i = d.toNat := by omega
   subst this
   (repeat' (first | (simp (disch := first | assumption | omega | (simp only [Fits, maxLen, pgq] at *; omega)) only [pgo, pgb, tyf, ae, simprocAttr]) | ((first | ((with_reducible show aB _ _ _ _ _ _ _); refine aj (fun hc => ?_) (fun hc => ?_)) | ((with_reducible show ax _ _ _ _ _ _ _ _); refine ai (fun hc => ?_) (fun hc => ?_)) | ((with_reducible show aU _ _ _ _ _ _ _ _ _ _); refine ak (fun hc => ?_) (fun hc => ?_))) <;> (try simp only [hc]) <;> (try simp only [pgd] at hc)) | (with_reducible refine az (by kernel_rfl) ?_)))
   (refine bZ [0] _ (by first | exact aW _ _ _ | exact bD _ _ _ _ | exact aS _ _ _ _ _ | exact aY _ _ _ _ _ _ | (simp (disch := first | assumption | omega | (simp only [Fits, maxLen, pgq] at *; omega)) only [pgr, pgo, tyf, simprocAttr]; rfl)) (by decide) (by simp only [pgo, simprocAttr]) ?_; (first | rfl | simp only [pgo, simprocAttr] | skip))
theorem abY (c : Cm) (a b : Int) (ha : 0 ≤ a ∧ a ≤ 7) (hb : 0 ≤ b ∧ b ≤ 63) (hz : 1 ≤ c.z ∧ c.z ≤ 64) : Pg.Good Tryz.prog 71 [.agg (cmF c), .c (.complex .f64 (FloatKind.f64.nearest a) (FloatKind.f64.nearest b))] (vi (a * c.z + b)) := by
 obtain ⟨d, z, s, l, bb⟩ := c
 simp only at hz ⊢
 have h1 : 0 ≤ a * z := Int.mul_nonneg ha.1 (by omega)
 have h2 : a * z ≤ 7 * z := Int.mul_le_mul_of_nonneg_right ha.2 (by omega)
 have ia := X0 a ha.1 (by omega)
 have ib := X0 b hb.1 (by omega)
 refine aK (dw mix) Tryz.func71 rfl Tryz.results71 rfl (by kernel_rfl) (Nat.le_of_ble_eq_true (by kernel_rfl)) ?_
 (repeat' (first | (simp (disch := first | assumption | omega | (simp only [Fits, maxLen, pgq] at *; omega)) only [pgo, pgb, tyf, ae, simprocAttr, pgc, ia, ib]) | ((first | ((with_reducible show aB _ _ _ _ _ _ _); refine aj (fun hc => ?_) (fun hc => ?_)) | ((with_reducible show ax _ _ _ _ _ _ _ _); refine ai (fun hc => ?_) (fun hc => ?_)) | ((with_reducible show aU _ _ _ _ _ _ _ _ _ _); refine ak (fun hc => ?_) (fun hc => ?_))) <;> (try simp only [hc]) <;> (try simp only [pgd] at hc)) | (with_reducible refine az (by kernel_rfl) ?_)))
 (refine bZ [] _ (by first | exact aW _ _ _ | exact bD _ _ _ _ | exact aS _ _ _ _ _ | exact aY _ _ _ _ _ _ | (simp (disch := first | assumption | omega | (simp only [Fits, maxLen, pgq] at *; omega)) only [pgr, pgo, tyf, simprocAttr]; rfl)) (by decide) (by simp only [pgo, simprocAttr]) ?_; (first | rfl | simp only [pgo, simprocAttr] | skip))
theorem abZ (c : Cm) (k : List Nat) (w : Int) (ho : oct k) : Pg.Good Tryz.prog 26 [.agg (cmF c), .agg [vs k, vi w]] (.tup [.agg (cmF (nH c k w).1), vi (nH c k w).2]) := by
 have h1 := ac4 c
 have h2 := bz k w
 unfold nH
 by_cases c1 : vCm c = 0
 ·rw [if_neg (by omega)]
  rw [c1] at h1
  by_cases c2 : bT k w = 0
  ·rw [if_neg (by omega)]
   rw [c2] at h2
   obtain ⟨i1, i2, i3, i4⟩ := Xr c1
   obtain ⟨j1, j2⟩ := fU c2
   have hm := xN i1 i2
   have hmp : 0 < c.d * c.z := Int.mul_pos (by omega) (by omega)
   have hd := BB c k w
   have hin := D9 c k w i4
   have hcell := fun (r : Nat) (hr : (r : Int) < c.d) => xO c.s c.z r c.d k i2.1 ⟨by omega, hr⟩
   have e0 : dW c k w 0 = c := rfl
   have es : ∀ n, dW c k w (n + 1) = xP (dW c k w n) k w n := fun _ => rfl
   have k1 := Np c (by omega) (by omega)
   have k2 := Jy c k ho i1 i2 j2
   have ec : cmF (dW c k w c.d.toNat) = [vi c.d, vi c.z, vu c.s, fzi (dW c k w c.d.toNat).c, vb (dW c k w c.d.toNat).b] := by
    show [vi (dW c k w c.d.toNat).d, vi (dW c k w c.d.toNat).z, vu (dW c k w c.d.toNat).s, _, _] = _
    rw [(hd _).1, (hd _).2.1, (hd _).2.2.1]
   refine Good.fzt (vs := [.agg [vi c.d, vi c.z, vu c.s, .sl (.own 0 3) 1 (iv (dW c k w c.d.toNat).c), vb (dW c k w c.d.toNat).b], vi 0]) ?_ rfl (by simp only; rw [ec]; exact ⟨aH _, aH _, trivial⟩)
   generalize hR : dW c k w = R at *
   have hal := O5 c.s c.z k c.d.toNat
   have hcol := fun (r : Nat) => rW c.s r c.z k i2.1
   obtain ⟨d, z, s, l, b⟩ := c
   simp only at i1 i2 i3 i4 hd hcell e0 k1 k2 hal hcol ⊢
   have hil := aZ l
   have hix := fun (r : Nat) (hr : (r : Int) ≤ 7) => abY ⟨d, z, s, l, b⟩ r (uP s r z k) ⟨by omega, hr⟩ ⟨(hcol r).1, by have := (hcol r).2; omega⟩ i2
   refine aK (dw mix) Tryz.func26 rfl Tryz.results26 rfl (by kernel_rfl) (Nat.le_of_ble_eq_true (by kernel_rfl)) ?_
   (repeat' (first | (simp (disch := first | assumption | omega | (simp only [Fits, maxLen, pgq] at *; omega)) only [pgo, pgb, tyf, ae, simprocAttr, aZ, hal]) | ((with_reducible show bU _ _ _ _ _ _); first | refine ah _ (h1) rfl rfl rfl rfl ?_ | refine ah _ (h2) rfl rfl rfl rfl ?_ | refine ah _ (k1) rfl rfl rfl rfl ?_ | refine ah _ (k2) rfl rfl rfl rfl ?_) | ((first | ((with_reducible show aB _ _ _ _ _ _ _); refine aj (fun hc => ?_) (fun hc => ?_)) | ((with_reducible show ax _ _ _ _ _ _ _ _); refine ai (fun hc => ?_) (fun hc => ?_)) | ((with_reducible show aU _ _ _ _ _ _ _ _ _ _); refine ak (fun hc => ?_) (fun hc => ?_))) <;> (try simp only [hc]) <;> (try simp only [pgd] at hc)) | (with_reducible refine az (by kernel_rfl) ?_)))
   refine df (fun r : Nat => mkA [(2, .ref 0 0), (3, .ref 1 0), (4, .ref 2 0), (8, .ref 3 0), (31, .sl .fz 1 (adL s z k d.toNat)), (32, vi d.toNat), (33, vi r)] [(0, (29, cmF ⟨d, z, s, l, b⟩)), (1, (45, [vs k, vi w])), (2, (29, [vi 0, vi 0, vu 0, nls, vb false])), (3, (29, [vi d, vi z, vu s, .sl (.own 0 3) 1 (iv (R r).c), vb (R r).b]))] 4 (fun _ => .top)) (fun r => r ≤ d.toNat) (fun r => d.toNat - r) 0 [3] [0, 1, 2, 4] ?_ (Nat.zero_le _) ?_
   ·(refine dN ?_ ?_ (gu _ _ _) (by decide) (by decide) (by decide) (by decide); (repeat' (first | exact trivial | refine dI _ _ rfl rfl ?_ ?_)); all_goals (try simp only [pgs, pgl, pgx, pgf, pgw, di, dL, dm, dM, fA, iO, fO, pgn, simprocAttr]); all_goals (try (repeat' (first | apply aI))); all_goals (try (first | exact trivial | exact dE (by omega) | exact eH rfl | exact bP rfl rfl | exact fB rfl)))
    all_goals first | (exact bP rfl (by rw [e0])) | (exact eH (by rw [e0])) | skip
   ·intro r hr
    replace hr : r ≤ d.toNat := hr
    rcases Nat.lt_or_ge r d.toNat with hlt | hge
    ·have hrd : (r : Int) < d := by omega
     have hq := hcell r hrd
     have hk1 := hix r (by omega)
     have hag := abX s z k d.toNat r hlt
     obtain ⟨d1, d2, d3, d4⟩ := hd r
     have hRr := es r
     have hinr := hin r
     generalize hR1 : R r = q at *
     obtain ⟨qd, qz, qs, ql, qb⟩ := q
     simp only at d1 d2 d3 d4 hk1 hinr hRr
     subst d1
     subst d2
     subst d3
     rw [xP] at hRr
     simp only at hRr
     have ecc : (r : Int) * qz + uP qs (r : Int) qz k = rX qs qz (r : Int) k := rfl
     rw [ecc] at hk1
     generalize hcc : rX qs qz (r : Int) k = ci at *
     have hcn : ci.toNat < ql.length := by omega
     have hg := kF ql ci.toNat hcn
     have hgin := D8 hinr hcn
     generalize hgg : ql.getD ci.toNat 0 = g at *
     have hadd := BV g w 4294967295 (by decide) (by unfold W64; omega) (by unfold W64; omega)
     generalize lw g w 4294967295 = a at *
     obtain ⟨a1, a2⟩ := a
     simp only at hadd hRr
     have hql := aZ ql
     cases qb
     ·cases a2
      ·(repeat' (first | (simp (disch := first | assumption | omega | (simp only [Fits, maxLen, pgq] at *; omega)) only [pgo, pgb, tyf, ae, simprocAttr, aZ, hal, hag, O6, FX, hg, rP]) | ((with_reducible show bU _ _ _ _ _ _); first | refine ah _ (hk1) rfl rfl rfl rfl ?_ | refine ah _ (hadd) rfl rfl rfl rfl ?_) | ((first | ((with_reducible show aB _ _ _ _ _ _ _); refine aj (fun hc => ?_) (fun hc => ?_)) | ((with_reducible show ax _ _ _ _ _ _ _ _); refine ai (fun hc => ?_) (fun hc => ?_)) | ((with_reducible show aU _ _ _ _ _ _ _ _ _ _); refine ak (fun hc => ?_) (fun hc => ?_))) <;> (try simp only [hc]) <;> (try simp only [pgd] at hc)) | (with_reducible refine az (by kernel_rfl) ?_)))
       (refine dh (r + 1) [0] [0, 1, 2, 3] (hlt) (by first | omega | (simp only [List.length_cons]; omega)) ?_; (refine dN ?_ ?_ (gu _ _ _) (by decide) (by decide) (by decide) (by decide); (repeat' (first | exact trivial | refine dI _ _ rfl rfl ?_ ?_)); all_goals (try simp only [pgs, pgl, pgx, pgf, pgw, di, dL, dm, dM, fA, iO, fO, pgn, simprocAttr]); all_goals (try (repeat' (first | apply aI))); all_goals (try (first | exact trivial | exact dE (by omega) | exact eH rfl | exact bP rfl rfl | exact fB rfl))))
       all_goals first | (exact bP rfl (by rw [hRr])) | (exact eH (by rw [hRr]; rfl)) | skip
      ·(repeat' (first | (simp (disch := first | assumption | omega | (simp only [Fits, maxLen, pgq] at *; omega)) only [pgo, pgb, tyf, ae, simprocAttr, aZ, hal, hag, O6, FX, hg, rP]) | ((with_reducible show bU _ _ _ _ _ _); first | refine ah _ (hk1) rfl rfl rfl rfl ?_ | refine ah _ (hadd) rfl rfl rfl rfl ?_) | ((first | ((with_reducible show aB _ _ _ _ _ _ _); refine aj (fun hc => ?_) (fun hc => ?_)) | ((with_reducible show ax _ _ _ _ _ _ _ _); refine ai (fun hc => ?_) (fun hc => ?_)) | ((with_reducible show aU _ _ _ _ _ _ _ _ _ _); refine ak (fun hc => ?_) (fun hc => ?_))) <;> (try simp only [hc]) <;> (try simp only [pgd] at hc)) | (with_reducible refine az (by kernel_rfl) ?_)))
       (refine dh (r + 1) [0] [0, 1, 2, 3] (hlt) (by first | omega | (simp only [List.length_cons]; omega)) ?_; (refine dN ?_ ?_ (gu _ _ _) (by decide) (by decide) (by decide) (by decide); (repeat' (first | exact trivial | refine dI _ _ rfl rfl ?_ ?_)); all_goals (try simp only [pgs, pgl, pgx, pgf, pgw, di, dL, dm, dM, fA, iO, fO, pgn, simprocAttr]); all_goals (try (repeat' (first | apply aI))); all_goals (try (first | exact trivial | exact dE (by omega) | exact eH rfl | exact bP rfl rfl | exact fB rfl))))
       all_goals first | (exact bP rfl (by rw [hRr])) | (exact eH (by rw [hRr]; rfl)) | skip
     ·(repeat' (first | (simp (disch := first | assumption | omega | (simp only [Fits, maxLen, pgq] at *; omega)) only [pgo, pgb, tyf, ae, simprocAttr, aZ, hal, hag, O6, FX, hg, rP]) | ((with_reducible show bU _ _ _ _ _ _); first | refine ah _ (hk1) rfl rfl rfl rfl ?_ | refine ah _ (hadd) rfl rfl rfl rfl ?_) | ((first | ((with_reducible show aB _ _ _ _ _ _ _); refine aj (fun hc => ?_) (fun hc => ?_)) | ((with_reducible show ax _ _ _ _ _ _ _ _); refine ai (fun hc => ?_) (fun hc => ?_)) | ((with_reducible show aU _ _ _ _ _ _ _ _ _ _); refine ak (fun hc => ?_) (fun hc => ?_))) <;> (try simp only [hc]) <;> (try simp only [pgd] at hc)) | (with_reducible refine az (by kernel_rfl) ?_)))
      (refine dh (r + 1) [0] [0, 1, 2, 3] (hlt) (by first | omega | (simp only [List.length_cons]; omega)) ?_; (refine dN ?_ ?_ (gu _ _ _) (by decide) (by decide) (by decide) (by decide); (repeat' (first | exact trivial | refine dI _ _ rfl rfl ?_ ?_)); all_goals (try simp only [pgs, pgl, pgx, pgf, pgw, di, dL, dm, dM, fA, iO, fO, pgn, simprocAttr]); all_goals (try (repeat' (first | apply aI))); all_goals (try (first | exact trivial | exact dE (by omega) | exact eH rfl | exact bP rfl rfl | exact fB rfl))))
      all_goals first | (exact bP rfl (by rw [hRr])) | (exact eH (by rw [hRr]; rfl)) | skip
    ·have : r = d.toNat := by omega
     subst this
     (repeat' (first | (simp (disch := first | assumption | omega | (simp only [Fits, maxLen, pgq] at *; omega)) only [pgo, pgb, tyf, ae, simprocAttr, aZ, hal]) | ((first | ((with_reducible show aB _ _ _ _ _ _ _); refine aj (fun hc => ?_) (fun hc => ?_)) | ((with_reducible show ax _ _ _ _ _ _ _ _); refine ai (fun hc => ?_) (fun hc => ?_)) | ((with_reducible show aU _ _ _ _ _ _ _ _ _ _); refine ak (fun hc => ?_) (fun hc => ?_))) <;> (try simp only [hc]) <;> (try simp only [pgd] at hc)) | (with_reducible refine az (by kernel_rfl) ?_)))
     (refine bZ [0] _ (by first | exact aW _ _ _ | exact bD _ _ _ _ | exact aS _ _ _ _ _ | exact aY _ _ _ _ _ _ | (simp (disch := first | assumption | omega | (simp only [Fits, maxLen, pgq] at *; omega)) only [pgr, pgo, tyf, simprocAttr]; rfl)) (by decide) (by simp only [pgo, simprocAttr]) ?_; (first | rfl | simp only [pgo, simprocAttr] | skip))
  ·rw [if_pos (by omega)]
   refine Good.fzt (vs := [.agg [vi 0, vi 0, vu 0, nls, vb false], vi (bT k w)]) ?_ rfl ⟨FC, aH _, trivial⟩
   refine aK (dw mix) Tryz.func26 rfl Tryz.results26 rfl (by kernel_rfl) (Nat.le_of_ble_eq_true (by kernel_rfl)) ?_
   (repeat' (first | (simp (disch := first | assumption | omega | (simp only [Fits, maxLen, pgq] at *; omega)) only [pgo, pgb, tyf, ae, simprocAttr]) | ((with_reducible show bU _ _ _ _ _ _); first | refine ah _ (h1) rfl rfl rfl rfl ?_ | refine ah _ (h2) rfl rfl rfl rfl ?_) | ((first | ((with_reducible show aB _ _ _ _ _ _ _); refine aj (fun hc => ?_) (fun hc => ?_)) | ((with_reducible show ax _ _ _ _ _ _ _ _); refine ai (fun hc => ?_) (fun hc => ?_)) | ((with_reducible show aU _ _ _ _ _ _ _ _ _ _); refine ak (fun hc => ?_) (fun hc => ?_))) <;> (try simp only [hc]) <;> (try simp only [pgd] at hc)) | (with_reducible refine az (by kernel_rfl) ?_)))
   (refine bZ [] _ (by first | exact aW _ _ _ | exact bD _ _ _ _ | exact aS _ _ _ _ _ | exact aY _ _ _ _ _ _ | (simp (disch := first | assumption | omega | (simp only [Fits, maxLen, pgq] at *; omega)) only [pgr, pgo, tyf, simprocAttr]; rfl)) (by decide) (by simp only [pgo, simprocAttr]) ?_; (first | rfl | simp only [pgo, simprocAttr] | skip))
 ·rw [if_pos (by omega)]
  refine Good.fzt (vs := [.agg [vi 0, vi 0, vu 0, nls, vb false], vi (vCm c)]) ?_ rfl ⟨FC, aH _, trivial⟩
  refine aK (dw mix) Tryz.func26 rfl Tryz.results26 rfl (by kernel_rfl) (Nat.le_of_ble_eq_true (by kernel_rfl)) ?_
  (repeat' (first | (simp (disch := first | assumption | omega | (simp only [Fits, maxLen, pgq] at *; omega)) only [pgo, pgb, tyf, ae, simprocAttr]) | ((with_reducible show bU _ _ _ _ _ _); first | refine ah _ (h1) rfl rfl rfl rfl ?_) | ((first | ((with_reducible show aB _ _ _ _ _ _ _); refine aj (fun hc => ?_) (fun hc => ?_)) | ((with_reducible show ax _ _ _ _ _ _ _ _); refine ai (fun hc => ?_) (fun hc => ?_)) | ((with_reducible show aU _ _ _ _ _ _ _ _ _ _); refine ak (fun hc => ?_) (fun hc => ?_))) <;> (try simp only [hc]) <;> (try simp only [pgd] at hc)) | (with_reducible refine az (by kernel_rfl) ?_)))
  (refine bZ [] _ (by first | exact aW _ _ _ | exact bD _ _ _ _ | exact aS _ _ _ _ _ | exact aY _ _ _ _ _ _ | (simp (disch := first | assumption | omega | (simp only [Fits, maxLen, pgq] at *; omega)) only [pgr, pgo, tyf, simprocAttr]; rfl)) (by decide) (by simp only [pgo, simprocAttr]) ?_; (first | rfl | simp only [pgo, simprocAttr] | skip))
end Go.Proofs.YtiohdbjggmmjcaaGreat
