/-
  Texts of this claim, merged; own names are short.
-/
import Derived.Test.YtjiolbcdfgclaaaGreatDoorWAH
import Derived.Test.YtjiolbcdfgclaaaGreatDoorWAG
import Derived.Test.YtjiolbcdfgclaaaGreatDoorWAF
set_option linter.unusedVariables false
set_option linter.unusedSimpArgs false
set_option linter.unusedSectionVars false
set_option linter.defProp false
set_option maxRecDepth 100000
set_option maxHeartbeats 8000000
namespace Go.Proofs.YtjiolbcdfgclaaaGreatDoor
open Go Go.Pg
theorem ajc : Pg.Good Tryz.prog 244 [vu 16] (vi 4) := by
 refine ⟨by kernel_rfl, fun A w cargs hT hA hargs => ?_⟩
 obtain ⟨_, _, rfl, rfl, rfl⟩ := hargs
 refine (anI w hT.2.2).mono ?_
 rintro e w' ⟨rfl, rfl⟩
 exact ⟨_, ⟨A, fun _ => none, fun _ => none⟩, rfl, rfl, Kp.refl _ _ _, ⟨fun g h => .inl h, fun _ _ h => (by cases h), fun _ _ _ h => (by cases h)⟩⟩
theorem anK : Pg.Good Tryz.prog 224 [vu 16] (vi 4) := by
 refine gI oW Tryz.func224 Tryz.results224 ?_
 exact wR trivial ajc ah
theorem alB : bits .and .i64 16 15 = 0 := by kernel_rfl
theorem alD : Pg.Good Tryz.prog 223 [vi 16] (vb true) := by
 refine gI oW Tryz.func223 Tryz.results223 ?_
 exact wR @alB trivial ah
def o8 (u : Nat) : Nat → List Nat
 | 0 => []
 | i + 1 => hx (u / 16 ^ i % 16) :: o8 u i
theorem DW (u i : Nat) : (o8 u i).length = i := by
 induction i with
 | zero => rfl
 | succ i ih => simp [o8, ih]
theorem KR (u i : Nat) : oct (o8 u i) := by
 induction i with
 | zero => exact dV
 | succ i ih => exact pM (ag8 _) ih
def nd (u : Nat) : Nat := if h : u < 16 then 1 else nd (u / 16) + 1
termination_by u
decreasing_by omega
theorem DX {u : Nat} (h : u < 16) : nd u = 1 := by rw [nd, dif_pos h]
theorem Pj {u : Nat} (h : 16 ≤ u) : nd u = nd (u / 16) + 1 := by rw [nd, dif_neg (by omega)]
theorem alE (i : Nat) : ∀ u, (i = 0 ∨ 16 ^ i ≤ u) → u < 16 ^ (i + 1) → nd u = i + 1 := by
 induction i with
 | zero => intro u _ h; exact DX (by simpa using h)
 | succ i ih =>
  intro u h1 h2
  have h3 : 16 ^ (i + 1) ≤ u := h1.resolve_left (by omega)
  have h4 : 16 ≤ u := by rw [Nat.pow_succ] at h3; have := Nat.one_le_pow i 16 (by omega); omega
  rw [Pj h4, ih (u / 16) ?_ ?_]
  ·right
   rw [Nat.pow_succ] at h3
   exact (Nat.le_div_iff_mul_le (by omega)).2 h3
  ·rw [Nat.pow_succ] at h2
   exact (Nat.div_lt_iff_lt_mul (by omega)).2 h2
def jy (u : Nat) : List Nat := o8 u (nd u)
theorem KT (u : Nat) : oct (jy u) := KR _ _
def Gf : List Nat := [48, 49, 50, 51, 52, 53, 54, 55, 56, 57, 97, 98, 99, 100, 101, 102, 103, 104, 105, 106, 107, 108, 109, 110, 111, 112, 113, 114, 115, 116, 117, 118, 119, 120, 121, 122]
theorem aao : (⟨#[48, 49, 50, 51, 52, 53, 54, 55, 56, 57, 97, 98, 99, 100, 101, 102, 103, 104, 105, 106, 107, 108, 109, 110, 111, 112, 113, 114, 115, 116, 117, 118, 119, 120, 121, 122]⟩ : ByteArray) = sB Gf := by rfl
theorem Vk : oct Gf := by intro b hb; simp [Gf] at hb; omega
theorem aap : ∀ d, d < 16 → Gf.getD d 0 = hx d := by decide
theorem ag9 (d : Nat) (k : IntKind) (h : d < 16) : ixV Tryz.prog 9 (.c (.string (sB Gf))) (.c (.int k (d : Nat))) = some (.c (.int .u8 (hx d : Nat))) := by
 rw [Ob _ _ _ _ _ Vk (by omega) (by simp [Gf]; omega), if_pos is9]
 simp only [Int.toNat_natCast, aap d h]
theorem alF (a : Nat) : Int.fdiv (a : Int) (2 ^ min 4 IntKind.u64.bits) = ((a / 16 : Nat) : Int) := by
 have : (2 : Int) ^ min 4 IntKind.u64.bits = 16 := by decide
 rw [this, Int.fdiv_eq_ediv_of_nonneg _ (by omega)]
 rfl
theorem ajd (a : Nat) (h : a < 18446744073709551616) : bits .and .u64 (a : Int) 15 = ((a % 16 : Nat) : Int) := by
 have := bits_and_u64_nat a 15 h (by omega)
 rw [show ((15 : Nat) : Int) = 15 from rfl] at this
 rw [this, show (15 : Nat) = 2 ^ 4 - 1 from rfl, Nat.and_two_pow_sub_one_eq_mod]
def oK (u i : Nat) : List Nat := List.replicate (65 - i) 0 ++ o8 u i
theorem Iw (u i : Nat) (h : i ≤ 65) : (oK u i).length = 65 := by simp [oK, DW]; omega
theorem Vl (u i x : Nat) (h : i < 65) (hx' : x = hx (u / 16 ^ i % 16)) : (bv (oK u i)).take (65 - (i : Int) - 1).toNat ++ [V.c (.int .u8 (x : Int))] ++ (bv (oK u i)).drop ((65 - (i : Int) - 1).toNat + 1) = bv (oK u (i + 1)) := by
 have e1 : (65 - (i : Int) - 1).toNat = 64 - i := by omega
 have e2 : 65 - i = (64 - i) + 1 := by omega
 have e3 : 65 - (i + 1) = 64 - i := by omega
 rw [e1, QO, QP, show [V.c (.int .u8 (x : Int))] = bv [x] from rfl, dP, dP]
 congr 1
 have hr : (List.replicate (64 - i) 0 : List Nat).length = 64 - i := List.length_replicate
 have t1 : (oK u i).take (64 - i) = List.replicate (64 - i) 0 := by
  unfold oK
  rw [e2, ← List.replicate_append_replicate, List.append_assoc, List.take_append_of_le_length (by rw [hr]; exact Nat.le_refl _), List.take_of_length_le (by rw [hr]; exact Nat.le_refl _)]
 have t2 : (oK u i).drop (64 - i + 1) = o8 u i := by
  unfold oK
  rw [e2, List.drop_append_of_le_length (by simp), List.drop_of_length_le (by simp)]
  rfl
 rw [t1, t2, hx']
 unfold oK
 rw [e3, List.append_assoc]
 rfl
theorem afe (u i : Nat) (h : i ≤ 65) : ((bv (oK u i)).take 65).drop (65 - (i : Int)).toNat = bv (o8 u i) := by
 have e1 : (65 - (i : Int)).toNat = 65 - i := by omega
 rw [List.take_of_length_le (by rw [ax, Iw u i h]; exact Nat.le_refl _), e1, QP]
 congr 1
 unfold oK
 rw [List.drop_append_of_le_length (by simp), List.drop_of_length_le (by simp)]
 rfl
theorem aff (l : List Nat) : (bv l).all (fun v => v.free && v.one) = true := by
 induction l with
 | nil => rfl
 | cons a l ih => simp only [bv, List.map_cons, List.all_cons] at ih ⊢; rw [ih]; rfl
theorem afg (l m : List Nat) (a b : List V) (c : List Nat) (h : a = bv c) (h2 : b = bv c) : GenL l m a b := by
 subst h; subst h2
 induction c with
 | nil => exact trivial
 | cons x c ih => exact ⟨by rw [eY]; trivial, ih⟩
theorem afh (u : Nat) (hu : u < 18446744073709551616) : Pg.Good Tryz.prog 185 [nls, vu u, vi 16, vb false, vb false] (.tup [nls, vs (jy u)]) := by
 refine gI oW Tryz.func185 Tryz.results185 ?_
 refine wS @ai (aI alD anK) ?_
 refine aK (fun i : Nat => mkA [(1, vu ((u / 16 ^ i : Nat) : Int)), (3, vb false), (4, vb false), (10, nls), (11, vs []), (12, .ref 0 0), (13, vi (65 - (i : Int))), (14, vu 4), (15, vu 16), (16, vu 15)] [(0, (257, bv (oK u i)))] 1 (fun _ => .top)) (fun i => i ≤ 15 ∧ (i = 0 ∨ 16 ^ i ≤ u)) (fun i => 16 - i) 0 [] [0] ?_ ⟨by omega, .inl rfl⟩ ?_
 ·exact kE
 ·rintro i ⟨h1, h2⟩
  have hlt : u / 16 ^ i < 18446744073709551616 := Nat.lt_of_le_of_lt (Nat.div_le_self _ _) hu
  have ha := ajd (u / 16 ^ i) hlt
  have hm : u / 16 ^ i % 16 < 16 := Nat.mod_lt _ (by omega)
  have hal := Iw u i (by omega)
  have hlen : (bv (oK u i)).length = 65 := by rw [ax, hal]
  have hst := Vl u i _ (by omega) rfl
  have hix : (0 ≤ 65 - (i : Int) - 1 ∧ 65 - (i : Int) - 1 < 65) = True := eq_true ⟨by omega, by omega⟩
  have hof : ((65 - (i : Int) - 1).toNat + 1 ≤ 65) = True := eq_true (by omega)
  have hdd : u / 16 ^ i / 16 = u / 16 ^ (i + 1) := by rw [Nat.pow_succ, Nat.div_div_eq_div_mul]
  rcases Nat.lt_or_ge (u / 16 ^ i) 16 with hs | hs
  ·have hu2 : u < 16 ^ (i + 1) := by
    have := (Nat.div_lt_iff_lt_mul (Nat.pow_pos (by omega))).1 hs
    rw [Nat.pow_succ, Nat.mul_comm]; exact this
   have hn := alE i u h2 hu2
   have hms : u / 16 ^ i % 16 = u / 16 ^ i := Nat.mod_eq_of_lt hs
   rw [hms] at hst
   have hl2 : (bv (oK u (i + 1))).length = 65 := by rw [ax, Iw u (i + 1) (by omega)]
   have hcut := afe u (i + 1) (by omega)
   rw [show (65 - ((i + 1 : Nat) : Int)) = 65 - (i : Int) - 1 from by omega] at hcut
   have hon := aff (oK u (i + 1))
   have hres : jy u = o8 u (i + 1) := by unfold jy; rw [hn]
   generalize u / 16 ^ i = q at *
   refine wS (aI @aao (aI @ag9 (aI @hst (aI @hlen (aI @hix (aI @hof (aI @Nat.mul_one (aI @hl2 (aI @hcut @rH))))))))) trivial ?_
   (refine rT [] ?_; first | rfl | simp only [pgo, simprocAttr] | skip)
   all_goals rw [hres]
  ·have hnx : 16 ^ (i + 1) ≤ u := by
    have := (Nat.le_div_iff_mul_le (Nat.pow_pos (by omega))).1 hs
    rw [Nat.pow_succ, Nat.mul_comm]; exact this
   have hi15 : i + 1 ≤ 15 := by
    rcases Nat.lt_or_ge i 15 with h | h
    ·exact h
    ·have : i = 15 := by omega
     subst this
     exact absurd (Nat.lt_of_le_of_lt hnx hu) (by decide)
   generalize hq : u / 16 ^ i = q at *
   refine wS (aI @aao (aI @ag9 (aI @ha (aI @alF (aI @hst (aI @hlen (aI @hix (aI @hof @Nat.mul_one)))))))) trivial ?_
   (refine bC (i + 1) [] [0] (⟨hi15, .inr hnx⟩) (by first | omega | (simp only [List.length_cons]; omega)) ?_; (refine iy ?_ ?_ (kD _ _ _) (by decide) (by decide) (by decide) (by decide); (repeat' (first | exact trivial | refine gJ _ _ rfl rfl ?_ ?_)); all_goals (try simp only [pgs, pgl, pgx, pgf, pgw, fQ, ig, fU, iq, dB, eY, fJ, pgn, simprocAttr]); all_goals (try (repeat' (first | apply aI))); all_goals (try (first | exact trivial | exact gB (by omega) | exact gq rfl | exact aW rfl rfl | exact je rfl))))
   all_goals first | exact gq (by rw [← hdd]) | exact gB (by omega) | exact afg _ _ _ _ _ rfl rfl | skip
theorem alG (u : Nat) (hu : u < 18446744073709551616) : Pg.Good Tryz.prog 132 [vu u, vi 16] (vs (jy u)) := by
 refine gI oW Tryz.func132 Tryz.results132 ?_
 exact wR @ai (afh u hu) ah
theorem tu (u : Nat) (hu : u < 18446744073709551616) : Pg.Good Tryz.prog 77 [vu u, vi 16] (vs (jy u)) := by
 refine gI oW Tryz.func77 Tryz.results77 ?_
 exact wR @ai (alG u hu) ah
theorem Gg {l : List Nat} (ho : oct l) : l7 (sB l) = bv l := by
 unfold l7 sB bv
 simp only [List.map_map]
 apply List.map_congr_left
 intro b hb
 have := ho b hb
 simp only [Function.comp, UInt8.toNat_ofNat']
 congr 2
 omega
theorem anL : ∀ c, c < 128 → bits .or .u8 ((c : Nat) : Int) 32 = ((c ||| 32 : Nat) : Int) := by decide
theorem aaq (c : Nat) (h : 97 ≤ c ∧ c ≤ 102) : Pg.Good Tryz.prog 245 [.c (.int .u8 (c : Int))] (.c (.int .u8 (c : Int))) := by
 have h1 := anL c (by omega)
 have h2 : ∀ c : Nat, c ≤ 102 → 97 ≤ c → c ||| 32 = c := by decide
 rw [h2 c h.2 h.1] at h1
 refine gI oW Tryz.func245 Tryz.results245 ?_
 exact wR @h1 trivial ah
def dgt (u i : Nat) : Nat := u / 16 ^ (nd u - 1 - i) % 16
theorem aje (u i : Nat) : dgt u i < 16 := Nat.mod_lt _ (by omega)
theorem aar (u n i : Nat) (h : i < n) : (o8 u n).getD i 0 = hx (u / 16 ^ (n - 1 - i) % 16) := by
 induction n generalizing i with
 | zero => omega
 | succ n ih =>
  cases i with
  | zero => rfl
  | succ i =>
   have := ih i (by omega)
   have e : n + 1 - 1 - (i + 1) = n - 1 - i := by omega
   simp only [o8, List.getD_cons_succ, this, e]
theorem aas (u i : Nat) (h : i < nd u) : (jy u).getD i 0 = hx (dgt u i) := aar u (nd u) i h
theorem KU (u : Nat) : (jy u).length = nd u := DW _ _
theorem aat (n : Nat) : ∀ u, u < 16 ^ n → 1 ≤ n → 1 ≤ nd u ∧ nd u ≤ n ∧ u < 16 ^ nd u := by
 induction n with
 | zero => intro u _ h; omega
 | succ n ih =>
  intro u h _
  rcases Nat.lt_or_ge u 16 with h1 | h1
  ·rw [DX h1]; omega
  ·have h2 : u / 16 < 16 ^ n := by
    rw [Nat.pow_succ] at h
    exact (Nat.div_lt_iff_lt_mul (by omega)).2 h
   have hn : 1 ≤ n := by
    rcases Nat.eq_zero_or_pos n with h3 | h3
    ·subst h3; omega
    ·exact h3
   obtain ⟨h3, h4, h5⟩ := ih (u / 16) h2 hn
   rw [Pj h1]
   refine ⟨by omega, by omega, ?_⟩
   rw [Nat.pow_succ]
   exact (Nat.div_lt_iff_lt_mul (by omega)).1 h5
def pre (u i : Nat) : Nat := u / 16 ^ (nd u - i)
theorem alH (u : Nat) (h : u < 16 ^ nd u) : pre u 0 = 0 := Nat.div_eq_of_lt h
theorem afi (u : Nat) : pre u (nd u) = u := by simp [pre]
theorem KW (u i : Nat) (h : i < nd u) : pre u i * 16 + dgt u i = pre u (i + 1) := by
 unfold pre dgt
 have e1 : nd u - i = (nd u - 1 - i) + 1 := by omega
 have e2 : nd u - (i + 1) = nd u - 1 - i := by omega
 rw [e1, e2, Nat.pow_succ, ← Nat.div_div_eq_div_mul]
 omega
theorem ajf (u i : Nat) (hu : u < 18446744073709551616) (h : i < nd u) : pre u i < 1152921504606846976 := by
 have h1 := KW u i h
 have h2 : pre u (i + 1) ≤ u := Nat.div_le_self _ _
 omega
theorem yK : ∀ d, d < 16 → (48 ≤ hx d ∧ hx d ≤ 57 ∧ hx d - 48 = d) ∨ (97 ≤ hx d ∧ hx d ≤ 102 ∧ hx d - 97 + 10 = d) := by decide
theorem alI : IntKind.u64.wrap (1 * 2 ^ min 64 IntKind.u64.bits) = 0 := by kernel_rfl
theorem aau : uA Tryz.prog 117 = true := by kernel_rfl
theorem wm1 : IntKind.u64.wrap (-1) = 18446744073709551615 := by kernel_rfl
theorem aav (s : St) (d : Option Nat) (z : ByteArray) (K : Kd → St → Prop) : AX Tryz.prog s d 9 28 (.c (.string z)) K = K .x (s.put d (.sl .fz 1 (l7 z))) := by
 rw [uF]
 have h0 : mM Tryz.prog 9 28 (.c (.string z)) = none := by rfl
 have h1 : kz Tryz.prog 9 28 (.c (.string z)) = some (.sl .fz 1 (l7 z)) := by rfl
 have h3 : jF Tryz.prog s 9 28 (.c (.string z)) = none := rfl
 have h2 : mX Tryz.prog s 9 28 (.c (.string z)) = none := rfl
 rw [h0, h1, h2, h3]
 simp only [bU, aF, bG, or_false, false_or, Option.map_some, FP]
theorem aaw {a b : List Nat} (ha : oct a) (hb : oct b) (h : a ≠ b) : decide (sB a = sB b) = false := by rw [sJ ha hb]; exact decide_eq_false h
theorem alJ (u : Nat) (hu : u < 18446744073709551616) : Pg.Good Tryz.prog 225 [vs (jy u), vi 16, vi 64] (.tup [vu u, .c .nilIface]) := by
 obtain ⟨n1, n2, n3⟩ := aat 16 u (by simpa using hu) (by omega)
 have ho := KT u
 have hlen := KU u
 have hbl : (bv (jy u)).length = nd u := by rw [ax, hlen]
 have hne : jy u ≠ [] := by intro h; rw [h] at hlen; simp at hlen; omega
 have hnil := aaw ho dV hne
 have hby := Gg ho
 refine gI oW Tryz.func225 Tryz.results225 ?_
 refine wS (aI @ai (aI @hnil (aI @hby (aI @aav (aI @alI @wm1))))) trivial ?_
 refine aK (fun i : Nat => mkA [(0, vs (jy u)), (1, vi 16), (8, vb false), (9, vs (jy u)), (10, vu 1152921504606846976), (11, vu 18446744073709551615), (12, vb false), (13, vu (pre u i : Nat)), (99, .sl .fz 1 (bv (jy u))), (100, vi (nd u : Nat)), (101, vi i)] [] 0 (fun _ => .top)) (fun i => i ≤ nd u) (fun i => nd u - i) 0 [] [] ?_ (Nat.zero_le _) ?_
 ·(refine iy ?_ ?_ (kD _ _ _) (by decide) (by decide) (by decide) (by decide); (repeat' (first | exact trivial | refine gJ _ _ rfl rfl ?_ ?_)); all_goals (try simp only [pgs, pgl, pgx, pgf, pgw, fQ, ig, fU, iq, dB, eY, fJ, pgn, simprocAttr]); all_goals (try (repeat' (first | apply aI))); all_goals (try (first | exact trivial | exact gB (by omega) | exact gq rfl | exact aW rfl rfl | exact je rfl)))
  all_goals exact gq (by rw [alH u n3]; rfl)
 ·intro i hi
  replace hi : i ≤ nd u := hi
  rcases Nat.lt_or_ge i (nd u) with hlt | hge
  ·have hg := HY (jy u) i (by omega)
   have hd := aas u i hlt
   have hdl := aje u i
   have hp := KW u i hlt
   have hpl := ajf u i hu hlt
   have hps : pre u (i + 1) ≤ u := Nat.div_le_self _ _
   rw [hd] at hg
   rcases yK (dgt u i) hdl with ⟨c1, c2, c3⟩ | ⟨c1, c2, c3⟩
   ·generalize hx (dgt u i) = c at *
    refine wS (aI @hg @hbl) trivial ?_
    (refine bC (i + 1) [] [] (hlt) (by first | omega | (simp only [List.length_cons]; omega)) ?_; (refine iy ?_ ?_ (kD _ _ _) (by decide) (by decide) (by decide) (by decide); (repeat' (first | exact trivial | refine gJ _ _ rfl rfl ?_ ?_)); all_goals (try simp only [pgs, pgl, pgx, pgf, pgw, fQ, ig, fU, iq, dB, eY, fJ, pgn, simprocAttr]); all_goals (try (repeat' (first | apply aI))); all_goals (try (first | exact trivial | exact gB (by omega) | exact gq rfl | exact aW rfl rfl | exact je rfl))))
    all_goals exact gq (by congr 1; omega)
   ·have hlo := aaq (hx (dgt u i)) ⟨c1, c2⟩
    generalize hx (dgt u i) = c at *
    refine wS (aI @hg @hbl) hlo ?_
    (refine bC (i + 1) [] [] (hlt) (by first | omega | (simp only [List.length_cons]; omega)) ?_; (refine iy ?_ ?_ (kD _ _ _) (by decide) (by decide) (by decide) (by decide); (repeat' (first | exact trivial | refine gJ _ _ rfl rfl ?_ ?_)); all_goals (try simp only [pgs, pgl, pgx, pgf, pgw, fQ, ig, fU, iq, dB, eY, fJ, pgn, simprocAttr]); all_goals (try (repeat' (first | apply aI))); all_goals (try (first | exact trivial | exact gB (by omega) | exact gq rfl | exact aW rfl rfl | exact je rfl))))
    all_goals exact gq (by congr 1; omega)
  ·have : i = nd u := by omega
   subst this
   exact wR @afi trivial ah
theorem A8 (u : Nat) (hu : u < 18446744073709551616) : Pg.Good Tryz.prog 190 [vs (jy u), vi 16, vi 64] (.tup [vu u, .c .nilIface]) := by
 have hif := aau
 refine gI oW Tryz.func190 Tryz.results190 ?_
 exact wR trivial (alJ u hu) ah
theorem KX : ∀ c, c < 256 → ixB yC c = nib c := by decide
theorem aax : ∀ c, c < 256 → 0 ≤ nib c → hx (nib c).toNat = c := by decide
def uP (l : List Nat) : Option (List Nat) :=
 if oV l [37] = true then (if (l.drop 1).length % 2 ≠ 0 then none else if okB (l.drop 1) ((l.drop 1).length / 2) = true then some (prs (l.drop 1) ((l.drop 1).length / 2)) else none) else some l
def pkP (l : List Nat) : List Nat × Nat :=
 match uP l with
 | none => ([], 1)
 | some k => if (fk k).2 ≠ 0 ∨ (fk k).1 ≠ l then ([], 1) else (k, 0)
theorem pct (l : List Nat) : oV l [37] = true ↔ 0 < l.length ∧ l.getD 0 0 = 37 := by
 cases l with
 | nil => simp [oV]
 | cons a l => simp [oV]
theorem Gh (l : List Nat) (h : kJ l = true) : oV l [37] = false := by
 rw [← Bool.not_eq_true, pct]
 rintro ⟨h1, h2⟩
 cases l with
 | nil => simp at h1
 | cons a l =>
  simp at h2
  subst h2
  simp [kJ, plC, bt, mk5] at h
theorem aay (r : List Nat) (ho : oct r) : ∀ j, 2 * j ≤ r.length → okB r j = true → jh (prs r j) = r.take (2 * j) := by
 intro j
 induction j with
 | zero => intro _ _; rfl
 | succ j ih =>
  intro hj hok
  rw [yE, Bool.and_eq_true] at hok
  have h1 := ih (by omega) hok.1
  have h2 := hok.2
  unfold okP at h2
  simp only [Bool.and_eq_true, decide_eq_true_eq] at h2
  have b1 := gW ho (2 * j)
  have b2 := gW ho (2 * j + 1)
  have n1 := qK (r.getD (2 * j) 0)
  have n2 := qK (r.getD (2 * j + 1) 0)
  have e1 := aax _ b1 h2.1
  have e2 := aax _ b2 h2.2
  have e3 : prB r j / 16 = (nib (r.getD (2 * j) 0)).toNat := by unfold prB; omega
  have e4 : prB r j % 16 = (nib (r.getD (2 * j + 1) 0)).toNat := by unfold prB; omega
  rw [DL]
  have : jh (prs r j ++ [prB r j]) = jh (prs r j) ++ [hx (prB r j / 16), hx (prB r j % 16)] := by simp [jh]
  rw [this, h1, e3, e4, e1, e2]
  rw [show 2 * (j + 1) = 2 * j + 1 + 1 by omega, List.take_succ_eq_append_getElem (show 2 * j + 1 < r.length by omega), List.take_succ_eq_append_getElem (show 2 * j < r.length by omega)]
  have g1 : r.getD (2 * j) 0 = r[2 * j]'(by omega) := by simp [List.getD, show 2 * j < r.length by omega]
  have g2 : r.getD (2 * j + 1) 0 = r[2 * j + 1]'(by omega) := by simp [List.getD, show 2 * j + 1 < r.length by omega]
  rw [g1, g2, List.append_assoc]
  rfl
theorem aaz (l : List Nat) (ho : oct l) : pkP l = pk l := by
 unfold pkP uP
 cases hp : oV l [37]
 ·have hn : ¬ (0 < l.length ∧ l.getD 0 0 = 37) := fun h => by rw [← pct, hp] at h; cases h
  simp only [Bool.false_eq_true, if_false]
  unfold pk fk
  cases h1 : fH l <;> cases h2 : kJ l <;> simp only [Bool.and_true, Bool.and_false, Bool.false_and, Bool.true_and, Bool.false_eq_true, if_true, if_false, ne_eq, not_true_eq_false, or_false, false_or]
  ·by_cases h0 : l.length = 0
   ·rw [if_pos h0, if_pos (.inl (by decide))]
   ·have : l.getD 0 0 ≠ 37 := fun h => hn ⟨by omega, h⟩
    rw [if_neg h0, if_pos this, if_pos (.inl (by decide))]
  ·by_cases h0 : l.length = 0
   ·rw [if_pos h0, if_pos (.inl (by decide))]
   ·have : l.getD 0 0 ≠ 37 := fun h => hn ⟨by omega, h⟩
    rw [if_neg h0, if_pos this, if_pos (.inl (by decide))]
  ·have hl := BP h1
   have : l.getD 0 0 ≠ 37 := fun h => hn ⟨by omega, h⟩
   have hne : ¬ (37 :: jh l = l) := by
    intro h
    apply this
    rw [← h]
    rfl
   have h0 : ¬ l.length = 0 := by omega
   rw [if_pos (.inr (by simpa using hne)), if_neg h0, if_pos this]
  ·simp
 ·obtain ⟨h1, h2⟩ := (pct l).1 hp
  have hpl : kJ l = false := by
   cases h : kJ l
   ·rfl
   ·have := Gh l h; rw [hp] at this; cases this
  unfold pk
  rw [hpl, Bool.and_false]
  simp only [if_true, Bool.false_eq_true, if_false]
  rw [if_neg (show ¬ l.length = 0 by omega), if_neg (show ¬ l.getD 0 0 ≠ 37 from fun h => h h2)]
  by_cases h5 : (l.drop 1).length % 2 ≠ 0
  ·rw [if_pos h5]
   cases h4 : okB (l.drop 1) ((l.drop 1).length / 2)
   ·rw [if_pos rfl]
   ·rw [if_neg (by simp), if_pos h5]
  ·rw [if_neg h5]
   cases h4 : okB (l.drop 1) ((l.drop 1).length / 2)
   ·rw [if_neg (by simp), if_pos rfl]
   ·rw [if_pos rfl, if_neg (by simp), if_neg h5]
    simp only
    have hx := aay (l.drop 1) (Dp ho 1) ((l.drop 1).length / 2) (by omega) h4
    have hk : 37 :: jh (prs (l.drop 1) ((l.drop 1).length / 2)) = l := by
     rw [hx, List.take_of_length_le (by omega)]
     cases l with
     | nil => simp at h1
     | cons a l => simp at h2; simp [h2]
    generalize prs (l.drop 1) ((l.drop 1).length / 2) = k at hk
    unfold fk
    cases h6 : fH k
    ·simp
    ·cases h7 : kJ k
     ·simp [hk]
     ·have hne : k ≠ l := by
       intro h; subst h
       rw [h7] at hpl; cases hpl
      simp [hne]
theorem Vm {l k : List Nat} (ho : oct l) (hl : l.length ≤ 140737488355328) (h : uP l = some k) : oct k ∧ k.length ≤ 140737488355328 := by
 unfold uP at h
 split at h
 ·split at h
  ·cases h
  ·split at h
   ·simp only [Option.some.injEq] at h
    subst h
    exact ⟨afd _ _, by rw [yG, List.length_drop]; omega⟩
   ·cases h
 ·simp only [Option.some.injEq] at h
  subst h
  exact ⟨ho, hl⟩
theorem anM (a b : List Nat) (ha : oct a) (hb : oct b) : decide (sB a = sB b) = decide (a = b) := sJ ha hb
theorem Pn {k : List Nat} (ho : oct k) : oct (fk k).1 := by
 unfold fk
 split
 ·exact dV
 ·split
  ·exact ho
  ·exact pM (by omega) (yD _)
theorem ajg (l : List Nat) (ho : oct l) (hl : l.length ≤ 140737488355328) : Pg.Good Tryz.prog 145 [.c (.string (sB l))] (pkV l) := by
 refine gI (oW [15]) Tryz.func145 Tryz.results145 ?_
 have g1 := ZX l [37] ho (nK (by omega))
 unfold pkV
 rw [← aaz l ho]
 unfold pkP
 refine wS (aI @qR @alr) trivial ?_
 refine BJ _ (fun k => mkA [(0, .c (.string (sB l))), (4, .c (.string (sB k)))] [] 0 (fun _ => .top)) (fun k => uP l = some k) rfl ?_ ?_
 ·intro k hk
  obtain ⟨hko, hkl⟩ := Vm ho hl hk
  have g2 := aan k hko
  have hfo := Pn hko
  rw [hk]
  simp only
  by_cases h1 : (fk k).2 = 0
  ·have e1 : (((fk k).2 : Nat) : Int) = 0 := by omega
   by_cases h2 : (fk k).1 = l
   ·rw [if_neg (by simp [h1, h2])]
    unfold fkV at g2
    rw [e1, h2] at g2
    exact wR @qR g2 ah
   ·rw [if_pos (.inr h2)]
    unfold fkV at g2
    rw [e1] at g2
    exact wR (aI @qR (anM _ _ hfo ho)) g2 ah
  ·rw [if_pos (.inl h1)]
   unfold fkV at g2
   exact wR @qR g2 ah
 ·rcases xh l [37] with ⟨hp, h2⟩ | ⟨hp, h2⟩
  ·rw [h2] at g1
   have hro := Dp ho 1
   have e5 : ((l.drop 1).length : Int).tmod 2 = (((l.drop 1).length % 2 : Nat) : Int) := rfl
   have hkk : uP l = if (l.drop 1).length % 2 ≠ 0 then none else if okB (l.drop 1) ((l.drop 1).length / 2) = true then some (prs (l.drop 1) ((l.drop 1).length / 2)) else none := by unfold uP; rw [if_pos hp]
   simp only [List.length_cons, List.length_nil, Nat.zero_add] at g1
   generalize hr : l.drop 1 = r at g1 hro e5 hkk
   have hrl : r.length ≤ 140737488355328 := by rw [← hr, List.length_drop]; omega
   by_cases hodd : r.length % 2 = 0
   ·rw [if_neg (by omega)] at hkk
    refine wS (aI @qR (aI @e5 @hodd)) g1 ?_
    refine aK (fun j => mkA [(0, .c (.string (sB l))), (5, .c (.string (sB r))), (7, .sl (.own 0 5) 1 (bv (prs r j))), (8, .c (.int .i64 (2 * (j : Nat))))] [] 1 (fun _ => .top)) (fun j => j ≤ r.length / 2 ∧ okB r j = true) (fun j => r.length / 2 - j) 0 [] [] ?_ ⟨Nat.zero_le _, rfl⟩ ?_
    ·exact kE
     all_goals exact gK rfl
    ·rintro j ⟨hj, hok⟩
     have en1 : (2 * (j : Int)).toNat = 2 * j := by omega
     have en2 : (2 * (j : Int) + 1).toNat = 2 * j + 1 := by omega
     rcases Nat.lt_or_ge j (r.length / 2) with hlt | hge
     ·have q1 := DJ yC (r.getD (2 * j) 0) rG (gW hro _)
      have q2 := DJ yC (r.getD (2 * j + 1) 0) rG (gW hro _)
      rw [KX _ (gW hro _)] at q1 q2
      have hr1 := qK (r.getD (2 * j) 0)
      have hr2 := qK (r.getD (2 * j + 1) 0)
      have hv : 0 ≤ nib (r.getD (2 * j) 0) → 0 ≤ nib (r.getD (2 * j + 1) 0) → 16 * nib (r.getD (2 * j) 0) + nib (r.getD (2 * j + 1) 0) = ((prB r j : Nat) : Int) := by
       intro h1 h2
       unfold prB
       omega
      have hpl := yG r j
      cases hp : okP r j
      ·rw [if_neg (by rw [Rq hlt hp]; simp)] at hkk
       unfold okP at hp
       have hp' : nib (r.getD (2 * j) 0) < 0 ∨ nib (r.getD (2 * j + 1) 0) < 0 := by
        rw [← Bool.not_eq_true, Bool.and_eq_true, decide_eq_true_eq, decide_eq_true_eq] at hp
        omega
       rw [hkk]
       rcases hp' with hp' | hp'
       ·exact wR (aI @qR (aI @DK (aI @en1 @en2))) (aI q1 q2) ah
       ·exact wR (aI @qR (aI @DK (aI @en1 @en2))) (aI q1 q2) ah
      ·have hp0 := hp
       unfold okP at hp
       rw [Bool.and_eq_true, decide_eq_true_eq, decide_eq_true_eq] at hp
       have hv := hv hp.1 hp.2
       refine wS (aI @qR (aI @DK (aI @en1 (aI @en2 @hv)))) (aI q1 q2) ?_
       (refine bL (j + 1) [0] [] ⟨hlt, by rw [yE, hok, hp0]; rfl⟩ ?_; refine kL ?_)
       exact aW rfl (by rw [DL, ← dP]; rfl)
     ·have hjn : j = r.length / 2 := by omega
      rw [← hjn, if_pos hok] at hkk
      refine wS (aI @qR @rH) trivial ?_
      refine xY (prs r j) [] [] hkk ?_
      exact kE
   ·rw [if_pos hodd] at hkk
    rw [hkk]
    exact wR (aI @qR @e5) g1 ah
  ·rw [h2] at g1
   have hkk : uP l = some l := by unfold uP; rw [if_neg (by rw [hp]; simp)]
   refine wS @qR g1 ?_
   refine xY l [] [] hkk ?_
   exact kE
def ak (n : Int) : List Nat := (Lib.itoa n).map UInt8.toNat
theorem fD (n : Int) : oct (ak n) := by
 intro b hb
 obtain ⟨c, _, rfl⟩ := List.mem_map.1 hb
 exact c.toNat_lt
theorem Vo (n : Int) : (⟨(Lib.itoa n).toArray⟩ : ByteArray) = sB (ak n) := by
 apply ByteArray.ext
 apply Array.ext'
 simp [sB, ak, Function.comp_def]
theorem aaA (n : Int) (h0 : -9223372036854775808 ≤ n) (h1 : n ≤ 9223372036854775807) : Pg.Good Tryz.prog 75 [.c (.int .i64 n)] (.c (.string (sB (ak n)))) := by
 refine ⟨by kernel_rfl, fun A w cargs hT hA hargs => ?_⟩
 obtain ⟨_, _, rfl, rfl, rfl⟩ := hargs
 refine (Any.strconv_Itoa Tryz.laysM171 n h0 h1 w hT.1).mono ?_
 rintro e w' ⟨rfl, k, os, rfl⟩
 refine ⟨_, ⟨A, fun _ => none, fun _ => none⟩, rfl, by rw [Vo]; rfl, ⟨rfl, rfl, rfl, ?_, fun j hj _ => ?_⟩, ⟨fun g h => .inl h, fun _ _ h => (by cases h), fun _ _ _ h => (by cases h)⟩⟩
 ·rw [Sort.size_grow]; show w.heap.size ≤ w.heap.size + _; omega
 ·exact Sort.heap_grow_old (w.drewN k) os hj
theorem jv (n : Int) (h0 : -9223372036854775808 ≤ n) (h1 : n ≤ 9223372036854775807) : Pg.Good Tryz.prog 41 [.c (.int .i64 n)] (.c (.string (sB (ak n)))) := by
 refine gI oW Tryz.func41 Tryz.results41 ?_
 exact wR trivial (aaA n h0 h1) ah
theorem ajh (n : Int) (h0 : -9223372036854775808 ≤ n) (h1 : n ≤ 9223372036854775807) : Pg.Good Tryz.prog 89 [.c (.int .i64 n)] (.c (.string (sB (ak n)))) := by
 refine gI oW Tryz.func89 Tryz.results89 ?_
 exact wR trivial (aaA n h0 h1) ah
theorem aji (l : List Nat) (c : Nat) (ho : oct l) (hc : c < 256) (hl : l.length ≤ 140737488355328) : Pg.Good Tryz.prog 111 [.c (.string (sB l)), .c (.string (sB [c]))] (.c (.string (sB (trm c l)))) := by
 refine ⟨by kernel_rfl, fun A w cargs hT hA hargs => ?_⟩
 obtain ⟨_, _, rfl, rfl, _, _, rfl, rfl, rfl⟩ := hargs
 refine (Any.strings_TrimSuffix Tryz.lays102 (sB l) (sB [c]) w (by rw [bD]; omega)).mono ?_
 rintro e w' ⟨rfl, rfl⟩
 exact ⟨_, ⟨A, fun _ => none, fun _ => none⟩, rfl, by rw [aeJ l c ho hc]; rfl, Kp.refl _ _ _, ⟨fun g h => .inl h, fun _ _ h => (by cases h), fun _ _ _ h => (by cases h)⟩⟩
theorem ajj (l : List Nat) (c : Nat) (ho : oct l) (hc : c < 256) (hl : l.length ≤ 4294967280) : Pg.Good Tryz.prog 112 [.c (.string (sB l)), .c (.string (sB [c]))]
  (.tup [.c (.string (sB (bef c l))), .c (.string ⟨(Lib.cut (sB l).data.toList (sB [c]).data.toList).2.1.toArray⟩), .c (.bool (Lib.cut (sB l).data.toList (sB [c]).data.toList).2.2)]) := by
 refine ⟨by kernel_rfl, fun A w cargs hT hA hargs => ?_⟩
 obtain ⟨_, _, rfl, rfl, _, _, rfl, rfl, rfl⟩ := hargs
 obtain ⟨m, hm⟩ := hT.2.1
 refine (Any.strings_Cut Tryz.lays145 (sB l) (sB [c]) m w (by rw [bD]; omega) hm).mono ?_
 rintro e w' ⟨rfl, k, rfl⟩
 exact ⟨_, ⟨A, fun _ => none, fun _ => none⟩, rfl, ⟨_, rfl, _, _, rfl, by rw [aiC l c ho hc]; rfl, _, _, rfl, rfl, _, _, rfl, rfl, rfl⟩, ⟨rfl, rfl, rfl, Nat.le_refl _, fun _ _ _ => rfl⟩, ⟨fun g h => .inl h, fun _ _ h => (by cases h), fun _ _ _ h => (by cases h)⟩⟩
theorem afj {L : Lay} {w : World} (l : List (List Nat)) : RepE L w 1 (sv l) (l.map fun x => Value.string (sB x)) := by
 induction l with
 | nil => rfl
 | cons a l ih => exact ⟨.string (sB a), _, by simp [Value.cells], rfl, ⟨rfl, rfl⟩, rfl, ih⟩
theorem aaB (l : List Nat) (c : Nat) (ho : oct l) (hc : c < 256) (hl : l.length ≤ 4294967280) : Pg.Good Tryz.prog 110 [.c (.string (sB l)), .c (.string (sB [c]))] (.sl (.own 0 9) 1 (sv (spl c l))) := by
 refine ⟨by kernel_rfl, fun A w cargs hT hA hargs => ?_⟩
 obtain ⟨_, _, rfl, rfl, _, _, rfl, rfl, rfl⟩ := hargs
 obtain ⟨m, hm⟩ := hT.2.1
 have hn := Lib.splitB_all (sB [c]) (by rw [bD]; simp) 0 _ (sB l) rfl
 have hs := Zy l c ho hc
 have hk : Lib.countB (sB l) (sB [c]) + 1 = (spl c l).length := by rw [← hn, hs, List.length_map]
 have hlen := Ih c l
 refine (Any.strings_Split Tryz.lays146 (by kernel_rfl) (sB l) (sB [c]) m w (by rw [bD]; omega) hm (by rw [bD]; simp)).mono ?_
 rintro e w' ⟨rfl, rfl⟩
 refine ⟨_, ⟨A, fun j => if j = 0 then some w.heap.size else none, fun _ => none⟩, rfl, ⟨some ⟨w.heap.size, 0, none⟩, (spl c l).length, (spl c l).map fun x => Value.string (sB x), by rw [hk, au], afj _, ?_⟩, Kp.alloc (Kp.refl _ _ _) (Nat.le_refl _) _, ⟨fun g h => .inl h, fun j g h => ?_, fun i j g h h' => ?_⟩⟩
 ·refine .inr ⟨w.heap.size, _, rfl, rfl, heap_alloc_new w _, by rw [au]; exact Nat.le_refl _, by unfold maxLen; omega, ?_, ?_⟩
  ·rw [hs]; simp
  ·rw [hs, au, Nat.mul_one]
   simp only [List.map_map, Function.comp_def]
   exact List.take_of_length_le (by simp)
 ·simp only at h
  split at h
  ·simp only [Option.some.injEq] at h
   subst h
   exact ⟨Nat.le_refl _, by simp, fun h => by have := hA _ h; omega⟩
  ·cases h
 ·simp only at h h'
  split at h
  ·split at h'
   ·omega
   ·cases h'
  ·cases h
theorem KY {L : Lay} {w : World} : ∀ (l : List (List Nat)) (us : List Value), RepE L w 1 (sv l) us → us = l.map fun x => Value.string (sB x) := by
 intro l
 induction l with
 | nil => intro us h; exact h
 | cons a l ih =>
  rintro us ⟨u, r, rfl, _, _, h, hr⟩
  have hu : u = .string (sB a) := h
  subst hu
  rw [ih r hr]
  rfl
theorem kK (l : List (List Nat)) (hl : (jn l).length ≤ 140737488355328) (hn : l.length ≤ 140737488355328) : Pg.Good Tryz.prog 46 [fzs l, vs [32]] (vs (jn l)) := by
 refine ⟨by kernel_rfl, fun A w cargs hT hA hargs => ?_⟩
 obtain ⟨_, _, rfl, ⟨a, cap, cells, rfl, hr, hm⟩, _, _, rfl, rfl, rfl⟩ := hargs
 have hc := KY l cells hr
 subst hc
 rw [au] at hm ⊢
 obtain ⟨h0, h1⟩ := hm
 rcases h1 with h1 | ⟨g, o, rfl, hg, hrow⟩
 ·have : l = [] := List.eq_nil_of_length_eq_zero h1
  subst this
  refine (Any.strings_Join_none Tryz.lays156 Tryz.Builder_Extra_156 a cap (sB [32]) w).mono ?_
  rintro e w' ⟨rfl, rfl⟩
  exact ⟨_, ⟨A, fun _ => none, fun _ => none⟩, rfl, rfl, Kp.refl _ _ _, ⟨fun g h => .inl h, fun _ _ h => (by cases h), fun _ _ _ h => (by cases h)⟩⟩
 ·have hlen : (l.map sB).length = l.length := by simp
  have hj : (Lib.join ((l.map sB).map (·.data.toList)) (sB [32]).data.toList).length ≤ 140737488355328 := by
   have h2 := congrArg ByteArray.size (Rf l)
   rw [bD] at h2
   have h3 : (Lib.join ((l.map sB).map (·.data.toList)) (sB [32]).data.toList).length = (jn l).length := by rw [← h2]; simp [ByteArray.size]
   omega
  have := Any.strings_Join Tryz.lays156 Tryz.Builder_Extra_156 g o cap (l.map sB) (sB [32]) w (fun j x hx => by
   refine hrow.cell (j := j) ?_
   rw [List.getElem?_map] at hx ⊢
   cases h4 : l[j]? with
   | none => rw [h4] at hx; cases hx
   | some y => rw [h4] at hx; simp only [Option.map_some, Option.some.injEq] at hx ⊢; rw [hx]) (hA g hg) (by omega) (by omega) hj
  rw [hlen] at this
  refine this.mono ?_
  rintro e w' ⟨rfl, hb⟩
  refine ⟨_, ⟨A, fun _ => none, fun _ => none⟩, rfl, by rw [Rf]; rfl, ⟨hb.os, hb.tape, hb.output, hb.size, fun k h _ => hb.block k h⟩, ⟨fun g h => .inl h, fun _ _ h => (by cases h), fun _ _ _ h => (by cases h)⟩⟩
def okc (c : Nat) : Bool := c == 10 || bt c 32 126
def nl : V := .c (.slice none 0 0)
theorem alK : (⟨#[10]⟩ : ByteArray) = sB [10] := by rfl
theorem aaC (a : List Nat) (ha : oct a) : decide (sB a = sB []) = decide (a = []) := sJ ha dV
def Iy (l : List Nat) : V := if 65536 < l.length then .tup [nl, .c (.int .i64 11)] else if l.all okc = false then .tup [nl, .c (.int .i64 1)] else if l = [] then .tup [nl, .c (.int .i64 0)] else .tup [.sl (.own 0 9) 1 (sv (spl 10 (trm 10 l))), .c (.int .i64 0)]
theorem afk {l : List Nat} {c : Nat} (ho : oct l) : oct (trm c l) ∧ (trm c l).length ≤ l.length := by
 unfold trm
 split
 ·exact ⟨fun b hb => ho b ((List.dropLast_sublist l).mem hb), by simp⟩
 ·exact ⟨ho, Nat.le_refl _⟩
theorem aha {c : Nat} : okc c = false ↔ c ≠ 10 ∧ (c < 32 ∨ 126 < c) := by
 unfold okc bt
 rw [Bool.or_eq_false_iff, Bool.and_eq_false_iff, decide_eq_false_iff_not, decide_eq_false_iff_not, beq_eq_false_iff_ne]
 omega
theorem ajk (l : List Nat) (ho : oct l) : Pg.Good Tryz.prog 65 [.c (.string (sB l))] (Iy l) := by
 refine gI oW Tryz.func65 Tryz.results65 ?_
 unfold Iy nl
 rcases Nat.lt_or_ge 65536 l.length with h | h
 ·rw [if_pos h]
  exact wR trivial trivial ah
 rw [if_neg (by omega)]
 refine wS trivial trivial ?_
 refine aK (fun i => mkA [(0, .c (.string (sB l))), (10, .c (.int .i64 l.length)), (11, .c (.int .i64 (i : Nat)))] [] 0 (fun _ => .top)) (fun i => i ≤ l.length ∧ (l.take i).all okc = true) (fun i => l.length - i) 0 [] [] ?_ ⟨Nat.zero_le _, rfl⟩ ?_
 ·exact kE
 ·rintro i ⟨hi, hall⟩
  rcases Nat.lt_or_ge i l.length with hlt | hge
  ·have hcb := gW ho i
   cases hok : okc (l.getD i 0)
   ·rw [vS hlt hok, if_pos rfl]
    have hc' := aha.1 hok
    exact wR trivial trivial ah
   ·have hc' : ¬ (l.getD i 0 ≠ 10 ∧ (l.getD i 0 < 32 ∨ 126 < l.getD i 0)) := fun h' => by rw [← aha, hok] at h'; cases h'
    (repeat' first | refine wP trivial trivial ?_ | refine tS ?_ ?_ <;> intro hc | fail)
    all_goals exact bE (i + 1) [] [] ⟨hlt, jQ hlt hall hok⟩
  ·have hil : i = l.length := by omega
   subst hil
   rw [List.take_length] at hall
   rw [hall, if_neg (by simp)]
   by_cases hz : l = []
   ·rw [if_pos hz]
    exact wR (aI @qR (aI (aaC l ho) @hz)) trivial ah
   ·rw [if_neg hz]
    obtain ⟨h1, h2⟩ := afk (c := 10) ho
    exact wR (aI @qR (aI @alK (aI (aaC l ho) @hz))) (aI (aji l 10 ho (by omega) (by omega)) (aaB (trm 10 l) 10 h1 (by omega) (by omega))) (ids [0])
theorem BQ (l : List (List Nat)) (x : List Nat) : sv l ++ [V.c (.string (sB x))] = sv (l ++ [x]) := by simp [sv]
theorem alL : (⟨#[35]⟩ : ByteArray) = sB [35] := by rfl
theorem alM : (⟨#[32]⟩ : ByteArray) = sB [32] := by rfl
theorem afl {l : List Nat} {c : Nat} (ho : oct l) : oct (bef c l) := fun b hb => ho b (Q8 c l b hb).1
theorem alO {w : List Nat} (hn : w ≠ []) : [w].filter yj = [w] := by
 have : yj w = true := by rw [aeK]; exact decide_eq_true hn
 rw [List.filter_cons, if_pos this]; rfl
theorem Vp {l : List (List Nat)} {i : Nat} (h : i < l.length) (hn : l.getD i [] ≠ []) : (l.take (i + 1)).filter yj = (l.take i).filter yj ++ [l.getD i []] := by
 have g : l.getD i [] = l[i] := by simp [List.getD, h]
 rw [List.take_succ_eq_append_getElem h, List.filter_append, ← g, alO hn]
theorem Vq {l : List (List Nat)} {i : Nat} (h : i < l.length) (hn : l.getD i [] = []) : (l.take (i + 1)).filter yj = (l.take i).filter yj := by
 have g : l.getD i [] = l[i] := by simp [List.getD, h]
 rw [List.take_succ_eq_append_getElem h, List.filter_append, ← g, hn]
 simp [yj]
theorem aaD (l : List (List Nat)) (i : Nat) : ((l.take i).filter yj).length ≤ l.length := by
 have := List.length_filter_le yj (l.take i)
 simp at this
 have h2 := List.length_filter_le yj (l.take i)
 rw [List.length_take] at h2
 omega
theorem ajl (l : List Nat) (ho : oct l) (hl : l.length ≤ 4294967280) : Pg.Good Tryz.prog 66 [.c (.string (sB l))] (.sl (.own 0 9) 1 (sv (fld l))) := by
 refine gI oW Tryz.func66 Tryz.results66 ?_
 have a1 := ajj l 35 ho (by omega) hl
 have hbl := aeL 35 l
 have a2 := aaB (bef 35 l) 32 (afl ho) (by omega) (by omega)
 have hsl := Ih 32 (bef 35 l)
 have hpo : ∀ p ∈ spl 32 (bef 35 l), oct p := fun p hp b hb => ho b (Q8 35 l b (aeH 32 _ p hp b hb).1).1
 unfold fld
 generalize hxs : spl 32 (bef 35 l) = xs at a2 hsl hpo
 refine wS (aI @alL @alM) (aI a1 a2) ?_
 refine aK (fun i => mkA [(3, .sl (.own 1 9) 1 (sv ((xs.take i).filter yj))), (13, .sl (.own 0 9) 1 (sv xs)), (14, .c (.int .i64 xs.length)), (15, .c (.int .i64 (i : Nat)))] [] 2 (fun _ => .top)) (fun i => i ≤ xs.length) (fun i => xs.length - i) 0 [0] [] ?_ (Nat.zero_le _) ?_
 ·exact kE
  all_goals exact gK rfl
 ·intro i hi
  have hfl := aaD xs i
  rcases Nat.lt_or_ge i xs.length with hlt | hge
  ·have hpi : oct (xs.getD i []) := by
    have g : xs.getD i [] = xs[i] := by simp [List.getD, hlt]
    rw [g]; exact hpo _ (List.getElem_mem hlt)
   by_cases hn : xs.getD i [] = []
   ·refine wS (aI @qR (aI @iK (aI (aaC _ hpi) @hn))) trivial ?_
    (refine bL (i + 1) [0, 1] [] hlt ?_; refine kL ?_)
    all_goals exact aW rfl (by rw [Vq hlt hn])
   ·refine wS (aI @qR (aI @iK (aI (aaC _ hpi) (aI @hn @BQ)))) trivial ?_
    (refine bL (i + 1) [0, 1] [] hlt ?_; refine kL ?_)
    all_goals exact aW rfl (by rw [Vp hlt hn])
  ·have hil : i = xs.length := by omega
   subst hil
   rw [List.take_length]
   exact wR trivial trivial (ids [1])
theorem aaE : ∀ d, d < 16 → nib (hx d) = d := by decide
theorem alP (l : List Nat) (ho : oct l) (t : Nat) (ht : t < l.length) : (jh l).getD (2 * t) 0 = hx (l.getD t 0 / 16) ∧ (jh l).getD (2 * t + 1) 0 = hx (l.getD t 0 % 16) := by
 induction l generalizing t with
 | nil => simp at ht
 | cons a l ih =>
  have e : jh (a :: l) = hx (a / 16) :: hx (a % 16) :: jh l := by simp [jh]
  rw [e]
  cases t with
  | zero => exact ⟨rfl, rfl⟩
  | succ t =>
   have := ih (fun x hx => ho x (by simp [hx])) t (by simpa using ht)
   simpa [List.getD, Nat.mul_add] using this
theorem rt (l : List Nat) (ho : oct l) : okB (jh l) l.length = true ∧ prs (jh l) l.length = l := by
 have h1 : ∀ t, t < l.length → okP (jh l) t = true ∧ prB (jh l) t = l.getD t 0 := by
  intro t ht
  have h2 := alP l ho t ht
  have h3 := gW ho t
  unfold okP prB
  rw [h2.1, h2.2, aaE _ (by omega), aaE _ (by omega)]
  refine ⟨by simp; omega, by omega⟩
 constructor
 ·rw [okB, List.all_eq_true]
  intro t ht
  exact (h1 t (List.mem_range.1 ht)).1
 ·apply List.ext_getElem?
  intro i
  rcases Nat.lt_or_ge i l.length with hi | hi
  ·have := (h1 i hi).2
   simp only [prs, List.getElem?_map, List.getElem?_range hi, Option.map_some, this, List.getD, List.getElem?_eq_getElem hi, Option.getD_some]
  ·rw [List.getElem?_eq_none (by rw [yG]; omega), List.getElem?_eq_none hi]
theorem alQ {l : List Nat} (ho : oct l) (h : (fk l).2 = 0) : pk (fk l).1 = (l, 0) := by
 rw [← aaz _ (Pn ho)]
 have hfk : fk l = ((fk l).1, 0) := by rw [← h]
 unfold fk at h
 cases h1 : fH l
 ·rw [h1] at h; simp at h
 ·cases h2 : kJ l
  ·have e : (fk l).1 = 37 :: jh l := by unfold fk; rw [h1, h2]; rfl
   rw [e] at hfk ⊢
   unfold pkP uP
   have hp : oV (37 :: jh l) [37] = true := (pct _).2 ⟨by simp, rfl⟩
   have hd : (37 :: jh l).drop 1 = jh l := rfl
   have hlen := lq l
   have hr := rt l ho
   rw [hp, if_pos rfl, hd, if_neg (by omega), show (jh l).length / 2 = l.length by omega, hr.1, if_pos rfl, hr.2]
   simp only
   rw [hfk, if_neg (by simp)]
  ·have e : (fk l).1 = l := by unfold fk; rw [h1, h2]; rfl
   rw [e] at hfk ⊢
   unfold pkP uP
   rw [Gh l h2, if_neg (by simp)]
   simp only
   rw [hfk, if_neg (by simp)]
theorem ajm (l : List Nat) : (fk l).1.length ≤ 65 := by
 unfold fk
 cases h1 : fH l
 ·simp
 ·have := BP h1
  have := lq l
  cases h2 : kJ l <;> simp <;> omega
def dd (u : Nat) : List Nat := (Lib.decDigits u).map UInt8.toNat
theorem RD (u : Nat) (h : u < 10) : dd u = [48 + u] := by
 unfold dd Lib.decDigits
 rw [dif_pos h]
 simp
 omega
theorem ahb (u : Nat) (h : 10 ≤ u) : dd u = dd (u / 10) ++ [48 + u % 10] := by
 unfold dd
 rw [Lib.decDigits, dif_neg (by omega)]
 simp
 omega
theorem aaF (l : List Nat) (b : Nat) : dig (l ++ [b]) = 10 * dig l + (b - 48) := by simp [dig]
theorem Gi : ∀ (n u : Nat), u < n → (dd u).all (fun c => bt c 48 57) = true ∧ dig (dd u) = u ∧ 1 ≤ (dd u).length ∧ (1 ≤ u → (dd u).getD 0 0 ≠ 48) ∧ (∀ k, 1 ≤ k → ((dd u).length ≤ k ↔ u < 10 ^ k)) := by
 intro n
 induction n with
 | zero => intro u h; omega
 | succ n ih =>
  intro u hu
  rcases Nat.lt_or_ge u 10 with h | h
  ·rw [RD u h]
   refine ⟨by simp [bt]; omega, by simp [dig], by simp, by intro h1; simp; omega, fun k hk => ?_⟩
   have : 10 ^ 1 ≤ 10 ^ k := Nat.pow_le_pow_right (by omega) hk
   simp
   omega
  ·rw [ahb u h]
   obtain ⟨h1, h2, h3, h4, h5⟩ := ih (u / 10) (by omega)
   refine ⟨?_, ?_, by simp, ?_, fun k hk => ?_⟩
   ·rw [List.all_append, h1]
    simp [bt]
    omega
   ·rw [aaF, h2]; omega
   ·intro _
    have h6 := h4 (by omega)
    have h7 : 0 < (dd (u / 10)).length := by omega
    simp only [List.getD, List.getElem?_append_left h7] at h6 ⊢
    exact h6
   ·rw [List.length_append, List.length_singleton]
    cases k with
    | zero => omega
    | succ k =>
     cases k with
     | zero =>
      constructor
      ·intro h'; omega
      ·intro h'
       have : (10 : Nat) ^ (0 + 1) = 10 := by decide
       omega
     | succ k =>
      have := h5 (k + 1) (by omega)
      rw [Nat.pow_succ]
      omega
theorem uQ (n : Int) : ak n = if n < 0 then 45 :: dd n.natAbs else dd n.toNat := by
 unfold ak Lib.itoa dd
 split <;> simp
theorem Gj (c : Nat) (l : List Nat) : oV (c :: l) [45] = (c == 45) := by
 rw [Bool.eq_iff_iff, F9]
 simp
theorem Vr (n : Int) : aZ (ak n) = if -999999999999 ≤ n ∧ n ≤ 999999999999 then (n, 0) else (0, 1) := by
 rw [uQ]
 have key : ∀ u : Nat, ∀ neg : Bool, (neg = true → 1 ≤ u) → KQ (dd u) neg = !decide (u ≤ 999999999999) := by
  intro u neg hneg
  obtain ⟨h1, h2, h3, h4, h5⟩ := Gi (u + 1) u (by omega)
  have h6 := h5 12 (by omega)
  rw [Bool.eq_iff_iff, DV, Bool.not_eq_true', decide_eq_false_iff_not]
  have h7 : (10 : Nat) ^ 12 = 1000000000000 := by decide
  constructor
  ·rintro (h | h | ⟨h, h'⟩)
   ·omega
   ·omega
   ·rcases Nat.eq_zero_or_pos u with h0 | h0
    ·subst h0
     rw [RD 0 (by omega)] at h'
     rcases h' with h' | h'
     ·simp at h'
     ·have := hneg h'; omega
    ·exact absurd h (h4 h0)
  ·intro h
   exact .inr (.inl (by omega))
 unfold aZ
 by_cases hn : n < 0
 ·rw [if_pos hn]
  obtain ⟨h1, h2, h3, h4, h5⟩ := Gi (n.natAbs + 1) n.natAbs (by omega)
  have hb : uN (45 :: dd n.natAbs) = dd n.natAbs := by unfold uN; rw [Gj]; rfl
  rw [hb, Gj, key _ _ (by intro _; omega), h1, h2]
  by_cases hc : n.natAbs ≤ 999999999999
  ·rw [if_pos (show -999999999999 ≤ n ∧ n ≤ 999999999999 by omega)]
   simp [hc]
   omega
  ·rw [if_neg (show ¬ (-999999999999 ≤ n ∧ n ≤ 999999999999) by omega)]
   simp [hc]
 ·rw [if_neg hn]
  obtain ⟨h1, h2, h3, h4, h5⟩ := Gi (n.toNat + 1) n.toNat (by omega)
  have hp : oV (dd n.toNat) [45] = false := by
   rw [← Bool.not_eq_true, F9]
   rintro ⟨h6, h7⟩
   have := List.all_eq_true.1 h1 ((dd n.toNat).getD 0 0) (by
    simp only [List.getD, List.getElem?_eq_getElem h6, Option.getD_some]
    exact List.getElem_mem h6)
   have := zV this
   omega
  have hb : uN (dd n.toNat) = dd n.toNat := by unfold uN; rw [hp]; rfl
  rw [hb, hp, key _ _ (by intro h; cases h), h1, h2]
  by_cases hc : n.toNat ≤ 999999999999
  ·rw [if_pos (show -999999999999 ≤ n ∧ n ≤ 999999999999 by omega)]
   simp [hc]
   omega
  ·rw [if_neg (show ¬ (-999999999999 ≤ n ∧ n ≤ 999999999999) by omega)]
   simp [hc]
theorem vX (n : Int) (h0 : -9223372036854775808 ≤ n) (h1 : n ≤ 9223372036854775807) : (ak n).length ≤ 20 := by
 rw [uQ]
 split
 ·have := ((Gi (n.natAbs + 1) n.natAbs (by omega)).2.2.2.2 19 (by omega)).2 (by
   have : (10 : Nat) ^ 19 = 10000000000000000000 := by decide
   omega)
  simp only [List.length_cons]
  omega
 ·have := ((Gi (n.toNat + 1) n.toNat (by omega)).2.2.2.2 19 (by omega)).2 (by
   have : (10 : Nat) ^ 19 = 10000000000000000000 := by decide
   omega)
  omega
theorem jH (n : Int) (j : Nat) (hj : j ≤ 62) : bits .and .i64 n (2 ^ j - 1) = n % 2 ^ j := by
 have hb : IntKind.i64.bits = 64 := rfl
 have e1 : (BitVec.ofInt 64 (2 ^ j - 1)).toNat = 2 ^ j - 1 := by
  have hle : (2 : Nat) ^ j ≤ 2 ^ 62 := Nat.pow_le_pow_right (by omega) hj
  have h1 : ((2 : Int) ^ j - 1) = ((2 ^ j - 1 : Nat) : Int) := by
   have : 0 < (2 : Nat) ^ j := Nat.two_pow_pos j
   rw [Int.natCast_sub (by omega)]
   simp
  rw [h1, BitVec.toNat_ofInt]
  rw [show ((2 ^ 64 : Nat) : Int) = 18446744073709551616 from rfl]
  omega
 have e2 : (((BitVec.ofInt 64 n).toNat % 2 ^ j : Nat) : Int) = n % 2 ^ j := by
  rw [BitVec.toNat_ofInt, Int.natCast_emod, Int.toNat_of_nonneg (Int.emod_nonneg _ (by decide))]
  have : ((2 ^ 64 : Nat) : Int) = 2 ^ j * 2 ^ (64 - j) := by
   rw [← Int.pow_add, show j + (64 - j) = 64 by omega]
   rfl
  rw [show (((2 ^ j : Nat)) : Int) = 2 ^ j by simp, this]
  exact Int.emod_emod_of_dvd n ⟨_, rfl⟩
 show IntKind.i64.wrap (((BitVec.ofInt 64 n &&& BitVec.ofInt 64 (2 ^ j - 1)).toNat : Nat) : Int) = _
 rw [BitVec.toNat_and, e1, Nat.and_two_pow_sub_one_eq_mod, e2]
 have h0 : 0 ≤ n % 2 ^ j := Int.emod_nonneg _ (by have : (0 : Int) < 2 ^ j := Int.pow_pos (by decide); omega)
 have h1 : n % 2 ^ j < 2 ^ j := Int.emod_lt_of_pos _ (Int.pow_pos (by decide))
 have h2 : (2 : Int) ^ j ≤ 2 ^ 62 := by
  have := Nat.pow_le_pow_right (n := 2) (by omega) hj
  exact_mod_cast this
 have h3 : (2 : Int) ^ 62 = 4611686018427387904 := rfl
 exact Y2 _ (by omega) (by omega)
theorem ajn (n : Int) : bits .and .i64 n 255 = n % 256 := jH n 8 (by decide)
theorem anN (n : Int) : bits .and .i64 n 15 = n % 16 := jH n 4 (by decide)
def afm (l : List Nat) : Nat → List V
 | 0 => [.c (.pointer none), nls]
 | i + 1 => [.ref 0 0, .sl (.own 0 5) 1 (bv (jh (l.take (i + 1))))]
theorem anO (l : List Nat) : afm l 0 = [.c (.pointer none), nls] := rfl
theorem alR (l : List Nat) (i : Nat) : afm l (i + 1) = [.ref 0 0, .sl (.own 0 5) 1 (bv (jh (l.take (i + 1))))] := rfl
def fb (l : List Nat) : List Nat := if l.length = 0 then [45] else jh l
theorem k45 : (⟨#[45]⟩ : ByteArray) = sB [45] := rfl
theorem nM (l : List Nat) (ho : oct l) (hl : l.length ≤ 1000000) : Pg.Good Tryz.prog 44 [fzb l] (vs (fb l)) := by
 refine gI oW Tryz.func44 Tryz.results44 ?_
 unfold fb
 by_cases h0 : l.length = 0
 ·rw [if_pos h0]
  exact wR (aI @ax (aI @h0 @k45)) trivial ah
 ·rw [if_neg h0]
  have hb := ax l
  refine wS (aI @ax @h0) trivial ?_
  refine aK (fun i => mkA [(3, .ref 0 0), (9, fzb l), (10, vi l.length), (11, vi (i : Nat))] [(0, (115, afm l i))] 1 (fun _ => .top)) (fun i => i ≤ l.length) (fun i => l.length - i) 0 [] [0] ?_ (Nat.zero_le _) ?_
  ·exact kE
   all_goals first | exact ⟨of_eq_true (eY _ _ _), of_eq_true (eY _ _ _), trivial⟩ | skip
  ·intro i hi
   replace hi : i ≤ l.length := hi
   rcases Nat.lt_or_ge i l.length with hlt | hge
   ·have hg := HY l i hlt
    have hc := gW ho i
    have hn := zU hlt
    have hx1 := lq (l.take i)
    have hx2 : (l.take i).length ≤ i := by simp; omega
    generalize l.getD i 0 = c at hg hc hn
    cases i with
    | zero =>
     (repeat' first | refine wP (aI @hg (aI @anO (aI @ax (aI @DK (aI @aal (aI @Ro @aam)))))) trivial ?_ | refine cZ (Pi _ _ _ _ 0 _ _ _ _ rfl (.inr rfl) (by simp)) ?_ | refine cZ (Rz _ _ _ _ _ _ _ rfl (.inl rfl)) ?_ | refine tS ?_ ?_ <;> intro hc | fail)
     (refine bL (0 + 1) [2] [0] hlt ?_; refine kL ?_)
     all_goals exact aW rfl (by rw [hn]; rfl)
    | succ i =>
     (repeat' first | refine wP (aI @hg (aI @alu (aI @alR (aI @ax (aI @DK (aI @aal (aI @Ro @aam))))))) trivial ?_ | refine cZ (Pi _ _ _ _ 0 0 _ _ _ rfl (.inr rfl) (by first | omega | (simp only [List.length_append, List.length_cons, List.length_nil]; omega))) ?_ | refine tS ?_ ?_ <;> intro hc | fail)
     (refine bL (i + 1 + 1) [0] [0] hlt ?_; refine kL ?_)
     all_goals exact aW rfl (by rw [hn])
   ·have hil : i = l.length := by omega
    cases i with
    | zero => omega
    | succ i =>
     have hx1 := lq l
     have hbl : afm l (i + 1) = [.ref 0 0, .sl (.own 0 5) 1 (bv (jh l))] := by rw [alR, hil, List.take_length]
     (repeat' first | refine wP (aI @hbl @ax) trivial ?_ | refine cZ (aak _ _ _ _ 0 0 _ _ rfl (by omega) (yD _)) ?_ | refine tS ?_ ?_ <;> intro hc | fail)
     exact rE []
def aH : List (List Nat) := [[], [99, 114, 101, 97, 116, 101], [100, 114, 111, 112], [114, 101, 110, 97, 109, 101], [108, 105, 115, 116], [113, 117, 101, 114, 121], [105, 110, 115, 101, 114, 116], [109, 101, 114, 103, 101], [99, 111, 109, 112, 97, 114, 101], [111, 112, 101, 110], [114, 101, 97, 100], [99, 108, 111, 115, 101], [99, 117, 114, 115, 111, 114], [110, 101, 120, 116], [101, 110, 100], [101, 120, 112, 111, 114, 116], [105, 109, 112, 111, 114, 116], [99, 111, 108, 108, 101, 99, 116]]
def kN : List (List Nat) := [[], [116, 97, 108, 108, 121], [99, 111, 117, 110, 116, 109, 105, 110], [108, 111, 103, 108, 111, 103], [116, 111, 112], [102, 114, 101, 113, 117, 101, 110, 116], [114, 97, 110, 107, 115]]
def gu : List (List Nat) := [[], [116, 111, 116, 97, 108], [112, 111, 105, 110, 116], [114, 101, 103, 105, 115, 116, 101, 114, 115], [100, 105, 115, 116, 105, 110, 99, 116], [116, 111, 112], [114, 97, 110, 107], [113, 117, 97, 110, 116, 105, 108, 101]]
def yM : List (List Nat) := [[], [99, 97, 108, 108], [112, 105, 99, 107], [99, 97, 110, 99, 101, 108]]
theorem aaG (e : Nat → V) (b : Nat → Option (TypeId × List V)) (n : Nat) (h : Nat → V) : bV Tryz.prog ⟨e, b, n, h⟩ 23 18 [(0, V.c (.string ⟨#[]⟩)), (1, V.c (.string ⟨#[99, 114, 101, 97, 116, 101]⟩)), (2, V.c (.string ⟨#[100, 114, 111, 112]⟩)), (3, V.c (.string ⟨#[114, 101, 110, 97, 109, 101]⟩)), (4, V.c (.string ⟨#[108, 105, 115, 116]⟩)), (5, V.c (.string ⟨#[113, 117, 101, 114, 121]⟩)), (6, V.c (.string ⟨#[105, 110, 115, 101, 114, 116]⟩)), (7, V.c (.string ⟨#[109, 101, 114, 103, 101]⟩)), (8, V.c (.string ⟨#[99, 111, 109, 112, 97, 114, 101]⟩)), (9, V.c (.string ⟨#[111, 112, 101, 110]⟩)), (10, V.c (.string ⟨#[114, 101, 97, 100]⟩)), (11, V.c (.string ⟨#[99, 108, 111, 115, 101]⟩)), (12, V.c (.string ⟨#[99, 117, 114, 115, 111, 114]⟩)), (13, V.c (.string ⟨#[110, 101, 120, 116]⟩)), (14, V.c (.string ⟨#[101, 110, 100]⟩)), (15, V.c (.string ⟨#[101, 120, 112, 111, 114, 116]⟩)), (16, V.c (.string ⟨#[105, 109, 112, 111, 114, 116]⟩)), (17, V.c (.string ⟨#[99, 111, 108, 108, 101, 99, 116]⟩))] = some (.sl (.own n 9) 1 (sv aH), ⟨e, b, n + 1, h⟩) := by
 rw [eG, qQ, Option.bind_some, x8, Option.bind_some, xZ, Option.bind_some]
 rfl
theorem aN : Pg.Good Tryz.prog 39 [] (.sl (.own 0 9) 1 (sv aH)) := by
 refine gI oW Tryz.func39 Tryz.results39 ?_
 exact wR' @aaG trivial (ids [0])
theorem aaH (e : Nat → V) (b : Nat → Option (TypeId × List V)) (n : Nat) (h : Nat → V) : bV Tryz.prog ⟨e, b, n, h⟩ 23 7 [(0, V.c (.string ⟨#[]⟩)), (1, V.c (.string ⟨#[116, 97, 108, 108, 121]⟩)), (2, V.c (.string ⟨#[99, 111, 117, 110, 116, 109, 105, 110]⟩)), (3, V.c (.string ⟨#[108, 111, 103, 108, 111, 103]⟩)), (4, V.c (.string ⟨#[116, 111, 112]⟩)), (5, V.c (.string ⟨#[102, 114, 101, 113, 117, 101, 110, 116]⟩)), (6, V.c (.string ⟨#[114, 97, 110, 107, 115]⟩))] = some (.sl (.own n 9) 1 (sv kN), ⟨e, b, n + 1, h⟩) := by
 rw [eG, qQ, Option.bind_some, x8, Option.bind_some, xZ, Option.bind_some]
 rfl
theorem lG : Pg.Good Tryz.prog 76 [] (.sl (.own 0 9) 1 (sv kN)) := by
 refine gI oW Tryz.func76 Tryz.results76 ?_
 exact wR' @aaH trivial (ids [0])
theorem Po (e : Nat → V) (b : Nat → Option (TypeId × List V)) (n : Nat) (h : Nat → V) : bV Tryz.prog ⟨e, b, n, h⟩ 23 8 [(0, V.c (.string ⟨#[]⟩)), (1, V.c (.string ⟨#[116, 111, 116, 97, 108]⟩)), (2, V.c (.string ⟨#[112, 111, 105, 110, 116]⟩)), (3, V.c (.string ⟨#[114, 101, 103, 105, 115, 116, 101, 114, 115]⟩)), (4, V.c (.string ⟨#[100, 105, 115, 116, 105, 110, 99, 116]⟩)), (5, V.c (.string ⟨#[116, 111, 112]⟩)), (6, V.c (.string ⟨#[114, 97, 110, 107]⟩)), (7, V.c (.string ⟨#[113, 117, 97, 110, 116, 105, 108, 101]⟩))] = some (.sl (.own n 9) 1 (sv gu), ⟨e, b, n + 1, h⟩) := by
 rw [eG, qQ, Option.bind_some, x8, Option.bind_some, xZ, Option.bind_some]
 rfl
theorem iH : Pg.Good Tryz.prog 78 [] (.sl (.own 0 9) 1 (sv gu)) := by
 refine gI oW Tryz.func78 Tryz.results78 ?_
 exact wR' @Po trivial (ids [0])
theorem yN : Pg.Good Tryz.prog 61 [] (.sl (.own 0 9) 1 (sv yM)) := by
 refine gI oW Tryz.func61 Tryz.results61 ?_
 exact wR trivial trivial (ids [0])
def kw (l : List Nat) : List Nat := if (fk l).2 = 0 then (fk l).1 else [45]
theorem uS (l : List Nat) (ho : oct l) : Pg.Good Tryz.prog 45 [vs l] (vs (kw l)) := by
 have h := aan l ho
 unfold fkV at h
 unfold kw
 refine gI oW Tryz.func45 Tryz.results45 ?_
 by_cases h0 : (fk l).2 = 0
 ·rw [h0] at h
  rw [if_pos h0]
  exact wR trivial h ah
 ·have h1 : ((fk l).2 : Int) ≠ 0 := by omega
  rw [if_neg h0]
  exact wR @k45 h ah
theorem dQ (e : Nat → V) (bx : Nat → Option (TypeId × List V)) (n : Nat) (h : Nat → V) (b id : Nat) (tg : Tag) (xs ys : List (List Nat)) (hb : bx b = some (23, [.sl (.own id 9) 1 (sv xs)])) (hl : xs.length + ys.length ≤ 1000000) (ht : Tag.is id tg = false) :
  GoodZ Tryz.prog 40 [.sl tg 1 (sv ys), .ref b 0] ⟨e, bx, n, h⟩ ⟨lX (aJ id) e, upd (sH (aJ id) bx) b (some (23, [.sl (.own id 9) 1 (sv (xs ++ ys))])), max n (id + 1), lX (aJ id) h⟩ (.tup []) := by
 have hx := au xs
 have hy := au ys
 refine gZ oW Tryz.func40 Tryz.results40 ?_
 refine wS (aI @iQ (aI @dm (aI @bI (aI @hb @Oa)))) trivial ?_
 refine lh (vN _ _) ?_
 rw [Ir, Iu, dJ, dK]
def lL : List (List Nat × Int) → List (List Nat)
 | [] => []
 | x :: l => kw x.1 :: ak x.2 :: lL l
theorem aaI (a b : List (List Nat × Int)) : lL (a ++ b) = lL a ++ lL b := by
 induction a with
 | nil => rfl
 | cons x a ih => simp only [List.cons_append, lL, ih]
theorem Gl (l : List (List Nat × Int)) (i : Nat) (x : List Nat × Int) (hx : l[i]? = some x) : lL (l.take (i + 1)) = lL (l.take i) ++ [kw x.1, ak x.2] := by
 have hi := (List.getElem?_eq_some_iff.1 hx).1
 rw [List.take_succ_eq_append_getElem hi, aaI, (List.getElem?_eq_some_iff.1 hx).2]
 rfl
theorem yO (l : List (List Nat × Int)) : (lL l).length = 2 * l.length := by
 induction l with
 | nil => rfl
 | cons x l ih => simp only [lL, List.length_cons, ih]; omega
def qU (o : O) : List (List Nat) := [[105, 110, 115, 101, 114, 116], o.name, fb o.coins] ++ lL o.items
theorem zZ (l : List Nat) : (kw l).length ≤ 65 := by
 unfold kw
 split
 ·exact ajm l
 ·simp
theorem ajo {l : List Nat} (ho : oct l) : oct (kw l) := by
 unfold kw
 split
 ·exact Pn ho
 ·exact nK (by omega)
theorem uT (l : List Nat) : (fb l).length ≤ 2 * l.length + 1 := by
 unfold fb
 split
 ·simp
 ·rw [lq]; omega
theorem ajp (l : List Nat) : oct (fb l) := by
 unfold fb
 split
 ·exact nK (by omega)
 ·exact yD l
def Wt (n : Int) : Prop := -9223372036854775808 ≤ n ∧ n ≤ 9223372036854775807
theorem yQ (l : List (List Nat × Int)) (hw : ∀ x ∈ l, Wt x.2) : tot (lL l) ≤ l.length * 100 := by
 induction l with
 | nil => simp [lL, dL]
 | cons x l ih =>
  have h1 := zZ x.1
  have h2 := vX x.2 (hw x (by simp)).1 (hw x (by simp)).2
  have h3 := ih fun y hy => hw y (by simp [hy])
  simp only [lL, bz, List.length_cons]
  omega
theorem KZ : (sv aH)[6]? = some (.c (.string (sB [105, 110, 115, 101, 114, 116]))) := rfl
theorem k32 : (⟨#[32]⟩ : ByteArray) = sB [32] := rfl
theorem La (o : O) (ho : o.Oct) (hk : o.kind = 6) (hv : vop o = 0) (hc : o.coins.length ≤ 1000) (hn : o.name.length ≤ 1000) (hi : o.items.length ≤ 1000) (hw : ∀ x ∈ o.items, Wt x.2) :
  Pg.Good Tryz.prog 13 [.agg (opF o)] (.tup [vs (jn (qU o)), vi 0]) := by
 have h1 := dH o ho
 rw [hv] at h1
 have hfb := nM o.coins ho.2.2.2.2.1 (by omega)
 have hoi := ho.2.2.2.1
 have htot := yQ o.items hw
 have hfl := uT o.coins
 have hjl : (jn (qU o)).length ≤ 1000000 := by
  have h2 := xg (qU o)
  have h3 : tot (qU o) = 6 + 1 + (o.name.length + 1 + ((fb o.coins).length + 1 + tot (lL o.items))) := by simp [qU, bz]
  omega
 have hnl : (qU o).length ≤ 1000000 := by
  have h2 : (qU o).length = (lL o.items).length + 3 := by simp [qU]
  have h3 := yO o.items
  omega
 have hjo := kK (qU o) (by omega) (by omega)
 unfold qU at hjo
 unfold qU
 obtain ⟨kind, name, other, names, pk, pz, pd, ps, items, coins, exp, src, hnd, idx, cur, cnt, qk, qkey, qc, qn, qd, data⟩ := o
 simp only at hk hv hc hn hi hw hfb hoi hjo ⊢
 subst hk
 refine gI oD Tryz.func13 Tryz.results13 ?_
 have hsl : (sv aH).length = 18 := rfl
 clear htot hfl hjl hnl
 have hil := aB items
 (repeat' first | refine wPA (aI @KZ (aI @ai (aI @au (aI @aB (aI @List.append_eq.{0} (aI @List.cons_append.{0} (aI @List.nil_append.{0} (aI @List.length_cons.{0} @List.length_nil.{0})))))))) (aI h1 (aI aN hfb)) ?_ | refine cY (dQ _ _ _ _ _ _ _ [_] [_, _] rfl (by simp) rfl) ?_ | refine cAZ (dQ _ _ _ _ _ _ _ [_] [_, _] rfl (by simp) rfl) ?_ | refine tS ?_ ?_ <;> intro hc | fail)
 generalize hpre : ([[105, 110, 115, 101, 114, 116], name, fb coins] : List (List Nat)) = pre at hjo ⊢
 have hpl : pre.length = 3 := by rw [← hpre]; rfl
 refine aK (fun i : Nat => mkA [(1, .ref 0 0), (5, .ref 1 0), (6, .fn 40 [] [.ref 1 0]), (7, .fn 41 [] []), (75, fzt items), (76, vi items.length), (77, vi i)] [(0, (32, opF ⟨6, name, other, names, pk, pz, pd, ps, items, coins, exp, src, hnd, idx, cur, cnt, qk, qkey, qc, qn, qd, data⟩)), (1, (23, [.sl (.own 0 9) 1 (sv (pre ++ lL (items.take i)))]))] 2 (fun _ => .top)) (fun i => i ≤ items.length) (fun i => items.length - i) 0 [6] [0, 7] ?_ (Nat.zero_le _) ?_
 ·(refine iy ?_ ?_ (kD _ _ _) (by decide) (by decide) (by decide) (by decide); (repeat' (first | exact trivial | refine gJ _ _ rfl rfl ?_ ?_)); all_goals (try simp only [pgs, pgl, pgx, pgf, pgw, fQ, ig, fU, iq, dB, eY, fJ, pgn, simprocAttr]); all_goals (try (repeat' (first | apply aI))); all_goals (try (first | exact trivial | exact gB (by omega) | exact gq rfl | exact aW rfl rfl | exact je rfl)))
  all_goals first | exact pR rfl rfl | (exact aW rfl (by rw [← hpre]; rfl))
 ·intro i hi
  replace hi : i ≤ items.length := hi
  rcases Nat.lt_or_ge i items.length with hlt | hge
  ·have hg := sS items i hlt
   have hx := getD_some items i ([], 0) hlt
   have hmem : items.getD i ([], 0) ∈ items := by rw [List.getD_eq_getElem?_getD, List.getElem?_eq_getElem hlt]; exact List.getElem_mem hlt
   have ho1 := hoi _ hmem
   have hw1 := hw _ hmem
   have hnx := Gl items i _ hx
   have hln : (lL (items.take i)).length = 2 * (items.take i).length := yO _
   have hlt2 : (items.take i).length ≤ i := by simp; omega
   generalize items.getD i ([], 0) = x at hg hx hmem ho1 hw1 hnx
   obtain ⟨k, n⟩ := x
   simp only at ho1 hw1 hnx
   (repeat' (first | (simp (disch := first | exact dqz | fail) only [pgz, simprocAttr, pga, hg, ai, au, aB]) | ((with_reducible show gU _ _ _ _ _ _); first | refine aP _ (uS k ho1) rfl rfl rfl rfl ?_ | refine aP _ (jv n hw1.1 hw1.2) rfl rfl rfl rfl ?_ | refine yg _ (dQ _ _ _ _ _ 0 _ _ [_, _] rfl (by simp only [List.length_append, List.length_cons, List.length_nil]; omega) rfl) rfl ?_) | ((with_reducible show nz _ _ _ _ _ _ _); first | refine dZ _ (uS k ho1) rfl rfl rfl rfl rfl (Nat.le_of_ble_eq_true rfl) ?_ | refine dZ _ (jv n hw1.1 hw1.2) rfl rfl rfl rfl rfl (Nat.le_of_ble_eq_true rfl) ?_ | refine oO _ (dQ _ _ _ _ _ 0 _ _ [_, _] rfl (by simp only [List.length_append, List.length_cons, List.length_nil]; omega) rfl) rfl ?_) | ((with_reducible first | apply di | apply bK | apply eX) <;> intro hc <;> (try simp only [hc]) <;> (try simp only [pgd] at hc)) | (with_reducible refine vP (by kernel_rfl) ?_) | ((with_reducible show sN _ _ _ _ _); first | refine oP (by decide +kernel) ?_ | refine oQ (by decide +kernel) ?_) | (with_reducible refine cK ?_)))
   (refine bC (i + 1) [0] [0, 1] (hlt) (by first | omega | (simp only [List.length_cons]; omega)) ?_; (refine iy ?_ ?_ (kD _ _ _) (by decide) (by decide) (by decide) (by decide); (repeat' (first | exact trivial | refine gJ _ _ rfl rfl ?_ ?_)); all_goals (try simp only [pgs, pgl, pgx, pgf, pgw, fQ, ig, fU, iq, dB, eY, fJ, pgn, simprocAttr]); all_goals (try (repeat' (first | apply aI))); all_goals (try (first | exact trivial | exact gB (by omega) | exact gq rfl | exact aW rfl rfl | exact je rfl))))
   all_goals first | exact pR rfl rfl | (exact aW rfl (by rw [hnx, List.append_assoc]))
  ·have : i = items.length := by omega
   subst this
   rw [List.take_length]
   refine wSA (aI @aB @k32) hjo ?_
   (refine rT [] ?_; first | rfl | simp only [pgo, simprocAttr] | skip)
   rw [← hpre]; rfl
abbrev rdC (l : List (List Nat)) (bad : Bool) : List V := [fzs l, vb bad]
theorem ajq (w : List Nat) (l : List (List Nat)) : slV Tryz.prog 23 (fzs (w :: l)) (some (vi 1)) none = some (fzs l) := by
 rw [Dk]
 simp only [bdV, Option.bind_some, qQ, ak8]
 rw [if_pos ⟨trivial, by omega, by rw [au]; simp; omega, by omega⟩]
 simp [sv]
 exact List.take_of_length_le (by simp)
theorem vY (e : Nat → V) (bx : Nat → Option (TypeId × List V)) (n : Nat) (h : Nat → V) (b : Nat) (w : List Nat) (l : List (List Nat)) (bad : Bool) (hb : bx b = some (108, rdC (w :: l) bad)) (hl : l.length ≤ 1000000000) :
  GoodZ Tryz.prog 93 [.ref b 0] ⟨e, bx, n, h⟩ ⟨e, upd bx b (some (108, rdC l bad)), n, h⟩ (vs w) := by
 have hx : (sv (w :: l)).length = l.length + 1 := au _
 have hg : (sv (w :: l))[0]? = some (vs w) := rfl
 refine gZ oW Tryz.func93 Tryz.results93 ?_
 refine wS (aI @iQ (aI @dm (aI @bI (aI @hb (aI @hx (aI @hg @ajq)))))) trivial ?_
 refine lh (aG _ _ _) ?_
 rw [dJ, dK]
theorem afn (e : Nat → V) (bx : Nat → Option (TypeId × List V)) (n : Nat) (h : Nat → V) (b : Nat) (bad : Bool) (hb : bx b = some (108, rdC [] bad)) :
  GoodZ Tryz.prog 93 [.ref b 0] ⟨e, bx, n, h⟩ ⟨e, upd bx b (some (108, rdC [] true)), n, h⟩ (vs []) := by
 have hx : (sv []).length = 0 := au _
 refine gZ oW Tryz.func93 Tryz.results93 ?_
 refine wS (aI @iQ (aI @dm (aI @bI (aI @hb (aI @hx @ai))))) trivial ?_
 refine lh (aG _ _ _) ?_
 rw [dJ, dK]
theorem Aa (e : Nat → V) (bx : Nat → Option (TypeId × List V)) (n : Nat) (h : Nat → V) (b : Nat) (w : List Nat) (l : List (List Nat)) (hb : bx b = some (108, rdC (w :: l) false)) (hl : l.length ≤ 1000000000) (ho : oct w) (hw : w.length ≤ 1000000) (hp : (aZ w).2 = 0) :
  GoodZ Tryz.prog 98 [.ref b 0] ⟨e, bx, n, h⟩ ⟨e, upd bx b (some (108, rdC l false)), n, h⟩ (vi (aZ w).1) := by
 have hn := aaf w ho (by omega)
 unfold Ry at hn
 rw [hp] at hn
 refine gZ oW Tryz.func98 Tryz.results98 ?_
 (repeat' first | refine wP (aI @iQ (aI @dm (aI @bI @hb))) hn ?_ | refine cZ (vY _ _ _ _ b w l false hb hl) ?_ | refine tS ?_ ?_ <;> intro hc | fail)
 refine lh (aG _ _ _) ?_
 rw [dJ, dK, jG]
theorem jI (l : List Nat) (h : (l.all fun b => decide (b < 256)) = true) : oct l := fun b hb => by simpa using List.all_eq_true.1 h b hb
theorem ajr {a c : List Nat} (ha : oct a) (hc : oct c) (h : a ≠ c) : decide (sB a = sB c) = false := by rw [sJ ha hc]; exact decide_eq_false h
theorem DY (a : ByteArray) : decide (a = a) = true := decide_eq_true rfl
theorem yR (e : Nat → V) (bx : Nat → Option (TypeId × List V)) (n : Nat) (h : Nat → V) (b : Nat) (w : List Nat) (l : List (List Nat)) (tg : Tag) (L : List (List Nat)) (k : Nat) (hb : bx b = some (108, rdC (w :: l) false)) (hl : l.length ≤ 1000000000) (ho : oct w) (hLo : ∀ x ∈ L, oct x) (hLl : L.length ≤ 1000)
  (hk : 1 ≤ k ∧ k < L.length) (hw : L.getD k [] = w) (hne : ∀ j, j < k → 1 ≤ j → L.getD j [] ≠ w) :
  GoodZ Tryz.prog 92 [.ref b 0, .sl tg 1 (sv L)] ⟨e, bx, n, h⟩ ⟨e, upd bx b (some (108, rdC l false)), n, h⟩ (vi k) := by
 have hx := au L
 refine gZ oW Tryz.func92 Tryz.results92 ?_
 (repeat' first | refine wP (aI @iQ (aI @dm (aI @bI @hb))) trivial ?_ | refine cZ (vY _ _ _ _ b w l false hb hl) ?_ | refine tS ?_ ?_ <;> intro hc | fail)
 refine OM (fun i : Nat => [(0, .ref b 0), (1, .sl tg 1 (sv L)), (5, vs w), (6, vi i)]) (fun _ => upd bx b (some (108, rdC l false))) (fun _ => n) (fun i => 1 ≤ i ∧ i ≤ k) (fun i => k - i) 1 ?_ (fun _ => .inl rfl) (Nat.le_refl _) ⟨Nat.le_refl _, hk.1⟩ ?_
 ·((try simp only [kF, lQ, lD, mf, pgo, simprocAttr, and_true, true_and]); try (repeat' (first | exact trivial | rfl | apply aI)))
 ·rintro i ⟨h1, h2⟩
  have hlt : i < L.length := by omega
  have hg := iK L i hlt
  have hoi : oct (L.getD i []) := hLo _ (by rw [List.getD_eq_getElem?_getD, List.getElem?_eq_getElem hlt]; exact List.getElem_mem hlt)
  by_cases hik : i = k
  ·subst hik
   rw [hw] at hg
   refine wS (aI @hg (aI @hx (aI @DY @dm))) trivial ?_
   refine lh (aG _ _ _) ?_
   rw [dJ, dK]
  ·have hni := ajr hoi ho (hne i (by omega) h1)
   generalize L.getD i [] = v at hg hoi hni
   refine wS (aI @hg (aI @hx @hni)) trivial ?_
   refine Dz (i + 1) ⟨by omega, by omega⟩ (by omega) ?_ (fun _ => .inl rfl) (Nat.le_refl _)
   ((try simp only [kF, lQ, lD, mf, pgo, simprocAttr, and_true, true_and]); try (repeat' (first | exact trivial | rfl | apply aI)))
theorem pw {α : Type} {n : Nat} {f g bx : Nat → Option α} (h : ∀ c, c < n → f c = g c) (h2 : ∀ c, n ≤ c → f c = bx c) : ∀ c, f c = g c ∨ f c = none ∨ (n ≤ c ∧ f c = bx c) := by
 intro c
 rcases Nat.lt_or_ge c n with hc | hc
 ·exact .inl (h c hc)
 ·exact .inr (.inr ⟨hc, h2 c hc⟩)
abbrev op0 (k : Int) : List V := [vi k, vs [], vs [], nls, vi 0, vi 0, vi 0, vu 0, nls, nls, vi 0, vi 0, vi 0, vi 0, vi 0, vi 0, vi 0, vs [], vi 0, vi 0, vi 0, nls]
theorem Pq : ∀ x ∈ aH, oct x := by
 intro x hx
 have : ∀ x ∈ aH, (x.all fun b => decide (b < 256)) = true := by decide
 intro b hb
 simpa using List.all_eq_true.1 (this x hx) b hb
theorem aaJ (e : Nat → V) (bx : Nat → Option (TypeId × List V)) (n : Nat) (h : Nat → V) (b : Nat) (hb : bx b = some (108, rdC [[108, 105, 115, 116]] false)) (hbn : b < n) :
  GoodZ Tryz.prog 54 [.ref b 0] ⟨e, bx, n, h⟩ ⟨e, upd bx b (some (108, rdC [] false)), n + 10, h⟩ (.agg (op0 4)) := by
 have hne : ∀ j, j < 4 → 1 ≤ j → aH.getD j [] ≠ [108, 105, 115, 116] := by decide
 have d1 : ¬ n = b := by omega
 have d2 : ¬ b = n := by omega
 have d3 : ¬ n = n + 1 + 1 := by omega
 have d4 : ¬ n + 1 + 1 = n := by omega
 have d5 : ¬ n + 1 + 1 = b := by omega
 have d6 : ¬ b = n + 1 + 1 := by omega
 have key : ∃ bx' n', GoodZ Tryz.prog 54 [.ref b 0] ⟨e, bx, n, h⟩ ⟨e, bx', n', h⟩ (.agg (op0 4)) ∧ n' ≤ n + 10 ∧ ∀ c, upd bx b (some (108, rdC [] false)) c = bx' c ∨ upd bx b (some (108, rdC [] false)) c = none ∨ (n ≤ c ∧ upd bx b (some (108, rdC [] false)) c = bx c) := by
  apply Exists.intro; apply Exists.intro
  refine ⟨?_, ?_⟩
  ·refine gZ oW Tryz.func54 Tryz.results54 ?_
   (repeat' first | refine wP (aI @iQ (aI @dm (aI @bI (aI @hb (aI @ai (aI @d1 (aI @d2 (aI @d3 (aI @d4 (aI @d5 @d6)))))))))) aN ?_ | refine cZ (yR _ _ _ _ b [108, 105, 115, 116] [] _ aH 4 (by simp only [upd]; rw [if_neg (by omega)]; exact hb) (by simp) (jI _ rfl) Pq (by decide) (by decide) rfl hne) ?_ | refine tS ?_ ?_ <;> intro hc | fail)
   (refine lh (by first | exact aG _ _ _ | exact jq _ _ _ _ | (simp (disch := first | assumption | omega | (simp only [Fits, maxLen, pgq] at *; omega)) only [pgr, pgo, tyf, simprocAttr, d1, d2, d3, d4, d5, d6, hb]; done) | (simp (disch := first | assumption | omega | (simp only [Fits, maxLen, pgq] at *; omega)) only [pgr, pgo, tyf, simprocAttr, d1, d2, d3, d4, d5, d6, hb]; rfl)) ?_; rw [dJ, dK])
  ·refine ⟨by omega, ?_⟩
   exact pw (fun c hc => by simp only [upd]; (repeat' split) <;> first | rfl | omega) (fun c hc => by simp only [upd]; rw [if_neg (by omega)])
 obtain ⟨bx', n', h1, h2, h3⟩ := key
 exact h1.le h2 h3
def O0 (k : Int) : O := ⟨k, [], [], [], 0, 0, 0, 0, [], [], 0, 0, 0, 0, 0, 0, 0, [], 0, 0, 0, []⟩
theorem ajs (k : Int) : (O0 k).Oct := ⟨dV, dV, (fun _ h => by cases h), (fun _ h => by cases h), dV, dV, dV⟩
theorem aaK : vop (O0 4) = 0 := by decide
theorem Vs : Pg.Good Tryz.prog 38 [.agg (op0 4)] (vi 0) := by
 have h := dH (O0 4) (ajs 4)
 rw [aaK] at h
 refine h.wk ⟨.inr ⟨_, _, rfl, rfl, ?_⟩, trivial⟩
 (repeat' (first | exact trivial | refine iV (.inl rfl) ?_ | refine iV (oq _ _) ?_))
theorem Lc : Pg.Good Tryz.prog 15 [fzs [[108, 105, 115, 116]]] (.tup [.agg (op0 4), vi 0]) := by
 have hv := Vs
 refine gI oW Tryz.func15 Tryz.results15 ?_
 (repeat' first | refine wP @ai hv ?_ | refine cZ (aaJ _ _ _ _ 1 rfl (by omega)) ?_ | refine tS ?_ ?_ <;> intro hc | fail)
 exact rE []
abbrev ev1 : List V := [vi 2, vi 1] ++ op0 0
abbrev ev2 : List V := [vi 1, vi 0] ++ op0 4
theorem RF : ∀ x ∈ yM, oct x := by
 intro x hx
 have : ∀ x ∈ yM, (x.all fun b => decide (b < 256)) = true := by decide
 intro b hb
 simpa using List.all_eq_true.1 (this x hx) b hb
theorem ajt : aZ [49] = (1, 0) := by decide
theorem aju : aZ [48] = (0, 0) := by decide
theorem aaL : Pg.Good Tryz.prog 67 [fzs [[112, 105, 99, 107], [49]]] (.tup [.agg ev1, vi 0]) := by
 refine gI oW Tryz.func67 Tryz.results67 ?_
 (repeat' (first | (simp (disch := first | exact dqz | fail) only [pgz, simprocAttr, Tryz.f67, ai, ajt]) | ((with_reducible show gU _ _ _ _ _ _); first | refine cU yN ?_ | refine nT _ (yR _ _ _ _ 1 [112, 105, 99, 107] [[49]] _ yM 2 rfl (by simp) (jI _ rfl) RF (by decide) (by decide) rfl (by decide)) rfl ?_ | refine nT _ (Aa _ _ _ _ 1 [49] [] rfl (by simp) (jI _ rfl) (by decide) rfl) rfl ?_) | ((with_reducible first | apply di | apply bK | apply eX) <;> intro hc <;> (try simp only [hc]) <;> (try simp only [pgd] at hc)) | (with_reducible refine cK ?_)))
 (refine rT [] ?_; first | rfl | simp only [pgo, simprocAttr] | skip)
theorem aaM : Pg.Good Tryz.prog 67 [fzs [[99, 97, 108, 108], [48], [108, 105, 115, 116]]] (.tup [.agg ev2, vi 0]) := by
 have h0 := Lc
 refine gI oW Tryz.func67 Tryz.results67 ?_
 (repeat' (first | (simp (disch := first | exact dqz | fail) only [pgz, simprocAttr, Tryz.f67, ai, aju]) | ((with_reducible show gU _ _ _ _ _ _); first | refine cU yN ?_ | refine cU h0 ?_ | refine nT _ (yR _ _ _ _ 1 [99, 97, 108, 108] [[48], [108, 105, 115, 116]] _ yM 1 rfl (by simp) (jI _ rfl) RF (by decide) (by decide) rfl (by decide)) rfl ?_ | refine nT _ (Aa _ _ _ _ 1 [48] [[108, 105, 115, 116]] rfl (by simp) (jI _ rfl) (by decide) rfl) rfl ?_) | ((with_reducible first | apply di | apply bK | apply eX) <;> intro hc <;> (try simp only [hc]) <;> (try simp only [pgd] at hc)) | (with_reducible refine cK ?_)))
 (refine rT [] ?_; first | rfl | simp only [pgo, simprocAttr] | skip)
def kT : List Nat := [112, 105, 99, 107, 32, 49, 10, 35, 32, 110, 111, 116, 104, 105, 110, 103, 10, 99, 97, 108, 108, 32, 48, 32, 108, 105, 115, 116]
theorem ajv : oct kT := jI _ rfl
abbrev kL1 : List Nat := [112, 105, 99, 107, 32, 49]
abbrev kL2 : List Nat := [35, 32, 110, 111, 116, 104, 105, 110, 103]
abbrev kL3 : List Nat := [99, 97, 108, 108, 32, 48, 32, 108, 105, 115, 116]
theorem aaN : Iy kT = .tup [.sl (.own 0 9) 1 (sv [kL1, kL2, kL3]), vi 0] := by
 unfold Iy
 rw [if_neg (by decide), if_neg (by decide), if_neg (by decide)]
 rfl
theorem kF1 : fld kL1 = [[112, 105, 99, 107], [49]] := by decide
theorem kF2 : fld kL2 = [] := by decide
theorem kF3 : fld kL3 = [[99, 97, 108, 108], [48], [108, 105, 115, 116]] := by decide
theorem aaO : Pg.Good Tryz.prog 65 [vs kT] (.tup [.sl (.own 0 9) 1 (sv [kL1, kL2, kL3]), vi 0]) := by
 have h := ajk kT ajv
 rw [aaN] at h
 exact h
theorem DZ (l : List Nat) (hl : l.length ≤ 1000) (f : List (List Nat)) (hf : fld l = f) (ho : (l.all fun b => decide (b < 256)) = true) : Pg.Good Tryz.prog 66 [vs l] (.sl (.own 0 9) 1 (sv f)) := by
 have h := ajl l (jI _ ho) (by omega)
 rw [hf] at h
 exact h
def evV : Nat → V
 | 0 => nls
 | 1 => .sl (.own 1 69) 24 [.agg ev1]
 | 2 => .sl (.own 1 69) 24 [.agg ev1]
 | _ => .sl (.own 1 69) 24 [.agg ev1, .agg ev2]
theorem afo : evV 0 = nls := rfl
theorem afp : evV 1 = .sl (.own 1 69) 24 [.agg ev1] := rfl
theorem afq : evV 2 = .sl (.own 1 69) 24 [.agg ev1] := rfl
theorem afr : evV 3 = .sl (.own 1 69) 24 [.agg ev1, .agg ev2] := rfl
theorem aaP : Pg.Good Tryz.prog 28 [vs kT] (.tup [.sl (.own 0 69) 24 [.agg ev1, .agg ev2], vi 0, vi 0]) := by
 have f1 := DZ kL1 (by decide) _ kF1 rfl
 have f2 := DZ kL2 (by decide) _ kF2 rfl
 have f3 := DZ kL3 (by decide) _ kF3 rfl
 have hs : (sv [kL1, kL2, kL3]).length = 3 := rfl
 have hg0 : (sv [kL1, kL2, kL3])[0]? = some (vs kL1) := rfl
 have hg1 : (sv [kL1, kL2, kL3])[1]? = some (vs kL2) := rfl
 have hg2 : (sv [kL1, kL2, kL3])[2]? = some (vs kL3) := rfl
 refine gI oW Tryz.func28 Tryz.results28 ?_
 refine wS @hs aaO ?_
 refine aK (fun i : Nat => mkA [(2, evV i), (19, .sl (.own 0 9) 1 (sv [kL1, kL2, kL3])), (20, vi 3), (21, vi i)] [] 2 (fun _ => .top)) (fun i => i ≤ 3) (fun i => 3 - i) 0 [0] [] ?_ (Nat.zero_le _) ?_
 ·exact kE
 ·intro i hi
  have hi4 : i = 0 ∨ i = 1 ∨ i = 2 ∨ i = 3 := by omega
  rcases hi4 with rfl | rfl | rfl | rfl
  ·refine wS (aI @hs (aI @hg0 (aI @hg1 (aI @hg2 (aI @afo (aI @afp (aI @afq (aI @afr (aI @Int.natCast_one (aI @au (aI @List.length_cons.{0} (aI @List.length_nil.{0} (aI @List.cons_append.{0} (aI @List.nil_append.{0} (aI @List.append_eq.{0} @ai))))))))))))))) (aI f1 aaL) ?_
   exact bE (0 + 1) [0, 5] [] ((by omega))
   all_goals exact aW rfl rfl
  ·refine wS (aI @hs (aI @hg0 (aI @hg1 (aI @hg2 (aI @afo (aI @afp (aI @afq (aI @afr (aI @Int.natCast_one (aI @au (aI @List.length_cons.{0} (aI @List.length_nil.{0} (aI @List.cons_append.{0} (aI @List.nil_append.{0} (aI @List.append_eq.{0} @ai))))))))))))))) f2 ?_
   exact bE (1 + 1) [0, 1] [] ((by omega))
   all_goals exact aW rfl rfl
  ·refine wS (aI @hs (aI @hg0 (aI @hg1 (aI @hg2 (aI @afo (aI @afp (aI @afq (aI @afr (aI @Int.natCast_one (aI @au (aI @List.length_cons.{0} (aI @List.length_nil.{0} (aI @List.cons_append.{0} (aI @List.nil_append.{0} (aI @List.append_eq.{0} @ai))))))))))))))) (aI f3 aaM) ?_
   exact bE (2 + 1) [0, 1] [] ((by omega))
   all_goals exact aW rfl rfl
  ·exact wR (aI @hs (aI @hg0 (aI @hg1 (aI @hg2 (aI @afo (aI @afp (aI @afq (aI @afr (aI @Int.natCast_one (aI @au (aI @List.length_cons.{0} (aI @List.length_nil.{0} (aI @List.cons_append.{0} (aI @List.nil_append.{0} (aI @List.append_eq.{0} @ai))))))))))))))) trivial (ids [1])
theorem kc1 : (⟨#[105, 110, 115, 101, 114, 116, 32, 97, 32, 45, 32, 120, 32, 51]⟩ : ByteArray) = sB [105, 110, 115, 101, 114, 116, 32, 97, 32, 45, 32, 120, 32, 51] := rfl
theorem kc2 : (⟨#[112, 105, 99, 107, 32, 49, 10, 35, 32, 110, 111, 116, 104, 105, 110, 103, 10, 99, 97, 108, 108, 32, 48, 32, 108, 105, 115, 116]⟩ : ByteArray) = sB kT := rfl
theorem kc3 : (⟨#[101, 114, 114, 111, 114, 32, 49, 52]⟩ : ByteArray) = sB [101, 114, 114, 111, 114, 32, 49, 52] := rfl
theorem kc4 : (⟨#[101, 114, 114, 111, 114, 32]⟩ : ByteArray) = sB [101, 114, 114, 111, 114, 32] := rfl
theorem ka1 : (⟨#[97]⟩ : ByteArray) = sB [97] := rfl
theorem ka2 : (⟨#[120]⟩ : ByteArray) = sB [120] := rfl
theorem ajw : ak 3 = [51] := by rw [uQ, if_neg (by decide)]; exact RD 3 (by decide)
theorem afs : ak 14 = [49, 52] := by
 rw [uQ, if_neg (by decide)]
 show dd 14 = _
 rw [ahb 14 (by decide), RD (14 / 10) (by decide)]
 rfl
theorem anP : kw [120] = [120] := by decide
def O6 : O := ⟨6, [97], [], [], 0, 0, 0, 0, [([120], 3)], [], 0, 0, 0, 0, 0, 0, 0, [], 0, 0, 0, []⟩
theorem ajx : O6.Oct := ⟨jI _ rfl, dV, (fun _ h => by cases h), (fun x h => by simp [O6] at h; rw [h]; exact jI _ rfl), dV, dV, dV⟩
theorem alS : vop O6 = 0 := by decide
theorem ajy : jn (qU O6) = [105, 110, 115, 101, 114, 116, 32, 97, 32, 45, 32, 120, 32, 51] := by
 have : qU O6 = [[105, 110, 115, 101, 114, 116], [97], [45], kw [120], ak 3] := rfl
 rw [this, anP, ajw]
 rfl
theorem ajz : Pg.Good Tryz.prog 13 [.agg [vi 6, vs [97], vs [], nls, vi 0, vi 0, vi 0, vu 0, fzt [([120], 3)], nls, vi 0, vi 0, vi 0, vi 0, vi 0, vi 0, vi 0, vs [], vi 0, vi 0, vi 0, nls]] (.tup [vs [105, 110, 115, 101, 114, 116, 32, 97, 32, 45, 32, 120, 32, 51], vi 0]) := by
 have h := La O6 ajx rfl alS (by decide) (by decide) (by decide) (fun x hx => by simp [O6] at hx; rw [hx]; exact ⟨by decide, by decide⟩)
 rw [ajy] at h
 refine h.wk ⟨.inr ⟨_, _, rfl, rfl, ?_⟩, trivial⟩
 (repeat' (first | exact trivial | refine iV (.inl rfl) ?_ | refine iV (oq _ _) ?_))
abbrev rsC (e c v h : Int) (nm : V) (a b : Int) (k : List Nat) (nu en : V) (st : Bool) (da : V) : List V := [vi e, vi c, vi v, vi h, nm, vi a, vi b, vs k, nu, en, vb st, da]
theorem Vt (e c v h : Int) (nm : V) (a b : Int) (k : List Nat) (nu en : V) (st : Bool) (da : V) (he : Wt e) (h0 : e ≠ 0) (hnm : nm.erase = nm) (hnu : nu.erase = nu) (hen : en.erase = en) (hda : da.erase = da) :
  Pg.Good Tryz.prog 23 [.agg (rsC e c v h nm a b k nu en st da)] (vs ([101, 114, 114, 111, 114, 32] ++ ak e)) := by
 have hi := jv e he.1 he.2
 have hl := vX e he.1 he.2
 have hs : ([101, 114, 114, 111, 114, 32] : List Nat).length + (ak e).length ≤ 9223372036854775807 := by show 6 + _ ≤ _; omega
 refine gI oW Tryz.func23 Tryz.results23 ?_
 (repeat' (first | (simp (disch := first | exact dqz | fail) only [pgz, simprocAttr, Tryz.f23, h0, kc4, adW _ _ _ _ hs]) | ((with_reducible show gU _ _ _ _ _ _); first | refine cU hi ?_) | ((with_reducible first | apply di | apply bK | apply eX) <;> intro hc <;> (try simp only [hc]) <;> (try simp only [pgd] at hc)) | (with_reducible refine cK ?_)))
 exact rE []
theorem aaQ : Pg.Good Tryz.prog 23 [.agg (rsC 14 0 0 0 nls 0 0 [] nls nls false nls)] (vs [101, 114, 114, 111, 114, 32, 49, 52]) := by
 have h := Vt 14 0 0 0 nls 0 0 [] nls nls false nls ⟨by decide, by decide⟩ (by decide) rfl rfl rfl rfl
 rw [afs] at h
 exact h
theorem aft : Pg.Good Tryz.prog 10 [] (vb true) := by
 have h1 := ajz
 have h2 := aaP
 have h3 := aaQ
 refine gI oW Tryz.func10 Tryz.results10 ?_
 exact wR (aI @kc1 (aI @kc2 (aI @kc3 (aI @ka1 (aI @ka2 (aI @ai (aI @DY (aI @List.length_cons.{0} (aI @List.length_nil.{0} (aI @List.cons_append.{0} (aI @List.nil_append.{0} @List.append_eq.{0}))))))))))) (aI h1 (aI h2 h3)) ah
theorem ahc (P : Program) (t : TypeId) (a b : List Nat) (ha : a.length ≤ 1000000000000) (hb : b.length ≤ 1000000000000) : eu P .add t (.c (.string (sB a))) (.c (.string (sB b))) = some (.c (.string (sB (a ++ b)))) := adW P t a b (by omega)
theorem dR (l : List (List Nat)) (hl : tot l ≤ 100000000) : Pg.Good Tryz.prog 48 [fzs l] (vs (jn l)) := by
 have hx := au l
 have hln := Q9 l
 refine gI oW Tryz.func48 Tryz.results48 ?_
 refine wS @ai trivial ?_
 refine aK (fun i : Nat => mkA [(0, fzs l), (3, vs (jn (l.take i))), (4, vi i)] [] 0 (fun _ => .top)) (fun i => i ≤ l.length) (fun i => l.length - i) 0 [] [] ?_ (Nat.zero_le _) ?_
 ·exact kE
 ·intro i hi
  replace hi : i ≤ l.length := hi
  rcases Nat.lt_or_ge i l.length with hlt | hge
  ·have hg := iK l i hlt
   have h1 : (jn (l.take i)).length ≤ 1000000000 := by have := xg (l.take i); have := KH l i; omega
   have h2 : (l.getD i []).length ≤ 1000000000 := by have := KI l i; omega
   have h3 : (jn (l.take i) ++ [32]).length ≤ 1000000000000 := by simp; omega
   rcases Nat.eq_zero_or_pos i with h0 | h0
   ·subst h0
    have h4 := ZB hlt
    rw [List.take_zero] at h1 ⊢
    generalize l.getD 0 [] = w at hg h2 h4
    have e0 : jn ([] : List (List Nat)) = [] := rfl
    refine wS (aI @hg (aI @e0 (aI @ahc @List.nil_append.{0}))) trivial ?_
    (refine bL (0 + 1) [] [] hlt ?_; refine kL ?_)
    all_goals exact gq (by rw [h4])
   ·have h4 := aeN hlt h0
    generalize l.getD i [] = w at hg h2 h4
    refine wS (aI @hg (aI @k32 @ahc)) trivial ?_
    (refine bL (i + 1) [] [] hlt ?_; refine kL ?_)
    all_goals exact gq (by rw [h4]; simp)
  ·have : i = l.length := by omega
   subst this
   rw [List.take_length]
   exact wR trivial trivial ah
theorem jX (n : Int) (h : Wt n) : Pg.Good Tryz.prog 51 [vi n] (vs (ak n)) := by
 have h1 := ajh n h.1 h.2
 refine gI oW Tryz.func51 Tryz.results51 ?_
 exact wR trivial h1 ah
theorem yT (l : List Nat) (ho : oct l) (hl : l.length ≤ 1000000) : Pg.Good Tryz.prog 52 [fzb l] (vs (fb l)) := by
 have h1 := O5 l ho (by omega)
 have hb := ax l
 unfold fb
 refine gI oW Tryz.func52 Tryz.results52 ?_
 by_cases h0 : l.length = 0
 ·rw [if_pos h0]
  exact wR (aI @ax (aI @h0 @k45)) trivial ah
 ·rw [if_neg h0]
  exact wR (aI @ax (aI @h0 @rH)) h1 ah
def env (l : List (List Nat × Int × Int)) : List V := l.map fun x => V.agg [vs x.1, vi x.2.1, vi x.2.2]
structure Rs where
 err : Int
 commit : Int
 version : Int
 handle : Int
 names : List (List Nat)
 value : Int
 error : Int
 key : List Nat
 numbers : List Int
 entries : List (List Nat × Int × Int)
 sat : Bool
 data : List Nat
structure Rs.Ok (r : Rs) : Prop where
 err : Wt r.err
 commit : Wt r.commit
 version : Wt r.version
 handle : Wt r.handle
 names : ∀ x ∈ r.names, oct x
 value : Wt r.value
 error : Wt r.error
 key : oct r.key
 numbers : ∀ n ∈ r.numbers, Wt n
 entries : ∀ x ∈ r.entries, oct x.1 ∧ Wt x.2.1 ∧ Wt x.2.2
 data : oct r.data
structure Rs.Lt (r : Rs) : Prop where
 names : r.names.length ≤ 20
 name : ∀ x ∈ r.names, x.length ≤ 100
 numbers : r.numbers.length ≤ 50
 entries : r.entries.length ≤ 30
 key : r.key.length ≤ 100
 ekey : ∀ x ∈ r.entries, x.1.length ≤ 100
 data : r.data.length ≤ 300
def enW : List (List Nat × Int × Int) → List (List Nat)
 | [] => []
 | x :: l => kw x.1 :: ak x.2.1 :: ak x.2.2 :: enW l
def q0 (r : Rs) : List (List Nat) := [[111, 107], ak r.commit, ak r.version, ak r.handle]
def q1 (r : Rs) : List (List Nat) := if r.names.length = 0 then [] else [110, 97, 109, 101, 115] :: r.names
def q2 (r : Rs) : List (List Nat) := if r.value = 0 then [] else [[118, 97, 108, 117, 101], ak r.value]
def q3 (r : Rs) : List (List Nat) := if r.error = 0 then [] else [[101, 114, 114, 111, 114], ak r.error]
def q4 (r : Rs) : List (List Nat) := if r.key.length = 0 then [] else [[107, 101, 121], kw r.key]
def q5 (r : Rs) : List (List Nat) := if r.numbers.length = 0 then [] else [110, 117, 109, 98, 101, 114, 115] :: r.numbers.map ak
def q6 (r : Rs) : List (List Nat) := if r.entries.length = 0 then [] else [101, 110, 116, 114, 105, 101, 115] :: enW r.entries
def q7 (r : Rs) : List (List Nat) := if r.sat = true then [[115, 97, 116, 117, 114, 97, 116, 101, 100]] else []
def q8 (r : Rs) : List (List Nat) := if r.data.length = 0 then [] else [[100, 97, 116, 97], fb r.data]
end Go.Proofs.YtjiolbcdfgclaaaGreatDoor
section
namespace Go.Proofs.YtjiolbcdfgclaaaGreatDoor
open Go Go.Pg
def kl (a b : List Nat) : Bool := Op.bytesLess (sB a).toList (sB b).toList
theorem rP (a b : List Nat) : Op.bytesLess (sB a).toList (sB b).toList = kl a b := rfl
def octE (l : List En) : Prop := ∀ e ∈ l, oct e.1
theorem lu {l : List En} (h : octE l) (i : Nat) : oct (l.getD i ([], 0, 0)).1 := by
 rcases Nat.lt_or_ge i l.length with hi | hi
 ·have : l.getD i ([], 0, 0) = l[i] := by simp [List.getD, hi]
  rw [this]; exact h _ (List.getElem_mem hi)
 ·have : l.getD i ([], 0, 0) = ([], 0, 0) := by simp [List.getD, hi]
  rw [this]; exact dV
theorem Vu {l : List En} (h : octE l) (n : Nat) : octE (l.take n) := fun e he => h e (List.mem_of_mem_take he)
def bfE (a b : En) : Bool := decide (b.2.1 < a.2.1) || (decide (a.2.1 = b.2.1) && kl a.1 b.1)
theorem Gm (a b : En) : Pg.Good Tryz.prog 202 [.agg [vs a.1, vi a.2.1, vi a.2.2], .agg [vs b.1, vi b.2.1, vi b.2.2]] (vb (bfE a b)) := by
 obtain ⟨k1, c1, e1⟩ := a
 obtain ⟨k2, c2, e2⟩ := b
 unfold bfE
 simp only
 refine gI oW Tryz.func202 Tryz.results202 ?_
 by_cases h1 : c2 < c1
 ·rw [decide_eq_true h1]
  exact wR @rP trivial ah
 ·rw [decide_eq_false h1]
  by_cases h2 : c1 = c2
  ·rw [decide_eq_true h2]
   cases hk : kl k1 k2
   ·exact wR (aI @rP @hk) trivial ah
   ·exact wR (aI @rP @hk) trivial ah
  ·rw [decide_eq_false h2]
   exact wR @rP trivial ah
def Ld (k : List Nat) : Nat → List En → Int
 | _, [] => -1
 | i, e :: l => if e.1 = k then i else Ld k (i + 1) l
def iG (l : List En) (k : List Nat) : Int := Ld k 0 l
theorem aaR (k : List Nat) : ∀ (l : List En) (i : Nat), Ld k i l = -1 ∨ (i : Int) ≤ Ld k i l ∧ Ld k i l < i + l.length := by
 intro l
 induction l with
 | nil => intro i; exact .inl rfl
 | cons e l ih =>
  intro i
  unfold Ld
  split
  ·right; simp only [List.length_cons]; omega
  ·rcases ih (i + 1) with h | h
   ·exact .inl h
   ·right; simp only [List.length_cons]; omega
theorem D5 (l : List En) (k : List Nat) : iG l k = -1 ∨ 0 ≤ iG l k ∧ iG l k < l.length := by
 have := aaR k l 0
 unfold iG
 omega
theorem aaS (l : List En) (i : Nat) (h : i < l.length) : l.drop i = l.getD i ([], 0, 0) :: l.drop (i + 1) := by rw [List.drop_eq_getElem_cons h]; simp [List.getD, h]
theorem Iz (l : List En) (k : List Nat) (hl : octE l) (ho : oct k) (hn : l.length ≤ 1000000) : Pg.Good Tryz.prog 201 [fzv l, vs k] (vi (iG l k)) := by
 have hel := aY l
 refine gI oW Tryz.func201 Tryz.results201 ?_
 refine wS trivial trivial ?_
 refine aK (fun i : Nat => mkA [(0, fzv l), (1, vs k), (5, vi i)] [] 0 (fun _ => .top)) (fun i => i ≤ l.length ∧ iG l k = Ld k i (l.drop i)) (fun i => l.length - i) 0 [] [] ?_ ⟨Nat.zero_le _, rfl⟩ ?_
 ·exact kE
 ·rintro i ⟨hi, he⟩
  rcases Nat.lt_or_ge i l.length with hlt | hge
  ·rw [aaS l i hlt] at he
   have hg := jr l i hlt
   have hox := lu hl i
   generalize l.getD i ([], 0, 0) = x at *
   obtain ⟨xk, xc, xe⟩ := x
   simp only at hg hox
   unfold Ld at he
   have hd := sJ hox ho
   by_cases hx : xk = k
   ·rw [if_pos hx] at he
    rw [he]
    rw [decide_eq_true hx] at hd
    exact wR (aI @aY (aI @hg @hd)) trivial ah
   ·rw [if_neg hx] at he
    rw [decide_eq_false hx] at hd
    refine wS (aI @aY (aI @hg @hd)) trivial ?_
    exact bE (i + 1) [] [] ⟨hlt, he⟩
  ·have : i = l.length := by omega
   subst this
   rw [List.drop_length] at he
   rw [he]
   exact wR @aY trivial ah
section
variable {α : Type}
def qV (bf : α → α → Bool) (x : α) : List α → List α
 | [] => [x]
 | y :: ys => if bf x y = true then y :: qV bf x ys else x :: y :: ys
def Ac (bf : α → α → Bool) : List α → List α → List α
 | acc, [] => acc
 | acc, x :: l => Ac bf (qV bf x acc) l
def srt (bf : α → α → Bool) (l : List α) : List α := (Ac bf [] l).reverse
theorem uU (bf : α → α → Bool) (x : α) (l : List α) : (qV bf x l).length = l.length + 1 := by
 induction l with
 | nil => rfl
 | cons y ys ih => unfold qV; split <;> simp [ih]
theorem aaT (bf : α → α → Bool) (x z : α) (l : List α) : z ∈ qV bf x l ↔ z = x ∨ z ∈ l := by
 induction l with
 | nil => simp [qV]
 | cons y ys ih =>
  unfold qV
  split
  ·simp only [List.mem_cons, ih]
   constructor
   ·rintro (h | h | h) <;> simp [h]
   ·rintro (h | h | h) <;> simp [h]
  ·simp
theorem aaU (bf : α → α → Bool) (l : List α) : ∀ acc, (Ac bf acc l).length = acc.length + l.length := by
 induction l with
 | nil => intro acc; rfl
 | cons x l ih => intro acc; rw [Ac, ih, uU]; simp only [List.length_cons]; omega
theorem aaV (bf : α → α → Bool) (z : α) (l : List α) : ∀ acc, z ∈ Ac bf acc l ↔ z ∈ acc ∨ z ∈ l := by
 induction l with
 | nil => intro acc; simp [Ac]
 | cons x l ih =>
  intro acc
  rw [Ac, ih, aaT]
  simp only [List.mem_cons]
  constructor
  ·rintro ((h | h) | h) <;> simp [h]
  ·rintro (h | h | h) <;> simp [h]
theorem RG (bf : α → α → Bool) (l : List α) : (srt bf l).length = l.length := by simp [srt, aaU]
theorem RH (bf : α → α → Bool) (z : α) (l : List α) : z ∈ srt bf l ↔ z ∈ l := by simp [srt, aaV]
def mov (p : List α) (x : α) (t : List α) : List α := p.reverse ++ x :: t
theorem BR (p : List α) (x : α) (t : List α) : (mov p x t).length = p.length + 1 + t.length := by simp [mov]; omega
theorem aaW (p : List α) (x : α) (t : List α) (d : α) : (mov p x t).getD p.length d = x := by simp [mov, List.getD]
theorem RI (y : α) (p : List α) (x : α) (t : List α) (d : α) : (mov (y :: p) x t).getD p.length d = y := by simp [mov, List.getD]
theorem Lh (y : α) (p : List α) (x : α) (t : List α) : ((mov (y :: p) x t).set (p.length + 1) y).set p.length x = mov p x (y :: t) := by
 unfold mov
 have h1 : (y :: p).reverse = p.reverse ++ [y] := by simp
 rw [h1]
 have e1 : p.length = p.reverse.length := by simp
 rw [e1]
 rw [List.append_assoc, List.set_append_right _ _ (by omega), show p.reverse.length + 1 - p.reverse.length = 1 by omega]
 rw [List.set_append_right _ _ (by omega), Nat.sub_self]
 rfl
theorem BU (bf : α → α → Bool) (p : List α) (x : α) (t : List α) (h : p = [] ∨ ∃ y q, p = y :: q ∧ bf x y = false) : (qV bf x p).reverse ++ t = mov p x t := by
 rcases h with rfl | ⟨y, q, rfl, h⟩
 ·simp [qV, mov]
 ·unfold qV
  rw [if_neg (by rw [h]; simp)]
  simp [mov]
theorem aaX (bf : α → α → Bool) (y : α) (p : List α) (x : α) (t : List α) (h : bf x y = true) : (qV bf x (y :: p)).reverse ++ t = (qV bf x p).reverse ++ y :: t := by
 conv => lhs; unfold qV
 rw [if_pos h]
 simp
end
theorem mD {α : Type} (l : List α) (i : Nat) (d : α) (h : i < l.length) : l.drop i = l.getD i d :: l.drop (i + 1) := by rw [List.drop_eq_getElem_cons h]; simp [List.getD, h]
theorem D6 (l : List En) (hn : l.length ≤ 1000000) : Pg.Good Tryz.prog 214 [fzv l] (.sl (.own 0 59) 3 (ev (srt bfE l))) := by
 have hel := aY l
 refine gI oW Tryz.func214 Tryz.results214 ?_
 refine wS trivial trivial ?_
 refine aK (fun x : Nat × List En => mkA [(0, fzv l), (3, .sl (.own 0 59) 3 (ev x.2.reverse)), (4, vi x.1)] [] 1 (fun _ => .top)) (fun x => x.1 ≤ l.length ∧ x.2.length = x.1 ∧ Ac bfE x.2 (l.drop x.1) = Ac bfE [] l) (fun x => l.length - x.1) (0, []) [] [] ?_ ⟨Nat.zero_le _, rfl, rfl⟩ ?_
 ·exact kE
  all_goals first | exact gK rfl | skip
 ·rintro ⟨i, acc⟩ ⟨hi, ha, hs⟩
  simp only at hi ha hs
  have hal : (ev acc.reverse).length = i := by rw [aY, List.length_reverse, ha]
  rcases Nat.lt_or_ge i l.length with hlt | hge
  ·rw [mD l i ([], 0, 0) hlt] at hs
   have hg := jr l i hlt
   generalize l.getD i ([], 0, 0) = x at *
   have hsn : ev acc.reverse ++ [V.agg [vs x.1, vi x.2.1, vi x.2.2]] = ev (mov acc x []) := by rw [sW]; unfold mov; rfl
   have hml : (ev (mov acc x [])).length = i + 1 := by rw [aY, BR, ha]; rfl
   (repeat' (first | (simp (disch := first | exact dqz | fail) only [pgz, simprocAttr, hg, aY, hsn, hml, hal]) | ((with_reducible first | apply di | apply bK | apply eX) <;> intro hc <;> (try simp only [hc]) <;> (try simp only [pgd] at hc)) | (with_reducible refine cK ?_)))
   refine aK (fun y : List En × List En => mkA [(0, fzv l), (3, .sl (.own 0 59) 3 (ev (mov y.1 x y.2))), (4, vi i), (5, vi y.1.length)] [] 1 (fun _ => .top)) (fun y => y.1.length + y.2.length = i ∧ (qV bfE x y.1).reverse ++ y.2 = (qV bfE x acc).reverse) (fun y => y.1.length) (acc, []) [0] [] ?_ ⟨by simp [ha], by simp⟩ ?_
   ·(refine iy ?_ ?_ (kD _ _ _) (by decide) (by decide) (by decide) (by decide); (repeat' (first | exact trivial | refine gJ _ _ rfl rfl ?_ ?_)); all_goals (try simp only [pgs, pgl, pgx, pgf, pgw, fQ, ig, fU, iq, dB, eY, fJ, pgn, simprocAttr]); all_goals (try (repeat' (first | apply aI))); all_goals (try (first | exact trivial | exact gB (by omega) | exact gq rfl | exact aW rfl rfl | exact je rfl)))
    all_goals exact gB (by omega)
   ·rintro ⟨p, t⟩ ⟨hp1, hp2⟩
    simp only at hp1 hp2
    have hmp := BR p x t
    have hmp2 : (ev (mov p x t)).length = i + 1 := by rw [aY, hmp]; omega
    cases p with
    | nil =>
     rw [BU bfE [] x t (.inl rfl)] at hp2
     refine wS @hmp2 trivial ?_
     refine bC (i + 1, qV bfE x acc) [0] [] ⟨hlt, by simp only; rw [uU, ha], by simp only; rw [← hs]; rfl⟩ (by show l.length - (i + 1) < l.length - i; omega) ?_
     refine kL ?_
     all_goals exact aW rfl (by rw [hp2])
    | cons y p =>
     have g1 := jr (mov (y :: p) x t) (p.length + 1) (by rw [hmp]; simp only [List.length_cons]; omega)
     have g2 := jr (mov (y :: p) x t) p.length (by rw [hmp]; simp only [List.length_cons]; omega)
     have m1 : (mov (y :: p) x t).getD (p.length + 1) ([], 0, 0) = x := aaW (y :: p) x t _
     rw [m1] at g1
     rw [RI] at g2
     have hb := Gm x y
     have hi1 : (((y :: p).length : Nat) : Int) = (p.length : Int) + 1 := by simp
     have hi2 : ((p.length : Int) + 1).toNat = p.length + 1 := by omega
     have hi3 : ((p.length : Int) + 1 - 1) = (p.length : Int) := by omega
     cases hbf : bfE x y
     ·rw [BU bfE (y :: p) x t (.inr ⟨y, p, rfl, hbf⟩)] at hp2
      rw [hbf] at hb
      refine wS (aI @hi1 (aI @hi2 (aI @hi3 (aI @hmp2 (aI @g1 @g2))))) hb ?_
      refine bC (i + 1, qV bfE x acc) [0] [] ⟨hlt, by simp only; rw [uU, ha], by simp only; rw [← hs]; rfl⟩ (by show l.length - (i + 1) < l.length - i; omega) ?_
      refine kL ?_
      all_goals exact aW rfl (by rw [hp2])
     ·rw [aaX bfE y p x t hbf] at hp2
      rw [hbf] at hb
      have hsw := Lh y p x t
      have hs1 : (ev (mov (y :: p) x t)).set (p.length + 1) (V.agg [vs y.1, vi y.2.1, vi y.2.2]) = ev ((mov (y :: p) x t).set (p.length + 1) y) := DI _ _ _ _ _
      have hs2 : (ev ((mov (y :: p) x t).set (p.length + 1) y)).set p.length (V.agg [vs x.1, vi x.2.1, vi x.2.2]) = ev (mov p x (y :: t)) := by
       rw [DI]
       exact congrArg ev hsw
      have hl1 : (ev ((mov (y :: p) x t).set (p.length + 1) y)).length = i + 1 := by rw [aY, List.length_set, hmp]; simp only [List.length_cons] at hp1 ⊢; omega
      have hg3 : (ev ((mov (y :: p) x t).set (p.length + 1) y))[p.length]? = some (V.agg [vs y.1, vi y.2.1, vi y.2.2]) := by rw [← hs1, List.getElem?_set_ne (by omega), g2]
      generalize (mov (y :: p) x t).set (p.length + 1) y = mm at hs1 hs2 hl1 hg3
      refine wS (aI @hi1 (aI @hi2 (aI @hi3 (aI @hmp2 (aI @g1 (aI @g2 (aI @hs1 (aI @hs2 (aI @hl1 @hg3))))))))) hb ?_
      refine bC (p, y :: t) [0] [] ⟨by simp only [List.length_cons] at hp1 ⊢; omega, hp2⟩ (by show p.length < (y :: p).length; simp) ?_
      refine kL ?_
      all_goals (simp only [pgo, hs1, hs2]; first | exact trivial | exact aW rfl rfl)
  ·have : i = l.length := by omega
   subst this
   rw [List.drop_length] at hs
   have hs' : acc = Ac bfE [] l := hs
   refine wS @aY trivial ?_
   (refine rT [0] ?_; first | rfl | simp only [pgo, simprocAttr] | skip)
   all_goals (unfold srt; rw [hs']; rfl)
theorem afu (l : List En) : V.flatL (ev l) = true := by
 induction l with
 | nil => rfl
 | cons a l ih => simp only [ev, List.map_cons, V.flatL, V.flat] at ih ⊢; simpa using ih
theorem rQ (id : Nat) (e : TypeId) (k : Nat) (l : List En) : (V.sl (.own id e) k (ev l)).flat = true := afu l
end Go.Proofs.YtjiolbcdfgclaaaGreatDoor
end
namespace Go.Proofs.YtjiolbcdfgclaaaGreatDoor
open Go Go.Pg
def tC (f : Nat → Int) : Nat → Nat → Int
 | 0, _ => 0
 | n + 1, i => if f i ≠ 0 then f i else tC f n (i + 1)
theorem D7 (f : Nat → Int) (n i : Nat) (h : f i ≠ 0) : tC f (n + 1) i = f i := if_pos h
theorem uV (f : Nat → Int) (n i : Nat) (h : f i = 0) : tC f (n + 1) i = tC f n (i + 1) := if_neg (by omega)
theorem D8 (f : Nat → Int) : ∀ n i, tC f n i = 0 → ∀ j, i ≤ j → j < i + n → f j = 0 := by
 intro n
 induction n with
 | zero => intro i _ j h1 h2; omega
 | succ n ih =>
  intro i h j h1 h2
  by_cases hf : f i = 0
  ·rw [uV f n i hf] at h
   rcases Nat.eq_or_lt_of_le h1 with rfl | h3
   ·exact hf
   ·exact ih (i + 1) h j h3 (by omega)
  ·rw [D7 f n i hf] at h; exact absurd h hf
abbrev eD : En := ([], 0, 0)
def Ba (l : List En) (i : Nat) : Int :=
 if fH (l.getD i eD).1 = false then 7
 else if ¬ ((1 ≤ (l.getD i eD).2.1 ∧ (l.getD i eD).2.1 ≤ 1099511627776) ∧ (0 ≤ (l.getD i eD).2.2 ∧ (l.getD i eD).2.2 ≤ (l.getD i eD).2.1 - 1)) then 5
 else if iG (l.take i) (l.getD i eD).1 ≥ 0 then 9
 else if 0 < i ∧ bfE (l.getD (i - 1) eD) (l.getD i eD) = false then 19 else 0
def vTp (t : Tp) : Int := if ¬ ((1 ≤ t.z ∧ t.z ≤ 32) ∧ (0 ≤ t.t ∧ t.t ≤ 1099511627776)) then 5 else if (t.e.length : Int) > t.z then 11 else tC (Ba t.e) t.e.length 0
theorem pX (x : Tp) (ho : octE x.e) (hn : x.e.length ≤ 1000000) : Pg.Good Tryz.prog 158 [.agg (tpF x)] (vi (vTp x)) := by
 obtain ⟨z, t, l, b⟩ := x
 simp only at ho hn
 unfold vTp
 simp only
 have hel := aY l
 by_cases c1 : (1 ≤ z ∧ z ≤ 32) ∧ (0 ≤ t ∧ t ≤ 1099511627776)
 ·rw [if_neg (fun h => h c1)]
  have k1 := aU z 1 32 c1.1
  have k2 := aU t 0 1099511627776 c1.2
  by_cases c2 : (l.length : Int) > z
  ·rw [if_pos c2]
   refine gI oW Tryz.func158 Tryz.results158 ?_
   exact wR @aY (aI k1 k2) ah
  ·rw [if_neg c2]
   refine gI oW Tryz.func158 Tryz.results158 ?_
   refine wS @aY (aI k1 k2) ?_
   generalize hE : tC (Ba l) l.length 0 = E
   refine aK (fun i : Nat => mkA [(1, .ref 0 0), (3, vi i)] [(0, (86, tpF ⟨z, t, l, b⟩))] 1 (fun _ => .top)) (fun i => i ≤ l.length ∧ tC (Ba l) (l.length - i) i = E) (fun i => l.length - i) 0 [] [0] ?_ ⟨Nat.zero_le _, hE⟩ ?_
   ·exact kE
   ·rintro i ⟨hi, he⟩
    rcases Nat.lt_or_ge i l.length with hlt | hge
    ·have hg := jr l i hlt
     have hox := lu ho i
     rw [show l.length - i = (l.length - (i + 1)) + 1 by omega] at he
     have k3 := uH (l.getD i eD).1
     have k4 := Iz (l.take i) (l.getD i eD).1 (Vu ho i) hox (by simp only [List.length_take]; omega)
     have hfr := D5 (l.take i) (l.getD i eD).1
     have htk := ae2 l i
     have et : Ba l i = if fH (l.getD i eD).1 = false then 7 else if ¬ ((1 ≤ (l.getD i eD).2.1 ∧ (l.getD i eD).2.1 ≤ 1099511627776) ∧ (0 ≤ (l.getD i eD).2.2 ∧ (l.getD i eD).2.2 ≤ (l.getD i eD).2.1 - 1)) then 5 else if iG (l.take i) (l.getD i eD).1 ≥ 0 then 9 else if 0 < i ∧ bfE (l.getD (i - 1) eD) (l.getD i eD) = false then 19 else 0 := rfl
     generalize hxx : l.getD i eD = x at *
     have hb := fun y => Gm y x
     obtain ⟨xk, xc, xe⟩ := x
     simp only at hox k3 k4 hfr et hg hb
     have ext : ∀ v : Int, v ≠ 0 → Ba l i = v → v = E := fun v h0 h1 => by rw [D7 _ _ _ (by omega)] at he; omega
     cases q1 : fH xk
     ·rw [q1] at k3 et
      have := ext 7 (by omega) (by rw [et]; rfl)
      subst this
      exact wR (aI @aY @hg) k3 ah
     ·rw [q1] at k3 et
      rw [if_neg (by simp)] at et
      by_cases q2 : (1 ≤ xc ∧ xc ≤ 1099511627776) ∧ (0 ≤ xe ∧ xe ≤ xc - 1)
      ·rw [if_neg (fun h => h q2)] at et
       have k5 := aU xc 1 1099511627776 q2.1
       have k6 := aU xe 0 (xc - 1) q2.2
       by_cases q3 : iG (l.take i) xk ≥ 0
       ·rw [if_pos q3] at et
        have := ext 9 (by omega) et
        subst this
        exact wR (aI @pgv (aI @hg @htk)) (aI k3 (aI k5 (aI k6 k4))) ah
       ·rw [if_neg q3] at et
        by_cases q4 : 0 < i
        ·have hg1 := jr l (i - 1) (by omega)
         have hi1 : ((i : Int) - 1).toNat = i - 1 := by omega
         have hb1 := hb (l.getD (i - 1) eD)
         generalize l.getD (i - 1) eD = y at *
         cases q5 : bfE y (xk, xc, xe)
         ·rw [if_pos ⟨q4, q5⟩] at et
          rw [q5] at hb1
          have := ext 19 (by omega) et
          subst this
          exact wR (aI @pgv (aI @hg (aI @htk (aI @hi1 @hg1)))) (aI k3 (aI k5 (aI k6 (aI k4 hb1)))) ah
         ·rw [if_neg (by rw [q5]; simp)] at et
          rw [q5] at hb1
          rw [uV _ _ _ et] at he
          refine wS (aI @pgv (aI @hg (aI @htk (aI @hi1 @hg1)))) (aI k3 (aI k5 (aI k6 (aI k4 hb1)))) ?_
          exact bE (i + 1) [] [0] ⟨hlt, he⟩
        ·rw [if_neg (by omega)] at et
         rw [uV _ _ _ et] at he
         refine wS (aI @pgv (aI @hg @htk)) (aI k3 (aI k5 (aI k6 k4))) ?_
         exact bE (i + 1) [] [0] ⟨hlt, he⟩
      ·rw [if_pos q2] at et
       have := ext 5 (by omega) et
       subst this
       by_cases q6 : 1 ≤ xc ∧ xc ≤ 1099511627776
       ·have k5 := aU xc 1 1099511627776 q6
        have k6 := fC xe 0 (xc - 1)
        rw [jY (by omega)] at k6
        exact wR (aI @aY @hg) (aI k3 (aI k5 k6)) ah
       ·have k5 := fC xc 1 1099511627776
        rw [jY q6] at k5
        exact wR (aI @aY @hg) (aI k3 k5) ah
    ·have : i = l.length := by omega
     subst this
     rw [Nat.sub_self] at he
     have he0 : 0 = E := he
     subst he0
     exact wR @aY trivial ah
 ·rw [if_pos c1]
  by_cases c2 : 1 ≤ z ∧ z ≤ 32
  ·have k1 := aU z 1 32 c2
   have k2 := fC t 0 1099511627776
   rw [jY (by omega)] at k2
   refine gI oW Tryz.func158 Tryz.results158 ?_
   exact wR trivial (aI k1 k2) ah
  ·have k1 := fC z 1 32
   rw [jY c2] at k1
   refine gI oW Tryz.func158 Tryz.results158 ?_
   exact wR trivial k1 ah
end Go.Proofs.YtjiolbcdfgclaaaGreatDoor
