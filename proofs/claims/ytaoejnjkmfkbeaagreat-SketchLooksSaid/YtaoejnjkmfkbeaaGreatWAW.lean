/-
  Texts of this claim, merged; own names are short.
-/
import Derived.Test.YtaoejnjkmfkbeaaGreatWAV
import Derived.Test.YtaoejnjkmfkbeaaGreatWAU
set_option linter.unusedVariables false
set_option linter.unusedSimpArgs false
set_option linter.unusedSectionVars false
set_option linter.defProp false
set_option maxRecDepth 100000
set_option maxHeartbeats 8000000
namespace Go.Proofs.YtaoejnjkmfkbeaaGreat
open Go Go.Pg
theorem FM {l m : List Nat} {i j : Nat} {t : TypeId} {es es' : List (ByteArray × Value)} (h : (l.contains i && l.idxOf i == j) = true) (hx : es = es') : Gen l m (.mp (.own i t) es) (.mp (.own j t) es') := by
 simp only [Bool.and_eq_true, beq_iff_eq, List.contains_iff_mem] at h
 subst hx
 refine .inr (.inl ⟨by simp [V.any, Tag.notIn, h.1], by simp [V.map, jk, h.2]⟩)
theorem xO {a b : ByteArray} : (a == b) = true ↔ a = b := by
 obtain ⟨a⟩ := a
 obtain ⟨b⟩ := b
 show (a == b) = true ↔ _
 rw [beq_iff_eq]
 exact ⟨fun h => by rw [h], fun h => by cases h; rfl⟩
def rf (l : List En) : Nat → List (ByteArray × Value)
 | 0 => []
 | n + 1 => jg (rf l n) (sB (l.getD n eD).1) (.bool true)
theorem CZ (k a : ByteArray) (v : Value) : ∀ (es : List (ByteArray × Value)) (i : Nat), (kz (jg es a v) k i).map (·.2) = if (k == a) = true then some v else (kz es k i).map (·.2)
 | [], i => by
  show (kz [(a, v)] k i).map (·.2) = _
  unfold kz
  split <;> rfl
 | (b, u) :: es, i => by
  unfold jg
  by_cases h : (a == b) = true
  ·rw [if_pos h]
   have hb : b = a := (xO.1 h).symm
   subst hb
   unfold kz
   by_cases h2 : (k == b) = true
   ·rw [if_pos h2, if_pos h2]; rfl
   ·rw [if_neg h2, if_neg h2, if_neg h2]
  ·rw [if_neg h]
   unfold kz
   by_cases h2 : (k == b) = true
   ·rw [if_pos h2, if_pos h2]
    have hb : k = b := xO.1 h2
    subst hb
    have : ¬ (k == a) = true := fun e => h (xO.2 (xO.1 e).symm)
    rw [if_neg this]
   ·rw [if_neg h2, if_neg h2]
    exact CZ k a v es (i + 1)
theorem G6 (l : List En) (k : List Nat) : bH l k ≥ 0 ↔ ∃ e ∈ l, e.1 = k := by
 have : ∀ (l : List En) (i : Nat), vF k i l ≥ 0 ↔ ∃ e ∈ l, e.1 = k := by
  intro l
  induction l with
  | nil => intro i; simp [vF]
  | cons x l ih =>
   intro i
   unfold vF
   by_cases h : x.1 = k
   ·simp [h]
   ·simp only [h, if_false, ih (i + 1), List.mem_cons, exists_eq_or_imp, false_or]
 exact this l 0
theorem Qn (l : List En) (ho : octE l) (k : List Nat) (hk : oct k) : ∀ n, n ≤ l.length → pX (rf l n) (sB k) = if bH (l.take n) k ≥ 0 then some (.bool true) else none := by
 intro n
 induction n with
 | zero => intro _; rfl
 | succ n ih =>
  intro hn
  have hox := eu ho n
  have e1 : pX (rf l (n + 1)) (sB k) = if (sB k == sB (l.getD n eD).1) = true then some (.bool true) else pX (rf l n) (sB k) := CZ _ _ _ _ _
  rw [e1, ih (by omega)]
  have e2 : (sB k == sB (l.getD n eD).1) = true ↔ (l.getD n eD).1 = k := by
   constructor
   ·intro h; exact (Ox hk hox (xO.1 h)).symm
   ·intro h; rw [h]; exact xO.2 rfl
  have e3 : bH (l.take (n + 1)) k ≥ 0 ↔ ((l.getD n eD).1 = k ∨ bH (l.take n) k ≥ 0) := by
   have : l.take (n + 1) = l.take n ++ [l.getD n eD] := by
    rw [List.take_succ_eq_append_getElem hn]; congr 2; simp [List.getD, show n < l.length from hn]
   rw [G6, G6, this]
   simp only [List.mem_append, List.mem_singleton, or_and_right, exists_or, exists_eq_left]
   exact or_comm
  by_cases h1 : (l.getD n eD).1 = k
  ·rw [if_pos (e2.2 h1), if_pos (e3.2 (.inl h1))]
  ·rw [if_neg (fun h => h1 (e2.1 h))]
   by_cases h2 : bH (l.take n) k ≥ 0
   ·rw [if_pos h2, if_pos (e3.2 (.inr h2))]
   ·rw [if_neg h2, if_neg (fun h => (e3.1 h).elim h1 h2)]
theorem Qo : ug Tryz.prog 217 = some (9, 4) := by kernel_rfl
theorem UT : iM Tryz.prog 4 = some (.bool false) := by kernel_rfl
theorem Yj (x : Tp) (ho : octE x.e) (hn : x.e.length ≤ 1000000) : Pg.Good Tryz.prog 116 [.agg (tpF x)] (vi (vTp x)) := by
 obtain ⟨z, t, l, b⟩ := x
 simp only at ho hn
 unfold vTp
 simp only
 have hel := aj l
 by_cases c1 : (1 ≤ z ∧ z ≤ 32) ∧ (0 ≤ t ∧ t ≤ 1099511627776)
 ·rw [if_neg (fun h => h c1)]
  have k1 := CW z c1.1
  by_cases c2 : (l.length : Int) > z
  ·rw [if_pos c2]
   refine gI oW Tryz.func116 Tryz.results116 ?_
   exact wR @aj k1 ae
  ·rw [if_neg c2]
   refine gI oW Tryz.func116 Tryz.results116 ?_
   refine wS (aI @pgp (aI @Qo (aI @Option.map_some.{0,0} @aj))) k1 ?_
   generalize hE : iG (lD l) l.length 0 = E
   refine aK (fun i : Nat => mkA [(1, .ref 0 0), (3, .mp (.own 0 217) (rf l i)), (28, fzv l), (29, vi l.length), (30, vi i)] [(0, (34, tpF ⟨z, t, l, b⟩))] 1 (fun _ => .top)) (fun i => i ≤ l.length ∧ iG (lD l) (l.length - i) i = E) (fun i => l.length - i) 0 [1] [0] ?_ ⟨Nat.zero_le _, hE⟩ ?_
   ·(refine bZ ?_ ?_ (fC _ _ _) (by decide) (by decide) (by decide) (by decide); (repeat' (first | exact trivial | refine bQ _ _ rfl rfl ?_ ?_)); all_goals (try simp only [pgs, pgl, pgx, pgf, pgw, bI, bV, bJ, bW, dJ, gK, eP, pgn, simprocAttr]); all_goals (try (repeat' (first | apply aI))); all_goals (try (first | exact trivial | exact aX (by omega) | exact dQ rfl | exact aP rfl rfl | exact dK rfl)))
    all_goals first | exact FM rfl rfl | skip
   ·rintro i ⟨hi, he⟩
    rcases Nat.lt_or_ge i l.length with hlt | hge
    ·have hg := dw l i hlt
     have hox := eu ho i
     rw [show l.length - i = (l.length - (i + 1)) + 1 by omega] at he
     have k3 := zg (l.getD i eD).1
     have k4 := Qn l ho (l.getD i eD).1 hox i hi
     have hsm : jg (rf l i) (sB (l.getD i eD).1) (.bool true) = rf l (i + 1) := rfl
     have et : lD l i = if dS (l.getD i eD).1 = false then 7 else if ¬ ((1 ≤ (l.getD i eD).2.1 ∧ (l.getD i eD).2.1 ≤ 1099511627776) ∧ (0 ≤ (l.getD i eD).2.2 ∧ (l.getD i eD).2.2 ≤ (l.getD i eD).2.1 - 1)) then 5 else if bH (l.take i) (l.getD i eD).1 ≥ 0 then 9 else if 0 < i ∧ bfE (l.getD (i - 1) eD) (l.getD i eD) = false then 19 else 0 := rfl
     generalize hxx : l.getD i eD = x at *
     have hb := fun y => Kq y x
     obtain ⟨xk, xc, xe⟩ := x
     simp only at hox k3 k4 et hg hb hsm
     generalize rf l i = M at *
     have ext : ∀ v : Int, v ≠ 0 → lD l i = v → v = E := fun v h0 h1 => by rw [lh _ _ _ (by omega)] at he; omega
     cases q1 : dS xk
     ·rw [q1] at k3 et
      have := ext 7 (by omega) (by rw [et]; rfl)
      subst this
      exact wR (aI @aj @hg) k3 ae
     ·rw [q1] at k3 et
      rw [if_neg (by simp)] at et
      by_cases q2 : (1 ≤ xc ∧ xc ≤ 1099511627776) ∧ (0 ≤ xe ∧ xe ≤ xc - 1)
      ·rw [if_neg (fun h => h q2)] at et
       by_cases q3 : bH (l.take i) xk ≥ 0
       ·rw [if_pos q3] at et k4
        have := ext 9 (by omega) et
        subst this
        exact wR (aI @pgp (aI @Qo (aI @UT (aI @Option.map_some.{0,0} (aI @Option.getD_some.{0} (aI @k4 @hg)))))) k3 ae
       ·rw [if_neg q3] at et k4
        by_cases q4 : 0 < i
        ·have hg1 := dw l (i - 1) (by omega)
         have hi1 : ((i : Int) - 1).toNat = i - 1 := by omega
         have hb1 := hb (l.getD (i - 1) eD)
         have hlt5 := UR (l.getD (i - 1) eD) (xk, xc, xe)
         generalize l.getD (i - 1) eD = y at *
         cases q5 : bfE y (xk, xc, xe)
         ·rw [if_pos ⟨q4, q5⟩] at et
          rw [q5, decide_eq_false_iff_not] at hlt5
          generalize FK y (xk, xc, xe) = cc at *
          have := ext 19 (by omega) et
          subst this
          exact wR (aI @pgp (aI @Qo (aI @UT (aI @Option.map_some.{0,0} (aI @Option.getD_none.{0} (aI @k4 (aI @hg (aI @hi1 @hg1)))))))) (aI k3 hb1) ae
         ·rw [if_neg (by rw [q5]; simp)] at et
          rw [q5, decide_eq_true_eq] at hlt5
          generalize FK y (xk, xc, xe) = cc at *
          rw [fO _ _ _ et] at he
          refine wS (aI @pgp (aI @Qo (aI @UT (aI @Option.map_some.{0,0} (aI @Option.getD_none.{0} (aI @k4 (aI @hg (aI @hi1 @hg1)))))))) (aI k3 hb1) ?_
          (refine aQ (i + 1) [0] [0] (⟨hlt, he⟩) (by first | omega | (simp only [List.length_cons]; omega)) ?_; (refine bZ ?_ ?_ (fC _ _ _) (by decide) (by decide) (by decide) (by decide); (repeat' (first | exact trivial | refine bQ _ _ rfl rfl ?_ ?_)); all_goals (try simp only [pgs, pgl, pgx, pgf, pgw, bI, bV, bJ, bW, dJ, gK, eP, pgn, simprocAttr]); all_goals (try (repeat' (first | apply aI))); all_goals (try (first | exact trivial | exact aX (by omega) | exact dQ rfl | exact aP rfl rfl | exact dK rfl))))
          all_goals first | exact FM rfl hsm | exact (show Gen _ _ (fzv l) (fzv l) from of_eq_true (eP _ _ _ _)) | skip
        ·rw [if_neg (by omega)] at et
         rw [fO _ _ _ et] at he
         refine wS (aI @pgp (aI @Qo (aI @UT (aI @Option.map_some.{0,0} (aI @Option.getD_none.{0} (aI @k4 @hg)))))) k3 ?_
         (refine aQ (i + 1) [0] [0] (⟨hlt, he⟩) (by first | omega | (simp only [List.length_cons]; omega)) ?_; (refine bZ ?_ ?_ (fC _ _ _) (by decide) (by decide) (by decide) (by decide); (repeat' (first | exact trivial | refine bQ _ _ rfl rfl ?_ ?_)); all_goals (try simp only [pgs, pgl, pgx, pgf, pgw, bI, bV, bJ, bW, dJ, gK, eP, pgn, simprocAttr]); all_goals (try (repeat' (first | apply aI))); all_goals (try (first | exact trivial | exact aX (by omega) | exact dQ rfl | exact aP rfl rfl | exact dK rfl))))
         all_goals first | exact FM rfl hsm | exact (show Gen _ _ (fzv l) (fzv l) from of_eq_true (eP _ _ _ _)) | skip
      ·rw [if_pos q2] at et
       have := ext 5 (by omega) et
       subst this
       by_cases q6 : 1 ≤ xc
       ·by_cases q7 : xc ≤ 1099511627776
        ·by_cases q8 : 0 ≤ xe
         ·have q9 : ¬ xe < xc := fun h => q2 ⟨⟨q6, q7⟩, q8, by omega⟩
          exact wR (aI @aj @hg) k3 ae
         ·exact wR (aI @aj @hg) k3 ae
        ·exact wR (aI @aj @hg) k3 ae
       ·exact wR (aI @aj @hg) k3 ae
    ·have : i = l.length := by omega
     subst this
     rw [Nat.sub_self] at he
     have he0 : 0 = E := he
     subst he0
     exact wR @aj trivial ae
 ·rw [if_pos c1]
  by_cases c2 : 1 ≤ z ∧ z ≤ 32
  ·have k1 := CW z c2
   by_cases a0 : 0 ≤ t
   ·refine gI oW Tryz.func116 Tryz.results116 ?_
    exact wR trivial k1 ae
   ·refine gI oW Tryz.func116 Tryz.results116 ?_
    exact wR trivial k1 ae
  ·have k1 := JY z c2
   refine gI oW Tryz.func116 Tryz.results116 ?_
   exact wR trivial k1 ae
theorem C9 (t : Tl) : Pg.Good Tryz.prog 107 [.agg (tlF t)] (vi (vTl t)) := by
 obtain ⟨a, b, s⟩ := t
 unfold vTl
 simp only
 by_cases c1 : (0 ≤ a ∧ a ≤ 4294967295) ∧ (0 ≤ b ∧ b ≤ 4294967295) ∧ b ≤ a
 ·rw [if_pos c1]
  refine gI oW Tryz.func107 Tryz.results107 ?_
  exact wR trivial trivial ae
 ·rw [if_neg c1]
  by_cases h1 : 0 ≤ a
  ·by_cases h2 : a ≤ 4294967295
   ·by_cases h3 : 0 ≤ b
    ·have h4 : ¬ b ≤ a := by omega
     refine gI oW Tryz.func107 Tryz.results107 ?_
     exact wR trivial trivial ae
    ·refine gI oW Tryz.func107 Tryz.results107 ?_
     exact wR trivial trivial ae
   ·refine gI oW Tryz.func107 Tryz.results107 ?_
    exact wR trivial trivial ae
  ·refine gI oW Tryz.func107 Tryz.results107 ?_
   exact wR trivial trivial ae
theorem Qp (d z : Int) (h : 1 ≤ d ∧ d ≤ 8 ∧ 1 ≤ z ∧ z ≤ 64) : Pg.Good Tryz.prog 176 [vi d, vi z] (vb true) := by
 refine gI oW Tryz.func176 Tryz.results176 ?_
 exact wR trivial trivial ae
theorem Kr (d z : Int) (h : ¬ (1 ≤ d ∧ d ≤ 8 ∧ 1 ≤ z ∧ z ≤ 64)) : Pg.Good Tryz.prog 176 [vi d, vi z] (vb false) := by
 by_cases h1 : 1 ≤ d
 ·by_cases h2 : d ≤ 8
  ·by_cases h3 : 1 ≤ z
   ·refine gI oW Tryz.func176 Tryz.results176 ?_
    exact wR trivial trivial ae
   ·refine gI oW Tryz.func176 Tryz.results176 ?_
    exact wR trivial trivial ae
  ·refine gI oW Tryz.func176 Tryz.results176 ?_
   exact wR trivial trivial ae
 ·refine gI oW Tryz.func176 Tryz.results176 ?_
  exact wR trivial trivial ae
theorem Yk (c : Cm) : Pg.Good Tryz.prog 109 [.agg (cmF c)] (vi (vCm c)) := by
 obtain ⟨d, z, s, l, b⟩ := c
 unfold vCm
 simp only
 have hil := ax l
 by_cases c1 : 1 ≤ d ∧ d ≤ 8 ∧ 1 ≤ z ∧ z ≤ 64
 ·rw [if_neg (by simpa using c1)]
  have k1 := Qp d z c1
  have hm := vz ⟨c1.1, c1.2.1⟩ c1.2.2
  by_cases c2 : (l.length : Int) = d * z
  ·rw [if_neg (by omega)]
   generalize hdz : d * z = dz at *
   refine gI oW Tryz.func109 Tryz.results109 ?_
   refine wS (aI @hdz @ax) k1 ?_
   refine aK (fun i : Nat => mkA [(21, fzi l), (22, vi l.length), (23, vi i)] [] 1 (fun _ => .top)) (fun i => i ≤ l.length ∧ fQ 0 4294967295 (l.take i) = true) (fun i => l.length - i) 0 [] [] ?_ ⟨Nat.zero_le _, rfl⟩ ?_
   ·exact kE
   ·rintro i ⟨hi, ha⟩
    rcases Nat.lt_or_ge i l.length with hlt | hge
    ·have hg := jm l i hlt
     have hx := mJ (a := 0) (b := 4294967295) hlt
     have hn := lg (a := 0) (b := 4294967295) hlt
     rw [ha] at hn
     generalize l.getD i 0 = n at *
     by_cases hc : 0 ≤ n ∧ n ≤ 4294967295
     ·refine wS (aI @ax @hg) trivial ?_
      exact bE (i + 1) [] [] ⟨hlt, by rw [hn, decide_eq_true hc]; rfl⟩
     ·rw [hx hc, if_neg (by simp)]
      by_cases hc1 : 0 ≤ n
      ·exact wR (aI @ax @hg) trivial ae
      ·exact wR (aI @ax @hg) trivial ae
    ·have : i = l.length := by omega
     subst this
     rw [List.take_length] at ha
     rw [ha, if_pos rfl]
     exact wR @ax trivial ae
  ·rw [if_pos c2]
   generalize hdz : d * z = dz at *
   refine gI oW Tryz.func109 Tryz.results109 ?_
   exact wR (aI @hdz @ax) k1 ae
 ·rw [if_pos c1]
  have k1 := Kr d z c1
  refine gI oW Tryz.func109 Tryz.results109 ?_
  exact wR trivial k1 ae
theorem Qq (p : Int) (h : 2 ≤ p ∧ p ≤ 8) : Pg.Good Tryz.prog 177 [vi p] (vb true) := by
 refine gI oW Tryz.func177 Tryz.results177 ?_
 exact wR trivial trivial ae
theorem Kt (p : Int) (h : ¬ (2 ≤ p ∧ p ≤ 8)) : Pg.Good Tryz.prog 177 [vi p] (vb false) := by
 by_cases h1 : 2 ≤ p
 ·refine gI oW Tryz.func177 Tryz.results177 ?_
  exact wR trivial trivial ae
 ·refine gI oW Tryz.func177 Tryz.results177 ?_
  exact wR trivial trivial ae
theorem Yl (x : Ll) (hx : x.r.length ≤ 1000000) : Pg.Good Tryz.prog 114 [.agg (llF x)] (vi (vLl x)) := by
 obtain ⟨p, s, l⟩ := x
 simp only at hx
 unfold vLl
 simp only
 have hil := ax l
 by_cases c1 : 2 ≤ p ∧ p ≤ 8
 ·rw [if_neg (by simpa using c1)]
  have k1 := Qq p c1
  obtain ⟨hw, hp1, hp2⟩ := nY c1
  by_cases c2 : l.length = 2 ^ p.toNat
  ·rw [if_neg (by omega)]
   rw [← c2] at hw hp1 hp2
   refine gI oW Tryz.func114 Tryz.results114 ?_
   refine wS (aI @hw @ax) k1 ?_
   refine aK (fun i : Nat => mkA [(1, .ref 0 0), (17, fzi l), (18, vi l.length), (19, vi i)] [(0, (31, llF ⟨p, s, l⟩))] 1 (fun _ => .top)) (fun i => i ≤ l.length ∧ fQ 0 (65 - p) (l.take i) = true) (fun i => l.length - i) 0 [] [0] ?_ ⟨Nat.zero_le _, rfl⟩ ?_
   ·exact kE
   ·rintro i ⟨hi, ha⟩
    rcases Nat.lt_or_ge i l.length with hlt | hge
    ·have hg := jm l i hlt
     have hx := mJ (a := 0) (b := 65 - p) hlt
     have hn := lg (a := 0) (b := 65 - p) hlt
     rw [ha] at hn
     generalize l.getD i 0 = n at *
     by_cases hc : 0 ≤ n ∧ n ≤ 65 - p
     ·refine wS (aI @ax @hg) trivial ?_
      exact bE (i + 1) [] [0] ⟨hlt, by rw [hn, decide_eq_true hc]; rfl⟩
     ·rw [hx hc, if_neg (by simp)]
      by_cases hc1 : 0 ≤ n
      ·exact wR (aI @ax @hg) trivial ae
      ·exact wR (aI @ax @hg) trivial ae
    ·have : i = l.length := by omega
     subst this
     rw [List.take_length] at ha
     rw [ha, if_pos rfl]
     exact wR @ax trivial ae
  ·rw [if_pos c2]
   generalize hq : 2 ^ p.toNat = q at *
   refine gI oW Tryz.func114 Tryz.results114 ?_
   exact wR (aI @hw @ax) k1 ae
 ·rw [if_pos c1]
  have k1 := Kt p c1
  refine gI oW Tryz.func114 Tryz.results114 ?_
  exact wR trivial k1 ae
theorem UU (s : Sk) (ok : s.Ok) (hk : s.p.k = 1 ∨ s.p.k = 2 ∨ s.p.k = 3 ∨ s.p.k = 4 ∨ s.p.k = 5 ∨ s.p.k = 6) : Pg.Good Tryz.prog 61 [.agg (skF s)] (vi (jT s)) := by
 have h1 := C9 s.tl
 have h2 := Yk s.cm
 have h3 := Yl s.ll ok.ln
 have h4 := Yj s.tp ok.to ok.tn
 have h5 := Yf s.fq ok.fo ok.fn
 have h6 := Yg s.rk ok.ro ok.rn ok.rm
 have e : jT s = if s.p.k = 1 then vTl s.tl else if s.p.k = 2 then vCm s.cm else if s.p.k = 3 then vLl s.ll else if s.p.k = 4 then vTp s.tp else if s.p.k = 5 then vFq s.fq else vRk s.rk := rfl
 generalize jT s = r at *
 generalize vTl s.tl = r1 at *
 generalize vCm s.cm = r2 at *
 generalize vLl s.ll = r3 at *
 generalize vTp s.tp = r4 at *
 generalize vFq s.fq = r5 at *
 generalize vRk s.rk = r6 at *
 clear ok
 obtain ⟨⟨pk, pz, pd, ps⟩, ⟨t1, t2, t3⟩, ⟨c1, c2, c3, c4, c5⟩, ⟨l1, l2, l3⟩, ⟨e1, e2, e3, e4⟩, ⟨f1, f2, f3, f4, f5⟩, ⟨q1, q2, q3, q4, q5⟩⟩ := s
 simp only at *
 rcases hk with rfl | rfl | rfl | rfl | rfl | rfl
 ·obtain rfl : r = r1 := e
  refine gI oW Tryz.func61 Tryz.results61 ?_
  exact wR trivial h1 ae
 ·obtain rfl : r = r2 := e
  refine gI oW Tryz.func61 Tryz.results61 ?_
  exact wR trivial h2 ae
 ·obtain rfl : r = r3 := e
  refine gI oW Tryz.func61 Tryz.results61 ?_
  exact wR trivial h3 ae
 ·obtain rfl : r = r4 := e
  refine gI oW Tryz.func61 Tryz.results61 ?_
  exact wR trivial h4 ae
 ·obtain rfl : r = r5 := e
  refine gI oW Tryz.func61 Tryz.results61 ?_
  exact wR trivial h5 ae
 ·obtain rfl : r = r6 := e
  refine gI oW Tryz.func61 Tryz.results61 ?_
  exact wR trivial h6 ae
def Ku (s : Sk) : Pm := ⟨s.p.k, if s.p.k = 2 then s.cm.z else if s.p.k = 3 then s.ll.p else if s.p.k = 4 then s.tp.z else if s.p.k = 5 then s.fq.z else if s.p.k = 6 then s.rk.z else 0,
 if s.p.k = 2 then s.cm.d else 0, if s.p.k = 2 then s.cm.s else if s.p.k = 3 then s.ll.s else 0⟩
theorem Qr (s : Sk) (hk : s.p.k = 1 ∨ s.p.k = 2 ∨ s.p.k = 3 ∨ s.p.k = 4 ∨ s.p.k = 5 ∨ s.p.k = 6) : Pg.Good Tryz.prog 62 [.agg (skF s)] (.agg (pmF (Ku s))) := by
 obtain ⟨⟨pk, pz, pd, ps⟩, ⟨t1, t2, t3⟩, ⟨c1, c2, c3, c4, c5⟩, ⟨l1, l2, l3⟩, ⟨e1, e2, e3, e4⟩, ⟨f1, f2, f3, f4, f5⟩, ⟨q1, q2, q3, q4, q5⟩⟩ := s
 unfold Ku
 simp only at *
 rcases hk with rfl | rfl | rfl | rfl | rfl | rfl
 ·refine gI oG Tryz.func62 Tryz.results62 ?_
  exact wRG trivial trivial ae
 ·refine gI oG Tryz.func62 Tryz.results62 ?_
  exact wRG trivial trivial ae
 ·refine gI oG Tryz.func62 Tryz.results62 ?_
  exact wRG trivial trivial ae
 ·refine gI oG Tryz.func62 Tryz.results62 ?_
  exact wRG trivial trivial ae
 ·refine gI oG Tryz.func62 Tryz.results62 ?_
  exact wRG trivial trivial ae
 ·refine gI oG Tryz.func62 Tryz.results62 ?_
  exact wRG trivial trivial ae
theorem UV (s : Sk) (h : vp s.p.k s.p.z s.p.d s.p.s = 0) : samP (Ku s) s.p ↔ parP s := by
 have hk := GG h
 obtain ⟨⟨pk, pz, pd, ps⟩, ⟨t1, t2, t3⟩, ⟨c1, c2, c3, c4, c5⟩, ⟨l1, l2, l3⟩, ⟨e1, e2, e3, e4⟩, ⟨f1, f2, f3, f4, f5⟩, ⟨q1, q2, q3, q4, q5⟩⟩ := s
 unfold vp at h
 simp only at *
 rcases hk with rfl | rfl | rfl | rfl | rfl | rfl
 all_goals
  simp only [samP, Ku, parP] at *
  simp at h ⊢
  try omega
theorem Kv (s : Sk) (hk : s.p.k = 1) (ok : s.Ok) : Pg.Good Tryz.prog 63 [.agg (skF s)] (vb (bK s (az s))) := by
 have b1 := ok.cn
 have b2 := ok.ln
 have b3 := ok.tn
 have b4 := ok.fn
 have b5 := ok.rn
 clear ok
 obtain ⟨⟨pk, pz, pd, ps⟩, ⟨t1, t2, t3⟩, ⟨c1, c2, c3, c4, c5⟩, ⟨l1, l2, l3⟩, ⟨e1, e2, e3, e4⟩, ⟨f1, f2, f3, f4, f5⟩, ⟨q1, q2, q3, q4, q5⟩⟩ := s
 simp only at *
 subst hk
 have e0 : bK ⟨⟨1, pz, pd, ps⟩, ⟨t1, t2, t3⟩, ⟨c1, c2, c3, c4, c5⟩, ⟨l1, l2, l3⟩, ⟨e1, e2, e3, e4⟩, ⟨f1, f2, f3, f4, f5⟩, ⟨q1, q2, q3, q4, q5⟩⟩ (az ⟨⟨1, pz, pd, ps⟩, ⟨t1, t2, t3⟩, ⟨c1, c2, c3, c4, c5⟩, ⟨l1, l2, l3⟩, ⟨e1, e2, e3, e4⟩, ⟨f1, f2, f3, f4, f5⟩, ⟨q1, q2, q3, q4, q5⟩⟩) = decide (c1 = 0 ∧ c2 = 0 ∧ c3 = 0 ∧ c4.length = 0 ∧ c5 = false ∧ l1 = 0 ∧ l2 = 0 ∧ l3.length = 0 ∧ e1 = 0 ∧ e2 = 0 ∧ e3.length = 0 ∧ e4 = false ∧ f1 = 0 ∧ f2 = 0 ∧ f3 = 0 ∧ f4.length = 0 ∧ f5 = false ∧ q1 = 0 ∧ q2 = 0 ∧ q3 = 0 ∧ q4.length = 0 ∧ q5 = false) := by
  rw [Bool.eq_iff_iff]
  simp [bK, az, samP, samT, ny, nz, nC, nD, nG, Tl.o, Cm.o, Ll.o, Tp.o, Fq.o, Rk.o, and_assoc, and_comm, and_left_comm]
 rw [e0]
 clear e0
 refine gI oD Tryz.func63 Tryz.results63 ?_
 (repeat' first | refine wPA (aI @aj (aI @ax (aI @aS (aI @beq_self_eq_true.{0} (aI @Bool.and_self (aI @List.append_eq.{0} (aI @List.cons_append.{0} @List.nil_append.{0}))))))) trivial ?_ | refine tS ?_ ?_ <;> intro hc | fail)
 all_goals (refine rT [] ?_; first | rfl | skip)
 all_goals (simp only [pgo, simprocAttr]; first | rfl | simp_all)
theorem Kw (s : Sk) (hk : s.p.k = 2) (ok : s.Ok) : Pg.Good Tryz.prog 63 [.agg (skF s)] (vb (bK s (az s))) := by
 have b1 := ok.cn
 have b2 := ok.ln
 have b3 := ok.tn
 have b4 := ok.fn
 have b5 := ok.rn
 clear ok
 obtain ⟨⟨pk, pz, pd, ps⟩, ⟨t1, t2, t3⟩, ⟨c1, c2, c3, c4, c5⟩, ⟨l1, l2, l3⟩, ⟨e1, e2, e3, e4⟩, ⟨f1, f2, f3, f4, f5⟩, ⟨q1, q2, q3, q4, q5⟩⟩ := s
 simp only at *
 subst hk
 have e0 : bK ⟨⟨2, pz, pd, ps⟩, ⟨t1, t2, t3⟩, ⟨c1, c2, c3, c4, c5⟩, ⟨l1, l2, l3⟩, ⟨e1, e2, e3, e4⟩, ⟨f1, f2, f3, f4, f5⟩, ⟨q1, q2, q3, q4, q5⟩⟩ (az ⟨⟨2, pz, pd, ps⟩, ⟨t1, t2, t3⟩, ⟨c1, c2, c3, c4, c5⟩, ⟨l1, l2, l3⟩, ⟨e1, e2, e3, e4⟩, ⟨f1, f2, f3, f4, f5⟩, ⟨q1, q2, q3, q4, q5⟩⟩) = decide (t1 = 0 ∧ t2 = 0 ∧ t3 = false ∧ l1 = 0 ∧ l2 = 0 ∧ l3.length = 0 ∧ e1 = 0 ∧ e2 = 0 ∧ e3.length = 0 ∧ e4 = false ∧ f1 = 0 ∧ f2 = 0 ∧ f3 = 0 ∧ f4.length = 0 ∧ f5 = false ∧ q1 = 0 ∧ q2 = 0 ∧ q3 = 0 ∧ q4.length = 0 ∧ q5 = false) := by
  rw [Bool.eq_iff_iff]
  simp [bK, az, samP, samT, ny, nz, nC, nD, nG, Tl.o, Cm.o, Ll.o, Tp.o, Fq.o, Rk.o, and_assoc, and_comm, and_left_comm]
 rw [e0]
 clear e0
 refine gI oD Tryz.func63 Tryz.results63 ?_
 (repeat' first | refine wPA (aI @aj (aI @ax (aI @aS (aI @beq_self_eq_true.{0} (aI @Bool.and_self (aI @List.append_eq.{0} (aI @List.cons_append.{0} @List.nil_append.{0}))))))) trivial ?_ | refine tS ?_ ?_ <;> intro hc | fail)
 all_goals (refine rT [] ?_; first | rfl | skip)
 all_goals (simp only [pgo, simprocAttr]; first | rfl | simp_all)
theorem Ky (s : Sk) (hk : s.p.k = 3) (ok : s.Ok) : Pg.Good Tryz.prog 63 [.agg (skF s)] (vb (bK s (az s))) := by
 have b1 := ok.cn
 have b2 := ok.ln
 have b3 := ok.tn
 have b4 := ok.fn
 have b5 := ok.rn
 clear ok
 obtain ⟨⟨pk, pz, pd, ps⟩, ⟨t1, t2, t3⟩, ⟨c1, c2, c3, c4, c5⟩, ⟨l1, l2, l3⟩, ⟨e1, e2, e3, e4⟩, ⟨f1, f2, f3, f4, f5⟩, ⟨q1, q2, q3, q4, q5⟩⟩ := s
 simp only at *
 subst hk
 have e0 : bK ⟨⟨3, pz, pd, ps⟩, ⟨t1, t2, t3⟩, ⟨c1, c2, c3, c4, c5⟩, ⟨l1, l2, l3⟩, ⟨e1, e2, e3, e4⟩, ⟨f1, f2, f3, f4, f5⟩, ⟨q1, q2, q3, q4, q5⟩⟩ (az ⟨⟨3, pz, pd, ps⟩, ⟨t1, t2, t3⟩, ⟨c1, c2, c3, c4, c5⟩, ⟨l1, l2, l3⟩, ⟨e1, e2, e3, e4⟩, ⟨f1, f2, f3, f4, f5⟩, ⟨q1, q2, q3, q4, q5⟩⟩) = decide (t1 = 0 ∧ t2 = 0 ∧ t3 = false ∧ c1 = 0 ∧ c2 = 0 ∧ c3 = 0 ∧ c4.length = 0 ∧ c5 = false ∧ e1 = 0 ∧ e2 = 0 ∧ e3.length = 0 ∧ e4 = false ∧ f1 = 0 ∧ f2 = 0 ∧ f3 = 0 ∧ f4.length = 0 ∧ f5 = false ∧ q1 = 0 ∧ q2 = 0 ∧ q3 = 0 ∧ q4.length = 0 ∧ q5 = false) := by
  rw [Bool.eq_iff_iff]
  simp [bK, az, samP, samT, ny, nz, nC, nD, nG, Tl.o, Cm.o, Ll.o, Tp.o, Fq.o, Rk.o, and_assoc, and_comm, and_left_comm]
 rw [e0]
 clear e0
 refine gI oD Tryz.func63 Tryz.results63 ?_
 (repeat' first | refine wPA (aI @aj (aI @ax (aI @aS (aI @beq_self_eq_true.{0} (aI @Bool.and_self (aI @List.append_eq.{0} (aI @List.cons_append.{0} @List.nil_append.{0}))))))) trivial ?_ | refine tS ?_ ?_ <;> intro hc | fail)
 all_goals (refine rT [] ?_; first | rfl | skip)
 all_goals (simp only [pgo, simprocAttr]; first | rfl | simp_all)
theorem Kz (s : Sk) (hk : s.p.k = 4) (ok : s.Ok) : Pg.Good Tryz.prog 63 [.agg (skF s)] (vb (bK s (az s))) := by
 have b1 := ok.cn
 have b2 := ok.ln
 have b3 := ok.tn
 have b4 := ok.fn
 have b5 := ok.rn
 clear ok
 obtain ⟨⟨pk, pz, pd, ps⟩, ⟨t1, t2, t3⟩, ⟨c1, c2, c3, c4, c5⟩, ⟨l1, l2, l3⟩, ⟨e1, e2, e3, e4⟩, ⟨f1, f2, f3, f4, f5⟩, ⟨q1, q2, q3, q4, q5⟩⟩ := s
 simp only at *
 subst hk
 have e0 : bK ⟨⟨4, pz, pd, ps⟩, ⟨t1, t2, t3⟩, ⟨c1, c2, c3, c4, c5⟩, ⟨l1, l2, l3⟩, ⟨e1, e2, e3, e4⟩, ⟨f1, f2, f3, f4, f5⟩, ⟨q1, q2, q3, q4, q5⟩⟩ (az ⟨⟨4, pz, pd, ps⟩, ⟨t1, t2, t3⟩, ⟨c1, c2, c3, c4, c5⟩, ⟨l1, l2, l3⟩, ⟨e1, e2, e3, e4⟩, ⟨f1, f2, f3, f4, f5⟩, ⟨q1, q2, q3, q4, q5⟩⟩) = decide (t1 = 0 ∧ t2 = 0 ∧ t3 = false ∧ c1 = 0 ∧ c2 = 0 ∧ c3 = 0 ∧ c4.length = 0 ∧ c5 = false ∧ l1 = 0 ∧ l2 = 0 ∧ l3.length = 0 ∧ f1 = 0 ∧ f2 = 0 ∧ f3 = 0 ∧ f4.length = 0 ∧ f5 = false ∧ q1 = 0 ∧ q2 = 0 ∧ q3 = 0 ∧ q4.length = 0 ∧ q5 = false) := by
  rw [Bool.eq_iff_iff]
  simp [bK, az, samP, samT, ny, nz, nC, nD, nG, Tl.o, Cm.o, Ll.o, Tp.o, Fq.o, Rk.o, and_assoc, and_comm, and_left_comm]
 rw [e0]
 clear e0
 refine gI oD Tryz.func63 Tryz.results63 ?_
 (repeat' first | refine wPA (aI @aj (aI @ax (aI @aS (aI @beq_self_eq_true.{0} (aI @Bool.and_self (aI @List.append_eq.{0} (aI @List.cons_append.{0} @List.nil_append.{0}))))))) trivial ?_ | refine tS ?_ ?_ <;> intro hc | fail)
 all_goals (refine rT [] ?_; first | rfl | skip)
 all_goals (simp only [pgo, simprocAttr]; first | rfl | simp_all)
theorem KA (s : Sk) (hk : s.p.k = 5) (ok : s.Ok) : Pg.Good Tryz.prog 63 [.agg (skF s)] (vb (bK s (az s))) := by
 have b1 := ok.cn
 have b2 := ok.ln
 have b3 := ok.tn
 have b4 := ok.fn
 have b5 := ok.rn
 clear ok
 obtain ⟨⟨pk, pz, pd, ps⟩, ⟨t1, t2, t3⟩, ⟨c1, c2, c3, c4, c5⟩, ⟨l1, l2, l3⟩, ⟨e1, e2, e3, e4⟩, ⟨f1, f2, f3, f4, f5⟩, ⟨q1, q2, q3, q4, q5⟩⟩ := s
 simp only at *
 subst hk
 have e0 : bK ⟨⟨5, pz, pd, ps⟩, ⟨t1, t2, t3⟩, ⟨c1, c2, c3, c4, c5⟩, ⟨l1, l2, l3⟩, ⟨e1, e2, e3, e4⟩, ⟨f1, f2, f3, f4, f5⟩, ⟨q1, q2, q3, q4, q5⟩⟩ (az ⟨⟨5, pz, pd, ps⟩, ⟨t1, t2, t3⟩, ⟨c1, c2, c3, c4, c5⟩, ⟨l1, l2, l3⟩, ⟨e1, e2, e3, e4⟩, ⟨f1, f2, f3, f4, f5⟩, ⟨q1, q2, q3, q4, q5⟩⟩) = decide (t1 = 0 ∧ t2 = 0 ∧ t3 = false ∧ c1 = 0 ∧ c2 = 0 ∧ c3 = 0 ∧ c4.length = 0 ∧ c5 = false ∧ l1 = 0 ∧ l2 = 0 ∧ l3.length = 0 ∧ e1 = 0 ∧ e2 = 0 ∧ e3.length = 0 ∧ e4 = false ∧ q1 = 0 ∧ q2 = 0 ∧ q3 = 0 ∧ q4.length = 0 ∧ q5 = false) := by
  rw [Bool.eq_iff_iff]
  simp [bK, az, samP, samT, ny, nz, nC, nD, nG, Tl.o, Cm.o, Ll.o, Tp.o, Fq.o, Rk.o, and_assoc, and_comm, and_left_comm]
 rw [e0]
 clear e0
 refine gI oD Tryz.func63 Tryz.results63 ?_
 (repeat' first | refine wPA (aI @aj (aI @ax (aI @aS (aI @beq_self_eq_true.{0} (aI @Bool.and_self (aI @List.append_eq.{0} (aI @List.cons_append.{0} @List.nil_append.{0}))))))) trivial ?_ | refine tS ?_ ?_ <;> intro hc | fail)
 all_goals (refine rT [] ?_; first | rfl | skip)
 all_goals (simp only [pgo, simprocAttr]; first | rfl | simp_all)
theorem KC (s : Sk) (hk : s.p.k = 6) (ok : s.Ok) : Pg.Good Tryz.prog 63 [.agg (skF s)] (vb (bK s (az s))) := by
 have b1 := ok.cn
 have b2 := ok.ln
 have b3 := ok.tn
 have b4 := ok.fn
 have b5 := ok.rn
 clear ok
 obtain ⟨⟨pk, pz, pd, ps⟩, ⟨t1, t2, t3⟩, ⟨c1, c2, c3, c4, c5⟩, ⟨l1, l2, l3⟩, ⟨e1, e2, e3, e4⟩, ⟨f1, f2, f3, f4, f5⟩, ⟨q1, q2, q3, q4, q5⟩⟩ := s
 simp only at *
 subst hk
 have e0 : bK ⟨⟨6, pz, pd, ps⟩, ⟨t1, t2, t3⟩, ⟨c1, c2, c3, c4, c5⟩, ⟨l1, l2, l3⟩, ⟨e1, e2, e3, e4⟩, ⟨f1, f2, f3, f4, f5⟩, ⟨q1, q2, q3, q4, q5⟩⟩ (az ⟨⟨6, pz, pd, ps⟩, ⟨t1, t2, t3⟩, ⟨c1, c2, c3, c4, c5⟩, ⟨l1, l2, l3⟩, ⟨e1, e2, e3, e4⟩, ⟨f1, f2, f3, f4, f5⟩, ⟨q1, q2, q3, q4, q5⟩⟩) = decide (t1 = 0 ∧ t2 = 0 ∧ t3 = false ∧ c1 = 0 ∧ c2 = 0 ∧ c3 = 0 ∧ c4.length = 0 ∧ c5 = false ∧ l1 = 0 ∧ l2 = 0 ∧ l3.length = 0 ∧ e1 = 0 ∧ e2 = 0 ∧ e3.length = 0 ∧ e4 = false ∧ f1 = 0 ∧ f2 = 0 ∧ f3 = 0 ∧ f4.length = 0 ∧ f5 = false) := by
  rw [Bool.eq_iff_iff]
  simp [bK, az, samP, samT, ny, nz, nC, nD, nG, Tl.o, Cm.o, Ll.o, Tp.o, Fq.o, Rk.o, and_assoc, and_comm, and_left_comm]
 rw [e0]
 clear e0
 refine gI oD Tryz.func63 Tryz.results63 ?_
 (repeat' first | refine wPA (aI @aj (aI @ax (aI @aS (aI @beq_self_eq_true.{0} (aI @Bool.and_self (aI @List.append_eq.{0} (aI @List.cons_append.{0} @List.nil_append.{0}))))))) trivial ?_ | refine tS ?_ ?_ <;> intro hc | fail)
 all_goals (refine rT [] ?_; first | rfl | skip)
 all_goals (simp only [pgo, simprocAttr]; first | rfl | simp_all)
theorem Qs (s : Sk) (ok : s.Ok) (hk : s.p.k = 1 ∨ s.p.k = 2 ∨ s.p.k = 3 ∨ s.p.k = 4 ∨ s.p.k = 5 ∨ s.p.k = 6) : Pg.Good Tryz.prog 63 [.agg (skF s)] (vb (bK s (az s))) := by
 rcases hk with hk | hk | hk | hk | hk | hk
 ·exact Kv s hk ok
 ·exact Kw s hk ok
 ·exact Ky s hk ok
 ·exact Kz s hk ok
 ·exact KA s hk ok
 ·exact KC s hk ok
theorem vX (s : Sk) (ok : s.Ok) : Pg.Good Tryz.prog 17 [.agg (skF s)] (vi (vSk s)) := by
 have h1 := gZ s.p.k s.p.z s.p.d s.p.s
 have e : vSk s = if vp s.p.k s.p.z s.p.d s.p.s ≠ 0 then vp s.p.k s.p.z s.p.d s.p.s else if jT s ≠ 0 then jT s else if parP s then (if bK s (az s) = true then 0 else 18) else 18 := rfl
 by_cases h : vp s.p.k s.p.z s.p.d s.p.s = 0
 ·rw [if_neg (by omega)] at e
  have hk := GG h
  have hp := UV s h
  have h2 := UU s ok hk
  have h3 := Qr s hk
  have h4 := Qs s ok hk
  have hE := GZ (Ku s) s.p
  rw [h] at h1
  generalize vSk s = r at *
  generalize jT s = v at *
  by_cases c1 : v = 0
  ·subst c1
   rw [if_neg (by omega)] at e
   generalize Ku s = q at *
   by_cases c2 : parP s
   ·rw [if_pos c2] at e
    rw [decide_eq_true (hp.2 c2)] at hE
    generalize bK s (az s) = o at *
    clear hp c2 ok h
    obtain ⟨⟨pk, pz, pd, ps⟩, ⟨t1, t2, t3⟩, ⟨c1, c2, c3, c4, c5⟩, ⟨l1, l2, l3⟩, ⟨e1, e2, e3, e4⟩, ⟨f1, f2, f3, f4, f5⟩, ⟨q1, q2, q3, q4, q5⟩⟩ := s
    obtain ⟨qk, qz, qd, qs⟩ := q
    simp only at *
    cases o
    ·obtain rfl : r = 18 := e
     refine gI oW Tryz.func17 Tryz.results17 ?_
     exact wR @hE (aI h1 (aI h2 (aI h3 h4))) ae
    ·obtain rfl : r = 0 := e
     refine gI oW Tryz.func17 Tryz.results17 ?_
     exact wR @hE (aI h1 (aI h2 (aI h3 h4))) ae
   ·rw [if_neg c2] at e
    rw [decide_eq_false (fun x => c2 (hp.1 x))] at hE
    clear hp c2 ok h
    obtain ⟨⟨pk, pz, pd, ps⟩, ⟨t1, t2, t3⟩, ⟨c1, c2, c3, c4, c5⟩, ⟨l1, l2, l3⟩, ⟨e1, e2, e3, e4⟩, ⟨f1, f2, f3, f4, f5⟩, ⟨q1, q2, q3, q4, q5⟩⟩ := s
    obtain ⟨qk, qz, qd, qs⟩ := q
    simp only at *
    subst e
    refine gI oW Tryz.func17 Tryz.results17 ?_
    exact wR @hE (aI h1 (aI h2 h3)) ae
  ·rw [if_pos c1] at e
   subst e
   refine gI oW Tryz.func17 Tryz.results17 ?_
   exact wR trivial (aI h1 h2) ae
 ·rw [if_pos h] at e
  generalize vp s.p.k s.p.z s.p.d s.p.s = v at *
  rw [e]
  refine gI oW Tryz.func17 Tryz.results17 ?_
  exact wR trivial h1 ae
end Go.Proofs.YtaoejnjkmfkbeaaGreat
