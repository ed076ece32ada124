/-
  Texts of this claim, merged; own names are short.
-/
import Derived.Test.YtaoejnjkmfkbeaaGreatWAT
import Derived.Test.YtaoejnjkmfkbeaaGreatWAW
import Derived.Test.YtaoejnjkmfkbeaaGreatWAU
import Derived.Test.YtaoejnjkmfkbeaaGreatWAM
import Derived.Lib.Bytealg
import Derived.Laws.Externs
set_option linter.unusedVariables false
set_option linter.unusedSimpArgs false
set_option linter.unusedSectionVars false
set_option linter.defProp false
set_option maxRecDepth 100000
set_option maxHeartbeats 8000000
namespace Go.Proofs.YtaoejnjkmfkbeaaGreat
open Go Go.Pg
theorem vZ (t : Tl) : Pg.Good Tryz.prog 107 [.agg (tlF t)] (vi (vTl t)) := by
 obtain ⟨a, b, s⟩ := t
 unfold vTl
 simp only
 by_cases c1 : (0 ≤ a ∧ a ≤ 4294967295) ∧ (0 ≤ b ∧ b ≤ 4294967295) ∧ b ≤ a
 ·rw [if_pos c1]
  refine gI oW Tryz.func107 Tryz.results107 ?_
  exact wR trivial trivial ah
 ·rw [if_neg c1]
  by_cases h1 : 0 ≤ a
  ·by_cases h2 : a ≤ 4294967295
   ·by_cases h3 : 0 ≤ b
    ·have h4 : ¬ b ≤ a := by omega
     refine gI oW Tryz.func107 Tryz.results107 ?_
     exact wR trivial trivial ah
    ·refine gI oW Tryz.func107 Tryz.results107 ?_
     exact wR trivial trivial ah
   ·refine gI oW Tryz.func107 Tryz.results107 ?_
    exact wR trivial trivial ah
  ·refine gI oW Tryz.func107 Tryz.results107 ?_
   exact wR trivial trivial ah
theorem IX (d z : Int) (h : 1 ≤ d ∧ d ≤ 8 ∧ 1 ≤ z ∧ z ≤ 64) : Pg.Good Tryz.prog 176 [vi d, vi z] (vb true) := by
 refine gI oW Tryz.func176 Tryz.results176 ?_
 exact wR trivial trivial ah
theorem DR (d z : Int) (h : ¬ (1 ≤ d ∧ d ≤ 8 ∧ 1 ≤ z ∧ z ≤ 64)) : Pg.Good Tryz.prog 176 [vi d, vi z] (vb false) := by
 by_cases h1 : 1 ≤ d
 ·by_cases h2 : d ≤ 8
  ·by_cases h3 : 1 ≤ z
   ·refine gI oW Tryz.func176 Tryz.results176 ?_
    exact wR trivial trivial ah
   ·refine gI oW Tryz.func176 Tryz.results176 ?_
    exact wR trivial trivial ah
  ·refine gI oW Tryz.func176 Tryz.results176 ?_
   exact wR trivial trivial ah
 ·refine gI oW Tryz.func176 Tryz.results176 ?_
  exact wR trivial trivial ah
theorem WH (c : Cm) : Pg.Good Tryz.prog 109 [.agg (cmF c)] (vi (vCm c)) := by
 obtain ⟨d, z, s, l, b⟩ := c
 unfold vCm
 simp only
 have hil := bC l
 by_cases c1 : 1 ≤ d ∧ d ≤ 8 ∧ 1 ≤ z ∧ z ≤ 64
 ·rw [if_neg (by simpa using c1)]
  have k1 := IX d z c1
  have hm := oN ⟨c1.1, c1.2.1⟩ c1.2.2
  by_cases c2 : (l.length : Int) = d * z
  ·rw [if_neg (by omega)]
   generalize hdz : d * z = dz at *
   refine gI oW Tryz.func109 Tryz.results109 ?_
   refine wS (aI @hdz @bC) k1 ?_
   refine bn (fun i : Nat => mkA [(21, fzi l), (22, vi l.length), (23, vi i)] [] 1 (fun _ => .top)) (fun i => i ≤ l.length ∧ jR 0 4294967295 (l.take i) = true) (fun i => l.length - i) 0 [] [] ?_ ⟨Nat.zero_le _, rfl⟩ ?_
   ·exact kE
   ·rintro i ⟨hi, ha⟩
    rcases Nat.lt_or_ge i l.length with hlt | hge
    ·have hg := gQ l i hlt
     have hx := sJ (a := 0) (b := 4294967295) hlt
     have hn := qm (a := 0) (b := 4294967295) hlt
     rw [ha] at hn
     generalize l.getD i 0 = n at *
     by_cases hc : 0 ≤ n ∧ n ≤ 4294967295
     ·refine wS (aI @bC @hg) trivial ?_
      exact bE (i + 1) [] [] ⟨hlt, by rw [hn, decide_eq_true hc]; rfl⟩
     ·rw [hx hc, if_neg (by simp)]
      by_cases hc1 : 0 ≤ n
      ·exact wR (aI @bC @hg) trivial ah
      ·exact wR (aI @bC @hg) trivial ah
    ·have : i = l.length := by omega
     subst this
     rw [List.take_length] at ha
     rw [ha, if_pos rfl]
     exact wR @bC trivial ah
  ·rw [if_pos c2]
   generalize hdz : d * z = dz at *
   refine gI oW Tryz.func109 Tryz.results109 ?_
   exact wR (aI @hdz @bC) k1 ah
 ·rw [if_pos c1]
  have k1 := DR d z c1
  refine gI oW Tryz.func109 Tryz.results109 ?_
  exact wR trivial k1 ah
theorem IY (p : Int) (h : 2 ≤ p ∧ p ≤ 8) : Pg.Good Tryz.prog 177 [vi p] (vb true) := by
 refine gI oW Tryz.func177 Tryz.results177 ?_
 exact wR trivial trivial ah
theorem DT (p : Int) (h : ¬ (2 ≤ p ∧ p ≤ 8)) : Pg.Good Tryz.prog 177 [vi p] (vb false) := by
 by_cases h1 : 2 ≤ p
 ·refine gI oW Tryz.func177 Tryz.results177 ?_
  exact wR trivial trivial ah
 ·refine gI oW Tryz.func177 Tryz.results177 ?_
  exact wR trivial trivial ah
theorem WI (x : Ll) (hx : x.r.length ≤ 1000000) : Pg.Good Tryz.prog 114 [.agg (llF x)] (vi (vLl x)) := by
 obtain ⟨p, s, l⟩ := x
 simp only at hx
 unfold vLl
 simp only
 have hil := bC l
 by_cases c1 : 2 ≤ p ∧ p ≤ 8
 ·rw [if_neg (by simpa using c1)]
  have k1 := IY p c1
  obtain ⟨hw, hp1, hp2⟩ := oO c1
  by_cases c2 : l.length = 2 ^ p.toNat
  ·rw [if_neg (by omega)]
   rw [← c2] at hw hp1 hp2
   refine gI oW Tryz.func114 Tryz.results114 ?_
   refine wS (aI @hw @bC) k1 ?_
   refine bn (fun i : Nat => mkA [(1, .ref 0 0), (17, fzi l), (18, vi l.length), (19, vi i)] [(0, (31, llF ⟨p, s, l⟩))] 1 (fun _ => .top)) (fun i => i ≤ l.length ∧ jR 0 (65 - p) (l.take i) = true) (fun i => l.length - i) 0 [] [0] ?_ ⟨Nat.zero_le _, rfl⟩ ?_
   ·exact kE
   ·rintro i ⟨hi, ha⟩
    rcases Nat.lt_or_ge i l.length with hlt | hge
    ·have hg := gQ l i hlt
     have hx := sJ (a := 0) (b := 65 - p) hlt
     have hn := qm (a := 0) (b := 65 - p) hlt
     rw [ha] at hn
     generalize l.getD i 0 = n at *
     by_cases hc : 0 ≤ n ∧ n ≤ 65 - p
     ·refine wS (aI @bC @hg) trivial ?_
      exact bE (i + 1) [] [0] ⟨hlt, by rw [hn, decide_eq_true hc]; rfl⟩
     ·rw [hx hc, if_neg (by simp)]
      by_cases hc1 : 0 ≤ n
      ·exact wR (aI @bC @hg) trivial ah
      ·exact wR (aI @bC @hg) trivial ah
    ·have : i = l.length := by omega
     subst this
     rw [List.take_length] at ha
     rw [ha, if_pos rfl]
     exact wR @bC trivial ah
  ·rw [if_pos c2]
   generalize hq : 2 ^ p.toNat = q at *
   refine gI oW Tryz.func114 Tryz.results114 ?_
   exact wR (aI @hw @bC) k1 ah
 ·rw [if_pos c1]
  have k1 := DT p c1
  refine gI oW Tryz.func114 Tryz.results114 ?_
  exact wR trivial k1 ah
theorem aaZ : ae 0 = [0] := by decide
theorem aa0 : ae 1 = [1] := by decide
theorem NT (t : Tl) (h : vTl t = 0) : Pg.Good Tryz.prog 165 [.agg (tlF t)] (.tup [fzb (fP t), vi 0]) := by
 have h1 := vZ t
 rw [h] at h1
 have hr : (0 ≤ t.t ∧ t.t ≤ 4294967295) ∧ (0 ≤ t.i ∧ t.i ≤ 4294967295) := by
  unfold vTl at h
  split at h
  ·omega
  ·cases h
 refine Good.fzt (vs := [ob 0 (fP t), vi 0]) ?_ rfl ⟨aj _, aj _, trivial⟩
 obtain ⟨a, i, b⟩ := t
 have h2 := NS [a, i, 0] (by intro y hy; simp at hy; simp only at hr; omega) (by simp)
 have h3 := NS [a, i, 1] (by intro y hy; simp at hy; simp only at hr; omega) (by simp)
 have e2 : aS [a, i, 0] = fP ⟨a, i, false⟩ := by simp [aS, fP, aaZ, gy, List.append_assoc]
 have e3 : aS [a, i, 1] = fP ⟨a, i, true⟩ := by simp [aS, fP, aa0, gy, List.append_assoc]
 rw [e2] at h2
 rw [e3] at h3
 cases b
 ·generalize fP ⟨a, i, false⟩ = u at *
  refine gI oW Tryz.func165 Tryz.results165 ?_
  (repeat' first | refine wP @id_eq.{1} h1 ?_ | refine cG [1] h2 ?_ | refine tS ?_ ?_ <;> intro hc | fail)
  all_goals exact rE [2]
 ·generalize fP ⟨a, i, true⟩ = u at *
  refine gI oW Tryz.func165 Tryz.results165 ?_
  (repeat' first | refine wP @id_eq.{1} h1 ?_ | refine cG [1] h3 ?_ | refine tS ?_ ?_ <;> intro hc | fail)
  all_goals exact rE [2]
theorem aa1 (x : Ll) (h : vLl x = 0) (hs : 0 ≤ x.s ∧ x.s < 18446744073709551616) (hn : x.r.length ≤ 1000000) : Pg.Good Tryz.prog 167 [.agg (llF x)] (.tup [fzb (ou x), vi 0]) := by
 have h1 := WI x hn
 rw [h] at h1
 obtain ⟨i1, i2, i3⟩ := xK h
 have h2 := E8 x.p (by omega)
 have h5 := NR x.s hs
 have l2 := ax x.p.toNat
 have l5 := fC x.s
 unfold ou
 generalize hA : ae x.p.toNat ++ eX x.s = A
 have hAl : A.length ≤ 17 := by rw [← hA]; simp only [List.length_append]; omega
 refine Good.fzt (vs := [ob 0 (A ++ x.r.map u8i), vi 0]) ?_ rfl ⟨aj _, aj _, trivial⟩
 generalize ae x.p.toNat = a at *
 generalize eX x.s = e at *
 have ha := ai a
 have he := ai e
 have hae := bQ a e
 obtain ⟨z, s, l⟩ := x
 simp only at *
 have hil := bC l
 refine gI oW Tryz.func167 Tryz.results167 ?_
 refine wS (aI @ha (aI @he (aI @hae (aI @hA @hil)))) (aI h1 (aI h2 h5)) ?_
 refine bn (fun i : Nat => mkA [(5, ob 0 (A ++ (l.take i).map u8i)), (26, .sl .fz 1 (iv l)), (27, vi l.length), (28, vi i)] [] 1 (fun _ => .top)) (fun i => i ≤ l.length) (fun i => l.length - i) 0 [1] [] ?_ (Nat.zero_le _) ?_
 ·(refine aN ?_ ?_ (bG _ _ _) (by decide) (by decide) (by decide) (by decide); (repeat' (first | exact trivial | refine aG _ _ rfl rfl ?_ ?_)); all_goals (try simp only [pgs, pgl, pgx, pgf, pgw, ay, aJ, az, aK, aZ, bV, bD, pgn, simprocAttr]); all_goals (try (repeat' (first | apply aI))); all_goals (try (first | exact trivial | exact au (by omega) | exact aU rfl | exact ak rfl rfl | exact bg rfl)))
  all_goals first | exact ak rfl (by simp) | exact au (by omega) | skip
 ·intro i hi
  replace hi : i ≤ l.length := hi
  have hbl := ai (A ++ (l.take i).map u8i)
  have hl2 : (A ++ (l.take i).map u8i).length ≤ 2000000 := by simp only [List.length_append, List.length_map, List.length_take]; omega
  rcases Nat.lt_or_ge i l.length with hlt | hge
  ·have hg := gQ l i hlt
   have hx := Qu (l.getD i 0)
   have hap : bv (A ++ (l.take i).map u8i) ++ [V.c (.int .u8 ((u8i (l.getD i 0) : Nat) : Int))] = bv (A ++ (l.take (i + 1)).map u8i) := by
    have e : (l.take (i + 1)).map u8i = (l.take i).map u8i ++ [u8i (l.getD i 0)] := by rw [List.take_succ_eq_append_getElem hlt, List.map_append]; simp [List.getD, hlt]
    rw [bvS, List.append_assoc, ← e]
   generalize u8i (l.getD i 0) = u at *
   generalize l.getD i 0 = n at *
   refine wS (aI @hil (aI @hg (aI @hbl (aI @hx @hap)))) trivial ?_
   (refine bu (i + 1) [0] [] (hlt) (by first | omega | (simp only [List.length_cons]; omega)) ?_; (refine aN ?_ ?_ (bG _ _ _) (by decide) (by decide) (by decide) (by decide); (repeat' (first | exact trivial | refine aG _ _ rfl rfl ?_ ?_)); all_goals (try simp only [pgs, pgl, pgx, pgf, pgw, ay, aJ, az, aK, aZ, bV, bD, pgn, simprocAttr]); all_goals (try (repeat' (first | apply aI))); all_goals (try (first | exact trivial | exact au (by omega) | exact aU rfl | exact ak rfl rfl | exact bg rfl))))
   all_goals first | exact ak rfl rfl | exact au (by omega) | skip
  ·have : i = l.length := by omega
   subst this
   rw [List.take_length]
   exact wR @hil trivial (ids [0])
theorem NU (c : Cm) (h : vCm c = 0) (hs : 0 ≤ c.s ∧ c.s < 18446744073709551616) : Pg.Good Tryz.prog 166 [.agg (cmF c)] (.tup [fzb (jk c), vi 0]) := by
 have h1 := WH c
 rw [h] at h1
 obtain ⟨i1, i2, i3, i4⟩ := xI h
 have hm := oN i1 i2
 have h2 := adq c.d (by omega)
 have h5 := NR c.s hs
 have l2 := ax c.d.toNat
 have l3 := ax c.z.toNat
 have l5 := fC c.s
 have h3 := fun e bx n h (hid : 1 < n) => Fe e bx n h 1 (ae c.d.toNat) c.z (by omega) (by omega) hid
 have hcell := fun i (hi : i < c.c.length) => pI i4 hi
 have hnx := fun i (hi : i < c.c.length) => gX c.c i hi
 have hln := fun i => fQ (fun n : Int => ae n.toNat) 9 c.c i (fun x _ => ax _)
 unfold jk
 generalize hA : ae c.d.toNat ++ ae c.z.toNat ++ eX c.s = A
 have hAl : A.length ≤ 26 := by rw [← hA]; simp only [List.length_append]; omega
 refine Good.fzt (vs := [ob 0 (A ++ aS c.c ++ gy c.b), vi 0]) ?_ rfl ⟨aj _, aj _, trivial⟩
 generalize ae c.d.toNat = a at *
 generalize ae c.z.toNat = b at *
 generalize eX c.s = e at *
 have ha := ai a
 have hb := ai b
 have he := ai e
 have hab2 := ai (a ++ b)
 rw [List.length_append] at hab2
 have habe := bQ (a ++ b) e
 obtain ⟨d, z, s, l, bb⟩ := c
 simp only at *
 have hil := bC l
 refine gI oW Tryz.func166 Tryz.results166 ?_
 (repeat' first | refine wP (aI @ha (aI @hb (aI @he (aI @hab2 (aI @habe (aI @hA @hil)))))) (aI h1 (aI h2 h5)) ?_ | refine cZ (h3 _ _ _ _ (by omega)) ?_ | refine tS ?_ ?_ <;> intro hc | fail)
 refine bn (fun i : Nat => mkA [(1, .ref 0 0), (5, ob 0 (A ++ aS (l.take i))), (25, .sl .fz 1 (iv l)), (26, vi l.length), (27, vi i)] [(0, (29, cmF ⟨d, z, s, l, bb⟩))] 1 (fun _ => .top)) (fun i => i ≤ l.length) (fun i => l.length - i) 0 [1] [0] ?_ (Nat.zero_le _) ?_
 ·(refine aN ?_ ?_ (bG _ _ _) (by decide) (by decide) (by decide) (by decide); (repeat' (first | exact trivial | refine aG _ _ rfl rfl ?_ ?_)); all_goals (try simp only [pgs, pgl, pgx, pgf, pgw, ay, aJ, az, aK, aZ, bV, bD, pgn, simprocAttr]); all_goals (try (repeat' (first | apply aI))); all_goals (try (first | exact trivial | exact au (by omega) | exact aU rfl | exact ak rfl rfl | exact bg rfl)))
  all_goals first | exact ak rfl (by simp [aS]) | exact au (by omega) | skip
 ·intro i hi
  replace hi : i ≤ l.length := hi
  have hbl := ai (A ++ aS (l.take i))
  have hl2 : (A ++ aS (l.take i)).length ≤ 100000 := by
   have := hln i
   rw [List.length_append]
   show A.length + (aS (l.take i)).length ≤ _
   unfold aS
   omega
  rcases Nat.lt_or_ge i l.length with hlt | hge
  ·have hg := gQ l i hlt
   have hx := hcell i hlt
   have hn := hnx i hlt
   have k1 := fun e bx n h (hid : 0 < n) => Fe e bx n h 0 (A ++ aS (l.take i)) (l.getD i 0) (by omega) (by omega) hid
   rw [List.append_assoc A, ← hn] at k1
   generalize l.getD i 0 = n at *
   (repeat' first | refine wP (aI @hil (aI @hg @hbl)) trivial ?_ | refine cZ (k1 _ _ _ _ (by omega)) ?_ | refine tS ?_ ?_ <;> intro hc | fail)
   (refine bu (i + 1) [0] [0] (hlt) (by first | omega | (simp only [List.length_cons]; omega)) ?_; (refine aN ?_ ?_ (bG _ _ _) (by decide) (by decide) (by decide) (by decide); (repeat' (first | exact trivial | refine aG _ _ rfl rfl ?_ ?_)); all_goals (try simp only [pgs, pgl, pgx, pgf, pgw, ay, aJ, az, aK, aZ, bV, bD, pgn, simprocAttr]); all_goals (try (repeat' (first | apply aI))); all_goals (try (first | exact trivial | exact au (by omega) | exact aU rfl | exact ak rfl rfl | exact bg rfl))))
   all_goals first | exact ak rfl rfl | exact au (by omega) | skip
  ·have : i = l.length := by omega
   subst this
   rw [List.take_length] at *
   cases bb
   ·have k1 := fun e bx n h (hid : 0 < n) => Fe e bx n h 0 (A ++ aS l) 0 (by omega) (by omega) hid
    have e0 : ae (Int.toNat 0) = gy false := by decide
    rw [e0] at k1
    (repeat' first | refine wP (aI @hil @hbl) trivial ?_ | refine cZ (k1 _ _ _ _ (by omega)) ?_ | refine tS ?_ ?_ <;> intro hc | fail)
    exact rE [0]
   ·have k1 := fun e bx n h (hid : 0 < n) => Fe e bx n h 0 (A ++ aS l) 1 (by omega) (by omega) hid
    have e0 : ae (Int.toNat 1) = gy true := by decide
    rw [e0] at k1
    (repeat' first | refine wP (aI @hil @hbl) trivial ?_ | refine cZ (k1 _ _ _ _ (by omega)) ?_ | refine tS ?_ ?_ <;> intro hc | fail)
    exact rE [0]
theorem IZ (z : Int) (h : 1 ≤ z ∧ z ≤ 32) : Pg.Good Tryz.prog 203 [vi z] (vb true) := by
 refine gI oW Tryz.func203 Tryz.results203 ?_
 exact wR trivial trivial ah
theorem QH (z : Int) (h : ¬ (1 ≤ z ∧ z ≤ 32)) : Pg.Good Tryz.prog 203 [vi z] (vb false) := by
 by_cases h1 : 1 ≤ z
 ·refine gI oW Tryz.func203 Tryz.results203 ?_
  exact wR trivial trivial ah
 ·refine gI oW Tryz.func203 Tryz.results203 ?_
  exact wR trivial trivial ah
theorem I4 (z : Int) (h : 1 ≤ z ∧ z ≤ 32) : Pg.Good Tryz.prog 200 [vi z] (vb true) := by
 refine gI oW Tryz.func200 Tryz.results200 ?_
 exact wR trivial trivial ah
theorem QI (z : Int) (h : ¬ (1 ≤ z ∧ z ≤ 32)) : Pg.Good Tryz.prog 200 [vi z] (vb false) := by
 by_cases h1 : 1 ≤ z
 ·refine gI oW Tryz.func200 Tryz.results200 ?_
  exact wR trivial trivial ah
 ·refine gI oW Tryz.func200 Tryz.results200 ?_
  exact wR trivial trivial ah
theorem I5 (z : Int) (h : 2 ≤ z ∧ z ≤ 32 ∧ z % 2 = 0) : Pg.Good Tryz.prog 206 [vi z] (vb true) := by
 refine gI oW Tryz.func206 Tryz.results206 ?_
 exact wR @zC trivial ah
theorem QJ (z : Int) (h : ¬ (2 ≤ z ∧ z ≤ 32 ∧ z % 2 = 0)) : Pg.Good Tryz.prog 206 [vi z] (vb false) := by
 by_cases h1 : 2 ≤ z
 ·by_cases h2 : z ≤ 32
  ·have et : z.tmod 2 = z % 2 := zC _ _ (by omega)
   refine gI oW Tryz.func206 Tryz.results206 ?_
   exact wR @et trivial ah
  ·refine gI oW Tryz.func206 Tryz.results206 ?_
   exact wR trivial trivial ah
 ·refine gI oW Tryz.func206 Tryz.results206 ?_
  exact wR trivial trivial ah
theorem WJ (x : Fq) (ho : octE x.e) (hn : x.e.length ≤ 1000000) : Pg.Good Tryz.prog 122 [.agg (fqF x)] (vi (vFq x)) := by
 obtain ⟨z, t, lo, l, b⟩ := x
 simp only at ho hn
 unfold vFq
 simp only
 have hel := aP l
 by_cases c1 : (1 ≤ z ∧ z ≤ 32) ∧ (0 ≤ t ∧ t ≤ 1099511627776) ∧ (0 ≤ lo ∧ lo ≤ 1099511627776)
 ·rw [if_neg (fun h => h c1)]
  have k1 := IZ z c1.1
  by_cases c2 : (l.length : Int) > z
  ·rw [if_pos c2]
   refine gI oW Tryz.func122 Tryz.results122 ?_
   exact wR @aP k1 ah
  ·rw [if_neg c2]
   refine gI oW Tryz.func122 Tryz.results122 ?_
   refine wS @aP k1 ?_
   generalize hE : kT (pM l) l.length 0 = E
   refine bn (fun i : Nat => mkA [(1, .ref 0 0), (36, fzv l), (37, vi l.length), (38, vi i)] [(0, (36, fqF ⟨z, t, lo, l, b⟩))] 1 (fun _ => .top)) (fun i => i ≤ l.length ∧ kT (pM l) (l.length - i) i = E) (fun i => l.length - i) 0 [] [0] ?_ ⟨Nat.zero_le _, hE⟩ ?_
   ·exact kE
   ·rintro i ⟨hi, he⟩
    rcases Nat.lt_or_ge i l.length with hlt | hge
    ·have hg := fG l i hlt
     have hox := fM ho i
     have hoy := fM ho (i - 1)
     rw [show l.length - i = (l.length - (i + 1)) + 1 by omega] at he
     have k3 := EN (l.getD i eD).1
     have et : pM l i = if ig (l.getD i eD).1 = false then 7 else if ¬ ((1 ≤ (l.getD i eD).2.1 ∧ (l.getD i eD).2.1 ≤ 1099511627776) ∧ (l.getD i eD).2.2 = 0) then 5 else if 0 < i ∧ leK (l.getD i eD).1 (l.getD (i - 1) eD).1 = true then 19 else 0 := rfl
     generalize hxx : l.getD i eD = x at *
     obtain ⟨xk, xc, xe⟩ := x
     simp only at hox k3 et hg
     have ext : ∀ v : Int, v ≠ 0 → pM l i = v → v = E := fun v h0 h1 => by rw [qo _ _ _ (by omega)] at he; omega
     cases q1 : ig xk
     ·rw [q1] at k3 et
      have := ext 7 (by omega) (by rw [et]; rfl)
      subst this
      exact wR (aI @aP @hg) k3 ah
     ·rw [q1] at k3 et
      rw [if_neg (by simp)] at et
      by_cases q2 : (1 ≤ xc ∧ xc ≤ 1099511627776) ∧ xe = 0
      ·rw [if_neg (fun h => h q2)] at et
       have q0 := q2.2
       subst q0
       by_cases q4 : 0 < i
       ·have hg1 := fG l (i - 1) (by omega)
        have hi1 : ((i : Int) - 1).toNat = i - 1 := by omega
        generalize l.getD (i - 1) eD = y at *
        have hd := jw hox hoy
        have hle : (kl xk y.1 || decide (sB xk = sB y.1)) = leK xk y.1 := by rw [hd]; rfl
        cases q5 : leK xk y.1
        ·rw [if_neg (by rw [q5]; simp)] at et
         rw [q5] at hle
         rw [jO _ _ _ et] at he
         refine wS (aI @pgv (aI @lC (aI @hle (aI @hg (aI @hi1 @hg1))))) k3 ?_
         exact bE (i + 1) [] [0] ⟨hlt, he⟩
        ·rw [if_pos ⟨q4, q5⟩] at et
         rw [q5] at hle
         have := ext 19 (by omega) et
         subst this
         exact wR (aI @pgv (aI @lC (aI @hle (aI @hg (aI @hi1 @hg1))))) k3 ah
       ·rw [if_neg (by omega)] at et
        rw [jO _ _ _ et] at he
        refine wS (aI @pgv @hg) k3 ?_
        exact bE (i + 1) [] [0] ⟨hlt, he⟩
      ·rw [if_pos q2] at et
       have := ext 5 (by omega) et
       subst this
       by_cases q6 : 1 ≤ xc
       ·by_cases q7 : xc ≤ 1099511627776
        ·have q8 : xe ≠ 0 := fun h => q2 ⟨⟨q6, q7⟩, h⟩
         exact wR (aI @aP @hg) k3 ah
        ·exact wR (aI @aP @hg) k3 ah
       ·exact wR (aI @aP @hg) k3 ah
    ·have : i = l.length := by omega
     subst this
     rw [Nat.sub_self] at he
     have he0 : 0 = E := he
     subst he0
     exact wR @aP trivial ah
 ·rw [if_pos c1]
  by_cases c2 : 1 ≤ z ∧ z ≤ 32
  ·have k1 := IZ z c2
   by_cases a0 : 0 ≤ t
   ·by_cases a1 : t ≤ 1099511627776
    ·by_cases a2 : 0 ≤ lo
     ·refine gI oW Tryz.func122 Tryz.results122 ?_
      exact wR trivial k1 ah
     ·refine gI oW Tryz.func122 Tryz.results122 ?_
      exact wR trivial k1 ah
    ·refine gI oW Tryz.func122 Tryz.results122 ?_
     exact wR trivial k1 ah
   ·refine gI oW Tryz.func122 Tryz.results122 ?_
    exact wR trivial k1 ah
  ·have k1 := QH z c2
   refine gI oW Tryz.func122 Tryz.results122 ?_
   exact wR trivial k1 ah
theorem WL (x : Rk) (hv : ∀ l ∈ x.v, octL l) (hn : x.v.length ≤ 1000000) (hn2 : ∀ l ∈ x.v, l.length ≤ 1000000) : Pg.Good Tryz.prog 127 [.agg (rkF x)] (vi (vRk x)) := by
 obtain ⟨z, t, lo, v, b⟩ := x
 simp only at hv hn hn2
 have hv' : ∀ i, octL (v.getD i []) := fun i => by
  rcases Nat.lt_or_ge i v.length with hi | hi
  ·have : v.getD i [] = v[i] := by simp [List.getD, hi]
   rw [this]; exact hv _ (List.getElem_mem hi)
  ·have : v.getD i [] = [] := by simp [List.getD, hi]
   rw [this]; intro e he; cases he
 unfold vRk
 simp only
 have hel := dQ v
 by_cases c1 : ((2 ≤ z ∧ z ≤ 32) ∧ z % 2 = 0) ∧ (0 ≤ t ∧ t ≤ 1099511627776) ∧ (0 ≤ lo ∧ lo ≤ 1099511627776)
 ·rw [if_neg (fun h => h c1)]
  have k1 := I5 z ⟨c1.1.1.1, c1.1.1.2, c1.1.2⟩
  by_cases c2 : v.length > 41
  ·rw [if_pos c2]
   refine gI oW Tryz.func127 Tryz.results127 ?_
   exact wR @dQ k1 ah
  ·rw [if_neg c2]
   refine gI oW Tryz.func127 Tryz.results127 ?_
   refine wS @dQ k1 ?_
   generalize hE : kT (lD z v) v.length 0 = E
   generalize hR : (if E ≠ 0 then E else IP t v) = R
   refine bn (fun i : Nat => mkA [(1, .ref 0 0), (3, vi (unR v i)), (38, fzl v), (39, vi v.length), (40, vi i)] [(0, (39, rkF ⟨z, t, lo, v, b⟩))] 1 (fun _ => .top)) (fun i => i ≤ v.length ∧ kT (lD z v) (v.length - i) i = E ∧ ∀ j, j < i → (v.getD j []).length < 32) (fun i => v.length - i) 0 [] [0] ?_ ⟨Nat.zero_le _, hE, fun j hj => by omega⟩ ?_
   ·exact kE
    all_goals first | exact au rfl | skip
   ·rintro h ⟨hi, he, hlt32⟩
    rcases Nat.lt_or_ge h v.length with hlt | hge
    ·have hg := lN v h hlt
     have hoct := hv' h
     have hun := WA v h (by omega) hlt32
     rw [show v.length - h = (v.length - (h + 1)) + 1 by omega] at he
     have eRk : lD z v h = if ((v.getD h []).length : Int) ≥ z then 11 else kT (tK (v.getD h [])) (v.getD h []).length 0 := rfl
     have eun : unR v (h + 1) = unR v h + (v.getD h []).length * 2 ^ h := rfl
     have ext : ∀ c : Int, c ≠ 0 → lD z v h = c → c = R := fun c h0 h1 => by
      rw [qo _ _ _ (by omega)] at he
      rw [← hR, ← he, h1, if_pos h0]
     have hlt32' : (v.getD h []).length < 32 → ∀ j, j < h + 1 → (v.getD j []).length < 32 := fun h0 j hj => by
      rcases Nat.lt_or_ge j h with h1 | h1
      ·exact hlt32 j h1
      ·have : j = h := by omega
       rw [this]; exact h0
     generalize hlev : v.getD h [] = lev at *
     have hsl := Cc lev
     generalize hS : unR v h = S at *
     by_cases q1 : (lev.length : Int) ≥ z
     ·rw [if_pos q1] at eRk
      have := ext 11 (by omega) eRk
      subst this
      exact wR (aI @pgv (aI @hel (aI @hg @hsl))) trivial ah
     ·rw [if_neg q1] at eRk
      have hlt32'' := hlt32' (by omega)
      obtain ⟨hsh, hsh1, hsh2⟩ := WB lev.length h (by omega) (by omega)
      refine wS (aI @pgv (aI @hel (aI @hg @hsl))) trivial ?_
      refine bn (fun i : Nat => mkA [(1, .ref 0 0), (3, vi S), (4, vi h), (5, fzs lev), (38, fzl v), (39, vi v.length), (40, vi h), (50, fzs lev), (51, vi lev.length), (52, vi i)] [(0, (39, rkF ⟨z, t, lo, v, b⟩))] 1 (fun _ => .top)) (fun i => i ≤ lev.length ∧ kT (tK lev) (lev.length - i) i = lD z v h) (fun i => lev.length - i) 0 [] [0] ?_ ⟨Nat.zero_le _, eRk.symm⟩ ?_
      ·exact kE
      ·rintro i ⟨hi2, he2⟩
       rcases Nat.lt_or_ge i lev.length with hlt2 | hge2
       ·have hg2 := jX lev i hlt2
        rw [show lev.length - i = (lev.length - (i + 1)) + 1 by omega] at he2
        have k3 := EN (lev.getD i [])
        have eLv : tK lev i = if ig (lev.getD i []) = false then 7 else if 0 < i ∧ kl (lev.getD i []) (lev.getD (i - 1) []) = true then 19 else 0 := rfl
        have hox := ny hoct i
        generalize lev.getD i [] = xk at *
        have ext2 : ∀ c : Int, c ≠ 0 → tK lev i = c → c = R := fun c h0 h1 => by
         rw [qo _ _ _ (by omega), h1] at he2
         exact ext c h0 he2.symm
        cases q2 : ig xk
        ·rw [q2] at k3 eLv
         have := ext2 7 (by omega) (by rw [eLv]; rfl)
         subst this
         exact wR (aI @pgv (aI @hel (aI @hg (aI @hsl @hg2)))) k3 ah
        ·rw [q2] at k3 eLv
         rw [if_neg (by simp)] at eLv
         by_cases q4 : 0 < i
         ·have hg3 := jX lev (i - 1) (by omega)
          have hi1 : ((i : Int) - 1).toNat = i - 1 := by omega
          generalize lev.getD (i - 1) [] = yk at *
          cases q5 : kl xk yk
          ·rw [if_neg (by rw [q5]; simp)] at eLv
           rw [jO _ _ _ eLv] at he2
           refine wS (aI @pgv (aI @hel (aI @hg (aI @hsl (aI @hg2 (aI @hg3 (aI @hi1 (aI @lC @q5)))))))) k3 ?_
           exact bE (i + 1) [] [0] ⟨hlt2, he2⟩
          ·rw [if_pos ⟨q4, q5⟩] at eLv
           have := ext2 19 (by omega) eLv
           subst this
           exact wR (aI @pgv (aI @hel (aI @hg (aI @hsl (aI @hg2 (aI @hg3 (aI @hi1 (aI @lC @q5)))))))) k3 ah
         ·rw [if_neg (by omega)] at eLv
          rw [jO _ _ _ eLv] at he2
          refine wS (aI @pgv (aI @hel (aI @hg (aI @hsl @hg2)))) k3 ?_
          exact bE (i + 1) [] [0] ⟨hlt2, he2⟩
       ·have : i = lev.length := by omega
        subst this
        rw [Nat.sub_self] at he2
        have he3 : lD z v h = 0 := he2.symm
        rw [jO _ _ _ he3] at he
        refine wS (aI @pgv (aI @hel (aI @hg (aI @hsl @hsh)))) trivial ?_
        (refine bu (h + 1) [] [0] (⟨hlt, he, hlt32''⟩) (by first | omega | (simp only [List.length_cons]; omega)) ?_; (refine aN ?_ ?_ (bG _ _ _) (by decide) (by decide) (by decide) (by decide); (repeat' (first | exact trivial | refine aG _ _ rfl rfl ?_ ?_)); all_goals (try simp only [pgs, pgl, pgx, pgf, pgw, ay, aJ, az, aK, aZ, bV, bD, pgn, simprocAttr]); all_goals (try (repeat' (first | apply aI))); all_goals (try (first | exact trivial | exact au (by omega) | exact aU rfl | exact ak rfl rfl | exact bg rfl))))
        all_goals first | exact au (by rw [eun]) | skip
    ·have : h = v.length := by omega
     subst this
     rw [Nat.sub_self] at he
     have he0 : 0 = E := he
     subst he0
     rw [if_neg (by omega)] at hR
     unfold IP at hR
     by_cases q6 : 0 < v.length
     ·have hg := lN v (v.length - 1) (by omega)
      have hi1 : ((v.length : Int) - 1).toNat = v.length - 1 := by omega
      generalize v.getD (v.length - 1) [] = lev at *
      have hsl := Cc lev
      by_cases q7 : lev.length = 0
      ·rw [if_pos ⟨q6, q7⟩] at hR
       subst hR
       exact wR (aI @pgv (aI @hel (aI @hg (aI @hsl @hi1)))) trivial ah
      ·rw [if_neg (by omega)] at hR
       by_cases q8 : unR v v.length = t
       ·rw [if_neg (by omega)] at hR
        subst hR
        exact wR (aI @pgv (aI @hel (aI @hg (aI @hsl @hi1)))) trivial ah
       ·rw [if_pos q8] at hR
        subst hR
        exact wR (aI @pgv (aI @hel (aI @hg (aI @hsl @hi1)))) trivial ah
     ·rw [if_neg (by omega)] at hR
      by_cases q8 : unR v v.length = t
      ·rw [if_neg (by omega)] at hR
       subst hR
       exact wR (aI @pgv @hel) trivial ah
      ·rw [if_pos q8] at hR
       subst hR
       exact wR (aI @pgv @hel) trivial ah
 ·rw [if_pos c1]
  by_cases c2 : 2 ≤ z ∧ z ≤ 32 ∧ z % 2 = 0
  ·have k1 := I5 z c2
   by_cases a0 : 0 ≤ t
   ·by_cases a1 : t ≤ 1099511627776
    ·by_cases a2 : 0 ≤ lo
     ·refine gI oW Tryz.func127 Tryz.results127 ?_
      exact wR trivial k1 ah
     ·refine gI oW Tryz.func127 Tryz.results127 ?_
      exact wR trivial k1 ah
    ·refine gI oW Tryz.func127 Tryz.results127 ?_
     exact wR trivial k1 ah
   ·refine gI oW Tryz.func127 Tryz.results127 ?_
    exact wR trivial k1 ah
  ·have k1 := QJ z c2
   refine gI oW Tryz.func127 Tryz.results127 ?_
   exact wR trivial k1 ah
def wo (b : Bool) : Int := if b = true then 1 else 0
theorem Bz (b : Bool) : 0 ≤ wo b ∧ wo b ≤ 4611686018427387904 := by cases b <;> decide
theorem Ff (b : Bool) : ae (wo b).toNat = gy b := by cases b <;> decide
theorem gJ {x : Int} {xs : List Int} (h : 0 ≤ x ∧ x ≤ 4611686018427387904) (h2 : rH xs) : rH (x :: xs) := by
 intro y hy
 rcases List.mem_cons.1 hy with e | e
 ·rw [e]; exact h
 ·exact h2 y e
theorem sN : rH [] := fun y hy => nomatch hy
theorem pU (x : Int) (xs : List Int) : aS (x :: xs) = ae x.toNat ++ aS xs := rfl
theorem pW : aS [] = [] := rfl
theorem NV (x : Rk) (h : vRk x = 0) (hv : ∀ l ∈ x.v, octL l) (hn : x.v.length ≤ 1000000) (hn2 : ∀ l ∈ x.v, l.length ≤ 1000000) : Pg.Good Tryz.prog 170 [.agg (rkF x)] (.tup [fzb (je x), vi 0]) := by
 have h1 := WL x hv hn hn2
 rw [h] at h1
 have hkeys := vY h
 obtain ⟨i1, i2, i2', i3, i4⟩ := uG h
 have h2 := aaX [x.z, x.t, x.l, wo x.b, (x.v.length : Int)] (gJ (by omega) (gJ (by omega) (gJ (by omega) (gJ (Bz _) (gJ (by omega) sN))))) (by simp)
 have e2 : aS [x.z, x.t, x.l, wo x.b, (x.v.length : Int)] = ae x.z.toNat ++ ae x.t.toNat ++ ae x.l.toNat ++ gy x.b ++ ae x.v.length := by
  simp only [pU, pW, Ff, Int.toNat_natCast, List.append_nil, List.append_assoc]
 rw [e2] at h2
 have l2 := ax x.z.toNat
 have l3 := ax x.t.toNat
 have l3' := ax x.l.toNat
 have l4 := fU x.b
 have l5 := ax x.v.length
 have hnx := fun i (hi : i < x.v.length) => oz iQ [] x.v i hi
 have hln := fun i => fQ iQ 1280 x.v i (fun l hl => by obtain ⟨j, hj, he⟩ := gG [] hl; rw [← he]; exact Bq _ (hkeys j hj) (i4 j))
 unfold je
 generalize hA : ae x.z.toNat ++ ae x.t.toNat ++ ae x.l.toNat ++ gy x.b ++ ae x.v.length = A at *
 have hAl : A.length ≤ 37 := by rw [← hA]; simp only [List.length_append]; omega
 clear hA l2 l3 l3' l4 l5 e2
 refine Good.fzt (vs := [ob 0 (A ++ x.v.flatMap iQ), vi 0]) ?_ rfl ⟨aj _, aj _, trivial⟩
 have hal := ai A
 have hol : ∀ i, octL (x.v.getD i []) := fun i => by
  rcases Nat.lt_or_ge i x.v.length with hi | hi
  ·exact hv _ (jl _ _ _ hi)
  ·rw [List.getD, List.getElem?_eq_none hi]; intro e he; cases he
 obtain ⟨z, tt, tl, l, bb⟩ := x
 simp only at *
 have hil := dQ l
 cases bb
 all_goals
  refine gI oW Tryz.func170 Tryz.results170 ?_
  (repeat' (first | (simp (disch := first | exact dqz | fail) only [pgz, simprocAttr, hil, hal, id_eq.{1}]) | ((with_reducible show cu _ _ _ _ _ _); first | refine cU h1 ?_ | refine dh [1] _ (h2) rfl rfl rfl rfl ?_) | ((with_reducible first | apply aQ | apply aB | apply bz) <;> intro hc <;> (try simp only [hc]) <;> (try simp only [pgd] at hc)) | (with_reducible refine cK ?_)))
  refine bn (fun i : Nat => mkA [(6, ob 0 (A ++ (l.take i).flatMap iQ)), (33, .sl .fz 1 (lv l)), (34, vi l.length), (35, vi i)] [] 1 (fun _ => .top)) (fun i => i ≤ l.length) (fun i => l.length - i) 0 [2] [] ?_ (Nat.zero_le _) ?_
  ·(refine aN ?_ ?_ (bG _ _ _) (by decide) (by decide) (by decide) (by decide); (repeat' (first | exact trivial | refine aG _ _ rfl rfl ?_ ?_)); all_goals (try simp only [pgs, pgl, pgx, pgf, pgw, ay, aJ, az, aK, aZ, bV, bD, pgn, simprocAttr]); all_goals (try (repeat' (first | apply aI))); all_goals (try (first | exact trivial | exact au (by omega) | exact aU rfl | exact ak rfl rfl | exact bg rfl)))
   all_goals first | exact ak rfl (by simp) | exact au (by omega) | skip
  ·intro i hi
   replace hi : i ≤ l.length := hi
   have hbl := ai (A ++ (l.take i).flatMap iQ)
   have hl2 : (A ++ (l.take i).flatMap iQ).length ≤ 90000000 := by have := hln i; rw [List.length_append]; omega
   rcases Nat.lt_or_ge i l.length with hlt | hge
   ·have hg := lN l i hlt
    have hn1 := hnx i hlt
    have hk := hkeys i hlt
    have ho1 := hol i
    have hlen := i4 i
    generalize l.getD i [] = y at *
    have hyl := Cc y
    have hE : iQ y = ae y.length ++ y.flatMap bT := rfl
    rw [hE, ← List.append_assoc] at hn1
    have k2 := fun e bx n h (id j : Nat) (hid : id < n) hj => aaY e bx n h id (A ++ (l.take i).flatMap iQ) [(y.length : Int)] (gJ (by omega) sN) (by simp) (by simp) (by omega) hid j hj
    have e3 : aS [(y.length : Int)] = ae y.length := by simp only [pU, pW, Int.toNat_natCast, List.append_nil]
    rw [e3] at k2
    have q2 := ax y.length
    have hkn := fun j (hj : j < y.length) => oz bT [] y j hj
    have hkt := fun j => fQ bT 41 y j (fun k hk1 => by have := iG k; have := hk k hk1; omega)
    generalize ae y.length = u at *
    have p2 : (A ++ (l.take i).flatMap iQ ++ u).length ≤ 90000009 := by rw [List.length_append]; omega
    have p3 : A ++ (l.take i).flatMap iQ ++ u ++ y.flatMap bT = A ++ (l.take (i + 1)).flatMap iQ := by rw [hn1]; simp only [List.append_assoc]
    generalize hMN : (l.take (i + 1)).flatMap iQ = MN at *
    generalize A ++ (l.take i).flatMap iQ = M at *
    (repeat' (first | (simp (disch := first | exact dqz | fail) only [pgz, simprocAttr, hil, hg, hyl, hbl]) | ((with_reducible show cu _ _ _ _ _ _); first | refine eu _ (k2 _ _ _ _ _ _ (by omega) rfl) rfl ?_) | ((with_reducible first | apply aQ | apply aB | apply bz) <;> intro hc <;> (try simp only [hc]) <;> (try simp only [pgd] at hc)) | (with_reducible refine cK ?_)))
    generalize M ++ u = N at *
    refine bn (fun j : Nat => mkA [(6, ob 0 (N ++ (y.take j).flatMap bT)), (33, .sl .fz 1 (lv l)), (34, vi l.length), (35, vi i), (44, .sl .fz 1 (sv y)), (45, vi y.length), (46, vi j)] [] 1 (fun _ => .top)) (fun j => j ≤ y.length) (fun j => y.length - j) 0 [0] [] ?_ (Nat.zero_le _) ?_
    ·(refine aN ?_ ?_ (bG _ _ _) (by decide) (by decide) (by decide) (by decide); (repeat' (first | exact trivial | refine aG _ _ rfl rfl ?_ ?_)); all_goals (try simp only [pgs, pgl, pgx, pgf, pgw, ay, aJ, az, aK, aZ, bV, bD, pgn, simprocAttr]); all_goals (try (repeat' (first | apply aI))); all_goals (try (first | exact trivial | exact au (by omega) | exact aU rfl | exact ak rfl rfl | exact bg rfl)))
     all_goals first | exact ak rfl (by simp) | exact au (by omega) | skip
    ·intro j hj
     replace hj : j ≤ y.length := hj
     have hbl2 := ai (N ++ (y.take j).flatMap bT)
     have hl3 : (N ++ (y.take j).flatMap bT).length ≤ 95000000 := by have := hkt j; rw [List.length_append]; omega
     rcases Nat.lt_or_ge j y.length with hlt2 | hge2
     ·have hg2 := jX y j hlt2
      have hkl := hk _ (jl y j [] hlt2)
      have hok := ny ho1 j
      have hkn1 := hkn j hlt2
      have k3 := ahc (y.getD j []) hok (by omega)
      have q3 := iG (y.getD j [])
      have p5 := bQ (N ++ (y.take j).flatMap bT) (bT (y.getD j []))
      rw [List.append_assoc N, ← hkn1] at p5
      generalize bT (y.getD j []) = w at *
      generalize y.getD j [] = k at *
      have hwl := ai w
      (repeat' (first | (simp (disch := first | exact dqz | fail) only [pgz, simprocAttr, hil, hg, hg2, hyl, hbl2, hwl, p5]) | ((with_reducible show cu _ _ _ _ _ _); first | refine cU k3 ?_) | ((with_reducible first | apply aQ | apply aB | apply bz) <;> intro hc <;> (try simp only [hc]) <;> (try simp only [pgd] at hc)) | (with_reducible refine cK ?_)))
      (refine bu (j + 1) [0] [] (hlt2) (by first | omega | (simp only [List.length_cons]; omega)) ?_; (refine aN ?_ ?_ (bG _ _ _) (by decide) (by decide) (by decide) (by decide); (repeat' (first | exact trivial | refine aG _ _ rfl rfl ?_ ?_)); all_goals (try simp only [pgs, pgl, pgx, pgf, pgw, ay, aJ, az, aK, aZ, bV, bD, pgn, simprocAttr]); all_goals (try (repeat' (first | apply aI))); all_goals (try (first | exact trivial | exact au (by omega) | exact aU rfl | exact ak rfl rfl | exact bg rfl))))
      all_goals first | exact ak rfl rfl | exact au (by omega) | skip
     ·have : j = y.length := by omega
      subst this
      rw [List.take_length, p3]
      (repeat' (first | (simp (disch := first | exact dqz | fail) only [pgz, simprocAttr, hil, hg, hyl]) | ((with_reducible first | apply aQ | apply aB | apply bz) <;> intro hc <;> (try simp only [hc]) <;> (try simp only [pgd] at hc)) | (with_reducible refine cK ?_)))
      (refine bu (i + 1) [0] [] (hlt) (by first | omega | (simp only [List.length_cons]; omega)) ?_; (refine aN ?_ ?_ (bG _ _ _) (by decide) (by decide) (by decide) (by decide); (repeat' (first | exact trivial | refine aG _ _ rfl rfl ?_ ?_)); all_goals (try simp only [pgs, pgl, pgx, pgf, pgw, ay, aJ, az, aK, aZ, bV, bD, pgn, simprocAttr]); all_goals (try (repeat' (first | apply aI))); all_goals (try (first | exact trivial | exact au (by omega) | exact aU rfl | exact ak rfl rfl | exact bg rfl))))
      all_goals first | exact ak rfl (by rw [hMN]) | exact au (by omega) | skip
   ·have : i = l.length := by omega
    subst this
    rw [List.take_length]
    (repeat' (first | (simp (disch := first | exact dqz | fail) only [pgz, simprocAttr, hil]) | ((with_reducible first | apply aQ | apply aB | apply bz) <;> intro hc <;> (try simp only [hc]) <;> (try simp only [pgd] at hc)) | (with_reducible refine cK ?_)))
    exact rE [0]
end Go.Proofs.YtaoejnjkmfkbeaaGreat
section
namespace Go.Pg
open Go
section
variable {P : Program} [Tb P] {s : St} {d : Option Nat} {ty : TypeId} {pos : String} {af : Array Edge} {g : Option (Nat × Bool)} {K : Kd → St → Prop}
theorem CU (t : TypeId) : aH P s ⟨d, .makeMap t none, ty, pos, af, g⟩ K = iV (uj P s t) d .x K := by simp only [aH, kqo, dn, kx, qv, rv, xv, zv, Op.operands, bM, bI, aV, or_false, false_or]
theorem Fg (t : TypeId) (x i : Operand) (ok : Bool) : aH P s ⟨d, .lookup t x i ok, ty, pos, af, g⟩ K = lJ (lkV P t (s.ev x) (s.ev i) ok) s d [s.ev x, s.ev i] K := by simp only [aH, kqo, dn, kx, qv, rv, xv, zv, Op.operands, List.map_toArray, List.map_cons, List.map_nil, bI, aV, or_false]
theorem zh (t : TypeId) (m k x : Operand) : aH P s ⟨d, .mapUpdate t m k x, ty, pos, af, g⟩ K = iV (Jv P s t (s.ev m) (s.ev k) (s.ev x)) d .x K := by simp only [aH, kqo, dn, kx, qv, rv, xv, zv, Op.operands, bM, bI, aV, or_false, false_or]
end
section
variable (P : Program) (e : Nat → V) (b : Nat → Option (TypeId × List V)) (n : Nat) (h : Nat → V) (t tm : TypeId) (id : Nat) (es es' : List (ByteArray × Value)) (k : ByteArray) (v : Value)
theorem WM : uj P ⟨e, b, n, h⟩ t = (zZ P t).map fun _ => (.mp (.own n t) [], ⟨e, b, n + 1, h⟩) := rfl
theorem aeE : lkV P t (.mp (.own id tm) es) (.c (.string k)) false = (zZ P t).bind fun p => if fK P p.1 = true then (lS P p.2).map fun z => .c ((wQ es k).getD z) else none := rfl
theorem aeF : lkV P t (.mp (.own id tm) es) (.c (.string k)) true = (zZ P t).bind fun p => if fK P p.1 = true then (lS P p.2).map fun z => .tup [.c ((wQ es k).getD z), .c (.bool (wQ es k).isSome)] else none := rfl
theorem adr : Jv P ⟨e, b, n, h⟩ t (.mp (.own id tm) es) (.c (.string k)) (.c v) = (zZ P t).bind fun p => if fK P p.1 = true then some (.top, ⟨iM (jQ id (mO es k v)) e, mX (jQ id (mO es k v)) b, n, iM (jQ id (mO es k v)) h⟩) else none := rfl
theorem QK : jQ id es' (.mp (.own id tm) es) = .mp (.own id tm) es' := if_pos rfl
theorem aa2 : jQ id es' (.c v) = .c v := rfl
theorem WN (j : Nat) (xs : List V) : jQ id es' (.sl .fz j xs) = .sl .fz j xs := rfl
theorem WO (j i : Nat) (xs : List V) : jQ id es' (.sl (.own i t) j xs) = aC id (.sl (.own i t) j xs) := rfl
theorem QL (c o : Nat) : jQ id es' (.ref c o) = .ref c o := rfl
theorem QM (l : List V) : jQ id es' (.agg l) = aC id (.agg l) := rfl
theorem QN (l : List V) : jQ id es' (.tup l) = aC id (.tup l) := rfl
theorem WP (f : FuncId) (l m : List V) : jQ id es' (.fn f l m) = aC id (.fn f l m) := rfl
theorem QO (j : Nat) (xs : List V) (i o : Nat) : jQ id es' (.el .fz j xs i o) = .el .fz j xs i o := rfl
theorem QP : jQ id es' .top = .top := by show aC id .top = .top; unfold aC; split <;> rfl
theorem ads (p : Tag → Bool) (q : Nat → Bool) (tp : Bool) (tg : Tag) : V.any p q tp (.mp tg es) = p tg := rfl
theorem adt (τ : Tag → Tag) (ρ : Nat → Nat) (tg : Tag) : V.map τ ρ (.mp tg es) = .mp (τ tg) es := rfl
theorem QQ (i j : Nat) (hj : (j == i) = false) : aC i (.mp (.own j t) es) = .mp (.own j t) es := by
 show (if (j == i) = true then _ else _) = _
 rw [hj]; rfl
end
def pgp := aI @CU (aI @Fg (aI @zh (aI WM (aI aeE (aI aeF (aI adr (aI QK (aI aa2 (aI WN (aI WO (aI QL (aI QM (aI QN (aI WP (aI QO (aI QP (aI ads (aI adt QQ))))))))))))))))))
end Go.Pg
end
namespace Go.Proofs.YtaoejnjkmfkbeaaGreat
open Go Go.Pg
theorem NW : ∀ (a b : List UInt8), Lib.compareBytes a b = if Op.bytesLess a b = true then -1 else if Op.bytesLess b a = true then 1 else 0
 | [], [] => rfl
 | [], _ :: _ => rfl
 | _ :: _, [] => rfl
 | x :: a, y :: b => by
  have h := NW a b
  unfold Lib.compareBytes
  simp only [Op.bytesLess, Bool.or_eq_true, decide_eq_true_eq, Bool.and_eq_true, beq_iff_eq]
  by_cases h1 : x < y
  ·simp [h1]
  ·by_cases h2 : y < x
   ·have hne : x ≠ y := fun e => by subst e; exact h1 h2
    simp [h1, h2, hne]
   ·have he : x = y := UInt8.le_antisymm (UInt8.not_lt.1 h2) (UInt8.not_lt.1 h1)
    subst he
    simp [h1, h]
def BA (a b : List Nat) : Int := if kl a b = true then -1 else if kl b a = true then 1 else 0
theorem WQ (a b : List Nat) : GoodX Tryz.prog 280 [vs a, vs b] (vi (BA a b)) := by
 rintro L w cargs ⟨_, _, rfl, rfl, _, _, rfl, rfl, rfl⟩
 refine ⟨_, ?_, rfl⟩
 rw [run_callFunc_extern Tryz.func280 (by kernel_rfl) (by kernel_rfl) (by kernel_rfl) (e := Extern.BytealgCompare.compare) (by kernel_rfl)]
 show ((Extern.BytealgCompare.compare #[.string (sB a), .string (sB b)]).run Tryz.prog w).andThen _ = _
 rw [Lib.run_compareString, NW, ← ByteArray.toList_eq, ← ByteArray.toList_eq]
 rfl
theorem I7 (a b : List Nat) : Pg.Good Tryz.prog 256 [vs a, vs b] (vi (BA a b)) := by
 refine gI oW Tryz.func256 Tryz.results256 ?_
 (repeat' first | refine wP trivial trivial ?_ | refine cZ ((WQ a b).z _) ?_ | refine tS ?_ ?_ <;> intro hc | fail)
 exact rE []
theorem Fh (a b : List Nat) : Pg.Good Tryz.prog 236 [vs a, vs b] (vi (BA a b)) := by
 refine gI oW Tryz.func236 Tryz.results236 ?_
 exact wR trivial (I7 a b) ah
theorem sO (a : Int) : Pg.Good Tryz.prog 255 [vi a] (vb false) := by
 refine gI oW Tryz.func255 Tryz.results255 ?_
 exact wR trivial trivial ah
def WR (a b : Int) : Int := if a < b then -1 else if b < a then 1 else 0
theorem QR (a b : Int) : Pg.Good Tryz.prog 235 [vi a, vi b] (vi (WR a b)) := by
 unfold WR
 by_cases h1 : a < b
 ·rw [if_pos h1]
  refine gI oW Tryz.func235 Tryz.results235 ?_
  exact wR trivial (aI (sO a) (sO b)) ah
 ·rw [if_neg h1]
  by_cases h2 : b < a
  ·rw [if_pos h2]
   refine gI oW Tryz.func235 Tryz.results235 ?_
   exact wR trivial (aI (sO a) (sO b)) ah
  ·rw [if_neg h2]
   refine gI oW Tryz.func235 Tryz.results235 ?_
   exact wR trivial (aI (sO a) (sO b)) ah
def Fj : List Int → Int
 | [] => 0
 | x :: l => if x = 0 then Fj l else x
theorem agb (l : List Int) (hn : l.length ≤ 1000000) : Pg.Good Tryz.prog 234 [fzi l] (vi (Fj l)) := by
 have hil := bC l
 refine gI oW Tryz.func234 Tryz.results234 ?_
 refine wS @hil trivial ?_
 refine bn (fun i : Nat => mkA [(3, vi 0), (6, fzi l), (7, vi l.length), (8, vi i)] [] 0 (fun _ => .top)) (fun i => i ≤ l.length ∧ Fj (l.drop i) = Fj l) (fun i => l.length - i) 0 [] [] ?_ ⟨Nat.zero_le _, rfl⟩ ?_
 ·exact kE
 ·rintro i ⟨hi, he⟩
  rcases Nat.lt_or_ge i l.length with hlt | hge
  ·have hg := gQ l i hlt
   rw [List.drop_eq_getElem_cons hlt] at he
   have hgd : l.getD i 0 = l[i] := by simp [List.getD, hlt]
   rw [hgd] at hg
   generalize l[i] = x at *
   by_cases h0 : x = 0
   ·subst h0
    have he2 : Fj (l.drop (i + 1)) = Fj l := he
    refine wS (aI @hil @hg) trivial ?_
    exact bE (i + 1) [] [] ⟨hlt, he2⟩
   ·have he2 : x = Fj l := by rw [← he]; exact (if_neg h0).symm
    rw [← he2]
    exact wR (aI @hil @hg) trivial ah
  ·have : i = l.length := by omega
   subst this
   rw [List.drop_length] at he
   rw [← he]
   exact wR @hil trivial ah
def LD (a b : En) : Int := if b.2.1 < a.2.1 then -1 else if a.2.1 < b.2.1 then 1 else BA a.1 b.1
theorem aa3 (a b : En) : Fj [WR b.2.1 a.2.1, BA a.1 b.1] = LD a b := by
 unfold LD WR
 by_cases h1 : b.2.1 < a.2.1
 ·rw [if_pos h1, if_pos h1]; rfl
 ·rw [if_neg h1, if_neg h1]
  by_cases h2 : a.2.1 < b.2.1
  ·rw [if_pos h2, if_pos h2]; rfl
  ·rw [if_neg h2, if_neg h2]
   show (if (0 : Int) = 0 then Fj [BA a.1 b.1] else 0) = _
   rw [if_pos rfl]
   show (if BA a.1 b.1 = 0 then 0 else BA a.1 b.1) = _
   split
   ·rename_i h; rw [h]
   ·rfl
theorem aa4 {a b : List Nat} : BA a b < 0 ↔ kl a b = true := by
 unfold BA
 by_cases h : kl a b = true
 ·simp [h]
 ·by_cases h2 : kl b a = true <;> simp [h, h2]
theorem aa5 (a b : En) : decide (LD a b < 0) = bfE a b := by
 unfold LD bfE
 by_cases h1 : b.2.1 < a.2.1
 ·simp [h1]
 ·by_cases h2 : a.2.1 < b.2.1
  ·have : ¬ a.2.1 = b.2.1 := by omega
   simp [h1, h2, this]
  ·have : a.2.1 = b.2.1 := by omega
   rw [if_neg h1, if_neg h2]
   simp only [this, Int.lt_irrefl, decide_false, Bool.false_or, decide_true, Bool.true_and]
   rw [Bool.eq_iff_iff, decide_eq_true_eq]
   exact aa4
theorem QS (a b : En) : Pg.Good Tryz.prog 201 [.agg [vs a.1, vi a.2.1, vi a.2.2], .agg [vs b.1, vi b.2.1, vi b.2.2]] (vi (LD a b)) := by
 have h1 := QR b.2.1 a.2.1
 have h2 := Fh a.1 b.1
 have h3 := agb [WR b.2.1 a.2.1, BA a.1 b.1] (by simp)
 rw [aa3] at h3
 refine gI oW Tryz.func201 Tryz.results201 ?_
 exact wR trivial (aI h1 (aI h2 h3)) ah
end Go.Proofs.YtaoejnjkmfkbeaaGreat
