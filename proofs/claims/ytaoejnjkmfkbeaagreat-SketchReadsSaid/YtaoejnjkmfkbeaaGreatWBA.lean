/-
  Texts of this claim, merged; own names are short.
-/
import Derived.Test.YtaoejnjkmfkbeaaGreatWAZ
set_option linter.unusedVariables false
set_option linter.unusedSimpArgs false
set_option linter.unusedSectionVars false
set_option linter.defProp false
set_option maxRecDepth 100000
set_option maxHeartbeats 8000000
namespace Go.Proofs.YtaoejnjkmfkbeaaGreat
open Go Go.Pg
theorem BJ {l : List En} (h : octE l) (i : Nat) (e : En) (he : oct e.1) : octE (l.set i e) := by
 intro x hx
 rcases List.mem_or_eq_of_mem_set hx with h1 | rfl
 ·exact h x h1
 ·exact he
theorem WV {l : List En} (h : octE l) (e : En) (he : oct e.1) : octE (l ++ [e]) := by
 intro x hx
 rcases List.mem_append.1 hx with h1 | h1
 ·exact h x h1
 ·rw [List.mem_singleton.1 h1]; exact he
theorem WW (t : Tp) (k : List Nat) (w : Int) (ho : octE t.e) (hk : oct k) (hn : t.e.length ≤ 1000000) : octE (vS t k w).1.e ∧ (vS t k w).1.e.length ≤ 1000000 := by
 unfold vS
 split
 ·exact ⟨(fun e he => by cases he), Nat.zero_le _⟩
 ·rename_i h1
  have h1 := Classical.byContradiction h1
  split
  ·exact ⟨(fun e he => by cases he), Nat.zero_le _⟩
  ·have h2 := uC h1
   have key : octE (xO t k w).1 ∧ (xO t k w).1.length ≤ t.e.length + 1 := by
    unfold xO
    split
    ·exact ⟨BJ ho _ _ (fM ho _), by simp⟩
    ·split
     ·exact ⟨WV ho _ hk, by simp⟩
     ·exact ⟨BJ ho _ _ hk, by simp⟩
   refine ⟨fun e he => key.1 e ((NJ _ _ _).1 he), ?_⟩
   show (srt bfE (xO t k w).1).length ≤ _
   rw [NH]; omega
theorem I9 (d : Int) {l : List En} (h : octE l) : octE (nM d l) := by
 induction l with
 | nil => exact h
 | cons y l ih =>
  have h2 : octE l := fun e he => h e (by simp [he])
  rw [DK]
  split
  ·intro e he
   rcases List.mem_cons.1 he with rfl | he
   ·exact h y (by simp)
   ·exact ih h2 e he
  ·exact ih h2
theorem Ja (x : En) {l : List En} (hx : oct x.1) (h : octE l) : octE (lZ x l) := by
 intro e he
 rcases (Wv x e l).1 he with rfl | he
 ·exact hx
 ·exact h e he
theorem WX (t : Fq) (k : List Nat) (w : Int) (ho : octE t.e) (hk : oct k) (hn : t.e.length ≤ 1000000) : octE (vT t k w).1.e ∧ (vT t k w).1.e.length ≤ 1000000 := by
 unfold vT
 split
 ·exact ⟨(fun e he => by cases he), Nat.zero_le _⟩
 ·rename_i h1
  have h1 := Classical.byContradiction h1
  split
  ·exact ⟨(fun e he => by cases he), Nat.zero_le _⟩
  ·have h2 := uD h1
   show octE (kw t k w).1 ∧ (kw t k w).1.length ≤ _
   have hl := IL (iH w t.e) t.e
   unfold kw
   split
   ·exact ⟨BJ ho _ _ (fM ho _), by simp; omega⟩
   ·split
    ·exact ⟨Ja _ hk ho, by simp only [IK]; omega⟩
    ·simp only
     split
     ·exact ⟨Ja _ hk (I9 _ ho), by simp only [IK]; omega⟩
     ·exact ⟨I9 _ ho, by omega⟩
def xQ (v : List (List (List Nat))) : Prop := ∀ l ∈ v, octL l
theorem Jb {v : List (List (List Nat))} (h : xQ v) (i : Nat) : octL (v.getD i []) := by
 rcases Nat.lt_or_ge i v.length with hi | hi
 ·exact h _ (jl _ _ _ hi)
 ·rw [List.getD, List.getElem?_eq_none hi]; intro e he; cases he
theorem WY {v : List (List (List Nat))} (h : xQ v) (i : Nat) (l : List (List Nat)) (hl : octL l) : xQ (v.set i l) := by
 intro x hx
 rcases List.mem_or_eq_of_mem_set hx with h1 | rfl
 ·exact h x h1
 ·exact hl
theorem QT (k : List Nat) (hk : oct k) (ps : List Int) (v : List (List (List Nat))) (hv : xQ v) (i : Nat) : xQ (oq k ps v i) := by
 induction i with
 | zero => exact hv
 | succ i ih =>
  show xQ (CQ k (oq k ps v i) (ps.getD i 0).toNat)
  unfold CQ
  refine WY ?_ _ _ ?_
  ·intro l hl
   unfold jS at hl
   rcases List.mem_append.1 hl with h1 | h1
   ·exact ih l h1
   ·rw [List.eq_of_mem_replicate h1]; intro e he; cases he
  ·intro e he
   rcases List.mem_append.1 he with h1 | h1
   ·exact Jb ih _ e h1
   ·rw [List.mem_singleton.1 h1]; exact hk
def WZ (s : Stl) : Prop := octL s.2.1 ∧ ∀ l ∈ s.2.2.2.2, octL l ∧ l.length ≤ 32
theorem LJ (v : List (List (List Nat))) (z : Int) (hz : z ≤ 32) (co : List Nat) (s : Stl) (hv : xQ v) (h : WZ s) : WZ (jb v z co s) := by
 obtain ⟨h1, h2⟩ := h
 have hc : octL (fH v s) := by
  intro e he
  unfold fH at he
  rw [NJ] at he
  split at he
  ·rcases List.mem_append.1 he with he | he
   ·exact Jb hv _ e he
   ·exact h1 e he
  ·exact h1 e he
 unfold jb
 split
 ·rename_i hlt
  refine ⟨(fun e he => by cases he), fun l hl => ?_⟩
  rcases List.mem_append.1 hl with hl | hl
  ·exact h2 l hl
  ·rw [List.mem_singleton.1 hl]; exact ⟨hc, by omega⟩
 ·refine ⟨?_, fun l hl => ?_⟩
  ·intro e he
   unfold evN at he
   obtain ⟨j, _, rfl⟩ := List.mem_map.1 he
   exact ny hc _
  ·rcases List.mem_append.1 hl with hl | hl
   ·exact h2 l hl
   ·rw [List.mem_singleton.1 hl]
    exact ⟨fun e he => hc e (List.mem_of_mem_drop he), by rw [List.length_drop]; omega⟩
theorem W9 (v : List (List (List Nat))) (z : Int) (hz : z ≤ 32) (co : List Nat) (hv : xQ v) : ∀ (f : Nat) (s : Stl), WZ s → WZ (rG v z co f s) := by
 intro f
 induction f with
 | zero => intro s h; exact h
 | succ f ih =>
  intro s h
  unfold rG
  split
  ·exact ih _ (LJ v z hz co s hv h)
  ·exact h
theorem QU : ∀ (f : Nat) (l : List (List (List Nat))), (∀ x ∈ nz f l, x ∈ l) ∧ (nz f l).length ≤ l.length := by
 intro f
 induction f with
 | zero => intro l; exact ⟨fun x h => h, Nat.le_refl _⟩
 | succ f ih =>
  intro l
  unfold nz
  split
  ·obtain ⟨h1, h2⟩ := ih (l.take (l.length - 1))
   exact ⟨fun x hx => List.mem_of_mem_take (h1 x hx), by rw [List.length_take] at h2; omega⟩
  ·exact ⟨fun x h => h, Nat.le_refl _⟩
theorem Xa (x : Rk) (k : List Nat) (w : Int) (co : List Nat) (at' : Int) (hk : oct k) (hv : xQ x.v) (hn : x.v.length ≤ 1000000) (hm : ∀ l ∈ x.v, l.length ≤ 1000000) :
  xQ (pR x k w co at').1.v ∧ (pR x k w co at').1.v.length ≤ 1000000 ∧ ∀ l ∈ (pR x k w co at').1.v, l.length ≤ 1000000 := by
 have h0 : xQ [] ∧ ([] : List (List (List Nat))).length ≤ 1000000 ∧ ∀ l ∈ ([] : List (List (List Nat))), l.length ≤ 1000000 := ⟨(fun l hl => by cases hl), Nat.zero_le _, fun l hl => by cases hl⟩
 unfold pR
 split
 ·exact h0
 ·rename_i h1
  have h1 := Classical.byContradiction h1
  split
  ·exact h0
  ·rename_i h2
   have h2 := Classical.byContradiction h2
   split
   ·exact h0
   ·split
    ·exact ⟨hv, hn, hm⟩
    ·obtain ⟨i1, i2, i3, i4, i5⟩ := uG h1
     have hin := IV k (jy w 63) x.v (fun i => by have := IW w 63 i (by decide); omega) 31 i5 (by omega) (jy w 63).length
     have hpo := QT k hk (jy w 63) x.v hv (jy w 63).length
     have hgo := W9 (xP x k w) x.z (by omega) co hpo ((xP x k w).length * (100 + 1)) (0, [], x.l, at', []) ⟨(fun e he => by cases he), (fun l hl => by cases hl)⟩
     have hle := aaS (xP x k w) x.z co ((xP x k w).length * (100 + 1)) (0, [], x.l, at', [])
     have hpl : (xP x k w).length ≤ 63 := hin.1
     have hml : (xP x k w).length * (100 + 1) ≤ 63 * 101 := Nat.mul_le_mul_right 101 hpl
     obtain ⟨t1, t2⟩ := QU (CS x k w co at').2.2.2.2.length (CS x k w co at').2.2.2.2
     have hsl : (CS x k w co at').2.2.2.2.length ≤ 0 + (xP x k w).length * (100 + 1) := hle
     have hsg : WZ (CS x k w co at') := hgo
     show xQ (nz _ _) ∧ (nz _ _).length ≤ _ ∧ ∀ l ∈ nz _ _, _
     exact ⟨fun l hl => (hsg.2 l (t1 l hl)).1, by omega, fun l hl => by have := (hsg.2 l (t1 l hl)).2; omega⟩
abbrev zer (n : Nat) : List Int := List.replicate n 0
theorem Xb (d z s : Int) (h : 1 ≤ d ∧ d ≤ 8 ∧ 1 ≤ z ∧ z ≤ 64) : Pg.Good Tryz.prog 191 [vi d, vi z, vu s] (.tup [.agg (cmF ⟨d, z, s, zer (d * z).toNat, false⟩), vi 0]) := by
 refine Good.fzt (vs := [.agg [vi d, vi z, vu s, .sl (.own 0 3) 1 (iv (zer (d * z).toNat)), vb false], vi 0]) ?_ rfl ⟨aj _, aj _, trivial⟩
 have k1 := bH d 1 8 ⟨h.1, h.2.1⟩
 have k2 := bH z 1 64 h.2.2
 have hm := oN (d := d) (z := z) ⟨h.1, h.2.1⟩ h.2.2
 have hrep : ∀ n : Nat, List.replicate n (V.c (.int .i64 0)) = iv (zer n) := fun n => by simp [iv]
 refine gI oW Tryz.func191 Tryz.results191 ?_
 exact wR @hrep (aI k1 k2) (ids [1])
theorem Xc (p s : Int) (h : 2 ≤ p ∧ p ≤ 8) : Pg.Good Tryz.prog 192 [vi p, vu s] (.tup [.agg (llF ⟨p, s, zer (2 ^ p.toNat)⟩), vi 0]) := by
 refine Good.fzt (vs := [.agg [vi p, vu s, .sl (.own 0 3) 1 (iv (zer (2 ^ p.toNat)))], vi 0]) ?_ rfl ⟨aj _, aj _, trivial⟩
 have k1 := bH p 2 8 h
 obtain ⟨hm, hm2, _⟩ := oO h
 have hrep : ∀ n : Nat, List.replicate n (V.c (.int .i64 0)) = iv (zer n) := fun n => by simp [iv]
 generalize 2 ^ p.toNat = q at hm hm2 ⊢
 refine gI oW Tryz.func192 Tryz.results192 ?_
 exact wR (aI @hrep @hm) k1 (ids [1])
theorem Xd (p : Int) (h : 1 ≤ p ∧ p ≤ 32) : Pg.Good Tryz.prog 193 [vi p] (.tup [.agg (tpF ⟨p, 0, [], false⟩), vi 0]) := by
 refine Good.fzt (vs := [.agg [vi p, vi 0, nls, vb false], vi 0]) ?_ rfl ⟨.inr ⟨_, _, rfl, rfl, ⟨.inl rfl, .inl rfl, jM _ _, .inl rfl, trivial⟩⟩, aj _, trivial⟩
 have k1 := bH p 1 32 h
 refine gI oW Tryz.func193 Tryz.results193 ?_
 exact wR trivial k1 ah
theorem Xe (p : Int) (h : 1 ≤ p ∧ p ≤ 32) : Pg.Good Tryz.prog 194 [vi p] (.tup [.agg (fqF ⟨p, 0, 0, [], false⟩), vi 0]) := by
 refine Good.fzt (vs := [.agg [vi p, vi 0, vi 0, nls, vb false], vi 0]) ?_ rfl ⟨.inr ⟨_, _, rfl, rfl, ⟨.inl rfl, .inl rfl, .inl rfl, jM _ _, .inl rfl, trivial⟩⟩, aj _, trivial⟩
 have k1 := bH p 1 32 h
 refine gI oW Tryz.func194 Tryz.results194 ?_
 exact wR trivial k1 ah
theorem Xf (p : Int) (h : 2 ≤ p ∧ p ≤ 32 ∧ p % 2 = 0) : Pg.Good Tryz.prog 195 [vi p] (.tup [.agg (rkF ⟨p, 0, 0, [], false⟩), vi 0]) := by
 refine Good.fzt (vs := [.agg [vi p, vi 0, vi 0, nls, vb false], vi 0]) ?_ rfl ⟨.inr ⟨_, _, rfl, rfl, ⟨.inl rfl, .inl rfl, .inl rfl, jM _ _, .inl rfl, trivial⟩⟩, aj _, trivial⟩
 have k1 := bH p 2 32 ⟨h.1, h.2.1⟩
 have et : p.tmod 2 = p % 2 := Int.tmod_eq_emod_of_nonneg (by omega)
 refine gI oW Tryz.func195 Tryz.results195 ?_
 exact wR @et k1 ah
def kz (p : Pm) : Sk :=
 if p.k = 1 then ⟨p, Tl.o, Cm.o, Ll.o, Tp.o, Fq.o, Rk.o⟩
 else if p.k = 2 then ⟨p, Tl.o, ⟨p.d, p.z, p.s, zer (p.d * p.z).toNat, false⟩, Ll.o, Tp.o, Fq.o, Rk.o⟩
 else if p.k = 3 then ⟨p, Tl.o, Cm.o, ⟨p.z, p.s, zer (2 ^ p.z.toNat)⟩, Tp.o, Fq.o, Rk.o⟩
 else if p.k = 4 then ⟨p, Tl.o, Cm.o, Ll.o, ⟨p.z, 0, [], false⟩, Fq.o, Rk.o⟩
 else if p.k = 5 then ⟨p, Tl.o, Cm.o, Ll.o, Tp.o, ⟨p.z, 0, 0, [], false⟩, Rk.o⟩
 else ⟨p, Tl.o, Cm.o, Ll.o, Tp.o, Fq.o, ⟨p.z, 0, 0, [], false⟩⟩
theorem aeI {z d s : Int} (h : vp 2 z d s = 0) : 1 ≤ d ∧ d ≤ 8 ∧ 1 ≤ z ∧ z ≤ 64 := by unfold vp at h; simp at h; omega
theorem adu {z d s : Int} (h : vp 3 z d s = 0) : 2 ≤ z ∧ z ≤ 8 := by unfold vp at h; simp at h; omega
theorem agc {z d s : Int} (h : vp 4 z d s = 0) : 1 ≤ z ∧ z ≤ 32 := by unfold vp at h; simp at h; omega
theorem agd {z d s : Int} (h : vp 5 z d s = 0) : 1 ≤ z ∧ z ≤ 32 := by unfold vp at h; simp at h; omega
theorem age {z d s : Int} (h : vp 6 z d s = 0) : 2 ≤ z ∧ z ≤ 32 ∧ z % 2 = 0 := by unfold vp at h; simp at h; omega
theorem Xg (p : Pm) (hs : 0 ≤ p.s ∧ p.s < 18446744073709551616) (h : vp p.k p.z p.d p.s = 0) : (kz p).Ok := by
 have h0 : (0 : Int) ≤ 0 ∧ (0 : Int) < 18446744073709551616 := ⟨by decide, by decide⟩
 have e0 : octE [] := fun e he => by cases he
 have v0 : xQ [] := fun e he => by cases he
 have m0 : ∀ l ∈ ([] : List (List (List Nat))), l.length ≤ 1000000 := fun e he => by cases he
 obtain ⟨k, z, d, s⟩ := p
 simp only at hs h
 unfold kz
 simp only
 split
 ·exact ⟨hs, h0, h0, Nat.zero_le _, Nat.zero_le _, e0, Nat.zero_le _, e0, Nat.zero_le _, v0, Nat.zero_le _, m0⟩
 ·split
  ·rename_i hk; subst hk
   have h2 := aeI h
   have hm := oN (d := d) (z := z) ⟨h2.1, h2.2.1⟩ h2.2.2
   exact ⟨hs, hs, h0, by simp; omega, Nat.zero_le _, e0, Nat.zero_le _, e0, Nat.zero_le _, v0, Nat.zero_le _, m0⟩
  ·split
   ·rename_i hk; subst hk
    have h2 := (oO (adu h)).2.1
    exact ⟨hs, h0, hs, Nat.zero_le _, by simp only [List.length_replicate]; omega, e0, Nat.zero_le _, e0, Nat.zero_le _, v0, Nat.zero_le _, m0⟩
   ·split
    ·exact ⟨hs, h0, h0, Nat.zero_le _, Nat.zero_le _, e0, Nat.zero_le _, e0, Nat.zero_le _, v0, Nat.zero_le _, m0⟩
    ·split
     ·exact ⟨hs, h0, h0, Nat.zero_le _, Nat.zero_le _, e0, Nat.zero_le _, e0, Nat.zero_le _, v0, Nat.zero_le _, m0⟩
     ·exact ⟨hs, h0, h0, Nat.zero_le _, Nat.zero_le _, e0, Nat.zero_le _, e0, Nat.zero_le _, v0, Nat.zero_le _, m0⟩
theorem QV (z d s : Int) (h : vp 1 z d s = 0) : Pg.Good Tryz.prog 105 [.agg [vi 1, vi z, vi d, vu s]] (.tup [.agg (skF (kz ⟨1, z, d, s⟩)), vi 0]) := by
 have eo : kz ⟨1, z, d, s⟩ = ⟨⟨1, z, d, s⟩, Tl.o, Cm.o, Ll.o, Tp.o, Fq.o, Rk.o⟩ := rfl
 rw [eo]
 refine Good.fzt (vs := [.agg (skC ⟨⟨1, z, d, s⟩, Tl.o, Cm.o, Ll.o, Tp.o, Fq.o, Rk.o⟩ nls nls nls nls nls), vi 0]) ?_ rfl ⟨dK ⟨⟨1, z, d, s⟩, Tl.o, Cm.o, Ll.o, Tp.o, Fq.o, Rk.o⟩ (aA _) (aA _) (aA _) (aA _) (aA _), aj _, trivial⟩
 have hv := bK 1 z d s
 rw [h] at hv
 refine gI oD Tryz.func105 Tryz.results105 ?_
 exact wRA trivial hv ah
theorem QW (z d s : Int) (h : vp 2 z d s = 0) : Pg.Good Tryz.prog 105 [.agg [vi 2, vi z, vi d, vu s]] (.tup [.agg (skF (kz ⟨2, z, d, s⟩)), vi 0]) := by
 have eo : kz ⟨2, z, d, s⟩ = ⟨⟨2, z, d, s⟩, Tl.o, ⟨d, z, s, zer (d * z).toNat, false⟩, Ll.o, Tp.o, Fq.o, Rk.o⟩ := rfl
 rw [eo]
 refine Good.fzt (vs := [.agg (skC ⟨⟨2, z, d, s⟩, Tl.o, ⟨d, z, s, zer (d * z).toNat, false⟩, Ll.o, Tp.o, Fq.o, Rk.o⟩ (fzi (zer (d * z).toNat)) nls nls nls nls), vi 0]) ?_ rfl ⟨dK ⟨⟨2, z, d, s⟩, Tl.o, ⟨d, z, s, zer (d * z).toNat, false⟩, Ll.o, Tp.o, Fq.o, Rk.o⟩ (iR _) (aA _) (aA _) (aA _) (aA _), aj _, trivial⟩
 have hv := bK 2 z d s
 rw [h] at hv
 have hc := Xb d z s (aeI h)
 generalize zer (d * z).toNat = Z at *
 refine gI oD Tryz.func105 Tryz.results105 ?_
 exact wRA trivial (aI hv hc) ah
theorem QX (z d s : Int) (h : vp 3 z d s = 0) : Pg.Good Tryz.prog 105 [.agg [vi 3, vi z, vi d, vu s]] (.tup [.agg (skF (kz ⟨3, z, d, s⟩)), vi 0]) := by
 have eo : kz ⟨3, z, d, s⟩ = ⟨⟨3, z, d, s⟩, Tl.o, Cm.o, ⟨z, s, zer (2 ^ z.toNat)⟩, Tp.o, Fq.o, Rk.o⟩ := rfl
 rw [eo]
 refine Good.fzt (vs := [.agg (skC ⟨⟨3, z, d, s⟩, Tl.o, Cm.o, ⟨z, s, zer (2 ^ z.toNat)⟩, Tp.o, Fq.o, Rk.o⟩ nls (fzi (zer (2 ^ z.toNat))) nls nls nls), vi 0]) ?_ rfl ⟨dK ⟨⟨3, z, d, s⟩, Tl.o, Cm.o, ⟨z, s, zer (2 ^ z.toNat)⟩, Tp.o, Fq.o, Rk.o⟩ (aA _) (iR _) (aA _) (aA _) (aA _), aj _, trivial⟩
 have hv := bK 3 z d s
 rw [h] at hv
 have hc := Xc z s (adu h)
 generalize zer (2 ^ z.toNat) = Z at *
 refine gI oD Tryz.func105 Tryz.results105 ?_
 exact wRA trivial (aI hv hc) ah
theorem QY (z d s : Int) (h : vp 4 z d s = 0) : Pg.Good Tryz.prog 105 [.agg [vi 4, vi z, vi d, vu s]] (.tup [.agg (skF (kz ⟨4, z, d, s⟩)), vi 0]) := by
 have eo : kz ⟨4, z, d, s⟩ = ⟨⟨4, z, d, s⟩, Tl.o, Cm.o, Ll.o, ⟨z, 0, [], false⟩, Fq.o, Rk.o⟩ := rfl
 rw [eo]
 refine Good.fzt (vs := [.agg (skC ⟨⟨4, z, d, s⟩, Tl.o, Cm.o, Ll.o, ⟨z, 0, [], false⟩, Fq.o, Rk.o⟩ nls nls (fzv []) nls nls), vi 0]) ?_ rfl ⟨dK ⟨⟨4, z, d, s⟩, Tl.o, Cm.o, Ll.o, ⟨z, 0, [], false⟩, Fq.o, Rk.o⟩ (aA _) (aA _) (iR _) (aA _) (aA _), aj _, trivial⟩
 have hv := bK 4 z d s
 rw [h] at hv
 have hc := Xd z (agc h)
 refine gI oD Tryz.func105 Tryz.results105 ?_
 exact wRA trivial (aI hv hc) ah
theorem QZ (z d s : Int) (h : vp 5 z d s = 0) : Pg.Good Tryz.prog 105 [.agg [vi 5, vi z, vi d, vu s]] (.tup [.agg (skF (kz ⟨5, z, d, s⟩)), vi 0]) := by
 have eo : kz ⟨5, z, d, s⟩ = ⟨⟨5, z, d, s⟩, Tl.o, Cm.o, Ll.o, Tp.o, ⟨z, 0, 0, [], false⟩, Rk.o⟩ := rfl
 rw [eo]
 refine Good.fzt (vs := [.agg (skC ⟨⟨5, z, d, s⟩, Tl.o, Cm.o, Ll.o, Tp.o, ⟨z, 0, 0, [], false⟩, Rk.o⟩ nls nls nls (fzv []) nls), vi 0]) ?_ rfl ⟨dK ⟨⟨5, z, d, s⟩, Tl.o, Cm.o, Ll.o, Tp.o, ⟨z, 0, 0, [], false⟩, Rk.o⟩ (aA _) (aA _) (aA _) (iR _) (aA _), aj _, trivial⟩
 have hv := bK 5 z d s
 rw [h] at hv
 have hc := Xe z (agd h)
 refine gI oD Tryz.func105 Tryz.results105 ?_
 exact wRA trivial (aI hv hc) ah
theorem Q3 (z d s : Int) (h : vp 6 z d s = 0) : Pg.Good Tryz.prog 105 [.agg [vi 6, vi z, vi d, vu s]] (.tup [.agg (skF (kz ⟨6, z, d, s⟩)), vi 0]) := by
 have eo : kz ⟨6, z, d, s⟩ = ⟨⟨6, z, d, s⟩, Tl.o, Cm.o, Ll.o, Tp.o, Fq.o, ⟨z, 0, 0, [], false⟩⟩ := rfl
 rw [eo]
 refine Good.fzt (vs := [.agg (skC ⟨⟨6, z, d, s⟩, Tl.o, Cm.o, Ll.o, Tp.o, Fq.o, ⟨z, 0, 0, [], false⟩⟩ nls nls nls nls (fzl [])), vi 0]) ?_ rfl ⟨dK ⟨⟨6, z, d, s⟩, Tl.o, Cm.o, Ll.o, Tp.o, Fq.o, ⟨z, 0, 0, [], false⟩⟩ (aA _) (aA _) (aA _) (aA _) (iR _), aj _, trivial⟩
 have hv := bK 6 z d s
 rw [h] at hv
 have hc := Xf z (age h)
 refine gI oD Tryz.func105 Tryz.results105 ?_
 exact wRA trivial (aI hv hc) ah
theorem aa7 (p : Pm) (h : vp p.k p.z p.d p.s = 0) : Pg.Good Tryz.prog 105 [.agg (pmF p)] (.tup [.agg (skF (kz p)), vi 0]) := by
 obtain ⟨k, z, d, s⟩ := p
 simp only at h
 rcases rC h with rfl | rfl | rfl | rfl | rfl | rfl
 ·exact QV z d s h
 ·exact QW z d s h
 ·exact QX z d s h
 ·exact QY z d s h
 ·exact QZ z d s h
 ·exact Q3 z d s h
def dE (s : Sk) (k : List Nat) (w : Int) (co : List Nat) (at' : Int) : Sk × Int × Int :=
 if vSk s ≠ 0 then (Sk.o, 0, vSk s) else if dW k w ≠ 0 then (Sk.o, 0, dW k w) else if ¬ (0 ≤ at' ∧ at' ≤ 1073741824) then (Sk.o, 0, 5)
 else if s.p.k = 1 then (⟨s.p, (vN s.tl k w).1, s.cm, s.ll, s.tp, s.fq, s.rk⟩, at', 0)
 else if s.p.k = 2 then (⟨s.p, s.tl, (tJ s.cm k w).1, s.ll, s.tp, s.fq, s.rk⟩, at', 0)
 else if s.p.k = 3 then (⟨s.p, s.tl, s.cm, (qI s.ll k w).1, s.tp, s.fq, s.rk⟩, at', 0)
 else if s.p.k = 4 then (⟨s.p, s.tl, s.cm, s.ll, (vS s.tp k w).1, s.fq, s.rk⟩, at', 0)
 else if s.p.k = 5 then (⟨s.p, s.tl, s.cm, s.ll, s.tp, (vT s.fq k w).1, s.rk⟩, at', 0)
 else (⟨s.p, s.tl, s.cm, s.ll, s.tp, s.fq, (pR s.rk k w co at').1⟩, (pR s.rk k w co at').2.1, 0)
theorem LK : Sk.o.Ok := ⟨⟨by decide, by decide⟩, ⟨by decide, by decide⟩, ⟨by decide, by decide⟩, Nat.zero_le _, Nat.zero_le _, (fun e he => by cases he), Nat.zero_le _, (fun e he => by cases he), Nat.zero_le _, (fun e he => by cases he), Nat.zero_le _, (fun e he => by cases he)⟩
theorem Xh (s : Sk) (ok : s.Ok) (k : List Nat) (w : Int) (co : List Nat) (at' : Int) (hk : oct k) : (dE s k w co at').1.Ok := by
 have z0 : (0 : Int) ≤ 0 ∧ (0 : Int) < 18446744073709551616 := ⟨by decide, by decide⟩
 unfold dE
 split
 ·exact LK
 ·split
  ·exact LK
  ·split
   ·exact LK
   ·split
    ·exact ⟨ok.ps, ok.cs, ok.ls, ok.cn, ok.ln, ok.to, ok.tn, ok.fo, ok.fn, ok.ro, ok.rn, ok.rm⟩
    ·split
     ·have h : (0 ≤ (tJ s.cm k w).1.s ∧ (tJ s.cm k w).1.s < 18446744073709551616) ∧ (tJ s.cm k w).1.c.length ≤ 1000000 := by
       unfold tJ
       split
       ·exact ⟨z0, Nat.zero_le _⟩
       ·have := IE s.cm k w s.cm.d.toNat
        show (0 ≤ (gB s.cm k w s.cm.d.toNat).s ∧ _) ∧ (gB s.cm k w s.cm.d.toNat).c.length ≤ _
        rw [this.2.2.1, this.2.2.2]
        exact ⟨ok.cs, ok.cn⟩
      exact ⟨ok.ps, h.1, ok.ls, h.2, ok.ln, ok.to, ok.tn, ok.fo, ok.fn, ok.ro, ok.rn, ok.rm⟩
     ·split
      ·have h : (0 ≤ (qI s.ll k w).1.s ∧ (qI s.ll k w).1.s < 18446744073709551616) ∧ (qI s.ll k w).1.r.length ≤ 1000000 := by
        unfold qI
        split
        ·exact ⟨z0, Nat.zero_le _⟩
        ·exact ⟨ok.ls, by simp only [List.length_set]; exact ok.ln⟩
       exact ⟨ok.ps, ok.cs, h.1, ok.cn, h.2, ok.to, ok.tn, ok.fo, ok.fn, ok.ro, ok.rn, ok.rm⟩
      ·split
       ·have h := WW s.tp k w ok.to hk ok.tn
        exact ⟨ok.ps, ok.cs, ok.ls, ok.cn, ok.ln, h.1, h.2, ok.fo, ok.fn, ok.ro, ok.rn, ok.rm⟩
       ·split
        ·have h := WX s.fq k w ok.fo hk ok.fn
         exact ⟨ok.ps, ok.cs, ok.ls, ok.cn, ok.ln, ok.to, ok.tn, h.1, h.2, ok.ro, ok.rn, ok.rm⟩
        ·have h := Xa s.rk k w co at' hk ok.ro ok.rn ok.rm
         exact ⟨ok.ps, ok.cs, ok.ls, ok.cn, ok.ln, ok.to, ok.tn, ok.fo, ok.fn, h.1, h.2.1, h.2.2⟩
theorem BK : wkV (.agg (skC Sk.o nls nls nls nls nls)) (.agg (skF Sk.o)) := dK Sk.o (aA _) (aA _) (aA _) (aA _) (aA _)
theorem iK (n : Int) : Pg.Good Tryz.prog 47 [vi n] (vb (decide (0 ≤ n ∧ n ≤ 1073741824))) := by
 by_cases h1 : 0 ≤ n
 ·by_cases h2 : n ≤ 1073741824
  ·rw [decide_eq_true ⟨h1, h2⟩]
   refine gI oW Tryz.func47 Tryz.results47 ?_
   exact wR trivial trivial ah
  ·rw [decide_eq_false (fun h => h2 h.2)]
   refine gI oW Tryz.func47 Tryz.results47 ?_
   exact wR trivial trivial ah
 ·rw [decide_eq_false (fun h => h1 h.1)]
  refine gI oW Tryz.func47 Tryz.results47 ?_
  exact wR trivial trivial ah
theorem Fz (s : Sk) (ok : s.Ok) (k : List Nat) (w : Int) (co : List Nat) (at' : Int) (ho : oct k) (hco : oct co) (h : vSk s = 0) (hi : dW k w = 0) (ha : 0 ≤ at' ∧ at' ≤ 1073741824) (hk : s.p.k = 1) : Pg.Good Tryz.prog 14 [.agg (skF s), .agg [vs k, vi w], fzb co, vi at'] (.tup [.agg (skF (dE s k w co at').1), vi (dE s k w co at').2.1, vi (dE s k w co at').2.2]) := by
 have h1 := dw s ok
 rw [h] at h1
 have h2 := bZ k w
 rw [hi] at h2
 have h3 := iK at'
 rw [decide_eq_true ha] at h3
 have h4 := A7 s.tl k w
 have e : dE s k w co at' = (⟨s.p, (vN s.tl k w).1, s.cm, s.ll, s.tp, s.fq, s.rk⟩, at', 0) := by
  unfold dE
  rw [if_neg (by omega), if_neg (by omega), if_neg (fun h => h ha)]
  simp [hk]
 rw [e]
 generalize vN s.tl k w = I at *
 clear ok e
 obtain ⟨⟨pk, pz, pd, ps⟩, ⟨t1, t2, t3⟩, ⟨c1, c2, c3, c4, c5⟩, ⟨l1, l2, l3⟩, ⟨e1, e2, e3, e4⟩, ⟨f1, f2, f3, f4, f5⟩, ⟨r1, r2, r3, r4, r5⟩⟩ := s
 obtain ⟨⟨i1, i2, i3⟩, i6⟩ := I
 simp only at *
 subst hk
 refine gI oD Tryz.func14 Tryz.results14 ?_
 exact wRA trivial (aI h1 (aI h2 (aI h3 h4))) ah
theorem FB (s : Sk) (ok : s.Ok) (k : List Nat) (w : Int) (co : List Nat) (at' : Int) (ho : oct k) (hco : oct co) (h : vSk s = 0) (hi : dW k w = 0) (ha : 0 ≤ at' ∧ at' ≤ 1073741824) (hk : s.p.k = 2) : Pg.Good Tryz.prog 14 [.agg (skF s), .agg [vs k, vi w], fzb co, vi at'] (.tup [.agg (skF (dE s k w co at').1), vi (dE s k w co at').2.1, vi (dE s k w co at').2.2]) := by
 have h1 := dw s ok
 rw [h] at h1
 have h2 := bZ k w
 rw [hi] at h2
 have h3 := iK at'
 rw [decide_eq_true ha] at h3
 have h4 := vP s.cm k w ho
 have e : dE s k w co at' = (⟨s.p, s.tl, (tJ s.cm k w).1, s.ll, s.tp, s.fq, s.rk⟩, at', 0) := by
  unfold dE
  rw [if_neg (by omega), if_neg (by omega), if_neg (fun h => h ha)]
  simp [hk]
 rw [e]
 generalize tJ s.cm k w = I at *
 clear ok e
 obtain ⟨⟨pk, pz, pd, ps⟩, ⟨t1, t2, t3⟩, ⟨c1, c2, c3, c4, c5⟩, ⟨l1, l2, l3⟩, ⟨e1, e2, e3, e4⟩, ⟨f1, f2, f3, f4, f5⟩, ⟨r1, r2, r3, r4, r5⟩⟩ := s
 obtain ⟨⟨i1, i2, i3, i4, i5⟩, i6⟩ := I
 simp only at *
 subst hk
 refine gI oD Tryz.func14 Tryz.results14 ?_
 exact wRA trivial (aI h1 (aI h2 (aI h3 h4))) ah
theorem FC (s : Sk) (ok : s.Ok) (k : List Nat) (w : Int) (co : List Nat) (at' : Int) (ho : oct k) (hco : oct co) (h : vSk s = 0) (hi : dW k w = 0) (ha : 0 ≤ at' ∧ at' ≤ 1073741824) (hk : s.p.k = 3) : Pg.Good Tryz.prog 14 [.agg (skF s), .agg [vs k, vi w], fzb co, vi at'] (.tup [.agg (skF (dE s k w co at').1), vi (dE s k w co at').2.1, vi (dE s k w co at').2.2]) := by
 have h1 := dw s ok
 rw [h] at h1
 have h2 := bZ k w
 rw [hi] at h2
 have h3 := iK at'
 rw [decide_eq_true ha] at h3
 have h4 := zf s.ll k w ho ok.ln
 have e : dE s k w co at' = (⟨s.p, s.tl, s.cm, (qI s.ll k w).1, s.tp, s.fq, s.rk⟩, at', 0) := by
  unfold dE
  rw [if_neg (by omega), if_neg (by omega), if_neg (fun h => h ha)]
  simp [hk]
 rw [e]
 generalize qI s.ll k w = I at *
 clear ok e
 obtain ⟨⟨pk, pz, pd, ps⟩, ⟨t1, t2, t3⟩, ⟨c1, c2, c3, c4, c5⟩, ⟨l1, l2, l3⟩, ⟨e1, e2, e3, e4⟩, ⟨f1, f2, f3, f4, f5⟩, ⟨r1, r2, r3, r4, r5⟩⟩ := s
 obtain ⟨⟨i1, i2, i3⟩, i6⟩ := I
 simp only at *
 subst hk
 refine gI oD Tryz.func14 Tryz.results14 ?_
 exact wRA trivial (aI h1 (aI h2 (aI h3 h4))) ah
theorem FD (s : Sk) (ok : s.Ok) (k : List Nat) (w : Int) (co : List Nat) (at' : Int) (ho : oct k) (hco : oct co) (h : vSk s = 0) (hi : dW k w = 0) (ha : 0 ≤ at' ∧ at' ≤ 1073741824) (hk : s.p.k = 4) : Pg.Good Tryz.prog 14 [.agg (skF s), .agg [vs k, vi w], fzb co, vi at'] (.tup [.agg (skF (dE s k w co at').1), vi (dE s k w co at').2.1, vi (dE s k w co at').2.2]) := by
 have h1 := dw s ok
 rw [h] at h1
 have h2 := bZ k w
 rw [hi] at h2
 have h3 := iK at'
 rw [decide_eq_true ha] at h3
 have h4 := EY s.tp k w ho ok.to ok.tn
 have e : dE s k w co at' = (⟨s.p, s.tl, s.cm, s.ll, (vS s.tp k w).1, s.fq, s.rk⟩, at', 0) := by
  unfold dE
  rw [if_neg (by omega), if_neg (by omega), if_neg (fun h => h ha)]
  simp [hk]
 rw [e]
 generalize vS s.tp k w = I at *
 clear ok e
 obtain ⟨⟨pk, pz, pd, ps⟩, ⟨t1, t2, t3⟩, ⟨c1, c2, c3, c4, c5⟩, ⟨l1, l2, l3⟩, ⟨e1, e2, e3, e4⟩, ⟨f1, f2, f3, f4, f5⟩, ⟨r1, r2, r3, r4, r5⟩⟩ := s
 obtain ⟨⟨i1, i2, i3, i4⟩, i6⟩ := I
 simp only at *
 subst hk
 refine gI oD Tryz.func14 Tryz.results14 ?_
 exact wRA trivial (aI h1 (aI h2 (aI h3 h4))) ah
theorem FH (s : Sk) (ok : s.Ok) (k : List Nat) (w : Int) (co : List Nat) (at' : Int) (ho : oct k) (hco : oct co) (h : vSk s = 0) (hi : dW k w = 0) (ha : 0 ≤ at' ∧ at' ≤ 1073741824) (hk : s.p.k = 5) : Pg.Good Tryz.prog 14 [.agg (skF s), .agg [vs k, vi w], fzb co, vi at'] (.tup [.agg (skF (dE s k w co at').1), vi (dE s k w co at').2.1, vi (dE s k w co at').2.2]) := by
 have h1 := dw s ok
 rw [h] at h1
 have h2 := bZ k w
 rw [hi] at h2
 have h3 := iK at'
 rw [decide_eq_true ha] at h3
 have h4 := vU s.fq k w ho ok.fo ok.fn
 have e : dE s k w co at' = (⟨s.p, s.tl, s.cm, s.ll, s.tp, (vT s.fq k w).1, s.rk⟩, at', 0) := by
  unfold dE
  rw [if_neg (by omega), if_neg (by omega), if_neg (fun h => h ha)]
  simp [hk]
 rw [e]
 generalize vT s.fq k w = I at *
 clear ok e
 obtain ⟨⟨pk, pz, pd, ps⟩, ⟨t1, t2, t3⟩, ⟨c1, c2, c3, c4, c5⟩, ⟨l1, l2, l3⟩, ⟨e1, e2, e3, e4⟩, ⟨f1, f2, f3, f4, f5⟩, ⟨r1, r2, r3, r4, r5⟩⟩ := s
 obtain ⟨⟨i1, i2, i3, i4, i5⟩, i6⟩ := I
 simp only at *
 subst hk
 refine gI oD Tryz.func14 Tryz.results14 ?_
 exact wRA trivial (aI h1 (aI h2 (aI h3 h4))) ah
theorem FI (s : Sk) (ok : s.Ok) (k : List Nat) (w : Int) (co : List Nat) (at' : Int) (ho : oct k) (hco : oct co) (h : vSk s = 0) (hi : dW k w = 0) (ha : 0 ≤ at' ∧ at' ≤ 1073741824) (hk : s.p.k = 6) : Pg.Good Tryz.prog 14 [.agg (skF s), .agg [vs k, vi w], fzb co, vi at'] (.tup [.agg (skF (dE s k w co at').1), vi (dE s k w co at').2.1, vi (dE s k w co at').2.2]) := by
 have h1 := dw s ok
 rw [h] at h1
 have h2 := bZ k w
 rw [hi] at h2
 have h3 := iK at'
 rw [decide_eq_true ha] at h3
 have h4 := Bi s.rk k w co at' ho hco ok.ro ok.rn ok.rm
 have e : dE s k w co at' = (⟨s.p, s.tl, s.cm, s.ll, s.tp, s.fq, (pR s.rk k w co at').1⟩, (pR s.rk k w co at').2.1, 0) := by
  unfold dE
  rw [if_neg (by omega), if_neg (by omega), if_neg (fun h => h ha)]
  simp [hk]
 rw [e]
 generalize pR s.rk k w co at' = I at *
 clear ok e
 obtain ⟨⟨pk, pz, pd, ps⟩, ⟨t1, t2, t3⟩, ⟨c1, c2, c3, c4, c5⟩, ⟨l1, l2, l3⟩, ⟨e1, e2, e3, e4⟩, ⟨f1, f2, f3, f4, f5⟩, ⟨r1, r2, r3, r4, r5⟩⟩ := s
 obtain ⟨⟨i1, i2, i3, i4, i5⟩, i6, i7⟩ := I
 simp only at *
 subst hk
 refine gI oD Tryz.func14 Tryz.results14 ?_
 exact wRA trivial (aI h1 (aI h2 (aI h3 h4))) ah
theorem LM (s : Sk) (ok : s.Ok) (k : List Nat) (w : Int) (co : List Nat) (at' : Int) (ho : oct k) (hco : oct co) : Pg.Good Tryz.prog 14 [.agg (skF s), .agg [vs k, vi w], fzb co, vi at'] (.tup [.agg (skF (dE s k w co at').1), vi (dE s k w co at').2.1, vi (dE s k w co at').2.2]) := by
 have h1 := dw s ok
 have h2 := bZ k w
 have h3 := iK at'
 by_cases q1 : vSk s = 0
 ·by_cases q2 : dW k w = 0
  ·by_cases q3 : 0 ≤ at' ∧ at' ≤ 1073741824
   ·have q4 : vp s.p.k s.p.z s.p.d s.p.s = 0 := by
     unfold vSk at q1
     split at q1
     ·rename_i h; exact absurd q1 h
     ·rename_i h; exact Classical.byContradiction h
    rcases rC q4 with hk | hk | hk | hk | hk | hk
    ·exact Fz s ok k w co at' ho hco q1 q2 q3 hk
    ·exact FB s ok k w co at' ho hco q1 q2 q3 hk
    ·exact FC s ok k w co at' ho hco q1 q2 q3 hk
    ·exact FD s ok k w co at' ho hco q1 q2 q3 hk
    ·exact FH s ok k w co at' ho hco q1 q2 q3 hk
    ·exact FI s ok k w co at' ho hco q1 q2 q3 hk
   ·have e : dE s k w co at' = (Sk.o, 0, 5) := by unfold dE; rw [if_neg (by omega), if_neg (by omega), if_pos q3]
    rw [e]
    rw [decide_eq_false q3] at h3
    rw [q1] at h1
    rw [q2] at h2
    refine Good.fzt (vs := [.agg (skC Sk.o nls nls nls nls nls), vi 0, vi 5]) ?_ rfl ⟨BK, aj _, aj _, trivial⟩
    refine gI oD Tryz.func14 Tryz.results14 ?_
    exact wRA trivial (aI h1 (aI h2 h3)) ah
  ·have e : dE s k w co at' = (Sk.o, 0, dW k w) := by unfold dE; rw [if_neg (by omega), if_pos q2]
   rw [e]
   rw [q1] at h1
   refine Good.fzt (vs := [.agg (skC Sk.o nls nls nls nls nls), vi 0, vi (dW k w)]) ?_ rfl ⟨BK, aj _, aj _, trivial⟩
   refine gI oD Tryz.func14 Tryz.results14 ?_
   exact wRA trivial (aI h1 h2) ah
 ·have e : dE s k w co at' = (Sk.o, 0, vSk s) := by unfold dE; rw [if_pos q1]
  rw [e]
  refine Good.fzt (vs := [.agg (skC Sk.o nls nls nls nls nls), vi 0, vi (vSk s)]) ?_ rfl ⟨BK, aj _, aj _, trivial⟩
  refine gI oD Tryz.func14 Tryz.results14 ?_
  exact wRA trivial h1 ah
theorem agf (n : Nat) : Int.fdiv (n : Int) (2 ^ min 1 IntKind.i64.bits) = ((n / 2 : Nat) : Int) := by
 show Int.fdiv (n : Int) ((2 : Nat) : Int) = _
 rw [Int.fdiv_eq_ediv_of_nonneg _ (Int.natCast_nonneg _), Int.natCast_ediv]
theorem agh (n : Nat) : Int.fdiv (n : Int) (2 ^ min 3 IntKind.i64.bits) = ((n / 8 : Nat) : Int) := by
 show Int.fdiv (n : Int) ((8 : Nat) : Int) = _
 rw [Int.fdiv_eq_ediv_of_nonneg _ (Int.natCast_nonneg _), Int.natCast_ediv]
theorem agi (n : Nat) : Int.fdiv (n : Int) (2 ^ min 4 IntKind.i64.bits) = ((n / 16 : Nat) : Int) := by
 show Int.fdiv (n : Int) ((16 : Nat) : Int) = _
 rw [Int.fdiv_eq_ediv_of_nonneg _ (Int.natCast_nonneg _), Int.natCast_ediv]
theorem agj (n : Nat) : Int.fdiv (n : Int) (2 ^ min 5 IntKind.i64.bits) = ((n / 32 : Nat) : Int) := by
 show Int.fdiv (n : Int) ((32 : Nat) : Int) = _
 rw [Int.fdiv_eq_ediv_of_nonneg _ (Int.natCast_nonneg _), Int.natCast_ediv]
theorem agk (n : Nat) : Int.fdiv (n : Int) (2 ^ min 6 IntKind.i64.bits) = ((n / 64 : Nat) : Int) := by
 show Int.fdiv (n : Int) ((64 : Nat) : Int) = _
 rw [Int.fdiv_eq_ediv_of_nonneg _ (Int.natCast_nonneg _), Int.natCast_ediv]
theorem agl (n : Nat) : Int.fdiv (n : Int) (2 ^ min 7 IntKind.i64.bits) = ((n / 128 : Nat) : Int) := by
 show Int.fdiv (n : Int) ((128 : Nat) : Int) = _
 rw [Int.fdiv_eq_ediv_of_nonneg _ (Int.natCast_nonneg _), Int.natCast_ediv]
theorem agm (n : Nat) : Int.fdiv (n : Int) (2 ^ min 8 IntKind.i64.bits) = ((n / 256 : Nat) : Int) := by
 show Int.fdiv (n : Int) ((256 : Nat) : Int) = _
 rw [Int.fdiv_eq_ediv_of_nonneg _ (Int.natCast_nonneg _), Int.natCast_ediv]
theorem agn (n : Nat) : Int.fdiv (n : Int) (2 ^ min 9 IntKind.i64.bits) = ((n / 512 : Nat) : Int) := by
 show Int.fdiv (n : Int) ((512 : Nat) : Int) = _
 rw [Int.fdiv_eq_ediv_of_nonneg _ (Int.natCast_nonneg _), Int.natCast_ediv]
theorem aeJ (n : Nat) : Int.fdiv (n : Int) (2 ^ min 10 IntKind.i64.bits) = ((n / 1024 : Nat) : Int) := by
 show Int.fdiv (n : Int) ((1024 : Nat) : Int) = _
 rw [Int.fdiv_eq_ediv_of_nonneg _ (Int.natCast_nonneg _), Int.natCast_ediv]
theorem aeK (n : Nat) : Int.fdiv (n : Int) (2 ^ min 11 IntKind.i64.bits) = ((n / 2048 : Nat) : Int) := by
 show Int.fdiv (n : Int) ((2048 : Nat) : Int) = _
 rw [Int.fdiv_eq_ediv_of_nonneg _ (Int.natCast_nonneg _), Int.natCast_ediv]
theorem aeL (n : Nat) : Int.fdiv (n : Int) (2 ^ min 12 IntKind.i64.bits) = ((n / 4096 : Nat) : Int) := by
 show Int.fdiv (n : Int) ((4096 : Nat) : Int) = _
 rw [Int.fdiv_eq_ediv_of_nonneg _ (Int.natCast_nonneg _), Int.natCast_ediv]
theorem agp (n : Nat) : bits .and .i64 (n : Int) 1 = ((n % 2 : Nat) : Int) := Eq.trans (show _ = (n : Int) % 2 from iy (n : Int) 1 (by decide)) rfl
theorem agq (n : Nat) : bits .and .i64 (n : Int) 3 = ((n % 4 : Nat) : Int) := Eq.trans (show _ = (n : Int) % 4 from iy (n : Int) 2 (by decide)) rfl
theorem agr (n : Nat) : bits .and .i64 (n : Int) 7 = ((n % 8 : Nat) : Int) := Eq.trans (show _ = (n : Int) % 8 from iy (n : Int) 3 (by decide)) rfl
theorem ags (n : Nat) : bits .and .i64 (n : Int) 15 = ((n % 16 : Nat) : Int) := Eq.trans (show _ = (n : Int) % 16 from iy (n : Int) 4 (by decide)) rfl
theorem agt (n : Nat) : bits .and .i64 (n : Int) 31 = ((n % 32 : Nat) : Int) := Eq.trans (show _ = (n : Int) % 32 from iy (n : Int) 5 (by decide)) rfl
theorem agu (n : Nat) : bits .and .i64 (n : Int) 63 = ((n % 64 : Nat) : Int) := Eq.trans (show _ = (n : Int) % 64 from iy (n : Int) 6 (by decide)) rfl
theorem aeM (n : Nat) : bits .and .i64 (n : Int) 65535 = ((n % 65536 : Nat) : Int) := Eq.trans (show _ = (n : Int) % 65536 from iy (n : Int) 16 (by decide)) rfl
theorem aeN (n : Nat) : bits .and .i64 (n : Int) 16777215 = ((n % 16777216 : Nat) : Int) := Eq.trans (show _ = (n : Int) % 16777216 from iy (n : Int) 24 (by decide)) rfl
def shB := aI @agf (aI @agh (aI @agi (aI @agj (aI @agk (aI @agl (aI @agm (aI @agn (aI @aeJ (aI @aeK (@aeL))))))))))
def anB := aI @agp (aI @agq (aI @agr (aI @ags (aI @agt (aI @agu (aI @aeM (@aeN)))))))
theorem tmN (a b : Nat) : Int.tmod (a : Int) (b : Int) = ((a % b : Nat) : Int) := rfl
theorem tdN (a b : Nat) : Int.tdiv (a : Int) (b : Int) = ((a / b : Nat) : Int) := rfl
def atN (l : List Int) (i : Nat) : Nat := if l.length = 0 then i % 65536 else (l.getD (i % l.length) 0 % 65536).toNat + i / l.length
theorem FK (l : List Int) (i : Nat) : atN l i ≤ 65535 + i := by
 unfold atN
 split
 ·omega
 ·have := Nat.div_le_self i l.length
  omega
theorem aeO (n : Int) : bits .and .i64 n 65535 = (((n % 65536).toNat : Nat) : Int) := by rw [aaF]; omega
theorem aa8 (l : List Int) (i : Nat) (hl : l.length ≤ 9223372036854775807) (hi : i ≤ 1000000) : Pg.Good Tryz.prog 26 [fzi l, vi i] (vi (atN l i : Nat)) := by
 have hil := bC l
 unfold atN
 by_cases h : l.length = 0
 ·rw [if_pos h]
  refine gI oW Tryz.func26 Tryz.results26 ?_
  exact wR (aI @hil @anB) trivial ah
 ·rw [if_neg h]
  have hlt : i % l.length < l.length := Nat.mod_lt _ (by omega)
  have hg := gQ l (i % l.length) hlt
  have e1 := tmN i l.length
  have e2 := tdN i l.length
  have e3 := aeO (l.getD (i % l.length) 0)
  have hdl := Nat.div_le_self i l.length
  have hb : (l.getD (i % l.length) 0 % 65536).toNat < 65536 := by omega
  generalize (l.getD (i % l.length) 0 % 65536).toNat = x at *
  generalize l.getD (i % l.length) 0 = y at *
  generalize i % l.length = j at *
  generalize i / l.length = k at *
  refine gI oW Tryz.func26 Tryz.results26 ?_
  exact wR (aI @hil (aI @e1 (aI @e2 (aI @hg @e3)))) trivial ah
def wB (n : Nat) : Int := if n / 4096 % 16 = 14 then 1 + ((n % 65536 * 65537 % 4294967295 : Nat) : Int) else if n / 4096 % 16 = 15 then 4294967295 - ((n % 4 : Nat) : Int) else 1 + ((n / 16 % 8 : Nat) : Int)
def DV (n : Nat) : List Nat × Int := (Qv n, wB n)
theorem tmW (a : Nat) : Int.tmod ((a : Int) * 65537) 4294967295 = ((a * 65537 % 4294967295 : Nat) : Int) := rfl
theorem adv (n : Nat) (hn : n ≤ 1000000000) : Pg.Good Tryz.prog 11 [vi n] (.agg [vs (DV n).1, vi (DV n).2]) := by
 have hk := aex (n : Int)
 have e := tmW (n % 65536)
 unfold DV wB
 simp only
 by_cases h1 : n / 4096 % 16 = 14
 ·rw [if_pos h1]
  refine gI oW Tryz.func11 Tryz.results11 ?_
  exact wR (aI @shB (aI @anB @e)) hk ah
 ·rw [if_neg h1]
  by_cases h2 : n / 4096 % 16 = 15
  ·rw [if_pos h2]
   refine gI oW Tryz.func11 Tryz.results11 ?_
   exact wR (aI @shB (aI @anB @e)) hk ah
  ·rw [if_neg h2]
   refine gI oW Tryz.func11 Tryz.results11 ?_
   exact wR (aI @shB (aI @anB @e)) hk ah
def kC (l : List Int) (n : Nat) : List (List Nat × Int) := (List.range n).map fun i => DV (atN l i)
theorem uI (l : List Int) (n : Nat) : (kC l n).length = n := by simp [kC]
theorem Jc (l : List Int) (n : Nat) : itv (kC l n) ++ [V.agg [vs (DV (atN l n)).1, vi (DV (atN l n)).2]] = itv (kC l (n + 1)) := by simp [kC, itv, List.range_succ]
theorem aa9 (l : List Int) (n : Nat) (hl : l.length ≤ 9223372036854775807) (hn : n ≤ 1000) : Pg.Good Tryz.prog 29 [fzi l, vi n] (fzt (kC l n)) := by
 refine Good.fzr (r := .sl (.own 0 45) 2 (itv (kC l n))) ?_ rfl (aj _)
 refine gI oW Tryz.func29 Tryz.results29 ?_
 refine wS trivial trivial ?_
 refine bn (fun i : Nat => mkA [(0, fzi l), (1, vi n), (5, .sl (.own 0 45) 2 (itv (kC l i))), (6, vi i)] [] 1 (fun _ => .top)) (fun i => i ≤ n) (fun i => n - i) 0 [] [] ?_ (Nat.zero_le _) ?_
 ·exact kE
  all_goals exact di rfl
 ·intro i hi
  replace hi : i ≤ n := hi
  have hil := Nu (kC l i)
  have hib := uI l i
  rcases Nat.lt_or_ge i n with hlt | hge
  ·have h1 := aa8 l i hl (by omega)
   have h2 := adv (atN l i) (by have := FK l i; omega)
   have hnx := Jc l i
   generalize atN l i = a at *
   refine wS (aI @hil (aI @hib @hnx)) (aI h1 h2) ?_
   exact bE (i + 1) [0] [] hlt
  ·have : i = n := by omega
   subst this
   exact wR trivial trivial (ids [0])
def wu (n : Nat) : Pm :=
 if n % 6 = 0 then ⟨1, 0, 0, 0⟩ else if n % 6 = 1 then ⟨2, 1 + ((n / 16 % 4 : Nat) : Int), 1 + ((n / 8 % 2 : Nat) : Int), ((n / 256 % 4 : Nat) : Int)⟩ else if n % 6 = 2 then ⟨3, 2 + ((n / 8 % 2 : Nat) : Int), 0, ((n / 256 % 4 : Nat) : Int)⟩
 else if n % 6 = 3 then ⟨4, 1 + ((n / 8 % 4 : Nat) : Int), 0, 0⟩ else if n % 6 = 4 then ⟨5, 1 + ((n / 8 % 4 : Nat) : Int), 0, 0⟩ else ⟨6, 2 + 2 * ((n / 8 % 2 : Nat) : Int), 0, 0⟩
theorem FM (n : Nat) : vp (wu n).k (wu n).z (wu n).d (wu n).s = 0 := by
 unfold wu
 (repeat' split) <;> simp [vp] <;> omega
theorem Xi (n : Nat) : 0 ≤ (wu n).s ∧ (wu n).s < 18446744073709551616 := by
 unfold wu
 (repeat' split) <;> simp <;> omega
theorem tm6 (n : Nat) : Int.tmod (n : Int) 6 = ((n % 6 : Nat) : Int) := rfl
theorem Xj (n : Nat) (hn : n ≤ 1000000000) : Pg.Good Tryz.prog 25 [vi n] (.agg (pmF (wu n))) := by
 have e := tm6 n
 have hlt : n % 6 < 6 := Nat.mod_lt _ (by omega)
 unfold wu
 rcases (show n % 6 = 0 ∨ n % 6 = 1 ∨ n % 6 = 2 ∨ n % 6 = 3 ∨ n % 6 = 4 ∨ n % 6 = 5 by omega) with h | h | h | h | h | h
 all_goals
  simp only [h] at e ⊢
  refine gI oW Tryz.func25 Tryz.results25 ?_
  exact wR (aI @shB (aI @anB @e)) trivial ah
def lU (p : Pm) (its : List (List Nat × Int)) (co : List Nat) : Nat → Sk × Int
 | 0 => (kz p, 0)
 | i + 1 => ((dE (lU p its co i).1 (its.getD i ([], 0)).1 (its.getD i ([], 0)).2 co (lU p its co i).2).1, (dE (lU p its co i).1 (its.getD i ([], 0)).1 (its.getD i ([], 0)).2 co (lU p its co i).2).2.1)
theorem Jd (p : Pm) (hs : 0 ≤ p.s ∧ p.s < 18446744073709551616) (hv : vp p.k p.z p.d p.s = 0) (its : List (List Nat × Int)) (ho : ∀ x ∈ its, oct x.1) (co : List Nat) (i : Nat) : (lU p its co i).1.Ok := by
 induction i with
 | zero => exact Xg p hs hv
 | succ i ih =>
  refine Xh _ ih _ _ _ _ ?_
  rcases Nat.lt_or_ge i its.length with h | h
  ·exact ho _ (jl _ _ _ h)
  ·rw [List.getD, List.getElem?_eq_none h]; exact kY
theorem adw (p : Pm) (hs : 0 ≤ p.s ∧ p.s < 18446744073709551616) (hv : vp p.k p.z p.d p.s = 0) (its : List (List Nat × Int)) (hn : its.length ≤ 1000000) (ho : ∀ x ∈ its, oct x.1) (co : List Nat) (hco : oct co) :
  Pg.Good Tryz.prog 36 [.agg (pmF p), fzt its, fzb co] (.agg (skF (lU p its co its.length).1)) := by
 have h1 := aa7 p hv
 have hil := Nu its
 have hok := Jd p hs hv its ho co
 have e0 : lU p its co 0 = (kz p, 0) := rfl
 have es : ∀ i, lU p its co (i + 1) = ((dE (lU p its co i).1 (its.getD i ([], 0)).1 (its.getD i ([], 0)).2 co (lU p its co i).2).1, (dE (lU p its co i).1 (its.getD i ([], 0)).1 (its.getD i ([], 0)).2 co (lU p its co i).2).2.1) := fun _ => rfl
 generalize lU p its co = F at *
 obtain ⟨pk, pz, pd, ps⟩ := p
 refine gI oW Tryz.func36 Tryz.results36 ?_
 refine wS trivial h1 ?_
 refine bn (fun i : Nat => mkA [(1, fzt its), (2, fzb co), (6, .ref 0 0), (7, .ref 1 0), (9, vi (F i).2), (10, vi i)] [(0, (41, skC Sk.o nls nls nls nls nls)), (1, (41, skF (F i).1))] 2 (fun _ => .top)) (fun i => i ≤ its.length) (fun i => its.length - i) 0 [] [1, 2] ?_ (Nat.zero_le _) ?_
 ·rw [e0]
  exact kE
 ·intro i hi
  replace hi : i ≤ its.length := hi
  rcases Nat.lt_or_ge i its.length with hlt | hge
  ·have hg := aat its i hlt
   have hox := ho _ (jl its i ([], 0) hlt)
   have hes := es i
   have hoki := hok i
   generalize its.getD i ([], 0) = x at *
   have h2 := LM (F i).1 hoki x.1 x.2 co (F i).2 hox hco
   have e1 := congrArg Prod.fst hes
   have e2 := congrArg Prod.snd hes
   simp only at e1 e2
   rw [← e1, ← e2] at h2
   generalize F i = G at *
   obtain ⟨g, a⟩ := G
   refine wS (aI @hil @hg) h2 ?_
   exact bE (i + 1) [] [0, 1] hlt
  ·have : i = its.length := by omega
   subst this
   exact wR @hil trivial ah
end Go.Proofs.YtaoejnjkmfkbeaaGreat
