/-
  Texts of this claim, merged; own names are short.
-/
import Derived.Test.YtaoejnjkmfkbeaaGreatWAV
set_option linter.unusedVariables false
set_option linter.unusedSimpArgs false
set_option linter.unusedSectionVars false
set_option linter.defProp false
set_option maxRecDepth 100000
set_option maxHeartbeats 8000000
namespace Go.Proofs.YtaoejnjkmfkbeaaGreat
open Go Go.Pg
theorem vY {l : List En} (h : octE l) (i : Nat) (e : En) (he : oct e.1) : octE (l.set i e) := by
 intro x hx
 rcases List.mem_or_eq_of_mem_set hx with h1 | rfl
 ·exact h x h1
 ·exact he
theorem Qu {l : List En} (h : octE l) (e : En) (he : oct e.1) : octE (l ++ [e]) := by
 intro x hx
 rcases List.mem_append.1 hx with h1 | h1
 ·exact h x h1
 ·rw [List.mem_singleton.1 h1]; exact he
theorem Qv (t : Tp) (k : List Nat) (w : Int) (ho : octE t.e) (hk : oct k) (hn : t.e.length ≤ 1000000) : octE (pq t k w).1.e ∧ (pq t k w).1.e.length ≤ 1000000 := by
 unfold pq
 split
 ·exact ⟨(fun e he => by cases he), Nat.zero_le _⟩
 ·rename_i h1
  have h1 := Classical.byContradiction h1
  split
  ·exact ⟨(fun e he => by cases he), Nat.zero_le _⟩
  ·have h2 := PW h1
   have key : octE (qE t k w).1 ∧ (qE t k w).1.length ≤ t.e.length + 1 := by
    unfold qE
    split
    ·exact ⟨vY ho _ _ (eu ho _), by simp⟩
    ·split
     ·exact ⟨Qu ho _ hk, by simp⟩
     ·exact ⟨vY ho _ _ hk, by simp⟩
   refine ⟨fun e he => key.1 e ((GK _ _ _).1 he), ?_⟩
   show (srt bfE (qE t k w).1).length ≤ _
   rw [GI]; omega
theorem Dc (d : Int) {l : List En} (h : octE l) : octE (jB d l) := by
 induction l with
 | nil => exact h
 | cons y l ih =>
  have h2 : octE l := fun e he => h e (by simp [he])
  rw [xK]
  split
  ·intro e he
   rcases List.mem_cons.1 he with rfl | he
   ·exact h y (by simp)
   ·exact ih h2 e he
  ·exact ih h2
theorem Df (x : En) {l : List En} (hx : oct x.1) (h : octE l) : octE (iV x l) := by
 intro e he
 rcases (PY x e l).1 he with rfl | he
 ·exact hx
 ·exact h e he
theorem Qw (t : Fq) (k : List Nat) (w : Int) (ho : octE t.e) (hk : oct k) (hn : t.e.length ≤ 1000000) : octE (pF t k w).1.e ∧ (pF t k w).1.e.length ≤ 1000000 := by
 unfold pF
 split
 ·exact ⟨(fun e he => by cases he), Nat.zero_le _⟩
 ·rename_i h1
  have h1 := Classical.byContradiction h1
  split
  ·exact ⟨(fun e he => by cases he), Nat.zero_le _⟩
  ·have h2 := PZ h1
   show octE (gy t k w).1 ∧ (gy t k w).1.length ≤ _
   have hl := Cf (dU w t.e) t.e
   unfold gy
   split
   ·exact ⟨vY ho _ _ (eu ho _), by simp; omega⟩
   ·split
    ·exact ⟨Df _ hk ho, by simp only [Ce]; omega⟩
    ·simp only
     split
     ·exact ⟨Df _ hk (Dc _ ho), by simp only [Ce]; omega⟩
     ·exact ⟨Dc _ ho, by omega⟩
def qH (v : List (List (List Nat))) : Prop := ∀ l ∈ v, octL l
theorem Dh {v : List (List (List Nat))} (h : qH v) (i : Nat) : octL (v.getD i []) := by
 rcases Nat.lt_or_ge i v.length with hi | hi
 ·exact h _ (jy _ _ _ hi)
 ·rw [List.getD, List.getElem?_eq_none hi]; intro e he; cases he
theorem Qx {v : List (List (List Nat))} (h : qH v) (i : Nat) (l : List (List Nat)) (hl : octL l) : qH (v.set i l) := by
 intro x hx
 rcases List.mem_or_eq_of_mem_set hx with h1 | rfl
 ·exact h x h1
 ·exact hl
theorem KD (k : List Nat) (hk : oct k) (ps : List Int) (v : List (List (List Nat))) (hv : qH v) (i : Nat) : qH (jR k ps v i) := by
 induction i with
 | zero => exact hv
 | succ i ih =>
  show qH (wM k (jR k ps v i) (ps.getD i 0).toNat)
  unfold wM
  refine Qx ?_ _ _ ?_
  ·intro l hl
   unfold fU at hl
   rcases List.mem_append.1 hl with h1 | h1
   ·exact ih l h1
   ·rw [List.eq_of_mem_replicate h1]; intro e he; cases he
  ·intro e he
   rcases List.mem_append.1 he with h1 | h1
   ·exact Dh ih _ e h1
   ·rw [List.mem_singleton.1 h1]; exact hk
def Qy (s : Stl) : Prop := octL s.2.1 ∧ ∀ l ∈ s.2.2.2.2, octL l ∧ l.length ≤ 32
theorem FN (v : List (List (List Nat))) (z : Int) (hz : z ≤ 32) (co : List Nat) (s : Stl) (hv : qH v) (h : Qy s) : Qy (eU v z co s) := by
 obtain ⟨h1, h2⟩ := h
 have hc : octL (bT v s) := by
  intro e he
  unfold bT at he
  rw [GK] at he
  split at he
  ·rcases List.mem_append.1 he with he | he
   ·exact Dh hv _ e he
   ·exact h1 e he
  ·exact h1 e he
 unfold eU
 split
 ·rename_i hlt
  refine ⟨(fun e he => by cases he), fun l hl => ?_⟩
  rcases List.mem_append.1 hl with hl | hl
  ·exact h2 l hl
  ·rw [List.mem_singleton.1 hl]; exact ⟨hc, by omega⟩
 ·refine ⟨?_, fun l hl => ?_⟩
  ·intro e he
   unfold evN at he
   obtain ⟨j, _, rfl⟩ := List.mem_map.1 he
   exact l7 hc _
  ·rcases List.mem_append.1 hl with hl | hl
   ·exact h2 l hl
   ·rw [List.mem_singleton.1 hl]
    exact ⟨fun e he => hc e (List.mem_of_mem_drop he), by rw [List.length_drop]; omega⟩
theorem Qz (v : List (List (List Nat))) (z : Int) (hz : z ≤ 32) (co : List Nat) (hv : qH v) : ∀ (f : Nat) (s : Stl), Qy s → Qy (l9 v z co f s) := by
 intro f
 induction f with
 | zero => intro s h; exact h
 | succ f ih =>
  intro s h
  unfold l9
  split
  ·exact ih _ (FN v z hz co s hv h)
  ·exact h
theorem KE : ∀ (f : Nat) (l : List (List (List Nat))), (∀ x ∈ jw f l, x ∈ l) ∧ (jw f l).length ≤ l.length := by
 intro f
 induction f with
 | zero => intro l; exact ⟨fun x h => h, Nat.le_refl _⟩
 | succ f ih =>
  intro l
  unfold jw
  split
  ·obtain ⟨h1, h2⟩ := ih (l.take (l.length - 1))
   exact ⟨fun x hx => List.mem_of_mem_take (h1 x hx), by rw [List.length_take] at h2; omega⟩
  ·exact ⟨fun x h => h, Nat.le_refl _⟩
theorem QA (x : Rk) (k : List Nat) (w : Int) (co : List Nat) (at' : Int) (hk : oct k) (hv : qH x.v) (hn : x.v.length ≤ 1000000) (hm : ∀ l ∈ x.v, l.length ≤ 1000000) :
  qH (kQ x k w co at').1.v ∧ (kQ x k w co at').1.v.length ≤ 1000000 ∧ ∀ l ∈ (kQ x k w co at').1.v, l.length ≤ 1000000 := by
 have h0 : qH [] ∧ ([] : List (List (List Nat))).length ≤ 1000000 ∧ ∀ l ∈ ([] : List (List (List Nat))), l.length ≤ 1000000 := ⟨(fun l hl => by cases hl), Nat.zero_le _, fun l hl => by cases hl⟩
 unfold kQ
 split
 ·exact h0
 ·rename_i h1
  have h1 := Classical.byContradiction h1
  split
  ·exact h0
  ·rename_i h2
   have h2 := Classical.byContradiction h2
   split
   ·exact h0
   ·split
    ·exact ⟨hv, hn, hm⟩
    ·obtain ⟨i1, i2, i3, i4, i5⟩ := Qb h1
     have hin := CO k (fD w 63) x.v (fun i => by have := CP w 63 i (by decide); omega) 31 i5 (by omega) (fD w 63).length
     have hpo := KD k hk (fD w 63) x.v hv (fD w 63).length
     have hgo := Qz (qF x k w) x.z (by omega) co hpo ((qF x k w).length * (100 + 1)) (0, [], x.l, at', []) ⟨(fun e he => by cases he), (fun l hl => by cases hl)⟩
     have hle := UG (qF x k w) x.z co ((qF x k w).length * (100 + 1)) (0, [], x.l, at', [])
     have hpl : (qF x k w).length ≤ 63 := hin.1
     have hml : (qF x k w).length * (100 + 1) ≤ 63 * 101 := Nat.mul_le_mul_right 101 hpl
     obtain ⟨t1, t2⟩ := KE (wO x k w co at').2.2.2.2.length (wO x k w co at').2.2.2.2
     have hsl : (wO x k w co at').2.2.2.2.length ≤ 0 + (qF x k w).length * (100 + 1) := hle
     have hsg : Qy (wO x k w co at') := hgo
     show qH (jw _ _) ∧ (jw _ _).length ≤ _ ∧ ∀ l ∈ jw _ _, _
     exact ⟨fun l hl => (hsg.2 l (t1 l hl)).1, by omega, fun l hl => by have := (hsg.2 l (t1 l hl)).2; omega⟩
abbrev zer (n : Nat) : List Int := List.replicate n 0
theorem QB (d z s : Int) (h : 1 ≤ d ∧ d ≤ 8 ∧ 1 ≤ z ∧ z ≤ 64) : Pg.Good Tryz.prog 191 [vi d, vi z, vu s] (.tup [.agg (cmF ⟨d, z, s, zer (d * z).toNat, false⟩), vi 0]) := by
 refine Good.fzt (vs := [.agg [vi d, vi z, vu s, .sl (.own 0 3) 1 (iv (zer (d * z).toNat)), vb false], vi 0]) ?_ rfl ⟨aB _, aB _, trivial⟩
 have k1 := ay d 1 8 ⟨h.1, h.2.1⟩
 have k2 := ay z 1 64 h.2.2
 have hm := vz (d := d) (z := z) ⟨h.1, h.2.1⟩ h.2.2
 have hrep : ∀ n : Nat, List.replicate n (V.c (.int .i64 0)) = iv (zer n) := fun n => by simp [iv]
 refine gI oW Tryz.func191 Tryz.results191 ?_
 exact wR @hrep (aI k1 k2) (ids [1])
theorem QC (p s : Int) (h : 2 ≤ p ∧ p ≤ 8) : Pg.Good Tryz.prog 192 [vi p, vu s] (.tup [.agg (llF ⟨p, s, zer (2 ^ p.toNat)⟩), vi 0]) := by
 refine Good.fzt (vs := [.agg [vi p, vu s, .sl (.own 0 3) 1 (iv (zer (2 ^ p.toNat)))], vi 0]) ?_ rfl ⟨aB _, aB _, trivial⟩
 have k1 := ay p 2 8 h
 obtain ⟨hm, hm2, _⟩ := nY h
 have hrep : ∀ n : Nat, List.replicate n (V.c (.int .i64 0)) = iv (zer n) := fun n => by simp [iv]
 generalize 2 ^ p.toNat = q at hm hm2 ⊢
 refine gI oW Tryz.func192 Tryz.results192 ?_
 exact wR (aI @hrep @hm) k1 (ids [1])
theorem QD (p : Int) (h : 1 ≤ p ∧ p ≤ 32) : Pg.Good Tryz.prog 193 [vi p] (.tup [.agg (tpF ⟨p, 0, [], false⟩), vi 0]) := by
 refine Good.fzt (vs := [.agg [vi p, vi 0, nls, vb false], vi 0]) ?_ rfl ⟨.inr ⟨_, _, rfl, rfl, ⟨.inl rfl, .inl rfl, kY _ _, .inl rfl, trivial⟩⟩, aB _, trivial⟩
 have k1 := ay p 1 32 h
 refine gI oW Tryz.func193 Tryz.results193 ?_
 exact wR trivial k1 ae
theorem QE (p : Int) (h : 1 ≤ p ∧ p ≤ 32) : Pg.Good Tryz.prog 194 [vi p] (.tup [.agg (fqF ⟨p, 0, 0, [], false⟩), vi 0]) := by
 refine Good.fzt (vs := [.agg [vi p, vi 0, vi 0, nls, vb false], vi 0]) ?_ rfl ⟨.inr ⟨_, _, rfl, rfl, ⟨.inl rfl, .inl rfl, .inl rfl, kY _ _, .inl rfl, trivial⟩⟩, aB _, trivial⟩
 have k1 := ay p 1 32 h
 refine gI oW Tryz.func194 Tryz.results194 ?_
 exact wR trivial k1 ae
theorem QF (p : Int) (h : 2 ≤ p ∧ p ≤ 32 ∧ p % 2 = 0) : Pg.Good Tryz.prog 195 [vi p] (.tup [.agg (rkF ⟨p, 0, 0, [], false⟩), vi 0]) := by
 refine Good.fzt (vs := [.agg [vi p, vi 0, vi 0, nls, vb false], vi 0]) ?_ rfl ⟨.inr ⟨_, _, rfl, rfl, ⟨.inl rfl, .inl rfl, .inl rfl, kY _ _, .inl rfl, trivial⟩⟩, aB _, trivial⟩
 have k1 := ay p 2 32 ⟨h.1, h.2.1⟩
 have et : p.tmod 2 = p % 2 := Int.tmod_eq_emod_of_nonneg (by omega)
 refine gI oW Tryz.func195 Tryz.results195 ?_
 exact wR @et k1 ae
def gB (p : Pm) : Sk :=
 if p.k = 1 then ⟨p, Tl.o, Cm.o, Ll.o, Tp.o, Fq.o, Rk.o⟩
 else if p.k = 2 then ⟨p, Tl.o, ⟨p.d, p.z, p.s, zer (p.d * p.z).toNat, false⟩, Ll.o, Tp.o, Fq.o, Rk.o⟩
 else if p.k = 3 then ⟨p, Tl.o, Cm.o, ⟨p.z, p.s, zer (2 ^ p.z.toNat)⟩, Tp.o, Fq.o, Rk.o⟩
 else if p.k = 4 then ⟨p, Tl.o, Cm.o, Ll.o, ⟨p.z, 0, [], false⟩, Fq.o, Rk.o⟩
 else if p.k = 5 then ⟨p, Tl.o, Cm.o, Ll.o, Tp.o, ⟨p.z, 0, 0, [], false⟩, Rk.o⟩
 else ⟨p, Tl.o, Cm.o, Ll.o, Tp.o, Fq.o, ⟨p.z, 0, 0, [], false⟩⟩
theorem Ym {z d s : Int} (h : vp 2 z d s = 0) : 1 ≤ d ∧ d ≤ 8 ∧ 1 ≤ z ∧ z ≤ 64 := by unfold vp at h; simp at h; omega
theorem Xf {z d s : Int} (h : vp 3 z d s = 0) : 2 ≤ z ∧ z ≤ 8 := by unfold vp at h; simp at h; omega
theorem ZE {z d s : Int} (h : vp 4 z d s = 0) : 1 ≤ z ∧ z ≤ 32 := by unfold vp at h; simp at h; omega
theorem ZF {z d s : Int} (h : vp 5 z d s = 0) : 1 ≤ z ∧ z ≤ 32 := by unfold vp at h; simp at h; omega
theorem ZG {z d s : Int} (h : vp 6 z d s = 0) : 2 ≤ z ∧ z ≤ 32 ∧ z % 2 = 0 := by unfold vp at h; simp at h; omega
theorem QG (p : Pm) (hs : 0 ≤ p.s ∧ p.s < 18446744073709551616) (h : vp p.k p.z p.d p.s = 0) : (gB p).Ok := by
 have h0 : (0 : Int) ≤ 0 ∧ (0 : Int) < 18446744073709551616 := ⟨by decide, by decide⟩
 have e0 : octE [] := fun e he => by cases he
 have v0 : qH [] := fun e he => by cases he
 have m0 : ∀ l ∈ ([] : List (List (List Nat))), l.length ≤ 1000000 := fun e he => by cases he
 obtain ⟨k, z, d, s⟩ := p
 simp only at hs h
 unfold gB
 simp only
 split
 ·exact ⟨hs, h0, h0, Nat.zero_le _, Nat.zero_le _, e0, Nat.zero_le _, e0, Nat.zero_le _, v0, Nat.zero_le _, m0⟩
 ·split
  ·rename_i hk; subst hk
   have h2 := Ym h
   have hm := vz (d := d) (z := z) ⟨h2.1, h2.2.1⟩ h2.2.2
   exact ⟨hs, hs, h0, by simp; omega, Nat.zero_le _, e0, Nat.zero_le _, e0, Nat.zero_le _, v0, Nat.zero_le _, m0⟩
  ·split
   ·rename_i hk; subst hk
    have h2 := (nY (Xf h)).2.1
    exact ⟨hs, h0, hs, Nat.zero_le _, by simp only [List.length_replicate]; omega, e0, Nat.zero_le _, e0, Nat.zero_le _, v0, Nat.zero_le _, m0⟩
   ·split
    ·exact ⟨hs, h0, h0, Nat.zero_le _, Nat.zero_le _, e0, Nat.zero_le _, e0, Nat.zero_le _, v0, Nat.zero_le _, m0⟩
    ·split
     ·exact ⟨hs, h0, h0, Nat.zero_le _, Nat.zero_le _, e0, Nat.zero_le _, e0, Nat.zero_le _, v0, Nat.zero_le _, m0⟩
     ·exact ⟨hs, h0, h0, Nat.zero_le _, Nat.zero_le _, e0, Nat.zero_le _, e0, Nat.zero_le _, v0, Nat.zero_le _, m0⟩
theorem KF (z d s : Int) (h : vp 1 z d s = 0) : Pg.Good Tryz.prog 105 [.agg [vi 1, vi z, vi d, vu s]] (.tup [.agg (skF (gB ⟨1, z, d, s⟩)), vi 0]) := by
 have eo : gB ⟨1, z, d, s⟩ = ⟨⟨1, z, d, s⟩, Tl.o, Cm.o, Ll.o, Tp.o, Fq.o, Rk.o⟩ := rfl
 rw [eo]
 refine Good.fzt (vs := [.agg (skC ⟨⟨1, z, d, s⟩, Tl.o, Cm.o, Ll.o, Tp.o, Fq.o, Rk.o⟩ nls nls nls nls nls), vi 0]) ?_ rfl ⟨fE ⟨⟨1, z, d, s⟩, Tl.o, Cm.o, Ll.o, Tp.o, Fq.o, Rk.o⟩ (aG _) (aG _) (aG _) (aG _) (aG _), aB _, trivial⟩
 have hv := aF 1 z d s
 rw [h] at hv
 refine gI oD Tryz.func105 Tryz.results105 ?_
 exact wRA trivial hv ae
theorem KG (z d s : Int) (h : vp 2 z d s = 0) : Pg.Good Tryz.prog 105 [.agg [vi 2, vi z, vi d, vu s]] (.tup [.agg (skF (gB ⟨2, z, d, s⟩)), vi 0]) := by
 have eo : gB ⟨2, z, d, s⟩ = ⟨⟨2, z, d, s⟩, Tl.o, ⟨d, z, s, zer (d * z).toNat, false⟩, Ll.o, Tp.o, Fq.o, Rk.o⟩ := rfl
 rw [eo]
 refine Good.fzt (vs := [.agg (skC ⟨⟨2, z, d, s⟩, Tl.o, ⟨d, z, s, zer (d * z).toNat, false⟩, Ll.o, Tp.o, Fq.o, Rk.o⟩ (fzi (zer (d * z).toNat)) nls nls nls nls), vi 0]) ?_ rfl ⟨fE ⟨⟨2, z, d, s⟩, Tl.o, ⟨d, z, s, zer (d * z).toNat, false⟩, Ll.o, Tp.o, Fq.o, Rk.o⟩ (nH _) (aG _) (aG _) (aG _) (aG _), aB _, trivial⟩
 have hv := aF 2 z d s
 rw [h] at hv
 have hc := QB d z s (Ym h)
 generalize zer (d * z).toNat = Z at *
 refine gI oD Tryz.func105 Tryz.results105 ?_
 exact wRA trivial (aI hv hc) ae
theorem KH (z d s : Int) (h : vp 3 z d s = 0) : Pg.Good Tryz.prog 105 [.agg [vi 3, vi z, vi d, vu s]] (.tup [.agg (skF (gB ⟨3, z, d, s⟩)), vi 0]) := by
 have eo : gB ⟨3, z, d, s⟩ = ⟨⟨3, z, d, s⟩, Tl.o, Cm.o, ⟨z, s, zer (2 ^ z.toNat)⟩, Tp.o, Fq.o, Rk.o⟩ := rfl
 rw [eo]
 refine Good.fzt (vs := [.agg (skC ⟨⟨3, z, d, s⟩, Tl.o, Cm.o, ⟨z, s, zer (2 ^ z.toNat)⟩, Tp.o, Fq.o, Rk.o⟩ nls (fzi (zer (2 ^ z.toNat))) nls nls nls), vi 0]) ?_ rfl ⟨fE ⟨⟨3, z, d, s⟩, Tl.o, Cm.o, ⟨z, s, zer (2 ^ z.toNat)⟩, Tp.o, Fq.o, Rk.o⟩ (aG _) (nH _) (aG _) (aG _) (aG _), aB _, trivial⟩
 have hv := aF 3 z d s
 rw [h] at hv
 have hc := QC z s (Xf h)
 generalize zer (2 ^ z.toNat) = Z at *
 refine gI oD Tryz.func105 Tryz.results105 ?_
 exact wRA trivial (aI hv hc) ae
theorem KI (z d s : Int) (h : vp 4 z d s = 0) : Pg.Good Tryz.prog 105 [.agg [vi 4, vi z, vi d, vu s]] (.tup [.agg (skF (gB ⟨4, z, d, s⟩)), vi 0]) := by
 have eo : gB ⟨4, z, d, s⟩ = ⟨⟨4, z, d, s⟩, Tl.o, Cm.o, Ll.o, ⟨z, 0, [], false⟩, Fq.o, Rk.o⟩ := rfl
 rw [eo]
 refine Good.fzt (vs := [.agg (skC ⟨⟨4, z, d, s⟩, Tl.o, Cm.o, Ll.o, ⟨z, 0, [], false⟩, Fq.o, Rk.o⟩ nls nls (fzv []) nls nls), vi 0]) ?_ rfl ⟨fE ⟨⟨4, z, d, s⟩, Tl.o, Cm.o, Ll.o, ⟨z, 0, [], false⟩, Fq.o, Rk.o⟩ (aG _) (aG _) (nH _) (aG _) (aG _), aB _, trivial⟩
 have hv := aF 4 z d s
 rw [h] at hv
 have hc := QD z (ZE h)
 refine gI oD Tryz.func105 Tryz.results105 ?_
 exact wRA trivial (aI hv hc) ae
theorem KJ (z d s : Int) (h : vp 5 z d s = 0) : Pg.Good Tryz.prog 105 [.agg [vi 5, vi z, vi d, vu s]] (.tup [.agg (skF (gB ⟨5, z, d, s⟩)), vi 0]) := by
 have eo : gB ⟨5, z, d, s⟩ = ⟨⟨5, z, d, s⟩, Tl.o, Cm.o, Ll.o, Tp.o, ⟨z, 0, 0, [], false⟩, Rk.o⟩ := rfl
 rw [eo]
 refine Good.fzt (vs := [.agg (skC ⟨⟨5, z, d, s⟩, Tl.o, Cm.o, Ll.o, Tp.o, ⟨z, 0, 0, [], false⟩, Rk.o⟩ nls nls nls (fzv []) nls), vi 0]) ?_ rfl ⟨fE ⟨⟨5, z, d, s⟩, Tl.o, Cm.o, Ll.o, Tp.o, ⟨z, 0, 0, [], false⟩, Rk.o⟩ (aG _) (aG _) (aG _) (nH _) (aG _), aB _, trivial⟩
 have hv := aF 5 z d s
 rw [h] at hv
 have hc := QE z (ZF h)
 refine gI oD Tryz.func105 Tryz.results105 ?_
 exact wRA trivial (aI hv hc) ae
theorem KL (z d s : Int) (h : vp 6 z d s = 0) : Pg.Good Tryz.prog 105 [.agg [vi 6, vi z, vi d, vu s]] (.tup [.agg (skF (gB ⟨6, z, d, s⟩)), vi 0]) := by
 have eo : gB ⟨6, z, d, s⟩ = ⟨⟨6, z, d, s⟩, Tl.o, Cm.o, Ll.o, Tp.o, Fq.o, ⟨z, 0, 0, [], false⟩⟩ := rfl
 rw [eo]
 refine Good.fzt (vs := [.agg (skC ⟨⟨6, z, d, s⟩, Tl.o, Cm.o, Ll.o, Tp.o, Fq.o, ⟨z, 0, 0, [], false⟩⟩ nls nls nls nls (fzl [])), vi 0]) ?_ rfl ⟨fE ⟨⟨6, z, d, s⟩, Tl.o, Cm.o, Ll.o, Tp.o, Fq.o, ⟨z, 0, 0, [], false⟩⟩ (aG _) (aG _) (aG _) (aG _) (nH _), aB _, trivial⟩
 have hv := aF 6 z d s
 rw [h] at hv
 have hc := QF z (ZG h)
 refine gI oD Tryz.func105 Tryz.results105 ?_
 exact wRA trivial (aI hv hc) ae
theorem UW (p : Pm) (h : vp p.k p.z p.d p.s = 0) : Pg.Good Tryz.prog 105 [.agg (pmF p)] (.tup [.agg (skF (gB p)), vi 0]) := by
 obtain ⟨k, z, d, s⟩ := p
 simp only at h
 rcases GG h with rfl | rfl | rfl | rfl | rfl | rfl
 ·exact KF z d s h
 ·exact KG z d s h
 ·exact KH z d s h
 ·exact KI z d s h
 ·exact KJ z d s h
 ·exact KL z d s h
def aV (s : Sk) (k : List Nat) (w : Int) (co : List Nat) (at' : Int) : Sk × Int × Int :=
 if vSk s ≠ 0 then (Sk.o, 0, vSk s) else if bD k w ≠ 0 then (Sk.o, 0, bD k w) else if ¬ (0 ≤ at' ∧ at' ≤ 1073741824) then (Sk.o, 0, 5)
 else if s.p.k = 1 then (⟨s.p, (o9 s.tl k w).1, s.cm, s.ll, s.tp, s.fq, s.rk⟩, at', 0)
 else if s.p.k = 2 then (⟨s.p, s.tl, (ni s.cm k w).1, s.ll, s.tp, s.fq, s.rk⟩, at', 0)
 else if s.p.k = 3 then (⟨s.p, s.tl, s.cm, (lF s.ll k w).1, s.tp, s.fq, s.rk⟩, at', 0)
 else if s.p.k = 4 then (⟨s.p, s.tl, s.cm, s.ll, (pq s.tp k w).1, s.fq, s.rk⟩, at', 0)
 else if s.p.k = 5 then (⟨s.p, s.tl, s.cm, s.ll, s.tp, (pF s.fq k w).1, s.rk⟩, at', 0)
 else (⟨s.p, s.tl, s.cm, s.ll, s.tp, s.fq, (kQ s.rk k w co at').1⟩, (kQ s.rk k w co at').2.1, 0)
theorem FO : Sk.o.Ok := ⟨⟨by decide, by decide⟩, ⟨by decide, by decide⟩, ⟨by decide, by decide⟩, Nat.zero_le _, Nat.zero_le _, (fun e he => by cases he), Nat.zero_le _, (fun e he => by cases he), Nat.zero_le _, (fun e he => by cases he), Nat.zero_le _, (fun e he => by cases he)⟩
theorem QH (s : Sk) (ok : s.Ok) (k : List Nat) (w : Int) (co : List Nat) (at' : Int) (hk : oct k) : (aV s k w co at').1.Ok := by
 have z0 : (0 : Int) ≤ 0 ∧ (0 : Int) < 18446744073709551616 := ⟨by decide, by decide⟩
 unfold aV
 split
 ·exact FO
 ·split
  ·exact FO
  ·split
   ·exact FO
   ·split
    ·exact ⟨ok.ps, ok.cs, ok.ls, ok.cn, ok.ln, ok.to, ok.tn, ok.fo, ok.fn, ok.ro, ok.rn, ok.rm⟩
    ·split
     ·have h : (0 ≤ (ni s.cm k w).1.s ∧ (ni s.cm k w).1.s < 18446744073709551616) ∧ (ni s.cm k w).1.c.length ≤ 1000000 := by
       unfold ni
       split
       ·exact ⟨z0, Nat.zero_le _⟩
       ·have := CQ s.cm k w s.cm.d.toNat
        show (0 ≤ (dm s.cm k w s.cm.d.toNat).s ∧ _) ∧ (dm s.cm k w s.cm.d.toNat).c.length ≤ _
        rw [this.2.2.1, this.2.2.2]
        exact ⟨ok.cs, ok.cn⟩
      exact ⟨ok.ps, h.1, ok.ls, h.2, ok.ln, ok.to, ok.tn, ok.fo, ok.fn, ok.ro, ok.rn, ok.rm⟩
     ·split
      ·have h : (0 ≤ (lF s.ll k w).1.s ∧ (lF s.ll k w).1.s < 18446744073709551616) ∧ (lF s.ll k w).1.r.length ≤ 1000000 := by
        unfold lF
        split
        ·exact ⟨z0, Nat.zero_le _⟩
        ·exact ⟨ok.ls, by simp only [List.length_set]; exact ok.ln⟩
       exact ⟨ok.ps, ok.cs, h.1, ok.cn, h.2, ok.to, ok.tn, ok.fo, ok.fn, ok.ro, ok.rn, ok.rm⟩
      ·split
       ·have h := Qv s.tp k w ok.to hk ok.tn
        exact ⟨ok.ps, ok.cs, ok.ls, ok.cn, ok.ln, h.1, h.2, ok.fo, ok.fn, ok.ro, ok.rn, ok.rm⟩
       ·split
        ·have h := Qw s.fq k w ok.fo hk ok.fn
         exact ⟨ok.ps, ok.cs, ok.ls, ok.cn, ok.ln, ok.to, ok.tn, h.1, h.2, ok.ro, ok.rn, ok.rm⟩
        ·have h := QA s.rk k w co at' hk ok.ro ok.rn ok.rm
         exact ⟨ok.ps, ok.cs, ok.ls, ok.cn, ok.ln, ok.to, ok.tn, ok.fo, ok.fn, h.1, h.2.1, h.2.2⟩
theorem zD : wkV (.agg (skC Sk.o nls nls nls nls nls)) (.agg (skF Sk.o)) := fE Sk.o (aG _) (aG _) (aG _) (aG _) (aG _)
theorem dX (n : Int) : Pg.Good Tryz.prog 47 [vi n] (vb (decide (0 ≤ n ∧ n ≤ 1073741824))) := by
 by_cases h1 : 0 ≤ n
 ·by_cases h2 : n ≤ 1073741824
  ·rw [decide_eq_true ⟨h1, h2⟩]
   refine gI oW Tryz.func47 Tryz.results47 ?_
   exact wR trivial trivial ae
  ·rw [decide_eq_false (fun h => h2 h.2)]
   refine gI oW Tryz.func47 Tryz.results47 ?_
   exact wR trivial trivial ae
 ·rw [decide_eq_false (fun h => h1 h.1)]
  refine gI oW Tryz.func47 Tryz.results47 ?_
  exact wR trivial trivial ae
theorem zF (s : Sk) (ok : s.Ok) (k : List Nat) (w : Int) (co : List Nat) (at' : Int) (ho : oct k) (hco : oct co) (h : vSk s = 0) (hi : bD k w = 0) (ha : 0 ≤ at' ∧ at' ≤ 1073741824) (hk : s.p.k = 1) : Pg.Good Tryz.prog 14 [.agg (skF s), .agg [vs k, vi w], fzb co, vi at'] (.tup [.agg (skF (aV s k w co at').1), vi (aV s k w co at').2.1, vi (aV s k w co at').2.2]) := by
 have h1 := dH s ok
 rw [h] at h1
 have h2 := aJ k w
 rw [hi] at h2
 have h3 := dX at'
 rw [decide_eq_true ha] at h3
 have h4 := vw s.tl k w
 have e : aV s k w co at' = (⟨s.p, (o9 s.tl k w).1, s.cm, s.ll, s.tp, s.fq, s.rk⟩, at', 0) := by
  unfold aV
  rw [if_neg (by omega), if_neg (by omega), if_neg (fun h => h ha)]
  simp [hk]
 rw [e]
 generalize o9 s.tl k w = I at *
 clear ok e
 obtain ⟨⟨pk, pz, pd, ps⟩, ⟨t1, t2, t3⟩, ⟨c1, c2, c3, c4, c5⟩, ⟨l1, l2, l3⟩, ⟨e1, e2, e3, e4⟩, ⟨f1, f2, f3, f4, f5⟩, ⟨r1, r2, r3, r4, r5⟩⟩ := s
 obtain ⟨⟨i1, i2, i3⟩, i6⟩ := I
 simp only at *
 subst hk
 refine gI oD Tryz.func14 Tryz.results14 ?_
 exact wRA trivial (aI h1 (aI h2 (aI h3 h4))) ae
theorem zG (s : Sk) (ok : s.Ok) (k : List Nat) (w : Int) (co : List Nat) (at' : Int) (ho : oct k) (hco : oct co) (h : vSk s = 0) (hi : bD k w = 0) (ha : 0 ≤ at' ∧ at' ≤ 1073741824) (hk : s.p.k = 2) : Pg.Good Tryz.prog 14 [.agg (skF s), .agg [vs k, vi w], fzb co, vi at'] (.tup [.agg (skF (aV s k w co at').1), vi (aV s k w co at').2.1, vi (aV s k w co at').2.2]) := by
 have h1 := dH s ok
 rw [h] at h1
 have h2 := aJ k w
 rw [hi] at h2
 have h3 := dX at'
 rw [decide_eq_true ha] at h3
 have h4 := pK s.cm k w ho
 have e : aV s k w co at' = (⟨s.p, s.tl, (ni s.cm k w).1, s.ll, s.tp, s.fq, s.rk⟩, at', 0) := by
  unfold aV
  rw [if_neg (by omega), if_neg (by omega), if_neg (fun h => h ha)]
  simp [hk]
 rw [e]
 generalize ni s.cm k w = I at *
 clear ok e
 obtain ⟨⟨pk, pz, pd, ps⟩, ⟨t1, t2, t3⟩, ⟨c1, c2, c3, c4, c5⟩, ⟨l1, l2, l3⟩, ⟨e1, e2, e3, e4⟩, ⟨f1, f2, f3, f4, f5⟩, ⟨r1, r2, r3, r4, r5⟩⟩ := s
 obtain ⟨⟨i1, i2, i3, i4, i5⟩, i6⟩ := I
 simp only at *
 subst hk
 refine gI oD Tryz.func14 Tryz.results14 ?_
 exact wRA trivial (aI h1 (aI h2 (aI h3 h4))) ae
theorem zH (s : Sk) (ok : s.Ok) (k : List Nat) (w : Int) (co : List Nat) (at' : Int) (ho : oct k) (hco : oct co) (h : vSk s = 0) (hi : bD k w = 0) (ha : 0 ≤ at' ∧ at' ≤ 1073741824) (hk : s.p.k = 3) : Pg.Good Tryz.prog 14 [.agg (skF s), .agg [vs k, vi w], fzb co, vi at'] (.tup [.agg (skF (aV s k w co at').1), vi (aV s k w co at').2.1, vi (aV s k w co at').2.2]) := by
 have h1 := dH s ok
 rw [h] at h1
 have h2 := aJ k w
 rw [hi] at h2
 have h3 := dX at'
 rw [decide_eq_true ha] at h3
 have h4 := rV s.ll k w ho ok.ln
 have e : aV s k w co at' = (⟨s.p, s.tl, s.cm, (lF s.ll k w).1, s.tp, s.fq, s.rk⟩, at', 0) := by
  unfold aV
  rw [if_neg (by omega), if_neg (by omega), if_neg (fun h => h ha)]
  simp [hk]
 rw [e]
 generalize lF s.ll k w = I at *
 clear ok e
 obtain ⟨⟨pk, pz, pd, ps⟩, ⟨t1, t2, t3⟩, ⟨c1, c2, c3, c4, c5⟩, ⟨l1, l2, l3⟩, ⟨e1, e2, e3, e4⟩, ⟨f1, f2, f3, f4, f5⟩, ⟨r1, r2, r3, r4, r5⟩⟩ := s
 obtain ⟨⟨i1, i2, i3⟩, i6⟩ := I
 simp only at *
 subst hk
 refine gI oD Tryz.func14 Tryz.results14 ?_
 exact wRA trivial (aI h1 (aI h2 (aI h3 h4))) ae
theorem zI (s : Sk) (ok : s.Ok) (k : List Nat) (w : Int) (co : List Nat) (at' : Int) (ho : oct k) (hco : oct co) (h : vSk s = 0) (hi : bD k w = 0) (ha : 0 ≤ at' ∧ at' ≤ 1073741824) (hk : s.p.k = 4) : Pg.Good Tryz.prog 14 [.agg (skF s), .agg [vs k, vi w], fzb co, vi at'] (.tup [.agg (skF (aV s k w co at').1), vi (aV s k w co at').2.1, vi (aV s k w co at').2.2]) := by
 have h1 := dH s ok
 rw [h] at h1
 have h2 := aJ k w
 rw [hi] at h2
 have h3 := dX at'
 rw [decide_eq_true ha] at h3
 have h4 := zo s.tp k w ho ok.to ok.tn
 have e : aV s k w co at' = (⟨s.p, s.tl, s.cm, s.ll, (pq s.tp k w).1, s.fq, s.rk⟩, at', 0) := by
  unfold aV
  rw [if_neg (by omega), if_neg (by omega), if_neg (fun h => h ha)]
  simp [hk]
 rw [e]
 generalize pq s.tp k w = I at *
 clear ok e
 obtain ⟨⟨pk, pz, pd, ps⟩, ⟨t1, t2, t3⟩, ⟨c1, c2, c3, c4, c5⟩, ⟨l1, l2, l3⟩, ⟨e1, e2, e3, e4⟩, ⟨f1, f2, f3, f4, f5⟩, ⟨r1, r2, r3, r4, r5⟩⟩ := s
 obtain ⟨⟨i1, i2, i3, i4⟩, i6⟩ := I
 simp only at *
 subst hk
 refine gI oD Tryz.func14 Tryz.results14 ?_
 exact wRA trivial (aI h1 (aI h2 (aI h3 h4))) ae
theorem zJ (s : Sk) (ok : s.Ok) (k : List Nat) (w : Int) (co : List Nat) (at' : Int) (ho : oct k) (hco : oct co) (h : vSk s = 0) (hi : bD k w = 0) (ha : 0 ≤ at' ∧ at' ≤ 1073741824) (hk : s.p.k = 5) : Pg.Good Tryz.prog 14 [.agg (skF s), .agg [vs k, vi w], fzb co, vi at'] (.tup [.agg (skF (aV s k w co at').1), vi (aV s k w co at').2.1, vi (aV s k w co at').2.2]) := by
 have h1 := dH s ok
 rw [h] at h1
 have h2 := aJ k w
 rw [hi] at h2
 have h3 := dX at'
 rw [decide_eq_true ha] at h3
 have h4 := pG s.fq k w ho ok.fo ok.fn
 have e : aV s k w co at' = (⟨s.p, s.tl, s.cm, s.ll, s.tp, (pF s.fq k w).1, s.rk⟩, at', 0) := by
  unfold aV
  rw [if_neg (by omega), if_neg (by omega), if_neg (fun h => h ha)]
  simp [hk]
 rw [e]
 generalize pF s.fq k w = I at *
 clear ok e
 obtain ⟨⟨pk, pz, pd, ps⟩, ⟨t1, t2, t3⟩, ⟨c1, c2, c3, c4, c5⟩, ⟨l1, l2, l3⟩, ⟨e1, e2, e3, e4⟩, ⟨f1, f2, f3, f4, f5⟩, ⟨r1, r2, r3, r4, r5⟩⟩ := s
 obtain ⟨⟨i1, i2, i3, i4, i5⟩, i6⟩ := I
 simp only at *
 subst hk
 refine gI oD Tryz.func14 Tryz.results14 ?_
 exact wRA trivial (aI h1 (aI h2 (aI h3 h4))) ae
theorem zK (s : Sk) (ok : s.Ok) (k : List Nat) (w : Int) (co : List Nat) (at' : Int) (ho : oct k) (hco : oct co) (h : vSk s = 0) (hi : bD k w = 0) (ha : 0 ≤ at' ∧ at' ≤ 1073741824) (hk : s.p.k = 6) : Pg.Good Tryz.prog 14 [.agg (skF s), .agg [vs k, vi w], fzb co, vi at'] (.tup [.agg (skF (aV s k w co at').1), vi (aV s k w co at').2.1, vi (aV s k w co at').2.2]) := by
 have h1 := dH s ok
 rw [h] at h1
 have h2 := aJ k w
 rw [hi] at h2
 have h3 := dX at'
 rw [decide_eq_true ha] at h3
 have h4 := vK s.rk k w co at' ho hco ok.ro ok.rn ok.rm
 have e : aV s k w co at' = (⟨s.p, s.tl, s.cm, s.ll, s.tp, s.fq, (kQ s.rk k w co at').1⟩, (kQ s.rk k w co at').2.1, 0) := by
  unfold aV
  rw [if_neg (by omega), if_neg (by omega), if_neg (fun h => h ha)]
  simp [hk]
 rw [e]
 generalize kQ s.rk k w co at' = I at *
 clear ok e
 obtain ⟨⟨pk, pz, pd, ps⟩, ⟨t1, t2, t3⟩, ⟨c1, c2, c3, c4, c5⟩, ⟨l1, l2, l3⟩, ⟨e1, e2, e3, e4⟩, ⟨f1, f2, f3, f4, f5⟩, ⟨r1, r2, r3, r4, r5⟩⟩ := s
 obtain ⟨⟨i1, i2, i3, i4, i5⟩, i6, i7⟩ := I
 simp only at *
 subst hk
 refine gI oD Tryz.func14 Tryz.results14 ?_
 exact wRA trivial (aI h1 (aI h2 (aI h3 h4))) ae
theorem FP (s : Sk) (ok : s.Ok) (k : List Nat) (w : Int) (co : List Nat) (at' : Int) (ho : oct k) (hco : oct co) : Pg.Good Tryz.prog 14 [.agg (skF s), .agg [vs k, vi w], fzb co, vi at'] (.tup [.agg (skF (aV s k w co at').1), vi (aV s k w co at').2.1, vi (aV s k w co at').2.2]) := by
 have h1 := dH s ok
 have h2 := aJ k w
 have h3 := dX at'
 by_cases q1 : vSk s = 0
 ·by_cases q2 : bD k w = 0
  ·by_cases q3 : 0 ≤ at' ∧ at' ≤ 1073741824
   ·have q4 : vp s.p.k s.p.z s.p.d s.p.s = 0 := by
     unfold vSk at q1
     split at q1
     ·rename_i h; exact absurd q1 h
     ·rename_i h; exact Classical.byContradiction h
    rcases GG q4 with hk | hk | hk | hk | hk | hk
    ·exact zF s ok k w co at' ho hco q1 q2 q3 hk
    ·exact zG s ok k w co at' ho hco q1 q2 q3 hk
    ·exact zH s ok k w co at' ho hco q1 q2 q3 hk
    ·exact zI s ok k w co at' ho hco q1 q2 q3 hk
    ·exact zJ s ok k w co at' ho hco q1 q2 q3 hk
    ·exact zK s ok k w co at' ho hco q1 q2 q3 hk
   ·have e : aV s k w co at' = (Sk.o, 0, 5) := by unfold aV; rw [if_neg (by omega), if_neg (by omega), if_pos q3]
    rw [e]
    rw [decide_eq_false q3] at h3
    rw [q1] at h1
    rw [q2] at h2
    refine Good.fzt (vs := [.agg (skC Sk.o nls nls nls nls nls), vi 0, vi 5]) ?_ rfl ⟨zD, aB _, aB _, trivial⟩
    refine gI oD Tryz.func14 Tryz.results14 ?_
    exact wRA trivial (aI h1 (aI h2 h3)) ae
  ·have e : aV s k w co at' = (Sk.o, 0, bD k w) := by unfold aV; rw [if_neg (by omega), if_pos q2]
   rw [e]
   rw [q1] at h1
   refine Good.fzt (vs := [.agg (skC Sk.o nls nls nls nls nls), vi 0, vi (bD k w)]) ?_ rfl ⟨zD, aB _, aB _, trivial⟩
   refine gI oD Tryz.func14 Tryz.results14 ?_
   exact wRA trivial (aI h1 h2) ae
 ·have e : aV s k w co at' = (Sk.o, 0, vSk s) := by unfold aV; rw [if_pos q1]
  rw [e]
  refine Good.fzt (vs := [.agg (skC Sk.o nls nls nls nls nls), vi 0, vi (vSk s)]) ?_ rfl ⟨zD, aB _, aB _, trivial⟩
  refine gI oD Tryz.func14 Tryz.results14 ?_
  exact wRA trivial h1 ae
theorem ZH (n : Nat) : Int.fdiv (n : Int) (2 ^ min 1 IntKind.i64.bits) = ((n / 2 : Nat) : Int) := by
 show Int.fdiv (n : Int) ((2 : Nat) : Int) = _
 rw [Int.fdiv_eq_ediv_of_nonneg _ (Int.natCast_nonneg _), Int.natCast_ediv]
theorem ZI (n : Nat) : Int.fdiv (n : Int) (2 ^ min 3 IntKind.i64.bits) = ((n / 8 : Nat) : Int) := by
 show Int.fdiv (n : Int) ((8 : Nat) : Int) = _
 rw [Int.fdiv_eq_ediv_of_nonneg _ (Int.natCast_nonneg _), Int.natCast_ediv]
theorem ZJ (n : Nat) : Int.fdiv (n : Int) (2 ^ min 4 IntKind.i64.bits) = ((n / 16 : Nat) : Int) := by
 show Int.fdiv (n : Int) ((16 : Nat) : Int) = _
 rw [Int.fdiv_eq_ediv_of_nonneg _ (Int.natCast_nonneg _), Int.natCast_ediv]
theorem ZK (n : Nat) : Int.fdiv (n : Int) (2 ^ min 5 IntKind.i64.bits) = ((n / 32 : Nat) : Int) := by
 show Int.fdiv (n : Int) ((32 : Nat) : Int) = _
 rw [Int.fdiv_eq_ediv_of_nonneg _ (Int.natCast_nonneg _), Int.natCast_ediv]
theorem ZL (n : Nat) : Int.fdiv (n : Int) (2 ^ min 6 IntKind.i64.bits) = ((n / 64 : Nat) : Int) := by
 show Int.fdiv (n : Int) ((64 : Nat) : Int) = _
 rw [Int.fdiv_eq_ediv_of_nonneg _ (Int.natCast_nonneg _), Int.natCast_ediv]
theorem ZM (n : Nat) : Int.fdiv (n : Int) (2 ^ min 7 IntKind.i64.bits) = ((n / 128 : Nat) : Int) := by
 show Int.fdiv (n : Int) ((128 : Nat) : Int) = _
 rw [Int.fdiv_eq_ediv_of_nonneg _ (Int.natCast_nonneg _), Int.natCast_ediv]
theorem ZN (n : Nat) : Int.fdiv (n : Int) (2 ^ min 8 IntKind.i64.bits) = ((n / 256 : Nat) : Int) := by
 show Int.fdiv (n : Int) ((256 : Nat) : Int) = _
 rw [Int.fdiv_eq_ediv_of_nonneg _ (Int.natCast_nonneg _), Int.natCast_ediv]
theorem ZO (n : Nat) : Int.fdiv (n : Int) (2 ^ min 9 IntKind.i64.bits) = ((n / 512 : Nat) : Int) := by
 show Int.fdiv (n : Int) ((512 : Nat) : Int) = _
 rw [Int.fdiv_eq_ediv_of_nonneg _ (Int.natCast_nonneg _), Int.natCast_ediv]
theorem Yn (n : Nat) : Int.fdiv (n : Int) (2 ^ min 10 IntKind.i64.bits) = ((n / 1024 : Nat) : Int) := by
 show Int.fdiv (n : Int) ((1024 : Nat) : Int) = _
 rw [Int.fdiv_eq_ediv_of_nonneg _ (Int.natCast_nonneg _), Int.natCast_ediv]
theorem Yo (n : Nat) : Int.fdiv (n : Int) (2 ^ min 11 IntKind.i64.bits) = ((n / 2048 : Nat) : Int) := by
 show Int.fdiv (n : Int) ((2048 : Nat) : Int) = _
 rw [Int.fdiv_eq_ediv_of_nonneg _ (Int.natCast_nonneg _), Int.natCast_ediv]
theorem Yp (n : Nat) : Int.fdiv (n : Int) (2 ^ min 12 IntKind.i64.bits) = ((n / 4096 : Nat) : Int) := by
 show Int.fdiv (n : Int) ((4096 : Nat) : Int) = _
 rw [Int.fdiv_eq_ediv_of_nonneg _ (Int.natCast_nonneg _), Int.natCast_ediv]
theorem ZP (n : Nat) : bits .and .i64 (n : Int) 1 = ((n % 2 : Nat) : Int) := Eq.trans (show _ = (n : Int) % 2 from dL (n : Int) 1 (by decide)) rfl
theorem ZQ (n : Nat) : bits .and .i64 (n : Int) 3 = ((n % 4 : Nat) : Int) := Eq.trans (show _ = (n : Int) % 4 from dL (n : Int) 2 (by decide)) rfl
theorem ZR (n : Nat) : bits .and .i64 (n : Int) 7 = ((n % 8 : Nat) : Int) := Eq.trans (show _ = (n : Int) % 8 from dL (n : Int) 3 (by decide)) rfl
theorem ZT (n : Nat) : bits .and .i64 (n : Int) 15 = ((n % 16 : Nat) : Int) := Eq.trans (show _ = (n : Int) % 16 from dL (n : Int) 4 (by decide)) rfl
theorem ZU (n : Nat) : bits .and .i64 (n : Int) 31 = ((n % 32 : Nat) : Int) := Eq.trans (show _ = (n : Int) % 32 from dL (n : Int) 5 (by decide)) rfl
theorem ZV (n : Nat) : bits .and .i64 (n : Int) 63 = ((n % 64 : Nat) : Int) := Eq.trans (show _ = (n : Int) % 64 from dL (n : Int) 6 (by decide)) rfl
theorem Yq (n : Nat) : bits .and .i64 (n : Int) 65535 = ((n % 65536 : Nat) : Int) := Eq.trans (show _ = (n : Int) % 65536 from dL (n : Int) 16 (by decide)) rfl
theorem Yr (n : Nat) : bits .and .i64 (n : Int) 16777215 = ((n % 16777216 : Nat) : Int) := Eq.trans (show _ = (n : Int) % 16777216 from dL (n : Int) 24 (by decide)) rfl
def shB := aI @ZH (aI @ZI (aI @ZJ (aI @ZK (aI @ZL (aI @ZM (aI @ZN (aI @ZO (aI @Yn (aI @Yo (@Yp))))))))))
def anB := aI @ZP (aI @ZQ (aI @ZR (aI @ZT (aI @ZU (aI @ZV (aI @Yq (@Yr)))))))
theorem tmN (a b : Nat) : Int.tmod (a : Int) (b : Int) = ((a % b : Nat) : Int) := rfl
theorem tdN (a b : Nat) : Int.tdiv (a : Int) (b : Int) = ((a / b : Nat) : Int) := rfl
def atN (l : List Int) (i : Nat) : Nat := if l.length = 0 then i % 65536 else (l.getD (i % l.length) 0 % 65536).toNat + i / l.length
theorem zL (l : List Int) (i : Nat) : atN l i ≤ 65535 + i := by
 unfold atN
 split
 ·omega
 ·have := Nat.div_le_self i l.length
  omega
theorem Yt (n : Int) : bits .and .i64 n 65535 = (((n % 65536).toNat : Nat) : Int) := by rw [UK]; omega
theorem UX (l : List Int) (i : Nat) (hl : l.length ≤ 9223372036854775807) (hi : i ≤ 1000000) : Pg.Good Tryz.prog 26 [fzi l, vi i] (vi (atN l i : Nat)) := by
 have hil := ax l
 unfold atN
 by_cases h : l.length = 0
 ·rw [if_pos h]
  refine gI oW Tryz.func26 Tryz.results26 ?_
  exact wR (aI @hil @anB) trivial ae
 ·rw [if_neg h]
  have hlt : i % l.length < l.length := Nat.mod_lt _ (by omega)
  have hg := jm l (i % l.length) hlt
  have e1 := tmN i l.length
  have e2 := tdN i l.length
  have e3 := Yt (l.getD (i % l.length) 0)
  have hdl := Nat.div_le_self i l.length
  have hb : (l.getD (i % l.length) 0 % 65536).toNat < 65536 := by omega
  generalize (l.getD (i % l.length) 0 % 65536).toNat = x at *
  generalize l.getD (i % l.length) 0 = y at *
  generalize i % l.length = j at *
  generalize i / l.length = k at *
  refine gI oW Tryz.func26 Tryz.results26 ?_
  exact wR (aI @hil (aI @e1 (aI @e2 (aI @hg @e3)))) trivial ae
def wB (n : Nat) : Int := if n / 4096 % 16 = 14 then 1 + ((n % 65536 * 65537 % 4294967295 : Nat) : Int) else if n / 4096 % 16 = 15 then 4294967295 - ((n % 4 : Nat) : Int) else 1 + ((n / 16 % 8 : Nat) : Int)
def xP (n : Nat) : List Nat × Int := (JS n, wB n)
theorem tmW (a : Nat) : Int.tmod ((a : Int) * 65537) 4294967295 = ((a * 65537 % 4294967295 : Nat) : Int) := rfl
theorem Xg (n : Nat) (hn : n ≤ 1000000000) : Pg.Good Tryz.prog 11 [vi n] (.agg [vs (xP n).1, vi (xP n).2]) := by
 have hk := Yc (n : Int)
 have e := tmW (n % 65536)
 unfold xP wB
 simp only
 by_cases h1 : n / 4096 % 16 = 14
 ·rw [if_pos h1]
  refine gI oW Tryz.func11 Tryz.results11 ?_
  exact wR (aI @shB (aI @anB @e)) hk ae
 ·rw [if_neg h1]
  by_cases h2 : n / 4096 % 16 = 15
  ·rw [if_pos h2]
   refine gI oW Tryz.func11 Tryz.results11 ?_
   exact wR (aI @shB (aI @anB @e)) hk ae
  ·rw [if_neg h2]
   refine gI oW Tryz.func11 Tryz.results11 ?_
   exact wR (aI @shB (aI @anB @e)) hk ae
def gG (l : List Int) (n : Nat) : List (List Nat × Int) := (List.range n).map fun i => xP (atN l i)
theorem nZ (l : List Int) (n : Nat) : (gG l n).length = n := by simp [gG]
theorem Di (l : List Int) (n : Nat) : itv (gG l n) ++ [V.agg [vs (xP (atN l n)).1, vi (xP (atN l n)).2]] = itv (gG l (n + 1)) := by simp [gG, itv, List.range_succ]
theorem UY (l : List Int) (n : Nat) (hl : l.length ≤ 9223372036854775807) (hn : n ≤ 1000) : Pg.Good Tryz.prog 29 [fzi l, vi n] (fzt (gG l n)) := by
 refine Good.fzr (r := .sl (.own 0 45) 2 (itv (gG l n))) ?_ rfl (aB _)
 refine gI oW Tryz.func29 Tryz.results29 ?_
 refine wS trivial trivial ?_
 refine aK (fun i : Nat => mkA [(0, fzi l), (1, vi n), (5, .sl (.own 0 45) 2 (itv (gG l i))), (6, vi i)] [] 1 (fun _ => .top)) (fun i => i ≤ n) (fun i => n - i) 0 [] [] ?_ (Nat.zero_le _) ?_
 ·exact kE
  all_goals exact dR rfl
 ·intro i hi
  replace hi : i ≤ n := hi
  have hil := Gu (gG l i)
  have hib := nZ l i
  rcases Nat.lt_or_ge i n with hlt | hge
  ·have h1 := UX l i hl (by omega)
   have h2 := Xg (atN l i) (by have := zL l i; omega)
   have hnx := Di l i
   generalize atN l i = a at *
   refine wS (aI @hil (aI @hib @hnx)) (aI h1 h2) ?_
   exact bE (i + 1) [0] [] hlt
  ·have : i = n := by omega
   subst this
   exact wR trivial trivial (ids [0])
def pM (n : Nat) : Pm :=
 if n % 6 = 0 then ⟨1, 0, 0, 0⟩ else if n % 6 = 1 then ⟨2, 1 + ((n / 16 % 4 : Nat) : Int), 1 + ((n / 8 % 2 : Nat) : Int), ((n / 256 % 4 : Nat) : Int)⟩ else if n % 6 = 2 then ⟨3, 2 + ((n / 8 % 2 : Nat) : Int), 0, ((n / 256 % 4 : Nat) : Int)⟩
 else if n % 6 = 3 then ⟨4, 1 + ((n / 8 % 4 : Nat) : Int), 0, 0⟩ else if n % 6 = 4 then ⟨5, 1 + ((n / 8 % 4 : Nat) : Int), 0, 0⟩ else ⟨6, 2 + 2 * ((n / 8 % 2 : Nat) : Int), 0, 0⟩
theorem zM (n : Nat) : vp (pM n).k (pM n).z (pM n).d (pM n).s = 0 := by
 unfold pM
 (repeat' split) <;> simp [vp] <;> omega
theorem QI (n : Nat) : 0 ≤ (pM n).s ∧ (pM n).s < 18446744073709551616 := by
 unfold pM
 (repeat' split) <;> simp <;> omega
theorem tm6 (n : Nat) : Int.tmod (n : Int) 6 = ((n % 6 : Nat) : Int) := rfl
theorem QJ (n : Nat) (hn : n ≤ 1000000000) : Pg.Good Tryz.prog 25 [vi n] (.agg (pmF (pM n))) := by
 have e := tm6 n
 have hlt : n % 6 < 6 := Nat.mod_lt _ (by omega)
 unfold pM
 rcases (show n % 6 = 0 ∨ n % 6 = 1 ∨ n % 6 = 2 ∨ n % 6 = 3 ∨ n % 6 = 4 ∨ n % 6 = 5 by omega) with h | h | h | h | h | h
 all_goals
  simp only [h] at e ⊢
  refine gI oW Tryz.func25 Tryz.results25 ?_
  exact wR (aI @shB (aI @anB @e)) trivial ae
def iT (p : Pm) (its : List (List Nat × Int)) (co : List Nat) : Nat → Sk × Int
 | 0 => (gB p, 0)
 | i + 1 => ((aV (iT p its co i).1 (its.getD i ([], 0)).1 (its.getD i ([], 0)).2 co (iT p its co i).2).1, (aV (iT p its co i).1 (its.getD i ([], 0)).1 (its.getD i ([], 0)).2 co (iT p its co i).2).2.1)
theorem Dj (p : Pm) (hs : 0 ≤ p.s ∧ p.s < 18446744073709551616) (hv : vp p.k p.z p.d p.s = 0) (its : List (List Nat × Int)) (ho : ∀ x ∈ its, oct x.1) (co : List Nat) (i : Nat) : (iT p its co i).1.Ok := by
 induction i with
 | zero => exact QG p hs hv
 | succ i ih =>
  refine QH _ ih _ _ _ _ ?_
  rcases Nat.lt_or_ge i its.length with h | h
  ·exact ho _ (jy _ _ _ h)
  ·rw [List.getD, List.getElem?_eq_none h]; exact yT
theorem Xh (p : Pm) (hs : 0 ≤ p.s ∧ p.s < 18446744073709551616) (hv : vp p.k p.z p.d p.s = 0) (its : List (List Nat × Int)) (hn : its.length ≤ 1000000) (ho : ∀ x ∈ its, oct x.1) (co : List Nat) (hco : oct co) :
  Pg.Good Tryz.prog 36 [.agg (pmF p), fzt its, fzb co] (.agg (skF (iT p its co its.length).1)) := by
 have h1 := UW p hv
 have hil := Gu its
 have hok := Dj p hs hv its ho co
 have e0 : iT p its co 0 = (gB p, 0) := rfl
 have es : ∀ i, iT p its co (i + 1) = ((aV (iT p its co i).1 (its.getD i ([], 0)).1 (its.getD i ([], 0)).2 co (iT p its co i).2).1, (aV (iT p its co i).1 (its.getD i ([], 0)).1 (its.getD i ([], 0)).2 co (iT p its co i).2).2.1) := fun _ => rfl
 generalize iT p its co = F at *
 obtain ⟨pk, pz, pd, ps⟩ := p
 refine gI oW Tryz.func36 Tryz.results36 ?_
 refine wS trivial h1 ?_
 refine aK (fun i : Nat => mkA [(1, fzt its), (2, fzb co), (6, .ref 0 0), (7, .ref 1 0), (9, vi (F i).2), (10, vi i)] [(0, (41, skC Sk.o nls nls nls nls nls)), (1, (41, skF (F i).1))] 2 (fun _ => .top)) (fun i => i ≤ its.length) (fun i => its.length - i) 0 [] [1, 2] ?_ (Nat.zero_le _) ?_
 ·rw [e0]
  exact kE
 ·intro i hi
  replace hi : i ≤ its.length := hi
  rcases Nat.lt_or_ge i its.length with hlt | hge
  ·have hg := Ut its i hlt
   have hox := ho _ (jy its i ([], 0) hlt)
   have hes := es i
   have hoki := hok i
   generalize its.getD i ([], 0) = x at *
   have h2 := FP (F i).1 hoki x.1 x.2 co (F i).2 hox hco
   have e1 := congrArg Prod.fst hes
   have e2 := congrArg Prod.snd hes
   simp only at e1 e2
   rw [← e1, ← e2] at h2
   generalize F i = G at *
   obtain ⟨g, a⟩ := G
   refine wS (aI @hil @hg) h2 ?_
   exact bE (i + 1) [] [0, 1] hlt
  ·have : i = its.length := by omega
   subst this
   exact wR @hil trivial ae
def gJ (l : List Int) : Sk := (iT (pM (atN l 0)) (gG (l.drop (min l.length 2)) (atN l 1 % 8)) (iL (atN l 9)) (atN l 1 % 8)).1
theorem vZ (l : List Int) (n : Nat) : ∀ x ∈ gG l n, oct x.1 := by
 intro x hx
 obtain ⟨i, _, rfl⟩ := List.mem_map.1 hx
 exact (UI _).1
theorem wo (l : List Int) : (gJ l).Ok := Dj _ (QI _) (zM _) _ (vZ _ _) _ _
theorem UZ (l : List Int) (n : Nat) : (iv l).drop n = iv (l.drop n) := by simp [iv, List.map_drop]
theorem min2 (a : Nat) : (min (a : Int) 2).toNat = min a 2 := by omega
theorem xQ (l : List Int) (hl : l.length ≤ 9223372036854775807) : Pg.Good Tryz.prog 10 [fzi l] (.agg (skF (gJ l))) := by
 have a0 := UX l 0 hl (by omega)
 have a1 := UX l 1 hl (by omega)
 have a9 := UX l 9 hl (by omega)
 have b0 := zL l 0
 have b1 := zL l 1
 have b9 := zL l 9
 have h1 := QJ (atN l 0) (by omega)
 have h2 := UY (l.drop (min l.length 2)) (atN l 1 % 8) (by rw [List.length_drop]; omega) (by omega)
 have h3 := UL ((atN l 9 : Nat) : Int)
 have h4 := Xh (pM (atN l 0)) (QI _) (zM _) (gG (l.drop (min l.length 2)) (atN l 1 % 8)) (by rw [nZ]; omega) (vZ _ _) (iL (atN l 9)) (JU _).1
 rw [nZ] at h4
 have e : (iT (pM (atN l 0)) (gG (l.drop (min l.length 2)) (atN l 1 % 8)) (iL (atN l 9)) (atN l 1 % 8)).1 = gJ l := rfl
 rw [e] at h4
 have hil := ax l
 have hdr := UZ l (min l.length 2)
 have hmn := min2 l.length
 generalize gJ l = S at *
 generalize pM (atN l 0) = p at *
 generalize gG (l.drop (min l.length 2)) (atN l 1 % 8) = its at *
 generalize iL (atN l 9) = co at *
 generalize atN l 0 = n0 at *
 generalize atN l 1 = n1 at *
 generalize atN l 9 = n9 at *
 clear e
 obtain ⟨⟨pk, pz, pd, ps⟩, ⟨t1, t2, t3⟩, ⟨c1, c2, c3, c4, c5⟩, ⟨l1, l2, l3⟩, ⟨e1, e2, e3, e4⟩, ⟨f1, f2, f3, f4, f5⟩, ⟨r1, r2, r3, r4, r5⟩⟩ := S
 obtain ⟨qk, qz, qd, qs⟩ := p
 refine gI oW Tryz.func10 Tryz.results10 ?_
 exact wR (aI @pgv (aI @mmF (aI @hil (aI @hmn (aI @hdr @anB))))) (aI a0 (aI a1 (aI a9 (aI h1 (aI h2 (aI h3 h4)))))) ae
end Go.Proofs.YtaoejnjkmfkbeaaGreat
