/-
  Texts of this claim, merged; own names are short.
-/
import Derived.Test.YtaoejnjkmfkbeaaGreatWAS
import Derived.Test.YtaoejnjkmfkbeaaGreatWAT
import Derived.Test.YtaoejnjkmfkbeaaGreatWAU
import Derived.Test.YtaoejnjkmfkbeaaGreatWAV
import Derived.Test.YtaoejnjkmfkbeaaGreatWAP
import Derived.Test.YtaoejnjkmfkbeaaGreatWAL
set_option linter.unusedVariables false
set_option linter.unusedSimpArgs false
set_option linter.unusedSectionVars false
set_option linter.defProp false
set_option maxRecDepth 100000
set_option maxHeartbeats 8000000
namespace Go.Proofs.YtaoejnjkmfkbeaaGreat
open Go Go.Pg
def fP (t : Tl) : List Nat := ae t.t.toNat ++ ae t.i.toNat ++ gy t.b
def aS (l : List Int) : List Nat := l.flatMap fun n => ae n.toNat
def jk (c : Cm) : List Nat := ae c.d.toNat ++ ae c.z.toNat ++ eX c.s ++ aS c.c ++ gy c.b
def ou (x : Ll) : List Nat := ae x.p.toNat ++ eX x.s ++ x.r.map u8i
def iW (e : En) : List Nat := bT e.1 ++ ae e.2.1.toNat ++ ae e.2.2.toNat
def jc (t : Tp) : List Nat := ae t.z.toNat ++ ae t.t.toNat ++ gy t.b ++ ae t.e.length ++ t.e.flatMap iW
def jh (e : En) : List Nat := bT e.1 ++ ae e.2.1.toNat
def jd (t : Fq) : List Nat := ae t.z.toNat ++ ae t.t.toNat ++ ae t.l.toNat ++ gy t.b ++ ae t.e.length ++ t.e.flatMap jh
def iQ (l : List (List Nat)) : List Nat := ae l.length ++ l.flatMap bT
def je (x : Rk) : List Nat := ae x.z.toNat ++ ae x.t.toNat ++ ae x.l.toNat ++ gy x.b ++ ae x.v.length ++ x.v.flatMap iQ
theorem gX (l : List Int) (i : Nat) (h : i < l.length) : aS (l.take (i + 1)) = aS (l.take i) ++ ae (l.getD i 0).toNat := by
 rw [List.take_succ_eq_append_getElem h, aS, List.flatMap_append]; simp [aS, List.getD, h]
theorem oz {α : Type} (f : α → List Nat) (d : α) (l : List α) (i : Nat) (h : i < l.length) : (l.take (i + 1)).flatMap f = (l.take i).flatMap f ++ f (l.getD i d) := by
 rw [List.take_succ_eq_append_getElem h, List.flatMap_append]; simp [List.getD, h]
theorem uH {α : Type} (f : α → List Nat) (B : Nat) (l : List α) (h : ∀ x ∈ l, (f x).length ≤ B) : (l.flatMap f).length ≤ l.length * B := by
 induction l with
 | nil => simp
 | cons a l ih =>
  have h1 := h a (by simp)
  have h2 := ih fun x hx => h x (by simp [hx])
  simp only [List.flatMap_cons, List.length_append, List.length_cons, Nat.succ_mul]
  omega
theorem fQ {α : Type} (f : α → List Nat) (B : Nat) (l : List α) (i : Nat) (h : ∀ x ∈ l, (f x).length ≤ B) : ((l.take i).flatMap f).length ≤ l.length * B := by
 refine Nat.le_trans (uH f B (l.take i) fun x hx => h x (List.mem_of_mem_take hx)) (Nat.mul_le_mul_right _ ?_)
 rw [List.length_take]; omega
theorem Bj (t : Tl) (h : vTl t = 0) : Pg.Good Tryz.prog 87 [.agg (tlF t)] (.tup [fzb (fP t), vi 0]) := by
 have h1 := kS t
 rw [h] at h1
 have hr : (0 ≤ t.t ∧ t.t ≤ 4294967295) ∧ (0 ≤ t.i ∧ t.i ≤ 4294967295) := by
  unfold vTl at h
  split at h
  ·omega
  ·cases h
 have h2 := jv t.t (by omega)
 have h3 := gu t.i (by omega)
 have h4 := rq t.b
 have l2 := ax t.t.toNat
 have l3 := ax t.i.toNat
 have l4 := fU t.b
 unfold fP
 generalize ae t.t.toNat = a at *
 generalize ae t.i.toNat = b at *
 have ha := ai a
 have hb := ai b
 have hab := bQ a b
 have hab2 := ai (a ++ b)
 rw [List.length_append] at hab2
 generalize gy t.b = c at *
 have hc := ai c
 have habc := bQ (a ++ b) c
 refine Good.fzt (vs := [ob 0 (a ++ b ++ c), vi 0]) ?_ rfl ⟨aj _, aj _, trivial⟩
 obtain ⟨t1, t2, t3⟩ := t
 simp only at *
 refine gI oW Tryz.func87 Tryz.results87 ?_
 exact wR (aI @ha (aI @hb (aI @hab (aI @hab2 (aI @hc @habc))))) (aI h1 (aI h2 (aI h3 h4))) (ids [1])
theorem vW (c : Cm) (h : vCm c = 0) (hs : 0 ≤ c.s ∧ c.s < 18446744073709551616) : Pg.Good Tryz.prog 88 [.agg (cmF c)] (.tup [fzb (jk c), vi 0]) := by
 have h1 := jA c
 rw [h] at h1
 obtain ⟨i1, i2, i3, i4⟩ := xI h
 have hm := oN i1 i2
 have h2 := jv c.d (by omega)
 have h3 := gu c.z (by omega)
 have h4 := rq c.b
 have h5 := IC c.s hs
 have l2 := ax c.d.toNat
 have l3 := ax c.z.toNat
 have l4 := fU c.b
 have l5 := fC c.s
 have hcell := fun i (hi : i < c.c.length) => pI i4 hi
 have hnx := fun i (hi : i < c.c.length) => gX c.c i hi
 have hln := fun i => fQ (fun n : Int => ae n.toNat) 9 c.c i (fun x _ => ax _)
 unfold jk
 generalize hA : ae c.d.toNat ++ ae c.z.toNat ++ eX c.s = A
 have hAl : A.length ≤ 26 := by rw [← hA]; simp only [List.length_append]; omega
 refine Good.fzt (vs := [ob 0 (A ++ aS c.c ++ gy c.b), vi 0]) ?_ rfl ⟨aj _, aj _, trivial⟩
 generalize ae c.d.toNat = a at *
 generalize ae c.z.toNat = b at *
 generalize eX c.s = e at *
 generalize gy c.b = f at *
 have ha := ai a
 have hb := ai b
 have he := ai e
 have hf := ai f
 have hab := bQ a b
 have hab2 := ai (a ++ b)
 rw [List.length_append] at hab2
 have habe := bQ (a ++ b) e
 obtain ⟨d, z, s, l, bb⟩ := c
 simp only at *
 have hil := bC l
 refine gI oW Tryz.func88 Tryz.results88 ?_
 refine wS (aI @ha (aI @hb (aI @he (aI @hab (aI @hab2 (aI @habe @hA)))))) (aI h1 (aI h2 (aI h3 h5))) ?_
 refine bn (fun i : Nat => mkA [(1, .ref 0 0), (5, ob 0 (A ++ aS (l.take i))), (6, vi i)] [(0, (29, cmF ⟨d, z, s, l, bb⟩))] 1 (fun _ => .top)) (fun i => i ≤ l.length) (fun i => l.length - i) 0 [1] [0] ?_ (Nat.zero_le _) ?_
 ·refine kL ?_
  all_goals first | exact ak rfl (by simp [aS]) | skip
 ·intro i hi
  replace hi : i ≤ l.length := hi
  have hbl := ai (A ++ aS (l.take i))
  have hl2 : (A ++ aS (l.take i)).length ≤ 100000 := by
   have := hln i
   rw [List.length_append]
   show A.length + (aS (l.take i)).length ≤ _
   unfold aS
   omega
  rcases Nat.lt_or_ge i l.length with hlt | hge
  ·have hg := gQ l i hlt
   have hx := hcell i hlt
   have hn := hnx i hlt
   have k1 := gu (l.getD i 0) (by omega)
   have k2 := ax (l.getD i 0).toNat
   have hap := bQ (A ++ aS (l.take i)) (ae (l.getD i 0).toNat)
   rw [List.append_assoc A, ← hn] at hap
   generalize ae (l.getD i 0).toNat = u at *
   generalize l.getD i 0 = n at *
   have hul := ai u
   refine wS (aI @hil (aI @hg (aI @hbl (aI @hul @hap)))) k1 ?_
   exact bE (i + 1) [0] [0] hlt
  ·have : i = l.length := by omega
   subst this
   rw [List.take_length] at *
   have hap := bQ (A ++ aS l) f
   exact wR (aI @hil (aI @hbl (aI @hf @hap))) h4 (ids [0])
theorem zg (x : Ll) (h : vLl x = 0) (hs : 0 ≤ x.s ∧ x.s < 18446744073709551616) (hn : x.r.length ≤ 1000000) : Pg.Good Tryz.prog 89 [.agg (llF x)] (.tup [fzb (ou x), vi 0]) := by
 have h1 := jZ x hn
 rw [h] at h1
 obtain ⟨i1, i2, i3⟩ := xK h
 have h2 := jv x.p (by omega)
 have h5 := IC x.s hs
 have l2 := ax x.p.toNat
 have l5 := fC x.s
 unfold ou
 generalize hA : ae x.p.toNat ++ eX x.s = A
 have hAl : A.length ≤ 17 := by rw [← hA]; simp only [List.length_append]; omega
 refine Good.fzt (vs := [ob 0 (A ++ x.r.map u8i), vi 0]) ?_ rfl ⟨aj _, aj _, trivial⟩
 generalize ae x.p.toNat = a at *
 generalize eX x.s = e at *
 have ha := ai a
 have he := ai e
 have hae := bQ a e
 obtain ⟨z, s, l⟩ := x
 simp only at *
 have hil := bC l
 refine gI oW Tryz.func89 Tryz.results89 ?_
 refine wS (aI @ha (aI @he (aI @hae @hA))) (aI h1 (aI h2 h5)) ?_
 refine bn (fun i : Nat => mkA [(1, .ref 0 0), (5, ob 0 (A ++ (l.take i).map u8i)), (6, vi i)] [(0, (31, llF ⟨z, s, l⟩))] 1 (fun _ => .top)) (fun i => i ≤ l.length) (fun i => l.length - i) 0 [1] [0] ?_ (Nat.zero_le _) ?_
 ·exact kE
  all_goals first | exact ak rfl (by simp) | skip
 ·intro i hi
  replace hi : i ≤ l.length := hi
  have hbl := ai (A ++ (l.take i).map u8i)
  have hl2 : (A ++ (l.take i).map u8i).length ≤ 2000000 := by simp only [List.length_append, List.length_map, List.length_take]; omega
  rcases Nat.lt_or_ge i l.length with hlt | hge
  ·have hg := gQ l i hlt
   have hx := Qu (l.getD i 0)
   have hap : bv (A ++ (l.take i).map u8i) ++ [V.c (.int .u8 ((u8i (l.getD i 0) : Nat) : Int))] = bv (A ++ (l.take (i + 1)).map u8i) := by
    have e : (l.take (i + 1)).map u8i = (l.take i).map u8i ++ [u8i (l.getD i 0)] := by rw [List.take_succ_eq_append_getElem hlt, List.map_append]; simp [List.getD, hlt]
    rw [bvS, List.append_assoc, ← e]
   generalize u8i (l.getD i 0) = u at *
   generalize l.getD i 0 = n at *
   refine wS (aI @hil (aI @hg (aI @hbl (aI @hx @hap)))) trivial ?_
   exact bE (i + 1) [0] [0] hlt
  ·have : i = l.length := by omega
   subst this
   rw [List.take_length]
   exact wR @hil trivial (ids [0])
theorem Bl (e : En) (h : e.1.length ≤ 32) : (iW e).length ≤ 59 := by
 have h1 := iG e.1
 have h2 := ax e.2.1.toNat
 have h3 := ax e.2.2.toNat
 unfold iW; simp only [List.length_append]; omega
theorem jl {α : Type} (l : List α) (i : Nat) (d : α) (h : i < l.length) : l.getD i d ∈ l := by rw [List.getD_eq_getElem?_getD, List.getElem?_eq_getElem h]; exact List.getElem_mem h
theorem gG {α : Type} {l : List α} {x : α} (d : α) (h : x ∈ l) : ∃ i, i < l.length ∧ l.getD i d = x := by
 obtain ⟨i, hi, rfl⟩ := List.getElem_of_mem h
 exact ⟨i, hi, by simp [List.getD, hi]⟩
theorem E5 (t : Tp) (h : vTp t = 0) (ho : octE t.e) (hn : t.e.length ≤ 1000000) : Pg.Good Tryz.prog 90 [.agg (tpF t)] (.tup [fzb (jc t), vi 0]) := by
 have h1 := ni t ho hn
 rw [h] at h1
 obtain ⟨i1, i2, i3, i4⟩ := uC h
 have hen := fun i (hi : i < t.e.length) => pK (i4 i hi)
 have h2 := jv t.z (by omega)
 have h3 := gu t.t (by omega)
 have h4 := rq t.b
 have h5 := gu (t.e.length : Int) (by omega)
 rw [Int.toNat_natCast] at h5
 have l2 := ax t.z.toNat
 have l3 := ax t.t.toNat
 have l4 := fU t.b
 have l5 := ax t.e.length
 have hkl : ∀ i, i < t.e.length → (t.e.getD i eD).1.length ≤ 32 := fun i hi => by have := (hen i hi).1; rw [jr] at this; exact this.2
 have hnx := fun i (hi : i < t.e.length) => oz iW eD t.e i hi
 have hln := fun i => fQ iW 59 t.e i (fun x hx => by obtain ⟨j, hj, he⟩ := gG eD hx; exact Bl x (by rw [← he]; exact hkl j hj))
 unfold jc
 generalize hA : ae t.z.toNat ++ ae t.t.toNat ++ gy t.b ++ ae t.e.length = A
 have hAl : A.length ≤ 28 := by rw [← hA]; simp only [List.length_append]; omega
 refine Good.fzt (vs := [ob 0 (A ++ t.e.flatMap iW), vi 0]) ?_ rfl ⟨aj _, aj _, trivial⟩
 generalize ae t.z.toNat = a at *
 generalize ae t.t.toNat = b at *
 generalize gy t.b = f at *
 generalize ae t.e.length = e at *
 have ha := ai a
 have hb := ai b
 have he := ai e
 have hf := ai f
 have hab := bQ a b
 have hab2 := ai (a ++ b)
 rw [List.length_append] at hab2
 have habf := bQ (a ++ b) f
 have habf2 := ai (a ++ b ++ f)
 rw [List.length_append, List.length_append] at habf2
 have habfe := bQ (a ++ b ++ f) e
 obtain ⟨z, tt, l, bb⟩ := t
 simp only at *
 have hil := aP l
 have hol := fun i => fM ho i
 refine gI oW Tryz.func90 Tryz.results90 ?_
 refine wS (aI @hil (aI @ha (aI @hb (aI @he (aI @hf (aI @hab (aI @hab2 (aI @habf (aI @habf2 (aI @habfe @hA)))))))))) (aI h1 (aI h2 (aI h3 (aI h4 h5)))) ?_
 refine bn (fun i : Nat => mkA [(1, .ref 0 0), (5, ob 0 (A ++ (l.take i).flatMap iW)), (6, vi i)] [(0, (34, tpF ⟨z, tt, l, bb⟩))] 1 (fun _ => .top)) (fun i => i ≤ l.length) (fun i => l.length - i) 0 [1] [0] ?_ (Nat.zero_le _) ?_
 ·refine kL ?_
  all_goals first | exact ak rfl (by simp) | skip
 ·intro i hi
  replace hi : i ≤ l.length := hi
  have hbl := ai (A ++ (l.take i).flatMap iW)
  have hl2 : (A ++ (l.take i).flatMap iW).length ≤ 100000000 := by have := hln i; rw [List.length_append]; omega
  rcases Nat.lt_or_ge i l.length with hlt | hge
  ·have hg := fG l i hlt
   have hx := hen i hlt
   have hn1 := hnx i hlt
   have hk := hkl i hlt
   have ho1 := hol i
   generalize l.getD i ([], 0, 0) = y at *
   obtain ⟨k, c, er⟩ := y
   simp only at hg hx hn1 hk ho1
   have k1 := AY k ho1 (by omega)
   have k2 := gu c (by omega)
   have k3 := gu er (by omega)
   have q1 := iG k
   have q2 := ax c.toNat
   have q3 := ax er.toNat
   have hE : iW (k, c, er) = bT k ++ ae c.toNat ++ ae er.toNat := rfl
   rw [hE] at hn1
   generalize (l.take i).flatMap iW = M at *
   generalize bT k = u at *
   generalize ae c.toNat = v at *
   generalize ae er.toNat = w at *
   have hul := ai u
   have hvl := ai v
   have hwl := ai w
   have p1 := bQ (A ++ M) u
   have p2 := ai (A ++ M ++ u)
   rw [List.length_append] at p2
   have p3 := bQ (A ++ M ++ u) v
   have p4 := ai (A ++ M ++ u ++ v)
   rw [List.length_append, List.length_append] at p4
   have p5 := bQ (A ++ M ++ u ++ v) w
   have p6 : A ++ M ++ u ++ v ++ w = A ++ (l.take (i + 1)).flatMap iW := by rw [hn1]; simp only [List.append_assoc]
   rw [p6] at p5
   refine wS (aI @hil (aI @hg (aI @hbl (aI @hul (aI @hvl (aI @hwl (aI @p1 (aI @p2 (aI @p3 (aI @p4 @p5)))))))))) (aI k1 (aI k2 k3)) ?_
   exact bE (i + 1) [0] [0] hlt
  ·have : i = l.length := by omega
   subst this
   rw [List.take_length]
   exact wR @hil trivial (ids [0])
theorem Bo (e : En) (h : e.1.length ≤ 32) : (jh e).length ≤ 50 := by
 have h1 := iG e.1
 have h2 := ax e.2.1.toNat
 unfold jh; simp only [List.length_append]; omega
theorem agR (t : Fq) (h : vFq t = 0) (ho : octE t.e) (hn : t.e.length ≤ 1000000) : Pg.Good Tryz.prog 91 [.agg (fqF t)] (.tup [fzb (jd t), vi 0]) := by
 have h1 := jB t ho hn
 rw [h] at h1
 obtain ⟨i1, i2, i2', i3, i4⟩ := uD h
 have hen := fun i (hi : i < t.e.length) => pO (i4 i hi)
 have h2 := jv t.z (by omega)
 have h3 := gu t.t (by omega)
 have h3' := gu t.l (by omega)
 have h4 := rq t.b
 have h5 := gu (t.e.length : Int) (by omega)
 rw [Int.toNat_natCast] at h5
 have l2 := ax t.z.toNat
 have l3 := ax t.t.toNat
 have l3' := ax t.l.toNat
 have l4 := fU t.b
 have l5 := ax t.e.length
 have hkl : ∀ i, i < t.e.length → (t.e.getD i eD).1.length ≤ 32 := fun i hi => by have := (hen i hi).1; rw [jr] at this; exact this.2
 have hnx := fun i (hi : i < t.e.length) => oz jh eD t.e i hi
 have hln := fun i => fQ jh 50 t.e i (fun x hx => by obtain ⟨j, hj, he⟩ := gG eD hx; exact Bo x (by rw [← he]; exact hkl j hj))
 unfold jd
 generalize hA : ae t.z.toNat ++ ae t.t.toNat ++ ae t.l.toNat ++ gy t.b ++ ae t.e.length = A
 have hAl : A.length ≤ 37 := by rw [← hA]; simp only [List.length_append]; omega
 refine Good.fzt (vs := [ob 0 (A ++ t.e.flatMap jh), vi 0]) ?_ rfl ⟨aj _, aj _, trivial⟩
 generalize ae t.z.toNat = a at *
 generalize ae t.t.toNat = b at *
 generalize ae t.l.toNat = c at *
 generalize gy t.b = f at *
 generalize ae t.e.length = e at *
 have ha := ai a
 have hb := ai b
 have hc := ai c
 have he := ai e
 have hf := ai f
 have hab := bQ a b
 have hab2 := ai (a ++ b)
 rw [List.length_append] at hab2
 have habc := bQ (a ++ b) c
 have habc2 := ai (a ++ b ++ c)
 rw [List.length_append, List.length_append] at habc2
 have habf := bQ (a ++ b ++ c) f
 have habf2 := ai (a ++ b ++ c ++ f)
 rw [List.length_append, List.length_append, List.length_append] at habf2
 have habfe := bQ (a ++ b ++ c ++ f) e
 obtain ⟨z, tt, tl, l, bb⟩ := t
 simp only at *
 have hil := aP l
 have hol := fun i => fM ho i
 refine gI oW Tryz.func91 Tryz.results91 ?_
 refine wS (aI @hil (aI @ha (aI @hb (aI @hc (aI @he (aI @hf (aI @hab (aI @hab2 (aI @habc (aI @habc2 (aI @habf (aI @habf2 (aI @habfe @hA))))))))))))) (aI h1 (aI h2 (aI h3 (aI h3' (aI h4 h5))))) ?_
 refine bn (fun i : Nat => mkA [(1, .ref 0 0), (5, ob 0 (A ++ (l.take i).flatMap jh)), (6, vi i)] [(0, (36, fqF ⟨z, tt, tl, l, bb⟩))] 1 (fun _ => .top)) (fun i => i ≤ l.length) (fun i => l.length - i) 0 [1] [0] ?_ (Nat.zero_le _) ?_
 ·refine kL ?_
  all_goals first | exact ak rfl (by simp) | skip
 ·intro i hi
  replace hi : i ≤ l.length := hi
  have hbl := ai (A ++ (l.take i).flatMap jh)
  have hl2 : (A ++ (l.take i).flatMap jh).length ≤ 100000000 := by have := hln i; rw [List.length_append]; omega
  rcases Nat.lt_or_ge i l.length with hlt | hge
  ·have hg := fG l i hlt
   have hx := hen i hlt
   have hn1 := hnx i hlt
   have hk := hkl i hlt
   have ho1 := hol i
   generalize l.getD i ([], 0, 0) = y at *
   obtain ⟨k, c, er⟩ := y
   simp only at hg hx hn1 hk ho1
   have k1 := AY k ho1 (by omega)
   have k2 := gu c (by omega)
   have q1 := iG k
   have q2 := ax c.toNat
   have hE : jh (k, c, er) = bT k ++ ae c.toNat := rfl
   rw [hE] at hn1
   generalize (l.take i).flatMap jh = M at *
   generalize bT k = u at *
   generalize ae c.toNat = v at *
   have hul := ai u
   have hvl := ai v
   have p1 := bQ (A ++ M) u
   have p2 := ai (A ++ M ++ u)
   rw [List.length_append] at p2
   have p3 := bQ (A ++ M ++ u) v
   have p6 : A ++ M ++ u ++ v = A ++ (l.take (i + 1)).flatMap jh := by rw [hn1]; simp only [List.append_assoc]
   rw [p6] at p3
   refine wS (aI @hil (aI @hg (aI @hbl (aI @hul (aI @hvl (aI @p1 (aI @p2 @p3))))))) (aI k1 k2) ?_
   exact bE (i + 1) [0] [0] hlt
  ·have : i = l.length := by omega
   subst this
   rw [List.take_length]
   exact wR @hil trivial (ids [0])
theorem Bq (l : List (List Nat)) (h : ∀ k ∈ l, k.length ≤ 32) (hl : l.length ≤ 31) : (iQ l).length ≤ 1280 := by
 have h1 := ax l.length
 have h2 := uH bT 41 l (fun k hk => by have := iG k; have := h k hk; omega)
 unfold iQ; rw [List.length_append]; omega
theorem vY {x : Rk} (h : vRk x = 0) : ∀ i, i < x.v.length → ∀ k ∈ x.v.getD i [], k.length ≤ 32 := by
 intro i hi k hk
 have h3 : kT (lD x.z x.v) x.v.length 0 = 0 := by
  unfold vRk at h
  split at h
  ·cases h
  ·split at h
   ·cases h
   ·split at h
    ·rename_i h3; exact absurd h h3
    ·rename_i h3; exact Classical.byContradiction h3
 have h4 := Bf _ _ _ h3 i (Nat.zero_le _) (by omega)
 unfold lD at h4
 split at h4
 ·cases h4
 ·obtain ⟨j, hj, he⟩ := gG [] hk
  have h5 := Bf _ _ _ h4 j (Nat.zero_le _) (by omega)
  unfold tK at h5
  split at h5
  ·cases h5
  ·rename_i h6
   have : ig ((x.v.getD i []).getD j []) = true := by simpa using h6
   rw [jr, he] at this
   exact this.2
theorem Bv (x : Rk) (h : vRk x = 0) (hv : ∀ l ∈ x.v, octL l) (hn : x.v.length ≤ 1000000) (hn2 : ∀ l ∈ x.v, l.length ≤ 1000000) : Pg.Good Tryz.prog 92 [.agg (rkF x)] (.tup [fzb (je x), vi 0]) := by
 have h1 := kU x hv hn hn2
 rw [h] at h1
 have hkeys := vY h
 obtain ⟨i1, i2, i2', i3, i4⟩ := uG h
 have h2 := jv x.z (by omega)
 have h3 := gu x.t (by omega)
 have h3' := gu x.l (by omega)
 have h4 := rq x.b
 have h5 := gu (x.v.length : Int) (by omega)
 rw [Int.toNat_natCast] at h5
 have l2 := ax x.z.toNat
 have l3 := ax x.t.toNat
 have l3' := ax x.l.toNat
 have l4 := fU x.b
 have l5 := ax x.v.length
 have hnx := fun i (hi : i < x.v.length) => oz iQ [] x.v i hi
 have hln := fun i => fQ iQ 1280 x.v i (fun l hl => by obtain ⟨j, hj, he⟩ := gG [] hl; rw [← he]; exact Bq _ (hkeys j hj) (i4 j))
 unfold je
 generalize hA : ae x.z.toNat ++ ae x.t.toNat ++ ae x.l.toNat ++ gy x.b ++ ae x.v.length = A
 have hAl : A.length ≤ 37 := by rw [← hA]; simp only [List.length_append]; omega
 refine Good.fzt (vs := [ob 0 (A ++ x.v.flatMap iQ), vi 0]) ?_ rfl ⟨aj _, aj _, trivial⟩
 generalize ae x.z.toNat = a at *
 generalize ae x.t.toNat = b at *
 generalize ae x.l.toNat = c at *
 generalize gy x.b = f at *
 generalize ae x.v.length = e at *
 have ha := ai a
 have hb := ai b
 have hc := ai c
 have he := ai e
 have hf := ai f
 have hab := bQ a b
 have hab2 := ai (a ++ b)
 rw [List.length_append] at hab2
 have habc := bQ (a ++ b) c
 have habc2 := ai (a ++ b ++ c)
 rw [List.length_append, List.length_append] at habc2
 have habf := bQ (a ++ b ++ c) f
 have habf2 := ai (a ++ b ++ c ++ f)
 rw [List.length_append, List.length_append, List.length_append] at habf2
 have habfe := bQ (a ++ b ++ c ++ f) e
 have hol : ∀ i, octL (x.v.getD i []) := fun i => by
  rcases Nat.lt_or_ge i x.v.length with hi | hi
  ·exact hv _ (jl _ _ _ hi)
  ·rw [List.getD, List.getElem?_eq_none hi]; intro e he; cases he
 obtain ⟨z, tt, tl, l, bb⟩ := x
 simp only at *
 have hil := dQ l
 refine gI oW Tryz.func92 Tryz.results92 ?_
 refine wS (aI @hil (aI @ha (aI @hb (aI @hc (aI @he (aI @hf (aI @hab (aI @hab2 (aI @habc (aI @habc2 (aI @habf (aI @habf2 (aI @habfe @hA))))))))))))) (aI h1 (aI h2 (aI h3 (aI h3' (aI h4 h5))))) ?_
 refine bn (fun i : Nat => mkA [(1, .ref 0 0), (5, ob 0 (A ++ (l.take i).flatMap iQ)), (6, vi i)] [(0, (39, rkF ⟨z, tt, tl, l, bb⟩))] 1 (fun _ => .top)) (fun i => i ≤ l.length) (fun i => l.length - i) 0 [1] [0] ?_ (Nat.zero_le _) ?_
 ·refine kL ?_
  all_goals first | exact ak rfl (by simp) | skip
 ·intro i hi
  replace hi : i ≤ l.length := hi
  have hbl := ai (A ++ (l.take i).flatMap iQ)
  have hl2 : (A ++ (l.take i).flatMap iQ).length ≤ 100000000 := by have := hln i; rw [List.length_append]; omega
  rcases Nat.lt_or_ge i l.length with hlt | hge
  ·have hg := lN l i hlt
   have hn1 := hnx i hlt
   have hk := hkeys i hlt
   have ho1 := hol i
   have hlen := i4 i
   generalize l.getD i [] = y at *
   have hyl := Cc y
   have k2 := gu (y.length : Int) (by omega)
   rw [Int.toNat_natCast] at k2
   have q2 := ax y.length
   have hE : iQ y = ae y.length ++ y.flatMap bT := rfl
   rw [hE, ← List.append_assoc] at hn1
   have hkn := fun j (hj : j < y.length) => oz bT [] y j hj
   have hkt := fun j => fQ bT 41 y j (fun k hk1 => by have := iG k; have := hk k hk1; omega)
   generalize ae y.length = u at *
   have hul := ai u
   have p1 := bQ (A ++ (l.take i).flatMap iQ) u
   have p2 : (A ++ (l.take i).flatMap iQ ++ u).length ≤ 100000009 := by rw [List.length_append]; omega
   have p3 : A ++ (l.take i).flatMap iQ ++ u ++ y.flatMap bT = A ++ (l.take (i + 1)).flatMap iQ := by rw [hn1]; simp only [List.append_assoc]
   generalize hMN : (l.take (i + 1)).flatMap iQ = MN at *
   generalize A ++ (l.take i).flatMap iQ = M at *
   refine wS (aI @hil (aI @hg (aI @hyl (aI @hbl (aI @hul @p1))))) k2 ?_
   generalize M ++ u = N at *
   refine bn (fun j : Nat => mkA [(1, .ref 0 0), (5, ob 0 (N ++ (y.take j).flatMap bT)), (6, vi i), (7, vi j)] [(0, (39, rkF ⟨z, tt, tl, l, bb⟩))] 1 (fun _ => .top)) (fun j => j ≤ y.length) (fun j => y.length - j) 0 [0] [0] ?_ (Nat.zero_le _) ?_
   ·refine kL ?_
    all_goals first | exact ak rfl (by simp) | skip
   ·intro j hj
    replace hj : j ≤ y.length := hj
    have hbl2 := ai (N ++ (y.take j).flatMap bT)
    have hl3 : (N ++ (y.take j).flatMap bT).length ≤ 200000000 := by have := hkt j; rw [List.length_append]; omega
    rcases Nat.lt_or_ge j y.length with hlt2 | hge2
    ·have hg2 := jX y j hlt2
     have hkl := hk _ (jl y j [] hlt2)
     have hok := ny ho1 j
     have hkn1 := hkn j hlt2
     have k3 := AY (y.getD j []) hok (by omega)
     have q3 := iG (y.getD j [])
     have p5 := bQ (N ++ (y.take j).flatMap bT) (bT (y.getD j []))
     rw [List.append_assoc N, ← hkn1] at p5
     generalize bT (y.getD j []) = w at *
     generalize y.getD j [] = k at *
     have hwl := ai w
     refine wS (aI @hil (aI @hg (aI @hg2 (aI @hyl (aI @hbl2 (aI @hwl @p5)))))) k3 ?_
     exact bE (j + 1) [0] [0] hlt2
    ·have : j = y.length := by omega
     subst this
     rw [List.take_length, p3]
     refine wS (aI @hil (aI @hg @hyl)) trivial ?_
     (refine bL (i + 1) [0] [0] hlt ?_; refine kL ?_)
     all_goals exact ak rfl (by rw [hMN])
  ·have : i = l.length := by omega
   subst this
   rw [List.take_length]
   exact wR @hil trivial (ids [0])
end Go.Proofs.YtaoejnjkmfkbeaaGreat
section
namespace Go.Pg
open Go
section
variable {ι : Type} {D : Dw} {P : Program} [Tb P]
theorem Lt {x : Code} {Q : Exit → St → Prop} {e : Nat → V} {bx : Nat → Option (TypeId × List V)} {n : Nat} {h : Nat → V} (X : ι → List (Nat × V)) (B : ι → Nat → Option (TypeId × List V)) (N : ι → Nat) (H : ι → Nat → V) (Inv : ι → Prop) (μ : ι → Nat) (i0 : ι) (he : AQ e (X i0)) (hb : ∀ b, B i0 b = bx b ∨ B i0 b = none) (hn : n ≤ N i0) (hh : h = H i0) (h0 : Inv i0)
  (hr : ∀ i, Inv i → wpS D P x (Du (fun i => ⟨xy (X i), B i, N i, H i⟩) Inv μ i Q) ⟨xy (X i), B i, N i, H i⟩) : Dq D P x Q ⟨e, bx, n, h⟩ := by
 subst hh
 refine ⟨fun m s1 => ∃ i, Inv i ∧ μ i = m ∧ s1 = ⟨xy (X i), B i, N i, H i⟩, μ i0, ⟨_, Nl (Np he) hb hn, i0, h0, rfl, rfl⟩, ?_⟩
 rintro m s1 ⟨i, hi, rfl, rfl⟩
 exact hr i hi
theorem Lu {X : ι → List (Nat × V)} {B : ι → Nat → Option (TypeId × List V)} {N : ι → Nat} {H : ι → Nat → V} {Inv : ι → Prop} {μ : ι → Nat} {i : ι} {e : Nat → V} {bx : Nat → Option (TypeId × List V)} {n : Nat} {h : Nat → V} (j : ι) (h1 : Inv j) (h2 : μ j < μ i) (he : AQ e (X j)) (hb : ∀ b, B j b = bx b ∨ B j b = none) (hn : n ≤ N j) (hh : h = H j) :
  Dt (fun i => (⟨xy (X i), B i, N i, H i⟩ : St)) Inv μ i ⟨e, bx, n, h⟩ := by
 subst hh
 exact ⟨μ j, _, h2, Nl (Np he) hb hn, j, h1, rfl, rfl⟩
end
end Go.Pg
end
section
namespace Go.Proofs.YtaoejnjkmfkbeaaGreat
open Go Go.Pg
theorem E8 (n : Int) (h : 0 ≤ n ∧ n ≤ 4611686018427387904) : Pg.Good Tryz.prog 84 [vi n] (.tup [ob 0 (ae n.toNat), vi 0]) := by
 obtain ⟨m, rfl⟩ := Int.eq_ofNat_of_zero_le h.1
 exact xH m (by omega)
theorem l7 (n : Int) (h : 0 ≤ n ∧ n ≤ 4611686018427387904) : Pg.Good Tryz.prog 84 [vi n] (.tup [fzb (ae n.toNat), vi 0]) :=
 Good.fzt (vs := [ob 0 (ae n.toNat), vi 0]) (E8 n h) rfl ⟨aj _, aj _, trivial⟩
theorem ahc (s : List Nat) (ho : oct s) (hl : s.length ≤ 65536) : Pg.Good Tryz.prog 222 [vs s] (.tup [fzb (bT s), vi 0]) :=
 Good.fzt (vs := [ob 0 (bT s), vi 0]) (Qy s ho hl) rfl ⟨aj _, aj _, trivial⟩
theorem NR (x : Int) (hx : 0 ≤ x ∧ x < 18446744073709551616) : Pg.Good Tryz.prog 220 [vu x] (fzb (eX x)) := (Qx x hx).fzr rfl (aj _)
def rH (xs : List Int) : Prop := ∀ y ∈ xs, 0 ≤ y ∧ y ≤ 4611686018427387904
theorem nC {xs : List Int} (h : rH xs) {i : Nat} (hi : i < xs.length) : 0 ≤ xs.getD i 0 ∧ xs.getD i 0 ≤ 4611686018427387904 :=
 h _ (by rw [List.getD_eq_getElem?_getD, List.getElem?_eq_getElem hi]; exact List.getElem_mem hi)
theorem jP (xs : List Int) : (aS xs).length ≤ xs.length * 9 := uH _ 9 xs fun _ _ => ax _
def pzi (id : Nat) : Nat → V → V
 | 0, v => v
 | _ + 1, v => aC id v
theorem QG (id : Nat) (v : V) : aC id (aC id v) = aC id v := by
 by_cases h : v.has id = true
 ·rw [sG id v, if_pos h]; exact yE id
 ·rw [sG id v, if_neg h, sG, if_neg h]
theorem LC (id : Nat) (b : Nat → Option (TypeId × List V)) : mX (pzi id 0) b = b := by
 have hz : pzi id 0 = fun v => v := rfl
 funext t; show (b t).map _ = _; rw [hz]; cases b t with | none => rfl | some x => simp
theorem abH (id i : Nat) (v : V) : aC id (pzi id i v) = pzi id (i + 1) v := by
 cases i with | zero => rfl | succ i => exact QG id v
theorem WF (id i : Nat) (e : Nat → V) : iM (aC id) (iM (pzi id i) e) = iM (pzi id (i + 1)) e := by
 funext t; exact abH id i (e t)
theorem WG (id i : Nat) (b : Nat → Option (TypeId × List V)) : mX (aC id) (mX (pzi id i) b) = mX (pzi id (i + 1)) b := by
 funext t; show ((b t).map _).map _ = (b t).map _
 cases b t with
 | none => rfl
 | some x => simp [abH]
theorem ahd {id k : Nat} (h : 0 < k) : pzi id k = aC id := by
 cases k with | zero => omega | succ k => rfl
theorem NS (xs : List Int) (hx : rH xs) (hn : xs.length ≤ 1000) : Pg.Good Tryz.prog 218 [.c (.slice none 0 0), .sl .fz 1 (iv xs)] (ob 0 (aS xs)) := by
 have hil := bC xs
 refine gI oW Tryz.func218 Tryz.results218 ?_
 refine wS @hil trivial ?_
 refine bn (fun i : Nat => mkA [(0, ob 0 (aS (xs.take i))), (9, .sl .fz 1 (iv xs)), (10, vi xs.length), (11, vi i)] [] 1 (fun _ => .top)) (fun i => i ≤ xs.length) (fun i => xs.length - i) 0 [] [] ?_ (Nat.zero_le _) ?_
 ·(refine aN ?_ ?_ (bG _ _ _) (by decide) (by decide) (by decide) (by decide); (repeat' (first | exact trivial | refine aG _ _ rfl rfl ?_ ?_)); all_goals (try simp only [pgs, pgl, pgx, pgf, pgw, ay, aJ, az, aK, aZ, bV, bD, pgn, simprocAttr]); all_goals (try (repeat' (first | apply aI))); all_goals (try (first | exact trivial | exact au (by omega) | exact aU rfl | exact ak rfl rfl | exact bg rfl)))
  all_goals first | exact di rfl | exact au (by omega) | skip
 ·intro i hi
  replace hi : i ≤ xs.length := hi
  have hbl := ai (aS (xs.take i))
  have hl2 : (aS (xs.take i)).length ≤ 9000 := by
   have := jP (xs.take i)
   rw [List.length_take] at this
   omega
  rcases Nat.lt_or_ge i xs.length with hlt | hge
  ·have hg := gQ xs i hlt
   have k1 := l7 _ (nC hx hlt)
   have hn := gX xs i hlt
   have k2 := ax (xs.getD i 0).toNat
   have hap := bQ (aS (xs.take i)) (ae (xs.getD i 0).toNat)
   rw [← hn] at hap
   generalize ae (xs.getD i 0).toNat = u at *
   generalize xs.getD i 0 = n at *
   have hul := ai u
   refine wS (aI @hil (aI @hg (aI @hbl (aI @hul @hap)))) k1 ?_
   (refine bu (i + 1) [0] [] (hlt) (by first | omega | (simp only [List.length_cons]; omega)) ?_; (refine aN ?_ ?_ (bG _ _ _) (by decide) (by decide) (by decide) (by decide); (repeat' (first | exact trivial | refine aG _ _ rfl rfl ?_ ?_)); all_goals (try simp only [pgs, pgl, pgx, pgf, pgw, ay, aJ, az, aK, aZ, bV, bD, pgn, simprocAttr]); all_goals (try (repeat' (first | apply aI))); all_goals (try (first | exact trivial | exact au (by omega) | exact aU rfl | exact ak rfl rfl | exact bg rfl))))
   all_goals first | exact ak rfl rfl | exact au (by omega) | skip
  ·have : i = xs.length := by omega
   subst this
   rw [List.take_length] at *
   exact wR (aI @hil @hbl) trivial (ids [0])
theorem aaT (xs : List Int) (hx : rH xs) (hn : xs.length ≤ 1000) : Pg.Good Tryz.prog 221 [.c (.slice none 0 0), .sl .fz 1 (iv xs)] (ob 0 (aS xs)) := by
 have hil := bC xs
 refine gI oW Tryz.func221 Tryz.results221 ?_
 refine wS @hil trivial ?_
 refine bn (fun i : Nat => mkA [(0, ob 0 (aS (xs.take i))), (9, .sl .fz 1 (iv xs)), (10, vi xs.length), (11, vi i)] [] 1 (fun _ => .top)) (fun i => i ≤ xs.length) (fun i => xs.length - i) 0 [] [] ?_ (Nat.zero_le _) ?_
 ·(refine aN ?_ ?_ (bG _ _ _) (by decide) (by decide) (by decide) (by decide); (repeat' (first | exact trivial | refine aG _ _ rfl rfl ?_ ?_)); all_goals (try simp only [pgs, pgl, pgx, pgf, pgw, ay, aJ, az, aK, aZ, bV, bD, pgn, simprocAttr]); all_goals (try (repeat' (first | apply aI))); all_goals (try (first | exact trivial | exact au (by omega) | exact aU rfl | exact ak rfl rfl | exact bg rfl)))
  all_goals first | exact di rfl | exact au (by omega) | skip
 ·intro i hi
  replace hi : i ≤ xs.length := hi
  have hbl := ai (aS (xs.take i))
  have hl2 : (aS (xs.take i)).length ≤ 9000 := by
   have := jP (xs.take i)
   rw [List.length_take] at this
   omega
  rcases Nat.lt_or_ge i xs.length with hlt | hge
  ·have hg := gQ xs i hlt
   have k1 := l7 _ (nC hx hlt)
   have hn := gX xs i hlt
   have k2 := ax (xs.getD i 0).toNat
   have hap := bQ (aS (xs.take i)) (ae (xs.getD i 0).toNat)
   rw [← hn] at hap
   generalize ae (xs.getD i 0).toNat = u at *
   generalize xs.getD i 0 = n at *
   have hul := ai u
   refine wS (aI @hil (aI @hg (aI @hbl (aI @hul @hap)))) k1 ?_
   (refine bu (i + 1) [0] [] (hlt) (by first | omega | (simp only [List.length_cons]; omega)) ?_; (refine aN ?_ ?_ (bG _ _ _) (by decide) (by decide) (by decide) (by decide); (repeat' (first | exact trivial | refine aG _ _ rfl rfl ?_ ?_)); all_goals (try simp only [pgs, pgl, pgx, pgf, pgw, ay, aJ, az, aK, aZ, bV, bD, pgn, simprocAttr]); all_goals (try (repeat' (first | apply aI))); all_goals (try (first | exact trivial | exact au (by omega) | exact aU rfl | exact ak rfl rfl | exact bg rfl))))
   all_goals first | exact ak rfl rfl | exact au (by omega) | skip
  ·have : i = xs.length := by omega
   subst this
   rw [List.take_length] at *
   exact wR (aI @hil @hbl) trivial (ids [0])
section
variable (e : Nat → V) (bx : Nat → Option (TypeId × List V)) (n : Nat) (h : Nat → V)
theorem aaU (id : Nat) (l : List Nat) (xs : List Int) (hx : rH xs) (hn : xs.length ≤ 1000) (hp : 0 < xs.length) (hl : l.length ≤ 100000000) (hid : id < n) :
  GoodZ Tryz.prog 221 [.sl (.own id 5) 1 (bv l), .sl .fz 1 (iv xs)] ⟨e, bx, n, h⟩ ⟨iM (aC id) e, mX (aC id) bx, n, iM (aC id) h⟩ (.sl (.own id 5) 1 (bv (l ++ aS xs))) := by
 have hil := bC xs
 refine gZ oW Tryz.func221 Tryz.results221 ?_
 refine wS (aI @dB (aI @bP (aI @bi @hil))) trivial ?_
 refine Lt (fun i : Nat => [(0, .sl (.own id 5) 1 (bv (l ++ aS (xs.take i)))), (9, .sl .fz 1 (iv xs)), (10, vi xs.length), (11, vi i)]) (fun i => mX (pzi id i) bx) (fun _ => n) (fun i => iM (pzi id i) (xn e h)) (fun i => i ≤ xs.length) (fun i => xs.length - i) 0 ?_ (fun b => .inl (by rw [LC])) (Nat.le_refl _) rfl (Nat.zero_le _) ?_
 ·((try simp only [kQ, mi, lg, mZ, pgo, simprocAttr, and_true, true_and]); try (repeat' (first | exact trivial | rfl | apply aI)))
  all_goals first | exact congrArg (fun z => V.sl (.own id 5) 1 (bv z)) (by simp [aS]) | skip
 ·intro i hi
  replace hi : i ≤ xs.length := hi
  have hbl := ai (l ++ aS (xs.take i))
  have hl2 : (l ++ aS (xs.take i)).length ≤ 100009000 := by
   have := jP (xs.take i)
   rw [List.length_take] at this
   rw [List.length_append]
   omega
  rcases Nat.lt_or_ge i xs.length with hlt | hge
  ·have hg := gQ xs i hlt
   have k1 := l7 _ (nC hx hlt)
   have hn := gX xs i hlt
   have k2 := ax (xs.getD i 0).toNat
   have hap := bQ (l ++ aS (xs.take i)) (ae (xs.getD i 0).toNat)
   rw [List.append_assoc l, ← hn] at hap
   generalize ae (xs.getD i 0).toNat = u at *
   generalize xs.getD i 0 = m at *
   have hul := ai u
   refine wS (aI @bP (aI @bi (aI @hil (aI @hg (aI @hbl (aI @hul (aI @hap (aI @WF @WG)))))))) k1 ?_
   refine Lu (i + 1) hlt (by omega) ?_ (fun _ => .inl rfl) (by split <;> omega) rfl
   ((try simp only [kQ, mi, lg, mZ, pgo, simprocAttr, and_true, true_and]); try (repeat' (first | exact trivial | rfl | apply aI)))
  ·have : i = xs.length := by omega
   subst this
   rw [List.take_length, ahd hp] at *
   refine wS (aI @bP (aI @bi (aI @hil @hbl))) trivial ?_
   refine eY (bU _ _ _) ?_
   rw [zD, zF, cO, df]
end
theorem aaV (xs : List Int) (hx : rH xs) (hn : xs.length ≤ 1000) : Pg.Good Tryz.prog 223 [.c (.slice none 0 0), .sl .fz 1 (iv xs)] (ob 0 (aS xs)) := by
 have hil := bC xs
 refine gI oW Tryz.func223 Tryz.results223 ?_
 refine wS @hil trivial ?_
 refine bn (fun i : Nat => mkA [(0, ob 0 (aS (xs.take i))), (9, .sl .fz 1 (iv xs)), (10, vi xs.length), (11, vi i)] [] 1 (fun _ => .top)) (fun i => i ≤ xs.length) (fun i => xs.length - i) 0 [] [] ?_ (Nat.zero_le _) ?_
 ·(refine aN ?_ ?_ (bG _ _ _) (by decide) (by decide) (by decide) (by decide); (repeat' (first | exact trivial | refine aG _ _ rfl rfl ?_ ?_)); all_goals (try simp only [pgs, pgl, pgx, pgf, pgw, ay, aJ, az, aK, aZ, bV, bD, pgn, simprocAttr]); all_goals (try (repeat' (first | apply aI))); all_goals (try (first | exact trivial | exact au (by omega) | exact aU rfl | exact ak rfl rfl | exact bg rfl)))
  all_goals first | exact di rfl | exact au (by omega) | skip
 ·intro i hi
  replace hi : i ≤ xs.length := hi
  have hbl := ai (aS (xs.take i))
  have hl2 : (aS (xs.take i)).length ≤ 9000 := by
   have := jP (xs.take i)
   rw [List.length_take] at this
   omega
  rcases Nat.lt_or_ge i xs.length with hlt | hge
  ·have hg := gQ xs i hlt
   have k1 := l7 _ (nC hx hlt)
   have hn := gX xs i hlt
   have k2 := ax (xs.getD i 0).toNat
   have hap := bQ (aS (xs.take i)) (ae (xs.getD i 0).toNat)
   rw [← hn] at hap
   generalize ae (xs.getD i 0).toNat = u at *
   generalize xs.getD i 0 = n at *
   have hul := ai u
   refine wS (aI @hil (aI @hg (aI @hbl (aI @hul @hap)))) k1 ?_
   (refine bu (i + 1) [0] [] (hlt) (by first | omega | (simp only [List.length_cons]; omega)) ?_; (refine aN ?_ ?_ (bG _ _ _) (by decide) (by decide) (by decide) (by decide); (repeat' (first | exact trivial | refine aG _ _ rfl rfl ?_ ?_)); all_goals (try simp only [pgs, pgl, pgx, pgf, pgw, ay, aJ, az, aK, aZ, bV, bD, pgn, simprocAttr]); all_goals (try (repeat' (first | apply aI))); all_goals (try (first | exact trivial | exact au (by omega) | exact aU rfl | exact ak rfl rfl | exact bg rfl))))
   all_goals first | exact ak rfl rfl | exact au (by omega) | skip
  ·have : i = xs.length := by omega
   subst this
   rw [List.take_length] at *
   exact wR (aI @hil @hbl) trivial (ids [0])
section
variable (e : Nat → V) (bx : Nat → Option (TypeId × List V)) (n : Nat) (h : Nat → V)
theorem aaW (id : Nat) (l : List Nat) (xs : List Int) (hx : rH xs) (hn : xs.length ≤ 1000) (hp : 0 < xs.length) (hl : l.length ≤ 100000000) (hid : id < n) :
  GoodZ Tryz.prog 223 [.sl (.own id 5) 1 (bv l), .sl .fz 1 (iv xs)] ⟨e, bx, n, h⟩ ⟨iM (aC id) e, mX (aC id) bx, n, iM (aC id) h⟩ (.sl (.own id 5) 1 (bv (l ++ aS xs))) := by
 have hil := bC xs
 refine gZ oW Tryz.func223 Tryz.results223 ?_
 refine wS (aI @dB (aI @bP (aI @bi @hil))) trivial ?_
 refine Lt (fun i : Nat => [(0, .sl (.own id 5) 1 (bv (l ++ aS (xs.take i)))), (9, .sl .fz 1 (iv xs)), (10, vi xs.length), (11, vi i)]) (fun i => mX (pzi id i) bx) (fun _ => n) (fun i => iM (pzi id i) (xn e h)) (fun i => i ≤ xs.length) (fun i => xs.length - i) 0 ?_ (fun b => .inl (by rw [LC])) (Nat.le_refl _) rfl (Nat.zero_le _) ?_
 ·((try simp only [kQ, mi, lg, mZ, pgo, simprocAttr, and_true, true_and]); try (repeat' (first | exact trivial | rfl | apply aI)))
  all_goals first | exact congrArg (fun z => V.sl (.own id 5) 1 (bv z)) (by simp [aS]) | skip
 ·intro i hi
  replace hi : i ≤ xs.length := hi
  have hbl := ai (l ++ aS (xs.take i))
  have hl2 : (l ++ aS (xs.take i)).length ≤ 100009000 := by
   have := jP (xs.take i)
   rw [List.length_take] at this
   rw [List.length_append]
   omega
  rcases Nat.lt_or_ge i xs.length with hlt | hge
  ·have hg := gQ xs i hlt
   have k1 := l7 _ (nC hx hlt)
   have hn := gX xs i hlt
   have k2 := ax (xs.getD i 0).toNat
   have hap := bQ (l ++ aS (xs.take i)) (ae (xs.getD i 0).toNat)
   rw [List.append_assoc l, ← hn] at hap
   generalize ae (xs.getD i 0).toNat = u at *
   generalize xs.getD i 0 = m at *
   have hul := ai u
   refine wS (aI @bP (aI @bi (aI @hil (aI @hg (aI @hbl (aI @hul (aI @hap (aI @WF @WG)))))))) k1 ?_
   refine Lu (i + 1) hlt (by omega) ?_ (fun _ => .inl rfl) (by split <;> omega) rfl
   ((try simp only [kQ, mi, lg, mZ, pgo, simprocAttr, and_true, true_and]); try (repeat' (first | exact trivial | rfl | apply aI)))
  ·have : i = xs.length := by omega
   subst this
   rw [List.take_length, ahd hp] at *
   refine wS (aI @bP (aI @bi (aI @hil @hbl))) trivial ?_
   refine eY (bU _ _ _) ?_
   rw [zD, zF, cO, df]
end
theorem aaX (xs : List Int) (hx : rH xs) (hn : xs.length ≤ 1000) : Pg.Good Tryz.prog 224 [.c (.slice none 0 0), .sl .fz 1 (iv xs)] (ob 0 (aS xs)) := by
 have hil := bC xs
 refine gI oW Tryz.func224 Tryz.results224 ?_
 refine wS @hil trivial ?_
 refine bn (fun i : Nat => mkA [(0, ob 0 (aS (xs.take i))), (9, .sl .fz 1 (iv xs)), (10, vi xs.length), (11, vi i)] [] 1 (fun _ => .top)) (fun i => i ≤ xs.length) (fun i => xs.length - i) 0 [] [] ?_ (Nat.zero_le _) ?_
 ·(refine aN ?_ ?_ (bG _ _ _) (by decide) (by decide) (by decide) (by decide); (repeat' (first | exact trivial | refine aG _ _ rfl rfl ?_ ?_)); all_goals (try simp only [pgs, pgl, pgx, pgf, pgw, ay, aJ, az, aK, aZ, bV, bD, pgn, simprocAttr]); all_goals (try (repeat' (first | apply aI))); all_goals (try (first | exact trivial | exact au (by omega) | exact aU rfl | exact ak rfl rfl | exact bg rfl)))
  all_goals first | exact di rfl | exact au (by omega) | skip
 ·intro i hi
  replace hi : i ≤ xs.length := hi
  have hbl := ai (aS (xs.take i))
  have hl2 : (aS (xs.take i)).length ≤ 9000 := by
   have := jP (xs.take i)
   rw [List.length_take] at this
   omega
  rcases Nat.lt_or_ge i xs.length with hlt | hge
  ·have hg := gQ xs i hlt
   have k1 := l7 _ (nC hx hlt)
   have hn := gX xs i hlt
   have k2 := ax (xs.getD i 0).toNat
   have hap := bQ (aS (xs.take i)) (ae (xs.getD i 0).toNat)
   rw [← hn] at hap
   generalize ae (xs.getD i 0).toNat = u at *
   generalize xs.getD i 0 = n at *
   have hul := ai u
   refine wS (aI @hil (aI @hg (aI @hbl (aI @hul @hap)))) k1 ?_
   (refine bu (i + 1) [0] [] (hlt) (by first | omega | (simp only [List.length_cons]; omega)) ?_; (refine aN ?_ ?_ (bG _ _ _) (by decide) (by decide) (by decide) (by decide); (repeat' (first | exact trivial | refine aG _ _ rfl rfl ?_ ?_)); all_goals (try simp only [pgs, pgl, pgx, pgf, pgw, ay, aJ, az, aK, aZ, bV, bD, pgn, simprocAttr]); all_goals (try (repeat' (first | apply aI))); all_goals (try (first | exact trivial | exact au (by omega) | exact aU rfl | exact ak rfl rfl | exact bg rfl))))
   all_goals first | exact ak rfl rfl | exact au (by omega) | skip
  ·have : i = xs.length := by omega
   subst this
   rw [List.take_length] at *
   exact wR (aI @hil @hbl) trivial (ids [0])
section
variable (e : Nat → V) (bx : Nat → Option (TypeId × List V)) (n : Nat) (h : Nat → V)
theorem aaY (id : Nat) (l : List Nat) (xs : List Int) (hx : rH xs) (hn : xs.length ≤ 1000) (hp : 0 < xs.length) (hl : l.length ≤ 100000000) (hid : id < n) (j : Nat) (hj : (j == id) = false) :
  GoodZ Tryz.prog 224 [.sl (.own id 5) 1 (bv l), .sl (.own j 3) 1 (iv xs)] ⟨e, bx, n, h⟩ ⟨iM (aC id) e, mX (aC id) bx, n, iM (aC id) h⟩ (.sl (.own id 5) 1 (bv (l ++ aS xs))) := by
 have hil := bC xs
 refine gZ oW Tryz.func224 Tryz.results224 ?_
 refine wS (aI @dB (aI @bP (aI @bi @hil))) trivial ?_
 refine Lt (fun i : Nat => [(0, .sl (.own id 5) 1 (bv (l ++ aS (xs.take i)))), (9, .sl (.own j 3) 1 (iv xs)), (10, vi xs.length), (11, vi i)]) (fun i => mX (pzi id i) bx) (fun _ => n) (fun i => iM (pzi id i) (xn e h)) (fun i => i ≤ xs.length) (fun i => xs.length - i) 0 ?_ (fun b => .inl (by rw [LC])) (Nat.le_refl _) rfl (Nat.zero_le _) ?_
 ·((try simp only [kQ, mi, lg, mZ, pgo, simprocAttr, and_true, true_and]); try (repeat' (first | exact trivial | rfl | apply aI)))
  all_goals first | exact congrArg (fun z => V.sl (.own id 5) 1 (bv z)) (by simp [aS]) | skip
 ·intro i hi
  replace hi : i ≤ xs.length := hi
  have hbl := ai (l ++ aS (xs.take i))
  have hl2 : (l ++ aS (xs.take i)).length ≤ 100009000 := by
   have := jP (xs.take i)
   rw [List.length_take] at this
   rw [List.length_append]
   omega
  rcases Nat.lt_or_ge i xs.length with hlt | hge
  ·have hg := gQ xs i hlt
   have k1 := l7 _ (nC hx hlt)
   have hn := gX xs i hlt
   have k2 := ax (xs.getD i 0).toNat
   have hap := bQ (l ++ aS (xs.take i)) (ae (xs.getD i 0).toNat)
   rw [List.append_assoc l, ← hn] at hap
   generalize ae (xs.getD i 0).toNat = u at *
   generalize xs.getD i 0 = m at *
   have hul := ai u
   refine wS (aI @bP (aI @bi (aI @hil (aI @hj (aI @hg (aI @hbl (aI @hul (aI @hap (aI @WF @WG))))))))) k1 ?_
   refine Lu (i + 1) hlt (by omega) ?_ (fun _ => .inl rfl) (by split <;> omega) rfl
   ((try simp only [kQ, mi, lg, mZ, pgo, simprocAttr, and_true, true_and]); try (repeat' (first | exact trivial | rfl | apply aI)))
   all_goals first | exact if_neg (by rw [hj]; exact Bool.false_ne_true) | skip
  ·have : i = xs.length := by omega
   subst this
   rw [List.take_length, ahd hp] at *
   refine wS (aI @bP (aI @bi (aI @hil @hbl))) trivial ?_
   refine eY (bU _ _ _) ?_
   rw [zD, zF, cO, df]
end
theorem adq (x : Int) (hx : 0 ≤ x ∧ x ≤ 4611686018427387904) : Pg.Good Tryz.prog 219 [.c (.slice none 0 0), vi x] (ob 0 (ae x.toNat)) := by
 have k1 := l7 x hx
 have k2 := ax x.toNat
 generalize ae x.toNat = u at *
 have hul := ai u
 refine gI oW Tryz.func219 Tryz.results219 ?_
 exact wR @hul k1 (ids [0])
theorem Fe (e : Nat → V) (bx : Nat → Option (TypeId × List V)) (n : Nat) (h : Nat → V) (id : Nat) (l : List Nat) (x : Int) (hx : 0 ≤ x ∧ x ≤ 4611686018427387904) (hl : l.length ≤ 100000000) (hid : id < n) :
  GoodZ Tryz.prog 219 [.sl (.own id 5) 1 (bv l), vi x] ⟨e, bx, n, h⟩ ⟨iM (aC id) e, mX (aC id) bx, n, iM (aC id) h⟩ (.sl (.own id 5) 1 (bv (l ++ ae x.toNat))) := by
 have k1 := l7 x hx
 have k2 := ax x.toNat
 have hap := bQ l (ae x.toNat)
 generalize ae x.toNat = u at *
 have hul := ai u
 have hbl := ai l
 refine gZ oW Tryz.func219 Tryz.results219 ?_
 refine wS (aI @dB (aI @bP (aI @bi (aI @hul (aI @hbl @hap))))) k1 ?_
 refine eY (bU _ _ _) ?_
 rw [zD, zF, cO, df]
 congr 1
 split <;> omega
end Go.Proofs.YtaoejnjkmfkbeaaGreat
end
