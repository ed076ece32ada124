/-
  Texts of this claim, merged; own names are short.
-/
import Derived.Test.YtaoejnjkmfkbeaaGreatWBA
import Derived.Test.YtaoejnjkmfkbeaaGreatWAZ
import Derived.Test.YtaoejnjkmfkbeaaGreatWAY
import Derived.Test.YtaoejnjkmfkbeaaGreatWAX
import Derived.Laws.BitsLemmas
import Derived.Laws.Bits64
import Derived.Test.YtaoejnjkmfkbeaaGreatWAS
set_option linter.unusedVariables false
set_option linter.unusedSimpArgs false
set_option linter.unusedSectionVars false
set_option linter.defProp false
set_option maxRecDepth 100000
set_option maxHeartbeats 8000000
namespace Go.Proofs.YtaoejnjkmfkbeaaGreat
open Go Go.Pg
def bJ (s : Sk) : List Nat := if s.p.k = 1 then fP s.tl else if s.p.k = 2 then jk s.cm else if s.p.k = 3 then ou s.ll else if s.p.k = 4 then jc s.tp else if s.p.k = 5 then jd s.fq else je s.rk
def bW (s : Sk) : List Nat := if vSk s ≠ 0 then [] else jG 83 (ae s.p.k.toNat ++ bJ s)
theorem gY {s : Sk} (h : vSk s = 0) : vp s.p.k s.p.z s.p.d s.p.s = 0 ∧ fA s = 0 := by
 unfold vSk at h
 split at h
 ·rename_i h1; exact absurd h h1
 ·rename_i h1
  split at h
  ·rename_i h2; exact absurd h h2
  ·rename_i h2; exact ⟨Classical.byContradiction h1, Classical.byContradiction h2⟩
theorem oQ {α : Type} (f : α → List Nat) (l : List α) (h : ∀ x ∈ l, oct (f x)) : oct (l.flatMap f) := by
 intro b hb
 obtain ⟨x, hx, hb⟩ := List.mem_flatMap.1 hb
 exact h x hx b hb
theorem iL (s : Sk) (ok : s.Ok) (h : vSk s = 0) : oct (bJ s) ∧ (bJ s).length ≤ 100000 := by
 obtain ⟨h1, h2⟩ := gY h
 unfold bJ
 unfold fA at h2
 have U := fun n => ax n
 split
 ·unfold fP
  refine ⟨aY (aY (aO _) (aO _)) (pG _), ?_⟩
  have := U s.tl.t.toNat; have := U s.tl.i.toNat; have := fU s.tl.b
  simp only [List.length_append]; omega
 ·rename_i q1
  rw [if_neg q1] at h2
  split
  ·rename_i q2
   rw [if_pos q2] at h2
   obtain ⟨i1, i2, i3, i4⟩ := xI h2
   have hm := oN i1 i2
   unfold jk
   refine ⟨aY (aY (aY (aY (aO _) (aO _)) (xE _)) (oQ _ _ fun _ _ => aO _)) (pG _), ?_⟩
   have := U s.cm.d.toNat; have := U s.cm.z.toNat; have := fU s.cm.b; have := fC s.cm.s
   have h9 := uH (fun n : Int => ae n.toNat) 9 s.cm.c (fun x _ => U _)
   have h8 : s.cm.c.length ≤ 512 := by omega
   have h7 : (aS s.cm.c).length ≤ s.cm.c.length * 9 := h9
   simp only [List.length_append]; omega
  ·rename_i q2
   rw [if_neg q2] at h2
   split
   ·rename_i q3
    rw [if_pos q3] at h2
    obtain ⟨i1, i2, i3⟩ := xK h2
    have hp := (oO i1).2.1
    unfold ou
    refine ⟨aY (aY (aO _) (xE _)) (fun b hb => by obtain ⟨x, _, rfl⟩ := List.mem_map.1 hb; exact VZ _), ?_⟩
    have := U s.ll.p.toNat; have := fC s.ll.s
    simp only [List.length_append, List.length_map]; omega
   ·rename_i q3
    rw [if_neg q3] at h2
    split
    ·rename_i q4
     rw [if_pos q4] at h2
     obtain ⟨i1, i2, i3, i4⟩ := uC h2
     unfold jc
     refine ⟨aY (aY (aY (aY (aO _) (aO _)) (pG _)) (aO _)) (oQ _ _ fun e he => aY (aY (mr (ok.to e he)) (aO _)) (aO _)), ?_⟩
     have := U s.tp.z.toNat; have := U s.tp.t.toNat; have := fU s.tp.b; have := U s.tp.e.length
     have h9 := uH iW 59 s.tp.e (fun x hx => by
      obtain ⟨j, hj, he⟩ := gG eD hx
      refine Bl x ?_
      have := (pK (i4 j hj)).1
      rw [jr, he] at this
      exact this.2)
     have h8 : s.tp.e.length ≤ 32 := by omega
     simp only [List.length_append]; omega
    ·rename_i q4
     rw [if_neg q4] at h2
     split
     ·rename_i q5
      rw [if_pos q5] at h2
      obtain ⟨i1, i2, i2', i3, i4⟩ := uD h2
      unfold jd
      refine ⟨aY (aY (aY (aY (aY (aO _) (aO _)) (aO _)) (pG _)) (aO _)) (oQ _ _ fun e he => aY (mr (ok.fo e he)) (aO _)), ?_⟩
      have := U s.fq.z.toNat; have := U s.fq.t.toNat; have := U s.fq.l.toNat; have := fU s.fq.b; have := U s.fq.e.length
      have h9 := uH jh 50 s.fq.e (fun x hx => by
       obtain ⟨j, hj, he⟩ := gG eD hx
       refine Bo x ?_
       have := (pO (i4 j hj)).1
       rw [jr, he] at this
       exact this.2)
      have h8 : s.fq.e.length ≤ 32 := by omega
      simp only [List.length_append]; omega
     ·rename_i q5
      rw [if_neg q5] at h2
      have hkeys := vY h2
      obtain ⟨i1, i2, i2', i3, i4⟩ := uG h2
      unfold je
      refine ⟨aY (aY (aY (aY (aY (aO _) (aO _)) (aO _)) (pG _)) (aO _)) (oQ _ _ fun l hl => aY (aO _) (oQ _ _ fun k hk => mr (ok.ro l hl k hk))), ?_⟩
      have := U s.rk.z.toNat; have := U s.rk.t.toNat; have := U s.rk.l.toNat; have := fU s.rk.b; have := U s.rk.v.length
      have h9 := uH iQ 1280 s.rk.v (fun l hl => by obtain ⟨j, hj, he⟩ := gG [] hl; rw [← he]; exact Bq _ (hkeys j hj) (i4 j))
      simp only [List.length_append]; omega
theorem nG (s : Sk) (ok : s.Ok) : oct (bW s) ∧ (bW s).length ≤ 100100 := by
 unfold bW
 split
 ·exact ⟨kY, Nat.zero_le _⟩
 ·rename_i h
  obtain ⟨h1, h2⟩ := iL s ok (Classical.byContradiction h)
  have h3 := ax s.p.k.toNat
  refine ⟨V4 (by decide) (aY (aO _) h1), ?_⟩
  have := V3 83 (ae s.p.k.toNat ++ bJ s)
  rw [List.length_append] at this
  omega
theorem Oa : wkV nls (fzb []) := .inl (jM _ _)
theorem Je (s : Sk) (ok : s.Ok) (h : vSk s ≠ 0) : Pg.Good Tryz.prog 31 [.agg (skF s)] (.tup [fzb (bW s), vi (vSk s)]) := by
 have h1 := dw s ok
 have e : bW s = [] := if_pos h
 rw [e]
 refine Good.fzt (vs := [nls, vi (vSk s)]) ?_ rfl ⟨Oa, aj _, trivial⟩
 generalize vSk s = v at *
 clear ok e
 obtain ⟨⟨pk, pz, pd, ps⟩, ⟨t1, t2, t3⟩, ⟨c1, c2, c3, c4, c5⟩, ⟨l1, l2, l3⟩, ⟨e1, e2, e3, e4⟩, ⟨f1, f2, f3, f4, f5⟩, ⟨r1, r2, r3, r4, r5⟩⟩ := s
 refine gI oW Tryz.func31 Tryz.results31 ?_
 exact wR trivial h1 ah
theorem FN (s : Sk) (ok : s.Ok) (h : vSk s = 0) (hk : s.p.k = 1) : Pg.Good Tryz.prog 31 [.agg (skF s)] (.tup [fzb (bW s), vi (vSk s)]) := by
 have h1 := dw s ok
 rw [h] at h1 ⊢
 obtain ⟨_, hp⟩ := gY h
 have hbo := iL s ok h
 have eb : bJ s = fP s.tl := by simp [bJ, hk]
 have ep : fA s = 0 := hp
 unfold fA at hp
 simp only [hk, Int.reduceEq, reduceIte] at hp
 have e : bW s = jG 83 (ae (1 : Int).toNat ++ fP s.tl) := by unfold bW; rw [if_neg (by omega), hk, eb]
 rw [e]
 rw [eb] at hbo
 have h2 := Bj s.tl hp
 have h3 := jv (1 : Int) ⟨by decide, by decide⟩
 have ul := ax (1 : Int).toNat
 have uo := aO (1 : Int).toNat
 generalize fP s.tl = B at *
 generalize ae (1 : Int).toNat = u at *
 have h4 := pF 83 (u ++ B) (by decide) (aY uo hbo.1) (by rw [List.length_append]; omega)
 have q1 := ai u
 have q2 := ai B
 have q3 := bQ u B
 clear ok e eb ep h hp
 obtain ⟨⟨pk, pz, pd, ps⟩, ⟨t1, t2, t3⟩, ⟨c1, c2, c3, c4, c5⟩, ⟨l1, l2, l3⟩, ⟨e1, e2, e3, e4⟩, ⟨f1, f2, f3, f4, f5⟩, ⟨r1, r2, r3, r4, r5⟩⟩ := s
 simp only at *
 subst hk
 refine gI oW Tryz.func31 Tryz.results31 ?_
 (repeat' first | refine wP (aI @q1 (aI @q2 (aI @q3 @id_eq.{1}))) (aI h1 (aI h2 h3)) ?_ | refine cG [1] h4 ?_ | refine tS ?_ ?_ <;> intro hc | fail)
 exact rE []
theorem FO (s : Sk) (ok : s.Ok) (h : vSk s = 0) (hk : s.p.k = 2) : Pg.Good Tryz.prog 31 [.agg (skF s)] (.tup [fzb (bW s), vi (vSk s)]) := by
 have h1 := dw s ok
 rw [h] at h1 ⊢
 obtain ⟨_, hp⟩ := gY h
 have hbo := iL s ok h
 have eb : bJ s = jk s.cm := by simp [bJ, hk]
 have ep : fA s = 0 := hp
 unfold fA at hp
 simp only [hk, Int.reduceEq, reduceIte] at hp
 have e : bW s = jG 83 (ae (2 : Int).toNat ++ jk s.cm) := by unfold bW; rw [if_neg (by omega), hk, eb]
 rw [e]
 rw [eb] at hbo
 have h2 := vW s.cm hp ok.cs
 have h3 := jv (2 : Int) ⟨by decide, by decide⟩
 have ul := ax (2 : Int).toNat
 have uo := aO (2 : Int).toNat
 generalize jk s.cm = B at *
 generalize ae (2 : Int).toNat = u at *
 have h4 := pF 83 (u ++ B) (by decide) (aY uo hbo.1) (by rw [List.length_append]; omega)
 have q1 := ai u
 have q2 := ai B
 have q3 := bQ u B
 clear ok e eb ep h hp
 obtain ⟨⟨pk, pz, pd, ps⟩, ⟨t1, t2, t3⟩, ⟨c1, c2, c3, c4, c5⟩, ⟨l1, l2, l3⟩, ⟨e1, e2, e3, e4⟩, ⟨f1, f2, f3, f4, f5⟩, ⟨r1, r2, r3, r4, r5⟩⟩ := s
 simp only at *
 subst hk
 refine gI oW Tryz.func31 Tryz.results31 ?_
 (repeat' first | refine wP (aI @q1 (aI @q2 (aI @q3 @id_eq.{1}))) (aI h1 (aI h2 h3)) ?_ | refine cG [1] h4 ?_ | refine tS ?_ ?_ <;> intro hc | fail)
 exact rE []
theorem FP (s : Sk) (ok : s.Ok) (h : vSk s = 0) (hk : s.p.k = 3) : Pg.Good Tryz.prog 31 [.agg (skF s)] (.tup [fzb (bW s), vi (vSk s)]) := by
 have h1 := dw s ok
 rw [h] at h1 ⊢
 obtain ⟨_, hp⟩ := gY h
 have hbo := iL s ok h
 have eb : bJ s = ou s.ll := by simp [bJ, hk]
 have ep : fA s = 0 := hp
 unfold fA at hp
 simp only [hk, Int.reduceEq, reduceIte] at hp
 have e : bW s = jG 83 (ae (3 : Int).toNat ++ ou s.ll) := by unfold bW; rw [if_neg (by omega), hk, eb]
 rw [e]
 rw [eb] at hbo
 have h2 := zg s.ll hp ok.ls ok.ln
 have h3 := jv (3 : Int) ⟨by decide, by decide⟩
 have ul := ax (3 : Int).toNat
 have uo := aO (3 : Int).toNat
 generalize ou s.ll = B at *
 generalize ae (3 : Int).toNat = u at *
 have h4 := pF 83 (u ++ B) (by decide) (aY uo hbo.1) (by rw [List.length_append]; omega)
 have q1 := ai u
 have q2 := ai B
 have q3 := bQ u B
 clear ok e eb ep h hp
 obtain ⟨⟨pk, pz, pd, ps⟩, ⟨t1, t2, t3⟩, ⟨c1, c2, c3, c4, c5⟩, ⟨l1, l2, l3⟩, ⟨e1, e2, e3, e4⟩, ⟨f1, f2, f3, f4, f5⟩, ⟨r1, r2, r3, r4, r5⟩⟩ := s
 simp only at *
 subst hk
 refine gI oW Tryz.func31 Tryz.results31 ?_
 (repeat' first | refine wP (aI @q1 (aI @q2 (aI @q3 @id_eq.{1}))) (aI h1 (aI h2 h3)) ?_ | refine cG [1] h4 ?_ | refine tS ?_ ?_ <;> intro hc | fail)
 exact rE []
theorem FQ (s : Sk) (ok : s.Ok) (h : vSk s = 0) (hk : s.p.k = 4) : Pg.Good Tryz.prog 31 [.agg (skF s)] (.tup [fzb (bW s), vi (vSk s)]) := by
 have h1 := dw s ok
 rw [h] at h1 ⊢
 obtain ⟨_, hp⟩ := gY h
 have hbo := iL s ok h
 have eb : bJ s = jc s.tp := by simp [bJ, hk]
 have ep : fA s = 0 := hp
 unfold fA at hp
 simp only [hk, Int.reduceEq, reduceIte] at hp
 have e : bW s = jG 83 (ae (4 : Int).toNat ++ jc s.tp) := by unfold bW; rw [if_neg (by omega), hk, eb]
 rw [e]
 rw [eb] at hbo
 have h2 := E5 s.tp hp ok.to ok.tn
 have h3 := jv (4 : Int) ⟨by decide, by decide⟩
 have ul := ax (4 : Int).toNat
 have uo := aO (4 : Int).toNat
 generalize jc s.tp = B at *
 generalize ae (4 : Int).toNat = u at *
 have h4 := pF 83 (u ++ B) (by decide) (aY uo hbo.1) (by rw [List.length_append]; omega)
 have q1 := ai u
 have q2 := ai B
 have q3 := bQ u B
 clear ok e eb ep h hp
 obtain ⟨⟨pk, pz, pd, ps⟩, ⟨t1, t2, t3⟩, ⟨c1, c2, c3, c4, c5⟩, ⟨l1, l2, l3⟩, ⟨e1, e2, e3, e4⟩, ⟨f1, f2, f3, f4, f5⟩, ⟨r1, r2, r3, r4, r5⟩⟩ := s
 simp only at *
 subst hk
 refine gI oW Tryz.func31 Tryz.results31 ?_
 (repeat' first | refine wP (aI @q1 (aI @q2 (aI @q3 @id_eq.{1}))) (aI h1 (aI h2 h3)) ?_ | refine cG [1] h4 ?_ | refine tS ?_ ?_ <;> intro hc | fail)
 exact rE []
theorem FT (s : Sk) (ok : s.Ok) (h : vSk s = 0) (hk : s.p.k = 5) : Pg.Good Tryz.prog 31 [.agg (skF s)] (.tup [fzb (bW s), vi (vSk s)]) := by
 have h1 := dw s ok
 rw [h] at h1 ⊢
 obtain ⟨_, hp⟩ := gY h
 have hbo := iL s ok h
 have eb : bJ s = jd s.fq := by simp [bJ, hk]
 have ep : fA s = 0 := hp
 unfold fA at hp
 simp only [hk, Int.reduceEq, reduceIte] at hp
 have e : bW s = jG 83 (ae (5 : Int).toNat ++ jd s.fq) := by unfold bW; rw [if_neg (by omega), hk, eb]
 rw [e]
 rw [eb] at hbo
 have h2 := agR s.fq hp ok.fo ok.fn
 have h3 := jv (5 : Int) ⟨by decide, by decide⟩
 have ul := ax (5 : Int).toNat
 have uo := aO (5 : Int).toNat
 generalize jd s.fq = B at *
 generalize ae (5 : Int).toNat = u at *
 have h4 := pF 83 (u ++ B) (by decide) (aY uo hbo.1) (by rw [List.length_append]; omega)
 have q1 := ai u
 have q2 := ai B
 have q3 := bQ u B
 clear ok e eb ep h hp
 obtain ⟨⟨pk, pz, pd, ps⟩, ⟨t1, t2, t3⟩, ⟨c1, c2, c3, c4, c5⟩, ⟨l1, l2, l3⟩, ⟨e1, e2, e3, e4⟩, ⟨f1, f2, f3, f4, f5⟩, ⟨r1, r2, r3, r4, r5⟩⟩ := s
 simp only at *
 subst hk
 refine gI oW Tryz.func31 Tryz.results31 ?_
 (repeat' first | refine wP (aI @q1 (aI @q2 (aI @q3 @id_eq.{1}))) (aI h1 (aI h2 h3)) ?_ | refine cG [1] h4 ?_ | refine tS ?_ ?_ <;> intro hc | fail)
 exact rE []
theorem FU (s : Sk) (ok : s.Ok) (h : vSk s = 0) (hk : s.p.k = 6) : Pg.Good Tryz.prog 31 [.agg (skF s)] (.tup [fzb (bW s), vi (vSk s)]) := by
 have h1 := dw s ok
 rw [h] at h1 ⊢
 obtain ⟨_, hp⟩ := gY h
 have hbo := iL s ok h
 have eb : bJ s = je s.rk := by simp [bJ, hk]
 have ep : fA s = 0 := hp
 unfold fA at hp
 simp only [hk, Int.reduceEq, reduceIte] at hp
 have e : bW s = jG 83 (ae (6 : Int).toNat ++ je s.rk) := by unfold bW; rw [if_neg (by omega), hk, eb]
 rw [e]
 rw [eb] at hbo
 have h2 := Bv s.rk hp ok.ro ok.rn ok.rm
 have h3 := jv (6 : Int) ⟨by decide, by decide⟩
 have ul := ax (6 : Int).toNat
 have uo := aO (6 : Int).toNat
 generalize je s.rk = B at *
 generalize ae (6 : Int).toNat = u at *
 have h4 := pF 83 (u ++ B) (by decide) (aY uo hbo.1) (by rw [List.length_append]; omega)
 have q1 := ai u
 have q2 := ai B
 have q3 := bQ u B
 clear ok e eb ep h hp
 obtain ⟨⟨pk, pz, pd, ps⟩, ⟨t1, t2, t3⟩, ⟨c1, c2, c3, c4, c5⟩, ⟨l1, l2, l3⟩, ⟨e1, e2, e3, e4⟩, ⟨f1, f2, f3, f4, f5⟩, ⟨r1, r2, r3, r4, r5⟩⟩ := s
 simp only at *
 subst hk
 refine gI oW Tryz.func31 Tryz.results31 ?_
 (repeat' first | refine wP (aI @q1 (aI @q2 (aI @q3 @id_eq.{1}))) (aI h1 (aI h2 h3)) ?_ | refine cG [1] h4 ?_ | refine tS ?_ ?_ <;> intro hc | fail)
 exact rE []
theorem LP (s : Sk) (ok : s.Ok) : Pg.Good Tryz.prog 31 [.agg (skF s)] (.tup [fzb (bW s), vi (vSk s)]) := by
 by_cases h : vSk s = 0
 ·rcases rC (gY h).1 with hk | hk | hk | hk | hk | hk
  ·exact FN s ok h hk
  ·exact FO s ok h hk
  ·exact FP s ok h hk
  ·exact FQ s ok h hk
  ·exact FT s ok h hk
  ·exact FU s ok h hk
 ·exact Je s ok h
theorem aba (s : Sk) (ok : s.Ok) (hk : s.p.k = 1 ∨ s.p.k = 2 ∨ s.p.k = 3 ∨ s.p.k = 4 ∨ s.p.k = 5 ∨ s.p.k = 6) : Pg.Good Tryz.prog 61 [.agg (skF s)] (vi (fA s)) := by
 have h1 := vZ s.tl
 have h2 := WH s.cm
 have h3 := WI s.ll ok.ln
 have h4 := WU s.tp ok.to ok.tn
 have h5 := WJ s.fq ok.fo ok.fn
 have h6 := WL s.rk ok.ro ok.rn ok.rm
 have e : fA s = if s.p.k = 1 then vTl s.tl else if s.p.k = 2 then vCm s.cm else if s.p.k = 3 then vLl s.ll else if s.p.k = 4 then vTp s.tp else if s.p.k = 5 then vFq s.fq else vRk s.rk := rfl
 generalize fA s = r at *
 generalize vTl s.tl = r1 at *
 generalize vCm s.cm = r2 at *
 generalize vLl s.ll = r3 at *
 generalize vTp s.tp = r4 at *
 generalize vFq s.fq = r5 at *
 generalize vRk s.rk = r6 at *
 clear ok
 obtain ⟨⟨pk, pz, pd, ps⟩, ⟨t1, t2, t3⟩, ⟨c1, c2, c3, c4, c5⟩, ⟨l1, l2, l3⟩, ⟨e1, e2, e3, e4⟩, ⟨f1, f2, f3, f4, f5⟩, ⟨q1, q2, q3, q4, q5⟩⟩ := s
 simp only at *
 rcases hk with rfl | rfl | rfl | rfl | rfl | rfl
 ·obtain rfl : r = r1 := e
  refine gI oW Tryz.func61 Tryz.results61 ?_
  exact wR trivial h1 ah
 ·obtain rfl : r = r2 := e
  refine gI oW Tryz.func61 Tryz.results61 ?_
  exact wR trivial h2 ah
 ·obtain rfl : r = r3 := e
  refine gI oW Tryz.func61 Tryz.results61 ?_
  exact wR trivial h3 ah
 ·obtain rfl : r = r4 := e
  refine gI oW Tryz.func61 Tryz.results61 ?_
  exact wR trivial h4 ah
 ·obtain rfl : r = r5 := e
  refine gI oW Tryz.func61 Tryz.results61 ?_
  exact wR trivial h5 ah
 ·obtain rfl : r = r6 := e
  refine gI oW Tryz.func61 Tryz.results61 ?_
  exact wR trivial h6 ah
def jT (s : Sk) : Pm := ⟨s.p.k, if s.p.k = 2 then s.cm.z else if s.p.k = 3 then s.ll.p else if s.p.k = 4 then s.tp.z else if s.p.k = 5 then s.fq.z else if s.p.k = 6 then s.rk.z else 0,
 if s.p.k = 2 then s.cm.d else 0, if s.p.k = 2 then s.cm.s else if s.p.k = 3 then s.ll.s else 0⟩
theorem nH (s : Sk) (hk : s.p.k = 1 ∨ s.p.k = 2 ∨ s.p.k = 3 ∨ s.p.k = 4 ∨ s.p.k = 5 ∨ s.p.k = 6) : Pg.Good Tryz.prog 62 [.agg (skF s)] (.agg (pmF (jT s))) := by
 obtain ⟨⟨pk, pz, pd, ps⟩, ⟨t1, t2, t3⟩, ⟨c1, c2, c3, c4, c5⟩, ⟨l1, l2, l3⟩, ⟨e1, e2, e3, e4⟩, ⟨f1, f2, f3, f4, f5⟩, ⟨q1, q2, q3, q4, q5⟩⟩ := s
 unfold jT
 simp only at *
 rcases hk with rfl | rfl | rfl | rfl | rfl | rfl
 ·refine gI oG Tryz.func62 Tryz.results62 ?_
  exact wRG trivial trivial ah
 ·refine gI oG Tryz.func62 Tryz.results62 ?_
  exact wRG trivial trivial ah
 ·refine gI oG Tryz.func62 Tryz.results62 ?_
  exact wRG trivial trivial ah
 ·refine gI oG Tryz.func62 Tryz.results62 ?_
  exact wRG trivial trivial ah
 ·refine gI oG Tryz.func62 Tryz.results62 ?_
  exact wRG trivial trivial ah
 ·refine gI oG Tryz.func62 Tryz.results62 ?_
  exact wRG trivial trivial ah
theorem Ob (s : Sk) (h : vp s.p.k s.p.z s.p.d s.p.s = 0) : samP (jT s) s.p ↔ parP s := by
 have hk := rC h
 obtain ⟨⟨pk, pz, pd, ps⟩, ⟨t1, t2, t3⟩, ⟨c1, c2, c3, c4, c5⟩, ⟨l1, l2, l3⟩, ⟨e1, e2, e3, e4⟩, ⟨f1, f2, f3, f4, f5⟩, ⟨q1, q2, q3, q4, q5⟩⟩ := s
 unfold vp at h
 simp only at *
 rcases hk with rfl | rfl | rfl | rfl | rfl | rfl
 all_goals
  simp only [samP, jT, parP] at *
  simp at h ⊢
  try omega
theorem Q4 (s : Sk) (hk : s.p.k = 1) (ok : s.Ok) : Pg.Good Tryz.prog 63 [.agg (skF s)] (vb (eH s (aX s))) := by
 have b1 := ok.cn
 have b2 := ok.ln
 have b3 := ok.tn
 have b4 := ok.fn
 have b5 := ok.rn
 clear ok
 obtain ⟨⟨pk, pz, pd, ps⟩, ⟨t1, t2, t3⟩, ⟨c1, c2, c3, c4, c5⟩, ⟨l1, l2, l3⟩, ⟨e1, e2, e3, e4⟩, ⟨f1, f2, f3, f4, f5⟩, ⟨q1, q2, q3, q4, q5⟩⟩ := s
 simp only at *
 subst hk
 have e0 : eH ⟨⟨1, pz, pd, ps⟩, ⟨t1, t2, t3⟩, ⟨c1, c2, c3, c4, c5⟩, ⟨l1, l2, l3⟩, ⟨e1, e2, e3, e4⟩, ⟨f1, f2, f3, f4, f5⟩, ⟨q1, q2, q3, q4, q5⟩⟩ (aX ⟨⟨1, pz, pd, ps⟩, ⟨t1, t2, t3⟩, ⟨c1, c2, c3, c4, c5⟩, ⟨l1, l2, l3⟩, ⟨e1, e2, e3, e4⟩, ⟨f1, f2, f3, f4, f5⟩, ⟨q1, q2, q3, q4, q5⟩⟩) = decide (c1 = 0 ∧ c2 = 0 ∧ c3 = 0 ∧ c4.length = 0 ∧ c5 = false ∧ l1 = 0 ∧ l2 = 0 ∧ l3.length = 0 ∧ e1 = 0 ∧ e2 = 0 ∧ e3.length = 0 ∧ e4 = false ∧ f1 = 0 ∧ f2 = 0 ∧ f3 = 0 ∧ f4.length = 0 ∧ f5 = false ∧ q1 = 0 ∧ q2 = 0 ∧ q3 = 0 ∧ q4.length = 0 ∧ q5 = false) := by
  rw [Bool.eq_iff_iff]
  simp [eH, aX, samP, samT, rM, rO, rP, rQ, rU, Tl.o, Cm.o, Ll.o, Tp.o, Fq.o, Rk.o, and_assoc, and_comm, and_left_comm]
 rw [e0]
 clear e0
 refine gI oD Tryz.func63 Tryz.results63 ?_
 (repeat' first | refine wPA (aI @aP (aI @bC (aI @dQ (aI @beq_self_eq_true.{0} (aI @Bool.and_self (aI @List.append_eq.{0} (aI @List.cons_append.{0} @List.nil_append.{0}))))))) trivial ?_ | refine tS ?_ ?_ <;> intro hc | fail)
 all_goals (refine rT [] ?_; first | rfl | skip)
 all_goals (simp only [pgo, simprocAttr]; first | rfl | simp_all)
theorem Q5 (s : Sk) (hk : s.p.k = 2) (ok : s.Ok) : Pg.Good Tryz.prog 63 [.agg (skF s)] (vb (eH s (aX s))) := by
 have b1 := ok.cn
 have b2 := ok.ln
 have b3 := ok.tn
 have b4 := ok.fn
 have b5 := ok.rn
 clear ok
 obtain ⟨⟨pk, pz, pd, ps⟩, ⟨t1, t2, t3⟩, ⟨c1, c2, c3, c4, c5⟩, ⟨l1, l2, l3⟩, ⟨e1, e2, e3, e4⟩, ⟨f1, f2, f3, f4, f5⟩, ⟨q1, q2, q3, q4, q5⟩⟩ := s
 simp only at *
 subst hk
 have e0 : eH ⟨⟨2, pz, pd, ps⟩, ⟨t1, t2, t3⟩, ⟨c1, c2, c3, c4, c5⟩, ⟨l1, l2, l3⟩, ⟨e1, e2, e3, e4⟩, ⟨f1, f2, f3, f4, f5⟩, ⟨q1, q2, q3, q4, q5⟩⟩ (aX ⟨⟨2, pz, pd, ps⟩, ⟨t1, t2, t3⟩, ⟨c1, c2, c3, c4, c5⟩, ⟨l1, l2, l3⟩, ⟨e1, e2, e3, e4⟩, ⟨f1, f2, f3, f4, f5⟩, ⟨q1, q2, q3, q4, q5⟩⟩) = decide (t1 = 0 ∧ t2 = 0 ∧ t3 = false ∧ l1 = 0 ∧ l2 = 0 ∧ l3.length = 0 ∧ e1 = 0 ∧ e2 = 0 ∧ e3.length = 0 ∧ e4 = false ∧ f1 = 0 ∧ f2 = 0 ∧ f3 = 0 ∧ f4.length = 0 ∧ f5 = false ∧ q1 = 0 ∧ q2 = 0 ∧ q3 = 0 ∧ q4.length = 0 ∧ q5 = false) := by
  rw [Bool.eq_iff_iff]
  simp [eH, aX, samP, samT, rM, rO, rP, rQ, rU, Tl.o, Cm.o, Ll.o, Tp.o, Fq.o, Rk.o, and_assoc, and_comm, and_left_comm]
 rw [e0]
 clear e0
 refine gI oD Tryz.func63 Tryz.results63 ?_
 (repeat' first | refine wPA (aI @aP (aI @bC (aI @dQ (aI @beq_self_eq_true.{0} (aI @Bool.and_self (aI @List.append_eq.{0} (aI @List.cons_append.{0} @List.nil_append.{0}))))))) trivial ?_ | refine tS ?_ ?_ <;> intro hc | fail)
 all_goals (refine rT [] ?_; first | rfl | skip)
 all_goals (simp only [pgo, simprocAttr]; first | rfl | simp_all)
theorem Q7 (s : Sk) (hk : s.p.k = 3) (ok : s.Ok) : Pg.Good Tryz.prog 63 [.agg (skF s)] (vb (eH s (aX s))) := by
 have b1 := ok.cn
 have b2 := ok.ln
 have b3 := ok.tn
 have b4 := ok.fn
 have b5 := ok.rn
 clear ok
 obtain ⟨⟨pk, pz, pd, ps⟩, ⟨t1, t2, t3⟩, ⟨c1, c2, c3, c4, c5⟩, ⟨l1, l2, l3⟩, ⟨e1, e2, e3, e4⟩, ⟨f1, f2, f3, f4, f5⟩, ⟨q1, q2, q3, q4, q5⟩⟩ := s
 simp only at *
 subst hk
 have e0 : eH ⟨⟨3, pz, pd, ps⟩, ⟨t1, t2, t3⟩, ⟨c1, c2, c3, c4, c5⟩, ⟨l1, l2, l3⟩, ⟨e1, e2, e3, e4⟩, ⟨f1, f2, f3, f4, f5⟩, ⟨q1, q2, q3, q4, q5⟩⟩ (aX ⟨⟨3, pz, pd, ps⟩, ⟨t1, t2, t3⟩, ⟨c1, c2, c3, c4, c5⟩, ⟨l1, l2, l3⟩, ⟨e1, e2, e3, e4⟩, ⟨f1, f2, f3, f4, f5⟩, ⟨q1, q2, q3, q4, q5⟩⟩) = decide (t1 = 0 ∧ t2 = 0 ∧ t3 = false ∧ c1 = 0 ∧ c2 = 0 ∧ c3 = 0 ∧ c4.length = 0 ∧ c5 = false ∧ e1 = 0 ∧ e2 = 0 ∧ e3.length = 0 ∧ e4 = false ∧ f1 = 0 ∧ f2 = 0 ∧ f3 = 0 ∧ f4.length = 0 ∧ f5 = false ∧ q1 = 0 ∧ q2 = 0 ∧ q3 = 0 ∧ q4.length = 0 ∧ q5 = false) := by
  rw [Bool.eq_iff_iff]
  simp [eH, aX, samP, samT, rM, rO, rP, rQ, rU, Tl.o, Cm.o, Ll.o, Tp.o, Fq.o, Rk.o, and_assoc, and_comm, and_left_comm]
 rw [e0]
 clear e0
 refine gI oD Tryz.func63 Tryz.results63 ?_
 (repeat' first | refine wPA (aI @aP (aI @bC (aI @dQ (aI @beq_self_eq_true.{0} (aI @Bool.and_self (aI @List.append_eq.{0} (aI @List.cons_append.{0} @List.nil_append.{0}))))))) trivial ?_ | refine tS ?_ ?_ <;> intro hc | fail)
 all_goals (refine rT [] ?_; first | rfl | skip)
 all_goals (simp only [pgo, simprocAttr]; first | rfl | simp_all)
theorem Q8 (s : Sk) (hk : s.p.k = 4) (ok : s.Ok) : Pg.Good Tryz.prog 63 [.agg (skF s)] (vb (eH s (aX s))) := by
 have b1 := ok.cn
 have b2 := ok.ln
 have b3 := ok.tn
 have b4 := ok.fn
 have b5 := ok.rn
 clear ok
 obtain ⟨⟨pk, pz, pd, ps⟩, ⟨t1, t2, t3⟩, ⟨c1, c2, c3, c4, c5⟩, ⟨l1, l2, l3⟩, ⟨e1, e2, e3, e4⟩, ⟨f1, f2, f3, f4, f5⟩, ⟨q1, q2, q3, q4, q5⟩⟩ := s
 simp only at *
 subst hk
 have e0 : eH ⟨⟨4, pz, pd, ps⟩, ⟨t1, t2, t3⟩, ⟨c1, c2, c3, c4, c5⟩, ⟨l1, l2, l3⟩, ⟨e1, e2, e3, e4⟩, ⟨f1, f2, f3, f4, f5⟩, ⟨q1, q2, q3, q4, q5⟩⟩ (aX ⟨⟨4, pz, pd, ps⟩, ⟨t1, t2, t3⟩, ⟨c1, c2, c3, c4, c5⟩, ⟨l1, l2, l3⟩, ⟨e1, e2, e3, e4⟩, ⟨f1, f2, f3, f4, f5⟩, ⟨q1, q2, q3, q4, q5⟩⟩) = decide (t1 = 0 ∧ t2 = 0 ∧ t3 = false ∧ c1 = 0 ∧ c2 = 0 ∧ c3 = 0 ∧ c4.length = 0 ∧ c5 = false ∧ l1 = 0 ∧ l2 = 0 ∧ l3.length = 0 ∧ f1 = 0 ∧ f2 = 0 ∧ f3 = 0 ∧ f4.length = 0 ∧ f5 = false ∧ q1 = 0 ∧ q2 = 0 ∧ q3 = 0 ∧ q4.length = 0 ∧ q5 = false) := by
  rw [Bool.eq_iff_iff]
  simp [eH, aX, samP, samT, rM, rO, rP, rQ, rU, Tl.o, Cm.o, Ll.o, Tp.o, Fq.o, Rk.o, and_assoc, and_comm, and_left_comm]
 rw [e0]
 clear e0
 refine gI oD Tryz.func63 Tryz.results63 ?_
 (repeat' first | refine wPA (aI @aP (aI @bC (aI @dQ (aI @beq_self_eq_true.{0} (aI @Bool.and_self (aI @List.append_eq.{0} (aI @List.cons_append.{0} @List.nil_append.{0}))))))) trivial ?_ | refine tS ?_ ?_ <;> intro hc | fail)
 all_goals (refine rT [] ?_; first | rfl | skip)
 all_goals (simp only [pgo, simprocAttr]; first | rfl | simp_all)
theorem Q9 (s : Sk) (hk : s.p.k = 5) (ok : s.Ok) : Pg.Good Tryz.prog 63 [.agg (skF s)] (vb (eH s (aX s))) := by
 have b1 := ok.cn
 have b2 := ok.ln
 have b3 := ok.tn
 have b4 := ok.fn
 have b5 := ok.rn
 clear ok
 obtain ⟨⟨pk, pz, pd, ps⟩, ⟨t1, t2, t3⟩, ⟨c1, c2, c3, c4, c5⟩, ⟨l1, l2, l3⟩, ⟨e1, e2, e3, e4⟩, ⟨f1, f2, f3, f4, f5⟩, ⟨q1, q2, q3, q4, q5⟩⟩ := s
 simp only at *
 subst hk
 have e0 : eH ⟨⟨5, pz, pd, ps⟩, ⟨t1, t2, t3⟩, ⟨c1, c2, c3, c4, c5⟩, ⟨l1, l2, l3⟩, ⟨e1, e2, e3, e4⟩, ⟨f1, f2, f3, f4, f5⟩, ⟨q1, q2, q3, q4, q5⟩⟩ (aX ⟨⟨5, pz, pd, ps⟩, ⟨t1, t2, t3⟩, ⟨c1, c2, c3, c4, c5⟩, ⟨l1, l2, l3⟩, ⟨e1, e2, e3, e4⟩, ⟨f1, f2, f3, f4, f5⟩, ⟨q1, q2, q3, q4, q5⟩⟩) = decide (t1 = 0 ∧ t2 = 0 ∧ t3 = false ∧ c1 = 0 ∧ c2 = 0 ∧ c3 = 0 ∧ c4.length = 0 ∧ c5 = false ∧ l1 = 0 ∧ l2 = 0 ∧ l3.length = 0 ∧ e1 = 0 ∧ e2 = 0 ∧ e3.length = 0 ∧ e4 = false ∧ q1 = 0 ∧ q2 = 0 ∧ q3 = 0 ∧ q4.length = 0 ∧ q5 = false) := by
  rw [Bool.eq_iff_iff]
  simp [eH, aX, samP, samT, rM, rO, rP, rQ, rU, Tl.o, Cm.o, Ll.o, Tp.o, Fq.o, Rk.o, and_assoc, and_comm, and_left_comm]
 rw [e0]
 clear e0
 refine gI oD Tryz.func63 Tryz.results63 ?_
 (repeat' first | refine wPA (aI @aP (aI @bC (aI @dQ (aI @beq_self_eq_true.{0} (aI @Bool.and_self (aI @List.append_eq.{0} (aI @List.cons_append.{0} @List.nil_append.{0}))))))) trivial ?_ | refine tS ?_ ?_ <;> intro hc | fail)
 all_goals (refine rT [] ?_; first | rfl | skip)
 all_goals (simp only [pgo, simprocAttr]; first | rfl | simp_all)
theorem Rf (s : Sk) (hk : s.p.k = 6) (ok : s.Ok) : Pg.Good Tryz.prog 63 [.agg (skF s)] (vb (eH s (aX s))) := by
 have b1 := ok.cn
 have b2 := ok.ln
 have b3 := ok.tn
 have b4 := ok.fn
 have b5 := ok.rn
 clear ok
 obtain ⟨⟨pk, pz, pd, ps⟩, ⟨t1, t2, t3⟩, ⟨c1, c2, c3, c4, c5⟩, ⟨l1, l2, l3⟩, ⟨e1, e2, e3, e4⟩, ⟨f1, f2, f3, f4, f5⟩, ⟨q1, q2, q3, q4, q5⟩⟩ := s
 simp only at *
 subst hk
 have e0 : eH ⟨⟨6, pz, pd, ps⟩, ⟨t1, t2, t3⟩, ⟨c1, c2, c3, c4, c5⟩, ⟨l1, l2, l3⟩, ⟨e1, e2, e3, e4⟩, ⟨f1, f2, f3, f4, f5⟩, ⟨q1, q2, q3, q4, q5⟩⟩ (aX ⟨⟨6, pz, pd, ps⟩, ⟨t1, t2, t3⟩, ⟨c1, c2, c3, c4, c5⟩, ⟨l1, l2, l3⟩, ⟨e1, e2, e3, e4⟩, ⟨f1, f2, f3, f4, f5⟩, ⟨q1, q2, q3, q4, q5⟩⟩) = decide (t1 = 0 ∧ t2 = 0 ∧ t3 = false ∧ c1 = 0 ∧ c2 = 0 ∧ c3 = 0 ∧ c4.length = 0 ∧ c5 = false ∧ l1 = 0 ∧ l2 = 0 ∧ l3.length = 0 ∧ e1 = 0 ∧ e2 = 0 ∧ e3.length = 0 ∧ e4 = false ∧ f1 = 0 ∧ f2 = 0 ∧ f3 = 0 ∧ f4.length = 0 ∧ f5 = false) := by
  rw [Bool.eq_iff_iff]
  simp [eH, aX, samP, samT, rM, rO, rP, rQ, rU, Tl.o, Cm.o, Ll.o, Tp.o, Fq.o, Rk.o, and_assoc, and_comm, and_left_comm]
 rw [e0]
 clear e0
 refine gI oD Tryz.func63 Tryz.results63 ?_
 (repeat' first | refine wPA (aI @aP (aI @bC (aI @dQ (aI @beq_self_eq_true.{0} (aI @Bool.and_self (aI @List.append_eq.{0} (aI @List.cons_append.{0} @List.nil_append.{0}))))))) trivial ?_ | refine tS ?_ ?_ <;> intro hc | fail)
 all_goals (refine rT [] ?_; first | rfl | skip)
 all_goals (simp only [pgo, simprocAttr]; first | rfl | simp_all)
theorem Xk (s : Sk) (ok : s.Ok) (hk : s.p.k = 1 ∨ s.p.k = 2 ∨ s.p.k = 3 ∨ s.p.k = 4 ∨ s.p.k = 5 ∨ s.p.k = 6) : Pg.Good Tryz.prog 63 [.agg (skF s)] (vb (eH s (aX s))) := by
 rcases hk with hk | hk | hk | hk | hk | hk
 ·exact Q4 s hk ok
 ·exact Q5 s hk ok
 ·exact Q7 s hk ok
 ·exact Q8 s hk ok
 ·exact Q9 s hk ok
 ·exact Rf s hk ok
theorem uJ (s : Sk) (ok : s.Ok) : Pg.Good Tryz.prog 17 [.agg (skF s)] (vi (vSk s)) := by
 have h1 := kR s.p.k s.p.z s.p.d s.p.s
 have e : vSk s = if vp s.p.k s.p.z s.p.d s.p.s ≠ 0 then vp s.p.k s.p.z s.p.d s.p.s else if fA s ≠ 0 then fA s else if parP s then (if eH s (aX s) = true then 0 else 18) else 18 := rfl
 by_cases h : vp s.p.k s.p.z s.p.d s.p.s = 0
 ·rw [if_neg (by omega)] at e
  have hk := rC h
  have hp := Ob s h
  have h2 := aba s ok hk
  have h3 := nH s hk
  have h4 := Xk s ok hk
  have hE := abI (jT s) s.p
  rw [h] at h1
  generalize vSk s = r at *
  generalize fA s = v at *
  by_cases c1 : v = 0
  ·subst c1
   rw [if_neg (by omega)] at e
   generalize jT s = q at *
   by_cases c2 : parP s
   ·rw [if_pos c2] at e
    rw [decide_eq_true (hp.2 c2)] at hE
    generalize eH s (aX s) = o at *
    clear hp c2 ok h
    obtain ⟨⟨pk, pz, pd, ps⟩, ⟨t1, t2, t3⟩, ⟨c1, c2, c3, c4, c5⟩, ⟨l1, l2, l3⟩, ⟨e1, e2, e3, e4⟩, ⟨f1, f2, f3, f4, f5⟩, ⟨q1, q2, q3, q4, q5⟩⟩ := s
    obtain ⟨qk, qz, qd, qs⟩ := q
    simp only at *
    cases o
    ·obtain rfl : r = 18 := e
     refine gI oW Tryz.func17 Tryz.results17 ?_
     exact wR @hE (aI h1 (aI h2 (aI h3 h4))) ah
    ·obtain rfl : r = 0 := e
     refine gI oW Tryz.func17 Tryz.results17 ?_
     exact wR @hE (aI h1 (aI h2 (aI h3 h4))) ah
   ·rw [if_neg c2] at e
    rw [decide_eq_false (fun x => c2 (hp.1 x))] at hE
    clear hp c2 ok h
    obtain ⟨⟨pk, pz, pd, ps⟩, ⟨t1, t2, t3⟩, ⟨c1, c2, c3, c4, c5⟩, ⟨l1, l2, l3⟩, ⟨e1, e2, e3, e4⟩, ⟨f1, f2, f3, f4, f5⟩, ⟨q1, q2, q3, q4, q5⟩⟩ := s
    obtain ⟨qk, qz, qd, qs⟩ := q
    simp only at *
    subst e
    refine gI oW Tryz.func17 Tryz.results17 ?_
    exact wR @hE (aI h1 (aI h2 h3)) ah
  ·rw [if_pos c1] at e
   subst e
   refine gI oW Tryz.func17 Tryz.results17 ?_
   exact wR trivial (aI h1 h2) ah
 ·rw [if_pos h] at e
  generalize vp s.p.k s.p.z s.p.d s.p.s = v at *
  rw [e]
  refine gI oW Tryz.func17 Tryz.results17 ?_
  exact wR trivial h1 ah
theorem Xl (s : Sk) (ok : s.Ok) (h : vSk s ≠ 0) : Pg.Good Tryz.prog 30 [.agg (skF s)] (.tup [fzb (bW s), vi (vSk s)]) := by
 have h1 := uJ s ok
 have e : bW s = [] := if_pos h
 rw [e]
 refine Good.fzt (vs := [nls, vi (vSk s)]) ?_ rfl ⟨Oa, aj _, trivial⟩
 generalize vSk s = v at *
 clear ok e
 obtain ⟨⟨pk, pz, pd, ps⟩, ⟨t1, t2, t3⟩, ⟨c1, c2, c3, c4, c5⟩, ⟨l1, l2, l3⟩, ⟨e1, e2, e3, e4⟩, ⟨f1, f2, f3, f4, f5⟩, ⟨r1, r2, r3, r4, r5⟩⟩ := s
 refine gI oW Tryz.func30 Tryz.results30 ?_
 exact wR trivial h1 ah
theorem Xm (s : Sk) (ok : s.Ok) (h : vSk s = 0) (hk : 1 ≤ s.p.k ∧ s.p.k ≤ 6) (hF : Pg.Good Tryz.prog 86 [.agg (skF s)] (fzb (bJ s))) : Pg.Good Tryz.prog 30 [.agg (skF s)] (.tup [fzb (bW s), vi (vSk s)]) := by
 have h1 := uJ s ok
 rw [h] at h1 ⊢
 have hbo := iL s ok h
 have e : bW s = jG 83 (ae s.p.k.toNat ++ bJ s) := by unfold bW; rw [if_neg (by omega)]
 rw [e]
 have h3 := E8 s.p.k (by omega)
 have ul := ax s.p.k.toNat
 have uo := aO s.p.k.toNat
 generalize bJ s = B at *
 generalize ae s.p.k.toNat = u at *
 have h4 := aaN 83 (u ++ B) (by decide) (aY uo hbo.1) (by rw [List.length_append]; omega)
 have q1 := ai u
 have q2 := ai B
 have q3 := bQ u B
 clear ok e h
 obtain ⟨⟨pk, pz, pd, ps⟩, ⟨t1, t2, t3⟩, ⟨c1, c2, c3, c4, c5⟩, ⟨l1, l2, l3⟩, ⟨e1, e2, e3, e4⟩, ⟨f1, f2, f3, f4, f5⟩, ⟨r1, r2, r3, r4, r5⟩⟩ := s
 simp only at *
 refine gI oW Tryz.func30 Tryz.results30 ?_
 (repeat' first | refine wP (aI @q1 (aI @q2 (aI @q3 @id_eq.{1}))) (aI h1 (aI h3 hF)) ?_ | refine cG [1] h4 ?_ | refine tS ?_ ?_ <;> intro hc | fail)
 exact rE []
theorem Xn (s : Sk) (ok : s.Ok) (h : vSk s = 0) (hk : s.p.k = 1) : Pg.Good Tryz.prog 86 [.agg (skF s)] (fzb (bJ s)) := by
 obtain ⟨_, hp⟩ := gY h
 have eb : bJ s = fP s.tl := by simp [bJ, hk]
 unfold fA at hp
 simp only [hk, Int.reduceEq, reduceIte] at hp
 rw [eb]
 have h2 := NT s.tl hp
 generalize fP s.tl = B at *
 clear ok eb h hp
 obtain ⟨⟨pk, pz, pd, ps⟩, ⟨t1, t2, t3⟩, ⟨c1, c2, c3, c4, c5⟩, ⟨l1, l2, l3⟩, ⟨e1, e2, e3, e4⟩, ⟨f1, f2, f3, f4, f5⟩, ⟨r1, r2, r3, r4, r5⟩⟩ := s
 simp only at *
 subst hk
 refine gI oW Tryz.func86 Tryz.results86 ?_
 exact wR trivial h2 ah
theorem Xo (s : Sk) (ok : s.Ok) (h : vSk s = 0) (hk : s.p.k = 2) : Pg.Good Tryz.prog 86 [.agg (skF s)] (fzb (bJ s)) := by
 obtain ⟨_, hp⟩ := gY h
 have eb : bJ s = jk s.cm := by simp [bJ, hk]
 unfold fA at hp
 simp only [hk, Int.reduceEq, reduceIte] at hp
 rw [eb]
 have h2 := NU s.cm hp ok.cs
 generalize jk s.cm = B at *
 clear ok eb h hp
 obtain ⟨⟨pk, pz, pd, ps⟩, ⟨t1, t2, t3⟩, ⟨c1, c2, c3, c4, c5⟩, ⟨l1, l2, l3⟩, ⟨e1, e2, e3, e4⟩, ⟨f1, f2, f3, f4, f5⟩, ⟨r1, r2, r3, r4, r5⟩⟩ := s
 simp only at *
 subst hk
 refine gI oW Tryz.func86 Tryz.results86 ?_
 exact wR trivial h2 ah
theorem Xp (s : Sk) (ok : s.Ok) (h : vSk s = 0) (hk : s.p.k = 3) : Pg.Good Tryz.prog 86 [.agg (skF s)] (fzb (bJ s)) := by
 obtain ⟨_, hp⟩ := gY h
 have eb : bJ s = ou s.ll := by simp [bJ, hk]
 unfold fA at hp
 simp only [hk, Int.reduceEq, reduceIte] at hp
 rw [eb]
 have h2 := aa1 s.ll hp ok.ls ok.ln
 generalize ou s.ll = B at *
 clear ok eb h hp
 obtain ⟨⟨pk, pz, pd, ps⟩, ⟨t1, t2, t3⟩, ⟨c1, c2, c3, c4, c5⟩, ⟨l1, l2, l3⟩, ⟨e1, e2, e3, e4⟩, ⟨f1, f2, f3, f4, f5⟩, ⟨r1, r2, r3, r4, r5⟩⟩ := s
 simp only at *
 subst hk
 refine gI oW Tryz.func86 Tryz.results86 ?_
 exact wR trivial h2 ah
theorem Xq (s : Sk) (ok : s.Ok) (h : vSk s = 0) (hk : s.p.k = 4) : Pg.Good Tryz.prog 86 [.agg (skF s)] (fzb (bJ s)) := by
 obtain ⟨_, hp⟩ := gY h
 have eb : bJ s = jc s.tp := by simp [bJ, hk]
 unfold fA at hp
 simp only [hk, Int.reduceEq, reduceIte] at hp
 rw [eb]
 have h2 := NZ s.tp hp ok.to ok.tn
 generalize jc s.tp = B at *
 clear ok eb h hp
 obtain ⟨⟨pk, pz, pd, ps⟩, ⟨t1, t2, t3⟩, ⟨c1, c2, c3, c4, c5⟩, ⟨l1, l2, l3⟩, ⟨e1, e2, e3, e4⟩, ⟨f1, f2, f3, f4, f5⟩, ⟨r1, r2, r3, r4, r5⟩⟩ := s
 simp only at *
 subst hk
 refine gI oW Tryz.func86 Tryz.results86 ?_
 exact wR trivial h2 ah
theorem Xr (s : Sk) (ok : s.Ok) (h : vSk s = 0) (hk : s.p.k = 5) : Pg.Good Tryz.prog 86 [.agg (skF s)] (fzb (bJ s)) := by
 obtain ⟨_, hp⟩ := gY h
 have eb : bJ s = jd s.fq := by simp [bJ, hk]
 unfold fA at hp
 simp only [hk, Int.reduceEq, reduceIte] at hp
 rw [eb]
 have h2 := N7 s.fq hp ok.fo ok.fn
 generalize jd s.fq = B at *
 clear ok eb h hp
 obtain ⟨⟨pk, pz, pd, ps⟩, ⟨t1, t2, t3⟩, ⟨c1, c2, c3, c4, c5⟩, ⟨l1, l2, l3⟩, ⟨e1, e2, e3, e4⟩, ⟨f1, f2, f3, f4, f5⟩, ⟨r1, r2, r3, r4, r5⟩⟩ := s
 simp only at *
 subst hk
 refine gI oW Tryz.func86 Tryz.results86 ?_
 exact wR trivial h2 ah
theorem Xt (s : Sk) (ok : s.Ok) (h : vSk s = 0) (hk : s.p.k = 6) : Pg.Good Tryz.prog 86 [.agg (skF s)] (fzb (bJ s)) := by
 obtain ⟨_, hp⟩ := gY h
 have eb : bJ s = je s.rk := by simp [bJ, hk]
 unfold fA at hp
 simp only [hk, Int.reduceEq, reduceIte] at hp
 rw [eb]
 have h2 := NV s.rk hp ok.ro ok.rn ok.rm
 generalize je s.rk = B at *
 clear ok eb h hp
 obtain ⟨⟨pk, pz, pd, ps⟩, ⟨t1, t2, t3⟩, ⟨c1, c2, c3, c4, c5⟩, ⟨l1, l2, l3⟩, ⟨e1, e2, e3, e4⟩, ⟨f1, f2, f3, f4, f5⟩, ⟨r1, r2, r3, r4, r5⟩⟩ := s
 simp only at *
 subst hk
 refine gI oW Tryz.func86 Tryz.results86 ?_
 exact wR trivial h2 ah
theorem qx (s : Sk) (ok : s.Ok) : Pg.Good Tryz.prog 30 [.agg (skF s)] (.tup [fzb (bW s), vi (vSk s)]) := by
 by_cases h : vSk s = 0
 ·have hk := rC (gY h).1
  refine Xm s ok h (by omega) ?_
  rcases hk with k | k | k | k | k | k
  ·exact Xn s ok h k
  ·exact Xo s ok h k
  ·exact Xp s ok h k
  ·exact Xq s ok h k
  ·exact Xr s ok h k
  ·exact Xt s ok h k
 ·exact Xl s ok h
theorem abJ (n : Int) (h : 0 ≤ n ∧ n ≤ 18446744073709551615) : IntKind.u64.wrap n = n := IntWalk.u64_in n h
theorem Xu (x c : Nat) (hx : x < 72057594037927936) (hc : c < 256) : bits .or .u64 (IntKind.u64.wrap ((x : Int) * 2 ^ min 8 IntKind.u64.bits)) (c : Int) = ((x * 256 + c : Nat) : Int) := by
 have e : (2 : Int) ^ min 8 IntKind.u64.bits = 256 := rfl
 rw [e, abJ _ (by omega)]
 rw [bits_join .u64 64 (by decide) (fun n h0 h1 => abJ n ⟨h0, by omega⟩) 8 _ _ (by omega) (by omega) (by omega) (by omega) (by omega) (by omega)]
 omega
def acc (l : List Nat) : Nat := l.foldl (fun x c => x * 256 + c) 0
theorem ww (l : List Nat) (c : Nat) : acc (l ++ [c]) = acc l * 256 + c := by simp [acc]
theorem Xv : ∀ (n : Nat) (l : List Nat), l.length = n → oct l → acc l < 256 ^ n := by
 intro n
 induction n with
 | zero => intro l h _; simp at h; subst h; simp [acc]
 | succ n ih =>
  intro l h ho
  rcases List.eq_nil_or_concat l with rfl | ⟨L, b, rfl⟩
  ·simp at h
  ·have h1 := ih L (by simp at h; exact h) (fun x hx => ho x (by simp [hx]))
   have h2 := ho b (by simp)
   rw [List.concat_eq_append, ww, Nat.pow_succ]
   omega
def mid (l : List Nat) (i : Nat) : List Nat := (l.take i).drop 1
theorem Xw {l : List Nat} {i : Nat} (h1 : 1 ≤ i) (h : i < l.length) : mid l (i + 1) = mid l i ++ [l.getD i 0] := by
 unfold mid
 rw [List.take_succ_eq_append_getElem h, List.drop_append_of_le_length (by simp; omega)]
 simp [List.getD, h]
theorem abb {l : List Nat} (h : oct l) (i : Nat) : oct (mid l i) := fun x hx => h x (List.mem_of_mem_take (List.mem_of_mem_drop hx))
theorem Oc {l : List Nat} {i : Nat} (h : i ≤ l.length) : (mid l i).length = i - 1 := by simp [mid]; omega
theorem Oe {l : List Nat} {i : Nat} (ho : oct l) (h : i ≤ l.length) : acc (mid l i) < 256 ^ (i - 1) := Xv _ _ (Oc h) (abb ho i)
theorem abd {l : List Nat} {i k : Nat} (h : i + 1 < k) : (mid l k).getD i 0 = l.getD (i + 1) 0 := by
 simp only [mid, List.getD, List.getElem?_drop, List.getElem?_take, Nat.add_comm 1 i]
 rw [if_pos h]
def aW (l : List Nat) : Nat × Nat × Nat :=
 if l.length = 0 then (0, 0, 3) else
 if l.getD 0 0 < 248 then (l.getD 0 0, 1, 0) else
 if l.length < l.getD 0 0 - 246 then (0, 0, 3) else
 if l.getD 1 0 = 0 ∨ acc (mid l (l.getD 0 0 - 246)) < 248 ∨ 4611686018427387904 < acc (mid l (l.getD 0 0 - 246)) then (0, 0, 2) else (acc (mid l (l.getD 0 0 - 246)), l.getD 0 0 - 246, 0)
def uK (p : Nat × Nat × Nat) : V := .tup [vi (p.1 : Nat), vi (p.2.1 : Nat), vi (p.2.2 : Nat)]
theorem BL (l : List Nat) (i : Nat) : (bv l).take i = bv (l.take i) := by simp [bv]
theorem iq (l : List Nat) (i : Nat) : (bv l).drop i = bv (l.drop i) := by simp [bv]
theorem eQ (l : List Nat) (ho : oct l) (hl : l.length ≤ 2147483648) : Pg.Good Tryz.prog 95 [fzb l] (uK (aW l)) := by
 have hbl := ai l
 unfold aW
 rcases Nat.eq_zero_or_pos l.length with h0 | h0
 ·rw [if_pos h0]
  refine gI oW Tryz.func95 Tryz.results95 ?_
  exact wR @hbl trivial ah
 rw [if_neg (by omega)]
 have hc := iZ ho 0
 have hg0 := lL l 0 h0
 generalize hcd : l.getD 0 0 = c at *
 rcases Nat.lt_or_ge c 248 with h1 | h1
 ·rw [if_pos h1]
  refine gI oW Tryz.func95 Tryz.results95 ?_
  exact wR (aI @hbl @hg0) trivial ah
 rw [if_neg (by omega)]
 obtain ⟨k, rfl⟩ : ∃ k, c = k + 247 := ⟨c - 247, by omega⟩
 have ek : (k : Int) + 247 - 248 + 1 = (k : Int) := by omega
 have ek2 : k + 247 - 246 = k + 1 := by omega
 rw [ek2]
 rcases Nat.lt_or_ge l.length (k + 1) with h2 | h2
 ·rw [if_pos h2]
  refine gI oW Tryz.func95 Tryz.results95 ?_
  exact wR (aI @hbl (aI @hg0 @ek)) trivial ah
 rw [if_neg (by omega)]
 have hml : (mid l (k + 1)).length = k := by rw [Oc h2]; omega
 have hbm := ai (mid l (k + 1))
 rw [hml] at hbm
 have emid : ((bv l).take (1 + k)).drop 1 = bv (mid l (k + 1)) := by rw [BL, iq, Nat.add_comm]; rfl
 have et1 : Int.toNat (1 + (k : Int)) = 1 + k := by omega
 have hg1 := lL l 1 (by omega)
 refine gI oW Tryz.func95 Tryz.results95 ?_
 refine wS (aI @pgv (aI @hbl (aI @hg0 (aI @ek (aI @et1 (aI @emid @hbm)))))) trivial ?_
 have ha1 : acc (mid l 1) = 0 := by
  have := Oe (l := l) (i := 1) ho (by omega)
  simpa using this
 refine bn (fun i : Nat => mkA [(0, fzb l), (5, vi k), (6, .c (.int .u64 (acc (mid l (i + 1)) : Nat))), (34, fzb (mid l (k + 1))), (35, vi k), (36, vi i)] [] 0 (fun _ => .top)) (fun i => i ≤ k) (fun i => k - i) 0 [] [] ?_ (Nat.zero_le _) ?_
 ·(refine aN ?_ ?_ (bG _ _ _) (by decide) (by decide) (by decide) (by decide); (repeat' (first | exact trivial | refine aG _ _ rfl rfl ?_ ?_)); all_goals (try simp only [pgs, pgl, pgx, pgf, pgw, ay, aJ, az, aK, aZ, bV, bD, pgn, simprocAttr]); all_goals (try (repeat' (first | apply aI))); all_goals (try (first | exact trivial | exact au (by omega) | exact aU rfl | exact ak rfl rfl | exact bg rfl)))
  all_goals first | exact aU (by rw [ha1]; rfl) | exact au (by omega) | skip
 ·intro i hi
  replace hi : i ≤ k := hi
  have hb := iZ ho (i + 1)
  have ha := Oe (l := l) (i := i + 1) ho (by omega)
  rw [Nat.add_sub_cancel] at ha
  rcases Nat.lt_or_ge i k with hlt | hge
  ·have hp : 256 ^ i ≤ 256 ^ 7 := Nat.pow_le_pow_right (by omega) (by omega)
   have e5 := abd (l := l) (i := i) (k := k + 1) (by omega)
   have hgi := lL (mid l (k + 1)) i (by omega)
   rw [e5] at hgi
   have e6 : acc (mid l (i + 1)) * 256 + l.getD (i + 1) 0 = acc (mid l (i + 1 + 1)) := by rw [Xw (l := l) (i := i + 1) (by omega) (by omega), ww]
   have e7 := Xu (acc (mid l (i + 1))) (l.getD (i + 1) 0) (by omega) hb
   rw [e6] at e7
   refine wS (aI @hbm (aI @hgi @e7)) trivial ?_
   (refine bu (i + 1) [] [] (hlt) (by first | omega | (simp only [List.length_cons]; omega)) ?_; (refine aN ?_ ?_ (bG _ _ _) (by decide) (by decide) (by decide) (by decide); (repeat' (first | exact trivial | refine aG _ _ rfl rfl ?_ ?_)); all_goals (try simp only [pgs, pgl, pgx, pgf, pgw, ay, aJ, az, aK, aZ, bV, bD, pgn, simprocAttr]); all_goals (try (repeat' (first | apply aI))); all_goals (try (first | exact trivial | exact au (by omega) | exact aU rfl | exact ak rfl rfl | exact bg rfl))))
   all_goals first | exact au (by omega) | skip
  ·have hik : i = k := by omega
   subst hik
   have hp : 256 ^ i ≤ 256 ^ 8 := Nat.pow_le_pow_right (by omega) (by omega)
   have hb1 := iZ ho 1
   generalize acc (mid l (i + 1)) = x at *
   generalize l.getD 1 0 = y at *
   rcases Nat.eq_zero_or_pos y with hy | hy
   ·rw [if_pos (.inl hy)]
    subst hy
    exact wR (aI @hbm (aI @hbl @hg1)) trivial ah
   ·rcases Nat.lt_or_ge x 248 with hx | hx
    ·rw [if_pos (.inr (.inl hx))]
     exact wR (aI @hbm (aI @hbl @hg1)) trivial ah
    ·rcases Nat.lt_or_ge 4611686018427387904 x with hx2 | hx2
     ·rw [if_pos (.inr (.inr hx2))]
      exact wR (aI @hbm (aI @hbl @hg1)) trivial ah
     ·rw [if_neg (by omega)]
      (repeat' first | refine wP (aI @hbm (aI @hbl @hg1)) trivial ?_ | refine tS ?_ ?_ <;> intro hc | fail)
      all_goals (refine rT [] ?_; first | rfl | simp only [pgo, simprocAttr] | skip)
      all_goals first | (show V.tup [vi (x : Nat), vi (1 + (i : Int)), vi 0] = V.tup [vi (x : Nat), vi ((i + 1 : Nat) : Int), vi 0]; rw [show ((i + 1 : Nat) : Int) = 1 + (i : Int) by omega]) | skip
end Go.Proofs.YtaoejnjkmfkbeaaGreat
