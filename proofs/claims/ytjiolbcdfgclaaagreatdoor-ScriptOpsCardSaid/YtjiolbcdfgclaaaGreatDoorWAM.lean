/-
  Texts of this claim, merged; own names are short.
-/
import Derived.Test.YtjiolbcdfgclaaaGreatDoorWAL
import Derived.Test.YtjiolbcdfgclaaaGreatDoorWAK
import Derived.Test.YtjiolbcdfgclaaaGreatDoorWAJ
set_option linter.unusedVariables false
set_option linter.unusedSimpArgs false
set_option linter.unusedSectionVars false
set_option linter.defProp false
set_option maxRecDepth 100000
set_option maxHeartbeats 8000000
namespace Go.Proofs.YtjiolbcdfgclaaaGreatDoor
open Go Go.Pg
def bQ (l : List Int) : Sk := (qj (iO (atN l 0)) (fE (l.drop (min l.length 2)) (atN l 1 % 8)) (df (atN l 9)) (atN l 1 % 8)).1
theorem xn (l : List Int) (n : Nat) : ∀ x ∈ fE l n, oct x.1 := by
 intro x hx
 obtain ⟨i, _, rfl⟩ := List.mem_map.1 hx
 exact (II _).1
theorem EH (l : List Int) : (bQ l).Ok := MH _ (PS _) (SG _) _ (xn _ _) _ _
theorem dh (l : List Int) (n : Nat) : (iv l).drop n = iv (l.drop n) := by simp [iv, List.map_drop]
theorem min2 (a : Nat) : (min (a : Int) 2).toNat = min a 2 := by omega
theorem kX (a b : Nat) : (min (a : Int) (b : Int)).toNat = min a b := by omega
theorem VL (l : List Int) (hl : l.length ≤ 9223372036854775807) : Pg.Good Tryz.prog 37 [fzi l] (.agg (skF (bQ l))) := by
 have a0 := jT l 0 hl (by omega)
 have a1 := jT l 1 hl (by omega)
 have a9 := jT l 9 hl (by omega)
 have b0 := dU l 0
 have b1 := dU l 1
 have b9 := dU l 9
 have h1 := gQ (atN l 0) (by omega)
 have h2 := SE (l.drop (min l.length 2)) (atN l 1 % 8) (by rw [List.length_drop]; omega) (by omega)
 have h3 := iZ ((atN l 9 : Nat) : Int)
 have h4 := ajP (iO (atN l 0)) (PS _) (SG _) (fE (l.drop (min l.length 2)) (atN l 1 % 8)) (by rw [tN]; omega) (xn _ _) (df (atN l 9)) (Gv _).1
 rw [tN] at h4
 have e : (qj (iO (atN l 0)) (fE (l.drop (min l.length 2)) (atN l 1 % 8)) (df (atN l 9)) (atN l 1 % 8)).1 = bQ l := rfl
 rw [e] at h4
 have hil := bP l
 have hdr := dh l (min l.length 2)
 have hmn := min2 l.length
 generalize bQ l = S at *
 generalize iO (atN l 0) = p at *
 generalize fE (l.drop (min l.length 2)) (atN l 1 % 8) = its at *
 generalize df (atN l 9) = co at *
 generalize atN l 0 = n0 at *
 generalize atN l 1 = n1 at *
 generalize atN l 9 = n9 at *
 clear e
 obtain ⟨⟨pk, pz, pd, ps⟩, ⟨t1, t2, t3⟩, ⟨c1, c2, c3, c4, c5⟩, ⟨l1, l2, l3⟩, ⟨e1, e2, e3, e4⟩, ⟨f1, f2, f3, f4, f5⟩, ⟨r1, r2, r3, r4, r5⟩⟩ := S
 obtain ⟨qk, qz, qd, qs⟩ := p
 refine gI oW Tryz.func37 Tryz.results37 ?_
 exact wR (aI @pgv (aI @mmF (aI @hil (aI @hmn (aI @hdr @anB))))) (aI a0 (aI a1 (aI a9 (aI h1 (aI h2 (aI h3 h4)))))) ah
theorem fF (o : O) {a b c d : V} (ha : orN a (fzs o.names)) (hb : orN b (fzt o.items)) (hc : orN c (fzb o.coins)) (hd : orN d (fzb o.data)) : wkV (.agg (opC o a b c d)) (.agg (opF o)) := by
 refine .inr ⟨_, _, rfl, rfl, ?_⟩
 (repeat' (first | exact trivial | refine iV (.inl rfl) ?_ | refine iV (tK ha) ?_ | refine iV (tK hb) ?_ | refine iV (tK hc) ?_ | refine iV (tK hd) ?_))
def opN (n m : Nat) (its : List (List Nat × Int)) (da : List Nat) : O :=
 if n % 20 = 0 ∨ n % 20 = 1 then ⟨1, ae (n / 32), [], [], (iO m).k, (iO m).z, (iO m).d, (iO m).s, [], [], 0, 0, 0, 0, 0, 0, 0, [], 0, 0, 0, []⟩
 else if n % 20 = 2 then ⟨2, ae (n / 32), [], [], 0, 0, 0, 0, [], [], 0, 0, 0, 0, 0, 0, 0, [], 0, 0, 0, []⟩
 else if n % 20 = 3 then ⟨3, ae (n / 32), ae (n / 128), [], 0, 0, 0, 0, [], [], 0, 0, 0, 0, 0, 0, 0, [], 0, 0, 0, []⟩
 else if n % 20 = 4 then ⟨4, [], [], [], 0, 0, 0, 0, [], [], 0, 0, 0, 0, 0, 0, 0, [], 0, 0, 0, []⟩
 else if n % 20 = 5 then ⟨5, ae (n / 32), [], [], 0, 0, 0, 0, [], [], 0, 0, 0, 0, 0, 0, (dA m).1, (dA m).2.1, (dA m).2.2.1, (dA m).2.2.2.1, (dA m).2.2.2.2, []⟩
 else if n % 20 = 6 ∨ n % 20 = 7 ∨ n % 20 = 8 then ⟨6, ae (n / 32), [], [], 0, 0, 0, 0, its, df (m : Int), 0, 0, 0, 0, 0, 0, 0, [], 0, 0, 0, []⟩
 else if n % 20 = 9 then ⟨7, ae (n / 32), ae (n / 128), [], 0, 0, 0, 0, [], df (m : Int), 0, 0, 0, 0, 0, 0, 0, [], 0, 0, 0, []⟩
 else if n % 20 = 10 then ⟨8, ae (n / 32), ae (n / 128), [], 0, 0, 0, 0, [], df (m : Int), 1 + ((m % 8 : Nat) : Int), 1 + ((m / 8 % 8 : Nat) : Int), 0, 0, 0, 0, 0, [], 0, 0, 0, []⟩
 else if n % 20 = 11 ∨ n % 20 = 12 then ⟨9, [], [], [ae (n / 32), ae (n / 128), ae (n / 256)].take (1 + n / 1024 % 2 + n / 2048 % 2), 0, 0, 0, 0, [], [], 0, 0, 0, 0, 0, 0, 0, [], 0, 0, 0, []⟩
 else if n % 20 = 13 then ⟨10, [], [], [], 0, 0, 0, 0, [], [], 0, 0, ((n / 32 % 2 : Nat) : Int), ((n / 64 % 2 : Nat) : Int), 0, 0, (dA m).1, (dA m).2.1, (dA m).2.2.1, (dA m).2.2.2.1, (dA m).2.2.2.2, []⟩
 else if n % 20 = 14 then ⟨11, [], [], [], 0, 0, 0, 0, [], [], 0, 0, ((n / 32 % 2 : Nat) : Int), 0, 0, 0, 0, [], 0, 0, 0, []⟩
 else if n % 20 = 15 then ⟨12, [], [], [], 0, 0, 0, 0, [], [], 0, 0, ((n / 32 % 2 : Nat) : Int), ((n / 64 % 2 : Nat) : Int), 0, 0, 0, [], 0, 0, 0, []⟩
 else if n % 20 = 16 then ⟨13, [], [], [], 0, 0, 0, 0, [], [], 0, 0, 0, 0, ((n / 32 % 2 : Nat) : Int), ((n / 64 % 4 : Nat) : Int), 0, [], 0, 0, 0, []⟩
 else if n % 20 = 17 then ⟨14, [], [], [], 0, 0, 0, 0, [], [], 0, 0, 0, 0, ((n / 32 % 2 : Nat) : Int), 0, 0, [], 0, 0, 0, []⟩
 else if n % 20 = 18 ∧ n / 32 % 2 = 1 then ⟨15, [], [], [], 0, 0, 0, 0, [], [], 0, 0, ((n / 64 % 2 : Nat) : Int), ((n / 128 % 2 : Nat) : Int), 0, 0, 0, [], 0, 0, 0, []⟩
 else if n % 20 = 18 ∧ n / 32 % 2 = 0 then ⟨16, ae (n / 64), [], [], 0, 0, 0, 0, [], [], 0, 0, 0, 0, 0, 0, 0, [], 0, 0, 0, da⟩
 else ⟨17, [], [], [], 0, 0, 0, 0, [], [], 0, 0, 0, 0, 0, 0, 0, [], 0, 0, 0, []⟩
theorem vH (n : Nat) : Int.tmod (n : Int) 20 = ((n % 20 : Nat) : Int) := rfl
theorem tm5 (n : Nat) : Int.tmod (n : Int) 5 = ((n % 5 : Nat) : Int) := rfl
theorem jg (a b c : List Nat) (k : Nat) : (sv [a, b, c]).take k = sv ([a, b, c].take k) := by simp [sv, List.map_take]
theorem nY (a b c : List Nat) : [vs a, vs b, vs c] = sv [a, b, c] := rfl
theorem kQ (a b c : List Nat) : V.idsL (sv [a, b, c]) = [] := rfl
theorem kR (a b c : List Nat) : (sv [a, b, c]).length = 3 := rfl
def jl (l : List Int) (i : Nat) : O := opN (atN l i) (atN l (i + 7)) (fE (l.drop (min l.length (i % 5))) (1 + atN l i / 128 % 8)) (qm (bQ (l.drop (min l.length (i % 7)))))
theorem abR (l : List Int) (i : Nat) (hl : l.length ≤ 9223372036854775807) (hi : i ≤ 1000) (hc : atN l i % 20 = 0 ∨ atN l i % 20 = 1) : Pg.Good Tryz.prog 12 [fzi l, vi i] (.agg (opF (jl l i))) := by
 have a0 := jT l i hl (by omega)
 have a7 := jT l (i + 7) hl (by omega)
 have b0 := dU l i
 have b7 := dU l (i + 7)
 unfold jl
 generalize hits : fE (l.drop (min l.length (i % 5))) (1 + atN l i / 128 % 8) = its at *
 generalize hda : qm (bQ (l.drop (min l.length (i % 7)))) = da at *
 generalize bQ (l.drop (min l.length (i % 7))) = S at *
 generalize atN l i = n at *
 generalize atN l (i + 7) = m at *
 have e := vH n
 have hil := bP l
 have e5 := tm5 i
 have e7 := tm7 i
 have d5 := dh l (min l.length (i % 5))
 have d7 := dh l (min l.length (i % 7))
 have m5 := kX l.length (i % 5)
 have m7 := kX l.length (i % 7)
 have n5 := aQ (n / 32) (by omega)
 have n6 := aQ (n / 64) (by omega)
 have n7 := aQ (n / 128) (by omega)
 have n8 := aQ (n / 256) (by omega)
 have hp := gQ m (by omega)
 have hq := ja m (by omega)
 have hco := iZ (m : Int)
 have t3 := jg (ae (n / 32)) (ae (n / 128)) (ae (n / 256))
 have s3 := nY (ae (n / 32)) (ae (n / 128)) (ae (n / 256))
 have l3 := kR (ae (n / 32)) (ae (n / 128)) (ae (n / 256))
 have i3 := kQ (ae (n / 32)) (ae (n / 128)) (ae (n / 256))
 have eo : opN n m its da = ⟨1, ae (n / 32), [], [], (iO m).k, (iO m).z, (iO m).d, (iO m).s, [], [], 0, 0, 0, 0, 0, 0, 0, [], 0, 0, 0, []⟩ := by
  unfold opN
  (repeat' (first | rw [if_pos (by omega)] | rw [if_neg (by omega)]))
 rw [eo]
 refine Good.fzr (r := .agg (opC ⟨1, ae (n / 32), [], [], (iO m).k, (iO m).z, (iO m).d, (iO m).s, [], [], 0, 0, 0, 0, 0, 0, 0, [], 0, 0, 0, []⟩ nls nls nls nls)) ?_ rfl (fF ⟨1, ae (n / 32), [], [], (iO m).k, (iO m).z, (iO m).d, (iO m).s, [], [], 0, 0, 0, 0, 0, 0, 0, [], 0, 0, 0, []⟩ (aj _) (aj _) (aj _) (aj _))
 clear eo
 generalize iO m = p at *
 generalize dA m = q at *
 generalize df (m : Int) = co at *
 obtain ⟨p1, p2, p3, p4⟩ := p
 obtain ⟨q1, q2, q3, q4, q5⟩ := q
 rcases hc with hc | hc
 all_goals
  simp only [hc] at e
  refine gI oW Tryz.func12 Tryz.results12 ?_
  exact wR (aI @pgv (aI @mmF (aI @hil (aI @e (aI @shB (aI @anB @ai)))))) (aI a0 (aI a7 (aI n5 hp))) ah
theorem ajQ (l : List Int) (i : Nat) (hl : l.length ≤ 9223372036854775807) (hi : i ≤ 1000) (hc : atN l i % 20 = 2) : Pg.Good Tryz.prog 12 [fzi l, vi i] (.agg (opF (jl l i))) := by
 have a0 := jT l i hl (by omega)
 have a7 := jT l (i + 7) hl (by omega)
 have b0 := dU l i
 have b7 := dU l (i + 7)
 unfold jl
 generalize hits : fE (l.drop (min l.length (i % 5))) (1 + atN l i / 128 % 8) = its at *
 generalize hda : qm (bQ (l.drop (min l.length (i % 7)))) = da at *
 generalize bQ (l.drop (min l.length (i % 7))) = S at *
 generalize atN l i = n at *
 generalize atN l (i + 7) = m at *
 have e := vH n
 have hil := bP l
 have e5 := tm5 i
 have e7 := tm7 i
 have d5 := dh l (min l.length (i % 5))
 have d7 := dh l (min l.length (i % 7))
 have m5 := kX l.length (i % 5)
 have m7 := kX l.length (i % 7)
 have n5 := aQ (n / 32) (by omega)
 have n6 := aQ (n / 64) (by omega)
 have n7 := aQ (n / 128) (by omega)
 have n8 := aQ (n / 256) (by omega)
 have hp := gQ m (by omega)
 have hq := ja m (by omega)
 have hco := iZ (m : Int)
 have t3 := jg (ae (n / 32)) (ae (n / 128)) (ae (n / 256))
 have s3 := nY (ae (n / 32)) (ae (n / 128)) (ae (n / 256))
 have l3 := kR (ae (n / 32)) (ae (n / 128)) (ae (n / 256))
 have i3 := kQ (ae (n / 32)) (ae (n / 128)) (ae (n / 256))
 have eo : opN n m its da = ⟨2, ae (n / 32), [], [], 0, 0, 0, 0, [], [], 0, 0, 0, 0, 0, 0, 0, [], 0, 0, 0, []⟩ := by
  unfold opN
  (repeat' (first | rw [if_pos (by omega)] | rw [if_neg (by omega)]))
 rw [eo]
 refine Good.fzr (r := .agg (opC ⟨2, ae (n / 32), [], [], 0, 0, 0, 0, [], [], 0, 0, 0, 0, 0, 0, 0, [], 0, 0, 0, []⟩ nls nls nls nls)) ?_ rfl (fF ⟨2, ae (n / 32), [], [], 0, 0, 0, 0, [], [], 0, 0, 0, 0, 0, 0, 0, [], 0, 0, 0, []⟩ (aj _) (aj _) (aj _) (aj _))
 clear eo
 generalize iO m = p at *
 generalize dA m = q at *
 generalize df (m : Int) = co at *
 obtain ⟨p1, p2, p3, p4⟩ := p
 obtain ⟨q1, q2, q3, q4, q5⟩ := q
 all_goals
  simp only [hc] at e
  refine gI oW Tryz.func12 Tryz.results12 ?_
  exact wR (aI @pgv (aI @mmF (aI @hil (aI @e (aI @shB (aI @anB @ai)))))) (aI a0 (aI a7 n5)) ah
theorem ajR (l : List Int) (i : Nat) (hl : l.length ≤ 9223372036854775807) (hi : i ≤ 1000) (hc : atN l i % 20 = 3) : Pg.Good Tryz.prog 12 [fzi l, vi i] (.agg (opF (jl l i))) := by
 have a0 := jT l i hl (by omega)
 have a7 := jT l (i + 7) hl (by omega)
 have b0 := dU l i
 have b7 := dU l (i + 7)
 unfold jl
 generalize hits : fE (l.drop (min l.length (i % 5))) (1 + atN l i / 128 % 8) = its at *
 generalize hda : qm (bQ (l.drop (min l.length (i % 7)))) = da at *
 generalize bQ (l.drop (min l.length (i % 7))) = S at *
 generalize atN l i = n at *
 generalize atN l (i + 7) = m at *
 have e := vH n
 have hil := bP l
 have e5 := tm5 i
 have e7 := tm7 i
 have d5 := dh l (min l.length (i % 5))
 have d7 := dh l (min l.length (i % 7))
 have m5 := kX l.length (i % 5)
 have m7 := kX l.length (i % 7)
 have n5 := aQ (n / 32) (by omega)
 have n6 := aQ (n / 64) (by omega)
 have n7 := aQ (n / 128) (by omega)
 have n8 := aQ (n / 256) (by omega)
 have hp := gQ m (by omega)
 have hq := ja m (by omega)
 have hco := iZ (m : Int)
 have t3 := jg (ae (n / 32)) (ae (n / 128)) (ae (n / 256))
 have s3 := nY (ae (n / 32)) (ae (n / 128)) (ae (n / 256))
 have l3 := kR (ae (n / 32)) (ae (n / 128)) (ae (n / 256))
 have i3 := kQ (ae (n / 32)) (ae (n / 128)) (ae (n / 256))
 have eo : opN n m its da = ⟨3, ae (n / 32), ae (n / 128), [], 0, 0, 0, 0, [], [], 0, 0, 0, 0, 0, 0, 0, [], 0, 0, 0, []⟩ := by
  unfold opN
  (repeat' (first | rw [if_pos (by omega)] | rw [if_neg (by omega)]))
 rw [eo]
 refine Good.fzr (r := .agg (opC ⟨3, ae (n / 32), ae (n / 128), [], 0, 0, 0, 0, [], [], 0, 0, 0, 0, 0, 0, 0, [], 0, 0, 0, []⟩ nls nls nls nls)) ?_ rfl (fF ⟨3, ae (n / 32), ae (n / 128), [], 0, 0, 0, 0, [], [], 0, 0, 0, 0, 0, 0, 0, [], 0, 0, 0, []⟩ (aj _) (aj _) (aj _) (aj _))
 clear eo
 generalize iO m = p at *
 generalize dA m = q at *
 generalize df (m : Int) = co at *
 obtain ⟨p1, p2, p3, p4⟩ := p
 obtain ⟨q1, q2, q3, q4, q5⟩ := q
 all_goals
  simp only [hc] at e
  refine gI oW Tryz.func12 Tryz.results12 ?_
  exact wR (aI @pgv (aI @mmF (aI @hil (aI @e (aI @shB (aI @anB @ai)))))) (aI a0 (aI a7 (aI n5 n7))) ah
theorem ajS (l : List Int) (i : Nat) (hl : l.length ≤ 9223372036854775807) (hi : i ≤ 1000) (hc : atN l i % 20 = 4) : Pg.Good Tryz.prog 12 [fzi l, vi i] (.agg (opF (jl l i))) := by
 have a0 := jT l i hl (by omega)
 have a7 := jT l (i + 7) hl (by omega)
 have b0 := dU l i
 have b7 := dU l (i + 7)
 unfold jl
 generalize hits : fE (l.drop (min l.length (i % 5))) (1 + atN l i / 128 % 8) = its at *
 generalize hda : qm (bQ (l.drop (min l.length (i % 7)))) = da at *
 generalize bQ (l.drop (min l.length (i % 7))) = S at *
 generalize atN l i = n at *
 generalize atN l (i + 7) = m at *
 have e := vH n
 have hil := bP l
 have e5 := tm5 i
 have e7 := tm7 i
 have d5 := dh l (min l.length (i % 5))
 have d7 := dh l (min l.length (i % 7))
 have m5 := kX l.length (i % 5)
 have m7 := kX l.length (i % 7)
 have n5 := aQ (n / 32) (by omega)
 have n6 := aQ (n / 64) (by omega)
 have n7 := aQ (n / 128) (by omega)
 have n8 := aQ (n / 256) (by omega)
 have hp := gQ m (by omega)
 have hq := ja m (by omega)
 have hco := iZ (m : Int)
 have t3 := jg (ae (n / 32)) (ae (n / 128)) (ae (n / 256))
 have s3 := nY (ae (n / 32)) (ae (n / 128)) (ae (n / 256))
 have l3 := kR (ae (n / 32)) (ae (n / 128)) (ae (n / 256))
 have i3 := kQ (ae (n / 32)) (ae (n / 128)) (ae (n / 256))
 have eo : opN n m its da = ⟨4, [], [], [], 0, 0, 0, 0, [], [], 0, 0, 0, 0, 0, 0, 0, [], 0, 0, 0, []⟩ := by
  unfold opN
  (repeat' (first | rw [if_pos (by omega)] | rw [if_neg (by omega)]))
 rw [eo]
 refine Good.fzr (r := .agg (opC ⟨4, [], [], [], 0, 0, 0, 0, [], [], 0, 0, 0, 0, 0, 0, 0, [], 0, 0, 0, []⟩ nls nls nls nls)) ?_ rfl (fF ⟨4, [], [], [], 0, 0, 0, 0, [], [], 0, 0, 0, 0, 0, 0, 0, [], 0, 0, 0, []⟩ (aj _) (aj _) (aj _) (aj _))
 clear eo
 generalize iO m = p at *
 generalize dA m = q at *
 generalize df (m : Int) = co at *
 obtain ⟨p1, p2, p3, p4⟩ := p
 obtain ⟨q1, q2, q3, q4, q5⟩ := q
 all_goals
  simp only [hc] at e
  refine gI oW Tryz.func12 Tryz.results12 ?_
  exact wR (aI @pgv (aI @mmF (aI @hil (aI @e (aI @shB (aI @anB @ai)))))) (aI a0 a7) ah
theorem ajT (l : List Int) (i : Nat) (hl : l.length ≤ 9223372036854775807) (hi : i ≤ 1000) (hc : atN l i % 20 = 5) : Pg.Good Tryz.prog 12 [fzi l, vi i] (.agg (opF (jl l i))) := by
 have a0 := jT l i hl (by omega)
 have a7 := jT l (i + 7) hl (by omega)
 have b0 := dU l i
 have b7 := dU l (i + 7)
 unfold jl
 generalize hits : fE (l.drop (min l.length (i % 5))) (1 + atN l i / 128 % 8) = its at *
 generalize hda : qm (bQ (l.drop (min l.length (i % 7)))) = da at *
 generalize bQ (l.drop (min l.length (i % 7))) = S at *
 generalize atN l i = n at *
 generalize atN l (i + 7) = m at *
 have e := vH n
 have hil := bP l
 have e5 := tm5 i
 have e7 := tm7 i
 have d5 := dh l (min l.length (i % 5))
 have d7 := dh l (min l.length (i % 7))
 have m5 := kX l.length (i % 5)
 have m7 := kX l.length (i % 7)
 have n5 := aQ (n / 32) (by omega)
 have n6 := aQ (n / 64) (by omega)
 have n7 := aQ (n / 128) (by omega)
 have n8 := aQ (n / 256) (by omega)
 have hp := gQ m (by omega)
 have hq := ja m (by omega)
 have hco := iZ (m : Int)
 have t3 := jg (ae (n / 32)) (ae (n / 128)) (ae (n / 256))
 have s3 := nY (ae (n / 32)) (ae (n / 128)) (ae (n / 256))
 have l3 := kR (ae (n / 32)) (ae (n / 128)) (ae (n / 256))
 have i3 := kQ (ae (n / 32)) (ae (n / 128)) (ae (n / 256))
 have eo : opN n m its da = ⟨5, ae (n / 32), [], [], 0, 0, 0, 0, [], [], 0, 0, 0, 0, 0, 0, (dA m).1, (dA m).2.1, (dA m).2.2.1, (dA m).2.2.2.1, (dA m).2.2.2.2, []⟩ := by
  unfold opN
  (repeat' (first | rw [if_pos (by omega)] | rw [if_neg (by omega)]))
 rw [eo]
 refine Good.fzr (r := .agg (opC ⟨5, ae (n / 32), [], [], 0, 0, 0, 0, [], [], 0, 0, 0, 0, 0, 0, (dA m).1, (dA m).2.1, (dA m).2.2.1, (dA m).2.2.2.1, (dA m).2.2.2.2, []⟩ nls nls nls nls)) ?_ rfl (fF ⟨5, ae (n / 32), [], [], 0, 0, 0, 0, [], [], 0, 0, 0, 0, 0, 0, (dA m).1, (dA m).2.1, (dA m).2.2.1, (dA m).2.2.2.1, (dA m).2.2.2.2, []⟩ (aj _) (aj _) (aj _) (aj _))
 clear eo
 generalize iO m = p at *
 generalize dA m = q at *
 generalize df (m : Int) = co at *
 obtain ⟨p1, p2, p3, p4⟩ := p
 obtain ⟨q1, q2, q3, q4, q5⟩ := q
 all_goals
  simp only [hc] at e
  refine gI oW Tryz.func12 Tryz.results12 ?_
  exact wR (aI @pgv (aI @mmF (aI @hil (aI @e (aI @shB (aI @anB @ai)))))) (aI a0 (aI a7 (aI n5 hq))) ah
theorem PV (l : List Int) (i : Nat) (hl : l.length ≤ 9223372036854775807) (hi : i ≤ 1000) (hc : atN l i % 20 = 6 ∨ atN l i % 20 = 7 ∨ atN l i % 20 = 8) : Pg.Good Tryz.prog 12 [fzi l, vi i] (.agg (opF (jl l i))) := by
 have a0 := jT l i hl (by omega)
 have a7 := jT l (i + 7) hl (by omega)
 have b0 := dU l i
 have b7 := dU l (i + 7)
 have h1 := SE (l.drop (min l.length (i % 5))) (1 + atN l i / 128 % 8) (by rw [List.length_drop]; omega) (by omega)
 unfold jl
 generalize hits : fE (l.drop (min l.length (i % 5))) (1 + atN l i / 128 % 8) = its at *
 generalize hda : qm (bQ (l.drop (min l.length (i % 7)))) = da at *
 generalize bQ (l.drop (min l.length (i % 7))) = S at *
 generalize atN l i = n at *
 generalize atN l (i + 7) = m at *
 have e := vH n
 have hil := bP l
 have e5 := tm5 i
 have e7 := tm7 i
 have d5 := dh l (min l.length (i % 5))
 have d7 := dh l (min l.length (i % 7))
 have m5 := kX l.length (i % 5)
 have m7 := kX l.length (i % 7)
 have n5 := aQ (n / 32) (by omega)
 have n6 := aQ (n / 64) (by omega)
 have n7 := aQ (n / 128) (by omega)
 have n8 := aQ (n / 256) (by omega)
 have hp := gQ m (by omega)
 have hq := ja m (by omega)
 have hco := iZ (m : Int)
 have t3 := jg (ae (n / 32)) (ae (n / 128)) (ae (n / 256))
 have s3 := nY (ae (n / 32)) (ae (n / 128)) (ae (n / 256))
 have l3 := kR (ae (n / 32)) (ae (n / 128)) (ae (n / 256))
 have i3 := kQ (ae (n / 32)) (ae (n / 128)) (ae (n / 256))
 have eo : opN n m its da = ⟨6, ae (n / 32), [], [], 0, 0, 0, 0, its, df (m : Int), 0, 0, 0, 0, 0, 0, 0, [], 0, 0, 0, []⟩ := by
  unfold opN
  (repeat' (first | rw [if_pos (by omega)] | rw [if_neg (by omega)]))
 rw [eo]
 refine Good.fzr (r := .agg (opC ⟨6, ae (n / 32), [], [], 0, 0, 0, 0, its, df (m : Int), 0, 0, 0, 0, 0, 0, 0, [], 0, 0, 0, []⟩ nls (fzt its) (fzb (df (m : Int))) nls)) ?_ rfl (fF ⟨6, ae (n / 32), [], [], 0, 0, 0, 0, its, df (m : Int), 0, 0, 0, 0, 0, 0, 0, [], 0, 0, 0, []⟩ (aj _) (cu _) (cu _) (aj _))
 clear eo
 generalize iO m = p at *
 generalize dA m = q at *
 generalize df (m : Int) = co at *
 obtain ⟨p1, p2, p3, p4⟩ := p
 obtain ⟨q1, q2, q3, q4, q5⟩ := q
 rcases hc with hc | hc | hc
 all_goals
  simp only [hc] at e
  refine gI oW Tryz.func12 Tryz.results12 ?_
  exact wR (aI @pgv (aI @mmF (aI @hil (aI @e (aI @shB (aI @anB (aI @ai (aI @e5 (aI @d5 @m5))))))))) (aI a0 (aI a7 (aI n5 (aI h1 hco)))) ah
theorem ajU (l : List Int) (i : Nat) (hl : l.length ≤ 9223372036854775807) (hi : i ≤ 1000) (hc : atN l i % 20 = 9) : Pg.Good Tryz.prog 12 [fzi l, vi i] (.agg (opF (jl l i))) := by
 have a0 := jT l i hl (by omega)
 have a7 := jT l (i + 7) hl (by omega)
 have b0 := dU l i
 have b7 := dU l (i + 7)
 unfold jl
 generalize hits : fE (l.drop (min l.length (i % 5))) (1 + atN l i / 128 % 8) = its at *
 generalize hda : qm (bQ (l.drop (min l.length (i % 7)))) = da at *
 generalize bQ (l.drop (min l.length (i % 7))) = S at *
 generalize atN l i = n at *
 generalize atN l (i + 7) = m at *
 have e := vH n
 have hil := bP l
 have e5 := tm5 i
 have e7 := tm7 i
 have d5 := dh l (min l.length (i % 5))
 have d7 := dh l (min l.length (i % 7))
 have m5 := kX l.length (i % 5)
 have m7 := kX l.length (i % 7)
 have n5 := aQ (n / 32) (by omega)
 have n6 := aQ (n / 64) (by omega)
 have n7 := aQ (n / 128) (by omega)
 have n8 := aQ (n / 256) (by omega)
 have hp := gQ m (by omega)
 have hq := ja m (by omega)
 have hco := iZ (m : Int)
 have t3 := jg (ae (n / 32)) (ae (n / 128)) (ae (n / 256))
 have s3 := nY (ae (n / 32)) (ae (n / 128)) (ae (n / 256))
 have l3 := kR (ae (n / 32)) (ae (n / 128)) (ae (n / 256))
 have i3 := kQ (ae (n / 32)) (ae (n / 128)) (ae (n / 256))
 have eo : opN n m its da = ⟨7, ae (n / 32), ae (n / 128), [], 0, 0, 0, 0, [], df (m : Int), 0, 0, 0, 0, 0, 0, 0, [], 0, 0, 0, []⟩ := by
  unfold opN
  (repeat' (first | rw [if_pos (by omega)] | rw [if_neg (by omega)]))
 rw [eo]
 refine Good.fzr (r := .agg (opC ⟨7, ae (n / 32), ae (n / 128), [], 0, 0, 0, 0, [], df (m : Int), 0, 0, 0, 0, 0, 0, 0, [], 0, 0, 0, []⟩ nls nls (fzb (df (m : Int))) nls)) ?_ rfl (fF ⟨7, ae (n / 32), ae (n / 128), [], 0, 0, 0, 0, [], df (m : Int), 0, 0, 0, 0, 0, 0, 0, [], 0, 0, 0, []⟩ (aj _) (aj _) (cu _) (aj _))
 clear eo
 generalize iO m = p at *
 generalize dA m = q at *
 generalize df (m : Int) = co at *
 obtain ⟨p1, p2, p3, p4⟩ := p
 obtain ⟨q1, q2, q3, q4, q5⟩ := q
 all_goals
  simp only [hc] at e
  refine gI oW Tryz.func12 Tryz.results12 ?_
  exact wR (aI @pgv (aI @mmF (aI @hil (aI @e (aI @shB (aI @anB @ai)))))) (aI a0 (aI a7 (aI n5 (aI n7 hco)))) ah
theorem ajV (l : List Int) (i : Nat) (hl : l.length ≤ 9223372036854775807) (hi : i ≤ 1000) (hc : atN l i % 20 = 10) : Pg.Good Tryz.prog 12 [fzi l, vi i] (.agg (opF (jl l i))) := by
 have a0 := jT l i hl (by omega)
 have a7 := jT l (i + 7) hl (by omega)
 have b0 := dU l i
 have b7 := dU l (i + 7)
 unfold jl
 generalize hits : fE (l.drop (min l.length (i % 5))) (1 + atN l i / 128 % 8) = its at *
 generalize hda : qm (bQ (l.drop (min l.length (i % 7)))) = da at *
 generalize bQ (l.drop (min l.length (i % 7))) = S at *
 generalize atN l i = n at *
 generalize atN l (i + 7) = m at *
 have e := vH n
 have hil := bP l
 have e5 := tm5 i
 have e7 := tm7 i
 have d5 := dh l (min l.length (i % 5))
 have d7 := dh l (min l.length (i % 7))
 have m5 := kX l.length (i % 5)
 have m7 := kX l.length (i % 7)
 have n5 := aQ (n / 32) (by omega)
 have n6 := aQ (n / 64) (by omega)
 have n7 := aQ (n / 128) (by omega)
 have n8 := aQ (n / 256) (by omega)
 have hp := gQ m (by omega)
 have hq := ja m (by omega)
 have hco := iZ (m : Int)
 have t3 := jg (ae (n / 32)) (ae (n / 128)) (ae (n / 256))
 have s3 := nY (ae (n / 32)) (ae (n / 128)) (ae (n / 256))
 have l3 := kR (ae (n / 32)) (ae (n / 128)) (ae (n / 256))
 have i3 := kQ (ae (n / 32)) (ae (n / 128)) (ae (n / 256))
 have eo : opN n m its da = ⟨8, ae (n / 32), ae (n / 128), [], 0, 0, 0, 0, [], df (m : Int), 1 + ((m % 8 : Nat) : Int), 1 + ((m / 8 % 8 : Nat) : Int), 0, 0, 0, 0, 0, [], 0, 0, 0, []⟩ := by
  unfold opN
  (repeat' (first | rw [if_pos (by omega)] | rw [if_neg (by omega)]))
 rw [eo]
 refine Good.fzr (r := .agg (opC ⟨8, ae (n / 32), ae (n / 128), [], 0, 0, 0, 0, [], df (m : Int), 1 + ((m % 8 : Nat) : Int), 1 + ((m / 8 % 8 : Nat) : Int), 0, 0, 0, 0, 0, [], 0, 0, 0, []⟩ nls nls (fzb (df (m : Int))) nls)) ?_ rfl (fF ⟨8, ae (n / 32), ae (n / 128), [], 0, 0, 0, 0, [], df (m : Int), 1 + ((m % 8 : Nat) : Int), 1 + ((m / 8 % 8 : Nat) : Int), 0, 0, 0, 0, 0, [], 0, 0, 0, []⟩ (aj _) (aj _) (cu _) (aj _))
 clear eo
 generalize iO m = p at *
 generalize dA m = q at *
 generalize df (m : Int) = co at *
 obtain ⟨p1, p2, p3, p4⟩ := p
 obtain ⟨q1, q2, q3, q4, q5⟩ := q
 all_goals
  simp only [hc] at e
  refine gI oW Tryz.func12 Tryz.results12 ?_
  exact wR (aI @pgv (aI @mmF (aI @hil (aI @e (aI @shB (aI @anB @ai)))))) (aI a0 (aI a7 (aI n5 (aI n7 hco)))) ah
theorem abS (l : List Int) (i : Nat) (hl : l.length ≤ 9223372036854775807) (hi : i ≤ 1000) (hc : atN l i % 20 = 11 ∨ atN l i % 20 = 12) : Pg.Good Tryz.prog 12 [fzi l, vi i] (.agg (opF (jl l i))) := by
 have a0 := jT l i hl (by omega)
 have a7 := jT l (i + 7) hl (by omega)
 have b0 := dU l i
 have b7 := dU l (i + 7)
 unfold jl
 generalize hits : fE (l.drop (min l.length (i % 5))) (1 + atN l i / 128 % 8) = its at *
 generalize hda : qm (bQ (l.drop (min l.length (i % 7)))) = da at *
 generalize bQ (l.drop (min l.length (i % 7))) = S at *
 generalize atN l i = n at *
 generalize atN l (i + 7) = m at *
 have e := vH n
 have hil := bP l
 have e5 := tm5 i
 have e7 := tm7 i
 have d5 := dh l (min l.length (i % 5))
 have d7 := dh l (min l.length (i % 7))
 have m5 := kX l.length (i % 5)
 have m7 := kX l.length (i % 7)
 have n5 := aQ (n / 32) (by omega)
 have n6 := aQ (n / 64) (by omega)
 have n7 := aQ (n / 128) (by omega)
 have n8 := aQ (n / 256) (by omega)
 have hp := gQ m (by omega)
 have hq := ja m (by omega)
 have hco := iZ (m : Int)
 have t3 := jg (ae (n / 32)) (ae (n / 128)) (ae (n / 256))
 have s3 := nY (ae (n / 32)) (ae (n / 128)) (ae (n / 256))
 have l3 := kR (ae (n / 32)) (ae (n / 128)) (ae (n / 256))
 have i3 := kQ (ae (n / 32)) (ae (n / 128)) (ae (n / 256))
 have eo : opN n m its da = ⟨9, [], [], [ae (n / 32), ae (n / 128), ae (n / 256)].take (1 + n / 1024 % 2 + n / 2048 % 2), 0, 0, 0, 0, [], [], 0, 0, 0, 0, 0, 0, 0, [], 0, 0, 0, []⟩ := by
  unfold opN
  (repeat' (first | rw [if_pos (by omega)] | rw [if_neg (by omega)]))
 rw [eo]
 refine Good.fzr (r := .agg (opC ⟨9, [], [], [ae (n / 32), ae (n / 128), ae (n / 256)].take (1 + n / 1024 % 2 + n / 2048 % 2), 0, 0, 0, 0, [], [], 0, 0, 0, 0, 0, 0, 0, [], 0, 0, 0, []⟩ (fzs ([ae (n / 32), ae (n / 128), ae (n / 256)].take (1 + n / 1024 % 2 + n / 2048 % 2))) nls nls nls)) ?_ rfl (fF ⟨9, [], [], [ae (n / 32), ae (n / 128), ae (n / 256)].take (1 + n / 1024 % 2 + n / 2048 % 2), 0, 0, 0, 0, [], [], 0, 0, 0, 0, 0, 0, 0, [], 0, 0, 0, []⟩ (cu _) (aj _) (aj _) (aj _))
 clear eo
 generalize iO m = p at *
 generalize dA m = q at *
 generalize df (m : Int) = co at *
 obtain ⟨p1, p2, p3, p4⟩ := p
 obtain ⟨q1, q2, q3, q4, q5⟩ := q
 rcases hc with hc | hc
 all_goals
  simp only [hc] at e
  refine gI oW Tryz.func12 Tryz.results12 ?_
  exact wR (aI @pgv (aI @mmF (aI @hil (aI @e (aI @shB (aI @anB (aI @ai (aI @t3 (aI @s3 (aI @l3 (aI @i3 @id_eq.{1}))))))))))) (aI a0 (aI a7 (aI n5 (aI n7 n8)))) ah
theorem ajW (l : List Int) (i : Nat) (hl : l.length ≤ 9223372036854775807) (hi : i ≤ 1000) (hc : atN l i % 20 = 13) : Pg.Good Tryz.prog 12 [fzi l, vi i] (.agg (opF (jl l i))) := by
 have a0 := jT l i hl (by omega)
 have a7 := jT l (i + 7) hl (by omega)
 have b0 := dU l i
 have b7 := dU l (i + 7)
 unfold jl
 generalize hits : fE (l.drop (min l.length (i % 5))) (1 + atN l i / 128 % 8) = its at *
 generalize hda : qm (bQ (l.drop (min l.length (i % 7)))) = da at *
 generalize bQ (l.drop (min l.length (i % 7))) = S at *
 generalize atN l i = n at *
 generalize atN l (i + 7) = m at *
 have e := vH n
 have hil := bP l
 have e5 := tm5 i
 have e7 := tm7 i
 have d5 := dh l (min l.length (i % 5))
 have d7 := dh l (min l.length (i % 7))
 have m5 := kX l.length (i % 5)
 have m7 := kX l.length (i % 7)
 have n5 := aQ (n / 32) (by omega)
 have n6 := aQ (n / 64) (by omega)
 have n7 := aQ (n / 128) (by omega)
 have n8 := aQ (n / 256) (by omega)
 have hp := gQ m (by omega)
 have hq := ja m (by omega)
 have hco := iZ (m : Int)
 have t3 := jg (ae (n / 32)) (ae (n / 128)) (ae (n / 256))
 have s3 := nY (ae (n / 32)) (ae (n / 128)) (ae (n / 256))
 have l3 := kR (ae (n / 32)) (ae (n / 128)) (ae (n / 256))
 have i3 := kQ (ae (n / 32)) (ae (n / 128)) (ae (n / 256))
 have eo : opN n m its da = ⟨10, [], [], [], 0, 0, 0, 0, [], [], 0, 0, ((n / 32 % 2 : Nat) : Int), ((n / 64 % 2 : Nat) : Int), 0, 0, (dA m).1, (dA m).2.1, (dA m).2.2.1, (dA m).2.2.2.1, (dA m).2.2.2.2, []⟩ := by
  unfold opN
  (repeat' (first | rw [if_pos (by omega)] | rw [if_neg (by omega)]))
 rw [eo]
 refine Good.fzr (r := .agg (opC ⟨10, [], [], [], 0, 0, 0, 0, [], [], 0, 0, ((n / 32 % 2 : Nat) : Int), ((n / 64 % 2 : Nat) : Int), 0, 0, (dA m).1, (dA m).2.1, (dA m).2.2.1, (dA m).2.2.2.1, (dA m).2.2.2.2, []⟩ nls nls nls nls)) ?_ rfl (fF ⟨10, [], [], [], 0, 0, 0, 0, [], [], 0, 0, ((n / 32 % 2 : Nat) : Int), ((n / 64 % 2 : Nat) : Int), 0, 0, (dA m).1, (dA m).2.1, (dA m).2.2.1, (dA m).2.2.2.1, (dA m).2.2.2.2, []⟩ (aj _) (aj _) (aj _) (aj _))
 clear eo
 generalize iO m = p at *
 generalize dA m = q at *
 generalize df (m : Int) = co at *
 obtain ⟨p1, p2, p3, p4⟩ := p
 obtain ⟨q1, q2, q3, q4, q5⟩ := q
 all_goals
  simp only [hc] at e
  refine gI oW Tryz.func12 Tryz.results12 ?_
  exact wR (aI @pgv (aI @mmF (aI @hil (aI @e (aI @shB (aI @anB @ai)))))) (aI a0 (aI a7 hq)) ah
theorem af1 (l : List Int) (i : Nat) (hl : l.length ≤ 9223372036854775807) (hi : i ≤ 1000) (hc : atN l i % 20 = 14) : Pg.Good Tryz.prog 12 [fzi l, vi i] (.agg (opF (jl l i))) := by
 have a0 := jT l i hl (by omega)
 have a7 := jT l (i + 7) hl (by omega)
 have b0 := dU l i
 have b7 := dU l (i + 7)
 unfold jl
 generalize hits : fE (l.drop (min l.length (i % 5))) (1 + atN l i / 128 % 8) = its at *
 generalize hda : qm (bQ (l.drop (min l.length (i % 7)))) = da at *
 generalize bQ (l.drop (min l.length (i % 7))) = S at *
 generalize atN l i = n at *
 generalize atN l (i + 7) = m at *
 have e := vH n
 have hil := bP l
 have e5 := tm5 i
 have e7 := tm7 i
 have d5 := dh l (min l.length (i % 5))
 have d7 := dh l (min l.length (i % 7))
 have m5 := kX l.length (i % 5)
 have m7 := kX l.length (i % 7)
 have n5 := aQ (n / 32) (by omega)
 have n6 := aQ (n / 64) (by omega)
 have n7 := aQ (n / 128) (by omega)
 have n8 := aQ (n / 256) (by omega)
 have hp := gQ m (by omega)
 have hq := ja m (by omega)
 have hco := iZ (m : Int)
 have t3 := jg (ae (n / 32)) (ae (n / 128)) (ae (n / 256))
 have s3 := nY (ae (n / 32)) (ae (n / 128)) (ae (n / 256))
 have l3 := kR (ae (n / 32)) (ae (n / 128)) (ae (n / 256))
 have i3 := kQ (ae (n / 32)) (ae (n / 128)) (ae (n / 256))
 have eo : opN n m its da = ⟨11, [], [], [], 0, 0, 0, 0, [], [], 0, 0, ((n / 32 % 2 : Nat) : Int), 0, 0, 0, 0, [], 0, 0, 0, []⟩ := by
  unfold opN
  (repeat' (first | rw [if_pos (by omega)] | rw [if_neg (by omega)]))
 rw [eo]
 refine Good.fzr (r := .agg (opC ⟨11, [], [], [], 0, 0, 0, 0, [], [], 0, 0, ((n / 32 % 2 : Nat) : Int), 0, 0, 0, 0, [], 0, 0, 0, []⟩ nls nls nls nls)) ?_ rfl (fF ⟨11, [], [], [], 0, 0, 0, 0, [], [], 0, 0, ((n / 32 % 2 : Nat) : Int), 0, 0, 0, 0, [], 0, 0, 0, []⟩ (aj _) (aj _) (aj _) (aj _))
 clear eo
 generalize iO m = p at *
 generalize dA m = q at *
 generalize df (m : Int) = co at *
 obtain ⟨p1, p2, p3, p4⟩ := p
 obtain ⟨q1, q2, q3, q4, q5⟩ := q
 all_goals
  simp only [hc] at e
  refine gI oW Tryz.func12 Tryz.results12 ?_
  exact wR (aI @pgv (aI @mmF (aI @hil (aI @e (aI @shB (aI @anB @ai)))))) (aI a0 a7) ah
theorem af2 (l : List Int) (i : Nat) (hl : l.length ≤ 9223372036854775807) (hi : i ≤ 1000) (hc : atN l i % 20 = 15) : Pg.Good Tryz.prog 12 [fzi l, vi i] (.agg (opF (jl l i))) := by
 have a0 := jT l i hl (by omega)
 have a7 := jT l (i + 7) hl (by omega)
 have b0 := dU l i
 have b7 := dU l (i + 7)
 unfold jl
 generalize hits : fE (l.drop (min l.length (i % 5))) (1 + atN l i / 128 % 8) = its at *
 generalize hda : qm (bQ (l.drop (min l.length (i % 7)))) = da at *
 generalize bQ (l.drop (min l.length (i % 7))) = S at *
 generalize atN l i = n at *
 generalize atN l (i + 7) = m at *
 have e := vH n
 have hil := bP l
 have e5 := tm5 i
 have e7 := tm7 i
 have d5 := dh l (min l.length (i % 5))
 have d7 := dh l (min l.length (i % 7))
 have m5 := kX l.length (i % 5)
 have m7 := kX l.length (i % 7)
 have n5 := aQ (n / 32) (by omega)
 have n6 := aQ (n / 64) (by omega)
 have n7 := aQ (n / 128) (by omega)
 have n8 := aQ (n / 256) (by omega)
 have hp := gQ m (by omega)
 have hq := ja m (by omega)
 have hco := iZ (m : Int)
 have t3 := jg (ae (n / 32)) (ae (n / 128)) (ae (n / 256))
 have s3 := nY (ae (n / 32)) (ae (n / 128)) (ae (n / 256))
 have l3 := kR (ae (n / 32)) (ae (n / 128)) (ae (n / 256))
 have i3 := kQ (ae (n / 32)) (ae (n / 128)) (ae (n / 256))
 have eo : opN n m its da = ⟨12, [], [], [], 0, 0, 0, 0, [], [], 0, 0, ((n / 32 % 2 : Nat) : Int), ((n / 64 % 2 : Nat) : Int), 0, 0, 0, [], 0, 0, 0, []⟩ := by
  unfold opN
  (repeat' (first | rw [if_pos (by omega)] | rw [if_neg (by omega)]))
 rw [eo]
 refine Good.fzr (r := .agg (opC ⟨12, [], [], [], 0, 0, 0, 0, [], [], 0, 0, ((n / 32 % 2 : Nat) : Int), ((n / 64 % 2 : Nat) : Int), 0, 0, 0, [], 0, 0, 0, []⟩ nls nls nls nls)) ?_ rfl (fF ⟨12, [], [], [], 0, 0, 0, 0, [], [], 0, 0, ((n / 32 % 2 : Nat) : Int), ((n / 64 % 2 : Nat) : Int), 0, 0, 0, [], 0, 0, 0, []⟩ (aj _) (aj _) (aj _) (aj _))
 clear eo
 generalize iO m = p at *
 generalize dA m = q at *
 generalize df (m : Int) = co at *
 obtain ⟨p1, p2, p3, p4⟩ := p
 obtain ⟨q1, q2, q3, q4, q5⟩ := q
 all_goals
  simp only [hc] at e
  refine gI oW Tryz.func12 Tryz.results12 ?_
  exact wR (aI @pgv (aI @mmF (aI @hil (aI @e (aI @shB (aI @anB @ai)))))) (aI a0 a7) ah
theorem af4 (l : List Int) (i : Nat) (hl : l.length ≤ 9223372036854775807) (hi : i ≤ 1000) (hc : atN l i % 20 = 16) : Pg.Good Tryz.prog 12 [fzi l, vi i] (.agg (opF (jl l i))) := by
 have a0 := jT l i hl (by omega)
 have a7 := jT l (i + 7) hl (by omega)
 have b0 := dU l i
 have b7 := dU l (i + 7)
 unfold jl
 generalize hits : fE (l.drop (min l.length (i % 5))) (1 + atN l i / 128 % 8) = its at *
 generalize hda : qm (bQ (l.drop (min l.length (i % 7)))) = da at *
 generalize bQ (l.drop (min l.length (i % 7))) = S at *
 generalize atN l i = n at *
 generalize atN l (i + 7) = m at *
 have e := vH n
 have hil := bP l
 have e5 := tm5 i
 have e7 := tm7 i
 have d5 := dh l (min l.length (i % 5))
 have d7 := dh l (min l.length (i % 7))
 have m5 := kX l.length (i % 5)
 have m7 := kX l.length (i % 7)
 have n5 := aQ (n / 32) (by omega)
 have n6 := aQ (n / 64) (by omega)
 have n7 := aQ (n / 128) (by omega)
 have n8 := aQ (n / 256) (by omega)
 have hp := gQ m (by omega)
 have hq := ja m (by omega)
 have hco := iZ (m : Int)
 have t3 := jg (ae (n / 32)) (ae (n / 128)) (ae (n / 256))
 have s3 := nY (ae (n / 32)) (ae (n / 128)) (ae (n / 256))
 have l3 := kR (ae (n / 32)) (ae (n / 128)) (ae (n / 256))
 have i3 := kQ (ae (n / 32)) (ae (n / 128)) (ae (n / 256))
 have eo : opN n m its da = ⟨13, [], [], [], 0, 0, 0, 0, [], [], 0, 0, 0, 0, ((n / 32 % 2 : Nat) : Int), ((n / 64 % 4 : Nat) : Int), 0, [], 0, 0, 0, []⟩ := by
  unfold opN
  (repeat' (first | rw [if_pos (by omega)] | rw [if_neg (by omega)]))
 rw [eo]
 refine Good.fzr (r := .agg (opC ⟨13, [], [], [], 0, 0, 0, 0, [], [], 0, 0, 0, 0, ((n / 32 % 2 : Nat) : Int), ((n / 64 % 4 : Nat) : Int), 0, [], 0, 0, 0, []⟩ nls nls nls nls)) ?_ rfl (fF ⟨13, [], [], [], 0, 0, 0, 0, [], [], 0, 0, 0, 0, ((n / 32 % 2 : Nat) : Int), ((n / 64 % 4 : Nat) : Int), 0, [], 0, 0, 0, []⟩ (aj _) (aj _) (aj _) (aj _))
 clear eo
 generalize iO m = p at *
 generalize dA m = q at *
 generalize df (m : Int) = co at *
 obtain ⟨p1, p2, p3, p4⟩ := p
 obtain ⟨q1, q2, q3, q4, q5⟩ := q
 all_goals
  simp only [hc] at e
  refine gI oW Tryz.func12 Tryz.results12 ?_
  exact wR (aI @pgv (aI @mmF (aI @hil (aI @e (aI @shB (aI @anB @ai)))))) (aI a0 a7) ah
theorem af5 (l : List Int) (i : Nat) (hl : l.length ≤ 9223372036854775807) (hi : i ≤ 1000) (hc : atN l i % 20 = 17) : Pg.Good Tryz.prog 12 [fzi l, vi i] (.agg (opF (jl l i))) := by
 have a0 := jT l i hl (by omega)
 have a7 := jT l (i + 7) hl (by omega)
 have b0 := dU l i
 have b7 := dU l (i + 7)
 unfold jl
 generalize hits : fE (l.drop (min l.length (i % 5))) (1 + atN l i / 128 % 8) = its at *
 generalize hda : qm (bQ (l.drop (min l.length (i % 7)))) = da at *
 generalize bQ (l.drop (min l.length (i % 7))) = S at *
 generalize atN l i = n at *
 generalize atN l (i + 7) = m at *
 have e := vH n
 have hil := bP l
 have e5 := tm5 i
 have e7 := tm7 i
 have d5 := dh l (min l.length (i % 5))
 have d7 := dh l (min l.length (i % 7))
 have m5 := kX l.length (i % 5)
 have m7 := kX l.length (i % 7)
 have n5 := aQ (n / 32) (by omega)
 have n6 := aQ (n / 64) (by omega)
 have n7 := aQ (n / 128) (by omega)
 have n8 := aQ (n / 256) (by omega)
 have hp := gQ m (by omega)
 have hq := ja m (by omega)
 have hco := iZ (m : Int)
 have t3 := jg (ae (n / 32)) (ae (n / 128)) (ae (n / 256))
 have s3 := nY (ae (n / 32)) (ae (n / 128)) (ae (n / 256))
 have l3 := kR (ae (n / 32)) (ae (n / 128)) (ae (n / 256))
 have i3 := kQ (ae (n / 32)) (ae (n / 128)) (ae (n / 256))
 have eo : opN n m its da = ⟨14, [], [], [], 0, 0, 0, 0, [], [], 0, 0, 0, 0, ((n / 32 % 2 : Nat) : Int), 0, 0, [], 0, 0, 0, []⟩ := by
  unfold opN
  (repeat' (first | rw [if_pos (by omega)] | rw [if_neg (by omega)]))
 rw [eo]
 refine Good.fzr (r := .agg (opC ⟨14, [], [], [], 0, 0, 0, 0, [], [], 0, 0, 0, 0, ((n / 32 % 2 : Nat) : Int), 0, 0, [], 0, 0, 0, []⟩ nls nls nls nls)) ?_ rfl (fF ⟨14, [], [], [], 0, 0, 0, 0, [], [], 0, 0, 0, 0, ((n / 32 % 2 : Nat) : Int), 0, 0, [], 0, 0, 0, []⟩ (aj _) (aj _) (aj _) (aj _))
 clear eo
 generalize iO m = p at *
 generalize dA m = q at *
 generalize df (m : Int) = co at *
 obtain ⟨p1, p2, p3, p4⟩ := p
 obtain ⟨q1, q2, q3, q4, q5⟩ := q
 all_goals
  simp only [hc] at e
  refine gI oW Tryz.func12 Tryz.results12 ?_
  exact wR (aI @pgv (aI @mmF (aI @hil (aI @e (aI @shB (aI @anB @ai)))))) (aI a0 a7) ah
theorem af6 (l : List Int) (i : Nat) (hl : l.length ≤ 9223372036854775807) (hi : i ≤ 1000) (hc : atN l i % 20 = 18) (hx : atN l i / 32 % 2 = 1) : Pg.Good Tryz.prog 12 [fzi l, vi i] (.agg (opF (jl l i))) := by
 have a0 := jT l i hl (by omega)
 have a7 := jT l (i + 7) hl (by omega)
 have b0 := dU l i
 have b7 := dU l (i + 7)
 unfold jl
 generalize hits : fE (l.drop (min l.length (i % 5))) (1 + atN l i / 128 % 8) = its at *
 generalize hda : qm (bQ (l.drop (min l.length (i % 7)))) = da at *
 generalize bQ (l.drop (min l.length (i % 7))) = S at *
 generalize atN l i = n at *
 generalize atN l (i + 7) = m at *
 have e := vH n
 have hil := bP l
 have e5 := tm5 i
 have e7 := tm7 i
 have d5 := dh l (min l.length (i % 5))
 have d7 := dh l (min l.length (i % 7))
 have m5 := kX l.length (i % 5)
 have m7 := kX l.length (i % 7)
 have n5 := aQ (n / 32) (by omega)
 have n6 := aQ (n / 64) (by omega)
 have n7 := aQ (n / 128) (by omega)
 have n8 := aQ (n / 256) (by omega)
 have hp := gQ m (by omega)
 have hq := ja m (by omega)
 have hco := iZ (m : Int)
 have t3 := jg (ae (n / 32)) (ae (n / 128)) (ae (n / 256))
 have s3 := nY (ae (n / 32)) (ae (n / 128)) (ae (n / 256))
 have l3 := kR (ae (n / 32)) (ae (n / 128)) (ae (n / 256))
 have i3 := kQ (ae (n / 32)) (ae (n / 128)) (ae (n / 256))
 have eo : opN n m its da = ⟨15, [], [], [], 0, 0, 0, 0, [], [], 0, 0, ((n / 64 % 2 : Nat) : Int), ((n / 128 % 2 : Nat) : Int), 0, 0, 0, [], 0, 0, 0, []⟩ := by
  unfold opN
  (repeat' (first | rw [if_pos (by omega)] | rw [if_neg (by omega)]))
 rw [eo]
 refine Good.fzr (r := .agg (opC ⟨15, [], [], [], 0, 0, 0, 0, [], [], 0, 0, ((n / 64 % 2 : Nat) : Int), ((n / 128 % 2 : Nat) : Int), 0, 0, 0, [], 0, 0, 0, []⟩ nls nls nls nls)) ?_ rfl (fF ⟨15, [], [], [], 0, 0, 0, 0, [], [], 0, 0, ((n / 64 % 2 : Nat) : Int), ((n / 128 % 2 : Nat) : Int), 0, 0, 0, [], 0, 0, 0, []⟩ (aj _) (aj _) (aj _) (aj _))
 clear eo
 generalize iO m = p at *
 generalize dA m = q at *
 generalize df (m : Int) = co at *
 obtain ⟨p1, p2, p3, p4⟩ := p
 obtain ⟨q1, q2, q3, q4, q5⟩ := q
 all_goals
  simp only [hc] at e
  refine gI oW Tryz.func12 Tryz.results12 ?_
  exact wR (aI @pgv (aI @mmF (aI @hil (aI @e (aI @shB (aI @anB @ai)))))) (aI a0 a7) ah
theorem af7 (l : List Int) (i : Nat) (hl : l.length ≤ 9223372036854775807) (hi : i ≤ 1000) (hc : atN l i % 20 = 18) (hx : atN l i / 32 % 2 = 0) : Pg.Good Tryz.prog 12 [fzi l, vi i] (.agg (opF (jl l i))) := by
 have a0 := jT l i hl (by omega)
 have a7 := jT l (i + 7) hl (by omega)
 have b0 := dU l i
 have b7 := dU l (i + 7)
 have h1 := VL (l.drop (min l.length (i % 7))) (by rw [List.length_drop]; omega)
 have h2 := abQ (bQ (l.drop (min l.length (i % 7)))) (EH _)
 unfold jl
 generalize hits : fE (l.drop (min l.length (i % 5))) (1 + atN l i / 128 % 8) = its at *
 generalize hda : qm (bQ (l.drop (min l.length (i % 7)))) = da at *
 generalize bQ (l.drop (min l.length (i % 7))) = S at *
 generalize atN l i = n at *
 generalize atN l (i + 7) = m at *
 have e := vH n
 have hil := bP l
 have e5 := tm5 i
 have e7 := tm7 i
 have d5 := dh l (min l.length (i % 5))
 have d7 := dh l (min l.length (i % 7))
 have m5 := kX l.length (i % 5)
 have m7 := kX l.length (i % 7)
 have n5 := aQ (n / 32) (by omega)
 have n6 := aQ (n / 64) (by omega)
 have n7 := aQ (n / 128) (by omega)
 have n8 := aQ (n / 256) (by omega)
 have hp := gQ m (by omega)
 have hq := ja m (by omega)
 have hco := iZ (m : Int)
 have t3 := jg (ae (n / 32)) (ae (n / 128)) (ae (n / 256))
 have s3 := nY (ae (n / 32)) (ae (n / 128)) (ae (n / 256))
 have l3 := kR (ae (n / 32)) (ae (n / 128)) (ae (n / 256))
 have i3 := kQ (ae (n / 32)) (ae (n / 128)) (ae (n / 256))
 have eo : opN n m its da = ⟨16, ae (n / 64), [], [], 0, 0, 0, 0, [], [], 0, 0, 0, 0, 0, 0, 0, [], 0, 0, 0, da⟩ := by
  unfold opN
  (repeat' (first | rw [if_pos (by omega)] | rw [if_neg (by omega)]))
 rw [eo]
 refine Good.fzr (r := .agg (opC ⟨16, ae (n / 64), [], [], 0, 0, 0, 0, [], [], 0, 0, 0, 0, 0, 0, 0, [], 0, 0, 0, da⟩ nls nls nls (fzb da))) ?_ rfl (fF ⟨16, ae (n / 64), [], [], 0, 0, 0, 0, [], [], 0, 0, 0, 0, 0, 0, 0, [], 0, 0, 0, da⟩ (aj _) (aj _) (aj _) (cu _))
 clear eo
 generalize iO m = p at *
 generalize dA m = q at *
 generalize df (m : Int) = co at *
 obtain ⟨p1, p2, p3, p4⟩ := p
 obtain ⟨q1, q2, q3, q4, q5⟩ := q
 obtain ⟨⟨pk, pz, pd, ps⟩, ⟨t1, t2, t3⟩, ⟨c1, c2, c3, c4, c5⟩, ⟨l1, l2, l3⟩, ⟨e1, e2, e3, e4⟩, ⟨f1, f2, f3, f4, f5⟩, ⟨r1, r2, r3, r4, r5⟩⟩ := S
 all_goals
  simp only [hc] at e
  refine gI oW Tryz.func12 Tryz.results12 ?_
  exact wR (aI @pgv (aI @mmF (aI @hil (aI @e (aI @shB (aI @anB (aI @ai (aI @e7 (aI @d7 @m7))))))))) (aI a0 (aI a7 (aI n6 (aI h1 h2)))) ah
theorem af8 (l : List Int) (i : Nat) (hl : l.length ≤ 9223372036854775807) (hi : i ≤ 1000) (hc : atN l i % 20 = 19) : Pg.Good Tryz.prog 12 [fzi l, vi i] (.agg (opF (jl l i))) := by
 have a0 := jT l i hl (by omega)
 have a7 := jT l (i + 7) hl (by omega)
 have b0 := dU l i
 have b7 := dU l (i + 7)
 unfold jl
 generalize hits : fE (l.drop (min l.length (i % 5))) (1 + atN l i / 128 % 8) = its at *
 generalize hda : qm (bQ (l.drop (min l.length (i % 7)))) = da at *
 generalize bQ (l.drop (min l.length (i % 7))) = S at *
 generalize atN l i = n at *
 generalize atN l (i + 7) = m at *
 have e := vH n
 have hil := bP l
 have e5 := tm5 i
 have e7 := tm7 i
 have d5 := dh l (min l.length (i % 5))
 have d7 := dh l (min l.length (i % 7))
 have m5 := kX l.length (i % 5)
 have m7 := kX l.length (i % 7)
 have n5 := aQ (n / 32) (by omega)
 have n6 := aQ (n / 64) (by omega)
 have n7 := aQ (n / 128) (by omega)
 have n8 := aQ (n / 256) (by omega)
 have hp := gQ m (by omega)
 have hq := ja m (by omega)
 have hco := iZ (m : Int)
 have t3 := jg (ae (n / 32)) (ae (n / 128)) (ae (n / 256))
 have s3 := nY (ae (n / 32)) (ae (n / 128)) (ae (n / 256))
 have l3 := kR (ae (n / 32)) (ae (n / 128)) (ae (n / 256))
 have i3 := kQ (ae (n / 32)) (ae (n / 128)) (ae (n / 256))
 have eo : opN n m its da = ⟨17, [], [], [], 0, 0, 0, 0, [], [], 0, 0, 0, 0, 0, 0, 0, [], 0, 0, 0, []⟩ := by
  unfold opN
  (repeat' (first | rw [if_pos (by omega)] | rw [if_neg (by omega)]))
 rw [eo]
 refine Good.fzr (r := .agg (opC ⟨17, [], [], [], 0, 0, 0, 0, [], [], 0, 0, 0, 0, 0, 0, 0, [], 0, 0, 0, []⟩ nls nls nls nls)) ?_ rfl (fF ⟨17, [], [], [], 0, 0, 0, 0, [], [], 0, 0, 0, 0, 0, 0, 0, [], 0, 0, 0, []⟩ (aj _) (aj _) (aj _) (aj _))
 clear eo
 generalize iO m = p at *
 generalize dA m = q at *
 generalize df (m : Int) = co at *
 obtain ⟨p1, p2, p3, p4⟩ := p
 obtain ⟨q1, q2, q3, q4, q5⟩ := q
 all_goals
  simp only [hc] at e
  refine gI oW Tryz.func12 Tryz.results12 ?_
  exact wR (aI @pgv (aI @mmF (aI @hil (aI @e (aI @shB (aI @anB @ai)))))) (aI a0 a7) ah
theorem aoo (l : List Int) (i : Nat) (hl : l.length ≤ 9223372036854775807) (hi : i ≤ 1000) : Pg.Good Tryz.prog 12 [fzi l, vi i] (.agg (opF (jl l i))) := by
 rcases (show atN l i % 20 = 0 ∨ atN l i % 20 = 1 ∨ atN l i % 20 = 2 ∨ atN l i % 20 = 3 ∨ atN l i % 20 = 4 ∨ atN l i % 20 = 5 ∨ atN l i % 20 = 6 ∨ atN l i % 20 = 7 ∨ atN l i % 20 = 8 ∨ atN l i % 20 = 9 ∨ atN l i % 20 = 10 ∨ atN l i % 20 = 11 ∨ atN l i % 20 = 12 ∨ atN l i % 20 = 13 ∨ atN l i % 20 = 14 ∨ atN l i % 20 = 15 ∨ atN l i % 20 = 16 ∨ atN l i % 20 = 17 ∨ atN l i % 20 = 18 ∨ atN l i % 20 = 19 by omega) with h | h | h | h | h | h | h | h | h | h | h | h | h | h | h | h | h | h | h | h
 ·exact abR l i hl hi (.inl h)
 ·exact abR l i hl hi (.inr h)
 ·exact ajQ l i hl hi (h)
 ·exact ajR l i hl hi (h)
 ·exact ajS l i hl hi (h)
 ·exact ajT l i hl hi (h)
 ·exact PV l i hl hi (.inl h)
 ·exact PV l i hl hi (.inr (.inl h))
 ·exact PV l i hl hi (.inr (.inr h))
 ·exact ajU l i hl hi (h)
 ·exact ajV l i hl hi (h)
 ·exact abS l i hl hi (.inl h)
 ·exact abS l i hl hi (.inr h)
 ·exact ajW l i hl hi (h)
 ·exact af1 l i hl hi (h)
 ·exact af2 l i hl hi (h)
 ·exact af4 l i hl hi (h)
 ·exact af5 l i hl hi (h)
 ·rcases (show atN l i / 32 % 2 = 1 ∨ atN l i / 32 % 2 = 0 by omega) with hx | hx
  ·exact af6 l i hl hi h hx
  ·exact af7 l i hl hi h hx
 ·exact af8 l i hl hi (h)
def Wd (x : List Nat) : Prop := oct x ∧ x.length ≤ 1000000 ∧ ∀ c ∈ x, c ≠ 32
def WdL (l : List (List Nat)) : Prop := ∀ x ∈ l, Wd x
theorem jK : WdL [] := fun x h => by cases h
theorem aC {x : List Nat} {l : List (List Nat)} (h : Wd x) (hl : WdL l) : WdL (x :: l) := fun y hy => by
 rcases List.mem_cons.1 hy with rfl | hy
 ·exact h
 ·exact hl y hy
theorem jL (x : List Nat) (h : (x.all fun b => decide (b < 256) && decide (b ≠ 32)) = true) (hl : x.length ≤ 1000000) : Wd x :=
 ⟨fun b hb => by have := List.all_eq_true.1 h b hb; simp only [Bool.and_eq_true, decide_eq_true_eq] at this; exact this.1, hl, fun b hb => by have := List.all_eq_true.1 h b hb; simp only [Bool.and_eq_true, decide_eq_true_eq] at this; exact this.2⟩
theorem lH {x : List Nat} (ho : oct x) (h : jW x = true) : Wd x := by
 unfold jW at h
 simp only [Bool.and_eq_true, decide_eq_true_eq] at h
 refine ⟨ho, by omega, fun c hc => ?_⟩
 have h1 := List.all_eq_true.1 h.2 c hc
 rintro rfl
 exact absurd h1 (by decide)
theorem jb {n : Int} (h : Wt n) : Wd (ak n) := ⟨fD n, by have := dS h; omega, afU n⟩
theorem af9 (u : Nat) (hu : u < 18446744073709551616) : Wd (jy u) := ⟨KT u, by have := IK u hu; omega, afV u _⟩
theorem ahm {k : List Nat} (ho : oct k) (h : fH k = true) : Wd (kw k) := ⟨ajo ho, by have := zZ k; omega, (abd ho h).2⟩
theorem ajX : fb [] = [45] := rfl
theorem SH {l : List Nat} (ho : oct l) (hl : l.length ≤ 65536) : Wd (fb l) := by
 refine ⟨ajp l, by have := uT l; omega, ?_⟩
 by_cases h : l = []
 ·rw [h, ajX]; decide
 ·have hf : fb l = jh l := if_neg (by intro h1; exact h (List.eq_nil_of_length_eq_zero h1))
  rw [hf]; exact RZ l ho
theorem aga (k z d s : Int) (hz : Wt z) (hd : Wt d) (hs : 0 ≤ s ∧ s < 18446744073709551616) : WdL (qX k z d s) := by
 have h1 := jb hz
 have h2 := jb hd
 have h3 := af9 s.toNat (by omega)
 unfold qX
 (repeat' split) <;> repeat' (first | exact jK | refine aC (jL _ (by decide) (by decide)) ?_ | refine aC h1 ?_ | refine aC h2 ?_ | refine aC h3 ?_)
theorem SI (k : Int) (key : List Nat) (c n d : Int) (ho : oct key) (h : vq k key c n d = 0) (hc : Wt c) (hn : Wt n) (hd : Wt d) : WdL (lY k key c n d) := by
 have h1 := jb hc
 have h2 := jb hn
 have h3 := jb hd
 have h4 := fun hk => ahm ho (Ai h hk)
 unfold lY
 (repeat' split) <;> repeat' (first | exact jK | refine aC (jL _ (by decide) (by decide)) ?_ | refine aC h1 ?_ | refine aC h2 ?_ | refine aC h3 ?_ | refine aC (h4 (by omega)) ?_)
theorem agb (l : List (List Nat × Int)) (h : ∀ x ∈ l, oct x.1 ∧ fH x.1 = true ∧ Wt x.2) : WdL (lL l) := by
 induction l with
 | nil => exact jK
 | cons x l ih =>
  have hx := h x (by simp)
  exact aC (ahm hx.1 hx.2.1) (aC (jb hx.2.2) (ih fun y hy => h y (by simp [hy])))
theorem Cc {x : List Nat} (h : jW x = true) : x.length ≤ 16 := by
 unfold jW at h
 simp only [Bool.and_eq_true, decide_eq_true_eq] at h
 omega
theorem ajY (l : List (List Nat × Int)) (h : ∀ x ∈ l, Wt x.2) : ∀ x ∈ lL l, x.length ≤ 100000 := by
 induction l with
 | nil => intro x hx; cases hx
 | cons y l ih =>
  intro x hx
  have h1 := zZ y.1
  have h2 := dS (h y (by simp))
  rcases List.mem_cons.1 hx with rfl | hx
  ·omega
  ·rcases List.mem_cons.1 hx with rfl | hx
   ·omega
   ·exact ih (fun z hz => h z (by simp [hz])) x hx
theorem abT (nm co : List Nat) (l : List (List Nat × Int)) (hn : jW nm = true) (hc : (co.length : Int) ≤ 64) (h : ∀ x ∈ l, Wt x.2) : ∀ x ∈ nm :: fb co :: lL l, x.length ≤ 100000 := by
 intro x hx
 have h1 := Cc hn
 have h2 := uT co
 rcases List.mem_cons.1 hx with rfl | hx
 ·omega
 ·rcases List.mem_cons.1 hx with rfl | hx
  ·omega
  ·exact ajY l h x hx
theorem mQ {n a b : Int} (h : bwE n a b = 0) : a ≤ n ∧ n ≤ b := by unfold bwE at h; split at h; cases h; omega
theorem oL {l : List Nat} (h : nmE l = 0) : jW l = true := by unfold nmE at h; split at h; assumption; cases h
theorem Bd {l : List Nat} {m : Int} (h : shE l m = 0) : (l.length : Int) ≤ m := by unfold shE at h; split at h; cases h; omega
theorem oJ {α : Type} {l : List α} (h : decide (l.length = 0) = true) : l = [] := List.eq_nil_of_length_eq_zero (of_decide_eq_true h)
theorem SK (x : List Nat) (l : List (List Nat)) : hdW (x :: l) = x := rfl
theorem PW {n : Int} (h : -999999999999 ≤ n ∧ n ≤ 999999999999) : aZ (ak n) = (n, 0) := by rw [Vr, if_pos h]
theorem amc {n : Int} (h : -999999999999 ≤ n ∧ n ≤ 999999999999) (l : List (List Nat)) : iE (ak n :: l) = false := by
 unfold iE; rw [SK, PW h]; rfl
theorem amd {n : Int} (h : -999999999999 ≤ n ∧ n ≤ 999999999999) : (aZ (ak n)).1 = n := by rw [PW h]
theorem zq {n : Int} (h : -999999999999 ≤ n ∧ n ≤ 999999999999) : (aZ (ak n)).2 = 0 := by rw [PW h]
theorem ame {k : List Nat} (ho : oct k) (h : fH k = true) (l : List (List Nat)) : qW (kw k :: l) = false := by
 unfold qW; rw [SK, (abd ho h).1]; rfl
theorem amf {k : List Nat} (ho : oct k) (h : fH k = true) : (pk (kw k)).1 = k := by rw [(abd ho h).1]
theorem aop {l : List Nat} (ho : oct l) : oH (fb l) = false := by
 by_cases h : l = []
 ·rw [h, ajX]; rfl
 ·exact (abe ho h).2
theorem amg (n : Nat) : byR n (fb []) = nls := by rw [ajX]; rfl
theorem amh {l : List Nat} (ho : oct l) (h : l ≠ []) (n : Nat) : byR n (fb l) = .sl (.own (n + 1) 5) 1 (bv l) := by
 unfold byR; rw [(abe ho h).1, if_neg h]
theorem ami (l acc : List (List Nat × Int)) (h : ∀ x ∈ l, oct x.1 ∧ fH x.1 = true ∧ 1 ≤ x.2 ∧ x.2 ≤ 4294967295) : its acc (lL l) false = (acc ++ l, [], false) := by
 induction l generalizing acc with
 | nil => rw [lL, ahf, List.append_nil]
 | cons x l ih =>
  have hx := h x (by simp)
  have hw : -999999999999 ≤ x.2 ∧ x.2 ≤ 999999999999 := by omega
  rw [lL, ahg, ame hx.1 hx.2.1, amc hw, SK, amd hw, amf hx.1 hx.2.1, List.tail_cons]
  show its _ _ (false || false) = _
  rw [show (false || false) = false from rfl, ih _ fun y hy => h y (by simp [hy])]
  simp
theorem Gy (o : O) (ho : o.Oct) (hv : vop o = 0) {a b c d : V} (ha : orN a (fzs o.names)) (hb : orN b (fzt o.items)) (hc : orN c (fzb o.coins)) (hd : orN d (fzb o.data)) : Pg.Good Tryz.prog 38 [.agg (opC o a b c d)] (vi 0) := by
 have h := dH o ho
 rw [hv] at h
 exact h.wk ⟨fF o ha hb hc hd, trivial⟩
theorem PX {k z d s : Int} (h : vp k z d s = 0) : (-999999999999 ≤ z ∧ z ≤ 999999999999) ∧ (-999999999999 ≤ d ∧ d ≤ 999999999999) ∧ (k = 1 → z = 0) ∧ (k ≠ 2 → d = 0) ∧ (k ≠ 2 → k ≠ 3 → s = 0) := by
 unfold vp at h
 (repeat' split at h) <;> first | (exfalso; omega) | omega
theorem xq {k c n d : Int} {key : List Nat} (h : vq k key c n d = 0) : (-999999999999 ≤ c ∧ c ≤ 999999999999) ∧ (-999999999999 ≤ n ∧ n ≤ 999999999999) ∧ (-999999999999 ≤ d ∧ d ≤ 999999999999) ∧ (k ≠ 5 → c = 0) ∧ (k ≠ 7 → n = 0 ∧ d = 0) ∧ (k ≠ 2 → k ≠ 6 → key = []) := by
 unfold vq at h
 split at h
 ·cases h
 ·split at h
  ·cases h
  ·split at h
   ·cases h
   ·split at h
    ·cases h
    ·split at h
     ·cases h
     ·refine ⟨by omega, by omega, by omega, by omega, by omega, fun h1 h2 => List.eq_nil_of_length_eq_zero (by omega)⟩
theorem agc (o : O) (hk : o.kind = 6) : opW o = qU o := by simp [opW, hk]
theorem xu (o : O) (hk : o.kind = 1) : opW o = [99, 114, 101, 97, 116, 101] :: o.name :: qX o.pk o.pz o.pd o.ps := by simp [opW, hk]
theorem agd (o : O) (ok : o.Ok) (hk : o.kind = 1) (hv : vop o = 0) : WdL (opW o) := by
 have c0 : chk o 0 = 0 := (bW hv).2.1 0 (by omega) (by rw [hk]; decide)
 have c3 : chk o 3 = 0 := (bW hv).2.1 3 (by omega) (by rw [hk]; decide)
 replace c0 := oL c0
 replace c3 : vp o.pk o.pz o.pd o.ps = 0 := c3
 rw [xu o hk]
 exact aC (jL _ (by decide) (by decide)) (aC (lH ok.oct.1 c0) (aga _ _ _ _ ok.pz ok.pd ok.ps))
theorem abU (o : O) (hk : o.kind = 2) : opW o = [100, 114, 111, 112] :: o.name :: [] := by simp [opW, hk]
theorem age (o : O) (ok : o.Ok) (hk : o.kind = 2) (hv : vop o = 0) : WdL (opW o) := by
 have c0 : chk o 0 = 0 := (bW hv).2.1 0 (by omega) (by rw [hk]; decide)
 replace c0 := oL c0
 rw [abU o hk]
 exact aC (jL _ (by decide) (by decide)) (aC (lH ok.oct.1 c0) (jK))
theorem abV (o : O) (hk : o.kind = 3) : opW o = [114, 101, 110, 97, 109, 101] :: o.name :: o.other :: [] := by simp [opW, hk]
theorem agf (o : O) (ok : o.Ok) (hk : o.kind = 3) (hv : vop o = 0) : WdL (opW o) := by
 have c0 : chk o 0 = 0 := (bW hv).2.1 0 (by omega) (by rw [hk]; decide)
 have c1 : chk o 1 = 0 := (bW hv).2.1 1 (by omega) (by rw [hk]; decide)
 replace c0 := oL c0
 replace c1 := oL c1
 rw [abV o hk]
 exact aC (jL _ (by decide) (by decide)) (aC (lH ok.oct.1 c0) (aC (lH ok.oct.2.1 c1) (jK)))
theorem abW (o : O) (hk : o.kind = 4) : opW o = [108, 105, 115, 116] :: [] := by simp [opW, hk]
theorem agh (o : O) (ok : o.Ok) (hk : o.kind = 4) (hv : vop o = 0) : WdL (opW o) := by
 rw [abW o hk]
 exact aC (jL _ (by decide) (by decide)) (jK)
theorem vI (o : O) (hk : o.kind = 5) : opW o = [113, 117, 101, 114, 121] :: o.name :: lY o.qk o.qkey o.qc o.qn o.qd := by simp [opW, hk]
theorem agi (o : O) (ok : o.Ok) (hk : o.kind = 5) (hv : vop o = 0) : WdL (opW o) := by
 have c0 : chk o 0 = 0 := (bW hv).2.1 0 (by omega) (by rw [hk]; decide)
 have c12 : chk o 12 = 0 := (bW hv).2.1 12 (by omega) (by rw [hk]; decide)
 replace c0 := oL c0
 replace c12 : vq o.qk o.qkey o.qc o.qn o.qd = 0 := c12
 rw [vI o hk]
 exact aC (jL _ (by decide) (by decide)) (aC (lH ok.oct.1 c0) (SI _ _ _ _ _ ok.qkey c12 ok.qc ok.qn ok.qd))
theorem abX (o : O) (hk : o.kind = 6) : opW o = [105, 110, 115, 101, 114, 116] :: o.name :: fb o.coins :: lL o.items := by rw [agc o hk]; rfl
theorem agj (o : O) (ok : o.Ok) (hk : o.kind = 6) (hv : vop o = 0) : WdL (opW o) := by
 have c0 : chk o 0 = 0 := (bW hv).2.1 0 (by omega) (by rw [hk]; decide)
 have c4 : chk o 4 = 0 := (bW hv).2.1 4 (by omega) (by rw [hk]; decide)
 have c5 : chk o 5 = 0 := (bW hv).2.1 5 (by omega) (by rw [hk]; decide)
 replace c0 := oL c0
 have d4 := IL hk hv
 replace c5 := Bd c5
 rw [abX o hk]
 exact aC (jL _ (by decide) (by decide)) (aC (lH ok.oct.1 c0) (aC (SH ok.oct.2.2.2.2.1 (by omega)) (agb _ (fun x hx => ⟨ok.oct.2.2.2.1 x hx, (d4.2 x hx).1, ok.wts x hx⟩))))
theorem abY (o : O) (hk : o.kind = 7) : opW o = [109, 101, 114, 103, 101] :: o.name :: o.other :: fb o.coins :: [] := by simp [opW, hk]
theorem agk (o : O) (ok : o.Ok) (hk : o.kind = 7) (hv : vop o = 0) : WdL (opW o) := by
 have c0 : chk o 0 = 0 := (bW hv).2.1 0 (by omega) (by rw [hk]; decide)
 have c1 : chk o 1 = 0 := (bW hv).2.1 1 (by omega) (by rw [hk]; decide)
 have c5 : chk o 5 = 0 := (bW hv).2.1 5 (by omega) (by rw [hk]; decide)
 replace c0 := oL c0
 replace c1 := oL c1
 replace c5 := Bd c5
 rw [abY o hk]
 exact aC (jL _ (by decide) (by decide)) (aC (lH ok.oct.1 c0) (aC (lH ok.oct.2.1 c1) (aC (SH ok.oct.2.2.2.2.1 (by omega)) (jK))))
theorem abZ (o : O) (hk : o.kind = 8) : opW o = [99, 111, 109, 112, 97, 114, 101] :: o.name :: o.other :: fb o.coins :: ak o.exp :: ak o.src :: [] := by simp [opW, hk]
theorem agl (o : O) (ok : o.Ok) (hk : o.kind = 8) (hv : vop o = 0) : WdL (opW o) := by
 have c0 : chk o 0 = 0 := (bW hv).2.1 0 (by omega) (by rw [hk]; decide)
 have c1 : chk o 1 = 0 := (bW hv).2.1 1 (by omega) (by rw [hk]; decide)
 have c5 : chk o 5 = 0 := (bW hv).2.1 5 (by omega) (by rw [hk]; decide)
 have c6 : chk o 6 = 0 := (bW hv).2.1 6 (by omega) (by rw [hk]; decide)
 have c7 : chk o 7 = 0 := (bW hv).2.1 7 (by omega) (by rw [hk]; decide)
 replace c0 := oL c0
 replace c1 := oL c1
 replace c5 := Bd c5
 replace c6 := mQ c6
 replace c7 := mQ c7
 rw [abZ o hk]
 exact aC (jL _ (by decide) (by decide)) (aC (lH ok.oct.1 c0) (aC (lH ok.oct.2.1 c1) (aC (SH ok.oct.2.2.2.2.1 (by omega)) (aC (jb ok.exp) (aC (jb ok.src) (jK))))))
theorem ab1 (o : O) (hk : o.kind = 9) : opW o = [111, 112, 101, 110] :: o.names := by simp [opW, hk]
theorem agm (o : O) (ok : o.Ok) (hk : o.kind = 9) (hv : vop o = 0) : WdL (opW o) := by
 have c2 : chk o 2 = 0 := (bW hv).2.1 2 (by omega) (by rw [hk]; decide)
 have c2 := (Sl hk hv).2
 rw [ab1 o hk]
 exact aC (jL _ (by decide) (by decide)) ((fun x hx => lH (ok.oct.2.2.1 x hx) (c2 x hx)))
theorem qN (o : O) (hk : o.kind = 10) : opW o = [114, 101, 97, 100] :: ak o.hnd :: ak o.idx :: lY o.qk o.qkey o.qc o.qn o.qd := by simp [opW, hk]
theorem ab2 (o : O) (ok : o.Ok) (hk : o.kind = 10) (hv : vop o = 0) : WdL (opW o) := by
 have c8 : chk o 8 = 0 := (bW hv).2.1 8 (by omega) (by rw [hk]; decide)
 have c9 : chk o 9 = 0 := (bW hv).2.1 9 (by omega) (by rw [hk]; decide)
 have c12 : chk o 12 = 0 := (bW hv).2.1 12 (by omega) (by rw [hk]; decide)
 replace c8 := mQ c8
 replace c9 := mQ c9
 replace c12 : vq o.qk o.qkey o.qc o.qn o.qd = 0 := c12
 rw [qN o hk]
 exact aC (jL _ (by decide) (by decide)) (aC (jb ok.hnd) (aC (jb ok.idx) (SI _ _ _ _ _ ok.qkey c12 ok.qc ok.qn ok.qd)))
theorem SL (o : O) (hk : o.kind = 11) : opW o = [99, 108, 111, 115, 101] :: ak o.hnd :: [] := by simp [opW, hk]
theorem ab3 (o : O) (ok : o.Ok) (hk : o.kind = 11) (hv : vop o = 0) : WdL (opW o) := by
 have c8 : chk o 8 = 0 := (bW hv).2.1 8 (by omega) (by rw [hk]; decide)
 replace c8 := mQ c8
 rw [SL o hk]
 exact aC (jL _ (by decide) (by decide)) (aC (jb ok.hnd) (jK))
theorem SN (o : O) (hk : o.kind = 12) : opW o = [99, 117, 114, 115, 111, 114] :: ak o.hnd :: ak o.idx :: [] := by simp [opW, hk]
theorem ab4 (o : O) (ok : o.Ok) (hk : o.kind = 12) (hv : vop o = 0) : WdL (opW o) := by
 have c8 : chk o 8 = 0 := (bW hv).2.1 8 (by omega) (by rw [hk]; decide)
 have c9 : chk o 9 = 0 := (bW hv).2.1 9 (by omega) (by rw [hk]; decide)
 replace c8 := mQ c8
 replace c9 := mQ c9
 rw [SN o hk]
 exact aC (jL _ (by decide) (by decide)) (aC (jb ok.hnd) (aC (jb ok.idx) (jK)))
theorem SQ (o : O) (hk : o.kind = 13) : opW o = [110, 101, 120, 116] :: ak o.cur :: ak o.cnt :: [] := by simp [opW, hk]
theorem ab5 (o : O) (ok : o.Ok) (hk : o.kind = 13) (hv : vop o = 0) : WdL (opW o) := by
 have c10 : chk o 10 = 0 := (bW hv).2.1 10 (by omega) (by rw [hk]; decide)
 have c11 : chk o 11 = 0 := (bW hv).2.1 11 (by omega) (by rw [hk]; decide)
 replace c10 := mQ c10
 replace c11 := mQ c11
 rw [SQ o hk]
 exact aC (jL _ (by decide) (by decide)) (aC (jb ok.cur) (aC (jb ok.cnt) (jK)))
theorem SS (o : O) (hk : o.kind = 14) : opW o = [101, 110, 100] :: ak o.cur :: [] := by simp [opW, hk]
theorem ab6 (o : O) (ok : o.Ok) (hk : o.kind = 14) (hv : vop o = 0) : WdL (opW o) := by
 have c10 : chk o 10 = 0 := (bW hv).2.1 10 (by omega) (by rw [hk]; decide)
 replace c10 := mQ c10
 rw [SS o hk]
 exact aC (jL _ (by decide) (by decide)) (aC (jb ok.cur) (jK))
theorem SV (o : O) (hk : o.kind = 15) : opW o = [101, 120, 112, 111, 114, 116] :: ak o.hnd :: ak o.idx :: [] := by simp [opW, hk]
theorem ab7 (o : O) (ok : o.Ok) (hk : o.kind = 15) (hv : vop o = 0) : WdL (opW o) := by
 have c8 : chk o 8 = 0 := (bW hv).2.1 8 (by omega) (by rw [hk]; decide)
 have c9 : chk o 9 = 0 := (bW hv).2.1 9 (by omega) (by rw [hk]; decide)
 replace c8 := mQ c8
 replace c9 := mQ c9
 rw [SV o hk]
 exact aC (jL _ (by decide) (by decide)) (aC (jb ok.hnd) (aC (jb ok.idx) (jK)))
theorem SX (o : O) (hk : o.kind = 16) : opW o = [105, 109, 112, 111, 114, 116] :: o.name :: fb o.data :: [] := by simp [opW, hk]
theorem ab8 (o : O) (ok : o.Ok) (hk : o.kind = 16) (hv : vop o = 0) : WdL (opW o) := by
 have c0 : chk o 0 = 0 := (bW hv).2.1 0 (by omega) (by rw [hk]; decide)
 have c13 : chk o 13 = 0 := (bW hv).2.1 13 (by omega) (by rw [hk]; decide)
 replace c0 := oL c0
 replace c13 := Bd c13
 rw [SX o hk]
 exact aC (jL _ (by decide) (by decide)) (aC (lH ok.oct.1 c0) (aC (SH ok.oct.2.2.2.2.2.2 (by omega)) (jK)))
theorem SY (o : O) (hk : o.kind = 17) : opW o = [99, 111, 108, 108, 101, 99, 116] :: [] := by simp [opW, hk]
theorem ab9 (o : O) (ok : o.Ok) (hk : o.kind = 17) (hv : vop o = 0) : WdL (opW o) := by
 rw [SY o hk]
 exact aC (jL _ (by decide) (by decide)) (jK)
theorem dX (o : O) (ok : o.Ok) (hv : vop o = 0) : WdL (opW o) := by
 rcases nU (k := o.kind) (by have := (bW hv).1; omega) with h | h | h | h | h | h | h | h | h | h | h | h | h | h | h | h | h
 ·exact agd o ok h hv
 ·exact age o ok h hv
 ·exact agf o ok h hv
 ·exact agh o ok h hv
 ·exact agi o ok h hv
 ·exact agj o ok h hv
 ·exact agk o ok h hv
 ·exact agl o ok h hv
 ·exact agm o ok h hv
 ·exact ab2 o ok h hv
 ·exact ab3 o ok h hv
 ·exact ab4 o ok h hv
 ·exact ab5 o ok h hv
 ·exact ab6 o ok h hv
 ·exact ab7 o ok h hv
 ·exact ab8 o ok h hv
 ·exact ab9 o ok h hv
theorem amj {p : Prop} [Decidable p] {a b : List (List Nat)} (h1 : a ≠ []) (h2 : b ≠ []) : (if p then a else b) ≠ [] := by split <;> assumption
theorem ajZ (o : O) : opW o ≠ [] := by unfold opW qU; (repeat' refine amj ?_ ?_) <;> simp
theorem agn (o : O) (ok : o.Ok) (hv : vop o = 0) : spl 32 (jn (opW o)) = opW o := aiH (ajZ o) fun w hw => (dX o ok hv w hw).2.2
end Go.Proofs.YtjiolbcdfgclaaaGreatDoor
section
namespace Go.Proofs.YtjiolbcdfgclaaaGreatDoor
open Go Go.Pg
variable {e : Nat → V} {bx : Nat → Option (TypeId × List V)} {n : Nat} {h : Nat → V}
theorem zt {l : List (List Nat)} (h : ∀ x ∈ l, x.length ≤ 1000000) : (hdW l).length ≤ 1000000 := by
 cases l with
 | nil => simp [hdW]
 | cons x r => have := h x (by simp); simp only [hdW, List.headD_cons]; omega
theorem aj0 : ∀ x ∈ gu, oct x := by
 intro x hx
 have : ∀ x ∈ gu, (x.all fun b => decide (b < 256)) = true := by decide
 intro b hb
 simpa using List.all_eq_true.1 (this x hx) b hb
theorem hQ {p : Prop} (h : p := by (try simp only [upd]); (repeat' (first | rw [if_neg (by omega)] | rw [if_pos rfl] | rw [if_pos trivial])); first | done | exact hb | exact hcx | exact rfl) : p := h
theorem nb {b : Nat} (h : b < n) : (¬ n = b) ∧ (¬ b = n) ∧ (¬ n = n + 1 + 1) ∧ (¬ n + 1 + 1 = n) ∧ (¬ n + 1 + 1 = b) ∧ ¬ b = n + 1 + 1 := by omega
def fG := aI @iQ (aI @dm (aI @bI (aI @ai (aI @List.tail_cons.{0} (aI @Bool.false_or (aI @aa8 (aI @wu @au)))))))
def fg {b : Nat} {v : Option (TypeId × List V)} (h : bx b = v) (hn : b < n) := aI fG (aI h (nb hn))
def fh {b c : Nat} {v w : Option (TypeId × List V)} (h : bx b = v) (h2 : bx c = w) (hn : c ≠ b) := aI fG (aI h (aI h2 (aI hn hn.symm)))
theorem gG {f : FuncId} {fn : Func} {c : Code} {rs : List ResultVar} {args : List V} {r : V} {bx' bx2 : Nat → Option (TypeId × List V)} {n' n2 : Nat} (hf : Tryz.prog.funcs[f]? = some fn) (hrs : fn.results = rs.toArray) (hb : fn.body = some c) (hw : wpS (dC []) Tryz.prog c (XC Tryz.prog rs ⟨e, bx', n', h⟩ r) (XB args ⟨e, bx, n, h⟩))
  (hn : (fn.name == "runtime.NumGoroutine") = false := by kernel_rfl) (hfit : xK fn.ntmps c = true := by kernel_rfl) (hlen : args.length ≤ fn.ntmps := by exact Nat.le_of_ble_eq_true (by kernel_rfl)) (hN : n' ≤ n2 := by omega)
  (hx : ∀ c, bx2 c = bx' c ∨ bx2 c = none ∨ (n ≤ c ∧ bx2 c = bx c) := by first | exact pw (fun c hc => by simp only [upd]; first | ((repeat' split) <;> first | rfl | omega) | (rcases Classical.em (c = b) with hq | hq <;> (repeat (first | rw [if_pos hq] | rw [if_neg (by omega)])) <;> rfl)) (fun c hc => by simp only [upd]; (repeat rw [if_neg (by omega)]); first | done | rfl) | (intro d; simp only [upd]; first | exact .inl trivial | ((repeat' split) <;> first | exact .inl rfl | exact .inl trivial | (exfalso; omega)))) : GoodZ Tryz.prog f args ⟨e, bx, n, h⟩ ⟨e, bx2, n2, h⟩ r :=
 (AV oW hf hb hrs hn hfit hlen hw).le hN hx
theorem iA {F : Prop} {rs : List ResultVar} {s' : St} {r : V} {b : Nat → Option (TypeId × List V)} (fx : F) (h1 : F → pJ Tryz.prog ⟨e, b, n, h⟩ rs = some r := by intro fx; first | exact vN _ _ | exact aG _ _ _ | exact jq _ _ _ _ | (simp (disch := first | exact dqz | fail) only [pgr, pgo, tyf, simprocAttr, fx]; done) | (simp (disch := first | exact dqz | fail) only [pgr, pgo, tyf, simprocAttr, fx]; rfl)) (h2 : (⟨unE h, b, n, unH h⟩ : St) = s' := by rw [dJ, dK]) : Nv Tryz.prog rs s' r ⟨e, b, n, h⟩ := ⟨h1 fx, by subst h2; exact ⟨rfl, rfl, rfl, Nat.le_refl _⟩⟩
theorem tlo {p : List Nat → Prop} {l : List (List Nat)} (h : ∀ x ∈ l, p x) : ∀ x ∈ l.tail, p x := fun x hx => h x (List.mem_of_mem_tail hx)
theorem hO {p : Prop} (h : p := by first | exact vZ ho | exact vZ (tlo ho) | exact vZ (tlo (tlo ho)) | exact vZ (tlo (tlo (tlo ho))) | exact vZ (tlo (tlo (tlo (tlo ho)))) | assumption) : p := h
theorem hL {p : Prop} (h : p := by first | exact zt hw | exact zt (tlo hw) | exact zt (tlo (tlo hw)) | exact zt (tlo (tlo (tlo hw))) | exact zt (tlo (tlo (tlo (tlo hw)))) | (show _ ≤ _; simp only [hdW, List.headD_cons]; omega)) : p := h
theorem hT {p : Prop} (h : p := by first | exact Nat.le_of_ble_eq_true rfl | assumption | skip; (try simp only [List.length_tail, List.length_cons]); omega) : p := h
theorem fL (L : List (List Nat)) (b k : Nat) {w : List Nat} {l : List (List Nat)} {tg : Tag} (hb : bx b = some (108, rdC (w :: l) false) := by exact hQ) (hl : l.length ≤ 1000000000 := by exact hT) (ho : oct w := by exact jI _ rfl) (hLo : ∀ x ∈ L, oct x := by first | exact Pq | exact aj0 | exact ajE) (hLl : L.length ≤ 1000 := by decide) (hk : 1 ≤ k ∧ k < L.length := by decide) (hw : L.getD k [] = w := by exact rfl) (hne : ∀ j, j < k → 1 ≤ j → L.getD j [] ≠ w := by first | decide | (intro j h1 h2; omega)) :
  GoodZ Tryz.prog 92 [.ref b 0, .sl tg 1 (sv L)] ⟨e, bx, n, h⟩ ⟨e, upd bx b (some (108, rdC l false)), n, h⟩ (vi k) := yR _ _ _ _ b w l tg L k hb hl ho hLo hLl hk hw hne
def zw (b : Nat) {l : List (List Nat)} {bad : Bool} (hb : bx b = some (108, rdC l bad) := by exact hQ) (hl : l.length ≤ 1000000 := by exact hT) := Ec e bx n h b l bad hb hl
def zn (b : Nat) {l : List (List Nat)} {bad : Bool} (hb : bx b = some (108, rdC l bad) := by exact hQ) (hl : l.length ≤ 1000000 := by exact hT) (ho : oct (hdW l) := by exact hO) (hw : (hdW l).length ≤ 1000000 := by exact hL) := Ed e bx n h b l bad hb hl ho hw
def zk (b : Nat) {l : List (List Nat)} {bad : Bool} (hb : bx b = some (108, rdC l bad) := by exact hQ) (hl : l.length ≤ 1000000 := by exact hT) (ho : oct (hdW l) := by exact hO) (hw : (hdW l).length ≤ 1000000 := by exact hL) := aa5 e bx n h b l bad hb hl ho hw
def zb (b : Nat) {l : List (List Nat)} {bad : Bool} (hb : bx b = some (108, rdC l bad) := by exact hQ) (hbn : b < n := by omega) (hl : l.length ≤ 1000000 := by exact hT) (ho : oct (hdW l) := by exact hO) (hw : (hdW l).length ≤ 1000000 := by exact hL) := RU e bx n h b l bad hb hbn hl ho hw
def zW (b : Nat) {w : List Nat} {l : List (List Nat)} {bad : Bool} (hb : bx b = some (108, rdC (w :: l) bad) := by exact hQ) (hl : l.length ≤ 1000000000 := by exact hT) := vY e bx n h b w l bad hb hl
def zN (b : Nat) {w : List Nat} {l : List (List Nat)} (hb : bx b = some (108, rdC (w :: l) false) := by exact hQ) (hl : l.length ≤ 1000000000 := by exact hT) (ho : oct w := by first | exact hoh | exact hoi) (hw : w.length ≤ 1000000 := by omega) (hp : (aZ w).2 = 0 := by first | exact hph | exact hpi) := Aa e bx n h b w l hb hl ho hw hp
def zs (b : Nat) {u : Nat} {l : List (List Nat)} {bad : Bool} (hb : bx b = some (108, rdC (jy u :: l) bad) := by exact hQ) (hl : l.length ≤ 100000 := by exact hT) (hu : u < 18446744073709551616 := by assumption) := afx e bx n h b u hu l bad hb hl
theorem zEz {F C p : Prop} (fx : F) (cx : C) (h : F → C → p := by intro fx cx; (repeat' first | refine wP fx trivial ?_ | refine cZ (zW b) ?_ | refine cZ (zw b) ?_ | refine cZ (zN b) ?_ | refine cZ (zn b) ?_ | refine cZ (zk b) ?_ | refine cZ (zs b) ?_ | refine cZ (zb b) ?_ | refine cZ (cx b) ?_ | refine cZ (cx b (n + 1 + 1)) ?_ | fail); exact iA fx) : p := h fx cx
abbrev oZ (k : Int) : O := ⟨k, [], [], [], 0, 0, 0, 0, [], [], 0, 0, 0, 0, 0, 0, 0, [], 0, 0, 0, []⟩
abbrev oC (o : O) : List V := opC o nls nls nls nls
theorem Gz (b : Nat) {l : List (List Nat)} (hb : bx b = some (108, rdC ([116, 111, 116, 97, 108] :: l) false) := by exact hQ) (hbn : b < n := by omega) (hl : l.length ≤ 100000 := by exact hT) (ho : ∀ x ∈ l, oct x := by assumption) (hw : ∀ x ∈ l, x.length ≤ 1000000 := by assumption) : GoodZ Tryz.prog 95 [.ref b 0] ⟨e, bx, n, h⟩ ⟨e, upd bx b (some (108, rdC l false)), n + 10, h⟩ (.agg [vi 1, vs [], vi 0, vi 0, vi 0]) := by
 exact gG Tryz.func95 Tryz.results95 rfl (by refine wP (fg hb hbn) iH ?_; refine cZ (fL gu b 1) ?_; exact zEz (fg hb hbn) trivial)
theorem GG (b : Nat) {l : List (List Nat)} (hb : bx b = some (108, rdC ([112, 111, 105, 110, 116] :: l) false) := by exact hQ) (hbn : b < n := by omega) (hl : l.length ≤ 100000 := by exact hT) (ho : ∀ x ∈ l, oct x := by assumption) (hw : ∀ x ∈ l, x.length ≤ 1000000 := by assumption) : GoodZ Tryz.prog 95 [.ref b 0] ⟨e, bx, n, h⟩ ⟨e, upd bx b (some (108, rdC l.tail (qW l))), n + 10, h⟩ (.agg [vi 2, vs (pk (hdW l)).1, vi 0, vi 0, vi 0]) := by
 exact gG Tryz.func95 Tryz.results95 rfl (by refine wP (fg hb hbn) iH ?_; refine cZ (fL gu b 2) ?_; exact zEz (fg hb hbn) trivial)
theorem GH (b : Nat) {l : List (List Nat)} (hb : bx b = some (108, rdC ([114, 101, 103, 105, 115, 116, 101, 114, 115] :: l) false) := by exact hQ) (hbn : b < n := by omega) (hl : l.length ≤ 100000 := by exact hT) (ho : ∀ x ∈ l, oct x := by assumption) (hw : ∀ x ∈ l, x.length ≤ 1000000 := by assumption) : GoodZ Tryz.prog 95 [.ref b 0] ⟨e, bx, n, h⟩ ⟨e, upd bx b (some (108, rdC l false)), n + 10, h⟩ (.agg [vi 3, vs [], vi 0, vi 0, vi 0]) := by
 exact gG Tryz.func95 Tryz.results95 rfl (by refine wP (fg hb hbn) iH ?_; refine cZ (fL gu b 3) ?_; exact zEz (fg hb hbn) trivial)
theorem GI (b : Nat) {l : List (List Nat)} (hb : bx b = some (108, rdC ([100, 105, 115, 116, 105, 110, 99, 116] :: l) false) := by exact hQ) (hbn : b < n := by omega) (hl : l.length ≤ 100000 := by exact hT) (ho : ∀ x ∈ l, oct x := by assumption) (hw : ∀ x ∈ l, x.length ≤ 1000000 := by assumption) : GoodZ Tryz.prog 95 [.ref b 0] ⟨e, bx, n, h⟩ ⟨e, upd bx b (some (108, rdC l false)), n + 10, h⟩ (.agg [vi 4, vs [], vi 0, vi 0, vi 0]) := by
 exact gG Tryz.func95 Tryz.results95 rfl (by refine wP (fg hb hbn) iH ?_; refine cZ (fL gu b 4) ?_; exact zEz (fg hb hbn) trivial)
theorem GK (b : Nat) {l : List (List Nat)} (hb : bx b = some (108, rdC ([116, 111, 112] :: l) false) := by exact hQ) (hbn : b < n := by omega) (hl : l.length ≤ 100000 := by exact hT) (ho : ∀ x ∈ l, oct x := by assumption) (hw : ∀ x ∈ l, x.length ≤ 1000000 := by assumption) : GoodZ Tryz.prog 95 [.ref b 0] ⟨e, bx, n, h⟩ ⟨e, upd bx b (some (108, rdC l.tail (iE l))), n + 10, h⟩ (.agg [vi 5, vs [], vi (aZ (hdW l)).1, vi 0, vi 0]) := by
 exact gG Tryz.func95 Tryz.results95 rfl (by refine wP (fg hb hbn) iH ?_; refine cZ (fL gu b 5) ?_; exact zEz (fg hb hbn) trivial)
theorem GL (b : Nat) {l : List (List Nat)} (hb : bx b = some (108, rdC ([114, 97, 110, 107] :: l) false) := by exact hQ) (hbn : b < n := by omega) (hl : l.length ≤ 100000 := by exact hT) (ho : ∀ x ∈ l, oct x := by assumption) (hw : ∀ x ∈ l, x.length ≤ 1000000 := by assumption) : GoodZ Tryz.prog 95 [.ref b 0] ⟨e, bx, n, h⟩ ⟨e, upd bx b (some (108, rdC l.tail (qW l))), n + 10, h⟩ (.agg [vi 6, vs (pk (hdW l)).1, vi 0, vi 0, vi 0]) := by
 exact gG Tryz.func95 Tryz.results95 rfl (by refine wP (fg hb hbn) iH ?_; refine cZ (fL gu b 6) ?_; exact zEz (fg hb hbn) trivial)
theorem GM (b : Nat) {l : List (List Nat)} (hb : bx b = some (108, rdC ([113, 117, 97, 110, 116, 105, 108, 101] :: l) false) := by exact hQ) (hbn : b < n := by omega) (hl : l.length ≤ 100000 := by exact hT) (ho : ∀ x ∈ l, oct x := by assumption) (hw : ∀ x ∈ l, x.length ≤ 1000000 := by assumption) : GoodZ Tryz.prog 95 [.ref b 0] ⟨e, bx, n, h⟩ ⟨e, upd bx b (some (108, rdC l.tail.tail (iE l || iE l.tail))), n + 10, h⟩ (.agg [vi 7, vs [], vi 0, vi (aZ (hdW l)).1, vi (aZ (hdW l.tail)).1]) := by
 exact gG Tryz.func95 Tryz.results95 rfl (by refine wP (fg hb hbn) iH ?_; refine cZ (fL gu b 7) ?_; exact zEz (fg hb hbn) trivial)
theorem PY (b : Nat) {l : List (List Nat)} (hb : bx b = some (108, rdC ([116, 97, 108, 108, 121] :: l) false) := by exact hQ) (hbn : b < n := by omega) (hl : l.length ≤ 100000 := by exact hT) (ho : ∀ x ∈ l, oct x := by assumption) (hw : ∀ x ∈ l, x.length ≤ 1000000 := by assumption) : GoodZ Tryz.prog 94 [.ref b 0] ⟨e, bx, n, h⟩ ⟨e, upd bx b (some (108, rdC l false)), n + 10, h⟩ (.agg [vi 1, vi 0, vi 0, vu 0]) := by
 exact gG Tryz.func94 Tryz.results94 rfl (by refine wP (fg hb hbn) lG ?_; refine cZ (fL kN b 1) ?_; exact zEz (fg hb hbn) trivial)
theorem PZ (b : Nat) {l : List (List Nat)} (hb : bx b = some (108, rdC ([116, 111, 112] :: l) false) := by exact hQ) (hbn : b < n := by omega) (hl : l.length ≤ 100000 := by exact hT) (ho : ∀ x ∈ l, oct x := by assumption) (hw : ∀ x ∈ l, x.length ≤ 1000000 := by assumption) : GoodZ Tryz.prog 94 [.ref b 0] ⟨e, bx, n, h⟩ ⟨e, upd bx b (some (108, rdC l.tail (iE l))), n + 10, h⟩ (.agg [vi 4, vi (aZ (hdW l)).1, vi 0, vu 0]) := by
 exact gG Tryz.func94 Tryz.results94 rfl (by refine wP (fg hb hbn) lG ?_; refine cZ (fL kN b 4) ?_; exact zEz (fg hb hbn) trivial)
theorem P5 (b : Nat) {l : List (List Nat)} (hb : bx b = some (108, rdC ([102, 114, 101, 113, 117, 101, 110, 116] :: l) false) := by exact hQ) (hbn : b < n := by omega) (hl : l.length ≤ 100000 := by exact hT) (ho : ∀ x ∈ l, oct x := by assumption) (hw : ∀ x ∈ l, x.length ≤ 1000000 := by assumption) : GoodZ Tryz.prog 94 [.ref b 0] ⟨e, bx, n, h⟩ ⟨e, upd bx b (some (108, rdC l.tail (iE l))), n + 10, h⟩ (.agg [vi 5, vi (aZ (hdW l)).1, vi 0, vu 0]) := by
 exact gG Tryz.func94 Tryz.results94 rfl (by refine wP (fg hb hbn) lG ?_; refine cZ (fL kN b 5) ?_; exact zEz (fg hb hbn) trivial)
theorem P6 (b : Nat) {l : List (List Nat)} (hb : bx b = some (108, rdC ([114, 97, 110, 107, 115] :: l) false) := by exact hQ) (hbn : b < n := by omega) (hl : l.length ≤ 100000 := by exact hT) (ho : ∀ x ∈ l, oct x := by assumption) (hw : ∀ x ∈ l, x.length ≤ 1000000 := by assumption) : GoodZ Tryz.prog 94 [.ref b 0] ⟨e, bx, n, h⟩ ⟨e, upd bx b (some (108, rdC l.tail (iE l))), n + 10, h⟩ (.agg [vi 6, vi (aZ (hdW l)).1, vi 0, vu 0]) := by
 exact gG Tryz.func94 Tryz.results94 rfl (by refine wP (fg hb hbn) lG ?_; refine cZ (fL kN b 6) ?_; exact zEz (fg hb hbn) trivial)
theorem P7 (b : Nat) {dw zw : List Nat} {u : Nat} {l : List (List Nat)} (hb : bx b = some (108, rdC ([99, 111, 117, 110, 116, 109, 105, 110] :: dw :: zw :: jy u :: l) false) := by exact hQ) (hbn : b < n := by omega) (hod : oct dw := by assumption) (hwd : dw.length ≤ 100000 := by assumption) (hoz : oct zw := by assumption) (hwz : zw.length ≤ 100000 := by assumption) (hu : u < 18446744073709551616 := by assumption) (hl : l.length ≤ 10000 := by exact hT) : GoodZ Tryz.prog 94 [.ref b 0] ⟨e, bx, n, h⟩ ⟨e, upd bx b (some (108, rdC l (iE (dw :: zw :: jy u :: l) || iE (zw :: jy u :: l)))), n + 10, h⟩ (.agg [vi 2, vi (aZ zw).1, vi (aZ dw).1, vu u]) := by
 exact gG Tryz.func94 Tryz.results94 rfl (by refine wP (fg hb hbn) lG ?_; refine cZ (fL kN b 2) ?_; exact zEz (fg hb hbn) trivial)
theorem P8 (b : Nat) {zw : List Nat} {u : Nat} {l : List (List Nat)} (hb : bx b = some (108, rdC ([108, 111, 103, 108, 111, 103] :: zw :: jy u :: l) false) := by exact hQ) (hbn : b < n := by omega) (hoz : oct zw := by assumption) (hwz : zw.length ≤ 100000 := by assumption) (hu : u < 18446744073709551616 := by assumption) (hl : l.length ≤ 10000 := by exact hT) : GoodZ Tryz.prog 94 [.ref b 0] ⟨e, bx, n, h⟩ ⟨e, upd bx b (some (108, rdC l (iE (zw :: jy u :: l)))), n + 10, h⟩ (.agg [vi 3, vi (aZ zw).1, vi 0, vu u]) := by
 exact gG Tryz.func94 Tryz.results94 rfl (by refine wP (fg hb hbn) lG ?_; refine cZ (fL kN b 3) ?_; exact zEz (fg hb hbn) trivial)
theorem MK (b c : Nat) {l : List (List Nat)} (hb : bx b = some (108, rdC (l) false) := by exact hQ) (hcx : bx c = some (32, oC (oZ 11)) := by exact hQ) (hcb : c ≠ b := by omega) (hcn : c < n := by omega) (hbn : b < n := by omega) (hl : l.length ≤ 100000 := by exact hT) (ho : ∀ x ∈ l, oct x := by assumption) (hw : ∀ x ∈ l, x.length ≤ 1000000 := by assumption) : GoodZ Tryz.prog 99 [.ref b 0, .ref c 0] ⟨e, bx, n, h⟩ ⟨e, upd (upd bx b (some (108, rdC l.tail (iE l)))) c (some (32, oC { oZ 11 with hnd := (aZ (hdW l)).1 })), n + 10, h⟩ (.tup []) := by
 exact gG Tryz.func99 Tryz.results99 rfl (by exact zEz (fh hb hcx hcb) trivial)
theorem ML (b c : Nat) {l : List (List Nat)} (hb : bx b = some (108, rdC (l) false) := by exact hQ) (hcx : bx c = some (32, oC (oZ 12)) := by exact hQ) (hcb : c ≠ b := by omega) (hcn : c < n := by omega) (hbn : b < n := by omega) (hl : l.length ≤ 100000 := by exact hT) (ho : ∀ x ∈ l, oct x := by assumption) (hw : ∀ x ∈ l, x.length ≤ 1000000 := by assumption) : GoodZ Tryz.prog 99 [.ref b 0, .ref c 0] ⟨e, bx, n, h⟩ ⟨e, upd (upd bx b (some (108, rdC l.tail.tail (iE l || iE l.tail)))) c (some (32, oC { oZ 12 with hnd := (aZ (hdW l)).1, idx := (aZ (hdW l.tail)).1 })), n + 10, h⟩ (.tup []) := by
 exact gG Tryz.func99 Tryz.results99 rfl (by exact zEz (fh hb hcx hcb) trivial)
theorem MM (b c : Nat) {l : List (List Nat)} (hb : bx b = some (108, rdC (l) false) := by exact hQ) (hcx : bx c = some (32, oC (oZ 15)) := by exact hQ) (hcb : c ≠ b := by omega) (hcn : c < n := by omega) (hbn : b < n := by omega) (hl : l.length ≤ 100000 := by exact hT) (ho : ∀ x ∈ l, oct x := by assumption) (hw : ∀ x ∈ l, x.length ≤ 1000000 := by assumption) : GoodZ Tryz.prog 99 [.ref b 0, .ref c 0] ⟨e, bx, n, h⟩ ⟨e, upd (upd bx b (some (108, rdC l.tail.tail (iE l || iE l.tail)))) c (some (32, oC { oZ 15 with hnd := (aZ (hdW l)).1, idx := (aZ (hdW l.tail)).1 })), n + 10, h⟩ (.tup []) := by
 exact gG Tryz.func99 Tryz.results99 rfl (by exact zEz (fh hb hcx hcb) trivial)
theorem E8 (b c : Nat) {hw1 iw1 : List Nat} {l : List (List Nat)} (hb : bx b = some (108, rdC (hw1 :: iw1 :: [116, 111, 116, 97, 108] :: l) false) := by exact hQ) (hcx : bx c = some (32, oC (oZ 10)) := by exact hQ) (hcb : c ≠ b := by omega) (hcn : c < n := by omega) (hbn : b < n := by omega) (hl : l.length ≤ 100000 := by exact hT) (ho : ∀ x ∈ l, oct x := by assumption) (hw : ∀ x ∈ l, x.length ≤ 1000000 := by assumption) (hoh : oct hw1 := by assumption) (hwh : hw1.length ≤ 100000 := by assumption) (hoi : oct iw1 := by assumption) (hwi : iw1.length ≤ 100000 := by assumption) (hph : (aZ hw1).2 = 0 := by assumption) (hpi : (aZ iw1).2 = 0 := by assumption) : GoodZ Tryz.prog 99 [.ref b 0, .ref c 0] ⟨e, bx, n, h⟩ ⟨e, upd (upd bx b (some (108, rdC l false))) c (some (32, oC { oZ 10 with hnd := (aZ hw1).1, idx := (aZ iw1).1, qk := 1 })), n + 20, h⟩ (.tup []) := by
 exact gG Tryz.func99 Tryz.results99 rfl (by exact zEz (fh hb hcx hcb) @Gz)
theorem Fa (b c : Nat) {hw1 iw1 : List Nat} {l : List (List Nat)} (hb : bx b = some (108, rdC (hw1 :: iw1 :: [112, 111, 105, 110, 116] :: l) false) := by exact hQ) (hcx : bx c = some (32, oC (oZ 10)) := by exact hQ) (hcb : c ≠ b := by omega) (hcn : c < n := by omega) (hbn : b < n := by omega) (hl : l.length ≤ 100000 := by exact hT) (ho : ∀ x ∈ l, oct x := by assumption) (hw : ∀ x ∈ l, x.length ≤ 1000000 := by assumption) (hoh : oct hw1 := by assumption) (hwh : hw1.length ≤ 100000 := by assumption) (hoi : oct iw1 := by assumption) (hwi : iw1.length ≤ 100000 := by assumption) (hph : (aZ hw1).2 = 0 := by assumption) (hpi : (aZ iw1).2 = 0 := by assumption) : GoodZ Tryz.prog 99 [.ref b 0, .ref c 0] ⟨e, bx, n, h⟩ ⟨e, upd (upd bx b (some (108, rdC l.tail (qW l)))) c (some (32, oC { oZ 10 with hnd := (aZ hw1).1, idx := (aZ iw1).1, qk := 2, qkey := (pk (hdW l)).1 })), n + 20, h⟩ (.tup []) := by
 exact gG Tryz.func99 Tryz.results99 rfl (by exact zEz (fh hb hcx hcb) @GG)
theorem Fb (b c : Nat) {hw1 iw1 : List Nat} {l : List (List Nat)} (hb : bx b = some (108, rdC (hw1 :: iw1 :: [114, 101, 103, 105, 115, 116, 101, 114, 115] :: l) false) := by exact hQ) (hcx : bx c = some (32, oC (oZ 10)) := by exact hQ) (hcb : c ≠ b := by omega) (hcn : c < n := by omega) (hbn : b < n := by omega) (hl : l.length ≤ 100000 := by exact hT) (ho : ∀ x ∈ l, oct x := by assumption) (hw : ∀ x ∈ l, x.length ≤ 1000000 := by assumption) (hoh : oct hw1 := by assumption) (hwh : hw1.length ≤ 100000 := by assumption) (hoi : oct iw1 := by assumption) (hwi : iw1.length ≤ 100000 := by assumption) (hph : (aZ hw1).2 = 0 := by assumption) (hpi : (aZ iw1).2 = 0 := by assumption) : GoodZ Tryz.prog 99 [.ref b 0, .ref c 0] ⟨e, bx, n, h⟩ ⟨e, upd (upd bx b (some (108, rdC l false))) c (some (32, oC { oZ 10 with hnd := (aZ hw1).1, idx := (aZ iw1).1, qk := 3 })), n + 20, h⟩ (.tup []) := by
 exact gG Tryz.func99 Tryz.results99 rfl (by exact zEz (fh hb hcx hcb) @GH)
theorem Fe (b c : Nat) {hw1 iw1 : List Nat} {l : List (List Nat)} (hb : bx b = some (108, rdC (hw1 :: iw1 :: [100, 105, 115, 116, 105, 110, 99, 116] :: l) false) := by exact hQ) (hcx : bx c = some (32, oC (oZ 10)) := by exact hQ) (hcb : c ≠ b := by omega) (hcn : c < n := by omega) (hbn : b < n := by omega) (hl : l.length ≤ 100000 := by exact hT) (ho : ∀ x ∈ l, oct x := by assumption) (hw : ∀ x ∈ l, x.length ≤ 1000000 := by assumption) (hoh : oct hw1 := by assumption) (hwh : hw1.length ≤ 100000 := by assumption) (hoi : oct iw1 := by assumption) (hwi : iw1.length ≤ 100000 := by assumption) (hph : (aZ hw1).2 = 0 := by assumption) (hpi : (aZ iw1).2 = 0 := by assumption) : GoodZ Tryz.prog 99 [.ref b 0, .ref c 0] ⟨e, bx, n, h⟩ ⟨e, upd (upd bx b (some (108, rdC l false))) c (some (32, oC { oZ 10 with hnd := (aZ hw1).1, idx := (aZ iw1).1, qk := 4 })), n + 20, h⟩ (.tup []) := by
 exact gG Tryz.func99 Tryz.results99 rfl (by exact zEz (fh hb hcx hcb) @GI)
theorem Ff (b c : Nat) {hw1 iw1 : List Nat} {l : List (List Nat)} (hb : bx b = some (108, rdC (hw1 :: iw1 :: [116, 111, 112] :: l) false) := by exact hQ) (hcx : bx c = some (32, oC (oZ 10)) := by exact hQ) (hcb : c ≠ b := by omega) (hcn : c < n := by omega) (hbn : b < n := by omega) (hl : l.length ≤ 100000 := by exact hT) (ho : ∀ x ∈ l, oct x := by assumption) (hw : ∀ x ∈ l, x.length ≤ 1000000 := by assumption) (hoh : oct hw1 := by assumption) (hwh : hw1.length ≤ 100000 := by assumption) (hoi : oct iw1 := by assumption) (hwi : iw1.length ≤ 100000 := by assumption) (hph : (aZ hw1).2 = 0 := by assumption) (hpi : (aZ iw1).2 = 0 := by assumption) : GoodZ Tryz.prog 99 [.ref b 0, .ref c 0] ⟨e, bx, n, h⟩ ⟨e, upd (upd bx b (some (108, rdC l.tail (iE l)))) c (some (32, oC { oZ 10 with hnd := (aZ hw1).1, idx := (aZ iw1).1, qk := 5, qc := (aZ (hdW l)).1 })), n + 20, h⟩ (.tup []) := by
 exact gG Tryz.func99 Tryz.results99 rfl (by exact zEz (fh hb hcx hcb) @GK)
theorem Fg (b c : Nat) {hw1 iw1 : List Nat} {l : List (List Nat)} (hb : bx b = some (108, rdC (hw1 :: iw1 :: [114, 97, 110, 107] :: l) false) := by exact hQ) (hcx : bx c = some (32, oC (oZ 10)) := by exact hQ) (hcb : c ≠ b := by omega) (hcn : c < n := by omega) (hbn : b < n := by omega) (hl : l.length ≤ 100000 := by exact hT) (ho : ∀ x ∈ l, oct x := by assumption) (hw : ∀ x ∈ l, x.length ≤ 1000000 := by assumption) (hoh : oct hw1 := by assumption) (hwh : hw1.length ≤ 100000 := by assumption) (hoi : oct iw1 := by assumption) (hwi : iw1.length ≤ 100000 := by assumption) (hph : (aZ hw1).2 = 0 := by assumption) (hpi : (aZ iw1).2 = 0 := by assumption) : GoodZ Tryz.prog 99 [.ref b 0, .ref c 0] ⟨e, bx, n, h⟩ ⟨e, upd (upd bx b (some (108, rdC l.tail (qW l)))) c (some (32, oC { oZ 10 with hnd := (aZ hw1).1, idx := (aZ iw1).1, qk := 6, qkey := (pk (hdW l)).1 })), n + 20, h⟩ (.tup []) := by
 exact gG Tryz.func99 Tryz.results99 rfl (by exact zEz (fh hb hcx hcb) @GL)
theorem Fh (b c : Nat) {hw1 iw1 : List Nat} {l : List (List Nat)} (hb : bx b = some (108, rdC (hw1 :: iw1 :: [113, 117, 97, 110, 116, 105, 108, 101] :: l) false) := by exact hQ) (hcx : bx c = some (32, oC (oZ 10)) := by exact hQ) (hcb : c ≠ b := by omega) (hcn : c < n := by omega) (hbn : b < n := by omega) (hl : l.length ≤ 100000 := by exact hT) (ho : ∀ x ∈ l, oct x := by assumption) (hw : ∀ x ∈ l, x.length ≤ 1000000 := by assumption) (hoh : oct hw1 := by assumption) (hwh : hw1.length ≤ 100000 := by assumption) (hoi : oct iw1 := by assumption) (hwi : iw1.length ≤ 100000 := by assumption) (hph : (aZ hw1).2 = 0 := by assumption) (hpi : (aZ iw1).2 = 0 := by assumption) : GoodZ Tryz.prog 99 [.ref b 0, .ref c 0] ⟨e, bx, n, h⟩ ⟨e, upd (upd bx b (some (108, rdC l.tail.tail (iE l || iE l.tail)))) c (some (32, oC { oZ 10 with hnd := (aZ hw1).1, idx := (aZ iw1).1, qk := 7, qn := (aZ (hdW l)).1, qd := (aZ (hdW l.tail)).1 })), n + 20, h⟩ (.tup []) := by
 exact gG Tryz.func99 Tryz.results99 rfl (by exact zEz (fh hb hcx hcb) @GM)
end Go.Proofs.YtjiolbcdfgclaaaGreatDoor
end
section
namespace Go.Proofs.YtjiolbcdfgclaaaGreatDoor
open Go Go.Pg
variable {e : Nat → V} {bx : Nat → Option (TypeId × List V)} {n : Nat} {h : Nat → V}
theorem aca (b : Nat) {nm : List Nat} {l : List (List Nat)} (hb : bx b = some (108, rdC ([99, 114, 101, 97, 116, 101] :: nm :: [116, 97, 108, 108, 121] :: l) false) := by exact hQ) (hbn : b < n := by omega) (hl : l.length ≤ 100000 := by exact hT) (ho : ∀ x ∈ l, oct x := by assumption) (hw : ∀ x ∈ l, x.length ≤ 1000000 := by assumption) : GoodZ Tryz.prog 54 [.ref b 0] ⟨e, bx, n, h⟩ ⟨e, upd bx b (some (108, rdC l false)), n + 10000000, h⟩ (.agg (oC { oZ 1 with name := nm, pk := 1 })) := by
 exact gG Tryz.func54 Tryz.results54 rfl (by refine wP (fg hb hbn) aN ?_; refine cZ (fL aH b 1) ?_; exact zEz (fg hb hbn) @PY)
theorem acb (b : Nat) {nm : List Nat} {l : List (List Nat)} (hb : bx b = some (108, rdC ([99, 114, 101, 97, 116, 101] :: nm :: [116, 111, 112] :: l) false) := by exact hQ) (hbn : b < n := by omega) (hl : l.length ≤ 100000 := by exact hT) (ho : ∀ x ∈ l, oct x := by assumption) (hw : ∀ x ∈ l, x.length ≤ 1000000 := by assumption) : GoodZ Tryz.prog 54 [.ref b 0] ⟨e, bx, n, h⟩ ⟨e, upd bx b (some (108, rdC l.tail (iE l))), n + 10000000, h⟩ (.agg (oC { oZ 1 with name := nm, pk := 4, pz := (aZ (hdW l)).1 })) := by
 exact gG Tryz.func54 Tryz.results54 rfl (by refine wP (fg hb hbn) aN ?_; refine cZ (fL aH b 1) ?_; exact zEz (fg hb hbn) @PZ)
theorem acd (b : Nat) {nm : List Nat} {l : List (List Nat)} (hb : bx b = some (108, rdC ([99, 114, 101, 97, 116, 101] :: nm :: [102, 114, 101, 113, 117, 101, 110, 116] :: l) false) := by exact hQ) (hbn : b < n := by omega) (hl : l.length ≤ 100000 := by exact hT) (ho : ∀ x ∈ l, oct x := by assumption) (hw : ∀ x ∈ l, x.length ≤ 1000000 := by assumption) : GoodZ Tryz.prog 54 [.ref b 0] ⟨e, bx, n, h⟩ ⟨e, upd bx b (some (108, rdC l.tail (iE l))), n + 10000000, h⟩ (.agg (oC { oZ 1 with name := nm, pk := 5, pz := (aZ (hdW l)).1 })) := by
 exact gG Tryz.func54 Tryz.results54 rfl (by refine wP (fg hb hbn) aN ?_; refine cZ (fL aH b 1) ?_; exact zEz (fg hb hbn) @P5)
theorem ace (b : Nat) {nm : List Nat} {l : List (List Nat)} (hb : bx b = some (108, rdC ([99, 114, 101, 97, 116, 101] :: nm :: [114, 97, 110, 107, 115] :: l) false) := by exact hQ) (hbn : b < n := by omega) (hl : l.length ≤ 100000 := by exact hT) (ho : ∀ x ∈ l, oct x := by assumption) (hw : ∀ x ∈ l, x.length ≤ 1000000 := by assumption) : GoodZ Tryz.prog 54 [.ref b 0] ⟨e, bx, n, h⟩ ⟨e, upd bx b (some (108, rdC l.tail (iE l))), n + 10000000, h⟩ (.agg (oC { oZ 1 with name := nm, pk := 6, pz := (aZ (hdW l)).1 })) := by
 exact gG Tryz.func54 Tryz.results54 rfl (by refine wP (fg hb hbn) aN ?_; refine cZ (fL aH b 1) ?_; exact zEz (fg hb hbn) @P6)
theorem acf (b : Nat) {nm dw zw : List Nat} {u : Nat} {l : List (List Nat)} (hb : bx b = some (108, rdC ([99, 114, 101, 97, 116, 101] :: nm :: [99, 111, 117, 110, 116, 109, 105, 110] :: dw :: zw :: jy u :: l) false) := by exact hQ) (hbn : b < n := by omega) (hod : oct dw := by assumption) (hwd : dw.length ≤ 100000 := by assumption) (hoz : oct zw := by assumption) (hwz : zw.length ≤ 100000 := by assumption) (hu : u < 18446744073709551616 := by assumption) (hl : l.length ≤ 1000 := by exact hT) : GoodZ Tryz.prog 54 [.ref b 0] ⟨e, bx, n, h⟩ ⟨e, upd bx b (some (108, rdC l (iE (dw :: zw :: jy u :: l) || iE (zw :: jy u :: l)))), n + 10000000, h⟩ (.agg (oC { oZ 1 with name := nm, pk := 2, pz := (aZ zw).1, pd := (aZ dw).1, ps := (u : Int) })) := by
 exact gG Tryz.func54 Tryz.results54 rfl (by refine wP (fg hb hbn) aN ?_; refine cZ (fL aH b 1) ?_; exact zEz (fg hb hbn) @P7)
theorem acg (b : Nat) {nm zw : List Nat} {u : Nat} {l : List (List Nat)} (hb : bx b = some (108, rdC ([99, 114, 101, 97, 116, 101] :: nm :: [108, 111, 103, 108, 111, 103] :: zw :: jy u :: l) false) := by exact hQ) (hbn : b < n := by omega) (hoz : oct zw := by assumption) (hwz : zw.length ≤ 100000 := by assumption) (hu : u < 18446744073709551616 := by assumption) (hl : l.length ≤ 1000 := by exact hT) : GoodZ Tryz.prog 54 [.ref b 0] ⟨e, bx, n, h⟩ ⟨e, upd bx b (some (108, rdC l (iE (zw :: jy u :: l)))), n + 10000000, h⟩ (.agg (oC { oZ 1 with name := nm, pk := 3, pz := (aZ zw).1, ps := (u : Int) })) := by
 exact gG Tryz.func54 Tryz.results54 rfl (by refine wP (fg hb hbn) aN ?_; refine cZ (fL aH b 1) ?_; exact zEz (fg hb hbn) @P8)
theorem aj1 (b : Nat) {l : List (List Nat)} (hb : bx b = some (108, rdC ([100, 114, 111, 112] :: l) false) := by exact hQ) (hbn : b < n := by omega) (hl : l.length ≤ 100000 := by exact hT) (ho : ∀ x ∈ l, oct x := by assumption) (hw : ∀ x ∈ l, x.length ≤ 1000000 := by assumption) : GoodZ Tryz.prog 54 [.ref b 0] ⟨e, bx, n, h⟩ ⟨e, upd bx b (some (108, rdC l.tail l.isEmpty)), n + 10000000, h⟩ (.agg (oC { oZ 2 with name := hdW l })) := by
 exact gG Tryz.func54 Tryz.results54 rfl (by refine wP (fg hb hbn) aN ?_; refine cZ (fL aH b 2) ?_; exact zEz (fg hb hbn) trivial)
theorem aj2 (b : Nat) {l : List (List Nat)} (hb : bx b = some (108, rdC ([114, 101, 110, 97, 109, 101] :: l) false) := by exact hQ) (hbn : b < n := by omega) (hl : l.length ≤ 100000 := by exact hT) (ho : ∀ x ∈ l, oct x := by assumption) (hw : ∀ x ∈ l, x.length ≤ 1000000 := by assumption) : GoodZ Tryz.prog 54 [.ref b 0] ⟨e, bx, n, h⟩ ⟨e, upd bx b (some (108, rdC l.tail.tail (l.isEmpty || l.tail.isEmpty))), n + 10000000, h⟩ (.agg (oC { oZ 3 with name := hdW l, other := hdW l.tail })) := by
 exact gG Tryz.func54 Tryz.results54 rfl (by refine wP (fg hb hbn) aN ?_; refine cZ (fL aH b 3) ?_; exact zEz (fg hb hbn) trivial)
theorem aj3 (b : Nat) {l : List (List Nat)} (hb : bx b = some (108, rdC ([108, 105, 115, 116] :: l) false) := by exact hQ) (hbn : b < n := by omega) (hl : l.length ≤ 100000 := by exact hT) (ho : ∀ x ∈ l, oct x := by assumption) (hw : ∀ x ∈ l, x.length ≤ 1000000 := by assumption) : GoodZ Tryz.prog 54 [.ref b 0] ⟨e, bx, n, h⟩ ⟨e, upd bx b (some (108, rdC l false)), n + 10000000, h⟩ (.agg (oC (oZ 4))) := by
 exact gG Tryz.func54 Tryz.results54 rfl (by refine wP (fg hb hbn) aN ?_; refine cZ (fL aH b 4) ?_; exact zEz (fg hb hbn) trivial)
theorem agp (b : Nat) {l : List (List Nat)} (hb : bx b = some (108, rdC ([99, 111, 108, 108, 101, 99, 116] :: l) false) := by exact hQ) (hbn : b < n := by omega) (hl : l.length ≤ 100000 := by exact hT) (ho : ∀ x ∈ l, oct x := by assumption) (hw : ∀ x ∈ l, x.length ≤ 1000000 := by assumption) : GoodZ Tryz.prog 54 [.ref b 0] ⟨e, bx, n, h⟩ ⟨e, upd bx b (some (108, rdC l false)), n + 10000000, h⟩ (.agg (oC (oZ 17))) := by
 exact gG Tryz.func54 Tryz.results54 rfl (by refine wP (fg hb hbn) aN ?_; refine cZ (fL aH b 17) ?_; exact zEz (fg hb hbn) trivial)
theorem ach (b : Nat) {nm : List Nat} {l : List (List Nat)} (hb : bx b = some (108, rdC ([113, 117, 101, 114, 121] :: nm :: [116, 111, 116, 97, 108] :: l) false) := by exact hQ) (hbn : b < n := by omega) (hl : l.length ≤ 100000 := by exact hT) (ho : ∀ x ∈ l, oct x := by assumption) (hw : ∀ x ∈ l, x.length ≤ 1000000 := by assumption) : GoodZ Tryz.prog 54 [.ref b 0] ⟨e, bx, n, h⟩ ⟨e, upd bx b (some (108, rdC l false)), n + 10000000, h⟩ (.agg (oC { oZ 5 with name := nm, qk := 1 })) := by
 exact gG Tryz.func54 Tryz.results54 rfl (by refine wP (fg hb hbn) aN ?_; refine cZ (fL aH b 5) ?_; exact zEz (fg hb hbn) @Gz)
theorem aci (b : Nat) {nm : List Nat} {l : List (List Nat)} (hb : bx b = some (108, rdC ([113, 117, 101, 114, 121] :: nm :: [112, 111, 105, 110, 116] :: l) false) := by exact hQ) (hbn : b < n := by omega) (hl : l.length ≤ 100000 := by exact hT) (ho : ∀ x ∈ l, oct x := by assumption) (hw : ∀ x ∈ l, x.length ≤ 1000000 := by assumption) : GoodZ Tryz.prog 54 [.ref b 0] ⟨e, bx, n, h⟩ ⟨e, upd bx b (some (108, rdC l.tail (qW l))), n + 10000000, h⟩ (.agg (oC { oZ 5 with name := nm, qk := 2, qkey := (pk (hdW l)).1 })) := by
 exact gG Tryz.func54 Tryz.results54 rfl (by refine wP (fg hb hbn) aN ?_; refine cZ (fL aH b 5) ?_; exact zEz (fg hb hbn) @GG)
theorem acj (b : Nat) {nm : List Nat} {l : List (List Nat)} (hb : bx b = some (108, rdC ([113, 117, 101, 114, 121] :: nm :: [114, 101, 103, 105, 115, 116, 101, 114, 115] :: l) false) := by exact hQ) (hbn : b < n := by omega) (hl : l.length ≤ 100000 := by exact hT) (ho : ∀ x ∈ l, oct x := by assumption) (hw : ∀ x ∈ l, x.length ≤ 1000000 := by assumption) : GoodZ Tryz.prog 54 [.ref b 0] ⟨e, bx, n, h⟩ ⟨e, upd bx b (some (108, rdC l false)), n + 10000000, h⟩ (.agg (oC { oZ 5 with name := nm, qk := 3 })) := by
 exact gG Tryz.func54 Tryz.results54 rfl (by refine wP (fg hb hbn) aN ?_; refine cZ (fL aH b 5) ?_; exact zEz (fg hb hbn) @GH)
theorem ack (b : Nat) {nm : List Nat} {l : List (List Nat)} (hb : bx b = some (108, rdC ([113, 117, 101, 114, 121] :: nm :: [100, 105, 115, 116, 105, 110, 99, 116] :: l) false) := by exact hQ) (hbn : b < n := by omega) (hl : l.length ≤ 100000 := by exact hT) (ho : ∀ x ∈ l, oct x := by assumption) (hw : ∀ x ∈ l, x.length ≤ 1000000 := by assumption) : GoodZ Tryz.prog 54 [.ref b 0] ⟨e, bx, n, h⟩ ⟨e, upd bx b (some (108, rdC l false)), n + 10000000, h⟩ (.agg (oC { oZ 5 with name := nm, qk := 4 })) := by
 exact gG Tryz.func54 Tryz.results54 rfl (by refine wP (fg hb hbn) aN ?_; refine cZ (fL aH b 5) ?_; exact zEz (fg hb hbn) @GI)
theorem acl (b : Nat) {nm : List Nat} {l : List (List Nat)} (hb : bx b = some (108, rdC ([113, 117, 101, 114, 121] :: nm :: [116, 111, 112] :: l) false) := by exact hQ) (hbn : b < n := by omega) (hl : l.length ≤ 100000 := by exact hT) (ho : ∀ x ∈ l, oct x := by assumption) (hw : ∀ x ∈ l, x.length ≤ 1000000 := by assumption) : GoodZ Tryz.prog 54 [.ref b 0] ⟨e, bx, n, h⟩ ⟨e, upd bx b (some (108, rdC l.tail (iE l))), n + 10000000, h⟩ (.agg (oC { oZ 5 with name := nm, qk := 5, qc := (aZ (hdW l)).1 })) := by
 exact gG Tryz.func54 Tryz.results54 rfl (by refine wP (fg hb hbn) aN ?_; refine cZ (fL aH b 5) ?_; exact zEz (fg hb hbn) @GK)
theorem acm (b : Nat) {nm : List Nat} {l : List (List Nat)} (hb : bx b = some (108, rdC ([113, 117, 101, 114, 121] :: nm :: [114, 97, 110, 107] :: l) false) := by exact hQ) (hbn : b < n := by omega) (hl : l.length ≤ 100000 := by exact hT) (ho : ∀ x ∈ l, oct x := by assumption) (hw : ∀ x ∈ l, x.length ≤ 1000000 := by assumption) : GoodZ Tryz.prog 54 [.ref b 0] ⟨e, bx, n, h⟩ ⟨e, upd bx b (some (108, rdC l.tail (qW l))), n + 10000000, h⟩ (.agg (oC { oZ 5 with name := nm, qk := 6, qkey := (pk (hdW l)).1 })) := by
 exact gG Tryz.func54 Tryz.results54 rfl (by refine wP (fg hb hbn) aN ?_; refine cZ (fL aH b 5) ?_; exact zEz (fg hb hbn) @GL)
theorem acn (b : Nat) {nm : List Nat} {l : List (List Nat)} (hb : bx b = some (108, rdC ([113, 117, 101, 114, 121] :: nm :: [113, 117, 97, 110, 116, 105, 108, 101] :: l) false) := by exact hQ) (hbn : b < n := by omega) (hl : l.length ≤ 100000 := by exact hT) (ho : ∀ x ∈ l, oct x := by assumption) (hw : ∀ x ∈ l, x.length ≤ 1000000 := by assumption) : GoodZ Tryz.prog 54 [.ref b 0] ⟨e, bx, n, h⟩ ⟨e, upd bx b (some (108, rdC l.tail.tail (iE l || iE l.tail))), n + 10000000, h⟩ (.agg (oC { oZ 5 with name := nm, qk := 7, qn := (aZ (hdW l)).1, qd := (aZ (hdW l.tail)).1 })) := by
 exact gG Tryz.func54 Tryz.results54 rfl (by refine wP (fg hb hbn) aN ?_; refine cZ (fL aH b 5) ?_; exact zEz (fg hb hbn) @GM)
theorem aco (b : Nat) {l : List (List Nat)} (hb : bx b = some (108, rdC ([109, 101, 114, 103, 101] :: l) false) := by exact hQ) (hbn : b < n := by omega) (hl : l.length ≤ 100000 := by exact hT) (ho : ∀ x ∈ l, oct x := by assumption) (hw : ∀ x ∈ l, x.length ≤ 1000000 := by assumption) : GoodZ Tryz.prog 54 [.ref b 0] ⟨e, bx, n, h⟩ ⟨e, upd bx b (some (108, rdC l.tail.tail.tail ((l.isEmpty || l.tail.isEmpty) || l.tail.tail.isEmpty || oH (hdW l.tail.tail)))), n + 10000000, h⟩ (.agg (opC { oZ 7 with name := hdW l, other := hdW l.tail } nls nls (byR (n + 3) (hdW l.tail.tail)) nls)) := by
 exact gG Tryz.func54 Tryz.results54 rfl (by refine wP (fg hb hbn) aN ?_; refine cZ (fL aH b 7) ?_; exact zEz (fg hb hbn) trivial)
theorem acp (b : Nat) {l : List (List Nat)} (hb : bx b = some (108, rdC ([99, 111, 109, 112, 97, 114, 101] :: l) false) := by exact hQ) (hbn : b < n := by omega) (hl : l.length ≤ 100000 := by exact hT) (ho : ∀ x ∈ l, oct x := by assumption) (hw : ∀ x ∈ l, x.length ≤ 1000000 := by assumption) : GoodZ Tryz.prog 54 [.ref b 0] ⟨e, bx, n, h⟩ ⟨e, upd bx b (some (108, rdC l.tail.tail.tail.tail.tail ((((l.isEmpty || l.tail.isEmpty) || l.tail.tail.isEmpty || oH (hdW l.tail.tail)) || iE l.tail.tail.tail) || iE l.tail.tail.tail.tail))), n + 10000000, h⟩ (.agg (opC { oZ 8 with name := hdW l, other := hdW l.tail, exp := (aZ (hdW l.tail.tail.tail)).1, src := (aZ (hdW l.tail.tail.tail.tail)).1 } nls nls (byR (n + 3) (hdW l.tail.tail)) nls)) := by
 exact gG Tryz.func54 Tryz.results54 rfl (by refine wP (fg hb hbn) aN ?_; refine cZ (fL aH b 8) ?_; exact zEz (fg hb hbn) trivial)
theorem aj6 (b : Nat) {l : List (List Nat)} (hb : bx b = some (108, rdC ([111, 112, 101, 110] :: l) false) := by exact hQ) (hbn : b < n := by omega) (hl : l.length ≤ 1000 := by exact hT) : GoodZ Tryz.prog 54 [.ref b 0] ⟨e, bx, n, h⟩ ⟨e, upd bx b (some (108, [nls, vb false])), n + 10000000, h⟩ (.agg (opC (oZ 9) (.sl (.own (n + 3) 9) 1 (sv l)) nls nls nls)) := by
 exact gG Tryz.func54 Tryz.results54 rfl (by have q1 := au l; refine wP (fg hb hbn) aN ?_; refine cZ (fL aH b 9) ?_; exact zEz (fg hb hbn) trivial)
theorem agq (b : Nat) {l : List (List Nat)} (hb : bx b = some (108, rdC ([99, 108, 111, 115, 101] :: l) false) := by exact hQ) (hbn : b < n := by omega) (hl : l.length ≤ 100000 := by exact hT) (ho : ∀ x ∈ l, oct x := by assumption) (hw : ∀ x ∈ l, x.length ≤ 1000000 := by assumption) : GoodZ Tryz.prog 54 [.ref b 0] ⟨e, bx, n, h⟩ ⟨e, upd bx b (some (108, rdC l.tail (iE l))), n + 10000000, h⟩ (.agg (oC { oZ 11 with hnd := (aZ (hdW l)).1 })) := by
 exact gG Tryz.func54 Tryz.results54 rfl (by refine wP (fg hb hbn) aN ?_; refine cZ (fL aH b 11) ?_; exact zEz (fg hb hbn) @MK)
theorem agr (b : Nat) {l : List (List Nat)} (hb : bx b = some (108, rdC ([99, 117, 114, 115, 111, 114] :: l) false) := by exact hQ) (hbn : b < n := by omega) (hl : l.length ≤ 100000 := by exact hT) (ho : ∀ x ∈ l, oct x := by assumption) (hw : ∀ x ∈ l, x.length ≤ 1000000 := by assumption) : GoodZ Tryz.prog 54 [.ref b 0] ⟨e, bx, n, h⟩ ⟨e, upd bx b (some (108, rdC l.tail.tail (iE l || iE l.tail))), n + 10000000, h⟩ (.agg (oC { oZ 12 with hnd := (aZ (hdW l)).1, idx := (aZ (hdW l.tail)).1 })) := by
 exact gG Tryz.func54 Tryz.results54 rfl (by refine wP (fg hb hbn) aN ?_; refine cZ (fL aH b 12) ?_; exact zEz (fg hb hbn) @ML)
theorem ags (b : Nat) {l : List (List Nat)} (hb : bx b = some (108, rdC ([101, 120, 112, 111, 114, 116] :: l) false) := by exact hQ) (hbn : b < n := by omega) (hl : l.length ≤ 100000 := by exact hT) (ho : ∀ x ∈ l, oct x := by assumption) (hw : ∀ x ∈ l, x.length ≤ 1000000 := by assumption) : GoodZ Tryz.prog 54 [.ref b 0] ⟨e, bx, n, h⟩ ⟨e, upd bx b (some (108, rdC l.tail.tail (iE l || iE l.tail))), n + 10000000, h⟩ (.agg (oC { oZ 15 with hnd := (aZ (hdW l)).1, idx := (aZ (hdW l.tail)).1 })) := by
 exact gG Tryz.func54 Tryz.results54 rfl (by refine wP (fg hb hbn) aN ?_; refine cZ (fL aH b 15) ?_; exact zEz (fg hb hbn) @MM)
theorem VM (b : Nat) {hw1 iw1 : List Nat} {l : List (List Nat)} (hb : bx b = some (108, rdC ([114, 101, 97, 100] :: hw1 :: iw1 :: [116, 111, 116, 97, 108] :: l) false) := by exact hQ) (hbn : b < n := by omega) (hl : l.length ≤ 100000 := by exact hT) (ho : ∀ x ∈ l, oct x := by assumption) (hw : ∀ x ∈ l, x.length ≤ 1000000 := by assumption) (hoh : oct hw1 := by assumption) (hwh : hw1.length ≤ 100000 := by assumption) (hoi : oct iw1 := by assumption) (hwi : iw1.length ≤ 100000 := by assumption) (hph : (aZ hw1).2 = 0 := by assumption) (hpi : (aZ iw1).2 = 0 := by assumption) : GoodZ Tryz.prog 54 [.ref b 0] ⟨e, bx, n, h⟩ ⟨e, upd bx b (some (108, rdC l false)), n + 10000000, h⟩ (.agg (oC { oZ 10 with hnd := (aZ hw1).1, idx := (aZ iw1).1, qk := 1 })) := by
 exact gG Tryz.func54 Tryz.results54 rfl (by refine wP (fg hb hbn) aN ?_; refine cZ (fL aH b 10) ?_; exact zEz (fg hb hbn) @E8)
theorem VN (b : Nat) {hw1 iw1 : List Nat} {l : List (List Nat)} (hb : bx b = some (108, rdC ([114, 101, 97, 100] :: hw1 :: iw1 :: [112, 111, 105, 110, 116] :: l) false) := by exact hQ) (hbn : b < n := by omega) (hl : l.length ≤ 100000 := by exact hT) (ho : ∀ x ∈ l, oct x := by assumption) (hw : ∀ x ∈ l, x.length ≤ 1000000 := by assumption) (hoh : oct hw1 := by assumption) (hwh : hw1.length ≤ 100000 := by assumption) (hoi : oct iw1 := by assumption) (hwi : iw1.length ≤ 100000 := by assumption) (hph : (aZ hw1).2 = 0 := by assumption) (hpi : (aZ iw1).2 = 0 := by assumption) : GoodZ Tryz.prog 54 [.ref b 0] ⟨e, bx, n, h⟩ ⟨e, upd bx b (some (108, rdC l.tail (qW l))), n + 10000000, h⟩ (.agg (oC { oZ 10 with hnd := (aZ hw1).1, idx := (aZ iw1).1, qk := 2, qkey := (pk (hdW l)).1 })) := by
 exact gG Tryz.func54 Tryz.results54 rfl (by refine wP (fg hb hbn) aN ?_; refine cZ (fL aH b 10) ?_; exact zEz (fg hb hbn) @Fa)
theorem VO (b : Nat) {hw1 iw1 : List Nat} {l : List (List Nat)} (hb : bx b = some (108, rdC ([114, 101, 97, 100] :: hw1 :: iw1 :: [114, 101, 103, 105, 115, 116, 101, 114, 115] :: l) false) := by exact hQ) (hbn : b < n := by omega) (hl : l.length ≤ 100000 := by exact hT) (ho : ∀ x ∈ l, oct x := by assumption) (hw : ∀ x ∈ l, x.length ≤ 1000000 := by assumption) (hoh : oct hw1 := by assumption) (hwh : hw1.length ≤ 100000 := by assumption) (hoi : oct iw1 := by assumption) (hwi : iw1.length ≤ 100000 := by assumption) (hph : (aZ hw1).2 = 0 := by assumption) (hpi : (aZ iw1).2 = 0 := by assumption) : GoodZ Tryz.prog 54 [.ref b 0] ⟨e, bx, n, h⟩ ⟨e, upd bx b (some (108, rdC l false)), n + 10000000, h⟩ (.agg (oC { oZ 10 with hnd := (aZ hw1).1, idx := (aZ iw1).1, qk := 3 })) := by
 exact gG Tryz.func54 Tryz.results54 rfl (by refine wP (fg hb hbn) aN ?_; refine cZ (fL aH b 10) ?_; exact zEz (fg hb hbn) @Fb)
theorem VP (b : Nat) {hw1 iw1 : List Nat} {l : List (List Nat)} (hb : bx b = some (108, rdC ([114, 101, 97, 100] :: hw1 :: iw1 :: [100, 105, 115, 116, 105, 110, 99, 116] :: l) false) := by exact hQ) (hbn : b < n := by omega) (hl : l.length ≤ 100000 := by exact hT) (ho : ∀ x ∈ l, oct x := by assumption) (hw : ∀ x ∈ l, x.length ≤ 1000000 := by assumption) (hoh : oct hw1 := by assumption) (hwh : hw1.length ≤ 100000 := by assumption) (hoi : oct iw1 := by assumption) (hwi : iw1.length ≤ 100000 := by assumption) (hph : (aZ hw1).2 = 0 := by assumption) (hpi : (aZ iw1).2 = 0 := by assumption) : GoodZ Tryz.prog 54 [.ref b 0] ⟨e, bx, n, h⟩ ⟨e, upd bx b (some (108, rdC l false)), n + 10000000, h⟩ (.agg (oC { oZ 10 with hnd := (aZ hw1).1, idx := (aZ iw1).1, qk := 4 })) := by
 exact gG Tryz.func54 Tryz.results54 rfl (by refine wP (fg hb hbn) aN ?_; refine cZ (fL aH b 10) ?_; exact zEz (fg hb hbn) @Fe)
theorem VQ (b : Nat) {hw1 iw1 : List Nat} {l : List (List Nat)} (hb : bx b = some (108, rdC ([114, 101, 97, 100] :: hw1 :: iw1 :: [116, 111, 112] :: l) false) := by exact hQ) (hbn : b < n := by omega) (hl : l.length ≤ 100000 := by exact hT) (ho : ∀ x ∈ l, oct x := by assumption) (hw : ∀ x ∈ l, x.length ≤ 1000000 := by assumption) (hoh : oct hw1 := by assumption) (hwh : hw1.length ≤ 100000 := by assumption) (hoi : oct iw1 := by assumption) (hwi : iw1.length ≤ 100000 := by assumption) (hph : (aZ hw1).2 = 0 := by assumption) (hpi : (aZ iw1).2 = 0 := by assumption) : GoodZ Tryz.prog 54 [.ref b 0] ⟨e, bx, n, h⟩ ⟨e, upd bx b (some (108, rdC l.tail (iE l))), n + 10000000, h⟩ (.agg (oC { oZ 10 with hnd := (aZ hw1).1, idx := (aZ iw1).1, qk := 5, qc := (aZ (hdW l)).1 })) := by
 exact gG Tryz.func54 Tryz.results54 rfl (by refine wP (fg hb hbn) aN ?_; refine cZ (fL aH b 10) ?_; exact zEz (fg hb hbn) @Ff)
theorem VR (b : Nat) {hw1 iw1 : List Nat} {l : List (List Nat)} (hb : bx b = some (108, rdC ([114, 101, 97, 100] :: hw1 :: iw1 :: [114, 97, 110, 107] :: l) false) := by exact hQ) (hbn : b < n := by omega) (hl : l.length ≤ 100000 := by exact hT) (ho : ∀ x ∈ l, oct x := by assumption) (hw : ∀ x ∈ l, x.length ≤ 1000000 := by assumption) (hoh : oct hw1 := by assumption) (hwh : hw1.length ≤ 100000 := by assumption) (hoi : oct iw1 := by assumption) (hwi : iw1.length ≤ 100000 := by assumption) (hph : (aZ hw1).2 = 0 := by assumption) (hpi : (aZ iw1).2 = 0 := by assumption) : GoodZ Tryz.prog 54 [.ref b 0] ⟨e, bx, n, h⟩ ⟨e, upd bx b (some (108, rdC l.tail (qW l))), n + 10000000, h⟩ (.agg (oC { oZ 10 with hnd := (aZ hw1).1, idx := (aZ iw1).1, qk := 6, qkey := (pk (hdW l)).1 })) := by
 exact gG Tryz.func54 Tryz.results54 rfl (by refine wP (fg hb hbn) aN ?_; refine cZ (fL aH b 10) ?_; exact zEz (fg hb hbn) @Fg)
theorem VS (b : Nat) {hw1 iw1 : List Nat} {l : List (List Nat)} (hb : bx b = some (108, rdC ([114, 101, 97, 100] :: hw1 :: iw1 :: [113, 117, 97, 110, 116, 105, 108, 101] :: l) false) := by exact hQ) (hbn : b < n := by omega) (hl : l.length ≤ 100000 := by exact hT) (ho : ∀ x ∈ l, oct x := by assumption) (hw : ∀ x ∈ l, x.length ≤ 1000000 := by assumption) (hoh : oct hw1 := by assumption) (hwh : hw1.length ≤ 100000 := by assumption) (hoi : oct iw1 := by assumption) (hwi : iw1.length ≤ 100000 := by assumption) (hph : (aZ hw1).2 = 0 := by assumption) (hpi : (aZ iw1).2 = 0 := by assumption) : GoodZ Tryz.prog 54 [.ref b 0] ⟨e, bx, n, h⟩ ⟨e, upd bx b (some (108, rdC l.tail.tail (iE l || iE l.tail))), n + 10000000, h⟩ (.agg (oC { oZ 10 with hnd := (aZ hw1).1, idx := (aZ iw1).1, qk := 7, qn := (aZ (hdW l)).1, qd := (aZ (hdW l.tail)).1 })) := by
 exact gG Tryz.func54 Tryz.results54 rfl (by refine wP (fg hb hbn) aN ?_; refine cZ (fL aH b 10) ?_; exact zEz (fg hb hbn) @Fh)
theorem agt (b : Nat) {l : List (List Nat)} (hb : bx b = some (108, rdC ([110, 101, 120, 116] :: l) false) := by exact hQ) (hbn : b < n := by omega) (hl : l.length ≤ 100000 := by exact hT) (ho : ∀ x ∈ l, oct x := by assumption) (hw : ∀ x ∈ l, x.length ≤ 1000000 := by assumption) : GoodZ Tryz.prog 54 [.ref b 0] ⟨e, bx, n, h⟩ ⟨e, upd bx b (some (108, rdC l.tail.tail (iE l || iE l.tail))), n + 10000000, h⟩ (.agg (oC { oZ 13 with cur := (aZ (hdW l)).1, cnt := (aZ (hdW l.tail)).1 })) := by
 exact gG Tryz.func54 Tryz.results54 rfl (by refine wP (fg hb hbn) aN ?_; refine cZ (fL aH b 13) ?_; exact zEz (fg hb hbn) trivial)
theorem agu (b : Nat) {l : List (List Nat)} (hb : bx b = some (108, rdC ([101, 110, 100] :: l) false) := by exact hQ) (hbn : b < n := by omega) (hl : l.length ≤ 100000 := by exact hT) (ho : ∀ x ∈ l, oct x := by assumption) (hw : ∀ x ∈ l, x.length ≤ 1000000 := by assumption) : GoodZ Tryz.prog 54 [.ref b 0] ⟨e, bx, n, h⟩ ⟨e, upd bx b (some (108, rdC l.tail (iE l))), n + 10000000, h⟩ (.agg (oC { oZ 14 with cur := (aZ (hdW l)).1 })) := by
 exact gG Tryz.func54 Tryz.results54 rfl (by refine wP (fg hb hbn) aN ?_; refine cZ (fL aH b 14) ?_; exact zEz (fg hb hbn) trivial)
theorem S9 (b : Nat) {l : List (List Nat)} (hb : bx b = some (108, rdC ([105, 109, 112, 111, 114, 116] :: l) false) := by exact hQ) (hbn : b < n := by omega) (hl : l.length ≤ 100000 := by exact hT) (ho : ∀ x ∈ l, oct x := by assumption) (hw : ∀ x ∈ l, x.length ≤ 1000000 := by assumption) : GoodZ Tryz.prog 54 [.ref b 0] ⟨e, bx, n, h⟩ ⟨e, upd bx b (some (108, rdC l.tail.tail (l.isEmpty || l.tail.isEmpty || oH (hdW l.tail)))), n + 10000000, h⟩ (.agg (opC { oZ 16 with name := hdW l } nls nls nls (byR (n + 3) (hdW l.tail)))) := by
 exact gG Tryz.func54 Tryz.results54 rfl (by refine wP (fg hb hbn) aN ?_; refine cZ (fL aH b 16) ?_; exact zEz (fg hb hbn) trivial)
end Go.Proofs.YtjiolbcdfgclaaaGreatDoor
end
