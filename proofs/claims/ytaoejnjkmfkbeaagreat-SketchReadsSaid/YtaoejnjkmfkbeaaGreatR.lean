/-
  SketchReads: for every input the law returns true and the input reads as it did. No condition.
-/
import Derived.Test.YtaoejnjkmfkbeaaGreatWBN
import Derived.Test.YtaoejnjkmfkbeaaGreatWBI
set_option linter.unusedVariables false
set_option linter.unusedSimpArgs false
set_option linter.unusedSectionVars false
set_option linter.defProp false
set_option maxRecDepth 100000
set_option maxHeartbeats 8000000
section
namespace Go.Proofs.YtaoejnjkmfkbeaaGreat
open Go Go.ChangeShapes Go.WideShapes Go.ChangeAt Go.RowKit
theorem aij {n : Int} (h : (Lit.int .u8 n).wf = true) : 0 ≤ n ∧ n ≤ 255 := by
 simp only [Lit.wf, Bool.and_eq_true, decide_eq_true_eq] at h
 have e1 : IntKind.u8.min = 0 := rfl
 have e2 : IntKind.u8.max = 255 := rfl
 rw [e1, e2] at h
 exact h
section
variable {H : Type} {enc : TypeId × Value → H} {w : World} {base : Nat} {spare : Nat → Bool} {held : Bool} {P : Program}
theorem aiJ : Pg.Elem enc Tryz.prog w base spare held 5 1 (fun n : Nat => n < 256) (fun n => Pg.V.c (.int .u8 (n : Int))) (fun n => [Value.int .u8 (n : Int)]) where
 pos := by decide
 cells := by kernel_rfl
 len := fun _ => rfl
 get := fun n cs x h => by
  obtain ⟨m, rfl, _, hw⟩ := DataW.trod_int Tryz.underlying5 h
  have hm := aij hw
  exact ⟨m.toNat, by omega, by rw [Int.toNat_of_nonneg hm.1]⟩
 rep := fun n L w' => ⟨.int .u8 (n : Int), by simp [Value.cells], rfl, ⟨rfl, rfl⟩, rfl⟩
theorem ahN {n : Nat} {v : Value} {a : Option Addr} {len cap : Nat} {x : DataW H × List MemPlace} (hv : v = .slice a len cap) (h : DataW.trod enc Tryz.prog w base spare held n 48 v.cells.toList = some x) : ∃ l : List Nat, Pg.oct l ∧ l.length ≤ 9223372036854775807 ∧ Pg.Rep (LW w) w (fzb l) v := by
 subst hv
 obtain ⟨l, hl, u, e, r⟩ := Pg.ae4 aiJ Tryz.underlying48 h
 have hu : u = .slice a len cap := by simp [Value.cells] at e; exact e.symm
 subst hu
 refine ⟨l, fun b hb => hl b hb, ?_, r⟩
 obtain ⟨b, c, row, h1, _, h2, _⟩ := r
 injection h1 with h1 h3 h4
 have hll : (List.map (fun (n : Nat) => Pg.V.c (.int .u8 (n : Int))) l).length = l.length := List.length_map ..
 rcases DataW.trod_slice Tryz.underlying48 h with ⟨g, _⟩ | ⟨a', len', cap', _, _, _, _, g, _, _, g2, g3, _⟩
 ·simp [Value.cells] at g
  omega
 ·simp [Value.cells] at g
  have : maxLen = 9223372036854775807 := rfl
  omega
theorem ahi {t t' t'' t3 t4 : TypeId} {args : Array Value} {ds : List (DataW H)} {ps : List MemPlace} (h : DataW.TrodAll enc P w base spare held [t, t', t'', t3, t4] args.toList ds ps) :
  ∃ v v' v'' v3 v4 d d' d'' d3 d4 p p' p'' p3 p4, args = #[v, v', v'', v3, v4] ∧ ds = [d, d', d'', d3, d4] ∧ ps = p ++ p' ++ p'' ++ p3 ++ p4 ∧ DataW.Trod enc P w base spare held t v d p ∧ DataW.Trod enc P w base spare held t' v' d' p' ∧ DataW.Trod enc P w base spare held t'' v'' d'' p'' ∧ DataW.Trod enc P w base spare held t3 v3 d3 p3 ∧ DataW.Trod enc P w base spare held t4 v4 d4 p4 := by
 obtain ⟨v, vs, d, ds', p, q, hargs, rfl, rfl, hd, hrest⟩ := trodAll_cons h
 obtain ⟨v', vs', d', ds'', p', q', rfl, rfl, rfl, hd', hrest'⟩ := trodAll_cons hrest
 obtain ⟨v'', vs'', d'', ds''', p'', q'', rfl, rfl, rfl, hd'', hrest''⟩ := trodAll_cons hrest'
 obtain ⟨v3, vs3, d3, ds3, p3, q3, rfl, rfl, rfl, hd3, hrest3⟩ := trodAll_cons hrest''
 obtain ⟨v4, vs4, d4, ds4, p4, q4, rfl, rfl, rfl, hd4, hrest4⟩ := trodAll_cons hrest3
 obtain ⟨rfl, rfl, rfl⟩ := trodAll_nil hrest4
 exact ⟨v, v', v'', v3, v4, d, d', d'', d3, d4, p, p', p'', p3, p4, by cases args; simp_all, rfl, by simp, hd, hd', hd'', hd3, hd4⟩
theorem ahs {t t' t'' t3 t4 : TypeId} {v v' v'' v3 v4 : Value} {d d' d'' d3 d4 : DataW H} {p p' p'' p3 p4 : List MemPlace} (h : DataW.Trod enc P w base spare held t v d p) (h' : DataW.Trod enc P w base spare held t' v' d' p')
  (h'' : DataW.Trod enc P w base spare held t'' v'' d'' p'') (h3 : DataW.Trod enc P w base spare held t3 v3 d3 p3) (h4 : DataW.Trod enc P w base spare held t4 v4 d4 p4) : DataW.TrodAll enc P w base spare held [t, t', t'', t3, t4] [v, v', v'', v3, v4] [d, d', d'', d3, d4] (p ++ (p' ++ (p'' ++ (p3 ++ p4)))) := ⟨p, p' ++ (p'' ++ (p3 ++ p4)), h, trodAll_mk4 h' h'' h3 h4, rfl⟩
end
theorem MI (os : Os) (started : os.Started) (H : Type) (enc : TypeId × Value → H) :
  ReturnsInHanded {} Tryz.checked os 8 .any (Rows.sketchReadsSpec.pre6 enc Tryz.prog Tryz.f8 Rows.sketchReadsRow.domain false) (Rows.sketchReadsSpec.post enc Tryz.prog Tryz.f8 false true false false) := by
 refine returnsInHanded_of_change (C := Tryz.checked) own started (by kernel_rfl) Tryz.func8
  (ChangeSpec.witness6 (enc := enc) (C := Tryz.checked) false ⟨#[], #[.slice none 0 0, .int .u8 0, .slice none 0 0, .int .i64 0, .int .u8 0], []⟩ 8 (by kernel_rfl) (by kernel_rfl) (by kernel_rfl) (by kernel_rfl)) ?_
 intro W base args ds gs before hval0 hW _ _
 have hval : ∀ (j : Nat) t v, Tryz.f8.params[j]? = some t → args[j]? = some v → Value.okWide Tryz.prog W .any base t v := hval0
 have hW' := hW
 obtain ⟨p, q, hA0, hV, rfl, _, _⟩ := hW
 have hA : DataW.TrodAll enc Tryz.prog W 0 (fun _ => true) true Tryz.f8.params.toList args.toList ds p := hA0
 rw [Tryz.params8] at hA hval
 obtain ⟨v0, v1, v2, v3, v4, d0, d1, d2, d3, d4, p0, p1, p2, p3, p4, rfl, rfl, rfl, h0, h1, h2, h3, h4⟩ := ahi hA
 obtain ⟨rfl, rfl⟩ := trodVars_none hV
 obtain ⟨a0, len0, cap0, hv0⟩ := okWide_slice Tryz.underlying48 (hval 0 48 v0 rfl rfl)
 obtain ⟨n1, rfl, rfl, rfl, w1⟩ := open_int Tryz.underlying5 (hval 1 5 v1 rfl rfl) h1
 obtain ⟨a2, len2, cap2, hv2⟩ := okWide_slice Tryz.underlying22 (hval 2 22 v2 rfl rfl)
 obtain ⟨n3, rfl, rfl, rfl, w3⟩ := open_int Tryz.underlying3 (hval 3 3 v3 rfl rfl) h3
 obtain ⟨n4, rfl, rfl, rfl, w4⟩ := open_int Tryz.underlying5 (hval 4 5 v4 rfl rfl) h4
 clear hA0 hval0
 simp only [List.append_nil] at hW'
 have hlt : ∀ x ∈ p0 ++ p2, x.block < W.heap.size := fun x hx => by simpa using hW'.lt x (by simpa using hx)
 have h0' := h0
 obtain ⟨fuel0, hf0⟩ := h0'
 obtain ⟨body, hob, hbl, hr0⟩ := ahN hv0 hf0
 have h2' := h2
 obtain ⟨fuel2, hf2⟩ := h2'
 obtain ⟨l, hll, hr2⟩ := RZ hv2 hf2
 have u1 := aij w1
 have u4 := aij w4
 have hgood := ag3 body n1.toNat l n3 n4.toNat hob (by omega) (by omega) hbl hll
 rw [Int.toNat_of_nonneg u1.1, Int.toNat_of_nonneg u4.1] at hgood
 refine (hgood.2 (fun g => g < W.heap.size) W [v0, .int .u8 n1, v2, .int .i64 n3, .int .u8 n4] trivial (fun g h => h) ⟨_, _, rfl, hr0, _, _, rfl, rfl, _, _, rfl, hr2, _, _, rfl, rfl, _, _, rfl, rfl, rfl⟩).mono ?_
 rintro e W' ⟨u, L, rfl, hu, hk, _⟩
 have hu' : u = .bool true := hu
 subst hu'
 have hb := ae3 hk
 have harg0 : DataW.Trod enc Tryz.prog W' 0 (fun b => decide (b < W.heap.size)) true 48 v0 d0 p0 :=
  Below.trod abv (by kernel_rfl) (of_decide_eq_true (by kernel_rfl)) h0 hb (fun x hx => hlt x (List.mem_append_left _ hx))
 have harg2 : DataW.Trod enc Tryz.prog W' 0 (fun b => decide (b < W.heap.size)) true 22 v2 d2 p2 :=
  Below.trod abv (by kernel_rfl) (of_decide_eq_true (by kernel_rfl)) h2 hb (fun x hx => hlt x (List.mem_append_right _ hx))
 refine ⟨_, rfl, _, _, _, [], _, _, hW', ?_, ahs harg0 (shut_int Tryz.underlying5 w1) harg2 (shut_int Tryz.underlying3 w3) (shut_int Tryz.underlying5 w4), rfl, hb.frame _, fun h => by cases h⟩
 exact trodAll_mk1 (shut_bool Tryz.underlying4 _)
theorem agD : (Rows.sketchReadsRow.inPlace == Tryz.prog.inPlace 8) = true := by kernel_rfl
theorem agE : (Rows.sketchReadsRow.unfollowed == Tryz.prog.unfollowed 8) = true := by kernel_rfl
theorem agF : (Rows.sketchReadsRow.recurses == Tryz.prog.recurses 8) = true := by kernel_rfl
theorem agG : (Rows.sketchReadsRow.named == Tryz.prog.varsNamed 8) = true := by kernel_rfl
theorem jf : joinedFacts Tryz.prog 8 Tryz.f8 Rows.sketchReadsSpec Rows.sketchReadsRow = true := by
 unfold joinedFacts
 rw [agD, agE, agF, agG]
 kernel_rfl
theorem law_holds : Rows.SketchReadsSaid :=
 OpenClaim.holds_of_wide 8 Tryz.f8 rfl rfl rfl rfl rfl rfl rfl ⟨rfl, rfl, rfl, rfl, rfl⟩ rfl rfl rfl rfl rfl (by kernel_rfl) Tryz.func8 jf
  (of_decide_eq_true (by kernel_rfl)) (by unfold Func.isWrapper; first | (rw [if_pos (by decide +kernel)]; kernel_rfl) | (rw [if_neg (by decide +kernel)]; exact ⟨rfl, rfl⟩))
  (fun os started H enc _ => MI os started H enc)
end Go.Proofs.YtaoejnjkmfkbeaaGreat
end
