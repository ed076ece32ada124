/-
  Texts of this claim, merged: PgNRw. Each bears its own remark.
-/
import Derived.Test.YtkgebocldjhflaaDoorX
import Derived.Test.YtkgebocldjhflaaDoorC4
import Derived.Lay
set_option linter.unusedVariables false
set_option linter.unusedSimpArgs false
set_option linter.unusedSectionVars false
section
/-
  NamesWords: for every input the law returns true and the input reads as it did: the row and its card.
-/
namespace Go.Proofs.YtkgebocldjhflaaDoor
open Go Go.ChangeShapes Go.WideShapes Go.ChangeAt Go.RowKit
open Go.ChangeMaps (open_string shut_string)

theorem door_met7 (os : Os) (args : Array Value) : laidMetH Tryd.prog Rows.namesWordsRow.laid ((World.laidAll Tryd.prog os Rows.namesWordsRow.laid).forCall (fun _ _ => 0) ⟨#[], args, []⟩).memory := by
  rw [MakeChecks.laidMetH_plain _ _ _ (by kernel_rfl)]
  exact laidMet_laidAll _ (by kernel_rfl) (by kernel_rfl)

set_option maxRecDepth 100000 in
theorem lifted7 (os : Os) (started : os.Started) (H : Type) (enc : TypeId × Value → H) :
    ReturnsInHanded {} Tryd.checked os 7 .any (fun w args => (Rows.namesWordsSpec.pre enc Tryd.prog Tryd.f7 [] false w args ∧ laidMetH Tryd.prog Rows.namesWordsRow.laid w) ∧ sizedMet enc Tryd.prog Tryd.f7 (OpenSpec.ofChange Rows.namesWordsSpec) false w args)
      (Rows.namesWordsSpec.post enc Tryd.prog Tryd.f7 false true false false) := by
  refine handed_shaped_and (C := Tryd.checked) (X := fun w _ => laidMetH Tryd.prog Rows.namesWordsRow.laid w) (fun _ _ _ hh h => h.of_heap hh) own started (by kernel_rfl) Tryd.func7
    (ChangeSpec.witness_shaped (enc := enc) (C := Tryd.checked) (os := os) (X := fun w _ => laidMetH Tryd.prog Rows.namesWordsRow.laid w) false (World.laidAll Tryd.prog os Rows.namesWordsRow.laid) #[.slice none 0 0, .int .i64 0, .string .empty] 8 rfl (World.shaped_of_ZipB (by kernel_rfl) (by kernel_rfl)) (by kernel_rfl) (by kernel_rfl) (by kernel_rfl) (door_met7 os _)) ?_
  intro W base args ds gs before hval0 hW hL hsh
  have hval : ∀ (j : Nat) t v, Tryd.f7.params[j]? = some t → args[j]? = some v → Value.okWide Tryd.prog W .any base t v := hval0
  have hW' := hW
  obtain ⟨p, q, hA0, hV, rfl, _, _⟩ := hW
  have hA : DataW.TrodAll enc Tryd.prog W 0 (fun _ => true) true Tryd.f7.params.toList args.toList ds p := hA0
  rw [Tryd.params7] at hA hval
  obtain ⟨v0, v1, v2, d0, d1, d2, p0, p1, p2, rfl, rfl, rfl, h0, h1, h2⟩ := trodAll_three hA
  obtain ⟨rfl, rfl⟩ := trodVars_none hV
  obtain ⟨a0, len0, cap0, rfl⟩ := okWide_slice und35 (hval 0 35 v0 rfl rfl)
  obtain ⟨n, rfl, rfl, rfl, wn⟩ := open_int Tryd.underlying3 (hval 1 3 v1 rfl rfl) h1
  obtain ⟨z, rfl, rfl, rfl, wz⟩ := open_string Tryd.underlying9 (hval 2 9 v2 rfl rfl) h2
  clear hA0 hval0
  rw [MakeChecks.laidMetH_plain _ _ _ (by kernel_rfl)] at hL
  have hT : Pg.Tb.T Tryd.prog W := ⟨tab_of_laid hL, maxLen_cell hsh⟩
  simp only [List.append_nil] at hW'
  have hlt : ∀ x ∈ p0, x.block < W.heap.size := fun x hx => by simpa using hW'.lt x hx
  obtain ⟨ls, hls, hr0⟩ := openedS h0
  obtain ⟨l, ho, rfl, hlen⟩ := str_in z
  refine ((good7 ls n l hls ho).2 (fun g => g < W.heap.size) W [.slice a0 len0 cap0, .int .i64 n, .string (Pg.sB l)] hT (fun g h => h) ⟨_, _, rfl, hr0, _, _, rfl, rfl, _, _, rfl, rfl, rfl⟩).mono ?_
  rintro e W' ⟨u, L, rfl, hu, hk, _⟩
  have hu' : u = .bool true := hu
  subst hu'
  have hb := keptB hk
  have harg0 : DataW.Trod enc Tryd.prog W' 0 (fun b => decide (b < W.heap.size)) true 35 (.slice a0 len0 cap0) d0 p0 :=
    Below.trod laidOut (by kernel_rfl) (of_decide_eq_true (by kernel_rfl)) h0 hb hlt
  have harg2 : DataW.Trod enc Tryd.prog W' 0 (fun b => decide (b < W.heap.size)) true 9 (.string (Pg.sB l)) _ [] :=
    Below.trod laidOut (by kernel_rfl) (of_decide_eq_true (by kernel_rfl)) h2 hb (fun x hx => by cases hx)
  refine ⟨_, rfl, _, _, _, [], _, _, hW', ?_, trodAll_mk3 harg0 (shut_int Tryd.underlying3 wn) harg2, rfl, hb.frame _, fun h => by cases h⟩
  exact trodAll_mk1 (shut_bool Tryd.underlying4 _)

theorem law_holds : Rows.NamesWordsSaid :=
  OpenClaim.holds_of_wide 7 Tryd.f7 rfl rfl rfl rfl rfl rfl rfl ⟨rfl, rfl, rfl, rfl, rfl⟩ rfl rfl rfl rfl rfl (by kernel_rfl) Tryd.func7 (by kernel_rfl)
    (of_decide_eq_true (by kernel_rfl)) (by unfold Func.isWrapper; first | (rw [if_pos (by decide +kernel)]; kernel_rfl) | (rw [if_neg (by decide +kernel)]; exact ⟨rfl, rfl⟩))
    (fun os started H enc _ => lifted7 os started H enc)

theorem card_holds : Rows.NamesWordsCardSaid :=
  Claim7.holds_tied_plain_at .later [] [.data, .data, .data, .data, .pinned] true (true, Rows.namesWordsCard.stood.harness.2) false
    law_holds (fun _ h => by cases h) (by kernel_rfl) (fun _ h => by cases h) namesWords_row_tie rfl ⟨rfl, rfl⟩ (by kernel_rfl) rfl
    (fun f fn hf hfn => by
      obtain rfl : f = 7 := Option.some.inj ((show Tryd.prog.funcNamed Rows.namesWordsRow.func = some 7 by kernel_rfl).symm.trans hf) |>.symm
      obtain rfl : fn = Tryd.f7 := (Option.some.inj (Tryd.func7.symm.trans hfn)).symm
      exact ⟨by kernel_rfl, fun j t ht => by
        rw [Tryd.params7] at ht
        have hm : t ∈ [35, 3, 9] := by simpa using Array.mem_of_getElem? ht
        have hall : ([35, 3, 9].all fun u => !Tryd.prog.wantsStandIn u) = true := by kernel_rfl
        exact (show Tryd.prog.wantsStandIn t = false by simpa using List.all_eq_true.1 hall t hm)⟩)
    (by kernel_rfl)
end Go.Proofs.YtkgebocldjhflaaDoor
end
