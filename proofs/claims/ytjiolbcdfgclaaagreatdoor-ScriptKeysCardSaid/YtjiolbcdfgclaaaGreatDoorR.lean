/-
  ScriptKeys: for every input the law returns true and the input reads as it did: the row and its card.
-/
import Derived.Test.YtjiolbcdfgclaaaGreatDoorWAE
import Derived.Test.YtjiolbcdfgclaaaGreatDoorWAF
import Derived.Lay
set_option linter.unusedVariables false
set_option linter.unusedSimpArgs false
set_option linter.unusedSectionVars false
section
/-
  ScriptKeys: for every input the law returns true and the input reads as it did: the row and its card.
-/
namespace Go.Proofs.YtjiolbcdfgclaaaGreatDoor
open Go Go.ChangeShapes Go.WideShapes Go.ChangeAt Go.RowKit

theorem door_met7 (os : Os) (args : Array Value) : laidMetH Tryz.prog Rows.scriptKeysRow.laid ((World.laidAll Tryz.prog os Rows.scriptKeysRow.laid).forCall (fun _ _ => 0) ⟨#[], args, []⟩).memory := by
  rw [MakeChecks.laidMetH_plain _ _ _ (by kernel_rfl)]
  exact laidMet_laidAll _ (by kernel_rfl) (by kernel_rfl)
theorem wf_u64 {n : Int} (h : (Lit.int .u64 n).wf = true) : ∃ u : Nat, n = u ∧ u < 18446744073709551616 := by
  simp only [Lit.wf, Bool.and_eq_true, decide_eq_true_eq] at h
  have e1 : IntKind.u64.min = 0 := rfl
  have e2 : IntKind.u64.max = 18446744073709551615 := rfl
  rw [e1, e2] at h
  exact ⟨n.toNat, by omega, by omega⟩

set_option maxRecDepth 100000 in
theorem lifted7 (os : Os) (started : os.Started) (H : Type) (enc : TypeId × Value → H) :
    ReturnsInHanded {} Tryz.checked os 7 .any (fun w args => (Rows.scriptKeysSpec.pre enc Tryz.prog Tryz.f7 [] false w args ∧ laidMetH Tryz.prog Rows.scriptKeysRow.laid w) ∧ sizedMet enc Tryz.prog Tryz.f7 (OpenSpec.ofChange Rows.scriptKeysSpec) false w args)
      (Rows.scriptKeysSpec.post enc Tryz.prog Tryz.f7 false true false false) := by
  refine handed_shaped_and (C := Tryz.checked) (X := fun w _ => laidMetH Tryz.prog Rows.scriptKeysRow.laid w) (fun _ _ _ hh h => h.of_heap hh) own started (by kernel_rfl) Tryz.func7
    (ChangeSpec.witness_shaped (enc := enc) (C := Tryz.checked) (os := os) (X := fun w _ => laidMetH Tryz.prog Rows.scriptKeysRow.laid w) false (World.laidAll Tryz.prog os Rows.scriptKeysRow.laid) #[.int .i64 0, .int .u64 0, .int .i64 0] 8 rfl (World.shaped_of_ZipB (by kernel_rfl) (by kernel_rfl)) (by kernel_rfl) (by kernel_rfl) (by kernel_rfl) (door_met7 os _)) ?_
  intro W base args ds gs before hval0 hW hL hsh
  have hval : ∀ (j : Nat) t v, Tryz.f7.params[j]? = some t → args[j]? = some v → Value.okWide Tryz.prog W .any base t v := hval0
  have hW' := hW
  obtain ⟨p, q, hA0, hV, rfl, _, _⟩ := hW
  have hA : DataW.TrodAll enc Tryz.prog W 0 (fun _ => true) true Tryz.f7.params.toList args.toList ds p := hA0
  rw [Tryz.params7] at hA hval
  obtain ⟨v0, v1, v2, d0, d1, d2, p0, p1, p2, rfl, rfl, rfl, h0, h1, h2⟩ := trodAll_three hA
  obtain ⟨rfl, rfl⟩ := trodVars_none hV
  obtain ⟨n, rfl, rfl, rfl, wn⟩ := open_int Tryz.underlying3 (hval 0 3 v0 rfl rfl) h0
  obtain ⟨su, rfl, rfl, rfl, wu⟩ := open_int Tryz.underlying24 (hval 1 24 v1 rfl rfl) h1
  obtain ⟨wt, rfl, rfl, rfl, ww⟩ := open_int Tryz.underlying3 (hval 2 3 v2 rfl rfl) h2
  clear hA0 hval0
  rw [MakeChecks.laidMetH_plain _ _ _ (by kernel_rfl)] at hL
  have hT : Pg.Tb.T Tryz.prog W := tabs_of_laid hL hsh
  simp only [List.append_nil] at hW'
  obtain ⟨u, rfl, hu⟩ := wf_u64 wu
  refine ((good7k n wt u hu).2 (fun g => g < W.heap.size) W [.int .i64 n, .int .u64 (u : Int), .int .i64 wt] hT (fun g h => h) ⟨_, _, rfl, rfl, _, _, rfl, rfl, _, _, rfl, rfl, rfl⟩).mono ?_
  rintro e W' ⟨u', L, rfl, hu', hk, _⟩
  have hu'' : u' = .bool true := hu'
  subst hu''
  have hb := keptB hk
  refine ⟨_, rfl, _, _, _, [], _, [], hW', ?_, trodAll_mk3 (shut_int Tryz.underlying3 wn) (shut_int Tryz.underlying24 wu) (shut_int Tryz.underlying3 ww), rfl, hb.frame _, fun h => by cases h⟩
  exact trodAll_mk1 (shut_bool Tryz.underlying4 _)

theorem law_holds : Rows.ScriptKeysSaid :=
  OpenClaim.holds_of_wide 7 Tryz.f7 rfl rfl rfl rfl rfl rfl rfl ⟨rfl, rfl, rfl, rfl, rfl⟩ rfl rfl rfl rfl rfl (by kernel_rfl) Tryz.func7 (by kernel_rfl)
    (of_decide_eq_true (by kernel_rfl)) (by unfold Func.isWrapper; first | (rw [if_pos (by decide +kernel)]; kernel_rfl) | (rw [if_neg (by decide +kernel)]; exact ⟨rfl, rfl⟩))
    (fun os started H enc _ => lifted7 os started H enc)

theorem card_holds : Rows.ScriptKeysCardSaid :=
  Claim7.holds_tied_plain_at .later [] [.data, .data, .data, .data, .sentinel, .sentinel, .pinned] true (true, Rows.scriptKeysCard.stood.harness.2) true
    law_holds (fun _ h => by cases h) (by kernel_rfl) (fun _ h => by cases h) scriptKeys_row_tie rfl ⟨rfl, rfl⟩ (by kernel_rfl) rfl
    (fun f fn hf hfn => by
      obtain rfl : f = 7 := Option.some.inj ((show Tryz.prog.funcNamed Rows.scriptKeysRow.func = some 7 by kernel_rfl).symm.trans hf) |>.symm
      obtain rfl : fn = Tryz.f7 := (Option.some.inj (Tryz.func7.symm.trans hfn)).symm
      exact ⟨by kernel_rfl, fun j t ht => by
        rw [Tryz.params7] at ht
        have hm : t ∈ [3, 24, 3] := by simpa using Array.mem_of_getElem? ht
        have hall : ([3, 24, 3].all fun u => !Tryz.prog.wantsStandIn u) = true := by kernel_rfl
        exact (show Tryz.prog.wantsStandIn t = false by simpa using List.all_eq_true.1 hall t hm)⟩)
    (by kernel_rfl)
end Go.Proofs.YtjiolbcdfgclaaaGreatDoor
end
