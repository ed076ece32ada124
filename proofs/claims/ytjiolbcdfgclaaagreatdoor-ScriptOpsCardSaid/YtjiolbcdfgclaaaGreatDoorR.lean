/-
  ScriptOps: for every input the law returns true and the input reads as it did: the row and its card.
-/
import Derived.Lay
import Derived.Test.YtjiolbcdfgclaaaGreatDoorWAO
set_option linter.unusedVariables false
set_option linter.unusedSimpArgs false
set_option linter.unusedSectionVars false
set_option linter.defProp false
set_option maxRecDepth 100000
set_option maxHeartbeats 8000000
namespace Go.Proofs.YtjiolbcdfgclaaaGreatDoor
open Go Go.ChangeShapes Go.WideShapes Go.ChangeAt Go.RowKit
theorem aoT (os : Os) (args : Array Value) : laidMetH Tryz.prog Rows.scriptOpsRow.laid ((World.laidAll Tryz.prog os Rows.scriptOpsRow.laid).forCall (fun _ _ => 0) ⟨#[], args, []⟩).memory := by
  rw [MakeChecks.laidMetH_plain _ _ _ (by kernel_rfl)]
  exact laidMet_laidAll _ (by kernel_rfl) (by kernel_rfl)
theorem aoX (os : Os) (started : os.Started) (H : Type) (enc : TypeId × Value → H) :
  ReturnsInHanded {} Tryz.checked os 3 .any (fun w args => (Rows.scriptOpsSpec.pre enc Tryz.prog Tryz.f3 [] false w args ∧ laidMetH Tryz.prog Rows.scriptOpsRow.laid w) ∧ sizedMet enc Tryz.prog Tryz.f3 (OpenSpec.ofChange Rows.scriptOpsSpec) false w args)
   (Rows.scriptOpsSpec.post enc Tryz.prog Tryz.f3 false true false false) := by
 refine aoA (C := Tryz.checked) (X := fun w _ => laidMetH Tryz.prog Rows.scriptOpsRow.laid w) (fun _ _ _ hh h => h.of_heap hh) own started (by kernel_rfl) Tryz.func3
  (ChangeSpec.witness_shaped (enc := enc) (C := Tryz.checked) (os := os) (X := fun w _ => laidMetH Tryz.prog Rows.scriptOpsRow.laid w) false (World.laidAll Tryz.prog os Rows.scriptOpsRow.laid) #[.slice none 0 0, .int .i64 0, .agg #[.int .i64 0, .string .empty, .string .empty, .slice none 0 0, .int .i64 0, .int .i64 0, .int .i64 0, .int .u64 0, .slice none 0 0, .slice none 0 0, .int .i64 0, .int .i64 0, .int .i64 0, .int .i64 0, .int .i64 0, .int .i64 0, .int .i64 0, .string .empty, .int .i64 0, .int .i64 0, .int .i64 0, .slice none 0 0]] 8 rfl (World.shaped_of_ZipB (by kernel_rfl) (by kernel_rfl)) (by kernel_rfl) (by kernel_rfl) (by kernel_rfl) (aoT os _)) ?_
 intro W base args ds gs before hval0 hW hL hsh
 have hval : ∀ (j : Nat) t v, Tryz.f3.params[j]? = some t → args[j]? = some v → Value.okWide Tryz.prog W .any base t v := hval0
 have hW' := hW
 obtain ⟨p, q, hA0, hV, rfl, _, _⟩ := hW
 have hA : DataW.TrodAll enc Tryz.prog W 0 (fun _ => true) true Tryz.f3.params.toList args.toList ds p := hA0
 rw [Tryz.params3] at hA hval
 obtain ⟨v0, v1, v2, d0, d1, d2, p0, p1, p2, rfl, rfl, rfl, h0, h1, h2⟩ := trodAll_three hA
 obtain ⟨rfl, rfl⟩ := trodVars_none hV
 obtain ⟨sa, len, cap, hv0⟩ := okWide_slice Tryz.underlying22 (hval 0 22 v0 rfl rfl)
 obtain ⟨n, rfl, rfl, rfl, wn⟩ := open_int Tryz.underlying3 (hval 1 3 v1 rfl rfl) h1
 obtain ⟨a, rfl, hsz⟩ := okWide_struct Tryz.underlying32 (hval 2 32 v2 rfl rfl)
 clear hA0 hval0
 rw [MakeChecks.laidMetH_plain _ _ _ (by kernel_rfl)] at hL
 have hT : Pg.Tb.T Tryz.prog W := aoE hL hsh
 simp only [List.append_nil] at hW'
 have hlt : ∀ x ∈ p0 ++ p2, x.block < W.heap.size := fun x hx => by simpa using hW'.lt x (by simpa using hx)
 have h0' := h0
 obtain ⟨fuel0, hf0⟩ := h0'
 obtain ⟨l, hll, hr0⟩ := aoS hv0 hf0
 have h2' := h2
 obtain ⟨fuel2, hf2⟩ := h2'
 obtain ⟨o, hok, hr⟩ := open_op hf2
 have hr' : Pg.Reps (LW W) W (opF o) a.toList := by simpa [Value.cells] using hr
 refine ((aos l hll n o hok).2 (fun g => g < W.heap.size) W [v0, .int .i64 n, .agg a] hT (fun g h => h) ⟨_, _, rfl, hr0, _, _, rfl, rfl, _, _, rfl, ⟨a, rfl, hr'⟩, rfl⟩).mono ?_
 rintro e W' ⟨u, L, rfl, hu, hk, _⟩
 have hu' : u = .bool true := hu
 subst hu'
 have hb := ao6 hk
 have harg0 : DataW.Trod enc Tryz.prog W' 0 (fun b => decide (b < W.heap.size)) true 22 v0 d0 p0 :=
  Below.trod aoO (by kernel_rfl) (of_decide_eq_true (by kernel_rfl)) h0 hb (fun x hx => hlt x (List.mem_append_left _ hx))
 have harg2 : DataW.Trod enc Tryz.prog W' 0 (fun b => decide (b < W.heap.size)) true 32 (.agg a) d2 p2 :=
  Below.trod aoO (by kernel_rfl) (of_decide_eq_true (by kernel_rfl)) h2 hb (fun x hx => hlt x (List.mem_append_right _ hx))
 refine ⟨_, rfl, _, _, _, [], _, _, hW', ?_, trodAll_mk3 harg0 (shut_int Tryz.underlying3 wn) harg2, rfl, hb.frame _, fun h => by cases h⟩
 exact trodAll_mk1 (shut_bool Tryz.underlying4 _)
theorem apg : (Rows.scriptOpsRow.inPlace == Tryz.prog.inPlace 3) = true := by kernel_rfl
theorem aph : (Rows.scriptOpsRow.unfollowed == Tryz.prog.unfollowed 3) = true := by kernel_rfl
theorem api : (Rows.scriptOpsRow.recurses == Tryz.prog.recurses 3) = true := by kernel_rfl
theorem apj : (Rows.scriptOpsRow.named == Tryz.prog.varsNamed 3) = true := by kernel_rfl
theorem jf : joinedFacts Tryz.prog 3 Tryz.f3 Rows.scriptOpsSpec Rows.scriptOpsRow = true := by
 unfold joinedFacts
 rw [apg, aph, api, apj]
 kernel_rfl
theorem law_holds : Rows.ScriptOpsSaid :=
 OpenClaim.holds_of_wide 3 Tryz.f3 rfl rfl rfl rfl rfl rfl rfl ⟨rfl, rfl, rfl, rfl, rfl⟩ rfl rfl rfl rfl rfl (by kernel_rfl) Tryz.func3 jf
  (of_decide_eq_true (by kernel_rfl)) (by unfold Func.isWrapper; first | (rw [if_pos (by decide +kernel)]; kernel_rfl) | (rw [if_neg (by decide +kernel)]; exact ⟨rfl, rfl⟩))
  (fun os started H enc _ => aoX os started H enc)
theorem card_holds : Rows.ScriptOpsCardSaid :=
 Claim7.holds_tied_plain_at .later [] [.data, .data, .data, .data, .sentinel, .sentinel, .pinned] true (true, Rows.scriptOpsCard.stood.harness.2) true
  law_holds (fun _ h => by cases h) (by kernel_rfl) (fun _ h => by cases h) scriptOps_row_tie rfl ⟨rfl, rfl⟩ (by kernel_rfl) rfl
  (fun f fn hf hfn => by
   obtain rfl : f = 3 := Option.some.inj ((show Tryz.prog.funcNamed Rows.scriptOpsRow.func = some 3 by kernel_rfl).symm.trans hf) |>.symm
   obtain rfl : fn = Tryz.f3 := (Option.some.inj (Tryz.func3.symm.trans hfn)).symm
   exact ⟨by kernel_rfl, fun j t ht => by
    rw [Tryz.params3] at ht
    have hm : t ∈ [22, 3, 32] := by simpa using Array.mem_of_getElem? ht
    have hall : ([22, 3, 32].all fun u => !Tryz.prog.wantsStandIn u) = true := by kernel_rfl
    exact (show Tryz.prog.wantsStandIn t = false by simpa using List.all_eq_true.1 hall t hm)⟩)
  (by kernel_rfl)
end Go.Proofs.YtjiolbcdfgclaaaGreatDoor
