/-
  Texts of this claim, merged: PgNRi. Each bears its own remark.
-/
import Derived.Test.YtkgebocldjhflaaDoorR
import Derived.Test.YtkgebocldjhflaaDoorB7
section
/-
  NamesInts: for every input the law returns true and the input reads as it did: the row and its card.
-/
namespace Go.Proofs.YtkgebocldjhflaaDoor
open Go Go.ChangeShapes Go.WideShapes Go.ChangeAt Go.RowKit
open Go.ChangeMaps (open_string shut_string)

theorem door_met (os : Os) (args : Array Value) : laidMetH Tryd.prog Rows.namesIntsRow.laid ((World.doorLaid Tryd.prog 400 os).forCall (fun _ _ => 0) ⟨#[], args, []⟩).memory := by
  rw [MakeChecks.laidMetH_plain _ _ _ (by kernel_rfl)]
  exact laidMet_of_run' 8 (by kernel_rfl) (by kernel_rfl)

set_option maxRecDepth 100000 in
theorem lifted (os : Os) (started : os.Started) (H : Type) (enc : TypeId × Value → H) :
    ReturnsInHanded {} Tryd.checked os 6 .any (fun w args => (Rows.namesIntsSpec.pre enc Tryd.prog Tryd.f6 [] false w args ∧ laidMetH Tryd.prog Rows.namesIntsRow.laid w) ∧ sizedMet enc Tryd.prog Tryd.f6 (OpenSpec.ofChange Rows.namesIntsSpec) false w args)
      (Rows.namesIntsSpec.post enc Tryd.prog Tryd.f6 false true false false) := by
  refine returnsInHanded_of_change_and (C := Tryd.checked) (X := fun w _ => laidMetH Tryd.prog Rows.namesIntsRow.laid w) (fun _ _ _ hh h => h.of_heap hh) own started (by kernel_rfl) Tryd.func6
    (ChangeSpec.witness_shaped (enc := enc) (C := Tryd.checked) (os := os) (X := fun w _ => laidMetH Tryd.prog Rows.namesIntsRow.laid w) false (World.doorLaid Tryd.prog 400 os) #[.string .empty, .int .i64 0] 8 rfl (World.shaped_of_RefB (by kernel_rfl) (by kernel_rfl)) (by kernel_rfl) (by kernel_rfl) (by kernel_rfl) (door_met os _)) ?_
  intro W base args ds gs before hval0 hW _ hsz0 hL _
  have hval : ∀ (j : Nat) t v, Tryd.f6.params[j]? = some t → args[j]? = some v → Value.okWide Tryd.prog W .any base t v := hval0
  have hW' := hW
  obtain ⟨p, q, hA0, hV, rfl, _, _⟩ := hW
  have hA : DataW.TrodAll enc Tryd.prog W 0 (fun _ => true) true Tryd.f6.params.toList args.toList ds p := hA0
  rw [Tryd.params6] at hA hval
  obtain ⟨v0, v1, d0, d1, p0, p1, rfl, rfl, rfl, h0, h1⟩ := trodAll_two hA
  obtain ⟨rfl, rfl⟩ := trodVars_none hV
  obtain ⟨z, rfl, rfl, rfl, wz⟩ := open_string Tryd.underlying9 (hval 0 9 v0 rfl rfl) h0
  obtain ⟨n, rfl, rfl, rfl, wn⟩ := open_int Tryd.underlying3 (hval 1 3 v1 rfl rfl) h1
  clear hA0 hval0
  rw [MakeChecks.laidMetH_plain _ _ _ (by kernel_rfl)] at hL
  have hT : Pg.Tb.T Tryd.prog W := tab_of_laid hL
  simp only [List.append_nil] at hW'
  obtain ⟨l, ho, rfl, hlen⟩ := str_in z
  have hl : l.length ≤ 140737488355328 := by
    have hs := hsz0
    rw [Tryd.params6] at hs
    have h1 := sized_string hs (j := 0) (t := 9) rfl rfl
    have h2 := reachBytes_lt
    rw [hlen]
    have h3 : (Pg.sB l).data.toList.length = (Pg.sB l).size := by rw [Array.length_toList]; rfl
    omega
  have hn := wf_i64 wn
  refine ((good6 l ho hl n hn.1 hn.2).2 (fun g => g < W.heap.size) W [.string (Pg.sB l), .int .i64 n] hT (fun g h => h) ⟨_, _, rfl, rfl, _, _, rfl, rfl, rfl⟩).mono ?_
  rintro e W' ⟨u, L, rfl, hu, hk, _⟩
  have hu' : u = .bool true := hu
  subst hu'
  have hb := keptB hk
  have harg0 : DataW.Trod enc Tryd.prog W' 0 (fun b => decide (b < W.heap.size)) true 9 (.string (Pg.sB l)) _ [] :=
    Below.trod laidOut (by kernel_rfl) (of_decide_eq_true (by kernel_rfl)) h0 hb (fun x hx => by cases hx)
  refine ⟨_, rfl, _, _, _, [], _, [], hW', ?_, trodAll_mk2 harg0 (shut_int Tryd.underlying3 wn), rfl, hb.frame _, fun h => by cases h⟩
  exact trodAll_mk1 (shut_bool Tryd.underlying4 _)

theorem law_holds : Rows.NamesIntsSaid :=
  OpenClaim.holds_of_wide 6 Tryd.f6 rfl rfl rfl rfl rfl rfl rfl ⟨rfl, rfl, rfl, rfl, rfl⟩ rfl rfl rfl rfl rfl (by kernel_rfl) Tryd.func6 (by kernel_rfl)
    (of_decide_eq_true (by kernel_rfl)) (by unfold Func.isWrapper; first | (rw [if_pos (by decide +kernel)]; kernel_rfl) | (rw [if_neg (by decide +kernel)]; exact ⟨rfl, rfl⟩))
    (fun os started H enc _ => lifted os started H enc)

theorem card_holds : Rows.NamesIntsCardSaid :=
  Claim7.holds_tied_plain_at .later [] [.data, .data, .data] true (true, Rows.namesIntsCard.stood.harness.2) false
    law_holds (fun _ h => by cases h) (by kernel_rfl) (fun _ h => by cases h) namesInts_row_tie rfl ⟨rfl, rfl⟩ (by kernel_rfl) rfl
    (fun f fn hf hfn => by
      obtain rfl : f = 6 := Option.some.inj ((show Tryd.prog.funcNamed Rows.namesIntsRow.func = some 6 by kernel_rfl).symm.trans hf) |>.symm
      obtain rfl : fn = Tryd.f6 := (Option.some.inj (Tryd.func6.symm.trans hfn)).symm
      exact ⟨by kernel_rfl, fun j t ht => by
        rw [Tryd.params6] at ht
        have hm : t ∈ [9, 3] := by simpa using Array.mem_of_getElem? ht
        have hall : ([9, 3].all fun u => !Tryd.prog.wantsStandIn u) = true := by kernel_rfl
        exact (show Tryd.prog.wantsStandIn t = false by simpa using List.all_eq_true.1 hall t hm)⟩)
    (by kernel_rfl)
end Go.Proofs.YtkgebocldjhflaaDoor
end
