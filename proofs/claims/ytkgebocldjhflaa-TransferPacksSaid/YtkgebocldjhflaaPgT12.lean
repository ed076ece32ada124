/-
  TransferPacks: for every input the law returns true and the input reads as it did. No condition.
-/
import Derived.Test.YtkgebocldjhflaaPgT11
import Derived.Test.YtkgebocldjhflaaRows
import Derived.ProofKit
namespace Go.Proofs.Ytkgebocldjhflaa
open Go Go.ChangeShapes Go.WideShapes Go.ChangeAt Go.RowKit

theorem own : ownKnob Try.prog.godebug = none := by kernel_rfl
theorem laidOut : laidOutB Try.prog = true := by kernel_rfl
theorem cells5 : Try.prog.cellsOf 5 = 1 := by kernel_rfl

theorem wf_u8 {n : Int} (h : (Lit.int .u8 n).wf = true) : 0 ≤ n ∧ n ≤ 255 := by
  simp only [Lit.wf, Bool.and_eq_true, decide_eq_true_eq] at h
  have e1 : IntKind.u8.min = 0 := rfl
  have e2 : IntKind.u8.max = 255 := rfl
  rw [e1, e2] at h
  exact h
theorem row_at {w : World} {g o : Nat} {vs : List Value} (hp : 0 < vs.length) (h : ∀ i, i < vs.length → w.cell? ⟨g, o + i, none⟩ = vs[i]?) : Pg.Row w g o vs := by
  have h0 := h 0 hp
  rw [List.getElem?_eq_getElem hp] at h0
  unfold World.cell? at h0
  split at h0
  · rename_i arr e fr hg
    refine ⟨arr, e, fr, hg, ?_⟩
    apply List.ext_getElem?
    intro i
    rw [List.getElem?_take]
    split
    · rename_i hi
      have hi' := h i hi
      unfold World.cell? at hi'
      simp only [hg] at hi'
      rw [List.getElem?_drop, Array.getElem?_toList]
      simpa using hi'
    · rename_i hi
      rw [List.getElem?_eq_none (by omega)]
  · cases h0

theorem repE_bv {L : Pg.Lay} {w : World} (l : List Nat) : Pg.RepE L w 1 (bv l) (l.map fun (b : Nat) => Value.int .u8 (b : Int)) := by
  induction l with
  | nil => rfl
  | cons a l ih =>
    refine ⟨.int .u8 (a : Int), _, ?_, rfl, ⟨rfl, ?_⟩, rfl, ih⟩
    · simp [Value.cells]
    · rfl

/-- AN ARGUMENT OF TYPE []byte, OPENED. -/
theorem opened {H : Type} {enc : TypeId × Value → H} {W : World} {a0 : Option Addr} {len cap : Nat} {d0 : DataW H} {p : List MemPlace}
    (h0 : DataW.Trod enc Try.prog W 0 (fun _ => true) true 22 (.slice a0 len cap) d0 p) :
    ∃ l : List Nat, oct l ∧ Pg.Rep ⟨fun g => g < W.heap.size, fun _ => none, fun _ => none⟩ W (.sl .fz 1 (bv l)) (.slice a0 len cap) := by
  obtain ⟨fuel, hf⟩ := h0
  rcases open_ints Try.underlying22 Try.underlying5 cells5 hf with ⟨hcs, hx⟩ | ⟨a, len', cap', zs, hcs, _, hl, hm, hz, hx, hcell, hwz⟩
  · simp [Value.cells] at hcs
    obtain ⟨rfl, rfl, rfl⟩ := hcs
    exact ⟨[], (fun b hb => by cases hb), none, 0, [], rfl, rfl, Nat.le_refl _, .inl rfl⟩
  · simp [Value.cells] at hcs
    obtain ⟨rfl, rfl, rfl⟩ := hcs
    simp only [if_true] at hz
    have hn : ∀ n ∈ zs, 0 ≤ n ∧ n ≤ 255 := by
      intro n hn
      exact wf_u8 (hwz n hn)
    let l : List Nat := (zs.take len).map Int.toNat
    have hll : l.length = len := by simp [l]; omega
    have ho : oct l := by
      intro b hb
      obtain ⟨n, hn', rfl⟩ := List.mem_map.1 hb
      have := hn n (List.mem_of_mem_take hn')
      omega
    refine ⟨l, ho, some a, cap, _, by rw [bv_len, hll], repE_bv l, ?_⟩
    rw [bv_len, hll]
    refine ⟨hl, ?_⟩
    rcases Nat.eq_zero_or_pos len with h0 | h0
    · exact .inl h0
    · right
      obtain ⟨g, o, spot⟩ := a
      have hspot : spot = none := by simpa [Addr.add] using World.cell?_spot (hcell 0 (by omega))
      subst hspot
      have hrow : Pg.Row W g o (l.map fun (b : Nat) => Value.int .u8 (b : Int)) := by
        refine row_at (by simp; omega) (fun i hi => ?_)
        simp only [List.length_map, hll] at hi
        have := hcell i (by omega)
        rw [add_plain] at this
        rw [this]
        have hz' : zs.getD i 0 = zs[i]'(by omega) := by simp [List.getD, show i < zs.length by omega]
        have hnn := hn (zs[i]'(by omega)) (List.getElem_mem _)
        simp only [l, List.map_map, List.getElem?_map, List.getElem?_take, if_pos hi, List.getElem?_eq_getElem (show i < zs.length by omega), Option.map_some, Function.comp_apply, hz']
        rw [Int.toNat_of_nonneg hnn.1]
      refine ⟨g, o, rfl, ?_, hrow⟩
      obtain ⟨arr, e, fr, hg, _⟩ := hrow
      exact (Array.getElem?_eq_some_iff.1 hg).1

set_option maxHeartbeats 800000 in
set_option maxRecDepth 100000 in
theorem law_lifted (os : Os) (started : os.Started) (H : Type) (enc : TypeId × Value → H) :
    ReturnsInHanded {} Try.checked os 3 .any (Rows.transferPacksSpec.pre6 enc Try.prog Try.f3 Rows.transferPacksRow.domain false) (Rows.transferPacksSpec.post enc Try.prog Try.f3 false true false false) := by
  refine returnsInHanded_of_change (C := Try.checked) own started (by kernel_rfl) Try.func3
    (ChangeSpec.witness6 (enc := enc) (C := Try.checked) false ⟨#[], #[.slice none 0 0, .slice none 0 0, .int .i64 0, .int .u8 0], []⟩ 8 (by kernel_rfl) (by kernel_rfl) (by kernel_rfl) (by kernel_rfl)) ?_
  intro W base args ds gs before hval0 hW _ _
  have hval : ∀ (j : Nat) t v, Try.f3.params[j]? = some t → args[j]? = some v → Value.okWide Try.prog W .any base t v := hval0
  have hW' := hW
  obtain ⟨p, q, hA0, hV, rfl, _, _⟩ := hW
  have hA : DataW.TrodAll enc Try.prog W 0 (fun _ => true) true Try.f3.params.toList args.toList ds p := hA0
  rw [Try.params3] at hA hval
  obtain ⟨v0, v1, v2, v3, d0, d1, d2, d3, p0, p1, p2, p3, rfl, rfl, rfl, h0, h1, h2, h3⟩ := trodAll_four hA
  obtain ⟨rfl, rfl⟩ := trodVars_none hV
  obtain ⟨a0, len0, cap0, rfl⟩ := okWide_slice Try.underlying22 (hval 0 22 v0 rfl rfl)
  obtain ⟨a1, len1, cap1, rfl⟩ := okWide_slice Try.underlying22 (hval 1 22 v1 rfl rfl)
  obtain ⟨n2, rfl, rfl, rfl, w2⟩ := open_int Try.underlying3 (hval 2 3 v2 rfl rfl) h2
  obtain ⟨n3, rfl, rfl, rfl, w3⟩ := open_int Try.underlying5 (hval 3 5 v3 rfl rfl) h3
  clear hA0 hval0
  simp only [List.append_nil] at hW'
  have hlt : ∀ x ∈ p0 ++ p1, x.block < W.heap.size := fun x hx => by simpa using hW'.lt x hx
  obtain ⟨l0, ho0, hr0⟩ := opened h0
  obtain ⟨l1, ho1, hr1⟩ := opened h1
  have hn3 := wf_u8 w3
  have hgood := good3 l0 l1 n2 n3.toNat ho0 ho1 (by omega)
  rw [Int.toNat_of_nonneg hn3.1] at hgood
  refine (hgood.2 (fun g => g < W.heap.size) W [.slice a0 len0 cap0, .slice a1 len1 cap1, .int .i64 n2, .int .u8 n3] (fun g h => h) ⟨_, _, rfl, hr0, _, _, rfl, hr1, _, _, rfl, rfl, _, _, rfl, rfl, rfl⟩).mono ?_
  rintro e W' ⟨u, L, rfl, hu, hk, _⟩
  have hu' : u = .bool true := hu
  subst hu'
  have hb : Below W.heap.size W W' := ⟨hk.os, hk.tape, hk.output, hk.size, fun k h => hk.block k h (fun h => h)⟩
  have harg0 : DataW.Trod enc Try.prog W' 0 (fun b => decide (b < W.heap.size)) true 22 (.slice a0 len0 cap0) d0 p0 :=
    Below.trod laidOut (by kernel_rfl) (of_decide_eq_true (by kernel_rfl)) h0 hb (fun x hx => hlt x (List.mem_append.2 (.inl hx)))
  have harg1 : DataW.Trod enc Try.prog W' 0 (fun b => decide (b < W.heap.size)) true 22 (.slice a1 len1 cap1) d1 p1 :=
    Below.trod laidOut (by kernel_rfl) (of_decide_eq_true (by kernel_rfl)) h1 hb (fun x hx => hlt x (List.mem_append.2 (.inr hx)))
  refine ⟨_, rfl, _, _, _, [], _, [], hW', ?_, trodAll_mk4 harg0 harg1 (shut_int Try.underlying3 w2) (shut_int Try.underlying5 w3), rfl, hb.frame _, fun h => by cases h⟩
  exact trodAll_mk1 (shut_bool Try.underlying4 _)

theorem law_holds : Rows.TransferPacksSaid :=
  OpenClaim.holds_of_wide 3 Try.f3 rfl rfl rfl rfl rfl rfl rfl ⟨rfl, rfl, rfl, rfl, rfl⟩ rfl rfl rfl rfl rfl (by kernel_rfl) Try.func3 (by kernel_rfl)
    (of_decide_eq_true (by kernel_rfl)) (by unfold Func.isWrapper; first | (rw [if_pos (by decide +kernel)]; kernel_rfl) | (rw [if_neg (by decide +kernel)]; exact ⟨rfl, rfl⟩))
    (fun os started H enc _ => law_lifted os started H enc)

end Go.Proofs.Ytkgebocldjhflaa
