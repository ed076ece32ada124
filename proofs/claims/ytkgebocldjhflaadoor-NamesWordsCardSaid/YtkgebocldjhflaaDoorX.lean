/-
  Texts of this claim, merged: PgNX. Each bears its own remark.
-/
import Derived.Test.YtkgebocldjhflaaDoorC3
import Derived.Test.YtkgebocldjhflaaDoorR
import Derived.SliceStrings
import Derived.HandedShaped
import Derived.Shelf.Vars
set_option linter.unusedVariables false
set_option linter.unusedSimpArgs false
set_option linter.unusedSectionVars false
section
/-
  NamesLines, NamesWords: what their rows share: the door's wrap with the listed tables and the world's shape; a slice of strings that came in.
-/
namespace Go.Proofs.YtkgebocldjhflaaDoor
open Go Go.ChangeShapes Go.WideShapes Go.ChangeAt Go.RowKit

section
variable {H : Type} {enc : TypeId × Value → H}
/-- The plain wrap with a side condition on the row's first world, and that world's shape handed on. -/
theorem handed_shaped_and {a : Assume} {C : Checked} {os : Os} {f : FuncId} {fn : Func} {s : ChangeSpec} {conds : List PathCond} {apart fresh handsOn again : Bool} {X : World → Array Value → Prop}
    (hX : ∀ (w w' : World) (args : Array Value), w.heap = w'.heap → X w args → X w' args)
    (own : ownKnob C.prog.godebug = none) (started : os.Started) (noInit : C.prog.inits.idxOf? f = none) (hfn : C.prog.funcs[f]? = some fn)
    (witness : ∃ (w : World) (tape : Tape) (i : Input), w.os = os ∧ (w.forCall tape i).Shaped C.prog ∧ i.vars = [] ∧ Input.okWide C.prog (w.forCall tape i) .any w.heap.size f i ∧
      ((s.pre enc C.prog fn conds apart (w.forCall tape i).memory i.args ∧ X (w.forCall tape i).memory i.args) ∧ sizedMet enc C.prog fn (OpenSpec.ofChange s) apart (w.forCall tape i).memory i.args) ∧ a.holds C.prog (lone (Frame.enter C.prog f i.args .normal) [] (w.forCall tape i)))
    (contract : ∀ (W : World) (base : Nat) (args : Array Value) (ds gs : List (DataW H)) (before : List MemPlace),
      (∀ (j : Nat) t v, fn.params[j]? = some t → args[j]? = some v → Value.okWide C.prog W .any base t v) →
      DataW.Whole enc C.prog fn.params.toList s.vars apart W args.toList ds gs before →
      X W args → W.ShapedOpen C.prog →
      Calls C.prog f args W fun e W' => ∃ v, e = .returned v ∧ s.post enc C.prog fn apart fresh handsOn again W args v W') :
    ReturnsInHanded a C os f .any (fun w args => (s.pre enc C.prog fn conds apart w args ∧ X w args) ∧ sizedMet enc C.prog fn (OpenSpec.ofChange s) apart w args) (s.post enc C.prog fn apart fresh handsOn again) := by
  refine returnsInHanded_of_calls own started noInit witness ?_
  intro w tape i _ hsh _ hok hpre _
  obtain ⟨_, _, _, fn', hfn', _, _, _, _, hval⟩ := hok
  have e : fn' = fn := Option.some.inj (hfn'.symm.trans hfn)
  subst e
  obtain ⟨⟨⟨ds, gs, before, hw, _⟩, hx⟩, _⟩ := hpre
  have hw' := DataW.Whole.of_heap (w' := w.forCall tape i) (by rfl) hw
  refine (contract (w.forCall tape i) w.heap.size i.args ds gs before hval hw' (hX _ _ _ (by rfl) hx) hsh).mono fun e W' ⟨v, he, hp⟩ => ?_
  subst he
  exact ChangeSpec.post_blind hp
end

theorem maxLen_cell {W : World} (h : W.ShapedOpen Tryd.prog) : ∃ m, W.cell? ⟨0, 0, none⟩ = some (.int .i64 m) :=
  cell_of_shapedOpen_int (zero := #[.int .i64 0]) (t := 3) h (of_decide_eq_true (by kernel_rfl)) (by kernel_rfl) rfl (by kernel_rfl) (by kernel_rfl) Tryd.underlying3
theorem rowAt {w : World} {g o : Nat} {vs : List Value} (hp : 0 < vs.length) (h : ∀ i, i < vs.length → w.cell? ⟨g, o + i, none⟩ = vs[i]?) : Pg.Row w g o vs := by
  have h0 := h 0 hp
  rw [List.getElem?_eq_getElem hp] at h0
  unfold World.cell? at h0
  split at h0
  · rename_i arr e fr hg
    refine ⟨arr, e, fr, hg, ?_⟩
    apply List.ext_getElem?
    intro i
    rw [List.getElem?_take]
    split
    · rename_i hi
      have hi' := h i hi
      unfold World.cell? at hi'
      simp only [hg] at hi'
      rw [List.getElem?_drop, Array.getElem?_toList]
      simpa using hi'
    · rename_i hi
      rw [List.getElem?_eq_none (by omega)]
  · cases h0
theorem cells9 : Tryd.prog.cellsOf 9 = 1 := by kernel_rfl
theorem und35 : Tryd.prog.underlying 35 = some (.slice 9) := by kernel_rfl
theorem sBs (ss : List ByteArray) : ∃ ls : List (List Nat), (∀ x ∈ ls, Pg.oct x) ∧ ss = ls.map Pg.sB := by
  induction ss with
  | nil => exact ⟨[], (fun x hx => by cases hx), rfl⟩
  | cons a ss ih =>
    obtain ⟨l, ho, rfl, _⟩ := str_in a
    obtain ⟨ls, h, rfl⟩ := ih
    refine ⟨l :: ls, fun x hx => ?_, rfl⟩
    rcases List.mem_cons.1 hx with rfl | hx
    · exact ho
    · exact h x hx
/-- AN ARGUMENT OF TYPE []string, OPENED. -/
theorem openedS {H : Type} {enc : TypeId × Value → H} {W : World} {a0 : Option Addr} {len cap : Nat} {d0 : DataW H} {p : List MemPlace}
    (h0 : DataW.Trod enc Tryd.prog W 0 (fun _ => true) true 35 (.slice a0 len cap) d0 p) :
    ∃ ls : List (List Nat), (∀ x ∈ ls, Pg.oct x) ∧ Pg.Rep ⟨fun g => g < W.heap.size, fun _ => none, fun _ => none⟩ W (.sl .fz 1 (Pg.sv ls)) (.slice a0 len cap) := by
  obtain ⟨fuel, hf⟩ := h0
  rcases open_strings und35 Tryd.underlying9 cells9 hf with ⟨hcs, hx⟩ | ⟨a, len', cap', zs, hcs, _, hl, hm, hz, hx, hcell, hwz⟩
  · simp [Value.cells] at hcs
    obtain ⟨rfl, rfl, rfl⟩ := hcs
    exact ⟨[], (fun b hb => by cases hb), none, 0, [], rfl, rfl, Nat.le_refl _, .inl rfl⟩
  · simp [Value.cells] at hcs
    obtain ⟨rfl, rfl, rfl⟩ := hcs
    simp only [if_true] at hz
    obtain ⟨ls, hls, hzs⟩ := sBs (zs.take len)
    have hll : ls.length = len := by
      have := congrArg List.length hzs
      simp at this
      omega
    refine ⟨ls, hls, some a, cap, _, by rw [Pg.sv_len, hll], repE_sv ls, ?_⟩
    rw [Pg.sv_len, hll]
    refine ⟨hl, ?_⟩
    rcases Nat.eq_zero_or_pos len with h0 | h0
    · exact .inl h0
    · right
      obtain ⟨g, o, spot⟩ := a
      have hspot : spot = none := by simpa [Addr.add] using World.cell?_spot (hcell 0 (by omega))
      subst hspot
      have hrow : Pg.Row W g o (ls.map fun b => Value.string (Pg.sB b)) := by
        refine rowAt (by simp; omega) (fun i hi => ?_)
        simp only [List.length_map, hll] at hi
        have := hcell i (by omega)
        rw [Pg.add_plain] at this
        rw [this]
        have h1 : (zs.take len)[i]? = (ls.map Pg.sB)[i]? := by rw [hzs]
        rw [List.getElem?_take, if_pos hi] at h1
        simp only [List.getElem?_map] at h1 ⊢
        rw [List.getD_eq_getElem?_getD, h1, List.getElem?_eq_getElem (by omega)]
        rfl
      refine ⟨g, o, rfl, ?_, hrow⟩
      obtain ⟨arr, e, fr, hg, _⟩ := hrow
      exact (Array.getElem?_eq_some_iff.1 hg).1
end Go.Proofs.YtkgebocldjhflaaDoor
end
