/-
  Texts of this claim, merged: PgRW. Each bears its own remark.
-/
import Derived.Test.YtjiolbcdfgclaaaGreatDoorB9
import Derived.Test.YtjiolbcdfgclaaaGreatDoorA4
import Derived.Test.YtjiolbcdfgclaaaGreatDoorTie
import Derived.Test.YtjiolbcdfgclaaaGreatDoorCards
import Derived.ProofKit
import Derived.LaidMore
import Derived.OpenShut
import Derived.Stop.Joined
import Derived.Stop.LaidErr
import Derived.SizedLaws
import Derived.ChangeMaps5
import Derived.SevenTiedAt
import Derived.HandedShaped
import Derived.Shelf.Vars
set_option linter.unusedVariables false
set_option linter.unusedSimpArgs false
set_option linter.unusedSectionVars false
section
/-
  What the rows share: the listed tables, the wrap, a response that came in.
-/
namespace Go.Proofs.YtjiolbcdfgclaaaGreatDoor
open Go Go.ChangeShapes Go.WideShapes Go.ChangeAt Go.RowKit
set_option maxRecDepth 100000
set_option linter.unusedVariables false

theorem own : ownKnob Tryz.prog.godebug = none := by kernel_rfl
theorem laidOut : laidOutB Tryz.prog = true := by kernel_rfl
theorem gTab : Tryz.prog.globalNamed "internal/strconv.uint64pow10" = some 0 := by kernel_rfl
theorem tTab : (Tryz.prog.globals[0]?).map (·.type) = some 256 := by kernel_rfl
theorem cTab : Tryz.prog.cellsOf 256 = 20 := by kernel_rfl
theorem cElt : Tryz.prog.cellsOf 24 = 1 := by kernel_rfl
theorem tabD : (Rows.laid_internal_strconv_uint64pow10 : DataW Unit) = Lib.tabData .u64 Lib.pow10Tab := by kernel_rfl
theorem gBr : Tryz.prog.globalNamed "math/bits.deBruijn64tab" = some 3 := by kernel_rfl
theorem tBr : (Tryz.prog.globals[3]?).map (·.type) = some 283 := by kernel_rfl
theorem cBr : Tryz.prog.cellsOf 283 = 64 := by kernel_rfl
theorem cBe : Tryz.prog.cellsOf 5 = 1 := by kernel_rfl
theorem brD : (Rows.laid_math_bits_deBruijn64tab : DataW Unit) = Lib.tabData .u8 bruijn := by kernel_rfl
theorem maxLen_cell {W : World} (h : W.ShapedOpen Tryz.prog) : ∃ m, W.cell? ⟨1, 0, none⟩ = some (.int .i64 m) :=
  cell_of_shapedOpen_int (zero := #[.int .i64 0]) (t := 3) h (of_decide_eq_true (by kernel_rfl)) (by kernel_rfl) rfl (by kernel_rfl) (by kernel_rfl) Tryz.underlying3
theorem tabs_of_laid {W : World} {n1 : String} {d1 : DataW Unit} {rest : List (String × DataW Unit)} (h : laidMet Tryz.prog ((n1, d1) :: ("math/bits.deBruijn64tab", Rows.laid_math_bits_deBruijn64tab) :: ("internal/strconv.uint64pow10", Rows.laid_internal_strconv_uint64pow10) :: rest) W) (hsh : W.ShapedOpen Tryz.prog) : Pg.Tb.T Tryz.prog W := by
  have h1 : laidMet Tryz.prog (("math/bits.deBruijn64tab", Rows.laid_math_bits_deBruijn64tab) :: ("internal/strconv.uint64pow10", Rows.laid_internal_strconv_uint64pow10) :: rest) W := h.tail
  have h2 : laidMet Tryz.prog (("internal/strconv.uint64pow10", Rows.laid_internal_strconv_uint64pow10) :: rest) W := h.tail.tail
  rw [tabD] at h2
  rw [brD] at h1
  exact ⟨Lib.tabIs_of_head gTab tTab Tryz.underlying256 Tryz.underlying24 cElt cTab h2, maxLen_cell hsh, Lib.tabIs_of_head gBr tBr Tryz.underlying283 Tryz.underlying5 cBe cBr h1⟩
theorem wf_i64 {n : Int} (h : (Lit.int .i64 n).wf = true) : Wt n := by
  simp only [Lit.wf, Bool.and_eq_true, decide_eq_true_eq] at h
  have e1 : IntKind.i64.min = -9223372036854775808 := rfl
  have e2 : IntKind.i64.max = 9223372036854775807 := rfl
  rw [e1, e2] at h
  exact h
theorem wf_u8 {n : Int} (h : (Lit.int .u8 n).wf = true) : 0 ≤ n ∧ n ≤ 255 := by
  simp only [Lit.wf, Bool.and_eq_true, decide_eq_true_eq] at h
  have e1 : IntKind.u8.min = 0 := rfl
  have e2 : IntKind.u8.max = 255 := rfl
  rw [e1, e2] at h
  exact h
theorem keptB {W W' : World} (hk : Pg.Kp (fun _ => False) W.heap.size W W') : Below W.heap.size W W' := ⟨hk.os, hk.tape, hk.output, hk.size, fun k h => hk.block k h (fun h => h)⟩
section
variable {H : Type} {enc : TypeId × Value → H}
/-- The plain wrap with a side condition on the row's first world, and that world's shape handed on. -/
theorem handed_shaped_and {a : Assume} {C : Checked} {os : Os} {f : FuncId} {fn : Func} {s : ChangeSpec} {conds : List PathCond} {apart fresh handsOn again : Bool} {X : World → Array Value → Prop}
    (hX : ∀ (w w' : World) (args : Array Value), w.heap = w'.heap → X w args → X w' args)
    (own : ownKnob C.prog.godebug = none) (started : os.Started) (noInit : C.prog.inits.idxOf? f = none) (hfn : C.prog.funcs[f]? = some fn)
    (witness : ∃ (w : World) (tape : Tape) (i : Input), w.os = os ∧ (w.forCall tape i).Shaped C.prog ∧ i.vars = [] ∧ Input.okWide C.prog (w.forCall tape i) .any w.heap.size f i ∧
      ((s.pre enc C.prog fn conds apart (w.forCall tape i).memory i.args ∧ X (w.forCall tape i).memory i.args) ∧ sizedMet enc C.prog fn (OpenSpec.ofChange s) apart (w.forCall tape i).memory i.args) ∧ a.holds C.prog (lone (Frame.enter C.prog f i.args .normal) [] (w.forCall tape i)))
    (contract : ∀ (W : World) (base : Nat) (args : Array Value) (ds gs : List (DataW H)) (before : List MemPlace),
      (∀ (j : Nat) t v, fn.params[j]? = some t → args[j]? = some v → Value.okWide C.prog W .any base t v) →
      DataW.Whole enc C.prog fn.params.toList s.vars apart W args.toList ds gs before →
      X W args → W.ShapedOpen C.prog →
      Calls C.prog f args W fun e W' => ∃ v, e = .returned v ∧ s.post enc C.prog fn apart fresh handsOn again W args v W') :
    ReturnsInHanded a C os f .any (fun w args => (s.pre enc C.prog fn conds apart w args ∧ X w args) ∧ sizedMet enc C.prog fn (OpenSpec.ofChange s) apart w args) (s.post enc C.prog fn apart fresh handsOn again) := by
  refine returnsInHanded_of_calls own started noInit witness ?_
  intro w tape i _ hsh _ hok hpre _
  obtain ⟨_, _, _, fn', hfn', _, _, _, _, hval⟩ := hok
  have e : fn' = fn := Option.some.inj (hfn'.symm.trans hfn)
  subst e
  obtain ⟨⟨⟨ds, gs, before, hw, _⟩, hx⟩, _⟩ := hpre
  have hw' := DataW.Whole.of_heap (w' := w.forCall tape i) (by rfl) hw
  refine (contract (w.forCall tape i) w.heap.size i.args ds gs before hval hw' (hX _ _ _ (by rfl) hx) hsh).mono fun e W' ⟨v, he, hp⟩ => ?_
  subst he
  exact ChangeSpec.post_blind hp
end


/-! ### A response that came in -/
section
variable {H : Type} {enc : TypeId × Value → H} {w : World} {base : Nat} {spare : Nat → Bool} {held : Bool}
theorem el_str : Pg.Elem enc Tryz.prog w base spare held 9 1 Pg.oct (fun l => Pg.V.c (.string (Pg.sB l))) (fun l => [Value.string (Pg.sB l)]) where
  pos := by decide
  cells := by kernel_rfl
  len := fun _ => rfl
  get := fun n cs x h => by
    obtain ⟨s, rfl, _, _⟩ := DataW.trod_string Tryz.underlying9 h
    obtain ⟨l, h1, h2⟩ := Pg.sB_of s
    exact ⟨l, h1, by rw [h2]⟩
  rep := fun l L w' => ⟨.string (Pg.sB l), by simp [Value.cells], rfl, ⟨rfl, rfl⟩, rfl⟩
theorem el_int : Pg.Elem enc Tryz.prog w base spare held 3 1 Wt (fun n => Pg.V.c (.int .i64 n)) (fun n => [Value.int .i64 n]) where
  pos := by decide
  cells := by kernel_rfl
  len := fun _ => rfl
  get := fun n cs x h => by
    obtain ⟨m, rfl, _, hw⟩ := DataW.trod_int Tryz.underlying3 h
    exact ⟨m, wf_i64 hw, rfl⟩
  rep := fun n L w' => ⟨.int .i64 n, by simp [Value.cells], rfl, ⟨rfl, rfl⟩, rfl⟩
theorem el_u8 : Pg.Elem enc Tryz.prog w base spare held 5 1 (fun n : Nat => n < 256) (fun n => Pg.V.c (.int .u8 (n : Int))) (fun n => [Value.int .u8 (n : Int)]) where
  pos := by decide
  cells := by kernel_rfl
  len := fun _ => rfl
  get := fun n cs x h => by
    obtain ⟨m, rfl, _, hw⟩ := DataW.trod_int Tryz.underlying5 h
    have := wf_u8 hw
    exact ⟨m.toNat, by omega, by rw [Int.toNat_of_nonneg this.1]⟩
  rep := fun n L w' => ⟨.int .u8 (n : Int), by simp [Value.cells], rfl, ⟨rfl, rfl⟩, rfl⟩
theorem take3 {cs : List Value} {a b c : Value} (hl : cs.length = 3) (h0 : (cs.drop 0).take 1 = [a]) (h1 : (cs.drop 1).take 1 = [b]) (h2 : (cs.drop 2).take 1 = [c]) : cs = [a, b, c] := by
  match cs, hl with
  | [x, y, z], _ =>
    simp at h0 h1 h2
    rw [h0, h1, h2]
theorem ce : Tryz.prog.cellsOf 59 = 3 := by kernel_rfl
theorem ci : Tryz.prog.cellsOf 3 = 1 := by kernel_rfl
theorem cst : Tryz.prog.cellsOf 9 = 1 := by kernel_rfl
theorem el_en : Pg.Elem enc Tryz.prog w base spare held 59 3 (fun x : List Nat × Int × Int => Pg.oct x.1 ∧ Wt x.2.1 ∧ Wt x.2.2) (fun x => Pg.V.agg [.c (.string (Pg.sB x.1)), .c (.int .i64 x.2.1), .c (.int .i64 x.2.2)]) (fun x => [Value.string (Pg.sB x.1), Value.int .i64 x.2.1, Value.int .i64 x.2.2]) where
  pos := by decide
  cells := ce
  len := fun _ => rfl
  get := fun n cs x h => by
    obtain ⟨xs, m, _, _, hl, hxl, hf⟩ := DataW.trod_struct Tryz.underlying59 h
    have f0 : DataW.trod enc Tryz.prog w base spare held m 9 ((cs.drop 0).take (Tryz.prog.cellsOf 9)) = xs[0]? := hf 0 _ rfl
    have f1 : DataW.trod enc Tryz.prog w base spare held m 3 ((cs.drop 1).take (Tryz.prog.cellsOf 3)) = xs[1]? := hf 1 _ rfl
    have f2 : DataW.trod enc Tryz.prog w base spare held m 3 ((cs.drop 2).take (Tryz.prog.cellsOf 3)) = xs[2]? := hf 2 _ rfl
    rw [cst] at f0
    rw [ci] at f1 f2
    rw [ce] at hl
    have hx : xs.length = 3 := hxl
    rw [List.getElem?_eq_getElem (by omega)] at f0 f1 f2
    obtain ⟨s, e0, _, _⟩ := DataW.trod_string Tryz.underlying9 f0
    obtain ⟨a, e1, _, w1⟩ := DataW.trod_int Tryz.underlying3 f1
    obtain ⟨b, e2, _, w2⟩ := DataW.trod_int Tryz.underlying3 f2
    obtain ⟨l, h1, h2⟩ := Pg.sB_of s
    exact ⟨(l, a, b), ⟨h1, wf_i64 w1, wf_i64 w2⟩, by rw [take3 hl e0 e1 e2, h2]⟩
  rep := fun x L w' => ⟨.agg #[.string (Pg.sB x.1), .int .i64 x.2.1, .int .i64 x.2.2], by simp [Value.cells], rfl, ⟨rfl, rfl⟩, ⟨_, rfl, _, _, rfl, rfl, _, _, rfl, rfl, _, _, rfl, rfl, rfl⟩⟩
/-- A struct's cells, part by part. -/
theorem cut_at {cs : List Value} (i n : Nat) {l : List Value} (h : (cs.drop i).take n = l) (hl : l.length = n) : cs.drop i = l ++ cs.drop (i + n) := by
  rw [← h, ← List.drop_drop, List.take_append_drop]
theorem cEn : Tryz.prog.cellsOf 37 = 1 := by kernel_rfl
theorem cSs : Tryz.prog.cellsOf 23 = 1 := by kernel_rfl
theorem cIs : Tryz.prog.cellsOf 22 = 1 := by kernel_rfl
theorem cEs : Tryz.prog.cellsOf 53 = 1 := by kernel_rfl
theorem cBs : Tryz.prog.cellsOf 28 = 1 := by kernel_rfl
theorem cBo : Tryz.prog.cellsOf 4 = 1 := by kernel_rfl
theorem cAn : Tryz.prog.cellsOf 55 = 6 := by kernel_rfl
theorem cRs : Tryz.prog.cellsOf 57 = 12 := by kernel_rfl
abbrev LW (w : World) : Pg.Lay := ⟨fun g => g < w.heap.size, fun _ => none, fun _ => none⟩
theorem open_answer {n : Nat} {cs : List Value} {x : DataW H × List MemPlace} (h : DataW.trod enc Tryz.prog w base spare held n 55 cs = some x) :
    ∃ (a b : Int) (k : List Nat) (nu : List Int) (en : List (List Nat × Int × Int)) (st : Bool), Wt a ∧ Wt b ∧ Pg.oct k ∧ (∀ n ∈ nu, Wt n) ∧ (∀ x ∈ en, Pg.oct x.1 ∧ Wt x.2.1 ∧ Wt x.2.2) ∧ Pg.Reps (LW w) w [vi a, vi b, vs k, fzi nu, fze en, vb st] cs := by
  obtain ⟨xs, m, _, _, hl, hxl, hf⟩ := DataW.trod_struct Tryz.underlying55 h
  have hx : xs.length = 6 := hxl
  have f0 : DataW.trod enc Tryz.prog w base spare held m 3 ((cs.drop 0).take (Tryz.prog.cellsOf 3)) = xs[0]? := hf 0 _ rfl
  have f1 : DataW.trod enc Tryz.prog w base spare held m 3 ((cs.drop 1).take (Tryz.prog.cellsOf 3)) = xs[1]? := hf 1 _ rfl
  have f2 : DataW.trod enc Tryz.prog w base spare held m 9 ((cs.drop 2).take (Tryz.prog.cellsOf 9)) = xs[2]? := hf 2 _ rfl
  have f3 : DataW.trod enc Tryz.prog w base spare held m 22 ((cs.drop 3).take (Tryz.prog.cellsOf 22)) = xs[3]? := hf 3 _ rfl
  have f4 : DataW.trod enc Tryz.prog w base spare held m 53 ((cs.drop 4).take (Tryz.prog.cellsOf 53)) = xs[4]? := hf 4 _ rfl
  have f5 : DataW.trod enc Tryz.prog w base spare held m 4 ((cs.drop 5).take (Tryz.prog.cellsOf 4)) = xs[5]? := hf 5 _ rfl
  rw [List.getElem?_eq_getElem (by omega)] at f0 f1 f2 f3 f4 f5
  rw [ci] at f0 f1
  rw [cst] at f2
  rw [cIs] at f3
  rw [cEs] at f4
  rw [cBo] at f5
  obtain ⟨a, e0, _, w0⟩ := DataW.trod_int Tryz.underlying3 f0
  obtain ⟨b, e1, _, w1⟩ := DataW.trod_int Tryz.underlying3 f1
  obtain ⟨s, e2, _, _⟩ := DataW.trod_string Tryz.underlying9 f2
  obtain ⟨k, hk, rfl⟩ := Pg.sB_of s
  obtain ⟨nu, hnu, u3, e3, r3⟩ := Pg.open_sl el_int Tryz.underlying22 f3
  obtain ⟨en, hen, u4, e4, r4⟩ := Pg.open_sl el_en Tryz.underlying53 f4
  obtain ⟨st, e5, _⟩ := DataW.trod_bool Tryz.underlying4 f5
  rw [cAn] at hl
  refine ⟨a, b, k, nu, en, st, wf_i64 w0, wf_i64 w1, hk, hnu, hen, ?_⟩
  match cs, hl with
  | [y0, y1, y2, y3, y4, y5], _ =>
    simp at e0 e1 e2 e3 e4 e5
    subst e0 e1 e2 e3 e4 e5
    exact ⟨_, _, rfl, rfl, _, _, rfl, rfl, _, _, rfl, rfl, _, _, rfl, r3, _, _, rfl, r4, _, _, rfl, rfl, rfl⟩
theorem open_response {n : Nat} {cs : List Value} {x : DataW H × List MemPlace} (h : DataW.trod enc Tryz.prog w base spare held n 57 cs = some x) : ∃ r : Rs, r.Ok ∧ Pg.Reps (LW w) w (rsF r) cs := by
  obtain ⟨xs, m, _, _, hl, hxl, hf⟩ := DataW.trod_struct Tryz.underlying57 h
  have hx : xs.length = 7 := hxl
  have f0 : DataW.trod enc Tryz.prog w base spare held m 37 ((cs.drop 0).take (Tryz.prog.cellsOf 37)) = xs[0]? := hf 0 _ rfl
  have f1 : DataW.trod enc Tryz.prog w base spare held m 3 ((cs.drop 1).take (Tryz.prog.cellsOf 3)) = xs[1]? := hf 1 _ rfl
  have f2 : DataW.trod enc Tryz.prog w base spare held m 3 ((cs.drop 2).take (Tryz.prog.cellsOf 3)) = xs[2]? := hf 2 _ rfl
  have f3 : DataW.trod enc Tryz.prog w base spare held m 3 ((cs.drop 3).take (Tryz.prog.cellsOf 3)) = xs[3]? := hf 3 _ rfl
  have f4 : DataW.trod enc Tryz.prog w base spare held m 23 ((cs.drop 4).take (Tryz.prog.cellsOf 23)) = xs[4]? := hf 4 _ rfl
  have f5 : DataW.trod enc Tryz.prog w base spare held m 55 ((cs.drop 5).take (Tryz.prog.cellsOf 55)) = xs[5]? := hf 5 _ rfl
  have f6 : DataW.trod enc Tryz.prog w base spare held m 28 ((cs.drop 11).take (Tryz.prog.cellsOf 28)) = xs[6]? := hf 6 _ rfl
  rw [List.getElem?_eq_getElem (by omega)] at f0 f1 f2 f3 f4 f5 f6
  rw [cEn] at f0
  rw [ci] at f1 f2 f3
  rw [cSs] at f4
  rw [cAn] at f5
  rw [cBs] at f6
  obtain ⟨er, e0, _, w0⟩ := DataW.trod_int Tryz.underlying37 f0
  obtain ⟨co, e1, _, w1⟩ := DataW.trod_int Tryz.underlying3 f1
  obtain ⟨ve, e2, _, w2⟩ := DataW.trod_int Tryz.underlying3 f2
  obtain ⟨ha, e3, _, w3⟩ := DataW.trod_int Tryz.underlying3 f3
  obtain ⟨nm, hnm, u4, e4, r4⟩ := Pg.open_sl el_str Tryz.underlying23 f4
  obtain ⟨a, b, k, nu, en, st, wa, wb, wk, wnu, wen, r5⟩ := open_answer f5
  obtain ⟨da, hda, u6, e6, r6⟩ := Pg.open_sl el_u8 Tryz.underlying28 f6
  rw [cRs] at hl
  refine ⟨⟨er, co, ve, ha, nm, a, b, k, nu, en, st, da⟩, ⟨wf_i64 w0, wf_i64 w1, wf_i64 w2, wf_i64 w3, hnm, wa, wb, wk, wnu, wen, fun b hb => hda b hb⟩, ?_⟩
  match cs, hl with
  | [y0, y1, y2, y3, y4, z0, z1, z2, z3, z4, z5, y6], _ =>
    simp at e0 e1 e2 e3 e4 e6
    subst e0 e1 e2 e3 e4 e6
    obtain ⟨_, _, q0, s0, _, _, q1, s1, _, _, q2, s2, _, _, q3, s3, _, _, q4, s4, _, _, q5, s5, q6⟩ := r5
    simp at q0
    obtain ⟨rfl, rfl⟩ := q0
    simp at q1
    obtain ⟨rfl, rfl⟩ := q1
    simp at q2
    obtain ⟨rfl, rfl⟩ := q2
    simp at q3
    obtain ⟨rfl, rfl⟩ := q3
    simp at q4
    obtain ⟨rfl, rfl⟩ := q4
    simp at q5
    obtain ⟨rfl, rfl⟩ := q5
    exact ⟨_, _, rfl, rfl, _, _, rfl, rfl, _, _, rfl, rfl, _, _, rfl, rfl, _, _, rfl, r4, _, _, rfl, s0, _, _, rfl, s1, _, _, rfl, s2, _, _, rfl, s3, _, _, rfl, s4, _, _, rfl, s5, _, _, rfl, r6, rfl⟩
end
end Go.Proofs.YtjiolbcdfgclaaaGreatDoor
end
