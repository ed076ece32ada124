/-
  No cell of these rows narrows 'for every input' (looked for: loops, veiled, ifaces, maps, wideKeys, modest, calm, conditions, laid).
  DERIVED. THE GIVEN ROWS OF THIS SEAT. 3 by the template 'for every input the law returns true; each argument reads behind the call as it read before'; 0 by the template 'total and deterministic' (their statements: YtiohdbjggmmjcaaGreatTotals.lean).
  GIVEN WITH THE SEED: the statements are not yours to turn. If you find one false, say at which input.
  Laid BY PROGRAM, IN A SANDBOX (cutbox-rows.mjs): the forced cells as the released guide's own fill.sh prints them over the translation d3133f0703afdfec… (all of the seat's roots in one cut). By AI agents, Wed Nov 11 2026. No macro, syntax, notation, axiom, sorry.
-/
import Derived.Test.YtiohdbjggmmjcaaGreatChecked
import GoSem.Claim
import GoSem.ClaimJoined
import GoSem.ClaimMapViews
import Derived.JoinedTies
import Derived.KernelRfl
namespace Go.Proofs.YtiohdbjggmmjcaaGreat
/- THE CELL 'sum', in the pinned program and in every row, IS THE sha256 OF THE DUMP (.gsa) THAT YtiohdbjggmmjcaaGreatProg.lean LOADS. Nothing in Lean hashes anything: it is a label: what it is worth is what the hold of that sum in a sandbox is worth. -/
noncomputable def Tryz.pinned : Pinned := { name := "ytiohdbjggmmjcaagreat", sum := "d3133f0703afdfec61ceccbfa0336abad8175aa656985c2e87bfcbcf3e567929", checked := Tryz.checked }
namespace Rows
def none {H : Type} : Left H := { results := [], args := [] }

/-- 'sketchstorelaw12.SketchInserts': WHATEVER THE INPUT: true; the input reads as it did. -/
def sketchInsertsSpec : ChangeSpec := { name := "sketchInserts", fn := fun _ => fun
  | [d1, d2, d3] => { results := [.lit (.bool true)], args := [d1, d2, d3] }
  | _ => none }
def sketchInsertsRow : OpenClaim := { program := "ytiohdbjggmmjcaagreat", sum := "d3133f0703afdfec61ceccbfa0336abad8175aa656985c2e87bfcbcf3e567929", func := "sketchstore/sketchstorelaw12.SketchInserts", spec := "sketchInserts", inPlace := ["internal/bytealg.abigen_runtime_cmpstring", "slices.overlaps[sketchstore/api.Entry]"], unfollowed := true, recurses := true, apart := false }
def SketchInsertsSaid : Prop := sketchInsertsRow.holds Tryz.pinned (OpenSpec.ofChange sketchInsertsSpec)

/-- ITS FALSE NEIGHBOUR: 'it returns false'. Refute it at one input. -/
def sketchInsertsWrong : ChangeSpec := { name := "sketchInserts", fn := fun _ => fun
  | [d1, d2, d3] => { results := [.lit (.bool false)], args := [d1, d2, d3] }
  | _ => none }
def SketchInsertsWrongFalsely : Prop := sketchInsertsRow.holds Tryz.pinned (OpenSpec.ofChange sketchInsertsWrong)

/-- 'sketchstorelaw12.SketchMerges': WHATEVER THE INPUT: true; the input reads as it did. -/
def sketchMergesSpec : ChangeSpec := { name := "sketchMerges", fn := fun _ => fun
  | [d1, d2, d3, d4] => { results := [.lit (.bool true)], args := [d1, d2, d3, d4] }
  | _ => none }
def sketchMergesRow : OpenClaim := { program := "ytiohdbjggmmjcaagreat", sum := "d3133f0703afdfec61ceccbfa0336abad8175aa656985c2e87bfcbcf3e567929", func := "sketchstore/sketchstorelaw12.SketchMerges", spec := "sketchMerges", inPlace := ["internal/bytealg.abigen_runtime_cmpstring", "slices.overlaps[sketchstore/api.Entry]"], unfollowed := true, recurses := true, apart := false }
def SketchMergesSaid : Prop := sketchMergesRow.holds Tryz.pinned (OpenSpec.ofChange sketchMergesSpec)

/-- ITS FALSE NEIGHBOUR: 'it returns false'. Refute it at one input. -/
def sketchMergesWrong : ChangeSpec := { name := "sketchMerges", fn := fun _ => fun
  | [d1, d2, d3, d4] => { results := [.lit (.bool false)], args := [d1, d2, d3, d4] }
  | _ => none }
def SketchMergesWrongFalsely : Prop := sketchMergesRow.holds Tryz.pinned (OpenSpec.ofChange sketchMergesWrong)

/-- 'sketchstorelaw12.SketchUnion': WHATEVER THE INPUT: true; the input reads as it did. -/
def sketchUnionSpec : ChangeSpec := { name := "sketchUnion", fn := fun _ => fun
  | [d1, d2, d3] => { results := [.lit (.bool true)], args := [d1, d2, d3] }
  | _ => none }
def sketchUnionRow : OpenClaim := { program := "ytiohdbjggmmjcaagreat", sum := "d3133f0703afdfec61ceccbfa0336abad8175aa656985c2e87bfcbcf3e567929", func := "sketchstore/sketchstorelaw12.SketchUnion", spec := "sketchUnion", inPlace := ["internal/bytealg.abigen_runtime_cmpstring", "slices.overlaps[sketchstore/api.Entry]"], unfollowed := true, recurses := true, apart := false }
def SketchUnionSaid : Prop := sketchUnionRow.holds Tryz.pinned (OpenSpec.ofChange sketchUnionSpec)

/-- ITS FALSE NEIGHBOUR: 'it returns false'. Refute it at one input. -/
def sketchUnionWrong : ChangeSpec := { name := "sketchUnion", fn := fun _ => fun
  | [d1, d2, d3] => { results := [.lit (.bool false)], args := [d1, d2, d3] }
  | _ => none }
def SketchUnionWrongFalsely : Prop := sketchUnionRow.holds Tryz.pinned (OpenSpec.ofChange sketchUnionWrong)

/- THE SECOND FORM. 'bulk': how many values and letters a reading holds, each counted each time it is reached (what is shared counts as often as it is met; a slice's spare places count too). A statement '..UptoSaid' is the law's where the arguments, and the package variables that the reading takes, are together of bulk at most 1048576: NARROWER than '..Said'. Prove '..Said' where nothing that the law and all that it calls make is longer than what came in: it says more and counts as full. Else prove '..UptoSaid'. A law counts once. -/
mutual
def uptoBulk {H : Type} : DataW H → Nat
  | .lit (.string bytes) => bytes.length + 1
  | .lit _ => 1
  | .nil => 1
  | .ptr d => uptoBulk d + 1
  | .slice elems spare => uptoBulkAll elems + uptoBulkAll spare + 1
  | .agg parts => uptoBulkAll parts + 1
  | .iface _ d => uptoBulk d + 1
  | .map entries => uptoBulkEntries entries + 1
  | .held _ => 1
def uptoBulkAll {H : Type} : List (DataW H) → Nat
  | [] => 0
  | d :: r => uptoBulk d + uptoBulkAll r
def uptoBulkEntries {H : Type} : List (Lit × DataW H) → Nat
  | [] => 0
  | x :: r => uptoBulkEntry x + uptoBulkEntries r
def uptoBulkEntry {H : Type} : Lit × DataW H → Nat
  | (.string bytes, d) => bytes.length + uptoBulk d + 1
  | (_, d) => uptoBulk d + 1
 end
def uptoSmall : (H : Type) → List (DataW H) → Bool := fun _ ds => decide (uptoBulkAll ds ≤ 1048576)
def OpenSpec.upto (s : _root_.Go.ChangeSpec) : _root_.Go.OpenSpec := { _root_.Go.OpenSpec.ofChange s with cond := some uptoSmall }

/-- 'sketchstorelaw12.SketchInserts', WHERE WHAT IT READS IS OF BULK AT MOST 1048576: true; the input reads as it did. -/
def sketchInsertsUptoRow : OpenClaim := { program := "ytiohdbjggmmjcaagreat", sum := "d3133f0703afdfec61ceccbfa0336abad8175aa656985c2e87bfcbcf3e567929", func := "sketchstore/sketchstorelaw12.SketchInserts", spec := "sketchInserts", inPlace := ["internal/bytealg.abigen_runtime_cmpstring", "slices.overlaps[sketchstore/api.Entry]"], unfollowed := true, recurses := true, apart := false, narrowed := true }
def SketchInsertsUptoSaid : Prop := sketchInsertsUptoRow.holds Tryz.pinned (OpenSpec.upto sketchInsertsSpec)

/-- 'sketchstorelaw12.SketchMerges', WHERE WHAT IT READS IS OF BULK AT MOST 1048576: true; the input reads as it did. -/
def sketchMergesUptoRow : OpenClaim := { program := "ytiohdbjggmmjcaagreat", sum := "d3133f0703afdfec61ceccbfa0336abad8175aa656985c2e87bfcbcf3e567929", func := "sketchstore/sketchstorelaw12.SketchMerges", spec := "sketchMerges", inPlace := ["internal/bytealg.abigen_runtime_cmpstring", "slices.overlaps[sketchstore/api.Entry]"], unfollowed := true, recurses := true, apart := false, narrowed := true }
def SketchMergesUptoSaid : Prop := sketchMergesUptoRow.holds Tryz.pinned (OpenSpec.upto sketchMergesSpec)

/-- 'sketchstorelaw12.SketchUnion', WHERE WHAT IT READS IS OF BULK AT MOST 1048576: true; the input reads as it did. -/
def sketchUnionUptoRow : OpenClaim := { program := "ytiohdbjggmmjcaagreat", sum := "d3133f0703afdfec61ceccbfa0336abad8175aa656985c2e87bfcbcf3e567929", func := "sketchstore/sketchstorelaw12.SketchUnion", spec := "sketchUnion", inPlace := ["internal/bytealg.abigen_runtime_cmpstring", "slices.overlaps[sketchstore/api.Entry]"], unfollowed := true, recurses := true, apart := false, narrowed := true }
def SketchUnionUptoSaid : Prop := sketchUnionUptoRow.holds Tryz.pinned (OpenSpec.upto sketchUnionSpec)

end Rows
end Go.Proofs.YtiohdbjggmmjcaaGreat
