/-
  No cell of these rows narrows 'for every input' (looked for: loops, veiled, ifaces, maps, wideKeys, modest, calm, conditions, laid).
  DERIVED. THE GIVEN ROWS OF THIS SEAT. 4 by the template 'for every input the law returns true; each argument reads behind the call as it read before'; 0 by the template 'total and deterministic' (their statements: YtopbmdnbdpjheaaGreatTotals.lean).
  GIVEN WITH THE SEED: the statements are not yours to turn. If you find one false, say at which input.
  Laid BY PROGRAM, IN A SANDBOX (cutbox-rows.mjs): the forced cells as the released guide's own fill.sh prints them over the translation 16e5509dd81ea986… (all of the seat's roots in one cut). By AI agents, Wed Nov 11 2026. No macro, syntax, notation, axiom, sorry.
-/
import Derived.Test.YtopbmdnbdpjheaaGreatChecked
import GoSem.Claim
import GoSem.ClaimJoined
import GoSem.ClaimMapViews
import Derived.JoinedTies
import Derived.KernelRfl
namespace Go.Proofs.YtopbmdnbdpjheaaGreat
/- THE CELL 'sum', in the pinned program and in every row, IS THE sha256 OF THE DUMP (.gsa) THAT YtopbmdnbdpjheaaGreatProg.lean LOADS. Nothing in Lean hashes anything: it is a label: what it is worth is what the hold of that sum in a sandbox is worth. -/
noncomputable def Tryz.pinned : Pinned := { name := "ytopbmdnbdpjheaagreat", sum := "16e5509dd81ea986a71295fb637e2d2389670af7a18d4cb0e808d448d0cfdab3", checked := Tryz.checked }
namespace Rows
def none {H : Type} : Left H := { results := [], args := [] }

/-- 'sketchstorelaw23.StagingCompares': WHATEVER THE INPUT: true; the input reads as it did. -/
def stagingComparesSpec : ChangeSpec := { name := "stagingCompares", fn := fun _ => fun
  | [d1, d2, d3, d4] => { results := [.lit (.bool true)], args := [d1, d2, d3, d4] }
  | _ => none }
def stagingComparesRow : OpenClaim := { program := "ytopbmdnbdpjheaagreat", sum := "16e5509dd81ea986a71295fb637e2d2389670af7a18d4cb0e808d448d0cfdab3", func := "sketchstore/sketchstorelaw23.StagingCompares", spec := "stagingCompares", inPlace := ["slices.overlaps[sketchstore/api.Binding]", "slices.overlaps[sketchstore/api.Pin]", "internal/bytealg.abigen_runtime_cmpstring"], unfollowed := true, recurses := true, apart := false }
def StagingComparesSaid : Prop := stagingComparesRow.holds Tryz.pinned (OpenSpec.ofChange stagingComparesSpec)

/-- ITS FALSE NEIGHBOUR: 'it returns false'. Refute it at one input. -/
def stagingComparesWrong : ChangeSpec := { name := "stagingCompares", fn := fun _ => fun
  | [d1, d2, d3, d4] => { results := [.lit (.bool false)], args := [d1, d2, d3, d4] }
  | _ => none }
def StagingComparesWrongFalsely : Prop := stagingComparesRow.holds Tryz.pinned (OpenSpec.ofChange stagingComparesWrong)

/-- 'sketchstorelaw23.StagingKeeps': WHATEVER THE INPUT: true; the input reads as it did. -/
def stagingKeepsSpec : ChangeSpec := { name := "stagingKeeps", fn := fun _ => fun
  | [d1, d2, d3, d4] => { results := [.lit (.bool true)], args := [d1, d2, d3, d4] }
  | _ => none }
def stagingKeepsRow : OpenClaim := { program := "ytopbmdnbdpjheaagreat", sum := "16e5509dd81ea986a71295fb637e2d2389670af7a18d4cb0e808d448d0cfdab3", func := "sketchstore/sketchstorelaw23.StagingKeeps", spec := "stagingKeeps", inPlace := ["slices.overlaps[sketchstore/api.Binding]", "slices.overlaps[sketchstore/api.Pin]", "internal/bytealg.abigen_runtime_cmpstring"], unfollowed := true, recurses := true, apart := false }
def StagingKeepsSaid : Prop := stagingKeepsRow.holds Tryz.pinned (OpenSpec.ofChange stagingKeepsSpec)

/-- ITS FALSE NEIGHBOUR: 'it returns false'. Refute it at one input. -/
def stagingKeepsWrong : ChangeSpec := { name := "stagingKeeps", fn := fun _ => fun
  | [d1, d2, d3, d4] => { results := [.lit (.bool false)], args := [d1, d2, d3, d4] }
  | _ => none }
def StagingKeepsWrongFalsely : Prop := stagingKeepsRow.holds Tryz.pinned (OpenSpec.ofChange stagingKeepsWrong)

/-- 'sketchstorelaw23.StagingBegins': WHATEVER THE INPUT: true; the input reads as it did. -/
def stagingBeginsSpec : ChangeSpec := { name := "stagingBegins", fn := fun _ => fun
  | [d1, d2, d3] => { results := [.lit (.bool true)], args := [d1, d2, d3] }
  | _ => none }
def stagingBeginsRow : OpenClaim := { program := "ytopbmdnbdpjheaagreat", sum := "16e5509dd81ea986a71295fb637e2d2389670af7a18d4cb0e808d448d0cfdab3", func := "sketchstore/sketchstorelaw23.StagingBegins", spec := "stagingBegins", inPlace := ["slices.overlaps[sketchstore/api.Binding]", "slices.overlaps[sketchstore/api.Pin]", "internal/bytealg.abigen_runtime_cmpstring"], unfollowed := true, recurses := true, apart := false }
def StagingBeginsSaid : Prop := stagingBeginsRow.holds Tryz.pinned (OpenSpec.ofChange stagingBeginsSpec)

/-- ITS FALSE NEIGHBOUR: 'it returns false'. Refute it at one input. -/
def stagingBeginsWrong : ChangeSpec := { name := "stagingBegins", fn := fun _ => fun
  | [d1, d2, d3] => { results := [.lit (.bool false)], args := [d1, d2, d3] }
  | _ => none }
def StagingBeginsWrongFalsely : Prop := stagingBeginsRow.holds Tryz.pinned (OpenSpec.ofChange stagingBeginsWrong)

/-- 'sketchstorelaw23.StagingEnds': WHATEVER THE INPUT: true; the input reads as it did. -/
def stagingEndsSpec : ChangeSpec := { name := "stagingEnds", fn := fun _ => fun
  | [d1, d2, d3] => { results := [.lit (.bool true)], args := [d1, d2, d3] }
  | _ => none }
def stagingEndsRow : OpenClaim := { program := "ytopbmdnbdpjheaagreat", sum := "16e5509dd81ea986a71295fb637e2d2389670af7a18d4cb0e808d448d0cfdab3", func := "sketchstore/sketchstorelaw23.StagingEnds", spec := "stagingEnds", inPlace := ["slices.overlaps[sketchstore/api.Binding]", "slices.overlaps[sketchstore/api.Pin]", "internal/bytealg.abigen_runtime_cmpstring"], unfollowed := true, recurses := true, apart := false }
def StagingEndsSaid : Prop := stagingEndsRow.holds Tryz.pinned (OpenSpec.ofChange stagingEndsSpec)

/-- ITS FALSE NEIGHBOUR: 'it returns false'. Refute it at one input. -/
def stagingEndsWrong : ChangeSpec := { name := "stagingEnds", fn := fun _ => fun
  | [d1, d2, d3] => { results := [.lit (.bool false)], args := [d1, d2, d3] }
  | _ => none }
def StagingEndsWrongFalsely : Prop := stagingEndsRow.holds Tryz.pinned (OpenSpec.ofChange stagingEndsWrong)

/- THE SECOND FORM. 'bulk': how many values and letters a reading holds, each counted each time it is reached (what is shared counts as often as it is met; a slice's spare places count too). A statement '..UptoSaid' is the law's where the arguments, and the package variables that the reading takes, are together of bulk at most 1048576: NARROWER than '..Said'. Prove '..Said' where nothing that the law and all that it calls make is longer than what came in: it says more and counts as full. Else prove '..UptoSaid'. A law counts once. -/
mutual
def uptoBulk {H : Type} : DataW H → Nat
  | .lit (.string bytes) => bytes.length + 1
  | .lit _ => 1
  | .nil => 1
  | .ptr d => uptoBulk d + 1
  | .slice elems spare => uptoBulkAll elems + uptoBulkAll spare + 1
  | .agg parts => uptoBulkAll parts + 1
  | .iface _ d => uptoBulk d + 1
  | .map entries => uptoBulkEntries entries + 1
  | .held _ => 1
def uptoBulkAll {H : Type} : List (DataW H) → Nat
  | [] => 0
  | d :: r => uptoBulk d + uptoBulkAll r
def uptoBulkEntries {H : Type} : List (Lit × DataW H) → Nat
  | [] => 0
  | x :: r => uptoBulkEntry x + uptoBulkEntries r
def uptoBulkEntry {H : Type} : Lit × DataW H → Nat
  | (.string bytes, d) => bytes.length + uptoBulk d + 1
  | (_, d) => uptoBulk d + 1
 end
def uptoSmall : (H : Type) → List (DataW H) → Bool := fun _ ds => decide (uptoBulkAll ds ≤ 1048576)
def OpenSpec.upto (s : _root_.Go.ChangeSpec) : _root_.Go.OpenSpec := { _root_.Go.OpenSpec.ofChange s with cond := some uptoSmall }

/-- 'sketchstorelaw23.StagingCompares', WHERE WHAT IT READS IS OF BULK AT MOST 1048576: true; the input reads as it did. -/
def stagingComparesUptoRow : OpenClaim := { program := "ytopbmdnbdpjheaagreat", sum := "16e5509dd81ea986a71295fb637e2d2389670af7a18d4cb0e808d448d0cfdab3", func := "sketchstore/sketchstorelaw23.StagingCompares", spec := "stagingCompares", inPlace := ["slices.overlaps[sketchstore/api.Binding]", "slices.overlaps[sketchstore/api.Pin]", "internal/bytealg.abigen_runtime_cmpstring"], unfollowed := true, recurses := true, apart := false, narrowed := true }
def StagingComparesUptoSaid : Prop := stagingComparesUptoRow.holds Tryz.pinned (OpenSpec.upto stagingComparesSpec)

/-- 'sketchstorelaw23.StagingKeeps', WHERE WHAT IT READS IS OF BULK AT MOST 1048576: true; the input reads as it did. -/
def stagingKeepsUptoRow : OpenClaim := { program := "ytopbmdnbdpjheaagreat", sum := "16e5509dd81ea986a71295fb637e2d2389670af7a18d4cb0e808d448d0cfdab3", func := "sketchstore/sketchstorelaw23.StagingKeeps", spec := "stagingKeeps", inPlace := ["slices.overlaps[sketchstore/api.Binding]", "slices.overlaps[sketchstore/api.Pin]", "internal/bytealg.abigen_runtime_cmpstring"], unfollowed := true, recurses := true, apart := false, narrowed := true }
def StagingKeepsUptoSaid : Prop := stagingKeepsUptoRow.holds Tryz.pinned (OpenSpec.upto stagingKeepsSpec)

/-- 'sketchstorelaw23.StagingBegins', WHERE WHAT IT READS IS OF BULK AT MOST 1048576: true; the input reads as it did. -/
def stagingBeginsUptoRow : OpenClaim := { program := "ytopbmdnbdpjheaagreat", sum := "16e5509dd81ea986a71295fb637e2d2389670af7a18d4cb0e808d448d0cfdab3", func := "sketchstore/sketchstorelaw23.StagingBegins", spec := "stagingBegins", inPlace := ["slices.overlaps[sketchstore/api.Binding]", "slices.overlaps[sketchstore/api.Pin]", "internal/bytealg.abigen_runtime_cmpstring"], unfollowed := true, recurses := true, apart := false, narrowed := true }
def StagingBeginsUptoSaid : Prop := stagingBeginsUptoRow.holds Tryz.pinned (OpenSpec.upto stagingBeginsSpec)

/-- 'sketchstorelaw23.StagingEnds', WHERE WHAT IT READS IS OF BULK AT MOST 1048576: true; the input reads as it did. -/
def stagingEndsUptoRow : OpenClaim := { program := "ytopbmdnbdpjheaagreat", sum := "16e5509dd81ea986a71295fb637e2d2389670af7a18d4cb0e808d448d0cfdab3", func := "sketchstore/sketchstorelaw23.StagingEnds", spec := "stagingEnds", inPlace := ["slices.overlaps[sketchstore/api.Binding]", "slices.overlaps[sketchstore/api.Pin]", "internal/bytealg.abigen_runtime_cmpstring"], unfollowed := true, recurses := true, apart := false, narrowed := true }
def StagingEndsUptoSaid : Prop := stagingEndsUptoRow.holds Tryz.pinned (OpenSpec.upto stagingEndsSpec)

end Rows
end Go.Proofs.YtopbmdnbdpjheaaGreat
