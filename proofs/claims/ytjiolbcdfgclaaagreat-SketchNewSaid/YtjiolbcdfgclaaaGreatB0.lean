/-
  Texts of this claim, merged: PgZ0. Each bears its own remark.
-/
import Derived.Test.YtjiolbcdfgclaaaGreatProg
import Derived.Test.YtjiolbcdfgclaaaGreatA4
set_option linter.unusedVariables false
set_option linter.unusedSimpArgs false
set_option linter.unusedSectionVars false
section
/-
  Sketches: the seat's program has no tables of its own to remember; numbers, keys, items.
-/
namespace Go.Proofs.YtjiolbcdfgclaaaGreat
open Go Go.Pg
instance : Tb Tryz.prog where
  T _ := True
  keep _ _ _ _ := trivial
theorem mix : Tryz.prog.follows .mixedOrders = true := by kernel_rfl
end Go.Proofs.YtjiolbcdfgclaaaGreat
end
