/-
  Texts of this claim, merged: PgNR. Each bears its own remark.
-/
import Derived.Test.YtkgebocldjhflaaDoorB5
import Derived.Test.YtkgebocldjhflaaDoorTie
import Derived.Test.YtkgebocldjhflaaDoorCards
import Derived.ProofKit
import Derived.LaidMore
import Derived.OpenShut
import Derived.Stop.Joined
import Derived.Stop.LaidErr
import Derived.SizedLaws
import Derived.ChangeMaps5
import Derived.SevenTiedAt
set_option linter.unusedVariables false
set_option linter.unusedSimpArgs false
set_option linter.unusedSectionVars false
section
/-
  Names: what the rows share: the listed table, the witness's world, strings that came in.
-/
namespace Go.Proofs.YtkgebocldjhflaaDoor
open Go Go.ChangeShapes Go.WideShapes Go.ChangeAt Go.RowKit

theorem own : ownKnob Tryd.prog.godebug = none := by kernel_rfl
theorem laidOut : laidOutB Tryd.prog = true := by kernel_rfl
theorem gTab : Tryd.prog.globalNamed tabN = some 1 := by kernel_rfl
theorem tTab : (Tryd.prog.globals[1]?).map (·.type) = some 80 := by kernel_rfl
theorem c80 : Tryd.prog.cellsOf 80 = 20 := by kernel_rfl
theorem c70 : Tryd.prog.cellsOf 70 = 1 := by kernel_rfl
theorem tabD : (Rows.laid_internal_strconv_uint64pow10 : DataW Unit) = Lib.tabData .u64 Lib.pow10Tab := by kernel_rfl
theorem tab_of_laid {W : World} {n1 n2 : String} {d1 d2 : DataW Unit} {rest : List (String × DataW Unit)} (h : laidMet Tryd.prog ((n1, d1) :: (n2, d2) :: (tabN, Rows.laid_internal_strconv_uint64pow10) :: rest) W) : Lib.TabIs Tryd.prog W tabN .u64 Lib.pow10Tab := by
  have h2 : laidMet Tryd.prog ((tabN, Rows.laid_internal_strconv_uint64pow10) :: rest) W := h.tail.tail
  rw [tabD] at h2
  exact Lib.tabIs_of_head gTab tTab Tryd.underlying80 Tryd.underlying70 c70 c80 h2
/-- A string that came in, as octets. -/
theorem str_in (z : ByteArray) : ∃ l, Pg.oct l ∧ z = Pg.sB l ∧ l.length = z.size := by
  obtain ⟨l, h1, h2⟩ := Pg.sB_of z
  exact ⟨l, h1, h2, by rw [h2, Pg.sB_size]⟩
theorem wf_i64 {n : Int} (h : (Lit.int .i64 n).wf = true) : -9223372036854775808 ≤ n ∧ n ≤ 9223372036854775807 := by
  simp only [Lit.wf, Bool.and_eq_true, decide_eq_true_eq] at h
  have e1 : IntKind.i64.min = -9223372036854775808 := rfl
  have e2 : IntKind.i64.max = 9223372036854775807 := rfl
  rw [e1, e2] at h
  exact h
theorem keptB {W W' : World} (hk : Pg.Kp (fun _ => False) W.heap.size W W') : Below W.heap.size W W' := ⟨hk.os, hk.tape, hk.output, hk.size, fun k h => hk.block k h (fun h => h)⟩
end Go.Proofs.YtkgebocldjhflaaDoor
end
