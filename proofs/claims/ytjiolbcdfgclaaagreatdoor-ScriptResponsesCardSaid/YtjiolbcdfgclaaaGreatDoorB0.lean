/-
  Texts of this claim, merged: PgY0. Each bears its own remark.
-/
import Derived.Test.YtjiolbcdfgclaaaGreatDoorProg
import Derived.Test.YtjiolbcdfgclaaaGreatDoorA4
import Derived.Lib.LaidTab
import Derived.Lib.ItoaMem
set_option linter.unusedVariables false
set_option linter.unusedSimpArgs false
set_option linter.unusedSectionVars false
section
/-
  Scripts: what the seat's program holds in its own tables (internal/strconv's powers of ten; some number in internal/bytealg.MaxLen), and that it outlives whatever a call makes.
-/
namespace Go.Proofs.YtjiolbcdfgclaaaGreatDoor
open Go Go.Pg

theorem tabIs_keep {P : Program} {w w' : World} {name : String} {k : IntKind} {zs : List Int} (h : Lib.TabIs P w name k zs) (K : Kp (fun _ => False) w.heap.size w w') : Lib.TabIs P w' name k zs := by
  unfold Lib.TabIs World.var? at *
  cases hg : P.globalNamed name with
  | none => simp [hg] at h
  | some g =>
    simp only [hg, Option.bind_some] at h ⊢
    have hlt : g < w.heap.size := by
      rcases Nat.lt_or_ge g w.heap.size with h' | h'
      · exact h'
      · rw [Array.getElem?_eq_none h'] at h; simp at h
    rw [K.block g hlt (fun h => h)]
    exact h
theorem cell_keep {w w' : World} {a : Addr} {v : Value} (h : w.cell? a = some v) (K : Kp (fun _ => False) w.heap.size w w') : w'.cell? a = some v := by
  have hlt : a.block < w.heap.size := by
    rcases Nat.lt_or_ge a.block w.heap.size with h' | h'
    · exact h'
    · simp [World.cell?, Array.getElem?_eq_none h'] at h
  unfold World.cell? at *
  rw [K.block a.block hlt (fun h => h)]
  exact h
/-- math/bits.deBruijn64tab. -/
def bruijn : List Int := [0, 1, 56, 2, 57, 49, 28, 3, 61, 58, 42, 50, 38, 29, 17, 4, 62, 47, 59, 36, 45, 43, 51, 22, 53, 39, 33, 30, 24, 18, 12, 5, 63, 55, 48, 27, 60, 41, 37, 16, 46, 35, 44, 21, 52, 32, 23, 11, 54, 26, 40, 15, 34, 20, 31, 10, 25, 14, 19, 9, 13, 8, 7, 6]
instance : Tb Tryz.prog where
  T w := Lib.TabIs Tryz.prog w "internal/strconv.uint64pow10" .u64 Lib.pow10Tab ∧ (∃ m, w.cell? ⟨1, 0, none⟩ = some (.int .i64 m)) ∧ Lib.TabIs Tryz.prog w "math/bits.deBruijn64tab" .u8 bruijn
  keep _ _ h K := ⟨tabIs_keep h.1 K, h.2.1.imp fun _ h => cell_keep h K, tabIs_keep h.2.2 K⟩
theorem mix : Tryz.prog.follows .mixedOrders = true := by kernel_rfl
end Go.Proofs.YtjiolbcdfgclaaaGreatDoor
end
