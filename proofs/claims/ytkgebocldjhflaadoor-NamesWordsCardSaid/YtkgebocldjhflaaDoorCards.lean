/-
  DERIVED. GIVEN WITH THE SEED: THE CARDS: each row of YtkgebocldjhflaaDoorRows.lean that lists a variable, with what it lists TIED to the program's text (the seventh form; the later family's looks); each row that meets fmt, with fmt's text TOLD by the authors' own Lean function (tested against real Go, not proved from fmt's source: count such statements apart). THE CARD IS WHAT COUNTS. Prove the row's statement (the work); the ties are given (YtkgebocldjhflaaDoorTie.lean); close each card by the builder's one call (the guide's Derived/Test/ToyasCard.lean, 'card_holds'). Laid BY PROGRAM, IN A SANDBOX (cutbox-door.mjs). By AI agents, Wed Nov 11 2026. No macro, syntax, notation, axiom, sorry.
-/
import Derived.Test.YtkgebocldjhflaaDoorRows
import GoSem.ClaimSeven
namespace Go.Proofs.YtkgebocldjhflaaDoor
namespace Rows

/-- THE TIED CARD OF 'sketchstorelaw4.NamesKeys'. -/
def namesKeysCard : Claim7 := { stood := { row := namesKeysRow, standIns := [], harness := (true, "02fb1b06fb536ce916fc41762b28ca2dcd8ea14b08e4ccab3c497864863163ee"), looks := false }, kinds := [], alts := [], laidByText := true, laidKinds := [.data, .data, .data], laidTests := true, laidLooks := .later }
def NamesKeysCardSaid : Prop := Claim7.holds Tryd.pinned (.plain (OpenSpec.ofChange namesKeysSpec)) namesKeysCard

/-- THE TIED CARD OF 'sketchstorelaw4.NamesBack'. -/
def namesBackCard : Claim7 := { stood := { row := namesBackRow, standIns := [], harness := (true, "02fb1b06fb536ce916fc41762b28ca2dcd8ea14b08e4ccab3c497864863163ee"), looks := false }, kinds := [], alts := [], laidByText := true, laidKinds := [.data, .data, .data], laidTests := true, laidLooks := .later }
def NamesBackCardSaid : Prop := Claim7.holds Tryd.pinned (.plain (OpenSpec.ofChange namesBackSpec)) namesBackCard

/-- THE TIED CARD OF 'sketchstorelaw4.NamesValid'. -/
def namesValidCard : Claim7 := { stood := { row := namesValidRow, standIns := [], harness := (true, "02fb1b06fb536ce916fc41762b28ca2dcd8ea14b08e4ccab3c497864863163ee"), looks := false }, kinds := [], alts := [], laidByText := true, laidKinds := [.data, .data, .data], laidTests := true, laidLooks := .later }
def NamesValidCardSaid : Prop := Claim7.holds Tryd.pinned (.plain (OpenSpec.ofChange namesValidSpec)) namesValidCard

/-- THE TIED CARD OF 'sketchstorelaw4.NamesInts'. -/
def namesIntsCard : Claim7 := { stood := { row := namesIntsRow, standIns := [], harness := (true, "02fb1b06fb536ce916fc41762b28ca2dcd8ea14b08e4ccab3c497864863163ee"), looks := false }, kinds := [], alts := [], laidByText := true, laidKinds := [.data, .data, .data], laidTests := true, laidLooks := .later }
def NamesIntsCardSaid : Prop := Claim7.holds Tryd.pinned (.plain (OpenSpec.ofChange namesIntsSpec)) namesIntsCard

/-- THE TIED CARD OF 'sketchstorelaw4.NamesWords'. -/
def namesWordsCard : Claim7 := { stood := { row := namesWordsRow, standIns := [], harness := (true, "02fb1b06fb536ce916fc41762b28ca2dcd8ea14b08e4ccab3c497864863163ee"), looks := false }, kinds := [], alts := [], laidByText := true, laidKinds := [.data, .data, .data, .data, .pinned], laidTests := true, laidLooks := .later }
def NamesWordsCardSaid : Prop := Claim7.holds Tryd.pinned (.plain (OpenSpec.ofChange namesWordsSpec)) namesWordsCard

/-- THE TIED CARD OF 'sketchstorelaw4.NamesLines'. -/
def namesLinesCard : Claim7 := { stood := { row := namesLinesRow, standIns := [], harness := (true, "02fb1b06fb536ce916fc41762b28ca2dcd8ea14b08e4ccab3c497864863163ee"), looks := false }, kinds := [], alts := [], laidByText := true, laidKinds := [.data, .data, .data, .data, .pinned], laidTests := true, laidLooks := .later }
def NamesLinesCardSaid : Prop := Claim7.holds Tryd.pinned (.plain (OpenSpec.ofChange namesLinesSpec)) namesLinesCard

/-- THE SECOND FORM's CARD OF 'sketchstorelaw4.NamesKeys'. -/
def namesKeysUptoCard : Claim7 := { stood := { row := namesKeysUptoRow, standIns := [], harness := (true, "02fb1b06fb536ce916fc41762b28ca2dcd8ea14b08e4ccab3c497864863163ee"), looks := false }, kinds := [], alts := [], laidByText := true, laidKinds := [.data, .data, .data], laidTests := true, laidLooks := .later }
def NamesKeysUptoCardSaid : Prop := Claim7.holds Tryd.pinned (.plain (OpenSpec.upto namesKeysSpec)) namesKeysUptoCard

/-- THE SECOND FORM's CARD OF 'sketchstorelaw4.NamesBack'. -/
def namesBackUptoCard : Claim7 := { stood := { row := namesBackUptoRow, standIns := [], harness := (true, "02fb1b06fb536ce916fc41762b28ca2dcd8ea14b08e4ccab3c497864863163ee"), looks := false }, kinds := [], alts := [], laidByText := true, laidKinds := [.data, .data, .data], laidTests := true, laidLooks := .later }
def NamesBackUptoCardSaid : Prop := Claim7.holds Tryd.pinned (.plain (OpenSpec.upto namesBackSpec)) namesBackUptoCard

/-- THE SECOND FORM's CARD OF 'sketchstorelaw4.NamesValid'. -/
def namesValidUptoCard : Claim7 := { stood := { row := namesValidUptoRow, standIns := [], harness := (true, "02fb1b06fb536ce916fc41762b28ca2dcd8ea14b08e4ccab3c497864863163ee"), looks := false }, kinds := [], alts := [], laidByText := true, laidKinds := [.data, .data, .data], laidTests := true, laidLooks := .later }
def NamesValidUptoCardSaid : Prop := Claim7.holds Tryd.pinned (.plain (OpenSpec.upto namesValidSpec)) namesValidUptoCard

/-- THE SECOND FORM's CARD OF 'sketchstorelaw4.NamesInts'. -/
def namesIntsUptoCard : Claim7 := { stood := { row := namesIntsUptoRow, standIns := [], harness := (true, "02fb1b06fb536ce916fc41762b28ca2dcd8ea14b08e4ccab3c497864863163ee"), looks := false }, kinds := [], alts := [], laidByText := true, laidKinds := [.data, .data, .data], laidTests := true, laidLooks := .later }
def NamesIntsUptoCardSaid : Prop := Claim7.holds Tryd.pinned (.plain (OpenSpec.upto namesIntsSpec)) namesIntsUptoCard

/-- THE SECOND FORM's CARD OF 'sketchstorelaw4.NamesWords'. -/
def namesWordsUptoCard : Claim7 := { stood := { row := namesWordsUptoRow, standIns := [], harness := (true, "02fb1b06fb536ce916fc41762b28ca2dcd8ea14b08e4ccab3c497864863163ee"), looks := false }, kinds := [], alts := [], laidByText := true, laidKinds := [.data, .data, .data, .data, .pinned], laidTests := true, laidLooks := .later }
def NamesWordsUptoCardSaid : Prop := Claim7.holds Tryd.pinned (.plain (OpenSpec.upto namesWordsSpec)) namesWordsUptoCard

/-- THE SECOND FORM's CARD OF 'sketchstorelaw4.NamesLines'. -/
def namesLinesUptoCard : Claim7 := { stood := { row := namesLinesUptoRow, standIns := [], harness := (true, "02fb1b06fb536ce916fc41762b28ca2dcd8ea14b08e4ccab3c497864863163ee"), looks := false }, kinds := [], alts := [], laidByText := true, laidKinds := [.data, .data, .data, .data, .pinned], laidTests := true, laidLooks := .later }
def NamesLinesUptoCardSaid : Prop := Claim7.holds Tryd.pinned (.plain (OpenSpec.upto namesLinesSpec)) namesLinesUptoCard
end Rows
end Go.Proofs.YtkgebocldjhflaaDoor
