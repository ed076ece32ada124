/-
  DERIVED. GIVEN WITH THE SEED: THE CARDS: each row of YtjiolbcdfgclaaaGreatDoorRows.lean that lists a variable, with what it lists TIED to the program's text (the seventh form; the later family's looks); each row that meets fmt, with fmt's text TOLD by the authors' own Lean function (tested against real Go, not proved from fmt's source: count such statements apart). THE CARD IS WHAT COUNTS. Prove the row's statement (the work); the ties are given (YtjiolbcdfgclaaaGreatDoorTie.lean); close each card by the builder's one call (the guide's Derived/Test/ToyasCard.lean, 'card_holds'). Laid BY PROGRAM, IN A SANDBOX (cutbox-door.mjs). By AI agents, Wed Nov 11 2026. No macro, syntax, notation, axiom, sorry.
-/
import Derived.Test.YtjiolbcdfgclaaaGreatDoorRows
import GoSem.ClaimSeven
namespace Go.Proofs.YtjiolbcdfgclaaaGreatDoor
namespace Rows

/-- THE TIED CARD OF 'sketchstorelaw35.ScriptOps'. -/
def scriptOpsCard : Claim7 := { stood := { row := scriptOpsRow, standIns := [], harness := (true, "5c218bffb500fa38e320e07721358594955f2d09c46c4adbba84c359a1a4c126"), looks := true }, kinds := [], alts := [], laidByText := true, laidKinds := [.data, .data, .data, .data, .sentinel, .sentinel, .pinned], laidTests := true, laidLooks := .later }
def ScriptOpsCardSaid : Prop := Claim7.holds Tryz.pinned (.plain (OpenSpec.ofChange scriptOpsSpec)) scriptOpsCard

/-- THE TIED CARD OF 'sketchstorelaw35.ScriptWords'. -/
def scriptWordsCard : Claim7 := { stood := { row := scriptWordsRow, standIns := [], harness := (true, "5c218bffb500fa38e320e07721358594955f2d09c46c4adbba84c359a1a4c126"), looks := true }, kinds := [], alts := [], laidByText := true, laidKinds := [.data, .data, .data, .data, .sentinel, .sentinel, .pinned], laidTests := true, laidLooks := .later }
def ScriptWordsCardSaid : Prop := Claim7.holds Tryz.pinned (.plain (OpenSpec.ofChange scriptWordsSpec)) scriptWordsCard

/-- THE TIED CARD OF 'sketchstorelaw35.ScriptParses'. -/
def scriptParsesCard : Claim7 := { stood := { row := scriptParsesRow, standIns := [], harness := (true, "5c218bffb500fa38e320e07721358594955f2d09c46c4adbba84c359a1a4c126"), looks := true }, kinds := [], alts := [], laidByText := true, laidKinds := [.data, .data, .data, .data, .sentinel, .sentinel, .pinned], laidTests := true, laidLooks := .later }
def ScriptParsesCardSaid : Prop := Claim7.holds Tryz.pinned (.plain (OpenSpec.ofChange scriptParsesSpec)) scriptParsesCard

/-- THE TIED CARD OF 'sketchstorelaw35.ScriptResponses'. -/
def scriptResponsesCard : Claim7 := { stood := { row := scriptResponsesRow, standIns := [], harness := (true, "5c218bffb500fa38e320e07721358594955f2d09c46c4adbba84c359a1a4c126"), looks := true }, kinds := [], alts := [], laidByText := true, laidKinds := [.data, .data, .data, .data, .sentinel, .sentinel, .pinned], laidTests := true, laidLooks := .later }
def ScriptResponsesCardSaid : Prop := Claim7.holds Tryz.pinned (.plain (OpenSpec.ofChange scriptResponsesSpec)) scriptResponsesCard

/-- THE TIED CARD OF 'sketchstorelaw35.ScriptKeys'. -/
def scriptKeysCard : Claim7 := { stood := { row := scriptKeysRow, standIns := [], harness := (true, "5c218bffb500fa38e320e07721358594955f2d09c46c4adbba84c359a1a4c126"), looks := true }, kinds := [], alts := [], laidByText := true, laidKinds := [.data, .data, .data, .data, .sentinel, .sentinel, .pinned], laidTests := true, laidLooks := .later }
def ScriptKeysCardSaid : Prop := Claim7.holds Tryz.pinned (.plain (OpenSpec.ofChange scriptKeysSpec)) scriptKeysCard

/-- THE TIED CARD OF 'sketchstorelaw35.ScriptFormats'. -/
def scriptFormatsCard : Claim7 := { stood := { row := scriptFormatsRow, standIns := [], harness := (true, "5c218bffb500fa38e320e07721358594955f2d09c46c4adbba84c359a1a4c126"), looks := true }, kinds := [], alts := [], laidByText := true, laidKinds := [.data, .data, .data, .data, .sentinel, .sentinel, .pinned], laidTests := true, laidLooks := .later }
def ScriptFormatsCardSaid : Prop := Claim7.holds Tryz.pinned (.plain (OpenSpec.ofChange scriptFormatsSpec)) scriptFormatsCard

/-- THE SECOND FORM's CARD OF 'sketchstorelaw35.ScriptOps'. -/
def scriptOpsUptoCard : Claim7 := { stood := { row := scriptOpsUptoRow, standIns := [], harness := (true, "5c218bffb500fa38e320e07721358594955f2d09c46c4adbba84c359a1a4c126"), looks := true }, kinds := [], alts := [], laidByText := true, laidKinds := [.data, .data, .data, .data, .sentinel, .sentinel, .pinned], laidTests := true, laidLooks := .later }
def ScriptOpsUptoCardSaid : Prop := Claim7.holds Tryz.pinned (.plain (OpenSpec.upto scriptOpsSpec)) scriptOpsUptoCard

/-- THE SECOND FORM's CARD OF 'sketchstorelaw35.ScriptWords'. -/
def scriptWordsUptoCard : Claim7 := { stood := { row := scriptWordsUptoRow, standIns := [], harness := (true, "5c218bffb500fa38e320e07721358594955f2d09c46c4adbba84c359a1a4c126"), looks := true }, kinds := [], alts := [], laidByText := true, laidKinds := [.data, .data, .data, .data, .sentinel, .sentinel, .pinned], laidTests := true, laidLooks := .later }
def ScriptWordsUptoCardSaid : Prop := Claim7.holds Tryz.pinned (.plain (OpenSpec.upto scriptWordsSpec)) scriptWordsUptoCard

/-- THE SECOND FORM's CARD OF 'sketchstorelaw35.ScriptParses'. -/
def scriptParsesUptoCard : Claim7 := { stood := { row := scriptParsesUptoRow, standIns := [], harness := (true, "5c218bffb500fa38e320e07721358594955f2d09c46c4adbba84c359a1a4c126"), looks := true }, kinds := [], alts := [], laidByText := true, laidKinds := [.data, .data, .data, .data, .sentinel, .sentinel, .pinned], laidTests := true, laidLooks := .later }
def ScriptParsesUptoCardSaid : Prop := Claim7.holds Tryz.pinned (.plain (OpenSpec.upto scriptParsesSpec)) scriptParsesUptoCard

/-- THE SECOND FORM's CARD OF 'sketchstorelaw35.ScriptResponses'. -/
def scriptResponsesUptoCard : Claim7 := { stood := { row := scriptResponsesUptoRow, standIns := [], harness := (true, "5c218bffb500fa38e320e07721358594955f2d09c46c4adbba84c359a1a4c126"), looks := true }, kinds := [], alts := [], laidByText := true, laidKinds := [.data, .data, .data, .data, .sentinel, .sentinel, .pinned], laidTests := true, laidLooks := .later }
def ScriptResponsesUptoCardSaid : Prop := Claim7.holds Tryz.pinned (.plain (OpenSpec.upto scriptResponsesSpec)) scriptResponsesUptoCard

/-- THE SECOND FORM's CARD OF 'sketchstorelaw35.ScriptKeys'. -/
def scriptKeysUptoCard : Claim7 := { stood := { row := scriptKeysUptoRow, standIns := [], harness := (true, "5c218bffb500fa38e320e07721358594955f2d09c46c4adbba84c359a1a4c126"), looks := true }, kinds := [], alts := [], laidByText := true, laidKinds := [.data, .data, .data, .data, .sentinel, .sentinel, .pinned], laidTests := true, laidLooks := .later }
def ScriptKeysUptoCardSaid : Prop := Claim7.holds Tryz.pinned (.plain (OpenSpec.upto scriptKeysSpec)) scriptKeysUptoCard

/-- THE SECOND FORM's CARD OF 'sketchstorelaw35.ScriptFormats'. -/
def scriptFormatsUptoCard : Claim7 := { stood := { row := scriptFormatsUptoRow, standIns := [], harness := (true, "5c218bffb500fa38e320e07721358594955f2d09c46c4adbba84c359a1a4c126"), looks := true }, kinds := [], alts := [], laidByText := true, laidKinds := [.data, .data, .data, .data, .sentinel, .sentinel, .pinned], laidTests := true, laidLooks := .later }
def ScriptFormatsUptoCardSaid : Prop := Claim7.holds Tryz.pinned (.plain (OpenSpec.upto scriptFormatsSpec)) scriptFormatsUptoCard
end Rows
end Go.Proofs.YtjiolbcdfgclaaaGreatDoor
