/-
  DERIVED. GIVEN WITH THE SEED: THE CARDS: each row of YtipbakdodbmfjaaGreatDoorRows.lean that lists a variable, with what it lists TIED to the program's text (the seventh form; the later family's looks); each row that meets fmt, with fmt's text TOLD by the authors' own Lean function (tested against real Go, not proved from fmt's source: count such statements apart). THE CARD IS WHAT COUNTS. Prove the row's statement (the work); the ties are given (YtipbakdodbmfjaaGreatDoorTie.lean); close each card by the builder's one call (the guide's Derived/Test/ToyasCard.lean, 'card_holds'). Laid BY PROGRAM, IN A SANDBOX (cutbox-door.mjs). By AI agents, Wed Nov 11 2026. No macro, syntax, notation, axiom, sorry.
-/
import Derived.Test.YtipbakdodbmfjaaGreatDoorRows
import GoSem.ClaimSeven
namespace Go.Proofs.YtipbakdodbmfjaaGreatDoor
namespace Rows

/-- THE TIED CARD OF 'gazetteerlaw25.FileTypes'. -/
def fileTypesCard : Claim7 := { stood := { row := fileTypesRow, standIns := [], harness := (true, "fab5b64761970f4e0cf9cb2320c20c52afa86df77447b640b54cc28f6a1e98a6"), looks := true }, kinds := [], alts := [], laidByText := true, laidKinds := [.data, .data, .data, .data, .sentinel, .sentinel, .data, .pinned], laidTests := true, laidLooks := .later }
def FileTypesCardSaid : Prop := Claim7.holds Tryz.pinned (.plain (OpenSpec.ofChange fileTypesSpec)) fileTypesCard

/-- THE TIED CARD OF 'gazetteerlaw25.FileWords'. -/
def fileWordsCard : Claim7 := { stood := { row := fileWordsRow, standIns := [], harness := (true, "fab5b64761970f4e0cf9cb2320c20c52afa86df77447b640b54cc28f6a1e98a6"), looks := true }, kinds := [], alts := [], laidByText := true, laidKinds := [.data, .data, .data, .data, .sentinel, .sentinel, .data, .pinned], laidTests := true, laidLooks := .later }
def FileWordsCardSaid : Prop := Claim7.holds Tryz.pinned (.plain (OpenSpec.ofChange fileWordsSpec)) fileWordsCard

/-- THE TIED CARD OF 'gazetteerlaw25.FileBack'. -/
def fileBackCard : Claim7 := { stood := { row := fileBackRow, standIns := [], harness := (true, "fab5b64761970f4e0cf9cb2320c20c52afa86df77447b640b54cc28f6a1e98a6"), looks := true }, kinds := [], alts := [], laidByText := true, laidKinds := [.data, .data, .data, .data, .sentinel, .sentinel, .data, .pinned], laidTests := true, laidLooks := .later }
def FileBackCardSaid : Prop := Claim7.holds Tryz.pinned (.plain (OpenSpec.ofChange fileBackSpec)) fileBackCard

/-- THE TIED CARD OF 'gazetteerlaw25.FilePrints'. -/
def filePrintsCard : Claim7 := { stood := { row := filePrintsRow, standIns := [], harness := (true, "fab5b64761970f4e0cf9cb2320c20c52afa86df77447b640b54cc28f6a1e98a6"), looks := true }, kinds := [], alts := [], laidByText := true, laidKinds := [.data, .data, .data, .data, .sentinel, .sentinel, .data, .pinned], laidTests := true, laidLooks := .later }
def FilePrintsCardSaid : Prop := Claim7.holds Tryz.pinned (.plain (OpenSpec.ofChange filePrintsSpec)) filePrintsCard

/-- THE TIED CARD OF 'gazetteerlaw23.ScriptLines'. -/
def scriptLinesCard : Claim7 := { stood := { row := scriptLinesRow, standIns := [], harness := (true, "fab5b64761970f4e0cf9cb2320c20c52afa86df77447b640b54cc28f6a1e98a6"), looks := true }, kinds := [], alts := [], laidByText := true, laidKinds := [.data, .data, .data, .data, .sentinel, .sentinel, .pinned], laidTests := true, laidLooks := .later }
def ScriptLinesCardSaid : Prop := Claim7.holds Tryz.pinned (.plain (OpenSpec.ofChange scriptLinesSpec)) scriptLinesCard

/-- THE TIED CARD OF 'gazetteerlaw23.ScriptReads'. -/
def scriptReadsCard : Claim7 := { stood := { row := scriptReadsRow, standIns := [], harness := (true, "fab5b64761970f4e0cf9cb2320c20c52afa86df77447b640b54cc28f6a1e98a6"), looks := true }, kinds := [], alts := [], laidByText := true, laidKinds := [.data, .data, .data, .data, .sentinel, .sentinel, .pinned], laidTests := true, laidLooks := .later }
def ScriptReadsCardSaid : Prop := Claim7.holds Tryz.pinned (.plain (OpenSpec.ofChange scriptReadsSpec)) scriptReadsCard

/-- THE TIED CARD OF 'gazetteerlaw23.ScriptBack'. -/
def scriptBackCard : Claim7 := { stood := { row := scriptBackRow, standIns := [], harness := (true, "fab5b64761970f4e0cf9cb2320c20c52afa86df77447b640b54cc28f6a1e98a6"), looks := true }, kinds := [], alts := [], laidByText := true, laidKinds := [.data, .data, .data, .data, .sentinel, .sentinel, .pinned], laidTests := true, laidLooks := .later }
def ScriptBackCardSaid : Prop := Claim7.holds Tryz.pinned (.plain (OpenSpec.ofChange scriptBackSpec)) scriptBackCard

/-- THE TIED CARD OF 'gazetteerlaw23.ScriptFaults'. -/
def scriptFaultsCard : Claim7 := { stood := { row := scriptFaultsRow, standIns := [], harness := (true, "fab5b64761970f4e0cf9cb2320c20c52afa86df77447b640b54cc28f6a1e98a6"), looks := true }, kinds := [], alts := [], laidByText := true, laidKinds := [.data, .data, .data, .data, .sentinel, .sentinel, .pinned], laidTests := true, laidLooks := .later }
def ScriptFaultsCardSaid : Prop := Claim7.holds Tryz.pinned (.plain (OpenSpec.ofChange scriptFaultsSpec)) scriptFaultsCard

/-- THE SECOND FORM's CARD OF 'gazetteerlaw25.FileTypes'. -/
def fileTypesUptoCard : Claim7 := { stood := { row := fileTypesUptoRow, standIns := [], harness := (true, "fab5b64761970f4e0cf9cb2320c20c52afa86df77447b640b54cc28f6a1e98a6"), looks := true }, kinds := [], alts := [], laidByText := true, laidKinds := [.data, .data, .data, .data, .sentinel, .sentinel, .data, .pinned], laidTests := true, laidLooks := .later }
def FileTypesUptoCardSaid : Prop := Claim7.holds Tryz.pinned (.plain (OpenSpec.upto fileTypesSpec)) fileTypesUptoCard

/-- THE SECOND FORM's CARD OF 'gazetteerlaw25.FileWords'. -/
def fileWordsUptoCard : Claim7 := { stood := { row := fileWordsUptoRow, standIns := [], harness := (true, "fab5b64761970f4e0cf9cb2320c20c52afa86df77447b640b54cc28f6a1e98a6"), looks := true }, kinds := [], alts := [], laidByText := true, laidKinds := [.data, .data, .data, .data, .sentinel, .sentinel, .data, .pinned], laidTests := true, laidLooks := .later }
def FileWordsUptoCardSaid : Prop := Claim7.holds Tryz.pinned (.plain (OpenSpec.upto fileWordsSpec)) fileWordsUptoCard

/-- THE SECOND FORM's CARD OF 'gazetteerlaw25.FileBack'. -/
def fileBackUptoCard : Claim7 := { stood := { row := fileBackUptoRow, standIns := [], harness := (true, "fab5b64761970f4e0cf9cb2320c20c52afa86df77447b640b54cc28f6a1e98a6"), looks := true }, kinds := [], alts := [], laidByText := true, laidKinds := [.data, .data, .data, .data, .sentinel, .sentinel, .data, .pinned], laidTests := true, laidLooks := .later }
def FileBackUptoCardSaid : Prop := Claim7.holds Tryz.pinned (.plain (OpenSpec.upto fileBackSpec)) fileBackUptoCard

/-- THE SECOND FORM's CARD OF 'gazetteerlaw25.FilePrints'. -/
def filePrintsUptoCard : Claim7 := { stood := { row := filePrintsUptoRow, standIns := [], harness := (true, "fab5b64761970f4e0cf9cb2320c20c52afa86df77447b640b54cc28f6a1e98a6"), looks := true }, kinds := [], alts := [], laidByText := true, laidKinds := [.data, .data, .data, .data, .sentinel, .sentinel, .data, .pinned], laidTests := true, laidLooks := .later }
def FilePrintsUptoCardSaid : Prop := Claim7.holds Tryz.pinned (.plain (OpenSpec.upto filePrintsSpec)) filePrintsUptoCard

/-- THE SECOND FORM's CARD OF 'gazetteerlaw23.ScriptLines'. -/
def scriptLinesUptoCard : Claim7 := { stood := { row := scriptLinesUptoRow, standIns := [], harness := (true, "fab5b64761970f4e0cf9cb2320c20c52afa86df77447b640b54cc28f6a1e98a6"), looks := true }, kinds := [], alts := [], laidByText := true, laidKinds := [.data, .data, .data, .data, .sentinel, .sentinel, .pinned], laidTests := true, laidLooks := .later }
def ScriptLinesUptoCardSaid : Prop := Claim7.holds Tryz.pinned (.plain (OpenSpec.upto scriptLinesSpec)) scriptLinesUptoCard

/-- THE SECOND FORM's CARD OF 'gazetteerlaw23.ScriptReads'. -/
def scriptReadsUptoCard : Claim7 := { stood := { row := scriptReadsUptoRow, standIns := [], harness := (true, "fab5b64761970f4e0cf9cb2320c20c52afa86df77447b640b54cc28f6a1e98a6"), looks := true }, kinds := [], alts := [], laidByText := true, laidKinds := [.data, .data, .data, .data, .sentinel, .sentinel, .pinned], laidTests := true, laidLooks := .later }
def ScriptReadsUptoCardSaid : Prop := Claim7.holds Tryz.pinned (.plain (OpenSpec.upto scriptReadsSpec)) scriptReadsUptoCard

/-- THE SECOND FORM's CARD OF 'gazetteerlaw23.ScriptBack'. -/
def scriptBackUptoCard : Claim7 := { stood := { row := scriptBackUptoRow, standIns := [], harness := (true, "fab5b64761970f4e0cf9cb2320c20c52afa86df77447b640b54cc28f6a1e98a6"), looks := true }, kinds := [], alts := [], laidByText := true, laidKinds := [.data, .data, .data, .data, .sentinel, .sentinel, .pinned], laidTests := true, laidLooks := .later }
def ScriptBackUptoCardSaid : Prop := Claim7.holds Tryz.pinned (.plain (OpenSpec.upto scriptBackSpec)) scriptBackUptoCard

/-- THE SECOND FORM's CARD OF 'gazetteerlaw23.ScriptFaults'. -/
def scriptFaultsUptoCard : Claim7 := { stood := { row := scriptFaultsUptoRow, standIns := [], harness := (true, "fab5b64761970f4e0cf9cb2320c20c52afa86df77447b640b54cc28f6a1e98a6"), looks := true }, kinds := [], alts := [], laidByText := true, laidKinds := [.data, .data, .data, .data, .sentinel, .sentinel, .pinned], laidTests := true, laidLooks := .later }
def ScriptFaultsUptoCardSaid : Prop := Claim7.holds Tryz.pinned (.plain (OpenSpec.upto scriptFaultsSpec)) scriptFaultsUptoCard
end Rows
end Go.Proofs.YtipbakdodbmfjaaGreatDoor
