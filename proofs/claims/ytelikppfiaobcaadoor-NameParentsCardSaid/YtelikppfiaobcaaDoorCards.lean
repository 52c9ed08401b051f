/-
  DERIVED. GIVEN WITH THE SEED: THE CARDS: each row of YtelikppfiaobcaaDoorRows.lean that lists a variable, with what it lists TIED to the program's text (the seventh form; the later family's looks); each row that meets fmt, with fmt's text TOLD by the authors' own Lean function (tested against real Go, not proved from fmt's source: count such statements apart). THE CARD IS WHAT COUNTS. Prove the row's statement (the work); the ties are given (YtelikppfiaobcaaDoorTie.lean); close each card by the builder's one call (the guide's Derived/Test/ToyasCard.lean, 'card_holds'). Laid BY PROGRAM, IN A SANDBOX (cutbox-door.mjs). By AI agents, Wed Nov 11 2026. No macro, syntax, notation, axiom, sorry.
-/
import Derived.Test.YtelikppfiaobcaaDoorRows
import GoSem.ClaimSeven
namespace Go.Proofs.YtelikppfiaobcaaDoor
namespace Rows

/-- THE TIED CARD OF 'gazetteerlaw02.NameTells'. -/
def nameTellsCard : Claim7 := { stood := { row := nameTellsRow, standIns := [], harness := (true, "4ec24589f0f5f26137b02521d2e0afadc07f64e7626361e1c896d6f108f38193"), looks := true }, kinds := [], alts := [], laidByText := true, laidKinds := [.data, .data, .data], laidTests := true, laidLooks := .later }
def NameTellsCardSaid : Prop := Claim7.holds Tryd.pinned (.plain (OpenSpec.ofChange nameTellsSpec)) nameTellsCard

/-- THE TIED CARD OF 'gazetteerlaw02.NameParents'. -/
def nameParentsCard : Claim7 := { stood := { row := nameParentsRow, standIns := [], harness := (true, "4ec24589f0f5f26137b02521d2e0afadc07f64e7626361e1c896d6f108f38193"), looks := true }, kinds := [], alts := [], laidByText := true, laidKinds := [.data, .data, .data], laidTests := true, laidLooks := .later }
def NameParentsCardSaid : Prop := Claim7.holds Tryd.pinned (.plain (OpenSpec.ofChange nameParentsSpec)) nameParentsCard

/-- THE TIED CARD OF 'gazetteerlaw02.NameThree'. -/
def nameThreeCard : Claim7 := { stood := { row := nameThreeRow, standIns := [], harness := (true, "4ec24589f0f5f26137b02521d2e0afadc07f64e7626361e1c896d6f108f38193"), looks := true }, kinds := [], alts := [], laidByText := true, laidKinds := [.data, .data, .data], laidTests := true, laidLooks := .later }
def NameThreeCardSaid : Prop := Claim7.holds Tryd.pinned (.plain (OpenSpec.ofChange nameThreeSpec)) nameThreeCard

/-- THE TIED CARD OF 'gazetteerlaw02.NameOrders'. -/
def nameOrdersCard : Claim7 := { stood := { row := nameOrdersRow, standIns := [], harness := (true, "4ec24589f0f5f26137b02521d2e0afadc07f64e7626361e1c896d6f108f38193"), looks := true }, kinds := [], alts := [], laidByText := true, laidKinds := [.data, .data, .data], laidTests := true, laidLooks := .later }
def NameOrdersCardSaid : Prop := Claim7.holds Tryd.pinned (.plain (OpenSpec.ofChange nameOrdersSpec)) nameOrdersCard

/-- THE TIED CARD OF 'gazetteerlaw02.NameCases'. -/
def nameCasesCard : Claim7 := { stood := { row := nameCasesRow, standIns := [], harness := (true, "4ec24589f0f5f26137b02521d2e0afadc07f64e7626361e1c896d6f108f38193"), looks := true }, kinds := [], alts := [], laidByText := true, laidKinds := [.data, .data, .data], laidTests := true, laidLooks := .later }
def NameCasesCardSaid : Prop := Claim7.holds Tryd.pinned (.plain (OpenSpec.ofChange nameCasesSpec)) nameCasesCard

/-- THE TIED CARD OF 'gazetteerlaw02.NameParses'. -/
def nameParsesCard : Claim7 := { stood := { row := nameParsesRow, standIns := [], harness := (true, "4ec24589f0f5f26137b02521d2e0afadc07f64e7626361e1c896d6f108f38193"), looks := true }, kinds := [], alts := [], laidByText := true, laidKinds := [.data, .data, .data, .data, .sentinel, .sentinel, .pinned], laidTests := true, laidLooks := .later }
def NameParsesCardSaid : Prop := Claim7.holds Tryd.pinned (.plain (OpenSpec.ofChange nameParsesSpec)) nameParsesCard

/-- THE TIED CARD OF 'gazetteerlaw02.NameBack'. -/
def nameBackCard : Claim7 := { stood := { row := nameBackRow, standIns := [], harness := (true, "4ec24589f0f5f26137b02521d2e0afadc07f64e7626361e1c896d6f108f38193"), looks := true }, kinds := [], alts := [], laidByText := true, laidKinds := [.data, .data, .data, .data, .sentinel, .sentinel, .pinned], laidTests := true, laidLooks := .later }
def NameBackCardSaid : Prop := Claim7.holds Tryd.pinned (.plain (OpenSpec.ofChange nameBackSpec)) nameBackCard

/-- THE SECOND FORM's CARD OF 'gazetteerlaw02.NameTells'. -/
def nameTellsUptoCard : Claim7 := { stood := { row := nameTellsUptoRow, standIns := [], harness := (true, "4ec24589f0f5f26137b02521d2e0afadc07f64e7626361e1c896d6f108f38193"), looks := true }, kinds := [], alts := [], laidByText := true, laidKinds := [.data, .data, .data], laidTests := true, laidLooks := .later }
def NameTellsUptoCardSaid : Prop := Claim7.holds Tryd.pinned (.plain (OpenSpec.upto nameTellsSpec)) nameTellsUptoCard

/-- THE SECOND FORM's CARD OF 'gazetteerlaw02.NameParents'. -/
def nameParentsUptoCard : Claim7 := { stood := { row := nameParentsUptoRow, standIns := [], harness := (true, "4ec24589f0f5f26137b02521d2e0afadc07f64e7626361e1c896d6f108f38193"), looks := true }, kinds := [], alts := [], laidByText := true, laidKinds := [.data, .data, .data], laidTests := true, laidLooks := .later }
def NameParentsUptoCardSaid : Prop := Claim7.holds Tryd.pinned (.plain (OpenSpec.upto nameParentsSpec)) nameParentsUptoCard

/-- THE SECOND FORM's CARD OF 'gazetteerlaw02.NameThree'. -/
def nameThreeUptoCard : Claim7 := { stood := { row := nameThreeUptoRow, standIns := [], harness := (true, "4ec24589f0f5f26137b02521d2e0afadc07f64e7626361e1c896d6f108f38193"), looks := true }, kinds := [], alts := [], laidByText := true, laidKinds := [.data, .data, .data], laidTests := true, laidLooks := .later }
def NameThreeUptoCardSaid : Prop := Claim7.holds Tryd.pinned (.plain (OpenSpec.upto nameThreeSpec)) nameThreeUptoCard

/-- THE SECOND FORM's CARD OF 'gazetteerlaw02.NameOrders'. -/
def nameOrdersUptoCard : Claim7 := { stood := { row := nameOrdersUptoRow, standIns := [], harness := (true, "4ec24589f0f5f26137b02521d2e0afadc07f64e7626361e1c896d6f108f38193"), looks := true }, kinds := [], alts := [], laidByText := true, laidKinds := [.data, .data, .data], laidTests := true, laidLooks := .later }
def NameOrdersUptoCardSaid : Prop := Claim7.holds Tryd.pinned (.plain (OpenSpec.upto nameOrdersSpec)) nameOrdersUptoCard

/-- THE SECOND FORM's CARD OF 'gazetteerlaw02.NameCases'. -/
def nameCasesUptoCard : Claim7 := { stood := { row := nameCasesUptoRow, standIns := [], harness := (true, "4ec24589f0f5f26137b02521d2e0afadc07f64e7626361e1c896d6f108f38193"), looks := true }, kinds := [], alts := [], laidByText := true, laidKinds := [.data, .data, .data], laidTests := true, laidLooks := .later }
def NameCasesUptoCardSaid : Prop := Claim7.holds Tryd.pinned (.plain (OpenSpec.upto nameCasesSpec)) nameCasesUptoCard

/-- THE SECOND FORM's CARD OF 'gazetteerlaw02.NameParses'. -/
def nameParsesUptoCard : Claim7 := { stood := { row := nameParsesUptoRow, standIns := [], harness := (true, "4ec24589f0f5f26137b02521d2e0afadc07f64e7626361e1c896d6f108f38193"), looks := true }, kinds := [], alts := [], laidByText := true, laidKinds := [.data, .data, .data, .data, .sentinel, .sentinel, .pinned], laidTests := true, laidLooks := .later }
def NameParsesUptoCardSaid : Prop := Claim7.holds Tryd.pinned (.plain (OpenSpec.upto nameParsesSpec)) nameParsesUptoCard

/-- THE SECOND FORM's CARD OF 'gazetteerlaw02.NameBack'. -/
def nameBackUptoCard : Claim7 := { stood := { row := nameBackUptoRow, standIns := [], harness := (true, "4ec24589f0f5f26137b02521d2e0afadc07f64e7626361e1c896d6f108f38193"), looks := true }, kinds := [], alts := [], laidByText := true, laidKinds := [.data, .data, .data, .data, .sentinel, .sentinel, .pinned], laidTests := true, laidLooks := .later }
def NameBackUptoCardSaid : Prop := Claim7.holds Tryd.pinned (.plain (OpenSpec.upto nameBackSpec)) nameBackUptoCard
end Rows
end Go.Proofs.YtelikppfiaobcaaDoor
