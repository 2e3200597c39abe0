/-
  DERIVED. GIVEN WITH THE SEED: THE CARDS: each row of YtggelmnahggdgaaDoorRows.lean that lists a variable, with what it lists TIED to the program's text (the seventh form; the later family's looks); each row that meets fmt, with fmt's text TOLD by the authors' own Lean function (tested against real Go, not proved from fmt's source: count such statements apart). THE CARD IS WHAT COUNTS. Prove the row's statement (the work); the ties are given (YtggelmnahggdgaaDoorTie.lean); close each card by the builder's one call (the guide's Derived/Test/ToyasCard.lean, 'card_holds'). Laid BY PROGRAM, IN A SANDBOX (cutbox-door.mjs). By AI agents, Wed Nov 11 2026. No macro, syntax, notation, axiom, sorry.
-/
import Derived.Test.YtggelmnahggdgaaDoorRows
import GoSem.ClaimSeven
namespace Go.Proofs.YtggelmnahggdgaaDoor
namespace Rows

/-- THE TIED CARD OF 'skualaw01.WordNorms'. -/
def wordNormsCard : Claim7 := { stood := { row := wordNormsRow, standIns := [], harness := (true, "286cdf20e59dc5bc926430da7be9b632338a9e61669d900b1525d829414b1abc"), looks := false }, kinds := [], alts := [], laidByText := true, laidKinds := [.data], laidTests := true, laidLooks := .later }
def WordNormsCardSaid : Prop := Claim7.holds Tryd.pinned (.plain (OpenSpec.ofChange wordNormsSpec)) wordNormsCard

/-- THE TIED CARD OF 'skualaw01.WordDoes'. -/
def wordDoesCard : Claim7 := { stood := { row := wordDoesRow, standIns := [], harness := (true, "286cdf20e59dc5bc926430da7be9b632338a9e61669d900b1525d829414b1abc"), looks := false }, kinds := [], alts := [], laidByText := true, laidKinds := [.data], laidTests := true, laidLooks := .later }
def WordDoesCardSaid : Prop := Claim7.holds Tryd.pinned (.plain (OpenSpec.ofChange wordDoesSpec)) wordDoesCard

/-- THE TIED CARD OF 'skualaw01.WordCasts'. -/
def wordCastsCard : Claim7 := { stood := { row := wordCastsRow, standIns := [], harness := (true, "286cdf20e59dc5bc926430da7be9b632338a9e61669d900b1525d829414b1abc"), looks := false }, kinds := [], alts := [], laidByText := true, laidKinds := [.data], laidTests := true, laidLooks := .later }
def WordCastsCardSaid : Prop := Claim7.holds Tryd.pinned (.plain (OpenSpec.ofChange wordCastsSpec)) wordCastsCard

/-- THE TIED CARD OF 'skualaw01.WordDivides'. -/
def wordDividesCard : Claim7 := { stood := { row := wordDividesRow, standIns := [], harness := (true, "286cdf20e59dc5bc926430da7be9b632338a9e61669d900b1525d829414b1abc"), looks := false }, kinds := [], alts := [], laidByText := true, laidKinds := [.data], laidTests := true, laidLooks := .later }
def WordDividesCardSaid : Prop := Claim7.holds Tryd.pinned (.plain (OpenSpec.ofChange wordDividesSpec)) wordDividesCard

/-- THE TIED CARD OF 'skualaw01.WordSigns'. -/
def wordSignsCard : Claim7 := { stood := { row := wordSignsRow, standIns := [], harness := (true, "286cdf20e59dc5bc926430da7be9b632338a9e61669d900b1525d829414b1abc"), looks := false }, kinds := [], alts := [], laidByText := true, laidKinds := [.data], laidTests := true, laidLooks := .later }
def WordSignsCardSaid : Prop := Claim7.holds Tryd.pinned (.plain (OpenSpec.ofChange wordSignsSpec)) wordSignsCard

/-- THE TIED CARD OF 'skualaw01.WordShifts'. -/
def wordShiftsCard : Claim7 := { stood := { row := wordShiftsRow, standIns := [], harness := (true, "286cdf20e59dc5bc926430da7be9b632338a9e61669d900b1525d829414b1abc"), looks := false }, kinds := [], alts := [], laidByText := true, laidKinds := [.data], laidTests := true, laidLooks := .later }
def WordShiftsCardSaid : Prop := Claim7.holds Tryd.pinned (.plain (OpenSpec.ofChange wordShiftsSpec)) wordShiftsCard

/-- THE TIED CARD OF 'skualaw01.WordTypes'. -/
def wordTypesCard : Claim7 := { stood := { row := wordTypesRow, standIns := [], harness := (true, "286cdf20e59dc5bc926430da7be9b632338a9e61669d900b1525d829414b1abc"), looks := false }, kinds := [], alts := [], laidByText := true, laidKinds := [.data], laidTests := true, laidLooks := .later }
def WordTypesCardSaid : Prop := Claim7.holds Tryd.pinned (.plain (OpenSpec.ofChange wordTypesSpec)) wordTypesCard

/-- THE TIED CARD OF 'skualaw01.WordTurns'. -/
def wordTurnsCard : Claim7 := { stood := { row := wordTurnsRow, standIns := [], harness := (true, "286cdf20e59dc5bc926430da7be9b632338a9e61669d900b1525d829414b1abc"), looks := false }, kinds := [], alts := [], laidByText := true, laidKinds := [.data], laidTests := true, laidLooks := .later }
def WordTurnsCardSaid : Prop := Claim7.holds Tryd.pinned (.plain (OpenSpec.ofChange wordTurnsSpec)) wordTurnsCard

/-- THE TIED CARD OF 'skualaw01.WordTests'. -/
def wordTestsCard : Claim7 := { stood := { row := wordTestsRow, standIns := [], harness := (true, "286cdf20e59dc5bc926430da7be9b632338a9e61669d900b1525d829414b1abc"), looks := false }, kinds := [], alts := [], laidByText := true, laidKinds := [.data], laidTests := true, laidLooks := .later }
def WordTestsCardSaid : Prop := Claim7.holds Tryd.pinned (.plain (OpenSpec.ofChange wordTestsSpec)) wordTestsCard

/-- THE TIED CARD OF 'skualaw01.WordOrder'. -/
def wordOrderCard : Claim7 := { stood := { row := wordOrderRow, standIns := [], harness := (true, "286cdf20e59dc5bc926430da7be9b632338a9e61669d900b1525d829414b1abc"), looks := false }, kinds := [], alts := [], laidByText := true, laidKinds := [.data], laidTests := true, laidLooks := .later }
def WordOrderCardSaid : Prop := Claim7.holds Tryd.pinned (.plain (OpenSpec.ofChange wordOrderSpec)) wordOrderCard

/-- THE SECOND FORM's CARD OF 'skualaw01.WordNorms'. -/
def wordNormsUptoCard : Claim7 := { stood := { row := wordNormsUptoRow, standIns := [], harness := (true, "286cdf20e59dc5bc926430da7be9b632338a9e61669d900b1525d829414b1abc"), looks := false }, kinds := [], alts := [], laidByText := true, laidKinds := [.data], laidTests := true, laidLooks := .later }
def WordNormsUptoCardSaid : Prop := Claim7.holds Tryd.pinned (.plain (OpenSpec.upto wordNormsSpec)) wordNormsUptoCard

/-- THE SECOND FORM's CARD OF 'skualaw01.WordDoes'. -/
def wordDoesUptoCard : Claim7 := { stood := { row := wordDoesUptoRow, standIns := [], harness := (true, "286cdf20e59dc5bc926430da7be9b632338a9e61669d900b1525d829414b1abc"), looks := false }, kinds := [], alts := [], laidByText := true, laidKinds := [.data], laidTests := true, laidLooks := .later }
def WordDoesUptoCardSaid : Prop := Claim7.holds Tryd.pinned (.plain (OpenSpec.upto wordDoesSpec)) wordDoesUptoCard

/-- THE SECOND FORM's CARD OF 'skualaw01.WordCasts'. -/
def wordCastsUptoCard : Claim7 := { stood := { row := wordCastsUptoRow, standIns := [], harness := (true, "286cdf20e59dc5bc926430da7be9b632338a9e61669d900b1525d829414b1abc"), looks := false }, kinds := [], alts := [], laidByText := true, laidKinds := [.data], laidTests := true, laidLooks := .later }
def WordCastsUptoCardSaid : Prop := Claim7.holds Tryd.pinned (.plain (OpenSpec.upto wordCastsSpec)) wordCastsUptoCard

/-- THE SECOND FORM's CARD OF 'skualaw01.WordDivides'. -/
def wordDividesUptoCard : Claim7 := { stood := { row := wordDividesUptoRow, standIns := [], harness := (true, "286cdf20e59dc5bc926430da7be9b632338a9e61669d900b1525d829414b1abc"), looks := false }, kinds := [], alts := [], laidByText := true, laidKinds := [.data], laidTests := true, laidLooks := .later }
def WordDividesUptoCardSaid : Prop := Claim7.holds Tryd.pinned (.plain (OpenSpec.upto wordDividesSpec)) wordDividesUptoCard

/-- THE SECOND FORM's CARD OF 'skualaw01.WordSigns'. -/
def wordSignsUptoCard : Claim7 := { stood := { row := wordSignsUptoRow, standIns := [], harness := (true, "286cdf20e59dc5bc926430da7be9b632338a9e61669d900b1525d829414b1abc"), looks := false }, kinds := [], alts := [], laidByText := true, laidKinds := [.data], laidTests := true, laidLooks := .later }
def WordSignsUptoCardSaid : Prop := Claim7.holds Tryd.pinned (.plain (OpenSpec.upto wordSignsSpec)) wordSignsUptoCard

/-- THE SECOND FORM's CARD OF 'skualaw01.WordShifts'. -/
def wordShiftsUptoCard : Claim7 := { stood := { row := wordShiftsUptoRow, standIns := [], harness := (true, "286cdf20e59dc5bc926430da7be9b632338a9e61669d900b1525d829414b1abc"), looks := false }, kinds := [], alts := [], laidByText := true, laidKinds := [.data], laidTests := true, laidLooks := .later }
def WordShiftsUptoCardSaid : Prop := Claim7.holds Tryd.pinned (.plain (OpenSpec.upto wordShiftsSpec)) wordShiftsUptoCard

/-- THE SECOND FORM's CARD OF 'skualaw01.WordTypes'. -/
def wordTypesUptoCard : Claim7 := { stood := { row := wordTypesUptoRow, standIns := [], harness := (true, "286cdf20e59dc5bc926430da7be9b632338a9e61669d900b1525d829414b1abc"), looks := false }, kinds := [], alts := [], laidByText := true, laidKinds := [.data], laidTests := true, laidLooks := .later }
def WordTypesUptoCardSaid : Prop := Claim7.holds Tryd.pinned (.plain (OpenSpec.upto wordTypesSpec)) wordTypesUptoCard

/-- THE SECOND FORM's CARD OF 'skualaw01.WordTurns'. -/
def wordTurnsUptoCard : Claim7 := { stood := { row := wordTurnsUptoRow, standIns := [], harness := (true, "286cdf20e59dc5bc926430da7be9b632338a9e61669d900b1525d829414b1abc"), looks := false }, kinds := [], alts := [], laidByText := true, laidKinds := [.data], laidTests := true, laidLooks := .later }
def WordTurnsUptoCardSaid : Prop := Claim7.holds Tryd.pinned (.plain (OpenSpec.upto wordTurnsSpec)) wordTurnsUptoCard

/-- THE SECOND FORM's CARD OF 'skualaw01.WordTests'. -/
def wordTestsUptoCard : Claim7 := { stood := { row := wordTestsUptoRow, standIns := [], harness := (true, "286cdf20e59dc5bc926430da7be9b632338a9e61669d900b1525d829414b1abc"), looks := false }, kinds := [], alts := [], laidByText := true, laidKinds := [.data], laidTests := true, laidLooks := .later }
def WordTestsUptoCardSaid : Prop := Claim7.holds Tryd.pinned (.plain (OpenSpec.upto wordTestsSpec)) wordTestsUptoCard

/-- THE SECOND FORM's CARD OF 'skualaw01.WordOrder'. -/
def wordOrderUptoCard : Claim7 := { stood := { row := wordOrderUptoRow, standIns := [], harness := (true, "286cdf20e59dc5bc926430da7be9b632338a9e61669d900b1525d829414b1abc"), looks := false }, kinds := [], alts := [], laidByText := true, laidKinds := [.data], laidTests := true, laidLooks := .later }
def WordOrderUptoCardSaid : Prop := Claim7.holds Tryd.pinned (.plain (OpenSpec.upto wordOrderSpec)) wordOrderUptoCard
end Rows
end Go.Proofs.YtggelmnahggdgaaDoor
