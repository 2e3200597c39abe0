/-
  DERIVED. GIVEN WITH THE SEED: THE CARDS: each row of YtaibjaienhnckaaDoorRows.lean that lists a variable, with what it lists TIED to the program's text (the seventh form; the later family's looks); each row that meets fmt, with fmt's text TOLD by the authors' own Lean function (tested against real Go, not proved from fmt's source: count such statements apart). THE CARD IS WHAT COUNTS. Prove the row's statement (the work); the ties are given (YtaibjaienhnckaaDoorTie.lean); close each card by the builder's one call (the guide's Derived/Test/ToyasCard.lean, 'card_holds'). Laid BY PROGRAM, IN A SANDBOX (cutbox-door.mjs). By AI agents, Wed Nov 11 2026. No macro, syntax, notation, axiom, sorry.
-/
import Derived.Test.YtaibjaienhnckaaDoorRows
import GoSem.ClaimSeven
namespace Go.Proofs.YtaibjaienhnckaaDoor
namespace Rows

/-- THE TIED CARD OF 'skualaw22.SetupReads'. -/
def setupReadsCard : Claim7 := { stood := { row := setupReadsRow, standIns := [], harness := (true, "9d3dd0156fba8eaf63b6a461ec39bf52976b6b90c7236c2e556db187753d94db"), looks := true }, kinds := [], alts := [], laidByText := true, laidKinds := [.data, .data, .data, .data, .sentinel, .sentinel, .data, .pinned], laidTests := true, laidLooks := .later }
def SetupReadsCardSaid : Prop := Claim7.holds Tryd.pinned (.plain (OpenSpec.ofChange setupReadsSpec)) setupReadsCard

/-- THE TIED CARD OF 'skualaw22.SetupLines'. -/
def setupLinesCard : Claim7 := { stood := { row := setupLinesRow, standIns := [], harness := (true, "9d3dd0156fba8eaf63b6a461ec39bf52976b6b90c7236c2e556db187753d94db"), looks := true }, kinds := [], alts := [], laidByText := true, laidKinds := [.data, .data, .data, .data, .sentinel, .sentinel, .data, .pinned], laidTests := true, laidLooks := .later }
def SetupLinesCardSaid : Prop := Claim7.holds Tryd.pinned (.plain (OpenSpec.ofChange setupLinesSpec)) setupLinesCard

/-- THE TIED CARD OF 'skualaw22.SetupShows'. -/
def setupShowsCard : Claim7 := { stood := { row := setupShowsRow, standIns := [], harness := (true, "9d3dd0156fba8eaf63b6a461ec39bf52976b6b90c7236c2e556db187753d94db"), looks := true }, kinds := [], alts := [], laidByText := true, laidKinds := [.data, .data, .data, .data, .sentinel, .sentinel, .data, .pinned], laidTests := true, laidLooks := .later }
def SetupShowsCardSaid : Prop := Claim7.holds Tryd.pinned (.plain (OpenSpec.ofChange setupShowsSpec)) setupShowsCard

/-- THE SECOND FORM's CARD OF 'skualaw22.SetupReads'. -/
def setupReadsUptoCard : Claim7 := { stood := { row := setupReadsUptoRow, standIns := [], harness := (true, "9d3dd0156fba8eaf63b6a461ec39bf52976b6b90c7236c2e556db187753d94db"), looks := true }, kinds := [], alts := [], laidByText := true, laidKinds := [.data, .data, .data, .data, .sentinel, .sentinel, .data, .pinned], laidTests := true, laidLooks := .later }
def SetupReadsUptoCardSaid : Prop := Claim7.holds Tryd.pinned (.plain (OpenSpec.upto setupReadsSpec)) setupReadsUptoCard

/-- THE SECOND FORM's CARD OF 'skualaw22.SetupLines'. -/
def setupLinesUptoCard : Claim7 := { stood := { row := setupLinesUptoRow, standIns := [], harness := (true, "9d3dd0156fba8eaf63b6a461ec39bf52976b6b90c7236c2e556db187753d94db"), looks := true }, kinds := [], alts := [], laidByText := true, laidKinds := [.data, .data, .data, .data, .sentinel, .sentinel, .data, .pinned], laidTests := true, laidLooks := .later }
def SetupLinesUptoCardSaid : Prop := Claim7.holds Tryd.pinned (.plain (OpenSpec.upto setupLinesSpec)) setupLinesUptoCard

/-- THE SECOND FORM's CARD OF 'skualaw22.SetupShows'. -/
def setupShowsUptoCard : Claim7 := { stood := { row := setupShowsUptoRow, standIns := [], harness := (true, "9d3dd0156fba8eaf63b6a461ec39bf52976b6b90c7236c2e556db187753d94db"), looks := true }, kinds := [], alts := [], laidByText := true, laidKinds := [.data, .data, .data, .data, .sentinel, .sentinel, .data, .pinned], laidTests := true, laidLooks := .later }
def SetupShowsUptoCardSaid : Prop := Claim7.holds Tryd.pinned (.plain (OpenSpec.upto setupShowsSpec)) setupShowsUptoCard
end Rows
end Go.Proofs.YtaibjaienhnckaaDoor
