/-
  NARROWER THAN 'FOR EVERY INPUT', by the rows' own cells (each row's printed sentence says how): WordNorms: laid · WordDoes: laid · WordCasts: laid · WordDivides: laid · WordSigns: laid · WordShifts: laid · WordTypes: laid · WordTurns: laid · WordTests: laid · WordOrder: laid.
  DERIVED. THE GIVEN ROWS OF THIS SEAT. 10 by the template 'for every input the law returns true; each argument reads behind the call as it read before'; 0 by the template 'total and deterministic' (their statements: YtggelmnahggdgaaDoorTotals.lean).
  GIVEN WITH THE SEED: the statements are not yours to turn. If you find one false, say at which input.
  Laid BY PROGRAM, IN A SANDBOX (cutbox-rows.mjs): the forced cells as the released guide's own fill.sh prints them over the translation a39e64d46bcca837… (all of the seat's roots in one cut). By AI agents, Wed Nov 11 2026. No macro, syntax, notation, axiom, sorry.
-/
import Derived.Test.YtggelmnahggdgaaDoorChecked
import GoSem.Claim
import GoSem.ClaimJoined
import GoSem.ClaimMapViews
import Derived.JoinedTies
import Derived.KernelRfl
namespace Go.Proofs.YtggelmnahggdgaaDoor
/- THE CELL 'sum', in the pinned program and in every row, IS THE sha256 OF THE DUMP (.gsa) THAT YtggelmnahggdgaaDoorProg.lean LOADS. Nothing in Lean hashes anything: it is a label: what it is worth is what the hold of that sum in a sandbox is worth. -/
noncomputable def Tryd.pinned : Pinned := { name := "ytggelmnahggdgaadoor", sum := "a39e64d46bcca83720c515a8055cd990471ce75dd0befc866dcabffe1c4199ef", checked := Tryd.checked }
namespace Rows
def none {H : Type} : Left H := { results := [], args := [] }

/- WHAT THE LISTED PACKAGE-LEVEL VARIABLES READ AS WHEN THE CALL BEGINS. Each datum BY PROGRAM (the guide's laid-datum.mjs) off the statement by which the dump's own 'gosem.cut.vars' lays the variable. In a bare row this is a premise. The card (YtggelmnahggdgaaDoorCards.lean) ties it to the program's text. -/
def laid_skua_word_types {H : Type} : DataW H := .agg [.agg [.agg [.lit (.int .i64 1), .lit (.bool false)], .lit (.string [98, 111, 111, 108])], .agg [.agg [.lit (.int .i64 8), .lit (.bool false)], .lit (.string [117, 56])], .agg [.agg [.lit (.int .i64 16), .lit (.bool false)], .lit (.string [117, 49, 54])], .agg [.agg [.lit (.int .i64 32), .lit (.bool false)], .lit (.string [117, 51, 50])], .agg [.agg [.lit (.int .i64 64), .lit (.bool false)], .lit (.string [117, 54, 52])], .agg [.agg [.lit (.int .i64 8), .lit (.bool true)], .lit (.string [105, 56])], .agg [.agg [.lit (.int .i64 16), .lit (.bool true)], .lit (.string [105, 49, 54])], .agg [.agg [.lit (.int .i64 32), .lit (.bool true)], .lit (.string [105, 51, 50])], .agg [.agg [.lit (.int .i64 64), .lit (.bool true)], .lit (.string [105, 54, 52])]]

/-- 'skualaw01.WordNorms': WHATEVER THE INPUT: true; the input reads as it did. -/
def wordNormsSpec : ChangeSpec := { name := "wordNorms", fn := fun _ => fun
  | [d1, d2] => { results := [.lit (.bool true)], args := [d1, d2] }
  | _ => none }
def wordNormsRow : OpenClaim := { program := "ytggelmnahggdgaadoor", sum := "a39e64d46bcca83720c515a8055cd990471ce75dd0befc866dcabffe1c4199ef", func := "skua/skualaw01.WordNorms", spec := "wordNorms", unfollowed := true, recurses := true, named := ["skua/word.types"], apart := false, laid := [("skua/word.types", laid_skua_word_types)] }
def WordNormsSaid : Prop := wordNormsRow.holds Tryd.pinned (OpenSpec.ofChange wordNormsSpec)

/-- ITS FALSE NEIGHBOUR: 'it returns false'. Refute it at one input. -/
def wordNormsWrong : ChangeSpec := { name := "wordNorms", fn := fun _ => fun
  | [d1, d2] => { results := [.lit (.bool false)], args := [d1, d2] }
  | _ => none }
def WordNormsWrongFalsely : Prop := wordNormsRow.holds Tryd.pinned (OpenSpec.ofChange wordNormsWrong)

/-- 'skualaw01.WordDoes': WHATEVER THE INPUT: true; the input reads as it did. -/
def wordDoesSpec : ChangeSpec := { name := "wordDoes", fn := fun _ => fun
  | [d1, d2, d3] => { results := [.lit (.bool true)], args := [d1, d2, d3] }
  | _ => none }
def wordDoesRow : OpenClaim := { program := "ytggelmnahggdgaadoor", sum := "a39e64d46bcca83720c515a8055cd990471ce75dd0befc866dcabffe1c4199ef", func := "skua/skualaw01.WordDoes", spec := "wordDoes", unfollowed := true, recurses := true, named := ["skua/word.types"], apart := false, laid := [("skua/word.types", laid_skua_word_types)] }
def WordDoesSaid : Prop := wordDoesRow.holds Tryd.pinned (OpenSpec.ofChange wordDoesSpec)

/-- ITS FALSE NEIGHBOUR: 'it returns false'. Refute it at one input. -/
def wordDoesWrong : ChangeSpec := { name := "wordDoes", fn := fun _ => fun
  | [d1, d2, d3] => { results := [.lit (.bool false)], args := [d1, d2, d3] }
  | _ => none }
def WordDoesWrongFalsely : Prop := wordDoesRow.holds Tryd.pinned (OpenSpec.ofChange wordDoesWrong)

/-- 'skualaw01.WordCasts': WHATEVER THE INPUT: true; the input reads as it did. -/
def wordCastsSpec : ChangeSpec := { name := "wordCasts", fn := fun _ => fun
  | [d1, d2, d3] => { results := [.lit (.bool true)], args := [d1, d2, d3] }
  | _ => none }
def wordCastsRow : OpenClaim := { program := "ytggelmnahggdgaadoor", sum := "a39e64d46bcca83720c515a8055cd990471ce75dd0befc866dcabffe1c4199ef", func := "skua/skualaw01.WordCasts", spec := "wordCasts", unfollowed := true, recurses := true, named := ["skua/word.types"], apart := false, laid := [("skua/word.types", laid_skua_word_types)] }
def WordCastsSaid : Prop := wordCastsRow.holds Tryd.pinned (OpenSpec.ofChange wordCastsSpec)

/-- ITS FALSE NEIGHBOUR: 'it returns false'. Refute it at one input. -/
def wordCastsWrong : ChangeSpec := { name := "wordCasts", fn := fun _ => fun
  | [d1, d2, d3] => { results := [.lit (.bool false)], args := [d1, d2, d3] }
  | _ => none }
def WordCastsWrongFalsely : Prop := wordCastsRow.holds Tryd.pinned (OpenSpec.ofChange wordCastsWrong)

/-- 'skualaw01.WordDivides': WHATEVER THE INPUT: true; the input reads as it did. -/
def wordDividesSpec : ChangeSpec := { name := "wordDivides", fn := fun _ => fun
  | [d1, d2, d3] => { results := [.lit (.bool true)], args := [d1, d2, d3] }
  | _ => none }
def wordDividesRow : OpenClaim := { program := "ytggelmnahggdgaadoor", sum := "a39e64d46bcca83720c515a8055cd990471ce75dd0befc866dcabffe1c4199ef", func := "skua/skualaw01.WordDivides", spec := "wordDivides", unfollowed := true, recurses := true, named := ["skua/word.types"], apart := false, laid := [("skua/word.types", laid_skua_word_types)] }
def WordDividesSaid : Prop := wordDividesRow.holds Tryd.pinned (OpenSpec.ofChange wordDividesSpec)

/-- ITS FALSE NEIGHBOUR: 'it returns false'. Refute it at one input. -/
def wordDividesWrong : ChangeSpec := { name := "wordDivides", fn := fun _ => fun
  | [d1, d2, d3] => { results := [.lit (.bool false)], args := [d1, d2, d3] }
  | _ => none }
def WordDividesWrongFalsely : Prop := wordDividesRow.holds Tryd.pinned (OpenSpec.ofChange wordDividesWrong)

/-- 'skualaw01.WordSigns': WHATEVER THE INPUT: true; the input reads as it did. -/
def wordSignsSpec : ChangeSpec := { name := "wordSigns", fn := fun _ => fun
  | [d1, d2, d3] => { results := [.lit (.bool true)], args := [d1, d2, d3] }
  | _ => none }
def wordSignsRow : OpenClaim := { program := "ytggelmnahggdgaadoor", sum := "a39e64d46bcca83720c515a8055cd990471ce75dd0befc866dcabffe1c4199ef", func := "skua/skualaw01.WordSigns", spec := "wordSigns", unfollowed := true, recurses := true, named := ["skua/word.types"], apart := false, laid := [("skua/word.types", laid_skua_word_types)] }
def WordSignsSaid : Prop := wordSignsRow.holds Tryd.pinned (OpenSpec.ofChange wordSignsSpec)

/-- ITS FALSE NEIGHBOUR: 'it returns false'. Refute it at one input. -/
def wordSignsWrong : ChangeSpec := { name := "wordSigns", fn := fun _ => fun
  | [d1, d2, d3] => { results := [.lit (.bool false)], args := [d1, d2, d3] }
  | _ => none }
def WordSignsWrongFalsely : Prop := wordSignsRow.holds Tryd.pinned (OpenSpec.ofChange wordSignsWrong)

/-- 'skualaw01.WordShifts': WHATEVER THE INPUT: true; the input reads as it did. -/
def wordShiftsSpec : ChangeSpec := { name := "wordShifts", fn := fun _ => fun
  | [d1, d2, d3] => { results := [.lit (.bool true)], args := [d1, d2, d3] }
  | _ => none }
def wordShiftsRow : OpenClaim := { program := "ytggelmnahggdgaadoor", sum := "a39e64d46bcca83720c515a8055cd990471ce75dd0befc866dcabffe1c4199ef", func := "skua/skualaw01.WordShifts", spec := "wordShifts", unfollowed := true, recurses := true, named := ["skua/word.types"], apart := false, laid := [("skua/word.types", laid_skua_word_types)] }
def WordShiftsSaid : Prop := wordShiftsRow.holds Tryd.pinned (OpenSpec.ofChange wordShiftsSpec)

/-- ITS FALSE NEIGHBOUR: 'it returns false'. Refute it at one input. -/
def wordShiftsWrong : ChangeSpec := { name := "wordShifts", fn := fun _ => fun
  | [d1, d2, d3] => { results := [.lit (.bool false)], args := [d1, d2, d3] }
  | _ => none }
def WordShiftsWrongFalsely : Prop := wordShiftsRow.holds Tryd.pinned (OpenSpec.ofChange wordShiftsWrong)

/-- 'skualaw01.WordTypes': WHATEVER THE INPUT: true; the input reads as it did. -/
def wordTypesSpec : ChangeSpec := { name := "wordTypes", fn := fun _ => fun
  | [d1, d2] => { results := [.lit (.bool true)], args := [d1, d2] }
  | _ => none }
def wordTypesRow : OpenClaim := { program := "ytggelmnahggdgaadoor", sum := "a39e64d46bcca83720c515a8055cd990471ce75dd0befc866dcabffe1c4199ef", func := "skua/skualaw01.WordTypes", spec := "wordTypes", unfollowed := true, recurses := true, named := ["skua/word.types"], apart := false, laid := [("skua/word.types", laid_skua_word_types)] }
def WordTypesSaid : Prop := wordTypesRow.holds Tryd.pinned (OpenSpec.ofChange wordTypesSpec)

/-- ITS FALSE NEIGHBOUR: 'it returns false'. Refute it at one input. -/
def wordTypesWrong : ChangeSpec := { name := "wordTypes", fn := fun _ => fun
  | [d1, d2] => { results := [.lit (.bool false)], args := [d1, d2] }
  | _ => none }
def WordTypesWrongFalsely : Prop := wordTypesRow.holds Tryd.pinned (OpenSpec.ofChange wordTypesWrong)

/-- 'skualaw01.WordTurns': WHATEVER THE INPUT: true; the input reads as it did. -/
def wordTurnsSpec : ChangeSpec := { name := "wordTurns", fn := fun _ => fun
  | [d1, d2, d3] => { results := [.lit (.bool true)], args := [d1, d2, d3] }
  | _ => none }
def wordTurnsRow : OpenClaim := { program := "ytggelmnahggdgaadoor", sum := "a39e64d46bcca83720c515a8055cd990471ce75dd0befc866dcabffe1c4199ef", func := "skua/skualaw01.WordTurns", spec := "wordTurns", unfollowed := true, recurses := true, named := ["skua/word.types"], apart := false, laid := [("skua/word.types", laid_skua_word_types)] }
def WordTurnsSaid : Prop := wordTurnsRow.holds Tryd.pinned (OpenSpec.ofChange wordTurnsSpec)

/-- ITS FALSE NEIGHBOUR: 'it returns false'. Refute it at one input. -/
def wordTurnsWrong : ChangeSpec := { name := "wordTurns", fn := fun _ => fun
  | [d1, d2, d3] => { results := [.lit (.bool false)], args := [d1, d2, d3] }
  | _ => none }
def WordTurnsWrongFalsely : Prop := wordTurnsRow.holds Tryd.pinned (OpenSpec.ofChange wordTurnsWrong)

/-- 'skualaw01.WordTests': WHATEVER THE INPUT: true; the input reads as it did. -/
def wordTestsSpec : ChangeSpec := { name := "wordTests", fn := fun _ => fun
  | [d1, d2, d3] => { results := [.lit (.bool true)], args := [d1, d2, d3] }
  | _ => none }
def wordTestsRow : OpenClaim := { program := "ytggelmnahggdgaadoor", sum := "a39e64d46bcca83720c515a8055cd990471ce75dd0befc866dcabffe1c4199ef", func := "skua/skualaw01.WordTests", spec := "wordTests", unfollowed := true, recurses := true, named := ["skua/word.types"], apart := false, laid := [("skua/word.types", laid_skua_word_types)] }
def WordTestsSaid : Prop := wordTestsRow.holds Tryd.pinned (OpenSpec.ofChange wordTestsSpec)

/-- ITS FALSE NEIGHBOUR: 'it returns false'. Refute it at one input. -/
def wordTestsWrong : ChangeSpec := { name := "wordTests", fn := fun _ => fun
  | [d1, d2, d3] => { results := [.lit (.bool false)], args := [d1, d2, d3] }
  | _ => none }
def WordTestsWrongFalsely : Prop := wordTestsRow.holds Tryd.pinned (OpenSpec.ofChange wordTestsWrong)

/-- 'skualaw01.WordOrder': WHATEVER THE INPUT: true; the input reads as it did. -/
def wordOrderSpec : ChangeSpec := { name := "wordOrder", fn := fun _ => fun
  | [d1, d2] => { results := [.lit (.bool true)], args := [d1, d2] }
  | _ => none }
def wordOrderRow : OpenClaim := { program := "ytggelmnahggdgaadoor", sum := "a39e64d46bcca83720c515a8055cd990471ce75dd0befc866dcabffe1c4199ef", func := "skua/skualaw01.WordOrder", spec := "wordOrder", unfollowed := true, recurses := true, named := ["skua/word.types"], apart := false, laid := [("skua/word.types", laid_skua_word_types)] }
def WordOrderSaid : Prop := wordOrderRow.holds Tryd.pinned (OpenSpec.ofChange wordOrderSpec)

/-- ITS FALSE NEIGHBOUR: 'it returns false'. Refute it at one input. -/
def wordOrderWrong : ChangeSpec := { name := "wordOrder", fn := fun _ => fun
  | [d1, d2] => { results := [.lit (.bool false)], args := [d1, d2] }
  | _ => none }
def WordOrderWrongFalsely : Prop := wordOrderRow.holds Tryd.pinned (OpenSpec.ofChange wordOrderWrong)

/- THE SECOND FORM. 'bulk': how many values and letters a reading holds, each counted each time it is reached (what is shared counts as often as it is met; a slice's spare places count too). A statement '..UptoSaid' is the law's where the arguments, and the package variables that the reading takes, are together of bulk at most 1048576: NARROWER than '..Said'. Prove '..Said' where nothing that the law and all that it calls make is longer than what came in: it says more and counts as full. Else prove '..UptoSaid'. A law counts once. -/
mutual
def uptoBulk {H : Type} : DataW H → Nat
  | .lit (.string bytes) => bytes.length + 1
  | .lit _ => 1
  | .nil => 1
  | .ptr d => uptoBulk d + 1
  | .slice elems spare => uptoBulkAll elems + uptoBulkAll spare + 1
  | .agg parts => uptoBulkAll parts + 1
  | .iface _ d => uptoBulk d + 1
  | .map entries => uptoBulkEntries entries + 1
  | .held _ => 1
def uptoBulkAll {H : Type} : List (DataW H) → Nat
  | [] => 0
  | d :: r => uptoBulk d + uptoBulkAll r
def uptoBulkEntries {H : Type} : List (Lit × DataW H) → Nat
  | [] => 0
  | x :: r => uptoBulkEntry x + uptoBulkEntries r
def uptoBulkEntry {H : Type} : Lit × DataW H → Nat
  | (.string bytes, d) => bytes.length + uptoBulk d + 1
  | (_, d) => uptoBulk d + 1
 end
def uptoSmall : (H : Type) → List (DataW H) → Bool := fun _ ds => decide (uptoBulkAll ds ≤ 1048576)
def OpenSpec.upto (s : _root_.Go.ChangeSpec) : _root_.Go.OpenSpec := { _root_.Go.OpenSpec.ofChange s with cond := some uptoSmall }

/-- 'skualaw01.WordNorms', WHERE WHAT IT READS IS OF BULK AT MOST 1048576: true; the input reads as it did. -/
def wordNormsUptoRow : OpenClaim := { program := "ytggelmnahggdgaadoor", sum := "a39e64d46bcca83720c515a8055cd990471ce75dd0befc866dcabffe1c4199ef", func := "skua/skualaw01.WordNorms", spec := "wordNorms", unfollowed := true, recurses := true, named := ["skua/word.types"], apart := false, laid := [("skua/word.types", laid_skua_word_types)], narrowed := true }
def WordNormsUptoSaid : Prop := wordNormsUptoRow.holds Tryd.pinned (OpenSpec.upto wordNormsSpec)

/-- 'skualaw01.WordDoes', WHERE WHAT IT READS IS OF BULK AT MOST 1048576: true; the input reads as it did. -/
def wordDoesUptoRow : OpenClaim := { program := "ytggelmnahggdgaadoor", sum := "a39e64d46bcca83720c515a8055cd990471ce75dd0befc866dcabffe1c4199ef", func := "skua/skualaw01.WordDoes", spec := "wordDoes", unfollowed := true, recurses := true, named := ["skua/word.types"], apart := false, laid := [("skua/word.types", laid_skua_word_types)], narrowed := true }
def WordDoesUptoSaid : Prop := wordDoesUptoRow.holds Tryd.pinned (OpenSpec.upto wordDoesSpec)

/-- 'skualaw01.WordCasts', WHERE WHAT IT READS IS OF BULK AT MOST 1048576: true; the input reads as it did. -/
def wordCastsUptoRow : OpenClaim := { program := "ytggelmnahggdgaadoor", sum := "a39e64d46bcca83720c515a8055cd990471ce75dd0befc866dcabffe1c4199ef", func := "skua/skualaw01.WordCasts", spec := "wordCasts", unfollowed := true, recurses := true, named := ["skua/word.types"], apart := false, laid := [("skua/word.types", laid_skua_word_types)], narrowed := true }
def WordCastsUptoSaid : Prop := wordCastsUptoRow.holds Tryd.pinned (OpenSpec.upto wordCastsSpec)

/-- 'skualaw01.WordDivides', WHERE WHAT IT READS IS OF BULK AT MOST 1048576: true; the input reads as it did. -/
def wordDividesUptoRow : OpenClaim := { program := "ytggelmnahggdgaadoor", sum := "a39e64d46bcca83720c515a8055cd990471ce75dd0befc866dcabffe1c4199ef", func := "skua/skualaw01.WordDivides", spec := "wordDivides", unfollowed := true, recurses := true, named := ["skua/word.types"], apart := false, laid := [("skua/word.types", laid_skua_word_types)], narrowed := true }
def WordDividesUptoSaid : Prop := wordDividesUptoRow.holds Tryd.pinned (OpenSpec.upto wordDividesSpec)

/-- 'skualaw01.WordSigns', WHERE WHAT IT READS IS OF BULK AT MOST 1048576: true; the input reads as it did. -/
def wordSignsUptoRow : OpenClaim := { program := "ytggelmnahggdgaadoor", sum := "a39e64d46bcca83720c515a8055cd990471ce75dd0befc866dcabffe1c4199ef", func := "skua/skualaw01.WordSigns", spec := "wordSigns", unfollowed := true, recurses := true, named := ["skua/word.types"], apart := false, laid := [("skua/word.types", laid_skua_word_types)], narrowed := true }
def WordSignsUptoSaid : Prop := wordSignsUptoRow.holds Tryd.pinned (OpenSpec.upto wordSignsSpec)

/-- 'skualaw01.WordShifts', WHERE WHAT IT READS IS OF BULK AT MOST 1048576: true; the input reads as it did. -/
def wordShiftsUptoRow : OpenClaim := { program := "ytggelmnahggdgaadoor", sum := "a39e64d46bcca83720c515a8055cd990471ce75dd0befc866dcabffe1c4199ef", func := "skua/skualaw01.WordShifts", spec := "wordShifts", unfollowed := true, recurses := true, named := ["skua/word.types"], apart := false, laid := [("skua/word.types", laid_skua_word_types)], narrowed := true }
def WordShiftsUptoSaid : Prop := wordShiftsUptoRow.holds Tryd.pinned (OpenSpec.upto wordShiftsSpec)

/-- 'skualaw01.WordTypes', WHERE WHAT IT READS IS OF BULK AT MOST 1048576: true; the input reads as it did. -/
def wordTypesUptoRow : OpenClaim := { program := "ytggelmnahggdgaadoor", sum := "a39e64d46bcca83720c515a8055cd990471ce75dd0befc866dcabffe1c4199ef", func := "skua/skualaw01.WordTypes", spec := "wordTypes", unfollowed := true, recurses := true, named := ["skua/word.types"], apart := false, laid := [("skua/word.types", laid_skua_word_types)], narrowed := true }
def WordTypesUptoSaid : Prop := wordTypesUptoRow.holds Tryd.pinned (OpenSpec.upto wordTypesSpec)

/-- 'skualaw01.WordTurns', WHERE WHAT IT READS IS OF BULK AT MOST 1048576: true; the input reads as it did. -/
def wordTurnsUptoRow : OpenClaim := { program := "ytggelmnahggdgaadoor", sum := "a39e64d46bcca83720c515a8055cd990471ce75dd0befc866dcabffe1c4199ef", func := "skua/skualaw01.WordTurns", spec := "wordTurns", unfollowed := true, recurses := true, named := ["skua/word.types"], apart := false, laid := [("skua/word.types", laid_skua_word_types)], narrowed := true }
def WordTurnsUptoSaid : Prop := wordTurnsUptoRow.holds Tryd.pinned (OpenSpec.upto wordTurnsSpec)

/-- 'skualaw01.WordTests', WHERE WHAT IT READS IS OF BULK AT MOST 1048576: true; the input reads as it did. -/
def wordTestsUptoRow : OpenClaim := { program := "ytggelmnahggdgaadoor", sum := "a39e64d46bcca83720c515a8055cd990471ce75dd0befc866dcabffe1c4199ef", func := "skua/skualaw01.WordTests", spec := "wordTests", unfollowed := true, recurses := true, named := ["skua/word.types"], apart := false, laid := [("skua/word.types", laid_skua_word_types)], narrowed := true }
def WordTestsUptoSaid : Prop := wordTestsUptoRow.holds Tryd.pinned (OpenSpec.upto wordTestsSpec)

/-- 'skualaw01.WordOrder', WHERE WHAT IT READS IS OF BULK AT MOST 1048576: true; the input reads as it did. -/
def wordOrderUptoRow : OpenClaim := { program := "ytggelmnahggdgaadoor", sum := "a39e64d46bcca83720c515a8055cd990471ce75dd0befc866dcabffe1c4199ef", func := "skua/skualaw01.WordOrder", spec := "wordOrder", unfollowed := true, recurses := true, named := ["skua/word.types"], apart := false, laid := [("skua/word.types", laid_skua_word_types)], narrowed := true }
def WordOrderUptoSaid : Prop := wordOrderUptoRow.holds Tryd.pinned (OpenSpec.upto wordOrderSpec)

end Rows
end Go.Proofs.YtggelmnahggdgaaDoor
