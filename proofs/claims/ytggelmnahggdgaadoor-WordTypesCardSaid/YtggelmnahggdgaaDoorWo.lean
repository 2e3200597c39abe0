/- word.Of: the type of a name, in every world in which the table of types lies as the program lays it. No other condition. -/
import Derived.Test.YtggelmnahggdgaaDoorWa
set_option linter.unusedVariables false
set_option linter.unusedSimpArgs false
namespace Go.Proofs.YtggelmnahggdgaaDoor
open Go.RowKit
attribute [local go_sem ↓] load_tys
attribute [local go_sem] idx0 idx1 idx2 idx3 idx4 idx5 idx6 idx7 idx8
def ofWd (s : ByteArray) : Int := if [98, 111, 111, 108] == s.toList then 1 else if [117, 56] == s.toList then 8 else if [117, 49, 54] == s.toList then 16 else if [117, 51, 50] == s.toList then 32 else if [117, 54, 52] == s.toList then 64 else if [105, 56] == s.toList then 8 else if [105, 49, 54] == s.toList then 16 else if [105, 51, 50] == s.toList then 32 else if [105, 54, 52] == s.toList then 64 else 0
def ofSg (s : ByteArray) : Bool := if [98, 111, 111, 108] == s.toList then false else if [117, 56] == s.toList then false else if [117, 49, 54] == s.toList then false else if [117, 51, 50] == s.toList then false else if [117, 54, 52] == s.toList then false else if [105, 56] == s.toList then true else if [105, 49, 54] == s.toList then true else if [105, 51, 50] == s.toList then true else if [105, 54, 52] == s.toList then true else false
def ofOk (s : ByteArray) : Bool := if [98, 111, 111, 108] == s.toList then true else if [117, 56] == s.toList then true else if [117, 49, 54] == s.toList then true else if [117, 51, 50] == s.toList then true else if [117, 54, 52] == s.toList then true else if [105, 56] == s.toList then true else if [105, 49, 54] == s.toList then true else if [105, 51, 50] == s.toList then true else if [105, 54, 52] == s.toList then true else false
set_option maxHeartbeats 8000000 in
theorem Of_gives (s : ByteArray) (w : World) (hL : Laid w) :
    Gives Tryd.prog 23 #[.string s] w (.tuple #[.agg #[.int .i64 (ofWd s), .bool (ofSg s)], .bool (ofOk s)]) := by
  unfold Gives
  go_enter Tryd.func23, Tryd.ntmps23
  go_wp2
  refine wp_loop_rounds 10 ?_
  iterate 10 (all_goals (try rw [rounds_succ]); go_wp2)
  all_goals
    refine bodyPost_ret (v := .tuple #[.agg #[.int .i64 (ofWd s), .bool (ofSg s)], .bool (ofOk s)]) (by simp_all [results, Tryd.results23, go_sem, ofWd, ofSg, ofOk, ↓IntWalk.iteOmega]) rfl ⟨rfl, by repeat (first | exact IsOv.refl _ | apply IsOv.alloc | apply IsOv.ov)⟩
end Go.Proofs.YtggelmnahggdgaaDoor
