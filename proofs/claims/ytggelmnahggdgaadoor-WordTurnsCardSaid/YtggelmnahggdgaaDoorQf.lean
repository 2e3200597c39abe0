/- WordTurns: what the law answers, in every world in which the table of types lies as the program lays it. Condition: the numbers are of 64 bits. -/
import Derived.Test.YtggelmnahggdgaaDoorWf
import Derived.Test.YtggelmnahggdgaaDoorQe
set_option linter.unusedVariables false
set_option linter.unusedSimpArgs false
namespace Go.Proofs.YtggelmnahggdgaaDoor
open Go.RowKit
theorem refTurn_gives (wd : Int) (sg : Bool) (op : ByteArray) (a : Int) (hv : U64 a) (w : World) : Gives Tryd.prog 28 #[.agg #[.int .i64 wd, .bool sg], .string op, .int .u64 a] w (.tuple #[.int .u64 (trnV wd sg op a), .int .i64 (trnE wd sg op)]) :=
  (PWordTurns.skuaref01_Turn.calls 300 wd sg op a _ _ w (RWordTurns.turn_f 300 wd sg op a hv (by decide))).mono fun _ _ ⟨he, hb⟩ => ⟨he, IsOv.of_below hb⟩
set_option maxHeartbeats 8000000 in
theorem WordTurns_gives (wd : Int) (sg : Bool) (op : ByteArray) (a : Int) (w : World) (hL : Laid w) (hv : U64 a) :
    Gives Tryd.prog 10 #[.agg #[.int .i64 wd, .bool sg], .string op, .int .u64 a] w (.bool true) := by
  unfold Gives
  go_enter Tryd.func10, Tryd.ntmps10
  go_wp2_with (first | (go_at_call 13; refine (awake_gives _ (by repeat (first | exact hL | apply Laid.alloc | apply Laid.ov))).mono ?_; rintro e w' ⟨rfl, x, rfl⟩) | (go_at_call 27; refine (Turn_gives _ _ _ _ _ (by repeat (first | exact hL | apply Laid.alloc | apply Laid.ov))).mono ?_; rintro e w' ⟨rfl, x, rfl⟩) | (go_at_call 28; refine (refTurn_gives _ _ _ _ hv _).mono ?_; rintro e w' ⟨rfl, x, rfl⟩))
  go_ret
  exact ⟨rfl, by repeat (first | exact IsOv.refl _ | apply IsOv.alloc | apply IsOv.ov)⟩
end Go.Proofs.YtggelmnahggdgaaDoor
