/- WordTests: what the law answers, in every world in which the table of types lies as the program lays it. Condition: the numbers are of 64 bits. -/
import Derived.Test.YtggelmnahggdgaaDoorWf
import Derived.Test.YtggelmnahggdgaaDoorQg
set_option linter.unusedVariables false
set_option linter.unusedSimpArgs false
namespace Go.Proofs.YtggelmnahggdgaaDoor
open Go.RowKit
theorem refTest_gives (wd : Int) (sg : Bool) (op : ByteArray) (a b : Int) (ha : U64 a) (hb : U64 b) (w : World) : Gives Tryd.prog 30 #[.agg #[.int .i64 wd, .bool sg], .string op, .int .u64 a, .int .u64 b] w (.tuple #[.bool (tstV wd sg op a b), .int .i64 (tstE wd sg op)]) :=
  (PWordTests.skuaref01_Test.calls 300 wd sg op a b _ _ w (RWordTests.test_f 300 wd sg op a b ha hb (by decide))).mono fun _ _ ⟨he, hb⟩ => ⟨he, IsOv.of_below hb⟩
set_option maxHeartbeats 8000000 in
theorem WordTests_gives (wd : Int) (sg : Bool) (op : ByteArray) (a b : Int) (w : World) (hL : Laid w) (ha : U64 a) (hb : U64 b) :
    Gives Tryd.prog 11 #[.agg #[.int .i64 wd, .bool sg], .string op, .agg #[.int .u64 a, .int .u64 b]] w (.bool true) := by
  unfold Gives
  go_enter Tryd.func11, Tryd.ntmps11
  go_wp2_with (first | (go_at_call 13; refine (awake_gives _ (by repeat (first | exact hL | apply Laid.alloc | apply Laid.ov))).mono ?_; rintro e w' ⟨rfl, x, rfl⟩) | (go_at_call 29; refine (Test_gives _ _ _ _ _ _ (by repeat (first | exact hL | apply Laid.alloc | apply Laid.ov))).mono ?_; rintro e w' ⟨rfl, x, rfl⟩) | (go_at_call 30; refine (refTest_gives _ _ _ _ _ ha hb _).mono ?_; rintro e w' ⟨rfl, x, rfl⟩))
  go_ret
  exact ⟨rfl, by repeat (first | exact IsOv.refl _ | apply IsOv.alloc | apply IsOv.ov)⟩
end Go.Proofs.YtggelmnahggdgaaDoor
