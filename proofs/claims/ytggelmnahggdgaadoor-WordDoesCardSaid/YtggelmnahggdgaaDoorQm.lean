/- WordDoes: what the law answers, in every world in which the table of types lies as the program lays it. Condition: the numbers are of 64 bits. -/
import Derived.Test.YtggelmnahggdgaaDoorWf
import Derived.Test.YtggelmnahggdgaaDoorQl
set_option linter.unusedVariables false
set_option linter.unusedSimpArgs false
namespace Go.Proofs.YtggelmnahggdgaaDoor
open Go.RowKit
theorem refDo_gives (wd : Int) (sg : Bool) (op : ByteArray) (a b : Int) (ha : U64 a) (hb : U64 b) (w : World) : Gives Tryd.prog 19 #[.agg #[.int .i64 wd, .bool sg], .string op, .int .u64 a, .int .u64 b] w (.tuple #[.int .u64 (doV wd sg op a b), .int .i64 (doE wd sg op b)]) :=
  (PWordDoes.skuaref01_Do.calls 1000 wd sg op a b _ _ w (RWordDoes.do_f 1000 wd sg op a b ha hb (by decide))).mono fun _ _ ⟨he, hb⟩ => ⟨he, IsOv.of_below hb⟩
set_option maxHeartbeats 8000000 in
theorem WordDoes_gives (wd : Int) (sg : Bool) (op : ByteArray) (a b : Int) (w : World) (hL : Laid w) (ha : U64 a) (hb : U64 b) :
    Gives Tryd.prog 4 #[.agg #[.int .i64 wd, .bool sg], .string op, .agg #[.int .u64 a, .int .u64 b]] w (.bool true) := by
  unfold Gives
  go_enter Tryd.func4, Tryd.ntmps4
  go_wp2_with (first | (go_at_call 13; refine (awake_gives _ (by repeat (first | exact hL | apply Laid.alloc | apply Laid.ov))).mono ?_; rintro e w' ⟨rfl, x, rfl⟩) | (go_at_call 18; refine (Do_gives _ _ _ _ _ _ (by repeat (first | exact hL | apply Laid.alloc | apply Laid.ov)) hb).mono ?_; rintro e w' ⟨rfl, x, rfl⟩) | (go_at_call 19; refine (refDo_gives _ _ _ _ _ ha hb _).mono ?_; rintro e w' ⟨rfl, x, rfl⟩))
  go_ret
  exact ⟨rfl, by repeat (first | exact IsOv.refl _ | apply IsOv.alloc | apply IsOv.ov)⟩
end Go.Proofs.YtggelmnahggdgaaDoor
