/- WordNorms: what the law answers, in every world in which the table of types lies as the program lays it. Condition: the numbers are of 64 bits. -/
import Derived.Test.YtggelmnahggdgaaDoorWf
import Derived.Test.YtggelmnahggdgaaDoorQa
set_option linter.unusedVariables false
set_option linter.unusedSimpArgs false
namespace Go.Proofs.YtggelmnahggdgaaDoor
open Go.RowKit
theorem refNorm_gives (wd : Int) (sg : Bool) (v : Int) (hv : U64 v) (w : World) : Gives Tryd.prog 15 #[.agg #[.int .i64 wd, .bool sg], .int .u64 v] w (.int .u64 (nrm wd sg v)) :=
  (PWordNorms.skuaref01_Norm.calls 100 wd sg v _ w (RWordNorms.norm_f 100 wd sg v hv (by decide))).mono fun _ _ ⟨he, hb⟩ => ⟨he, IsOv.of_below hb⟩
theorem refInt_gives (wd : Int) (sg : Bool) (v : Int) (hv : U64 v) (w : World) : Gives Tryd.prog 17 #[.agg #[.int .i64 wd, .bool sg], .int .u64 v] w (.int .i64 (sint wd sg v)) :=
  (PWordNorms.skuaref01_Int.calls 100 wd sg v _ w (RWordNorms.int_f 100 wd sg v hv (by decide))).mono fun _ _ ⟨he, hb⟩ => ⟨he, IsOv.of_below hb⟩
set_option maxHeartbeats 8000000 in
theorem WordNorms_gives (wd : Int) (sg : Bool) (v : Int) (w : World) (hL : Laid w) (hv : U64 v) :
    Gives Tryd.prog 3 #[.agg #[.int .i64 wd, .bool sg], .int .u64 v] w (.bool true) := by
  unfold Gives
  go_enter Tryd.func3, Tryd.ntmps3
  go_wp2_with (first | (refine wp_region_ov (by kernel_rfl) (by kernel_rfl) ?_; (repeat (go_big_quiet_step ((first | (go_at_call 13; exact (awake_gives _ (by repeat (first | exact hL | apply Laid.alloc | apply Laid.ov))).quiet) | (go_at_call 14; exact (Norm_gives _ _ _ _ (by repeat (first | exact hL | apply Laid.alloc | apply Laid.ov))).quiet) | (go_at_call 16; exact (Int_gives _ _ _ _ (by repeat (first | exact hL | apply Laid.alloc | apply Laid.ov))).quiet) | (go_at_call 15; exact (refNorm_gives _ _ _ hv _).quiet) | (go_at_call 17; exact (refInt_gives _ _ _ hv _).quiet))))); refine wpQuiet_nil ?_; rintro _ ⟨nq, rfl⟩))
  go_ret
  exact ⟨rfl, by repeat (first | exact IsOv.refl _ | apply IsOv.alloc | apply IsOv.ov)⟩
end Go.Proofs.YtggelmnahggdgaaDoor
