/- WordCasts: what the law answers, in every world in which the table of types lies as the program lays it. Condition: the numbers are of 64 bits. -/
import Derived.Test.YtggelmnahggdgaaDoorWf
import Derived.Test.YtggelmnahggdgaaDoorQi
set_option linter.unusedVariables false
set_option linter.unusedSimpArgs false
namespace Go.Proofs.YtggelmnahggdgaaDoor
open Go.RowKit
theorem refCast_gives (wd : Int) (sg : Bool) (xd : Int) (xg : Bool) (v : Int) (hv : U64 v) (w : World) : Gives Tryd.prog 21 #[.agg #[.int .i64 wd, .bool sg], .agg #[.int .i64 xd, .bool xg], .int .u64 v] w (.int .u64 (cst wd sg xd xg v)) :=
  (PWordCasts.skuaref01_Cast.calls 200 wd sg xd xg v _ w (RWordCasts.cast_f 200 wd sg xd xg v hv (by decide))).mono fun _ _ ⟨he, hb⟩ => ⟨he, IsOv.of_below hb⟩
set_option maxHeartbeats 8000000 in
theorem WordCasts_gives (wd : Int) (sg : Bool) (xd : Int) (xg : Bool) (v : Int) (w : World) (hL : Laid w) (hv : U64 v) :
    Gives Tryd.prog 5 #[.agg #[.int .i64 wd, .bool sg], .agg #[.int .i64 xd, .bool xg], .int .u64 v] w (.bool true) := by
  have back := @RWordCasts.cst_back wd xd sg xg v hv
  unfold Gives
  go_enter Tryd.func5, Tryd.ntmps5
  go_wp2_with (first | (go_at_call 13; refine (awake_gives _ (by repeat (first | exact hL | apply Laid.alloc | apply Laid.ov))).mono ?_; rintro e w' ⟨rfl, x, rfl⟩) | (go_at_call 20; refine (Cast_gives _ _ _ _ _ _ (by repeat (first | exact hL | apply Laid.alloc | apply Laid.ov))).mono ?_; rintro e w' ⟨rfl, x, rfl⟩) | (go_at_call 22; refine (Right_gives _ _ _ (by repeat (first | exact hL | apply Laid.alloc | apply Laid.ov))).mono ?_; rintro e w' ⟨rfl, x, rfl⟩) | (go_at_call 21; refine (refCast_gives _ _ _ _ _ hv _).mono ?_; rintro e w' ⟨rfl, x, rfl⟩) | (refine wp_region_ov (by kernel_rfl) (by kernel_rfl) ?_; (repeat (go_big_quiet_step ((first | (go_at_call 20; exact (Cast_gives _ _ _ _ _ _ (by repeat (first | exact hL | apply Laid.alloc | apply Laid.ov))).quiet) | (go_at_call 14; exact (Norm_gives _ _ _ _ (by repeat (first | exact hL | apply Laid.alloc | apply Laid.ov))).quiet) | (go_at_call 21; exact (refCast_gives _ _ _ _ _ hv _).quiet) | (go_at_call 13; exact (awake_gives _ (by repeat (first | exact hL | apply Laid.alloc | apply Laid.ov))).quiet))))); refine wpQuiet_nil ?_; rintro _ ⟨nq, rfl⟩))
  all_goals
    go_ret
    exact ⟨by first | rfl | (rw [back (by assumption) (by assumption) (by omega) (by omega)]; simp) | (simp_all; done), by repeat (first | exact IsOv.refl _ | apply IsOv.alloc | apply IsOv.ov)⟩
end Go.Proofs.YtggelmnahggdgaaDoor
