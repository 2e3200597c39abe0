/- WordDivides: what the law answers, in every world in which the table of types lies as the program lays it. Conditions: both numbers are of 64 bits. -/
import Derived.Test.YtggelmnahggdgaaDoorWf
import Derived.Test.YtggelmnahggdgaaDoorWg
set_option linter.unusedVariables false
set_option linter.unusedSimpArgs false
namespace Go.Proofs.YtggelmnahggdgaaDoor
open Go.RowKit
set_option maxHeartbeats 8000000 in
theorem WordDivides_gives (wd : Int) (sg : Bool) (a b : Int) (w : World) (hL : Laid w) (ha : U64 a) (hb : U64 b) :
    Gives Tryd.prog 6 #[.agg #[.int .i64 wd, .bool sg], .int .u64 a, .int .u64 b] w (.bool true) := by
  have e2 := doE_rem wd sg b
  by_cases E : doE wd sg ⟨#[47]⟩ b = 0
  · obtain ⟨hT, hw, h0⟩ := doE_div E
    have e3 : doE wd sg ⟨#[42]⟩ b = 0 := doE_plain b hT hw opN_6 (by decide) (by decide)
    have e4 : ∀ c, doE wd sg ⟨#[43]⟩ c = 0 := fun c => doE_plain c hT hw opN_4 (by decide) (by decide)
    have e5 := divides_law E ha hb
    clear hT hw h0
    unfold Gives
    go_enter Tryd.func6, Tryd.ntmps6
    go_wp2_with (first | (go_at_call 13; refine (awake_gives _ (by repeat (first | exact hL | apply Laid.alloc | apply Laid.ov))).mono ?_; rintro e w' ⟨rfl, x, rfl⟩) | (go_at_call 18; refine (Do_gives _ _ _ _ _ _ (by repeat (first | exact hL | apply Laid.alloc | apply Laid.ov)) (by first | assumption | exact nrm_u64 (by assumption) | exact doV_u64 _ _ _ (by assumption) (by assumption) | (unfold U64; omega))).mono ?_; rintro e w' ⟨rfl, x, rfl⟩) | (go_at_call 14; refine (Norm_gives _ _ _ _ (by repeat (first | exact hL | apply Laid.alloc | apply Laid.ov))).mono ?_; rintro e w' ⟨rfl, x, rfl⟩))
    go_ret
    exact ⟨rfl, by repeat (first | exact IsOv.refl _ | apply IsOv.alloc | apply IsOv.ov)⟩
  unfold Gives
  go_enter Tryd.func6, Tryd.ntmps6
  go_wp2_with (first | (go_at_call 13; refine (awake_gives _ (by repeat (first | exact hL | apply Laid.alloc | apply Laid.ov))).mono ?_; rintro e w' ⟨rfl, x, rfl⟩) | (go_at_call 18; refine (Do_gives _ _ _ _ _ _ (by repeat (first | exact hL | apply Laid.alloc | apply Laid.ov)) (by first | assumption | exact nrm_u64 (by assumption) | exact doV_u64 _ _ _ (by assumption) (by assumption) | (unfold U64; omega))).mono ?_; rintro e w' ⟨rfl, x, rfl⟩) | (go_at_call 14; refine (Norm_gives _ _ _ _ (by repeat (first | exact hL | apply Laid.alloc | apply Laid.ov))).mono ?_; rintro e w' ⟨rfl, x, rfl⟩))
  go_ret
  exact ⟨by simp, by repeat (first | exact IsOv.refl _ | apply IsOv.alloc | apply IsOv.ov)⟩
end Go.Proofs.YtggelmnahggdgaaDoor
