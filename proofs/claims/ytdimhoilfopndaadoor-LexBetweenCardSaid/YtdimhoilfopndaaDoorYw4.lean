/- The law LexBetween comes to true, whatever the texts. Condition: the tables lie as the program lays them. -/
import Derived.Test.YtdimhoilfopndaaDoorYw0
import Derived.Test.YtdimhoilfopndaaDoorYw1
set_option linter.unusedVariables false
set_option linter.unusedSimpArgs false
namespace Go.Proofs.YtdimhoilfopndaaDoor
open Go.RowKit
set_option maxHeartbeats 1000000 in
theorem LexBetween_gives (s more : ByteArray) (kd : Int) (w : World) (hL : LaidX w) (hk : 0 ≤ kd ∧ kd ≤ 255) : Gives Tryd.prog 4 #[.string s, .string more, .int .u8 kd] w (.bool true) := by
  by_cases h : s.size ≤ 2000
  · by_cases h3 : more.size ≤ 500
    · have hm : kd % 4 = 0 ∨ kd % 4 = 1 ∨ kd % 4 = 2 ∨ kd % 4 = 3 := by omega
      rcases hm with hm | hm | hm | hm
      · exact LexBetween_0 s more kd w hL hk h h3 hm
      · exact LexBetween_1 s more kd w hL hk h h3 hm
      · exact LexBetween_2 s more kd w hL hk h h3 hm
      · exact LexBetween_3 s more kd w hL hk h h3 hm
    · have h2 : (s.size : Int) ≤ 2000 := by omega
      have h4 : (500 : Int) < more.size := by omega
      unfold Gives
      go_enter Tryd.func4, Tryd.ntmps4
      go_wp2_with (first | (go_at_call 7; refine (awake_gives _ (hL.of_isOv (by repeat (first | with_reducible exact IsOv.refl _ | with_reducible apply IsOv.dr | with_reducible apply IsOv.drewN | with_reducible apply IsOv.drew | with_reducible apply IsOv.alloc | with_reducible apply IsOv.ov)))).mono ?_; rintro e w' ⟨rfl, x, rfl⟩))
      exact bodyPost_ret (v := .bool true) (by simp [results, Tryd.results4, go_sem, ↓IntWalk.iteOmega]) rfl ⟨rfl, by repeat (first | with_reducible exact IsOv.refl _ | with_reducible apply IsOv.dr | with_reducible apply IsOv.drewN | with_reducible apply IsOv.drew | with_reducible apply IsOv.alloc | with_reducible apply IsOv.ov)⟩
  · have h2 : (2000 : Int) < s.size := by omega
    unfold Gives
    go_enter Tryd.func4, Tryd.ntmps4
    go_wp2_with (first | (go_at_call 7; refine (awake_gives _ (hL.of_isOv (by repeat (first | with_reducible exact IsOv.refl _ | with_reducible apply IsOv.dr | with_reducible apply IsOv.drewN | with_reducible apply IsOv.drew | with_reducible apply IsOv.alloc | with_reducible apply IsOv.ov)))).mono ?_; rintro e w' ⟨rfl, x, rfl⟩))
    exact bodyPost_ret (v := .bool true) (by simp [results, Tryd.results4, go_sem, ↓IntWalk.iteOmega]) rfl ⟨rfl, by repeat (first | with_reducible exact IsOv.refl _ | with_reducible apply IsOv.dr | with_reducible apply IsOv.drewN | with_reducible apply IsOv.drew | with_reducible apply IsOv.alloc | with_reducible apply IsOv.ov)⟩
end Go.Proofs.YtdimhoilfopndaaDoor
