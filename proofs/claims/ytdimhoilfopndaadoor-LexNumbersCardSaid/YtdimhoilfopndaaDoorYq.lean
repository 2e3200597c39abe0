/- The law LexNumbers comes to true, whatever the text. Condition: the tables lie as the program lays them. -/
import Derived.Test.YtdimhoilfopndaaDoorYn
import Derived.Test.YtdimhoilfopndaaDoorYp
set_option linter.unusedVariables false
set_option linter.unusedSimpArgs false
namespace Go.Proofs.YtdimhoilfopndaaDoor
open Go.RowKit
set_option maxHeartbeats 1000000 in
theorem LexNumbers_gives (s : ByteArray) (w : World) (hL : LaidX w) : Gives Tryd.prog 3 #[.string s] w (.bool true) := by
  unfold Gives
  by_cases h : s.size ≤ 200
  · have h2 : (s.size : Int) ≤ 200 := by omega
    go_enter Tryd.func3, Tryd.ntmps3
    go_wp2_with (first | (go_at_call 7; refine (awake_gives _ (hL.of_isOv (by repeat (first | with_reducible exact IsOv.refl _ | with_reducible apply IsOv.dr | with_reducible apply IsOv.drewN | with_reducible apply IsOv.drew | with_reducible apply IsOv.alloc | with_reducible apply IsOv.ov)))).mono ?_; rintro e w' ⟨rfl, x, rfl⟩) | (go_at_call 8; refine (Number_gives _ _ (hL.of_isOv (by repeat (first | with_reducible exact IsOv.refl _ | with_reducible apply IsOv.dr | with_reducible apply IsOv.drewN | with_reducible apply IsOv.drew | with_reducible apply IsOv.alloc | with_reducible apply IsOv.ov))) (by omega)).mono ?_; rintro e w' ⟨rfl, x, rfl⟩) | (go_at_call 9; refine (refNumber_gives _ _ (by omega)).mono ?_; rintro e w' ⟨rfl, x, rfl⟩) | (go_at_call 10; refine ((Keyword_says _ _ (hL.of_isOv (by repeat (first | with_reducible exact IsOv.refl _ | with_reducible apply IsOv.dr | with_reducible apply IsOv.drewN | with_reducible apply IsOv.drew | with_reducible apply IsOv.alloc | with_reducible apply IsOv.ov)))).gives).mono ?_; rintro e w' ⟨rfl, x, rfl⟩) | (go_at_call 11; refine (refKeyword_gives _ _).mono ?_; rintro e w' ⟨rfl, x, rfl⟩))
    all_goals exact bodyPost_ret (v := .bool true) (by simp [results, Tryd.results3, go_sem, ↓IntWalk.iteOmega]) rfl ⟨rfl, by repeat (first | with_reducible exact IsOv.refl _ | with_reducible apply IsOv.dr | with_reducible apply IsOv.drewN | with_reducible apply IsOv.drew | with_reducible apply IsOv.alloc | with_reducible apply IsOv.ov)⟩
  · have h2 : (200 : Int) < s.size := by omega
    go_enter Tryd.func3, Tryd.ntmps3
    go_wp2_with (first | (go_at_call 7; refine (awake_gives _ (hL.of_isOv (by repeat (first | with_reducible exact IsOv.refl _ | with_reducible apply IsOv.dr | with_reducible apply IsOv.drewN | with_reducible apply IsOv.drew | with_reducible apply IsOv.alloc | with_reducible apply IsOv.ov)))).mono ?_; rintro e w' ⟨rfl, x, rfl⟩))
    exact bodyPost_ret (v := .bool true) (by simp [results, Tryd.results3, go_sem, ↓IntWalk.iteOmega]) rfl ⟨rfl, by repeat (first | with_reducible exact IsOv.refl _ | with_reducible apply IsOv.dr | with_reducible apply IsOv.drewN | with_reducible apply IsOv.drew | with_reducible apply IsOv.alloc | with_reducible apply IsOv.ov)⟩
end Go.Proofs.YtdimhoilfopndaaDoor
