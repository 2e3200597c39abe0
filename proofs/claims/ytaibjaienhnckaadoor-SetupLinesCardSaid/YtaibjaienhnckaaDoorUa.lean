/- Layer 22's reference, its small words: Usual, words, bounds, get, set, Right. No condition. -/
import Derived.Test.YtaibjaienhnckaaDoorO
import Derived.Test.YtaibjaienhnckaaDoorVf
set_option linter.unusedVariables false
set_option linter.unusedSimpArgs false
namespace Go.Proofs.YtaibjaienhnckaaDoor
open Go.RowKit
theorem refUsual_gives (w : World) : Gives Tryd.prog 13 #[] w (.agg #[.int .i64 3, .int .i64 60, .int .i64 100000, .int .i64 200000, .int .i64 100000, .int .i64 12, .bool false]) := by
  unfold Gives
  go_enter Tryd.func13, Tryd.ntmps13
  go_wp2_with fail
  exact bodyPost_ret (v := .agg #[.int .i64 3, .int .i64 60, .int .i64 100000, .int .i64 200000, .int .i64 100000, .int .i64 12, .bool false]) (by simp [results, Tryd.results13, go_sem, ↓IntWalk.iteOmega]) rfl ⟨rfl, by repeat (first | with_reducible exact IsOv.refl _ | with_reducible apply IsOv.dr | with_reducible apply IsOv.drewN | with_reducible apply IsOv.drew | with_reducible apply IsOv.alloc | with_reducible apply IsOv.ov)⟩
theorem words_calls (w : World) : Calls Tryd.prog 25 #[] w fun e w' => e = .returned (.slice (some ⟨w.heap.size, 0, none⟩) 6 6) ∧ w' = w.alloc (.cells #[.string ⟨#[108, 111, 110, 103]⟩, .string ⟨#[114, 111, 117, 110, 100, 115]⟩, .string ⟨#[99, 111, 110, 102, 108, 105, 99, 116, 115]⟩, .string ⟨#[110, 111, 100, 101, 115]⟩, .string ⟨#[115, 116, 97, 116, 101, 115]⟩, .string ⟨#[97, 115, 107, 115]⟩] 9) := by
  go_enter Tryd.func25, Tryd.ntmps25
  go_wp2_with fail
  exact bodyPost_ret (v := .slice (some ⟨w.heap.size, 0, none⟩) 6 6) (by simp [results, Tryd.results25, go_sem, ↓IntWalk.iteOmega]) rfl ⟨rfl, rfl⟩
def loN (k : Nat) : Int := (entL.getD k ([], 0, 0)).2.1
def hiN (k : Nat) : Int := (entL.getD k ([], 0, 0)).2.2
def Cfg.get (c : Cfg) (k : Nat) : Int := match k with | 0 => c.l0 | 1 => c.l1 | 2 => c.l2 | 3 => c.l3 | 4 => c.l4 | _ => c.l5
set_option maxHeartbeats 4000000 in
theorem bounds_gives (w : World) (k : Nat) (hk : k < 6) : Gives Tryd.prog 23 #[.int .i64 (k : Int)] w (.tuple #[.int .i64 (loN k), .int .i64 (hiN k)]) := by
  have hk7 : k = 0 ∨ k = 1 ∨ k = 2 ∨ k = 3 ∨ k = 4 ∨ k = 5 := by omega
  rcases hk7 with rfl | rfl | rfl | rfl | rfl | rfl
  · unfold Gives
    go_enter Tryd.func23, Tryd.ntmps23
    go_wp2_with fail
    go_region_with (fail)
    all_goals go_wp2_with fail
    all_goals exact bodyPost_ret (v := .tuple #[.int .i64 1, .int .i64 6]) (by simp [results, Tryd.results23, go_sem, ↓IntWalk.iteOmega]) rfl ⟨rfl, by repeat (first | with_reducible exact IsOv.refl _ | with_reducible apply IsOv.dr | with_reducible apply IsOv.drewN | with_reducible apply IsOv.drew | with_reducible apply IsOv.alloc | with_reducible apply IsOv.ov)⟩
  · unfold Gives
    go_enter Tryd.func23, Tryd.ntmps23
    go_wp2_with fail
    go_region_with (fail)
    all_goals go_wp2_with fail
    all_goals exact bodyPost_ret (v := .tuple #[.int .i64 1, .int .i64 1000]) (by simp [results, Tryd.results23, go_sem, ↓IntWalk.iteOmega]) rfl ⟨rfl, by repeat (first | with_reducible exact IsOv.refl _ | with_reducible apply IsOv.dr | with_reducible apply IsOv.drewN | with_reducible apply IsOv.drew | with_reducible apply IsOv.alloc | with_reducible apply IsOv.ov)⟩
  · unfold Gives
    go_enter Tryd.func23, Tryd.ntmps23
    go_wp2_with fail
    go_region_with (fail)
    all_goals go_wp2_with fail
    all_goals exact bodyPost_ret (v := .tuple #[.int .i64 1, .int .i64 1073741824]) (by simp [results, Tryd.results23, go_sem, ↓IntWalk.iteOmega]) rfl ⟨rfl, by repeat (first | with_reducible exact IsOv.refl _ | with_reducible apply IsOv.dr | with_reducible apply IsOv.drewN | with_reducible apply IsOv.drew | with_reducible apply IsOv.alloc | with_reducible apply IsOv.ov)⟩
  · unfold Gives
    go_enter Tryd.func23, Tryd.ntmps23
    go_wp2_with fail
    go_region_with (fail)
    all_goals go_wp2_with fail
    all_goals exact bodyPost_ret (v := .tuple #[.int .i64 2, .int .i64 16777216]) (by simp [results, Tryd.results23, go_sem, ↓IntWalk.iteOmega]) rfl ⟨rfl, by repeat (first | with_reducible exact IsOv.refl _ | with_reducible apply IsOv.dr | with_reducible apply IsOv.drewN | with_reducible apply IsOv.drew | with_reducible apply IsOv.alloc | with_reducible apply IsOv.ov)⟩
  · unfold Gives
    go_enter Tryd.func23, Tryd.ntmps23
    go_wp2_with fail
    go_region_with (fail)
    all_goals go_wp2_with fail
    all_goals exact bodyPost_ret (v := .tuple #[.int .i64 1, .int .i64 16777216]) (by simp [results, Tryd.results23, go_sem, ↓IntWalk.iteOmega]) rfl ⟨rfl, by repeat (first | with_reducible exact IsOv.refl _ | with_reducible apply IsOv.dr | with_reducible apply IsOv.drewN | with_reducible apply IsOv.drew | with_reducible apply IsOv.alloc | with_reducible apply IsOv.ov)⟩
  · unfold Gives
    go_enter Tryd.func23, Tryd.ntmps23
    go_wp2_with fail
    go_region_with (fail)
    all_goals go_wp2_with fail
    all_goals exact bodyPost_ret (v := .tuple #[.int .i64 0, .int .i64 20]) (by simp [results, Tryd.results23, go_sem, ↓IntWalk.iteOmega]) rfl ⟨rfl, by repeat (first | with_reducible exact IsOv.refl _ | with_reducible apply IsOv.dr | with_reducible apply IsOv.drewN | with_reducible apply IsOv.drew | with_reducible apply IsOv.alloc | with_reducible apply IsOv.ov)⟩

set_option maxHeartbeats 1000000 in
theorem get_gives (w : World) (c : Cfg) (k : Nat) (hk : k < 6) : Gives Tryd.prog 24 #[c.val, .int .i64 (k : Int)] w (.int .i64 (c.get k)) := by
  obtain ⟨l0, l1, l2, l3, l4, l5, t⟩ := c
  unfold Cfg.val Cfg.cells Cfg.get
  have hk7 : k = 0 ∨ k = 1 ∨ k = 2 ∨ k = 3 ∨ k = 4 ∨ k = 5 := by omega
  rcases hk7 with rfl | rfl | rfl | rfl | rfl | rfl
  · unfold Gives
    go_enter Tryd.func24, Tryd.ntmps24
    go_wp2_with fail
    exact bodyPost_ret (v := .int .i64 l0) (by simp [results, Tryd.results24, go_sem, ↓IntWalk.iteOmega]) rfl ⟨rfl, by repeat (first | with_reducible exact IsOv.refl _ | with_reducible apply IsOv.dr | with_reducible apply IsOv.drewN | with_reducible apply IsOv.drew | with_reducible apply IsOv.alloc | with_reducible apply IsOv.ov)⟩
  · unfold Gives
    go_enter Tryd.func24, Tryd.ntmps24
    go_wp2_with fail
    exact bodyPost_ret (v := .int .i64 l1) (by simp [results, Tryd.results24, go_sem, ↓IntWalk.iteOmega]) rfl ⟨rfl, by repeat (first | with_reducible exact IsOv.refl _ | with_reducible apply IsOv.dr | with_reducible apply IsOv.drewN | with_reducible apply IsOv.drew | with_reducible apply IsOv.alloc | with_reducible apply IsOv.ov)⟩
  · unfold Gives
    go_enter Tryd.func24, Tryd.ntmps24
    go_wp2_with fail
    exact bodyPost_ret (v := .int .i64 l2) (by simp [results, Tryd.results24, go_sem, ↓IntWalk.iteOmega]) rfl ⟨rfl, by repeat (first | with_reducible exact IsOv.refl _ | with_reducible apply IsOv.dr | with_reducible apply IsOv.drewN | with_reducible apply IsOv.drew | with_reducible apply IsOv.alloc | with_reducible apply IsOv.ov)⟩
  · unfold Gives
    go_enter Tryd.func24, Tryd.ntmps24
    go_wp2_with fail
    exact bodyPost_ret (v := .int .i64 l3) (by simp [results, Tryd.results24, go_sem, ↓IntWalk.iteOmega]) rfl ⟨rfl, by repeat (first | with_reducible exact IsOv.refl _ | with_reducible apply IsOv.dr | with_reducible apply IsOv.drewN | with_reducible apply IsOv.drew | with_reducible apply IsOv.alloc | with_reducible apply IsOv.ov)⟩
  · unfold Gives
    go_enter Tryd.func24, Tryd.ntmps24
    go_wp2_with fail
    exact bodyPost_ret (v := .int .i64 l4) (by simp [results, Tryd.results24, go_sem, ↓IntWalk.iteOmega]) rfl ⟨rfl, by repeat (first | with_reducible exact IsOv.refl _ | with_reducible apply IsOv.dr | with_reducible apply IsOv.drewN | with_reducible apply IsOv.drew | with_reducible apply IsOv.alloc | with_reducible apply IsOv.ov)⟩
  · unfold Gives
    go_enter Tryd.func24, Tryd.ntmps24
    go_wp2_with fail
    exact bodyPost_ret (v := .int .i64 l5) (by simp [results, Tryd.results24, go_sem, ↓IntWalk.iteOmega]) rfl ⟨rfl, by repeat (first | with_reducible exact IsOv.refl _ | with_reducible apply IsOv.dr | with_reducible apply IsOv.drewN | with_reducible apply IsOv.drew | with_reducible apply IsOv.alloc | with_reducible apply IsOv.ov)⟩

set_option maxHeartbeats 1000000 in
theorem set_gives (w : World) (c : Cfg) (k : Nat) (hk : k < 6) (v : Int) : Gives Tryd.prog 35 #[c.val, .int .i64 (k : Int), .int .i64 v] w (c.set k v).val := by
  obtain ⟨l0, l1, l2, l3, l4, l5, t⟩ := c
  unfold Cfg.val Cfg.cells Cfg.set
  have hk7 : k = 0 ∨ k = 1 ∨ k = 2 ∨ k = 3 ∨ k = 4 ∨ k = 5 := by omega
  rcases hk7 with rfl | rfl | rfl | rfl | rfl | rfl
  · unfold Gives
    go_enter Tryd.func35, Tryd.ntmps35
    go_wp2_with fail
    exact bodyPost_ret (v := .agg #[.int .i64 v, .int .i64 l1, .int .i64 l2, .int .i64 l3, .int .i64 l4, .int .i64 l5, .bool t]) (by simp [results, Tryd.results35, go_sem, ↓IntWalk.iteOmega]) rfl ⟨rfl, by repeat (first | with_reducible exact IsOv.refl _ | with_reducible apply IsOv.dr | with_reducible apply IsOv.drewN | with_reducible apply IsOv.drew | with_reducible apply IsOv.alloc | with_reducible apply IsOv.ov)⟩
  · unfold Gives
    go_enter Tryd.func35, Tryd.ntmps35
    go_wp2_with fail
    exact bodyPost_ret (v := .agg #[.int .i64 l0, .int .i64 v, .int .i64 l2, .int .i64 l3, .int .i64 l4, .int .i64 l5, .bool t]) (by simp [results, Tryd.results35, go_sem, ↓IntWalk.iteOmega]) rfl ⟨rfl, by repeat (first | with_reducible exact IsOv.refl _ | with_reducible apply IsOv.dr | with_reducible apply IsOv.drewN | with_reducible apply IsOv.drew | with_reducible apply IsOv.alloc | with_reducible apply IsOv.ov)⟩
  · unfold Gives
    go_enter Tryd.func35, Tryd.ntmps35
    go_wp2_with fail
    exact bodyPost_ret (v := .agg #[.int .i64 l0, .int .i64 l1, .int .i64 v, .int .i64 l3, .int .i64 l4, .int .i64 l5, .bool t]) (by simp [results, Tryd.results35, go_sem, ↓IntWalk.iteOmega]) rfl ⟨rfl, by repeat (first | with_reducible exact IsOv.refl _ | with_reducible apply IsOv.dr | with_reducible apply IsOv.drewN | with_reducible apply IsOv.drew | with_reducible apply IsOv.alloc | with_reducible apply IsOv.ov)⟩
  · unfold Gives
    go_enter Tryd.func35, Tryd.ntmps35
    go_wp2_with fail
    exact bodyPost_ret (v := .agg #[.int .i64 l0, .int .i64 l1, .int .i64 l2, .int .i64 v, .int .i64 l4, .int .i64 l5, .bool t]) (by simp [results, Tryd.results35, go_sem, ↓IntWalk.iteOmega]) rfl ⟨rfl, by repeat (first | with_reducible exact IsOv.refl _ | with_reducible apply IsOv.dr | with_reducible apply IsOv.drewN | with_reducible apply IsOv.drew | with_reducible apply IsOv.alloc | with_reducible apply IsOv.ov)⟩
  · unfold Gives
    go_enter Tryd.func35, Tryd.ntmps35
    go_wp2_with fail
    exact bodyPost_ret (v := .agg #[.int .i64 l0, .int .i64 l1, .int .i64 l2, .int .i64 l3, .int .i64 v, .int .i64 l5, .bool t]) (by simp [results, Tryd.results35, go_sem, ↓IntWalk.iteOmega]) rfl ⟨rfl, by repeat (first | with_reducible exact IsOv.refl _ | with_reducible apply IsOv.dr | with_reducible apply IsOv.drewN | with_reducible apply IsOv.drew | with_reducible apply IsOv.alloc | with_reducible apply IsOv.ov)⟩
  · unfold Gives
    go_enter Tryd.func35, Tryd.ntmps35
    go_wp2_with fail
    exact bodyPost_ret (v := .agg #[.int .i64 l0, .int .i64 l1, .int .i64 l2, .int .i64 l3, .int .i64 l4, .int .i64 v, .bool t]) (by simp [results, Tryd.results35, go_sem, ↓IntWalk.iteOmega]) rfl ⟨rfl, by repeat (first | with_reducible exact IsOv.refl _ | with_reducible apply IsOv.dr | with_reducible apply IsOv.drewN | with_reducible apply IsOv.drew | with_reducible apply IsOv.alloc | with_reducible apply IsOv.ov)⟩

end Go.Proofs.YtaibjaienhnckaaDoor
