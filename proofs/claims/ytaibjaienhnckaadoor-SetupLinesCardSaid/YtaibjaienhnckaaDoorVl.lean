/- Layer 22: awake: what the chapter's examples fix, holds. Condition: the listed variables lie as the program lays them. -/
import Derived.Test.YtaibjaienhnckaaDoorVh
import Derived.Test.YtaibjaienhnckaaDoorVk
set_option linter.unusedVariables false
set_option linter.unusedSimpArgs false
namespace Go.Proofs.YtaibjaienhnckaaDoor
open Go.RowKit
set_option maxRecDepth 100000 in
set_option maxHeartbeats 1000000 in
theorem awake_gives (w : World) (hS : LaidS w) : Gives Tryd.prog 6 #[] w (.bool true) := by
  unfold Gives
  go_enter Tryd.func6, Tryd.ntmps6
  go_wp2_with fail
  refine Calls.mono (Read_calls _ ⟨#[97, 115, 107, 115, 32, 53, 10, 116, 117, 114, 110, 101, 100, 10]⟩ hS.v (by decide) (⟨3, 60, 100000, 200000, 100000, 5, true⟩, 0, 0) (by kernel_rfl)) ?_
  rintro e w1 ⟨rfl, hov1⟩
  unfold Cfg.val Cfg.cells
  go_wp2_with fail
  refine Calls.mono (refUsual_gives _) ?_
  rintro e w2 ⟨rfl, hov2⟩
  have hc2 : w2.heap[w1.heap.size]? = some (.cells #[.int .i64 3, .int .i64 60, .int .i64 100000, .int .i64 200000, .int .i64 100000, .int .i64 5, .bool true] 24) := hov2.heap (heap_alloc_new w1 _)
  have hov2w : IsOv w w2 := hov1.trans (((IsOv.refl w1).alloc _).trans hov2)
  have hz1 : w1.heap.size < w2.heap.size := lt_of_heap hc2
  clear hov2
  go_wp2_with fail
  have hg : ((w2.alloc (.cells #[.int .i64 3, .int .i64 60, .int .i64 100000, .int .i64 200000, .int .i64 100000, .int .i64 5, .bool true] 24)).alloc (.cells #[.int .u64 9] 37)).cell? ⟨w2.heap.size + 1, 0, none⟩ = some (.int .u64 9) := by
    have h9 : ((w2.alloc (.cells #[.int .i64 3, .int .i64 60, .int .i64 100000, .int .i64 200000, .int .i64 100000, .int .i64 5, .bool true] 24)).alloc (.cells #[.int .u64 9] 37)).heap[w2.heap.size + 1]? = some (.cells #[.int .u64 9] 37) := by
      have := heap_alloc_new (w2.alloc (.cells #[.int .i64 3, .int .i64 60, .int .i64 100000, .int .i64 200000, .int .i64 100000, .int .i64 5, .bool true] 24)) (.cells #[.int .u64 9] 37)
      simpa using this
    exact cell_of_heap h9 0
  refine Calls.mono (Report_gives _ ?_ (w2.heap.size + 1) hg) ?_
  · exact (hS.of_isOv ((hov2w.alloc _).alloc _)).v
  rintro e w3 ⟨rfl, hov3⟩
  have hc3 := hov3.heap (((IsOv.refl _).alloc _).heap (((IsOv.refl w2).alloc _).heap hc2))
  have hd3 : w3.heap[w2.heap.size]? = some (.cells #[.int .i64 3, .int .i64 60, .int .i64 100000, .int .i64 200000, .int .i64 100000, .int .i64 5, .bool true] 24) := hov3.heap (((IsOv.refl _).alloc _).heap (heap_alloc_new w2 _))
  have hov3w : IsOv w w3 := (hov2w.trans (((IsOv.refl w2).alloc _).alloc _)).trans hov3
  clear hov3 hc2 hg
  go_wp2_with fail
  refine Calls.mono (Read_calls _ ⟨#[97, 115, 107, 115, 32, 53, 10, 108, 111, 110, 103, 32, 57, 10]⟩ (hS.of_isOv hov3w).v (by decide) (⟨0, 0, 0, 0, 0, 0, false⟩, 2, 221) (by kernel_rfl)) ?_
  rintro e w4 ⟨rfl, hov4⟩
  have hc4 := hov4.heap hc3
  have hd4 := hov4.heap hd3
  have hov4w : IsOv w w4 := hov3w.trans hov4
  clear hov4 hc3 hd3
  have a0 : w4.cell? ⟨w1.heap.size, 0, none⟩ = some (.int .i64 3) := cell_of_heap hc4 0
  have a1 : w4.cell? ⟨w1.heap.size, 1, none⟩ = some (.int .i64 60) := cell_of_heap hc4 1
  have a2 : w4.cell? ⟨w1.heap.size, 2, none⟩ = some (.int .i64 100000) := cell_of_heap hc4 2
  have a3 : w4.cell? ⟨w1.heap.size, 3, none⟩ = some (.int .i64 200000) := cell_of_heap hc4 3
  have a4 : w4.cell? ⟨w1.heap.size, 4, none⟩ = some (.int .i64 100000) := cell_of_heap hc4 4
  have a5 : w4.cell? ⟨w1.heap.size, 5, none⟩ = some (.int .i64 5) := cell_of_heap hc4 5
  have a6 : w4.cell? ⟨w1.heap.size, 6, none⟩ = some (.bool true) := cell_of_heap hc4 6
  have b0 : w4.cell? ⟨w2.heap.size, 0, none⟩ = some (.int .i64 3) := cell_of_heap hd4 0
  have b1 : w4.cell? ⟨w2.heap.size, 1, none⟩ = some (.int .i64 60) := cell_of_heap hd4 1
  have b2 : w4.cell? ⟨w2.heap.size, 2, none⟩ = some (.int .i64 100000) := cell_of_heap hd4 2
  have b3 : w4.cell? ⟨w2.heap.size, 3, none⟩ = some (.int .i64 200000) := cell_of_heap hd4 3
  have b4 : w4.cell? ⟨w2.heap.size, 4, none⟩ = some (.int .i64 100000) := cell_of_heap hd4 4
  have b5 : w4.cell? ⟨w2.heap.size, 5, none⟩ = some (.int .i64 5) := cell_of_heap hd4 5
  have b6 : w4.cell? ⟨w2.heap.size, 6, none⟩ = some (.bool true) := cell_of_heap hd4 6
  have hz4 : w1.heap.size < w4.heap.size := lt_of_heap hc4
  have hz5 : w2.heap.size < w4.heap.size := lt_of_heap hd4
  clear hc4 hd4
  unfold Cfg.val Cfg.cells
  go_wp2_with (first | (go_at_call 13; refine Calls.mono (refUsual_gives _) ?_; rintro e w' ⟨rfl, x, rfl⟩) | (go_at_call 15; refine Calls.mono (Usual_gives _) ?_; rintro e w' ⟨rfl, x, rfl⟩) | (go_at_call 10; refine Calls.mono (Right_gives _ ?_ 3 60 100000 200000 100000 5 true) ?_; exact (hS.of_isOv (hov4w.trans (by repeat (first | with_reducible exact IsOv.refl _ | with_reducible apply IsOv.dr | with_reducible apply IsOv.drewN | with_reducible apply IsOv.drew | with_reducible apply IsOv.alloc | with_reducible apply IsOv.ov)))).v; rintro e w' ⟨rfl, x, rfl⟩))
  exact bodyPost_ret (v := .bool (rightB 3 60 100000 200000 100000 5)) (by simp [results, Tryd.results6, go_sem, ↓IntWalk.iteOmega]) rfl ⟨by rw [show rightB 3 60 100000 200000 100000 5 = true by decide], hov4w.trans (by repeat (first | with_reducible exact IsOv.refl _ | with_reducible apply IsOv.dr | with_reducible apply IsOv.drewN | with_reducible apply IsOv.drew | with_reducible apply IsOv.alloc | with_reducible apply IsOv.ov))⟩
end Go.Proofs.YtaibjaienhnckaaDoor
