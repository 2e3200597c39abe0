/- Layer 22: SetupReads answers true. Condition: the listed variables lie as the program lays them. -/
import Derived.Test.YtaibjaienhnckaaDoorVl
import Derived.Test.YtaibjaienhnckaaDoorUh
set_option linter.unusedVariables false
set_option linter.unusedSimpArgs false
namespace Go.Proofs.YtaibjaienhnckaaDoor
open Go.RowKit
set_option maxRecDepth 100000 in
set_option maxHeartbeats 1000000 in
theorem SetupReads_gives (w : World) (s : ByteArray) (hS : LaidS w) : Gives Tryd.prog 3 #[.string s] w (.bool true) := by
  unfold Gives
  go_enter Tryd.func3, Tryd.ntmps3
  by_cases hbig : 500 < s.size
  · go_wp2_with (go_at_call 6; refine Calls.mono (awake_gives _ ?_) ?_; exact (hS.of_isOv (by repeat (first | with_reducible exact IsOv.refl _ | with_reducible apply IsOv.dr | with_reducible apply IsOv.drewN | with_reducible apply IsOv.drew | with_reducible apply IsOv.alloc | with_reducible apply IsOv.ov))); rintro e w' ⟨rfl, x9, rfl⟩)
    exact bodyPost_ret (v := .bool true) (by simp [results, Tryd.results3, go_sem, ↓IntWalk.iteOmega]) rfl ⟨rfl, by repeat (first | with_reducible exact IsOv.refl _ | with_reducible apply IsOv.dr | with_reducible apply IsOv.drewN | with_reducible apply IsOv.drew | with_reducible apply IsOv.alloc | with_reducible apply IsOv.ov)⟩
  · obtain ⟨r, hr⟩ := readF_ends (s.size + 1) Cfg.usual [] 1 s.data.toList (by rw [Array.length_toList]; exact Nat.lt_succ_self _)
    have hr2 : refReadF (s.size + 1) Cfg.usual [false, false, false, false, false, false, false] 1 s.data.toList = some r := (read_same _ _ [] _ _ _ rfl (by decide)).trans hr
    obtain ⟨⟨c0, c1, c2, c3, c4, c5, c6⟩, n, le⟩ := r
    have HR := Lib.hid hr
    have HR2 := Lib.hid hr2
    clear hr hr2
    go_wp2_with fail
    refine Calls.mono (Read_calls w s hS.v (by omega) _ HR.out) ?_
    rintro e w1 ⟨rfl, hov1⟩
    simp only [Cfg.val, Cfg.cells]
    go_wp2_with fail
    refine Calls.mono (refRead_calls _ s (by omega) _ HR2.out) ?_
    rintro e w2 ⟨rfl, hov2⟩
    have hc2 : w2.heap[w1.heap.size]? = some (.cells #[.int .i64 c0, .int .i64 c1, .int .i64 c2, .int .i64 c3, .int .i64 c4, .int .i64 c5, .bool c6] 24) := hov2.heap (heap_alloc_new w1 _)
    have hov2w : IsOv w w2 := hov1.trans (((IsOv.refl w1).alloc _).trans hov2)
    have hz2 : w1.heap.size < w2.heap.size := lt_of_heap hc2
    have p0 : w2.cell? ⟨w1.heap.size, 0, none⟩ = some (.int .i64 c0) := cell_of_heap hc2 0
    have p1 : w2.cell? ⟨w1.heap.size, 1, none⟩ = some (.int .i64 c1) := cell_of_heap hc2 1
    have p2 : w2.cell? ⟨w1.heap.size, 2, none⟩ = some (.int .i64 c2) := cell_of_heap hc2 2
    have p3 : w2.cell? ⟨w1.heap.size, 3, none⟩ = some (.int .i64 c3) := cell_of_heap hc2 3
    have p4 : w2.cell? ⟨w1.heap.size, 4, none⟩ = some (.int .i64 c4) := cell_of_heap hc2 4
    have p5 : w2.cell? ⟨w1.heap.size, 5, none⟩ = some (.int .i64 c5) := cell_of_heap hc2 5
    have p6 : w2.cell? ⟨w1.heap.size, 6, none⟩ = some (.bool c6) := cell_of_heap hc2 6
    clear hov2 hc2
    simp only [Cfg.val, Cfg.cells]
    go_wp2_with (go_at_call 6; refine Calls.mono (awake_gives _ ?_) ?_; exact (hS.of_isOv (hov2w.trans (by repeat (first | with_reducible exact IsOv.refl _ | with_reducible apply IsOv.dr | with_reducible apply IsOv.drewN | with_reducible apply IsOv.drew | with_reducible apply IsOv.alloc | with_reducible apply IsOv.ov)))); rintro e w' ⟨rfl, x9, rfl⟩)
    exact bodyPost_ret (v := .bool true) (by simp [results, Tryd.results3, go_sem, ↓IntWalk.iteOmega]) rfl ⟨rfl, hov2w.trans (by repeat (first | with_reducible exact IsOv.refl _ | with_reducible apply IsOv.dr | with_reducible apply IsOv.drewN | with_reducible apply IsOv.drew | with_reducible apply IsOv.alloc | with_reducible apply IsOv.ov))⟩
end Go.Proofs.YtaibjaienhnckaaDoor
