/- Layer 22's reference: Line. Condition: the line takes at most 65536 bytes. -/
import Derived.Test.YtaibjaienhnckaaDoorUd
set_option linter.unusedVariables false
set_option linter.unusedSimpArgs false
namespace Go.Proofs.YtaibjaienhnckaaDoor
open Go.RowKit
set_option maxRecDepth 20000 in
set_option maxHeartbeats 5000000 in
theorem refLine_gives (w : World) (c : Cfg) (s : ByteArray) (hs : s.size ≤ 65536) : Gives Tryd.prog 18 #[c.val, .string s] w (.tuple #[(lineR c s).1.val, .int .i64 (lineR c s).2.1, .int .i64 (lineR c s).2.2]) := by
  obtain ⟨l0, l1, l2, l3, l4, l5, t⟩ := c
  unfold Gives
  cases ht : (s.toList == turnedW)
  · have HT := Lib.hid ht
    have ht2 : (s.toList == [116, 117, 114, 110, 101, 100]) = false := ht
    clear ht
    generalize hcv : (Cfg.val ⟨l0, l1, l2, l3, l4, l5, t⟩) = cv
    have hcv2 : cv = .agg #[.int .i64 l0, .int .i64 l1, .int .i64 l2, .int .i64 l3, .int .i64 l4, .int .i64 l5, .bool t] := hcv.symm
    subst hcv2
    clear hcv
    go_enter Tryd.func18, Tryd.ntmps18
    go_wp2_with fail
    have hcb : ((w.alloc (.cells (Cfg.cells ⟨l0, l1, l2, l3, l4, l5, t⟩) 24)).alloc (.cells Cfg.zero.cells 24)).heap[w.heap.size]? = some (.cells (Cfg.cells ⟨l0, l1, l2, l3, l4, l5, t⟩) 24) := ((IsOv.refl _).alloc _).heap (heap_alloc_new w _)
    have hrb : ((w.alloc (.cells (Cfg.cells ⟨l0, l1, l2, l3, l4, l5, t⟩) 24)).alloc (.cells Cfg.zero.cells 24)).heap[w.heap.size + 1]? = some (.cells Cfg.zero.cells 24) := by
      have := heap_alloc_new (w.alloc (.cells (Cfg.cells ⟨l0, l1, l2, l3, l4, l5, t⟩) 24)) (.cells Cfg.zero.cells 24)
      simpa using this
    have hW0 : IsOv w ((w.alloc (.cells (Cfg.cells ⟨l0, l1, l2, l3, l4, l5, t⟩) 24)).alloc (.cells Cfg.zero.cells 24)) := ((IsOv.refl w).alloc _).alloc _
    have HCB := Lib.hid hcb
    have HRB := Lib.hid hrb
    clear hcb hrb
    go_loopw [7] (fun iv wr => ∃ k : Nat, iv = .int .i64 (k : Int) ∧ k ≤ 6 ∧ Hid (∀ j, j < k → preB j s = false) ∧ IsOv ((w.alloc (.cells (Cfg.cells ⟨l0, l1, l2, l3, l4, l5, t⟩) 24)).alloc (.cells Cfg.zero.cells 24)) wr) (fun iv wr => (6 - intOf iv).toNat)
    case atStart => exact ⟨0, rfl, Nat.zero_le _, Lib.hid fun j hj => absurd hj (Nat.not_lt_zero _), IsOv.refl _⟩
    case round =>
      obtain ⟨k, rfl, hk, hall, hov0⟩ := hrel
      have hov := hW0.trans hov0
      by_cases hk6 : k < 6
      · go_wp2_with fail
        refine (words_k _ k hk6).mono ?_
        rintro e w2 ⟨rfl, hov2, hck⟩
        have hcw := (hov0.trans hov2).heap HCB.out
        have hrw := (hov0.trans hov2).heap HRB.out
        have hN1 : w.heap.size + 1 < w2.heap.size := lt_of_heap hrw
        have hN0 : w.heap.size < w2.heap.size := by omega
        have hN2 := lt_of_heap hcw
        have p0 : w2.cell? ⟨w.heap.size, 0, none⟩ = some (.int .i64 l0) := cell_of_heap hcw 0
        have r0 : w2.cell? ⟨w.heap.size + 1, 0, none⟩ = some (.int .i64 0) := cell_of_heap hrw 0
        have rf0 := frozen_of_heap hrw 0
        have p1 : w2.cell? ⟨w.heap.size, 1, none⟩ = some (.int .i64 l1) := cell_of_heap hcw 1
        have r1 : w2.cell? ⟨w.heap.size + 1, 1, none⟩ = some (.int .i64 0) := cell_of_heap hrw 1
        have rf1 := frozen_of_heap hrw 1
        have p2 : w2.cell? ⟨w.heap.size, 2, none⟩ = some (.int .i64 l2) := cell_of_heap hcw 2
        have r2 : w2.cell? ⟨w.heap.size + 1, 2, none⟩ = some (.int .i64 0) := cell_of_heap hrw 2
        have rf2 := frozen_of_heap hrw 2
        have p3 : w2.cell? ⟨w.heap.size, 3, none⟩ = some (.int .i64 l3) := cell_of_heap hcw 3
        have r3 : w2.cell? ⟨w.heap.size + 1, 3, none⟩ = some (.int .i64 0) := cell_of_heap hrw 3
        have rf3 := frozen_of_heap hrw 3
        have p4 : w2.cell? ⟨w.heap.size, 4, none⟩ = some (.int .i64 l4) := cell_of_heap hcw 4
        have r4 : w2.cell? ⟨w.heap.size + 1, 4, none⟩ = some (.int .i64 0) := cell_of_heap hrw 4
        have rf4 := frozen_of_heap hrw 4
        have p5 : w2.cell? ⟨w.heap.size, 5, none⟩ = some (.int .i64 l5) := cell_of_heap hcw 5
        have r5 : w2.cell? ⟨w.heap.size + 1, 5, none⟩ = some (.int .i64 0) := cell_of_heap hrw 5
        have rf5 := frozen_of_heap hrw 5
        have p6 : w2.cell? ⟨w.heap.size, 6, none⟩ = some (.bool t) := cell_of_heap hcw 6
        have r6 : w2.cell? ⟨w.heap.size + 1, 6, none⟩ = some (.bool false) := cell_of_heap hrw 6
        have rf6 := frozen_of_heap hrw 6
        clear hcw hrw hN2
        have hovL := hov0.trans hov2
        have hov2w := hov.trans hov2
        have hwz := wB_size k hk6
        have hwk : (wB k ++ ⟨#[32]⟩ : ByteArray) = wK k := rfl
        have hwkz := wK_size k
        by_cases hA : s.size < (wB k).size + 1
        · have HV : Hid (preB k s = false) := Lib.hid (by unfold preB; rw [decide_eq_false (by omega)]; rfl)
          have HALL := hall
          go_wp2_with fail
          go_roundw
          case rel => exact ⟨k + 1, by go_num, by omega, Lib.hid (pre_next HALL.out HV.out), hovL⟩
          case measure => simp [intOf]; omega
        · cases hB : ((s.extract 0 ((wB k).size + 1)).toList == (wK k).toList)
          · have HV : Hid (preB k s = false) := Lib.hid (by unfold preB; rw [hB, Bool.and_false])
            have HALL := hall
            go_wp2_with fail
            go_roundw
            case rel => exact ⟨k + 1, by go_num, by omega, Lib.hid (pre_next HALL.out HV.out), hovL⟩
            case measure => simp [intOf]; omega
          · have HI : Hid (idxR s = some k) := Lib.hid (idxR_some hk6 hall.out (by unfold preB; rw [hB, decide_eq_true (by omega)]; rfl))
            have hez : (s.extract ((wB k).size + 1) s.size).size ≤ 65536 := by rw [ByteArray.size_extract]; omega
            clear hall
            cases hn : numR (s.extract ((wB k).size + 1) s.size).data.toList with
            | none =>
              have HN := Lib.hid hn
              have HV : Hid (lineR ⟨l0, l1, l2, l3, l4, l5, t⟩ s = (⟨l0, l1, l2, l3, l4, l5, t⟩, -1, 220)) := Lib.hid (lineR_noNum _ HT.out HI.out hn)
              clear hn
              go_wp2_with (first | (go_at_call 34; refine (number_gives _ _ hez).mono ?_; rintro e w3 ⟨rfl, x3, rfl⟩; rw [HN.out]; unfold numRV) | (go_at_call 23; refine (bounds_gives _ k hk6).mono ?_; rintro e w4 ⟨rfl, x4, rfl⟩) | (go_at_call 35; refine (set_gives _ ⟨l0, l1, l2, l3, l4, l5, t⟩ k hk6 v).mono ?_; rintro e w5 ⟨rfl, x5, rfl⟩; rw [HQ.out]; unfold Cfg.val Cfg.cells))
              exact bodyPost_ret (v := .tuple #[.agg #[.int .i64 l0, .int .i64 l1, .int .i64 l2, .int .i64 l3, .int .i64 l4, .int .i64 l5, .bool t], .int .i64 (-1), .int .i64 220]) (by simp [results, Tryd.results18, go_sem, ↓IntWalk.iteOmega, r0, r1, r2, r3, r4, r5, r6]) rfl ⟨by rw [HV.out]; rfl, (IsOv.setCellB (IsOv.setCellB (IsOv.setCellB (IsOv.setCellB (IsOv.setCellB (IsOv.setCellB (IsOv.setCellB (hov2w.trans (by repeat (first | with_reducible exact IsOv.refl _ | with_reducible apply IsOv.dr | with_reducible apply IsOv.drewN | with_reducible apply IsOv.drew | with_reducible apply IsOv.alloc | with_reducible apply IsOv.ov))) (Nat.le_succ _) 0 (.int .i64 l0)) (Nat.le_succ _) 1 (.int .i64 l1)) (Nat.le_succ _) 2 (.int .i64 l2)) (Nat.le_succ _) 3 (.int .i64 l3)) (Nat.le_succ _) 4 (.int .i64 l4)) (Nat.le_succ _) 5 (.int .i64 l5)) (Nat.le_succ _) 6 (.bool t))⟩
            | some v =>
              have HN := Lib.hid hn
              by_cases h1 : v < loN k
              · have HV : Hid (lineR ⟨l0, l1, l2, l3, l4, l5, t⟩ s = (⟨l0, l1, l2, l3, l4, l5, t⟩, (k : Int), 221)) := Lib.hid ((lineR_num _ HT.out HI.out hn).trans (if_pos (.inl h1)))
                clear hn
                go_wp2_with (first | (go_at_call 34; refine (number_gives _ _ hez).mono ?_; rintro e w3 ⟨rfl, x3, rfl⟩; rw [HN.out]; unfold numRV) | (go_at_call 23; refine (bounds_gives _ k hk6).mono ?_; rintro e w4 ⟨rfl, x4, rfl⟩) | (go_at_call 35; refine (set_gives _ ⟨l0, l1, l2, l3, l4, l5, t⟩ k hk6 v).mono ?_; rintro e w5 ⟨rfl, x5, rfl⟩; rw [HQ.out]; unfold Cfg.val Cfg.cells))
                exact bodyPost_ret (v := .tuple #[.agg #[.int .i64 l0, .int .i64 l1, .int .i64 l2, .int .i64 l3, .int .i64 l4, .int .i64 l5, .bool t], .int .i64 (k : Int), .int .i64 221]) (by simp [results, Tryd.results18, go_sem, ↓IntWalk.iteOmega, r0, r1, r2, r3, r4, r5, r6]) rfl ⟨by rw [HV.out]; rfl, (IsOv.setCellB (IsOv.setCellB (IsOv.setCellB (IsOv.setCellB (IsOv.setCellB (IsOv.setCellB (IsOv.setCellB (hov2w.trans (by repeat (first | with_reducible exact IsOv.refl _ | with_reducible apply IsOv.dr | with_reducible apply IsOv.drewN | with_reducible apply IsOv.drew | with_reducible apply IsOv.alloc | with_reducible apply IsOv.ov))) (Nat.le_succ _) 0 (.int .i64 l0)) (Nat.le_succ _) 1 (.int .i64 l1)) (Nat.le_succ _) 2 (.int .i64 l2)) (Nat.le_succ _) 3 (.int .i64 l3)) (Nat.le_succ _) 4 (.int .i64 l4)) (Nat.le_succ _) 5 (.int .i64 l5)) (Nat.le_succ _) 6 (.bool t))⟩
              · by_cases h2 : hiN k < v
                · have HV : Hid (lineR ⟨l0, l1, l2, l3, l4, l5, t⟩ s = (⟨l0, l1, l2, l3, l4, l5, t⟩, (k : Int), 221)) := Lib.hid ((lineR_num _ HT.out HI.out hn).trans (if_pos (.inr h2)))
                  clear hn
                  go_wp2_with (first | (go_at_call 34; refine (number_gives _ _ hez).mono ?_; rintro e w3 ⟨rfl, x3, rfl⟩; rw [HN.out]; unfold numRV) | (go_at_call 23; refine (bounds_gives _ k hk6).mono ?_; rintro e w4 ⟨rfl, x4, rfl⟩) | (go_at_call 35; refine (set_gives _ ⟨l0, l1, l2, l3, l4, l5, t⟩ k hk6 v).mono ?_; rintro e w5 ⟨rfl, x5, rfl⟩; rw [HQ.out]; unfold Cfg.val Cfg.cells))
                  exact bodyPost_ret (v := .tuple #[.agg #[.int .i64 l0, .int .i64 l1, .int .i64 l2, .int .i64 l3, .int .i64 l4, .int .i64 l5, .bool t], .int .i64 (k : Int), .int .i64 221]) (by simp [results, Tryd.results18, go_sem, ↓IntWalk.iteOmega, r0, r1, r2, r3, r4, r5, r6]) rfl ⟨by rw [HV.out]; rfl, (IsOv.setCellB (IsOv.setCellB (IsOv.setCellB (IsOv.setCellB (IsOv.setCellB (IsOv.setCellB (IsOv.setCellB (hov2w.trans (by repeat (first | with_reducible exact IsOv.refl _ | with_reducible apply IsOv.dr | with_reducible apply IsOv.drewN | with_reducible apply IsOv.drew | with_reducible apply IsOv.alloc | with_reducible apply IsOv.ov))) (Nat.le_succ _) 0 (.int .i64 l0)) (Nat.le_succ _) 1 (.int .i64 l1)) (Nat.le_succ _) 2 (.int .i64 l2)) (Nat.le_succ _) 3 (.int .i64 l3)) (Nat.le_succ _) 4 (.int .i64 l4)) (Nat.le_succ _) 5 (.int .i64 l5)) (Nat.le_succ _) 6 (.bool t))⟩
                · have HV : Hid (lineR ⟨l0, l1, l2, l3, l4, l5, t⟩ s = ((⟨l0, l1, l2, l3, l4, l5, t⟩ : Cfg).set k v, (k : Int), 0)) := Lib.hid ((lineR_num _ HT.out HI.out hn).trans (if_neg (by omega)))
                  clear hn
                  generalize hq : (⟨l0, l1, l2, l3, l4, l5, t⟩ : Cfg).set k v = q at HV
                  have HQ := Lib.hid hq
                  clear hq
                  obtain ⟨q0, q1, q2, q3, q4, q5, qt⟩ := q
                  go_wp2_with (first | (go_at_call 34; refine (number_gives _ _ hez).mono ?_; rintro e w3 ⟨rfl, x3, rfl⟩; rw [HN.out]; unfold numRV) | (go_at_call 23; refine (bounds_gives _ k hk6).mono ?_; rintro e w4 ⟨rfl, x4, rfl⟩) | (go_at_call 35; refine (set_gives _ ⟨l0, l1, l2, l3, l4, l5, t⟩ k hk6 v).mono ?_; rintro e w5 ⟨rfl, x5, rfl⟩; rw [HQ.out]; unfold Cfg.val Cfg.cells))
                  exact bodyPost_ret (v := .tuple #[.agg #[.int .i64 q0, .int .i64 q1, .int .i64 q2, .int .i64 q3, .int .i64 q4, .int .i64 q5, .bool qt], .int .i64 (k : Int), .int .i64 0]) (by simp [results, Tryd.results18, go_sem, ↓IntWalk.iteOmega, r0, r1, r2, r3, r4, r5, r6]) rfl ⟨by rw [HV.out]; rfl, (IsOv.setCellB (IsOv.setCellB (IsOv.setCellB (IsOv.setCellB (IsOv.setCellB (IsOv.setCellB (IsOv.setCellB (hov2w.trans (by repeat (first | with_reducible exact IsOv.refl _ | with_reducible apply IsOv.dr | with_reducible apply IsOv.drewN | with_reducible apply IsOv.drew | with_reducible apply IsOv.alloc | with_reducible apply IsOv.ov))) (Nat.le_succ _) 0 (.int .i64 q0)) (Nat.le_succ _) 1 (.int .i64 q1)) (Nat.le_succ _) 2 (.int .i64 q2)) (Nat.le_succ _) 3 (.int .i64 q3)) (Nat.le_succ _) 4 (.int .i64 q4)) (Nat.le_succ _) 5 (.int .i64 q5)) (Nat.le_succ _) 6 (.bool qt))⟩
      · obtain rfl : k = 6 := by omega
        have HV : Hid (lineR ⟨l0, l1, l2, l3, l4, l5, t⟩ s = (⟨l0, l1, l2, l3, l4, l5, t⟩, -1, 220)) := Lib.hid (lineR_form _ HT.out (idxR_none hall.out))
        have hcw := hov0.heap HCB.out
        have hrw := hov0.heap HRB.out
        have p0 : wr.cell? ⟨w.heap.size, 0, none⟩ = some (.int .i64 l0) := cell_of_heap hcw 0
        have r0 : wr.cell? ⟨w.heap.size + 1, 0, none⟩ = some (.int .i64 0) := cell_of_heap hrw 0
        have rf0 := frozen_of_heap hrw 0
        have p1 : wr.cell? ⟨w.heap.size, 1, none⟩ = some (.int .i64 l1) := cell_of_heap hcw 1
        have r1 : wr.cell? ⟨w.heap.size + 1, 1, none⟩ = some (.int .i64 0) := cell_of_heap hrw 1
        have rf1 := frozen_of_heap hrw 1
        have p2 : wr.cell? ⟨w.heap.size, 2, none⟩ = some (.int .i64 l2) := cell_of_heap hcw 2
        have r2 : wr.cell? ⟨w.heap.size + 1, 2, none⟩ = some (.int .i64 0) := cell_of_heap hrw 2
        have rf2 := frozen_of_heap hrw 2
        have p3 : wr.cell? ⟨w.heap.size, 3, none⟩ = some (.int .i64 l3) := cell_of_heap hcw 3
        have r3 : wr.cell? ⟨w.heap.size + 1, 3, none⟩ = some (.int .i64 0) := cell_of_heap hrw 3
        have rf3 := frozen_of_heap hrw 3
        have p4 : wr.cell? ⟨w.heap.size, 4, none⟩ = some (.int .i64 l4) := cell_of_heap hcw 4
        have r4 : wr.cell? ⟨w.heap.size + 1, 4, none⟩ = some (.int .i64 0) := cell_of_heap hrw 4
        have rf4 := frozen_of_heap hrw 4
        have p5 : wr.cell? ⟨w.heap.size, 5, none⟩ = some (.int .i64 l5) := cell_of_heap hcw 5
        have r5 : wr.cell? ⟨w.heap.size + 1, 5, none⟩ = some (.int .i64 0) := cell_of_heap hrw 5
        have rf5 := frozen_of_heap hrw 5
        have p6 : wr.cell? ⟨w.heap.size, 6, none⟩ = some (.bool t) := cell_of_heap hcw 6
        have r6 : wr.cell? ⟨w.heap.size + 1, 6, none⟩ = some (.bool false) := cell_of_heap hrw 6
        have rf6 := frozen_of_heap hrw 6
        clear hcw hrw hall
        go_wp2_with (fail)
        exact bodyPost_ret (v := .tuple #[.agg #[.int .i64 l0, .int .i64 l1, .int .i64 l2, .int .i64 l3, .int .i64 l4, .int .i64 l5, .bool t], .int .i64 (-1), .int .i64 220]) (by simp [results, Tryd.results18, go_sem, ↓IntWalk.iteOmega, r0, r1, r2, r3, r4, r5, r6]) rfl ⟨by rw [HV.out]; rfl, (IsOv.setCellB (IsOv.setCellB (IsOv.setCellB (IsOv.setCellB (IsOv.setCellB (IsOv.setCellB (IsOv.setCellB (hov) (Nat.le_succ _) 0 (.int .i64 l0)) (Nat.le_succ _) 1 (.int .i64 l1)) (Nat.le_succ _) 2 (.int .i64 l2)) (Nat.le_succ _) 3 (.int .i64 l3)) (Nat.le_succ _) 4 (.int .i64 l4)) (Nat.le_succ _) 5 (.int .i64 l5)) (Nat.le_succ _) 6 (.bool t))⟩
  · have HT := Lib.hid ht
    have ht2 : (s.toList == [116, 117, 114, 110, 101, 100]) = true := ht
    clear ht
    have HV : Hid (lineR ⟨l0, l1, l2, l3, l4, l5, t⟩ s = (⟨l0, l1, l2, l3, l4, l5, true⟩, 6, 0)) := Lib.hid (lineR_turned _ HT.out)
    generalize hcv : (Cfg.val ⟨l0, l1, l2, l3, l4, l5, t⟩) = cv
    have hcv2 : cv = .agg #[.int .i64 l0, .int .i64 l1, .int .i64 l2, .int .i64 l3, .int .i64 l4, .int .i64 l5, .bool t] := hcv.symm
    subst hcv2
    clear hcv
    go_enter Tryd.func18, Tryd.ntmps18
    go_wp2_with fail
    exact bodyPost_ret (v := .tuple #[.agg #[.int .i64 l0, .int .i64 l1, .int .i64 l2, .int .i64 l3, .int .i64 l4, .int .i64 l5, .bool true], .int .i64 6, .int .i64 0]) (by simp [results, Tryd.results18, go_sem, ↓IntWalk.iteOmega]) rfl ⟨by rw [HV.out]; rfl, ((IsOv.refl w).alloc _).alloc _⟩
end Go.Proofs.YtaibjaienhnckaaDoor
