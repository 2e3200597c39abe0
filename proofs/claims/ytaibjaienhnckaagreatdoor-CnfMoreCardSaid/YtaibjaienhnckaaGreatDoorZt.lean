/- Layer 6: awake: what the chapter's examples fix, holds. Condition: the listed variables lie as the program lays them. -/
import Derived.Test.YtaibjaienhnckaaGreatDoorZs
import Derived.Test.YtaibjaienhnckaaGreatDoorZl
set_option linter.unusedVariables false
set_option linter.unusedSimpArgs false
namespace Go.Proofs.YtaibjaienhnckaaGreatDoor
open Go.RowKit Go.Proofs.YtaibjaienhnckaaGreatDoorW.PrintWords Go.Proofs.YtaibjaienhnckaaGreatDoorW.PrintLast Go.Proofs.YtaibjaienhnckaaGreatDoorW.PrintMore Go.Proofs.YtaibjaienhnckaaGreatDoor.PCnfFollows
/-- A row that a walk has laid. -/
theorem row_lit {w : World} {b : Nat} {xs : List Int} {t : TypeId} {cs : Array Value} (h : w.heap[b]? = some (.cells cs t (0, 0))) (hcs : cs = (xs.map (Value.int .i64)).toArray) : rowAt w (.slice (some ⟨b, 0, none⟩) xs.length xs.length) xs := by
  subst hcs
  refine .inr ⟨b, xs.length, rfl, Nat.le_refl _, fun j hj => ?_⟩
  rw [Nat.zero_add, cell_of_heap h, ← Array.getElem?_toList]
  simp [List.getD, List.getElem?_eq_getElem hj]
theorem C_of_row {w : World} {A : Option Addr} {n cap : Nat} {xs : List Int} (h : rowAt w (.slice A n cap) xs) (hl : xs.length ≤ 1000) : Kd.C (Kd.int .i64) w A xs.length xs ∧ n = xs.length ∧ xs.length ≤ cap := by
  obtain ⟨A2, cap2, e, hc, hC⟩ := rowAt_C h hl
  injection e with e1 e2 e3
  subst e1 e2 e3
  exact ⟨hC, rfl, hc⟩
theorem restEx : restsOk [⟨#[49, 32, 45, 50, 32, 48, 10, 50, 32, 51, 32, 48, 10]⟩, ⟨#[50, 32, 51, 32, 48, 10]⟩, ⟨#[]⟩] [[1, -2], [2, 3]] := by
  refine ⟨rfl, fun i hi => ?_, rfl, fun i hi => ?_⟩
  · have hi3 : i < 3 := hi
    obtain rfl | rfl | rfl : i = 0 ∨ i = 1 ∨ i = 2 := by omega
    · show 13 ≤ 65536; decide
    · show 6 ≤ 65536; decide
    · show 0 ≤ 65536; decide
  · have hi2 : i < 2 := hi
    obtain rfl | rfl : i = 0 ∨ i = 1 := by omega
    · refine ⟨fun h => absurd (congrArg ByteArray.size h) (by decide), by kernel_rfl, by kernel_rfl, ⟨by decide, by kernel_rfl, by kernel_rfl, ?_⟩⟩
      intro n hn
      have hn2 : n ∈ ([1, -2, 0] : List Int) := hn
      simp only [List.mem_cons, List.mem_nil_iff, or_false] at hn2
      rcases hn2 with rfl | rfl | rfl
      · exact ⟨of_decide_eq_true (by kernel_rfl), by kernel_rfl⟩
      · exact ⟨of_decide_eq_true (by kernel_rfl), by kernel_rfl⟩
      · exact ⟨of_decide_eq_true (by kernel_rfl), by kernel_rfl⟩
    · refine ⟨fun h => absurd (congrArg ByteArray.size h) (by decide), by kernel_rfl, by kernel_rfl, ⟨by decide, by kernel_rfl, by kernel_rfl, ?_⟩⟩
      intro n hn
      have hn2 : n ∈ ([2, 3, 0] : List Int) := hn
      simp only [List.mem_cons, List.mem_nil_iff, or_false] at hn2
      rcases hn2 with rfl | rfl | rfl
      · exact ⟨of_decide_eq_true (by kernel_rfl), by kernel_rfl⟩
      · exact ⟨of_decide_eq_true (by kernel_rfl), by kernel_rfl⟩
      · exact ⟨of_decide_eq_true (by kernel_rfl), by kernel_rfl⟩
theorem showEx : showF [[1, -2], [2, 3]] = [49, 32, 45, 50, 32, 48, 10, 50, 32, 51, 32, 48, 10] := by kernel_rfl
theorem sortEx : sortedF (some [-1, -2, 3]) = [-2, -1, 3] := by
  simp [sortedF, List.mergeSort, List.MergeSort.Internal.splitInTwo]
theorem tidyEx1 : tidyF [2, 3] = [2, 3] := by
  unfold tidyF; simp [List.mergeSort, List.MergeSort.Internal.splitInTwo]; decide
theorem tidyEx2 : tidyF [-2, 1] = [-2, 1] := by
  unfold tidyF; simp [List.mergeSort, List.MergeSort.Internal.splitInTwo]; decide
theorem tidyEx3 : tidyF [3, 1] = [1, 3] := by
  unfold tidyF; simp [List.mergeSort, List.MergeSort.Internal.splitInTwo]; decide
theorem resEx : resolveF [2, 3] [-2, 1] 2 = some [1, 3] := by
  unfold resolveF cleanF
  rw [show (([2, 3] ++ [-2, 1] : List Int).filter fun n => decide (n ≠ 2 ∧ n ≠ -2)) = [3, 1] by decide, tidyEx1, tidyEx2, tidyEx3]
  decide
theorem smEx1 : smallAll [[1, -2], [2, 3]] := by
  show ∀ c ∈ ([[1, -2], [2, 3]] : List (List Int)), c.length ≤ 1000 ∧ ∀ n ∈ c, -1048576 ≤ n ∧ n ≤ 1048576
  decide
theorem smEx2 : small [-1] := by
  show ∀ n ∈ ([-1] : List Int), -1048576 ≤ n ∧ n ≤ 1048576
  decide
theorem smEx3 : small [2, 3] := by
  show ∀ n ∈ ([2, 3] : List Int), -1048576 ≤ n ∧ n ≤ 1048576
  decide
theorem smEx4 : small [-2, 1] := by
  show ∀ n ∈ ([-2, 1] : List Int), -1048576 ≤ n ∧ n ≤ 1048576
  decide
set_option maxRecDepth 20000 in
set_option maxHeartbeats 1000000 in
theorem awake_gives (w : World) (hZ : LaidZ w) : Gives Tryz.prog 10 #[] w (.bool true) := by
  unfold Gives
  go_enter Tryz.func10, Tryz.ntmps10
  go_wp2_with fail
  have hC0 : Kd.C (Kd.slice 3 (Kd.int .i64)) (((w.alloc (.cells #[.int .i64 1, .int .i64 (-2)] 3)).alloc (.cells #[.int .i64 2, .int .i64 3] 3)).alloc (.cells #[.slice (some ⟨w.heap.size, 0, none⟩) 2 2, .slice (some ⟨w.heap.size + 1, 0, none⟩) 2 2] 23)) (some ⟨w.heap.size + 1 + 1, 0, none⟩) 2 [[1, -2], [2, 3]] := by
    have h0 : (((w.alloc (.cells #[.int .i64 1, .int .i64 (-2)] 3)).alloc (.cells #[.int .i64 2, .int .i64 3] 3)).alloc (.cells #[.slice (some ⟨w.heap.size, 0, none⟩) 2 2, .slice (some ⟨w.heap.size + 1, 0, none⟩) 2 2] 23)).heap[w.heap.size]? = some (.cells #[.int .i64 1, .int .i64 (-2)] 3) := (((IsOv.refl _).alloc _).alloc _).heap (heap_alloc_new w _)
    have h1 : (((w.alloc (.cells #[.int .i64 1, .int .i64 (-2)] 3)).alloc (.cells #[.int .i64 2, .int .i64 3] 3)).alloc (.cells #[.slice (some ⟨w.heap.size, 0, none⟩) 2 2, .slice (some ⟨w.heap.size + 1, 0, none⟩) 2 2] 23)).heap[w.heap.size + 1]? = some (.cells #[.int .i64 2, .int .i64 3] 3) := ((IsOv.refl _).alloc _).heap (by have := heap_alloc_new (w.alloc (.cells #[.int .i64 1, .int .i64 (-2)] 3)) (.cells #[.int .i64 2, .int .i64 3] 3); simpa using this)
    have h2 : (((w.alloc (.cells #[.int .i64 1, .int .i64 (-2)] 3)).alloc (.cells #[.int .i64 2, .int .i64 3] 3)).alloc (.cells #[.slice (some ⟨w.heap.size, 0, none⟩) 2 2, .slice (some ⟨w.heap.size + 1, 0, none⟩) 2 2] 23)).heap[w.heap.size + 1 + 1]? = some (.cells #[.slice (some ⟨w.heap.size, 0, none⟩) 2 2, .slice (some ⟨w.heap.size + 1, 0, none⟩) 2 2] 23) := (by have := heap_alloc_new ((w.alloc (.cells #[.int .i64 1, .int .i64 (-2)] 3)).alloc (.cells #[.int .i64 2, .int .i64 3] 3)) (.cells #[.slice (some ⟨w.heap.size, 0, none⟩) 2 2, .slice (some ⟨w.heap.size + 1, 0, none⟩) 2 2] 23); simpa using this)
    exact pair_C (a := [1, -2]) (b := [2, 3]) (Nat.le_refl _) (Nat.le_refl _) (C_of_row (row_lit (xs := [1, -2]) h0 rfl) (by decide)).1 (C_of_row (row_lit (xs := [2, 3]) h1 rfl) (by decide)).1 (cell_of_heap h2 0) (cell_of_heap h2 1)
  have hov0 : IsOv w (((w.alloc (.cells #[.int .i64 1, .int .i64 (-2)] 3)).alloc (.cells #[.int .i64 2, .int .i64 3] 3)).alloc (.cells #[.slice (some ⟨w.heap.size, 0, none⟩) 2 2, .slice (some ⟨w.heap.size + 1, 0, none⟩) 2 2] 23)) := (((IsOv.refl _).alloc _).alloc _).alloc _
  generalize (((w.alloc (.cells #[.int .i64 1, .int .i64 (-2)] 3)).alloc (.cells #[.int .i64 2, .int .i64 3] 3)).alloc (.cells #[.slice (some ⟨w.heap.size, 0, none⟩) 2 2, .slice (some ⟨w.heap.size + 1, 0, none⟩) 2 2] 23)) = w0 at *
  have HC0 := Lib.hid hC0
  clear hC0
  have hsm : ∀ c ∈ ([[1, -2], [2, 3]] : List (List Int)), c.length ≤ 100 ∧ ∀ n ∈ c, -1048576 ≤ n ∧ n ≤ 1048576 := by decide
  have HSM := Lib.hid hsm
  clear hsm
  refine Calls.mono (Show_calls w0 (some ⟨w.heap.size + 1 + 1, 0, none⟩) 2 [[1, -2], [2, 3]] HC0.out (by decide) (by decide) (fun c hc => ⟨(HSM.out c hc).1, fun n hn => by have := (HSM.out c hc).2 n hn; omega⟩) (by decide) (by rw [showEx]; decide) (hZ.of_isOv hov0)) ?_
  rintro e w1 ⟨rfl, hov1⟩
  rw [showEx]
  have HC1 := Lib.hid (Kd.C_below HC0.out hov1.below)
  have hov1w := hov0.trans hov1
  clear HC0 hov1 hov0
  go_wp2_with fail
  refine Calls.mono (Read_calls w1 _ _ [[1, -2], [2, 3]] restEx rfl (by decide) (by decide) (hZ.of_isOv hov1w)) ?_
  rintro e w2 ⟨vm, rfl, hRm, hb2⟩
  obtain ⟨Am, cm, rfl, hcm, hCm⟩ := Kd.R_reads hRm
  have HC2 := Lib.hid (Kd.C_below HC1.out hb2)
  have HM2 := Lib.hid hCm
  have hov2w := hov1w.trans (IsOv.of_below hb2)
  clear HC1 hb2 hov1w hRm hCm
  go_wp2_with fail
  have hS2 := Lib.hid (C_of_row (row_lit (xs := [-1]) (heap_alloc_new w2 (.cells #[.int .i64 (-1)] 3)) rfl) (by decide)).1
  have hC3 := Lib.hid (Kd.C_below HC2.out ((IsOv.refl w2).alloc (.cells #[.int .i64 (-1)] 3)).below)
  have hM3 := Lib.hid (Kd.C_below HM2.out ((IsOv.refl w2).alloc (.cells #[.int .i64 (-1)] 3)).below)
  have hov3 := hov2w.alloc (.cells #[.int .i64 (-1)] 3)
  generalize w2.alloc (.cells #[.int .i64 (-1)] 3) = w3 at *
  clear HC2 HM2 hov2w
  refine Calls.mono (Spread_calls w3 _ _ 2 1 [[1, -2], [2, 3]] [-1] hC3.out hS2.out (Nat.le_refl _) (Nat.le_refl _) (by decide) (by decide) smEx1 smEx2 10 (some [-1, -2, 3]) (by kernel_rfl) (by rw [sortEx]; decide)) ?_
  rintro e w4 ⟨va, rfl, hRa, hb4⟩
  rw [sortEx] at hRa
  obtain ⟨Aa, ca, rfl, hca, hCa⟩ := Kd.R_reads hRa
  have HC4 := Lib.hid (Kd.C_below hC3.out hb4)
  have HM4 := Lib.hid (Kd.C_below hM3.out hb4)
  have HA4 := Lib.hid hCa
  have hov4 := hov3.trans (IsOv.of_below hb4)
  clear hS2 hC3 hM3 hov3 hRa hCa hb4
  go_wp2_with fail
  have hX := row_lit (xs := [2, 3]) (((IsOv.refl _).alloc (.cells #[.int .i64 (-2), .int .i64 1] 3)).heap (heap_alloc_new w4 (.cells #[.int .i64 2, .int .i64 3] 3))) rfl
  have hY := row_lit (w := (w4.alloc (.cells #[.int .i64 2, .int .i64 3] 3)).alloc (.cells #[.int .i64 (-2), .int .i64 1] 3)) (b := w4.heap.size + 1) (xs := [-2, 1]) (t := 3) (cs := #[.int .i64 (-2), .int .i64 1]) (by have := heap_alloc_new (w4.alloc (.cells #[.int .i64 2, .int .i64 3] 3)) (.cells #[.int .i64 (-2), .int .i64 1] 3); simpa using this) rfl
  have hov5 : IsOv w4 ((w4.alloc (.cells #[.int .i64 2, .int .i64 3] 3)).alloc (.cells #[.int .i64 (-2), .int .i64 1] 3)) := ((IsOv.refl w4).alloc _).alloc _
  generalize (w4.alloc (.cells #[.int .i64 2, .int .i64 3] 3)).alloc (.cells #[.int .i64 (-2), .int .i64 1] 3) = w5 at *
  have HC5 := Lib.hid (Kd.C_below HC4.out hov5.below)
  have HM5 := Lib.hid (Kd.C_below HM4.out hov5.below)
  have HA5 := Lib.hid (Kd.C_below HA4.out hov5.below)
  have hov5w := hov4.trans hov5
  clear HC4 HM4 HA4 hov4 hov5
  refine Calls.mono (Resolve_calls w5 _ _ [2, 3] [-2, 1] 2 hX hY (by decide) (by decide) smEx3 smEx4 (by decide) (by decide)) ?_
  rw [resEx]
  rintro e w6 ⟨vb, rfl, hRb, hb6⟩
  have hRb2 : Kd.R (Kd.int .i64) 3 w6 w5.heap.size (fun _ => True) vb [1, 3] := hRb
  obtain ⟨Ab, cb, rfl, hcb, hCb⟩ := Kd.R_reads hRb2
  have HC6 := Lib.hid (Kd.C_below HC5.out hb6)
  have HM6 := Lib.hid (Kd.C_below HM5.out hb6)
  have HA6 := Lib.hid (Kd.C_below HA5.out hb6)
  have HB6 := Lib.hid hCb
  have hov6 := hov5w.trans (IsOv.of_below hb6)
  clear HC5 HM5 HA5 hov5w hX hY hRb hRb2 hCb hb6
  go_wp2_with fail
  refine Calls.mono (skuaref06_SameAll.calls 10 Am cm [[1, -2], [2, 3]] (some ⟨w.heap.size + 1 + 1, 0, none⟩) 2 [[1, -2], [2, 3]] true w6 HM6.out hcm HC6.out (Nat.le_refl _) (by kernel_rfl)) ?_
  rintro e w7 ⟨rfl, hd7⟩
  have HC7 := Lib.hid (Kd.C_below HC6.out hd7.below)
  have HA7 := Lib.hid (Kd.C_below HA6.out hd7.below)
  have HB7 := Lib.hid (Kd.C_below HB6.out hd7.below)
  have hov7 := hov6.trans (IsOv.of_below hd7.below)
  clear HC6 HM6 HA6 HB6 hov6 hd7
  go_wp2_with fail
  have hl8 := C_of_row (row_lit (xs := [-2, -1, 3]) (heap_alloc_new w7 (.cells #[.int .i64 (-2), .int .i64 (-1), .int .i64 3] 3)) rfl) (by decide)
  have hov8 : IsOv w7 (w7.alloc (.cells #[.int .i64 (-2), .int .i64 (-1), .int .i64 3] 3)) := (IsOv.refl w7).alloc _
  generalize w7.alloc (.cells #[.int .i64 (-2), .int .i64 (-1), .int .i64 3] 3) = w8 at *
  refine Calls.mono (skuaref06_Same.calls 10 Aa ca [-2, -1, 3] _ 3 [-2, -1, 3] true w8 (Kd.C_below HA7.out hov8.below) hca hl8.1 (Nat.le_refl _) (by kernel_rfl)) ?_
  rintro e w9 ⟨rfl, hd9⟩
  have hov97 := hov8.trans (IsOv.of_below hd9.below)
  have HC9 := Lib.hid (Kd.C_below HC7.out hov97.below)
  have HB9 := Lib.hid (Kd.C_below HB7.out hov97.below)
  have hov9 := hov7.trans hov97
  clear HC7 HA7 HB7 hov7 hov8 hov97 hl8 hd9
  go_wp2_with fail
  have hl10 := C_of_row (row_lit (xs := [1, 3]) (heap_alloc_new w9 (.cells #[.int .i64 1, .int .i64 3] 3)) rfl) (by decide)
  have hov10 : IsOv w9 (w9.alloc (.cells #[.int .i64 1, .int .i64 3] 3)) := (IsOv.refl w9).alloc _
  generalize w9.alloc (.cells #[.int .i64 1, .int .i64 3] 3) = w10 at *
  refine Calls.mono (skuaref06_Same.calls 10 Ab cb [1, 3] _ 2 [1, 3] true w10 (Kd.C_below HB9.out hov10.below) hcb hl10.1 (Nat.le_refl _) (by kernel_rfl)) ?_
  rintro e w11 ⟨rfl, hd11⟩
  have hov119 := hov10.trans (IsOv.of_below hd11.below)
  have HC11 := Lib.hid (Kd.C_below HC9.out hov119.below)
  have hov11 := hov9.trans hov119
  clear HC9 HB9 hov9 hov10 hov119 hl10 hd11
  go_wp2_with fail
  refine Calls.mono (cnf_Most.calls 20 (some ⟨w.heap.size + 1 + 1, 0, none⟩) 2 [[1, -2], [2, 3]] 3 w11 HC11.out (Nat.le_refl _) (by kernel_rfl)) ?_
  rintro e w12 ⟨rfl, hb12⟩
  have HC12 := Lib.hid (Kd.C_below HC11.out hb12)
  have hov12 := hov11.trans (IsOv.of_below hb12)
  clear HC11 hov11 hb12
  go_wp2_with fail
  have hl13 := row_lit (xs := [1, 3]) (heap_alloc_new w12 (.cells #[.int .i64 1, .int .i64 3] 3)) rfl
  have hov13 : IsOv w12 (w12.alloc (.cells #[.int .i64 1, .int .i64 3] 3)) := (IsOv.refl w12).alloc _
  generalize w12.alloc (.cells #[.int .i64 1, .int .i64 3] 3) = w13 at *
  refine Calls.mono (Holds_calls w13 (some ⟨w.heap.size + 1 + 1, 0, none⟩) 2 [[1, -2], [2, 3]] _ [1, 3] (Kd.C_below HC12.out hov13.below) (Nat.le_refl _) (by decide) (by decide) hl13 (by decide)) ?_
  rw [show holdsF [[1, -2], [2, 3]] [1, 3] = true by kernel_rfl]
  rintro e w14 ⟨rfl, hov14⟩
  have hov1412 := hov13.trans hov14
  have HC14 := Lib.hid (Kd.C_below HC12.out hov1412.below)
  have hov14w := hov12.trans hov1412
  clear HC12 hov12 hov13 hov14 hov1412 hl13
  go_wp2_with fail
  refine Calls.mono (Check_calls w14 (some ⟨w.heap.size + 1 + 1, 0, none⟩) 2 [[1, -2], [2, 3]] HC14.out (Nat.le_refl _) (by decide) (fun c hc => ⟨by have := (HSM.out c hc).1; omega, fun n hn => by have := (HSM.out c hc).2 n hn; omega⟩)) ?_
  rw [show checkE [[1, -2], [2, 3]] = 0 by kernel_rfl]
  rintro e w15 ⟨rfl, rfl⟩
  go_wp2_with fail
  exact bodyPost_ret (v := .bool true) (by simp [results, Tryz.results10, go_sem, ↓IntWalk.iteOmega]) rfl ⟨rfl, hov14w⟩
end Go.Proofs.YtaibjaienhnckaaGreatDoor
