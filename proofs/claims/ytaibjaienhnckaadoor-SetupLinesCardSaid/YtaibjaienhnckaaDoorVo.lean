/- Layer 22: SetupLines answers true. Condition: the listed variables lie as the program lays them. -/
import Derived.Test.YtaibjaienhnckaaDoorVl
import Derived.Test.YtaibjaienhnckaaDoorTc
set_option linter.unusedVariables false
set_option linter.unusedSimpArgs false
namespace Go.Proofs.YtaibjaienhnckaaDoor
open Go.RowKit
/-- The texts so far, and turned. -/
def joinN (l : List ByteArray) : List UInt8 := (l.map (·.data.toList)).flatMap fun x => x ++ [10]
def joinR (l : List ByteArray) : List UInt8 := (l.map (·.data.toList)).reverse.flatMap fun x => x ++ [10]
theorem joinN_snoc {l : List ByteArray} {A x : ByteArray} (h : A.data.toList = joinN l) : (A ++ x ++ ⟨#[10]⟩ : ByteArray).data.toList = joinN (l ++ [x]) := by
  simp [joinN, ByteArray.data_append, h]
theorem joinR_snoc {l : List ByteArray} {B x : ByteArray} (h : B.data.toList = joinR l) : (x ++ ⟨#[10]⟩ ++ B : ByteArray).data.toList = joinR (l ++ [x]) := by
  simp [joinR, ByteArray.data_append, h]
theorem take_snoc {l : List ByteArray} {i : Nat} (h : i < l.length) : l.take (i + 1) = l.take i ++ [l.getD i ByteArray.empty] := by
  rw [List.take_add_one, List.getElem?_eq_getElem h]
  simp [List.getD, h]
theorem joined_read {l : List ByteArray} {A B : ByteArray} (hA : A.data.toList = joinN l) (hB : B.data.toList = joinR l) : ∃ (c : Cfg) (n m : Nat) (e f : Int), readF (A.size + 1) Cfg.usual [] 1 A.data.toList = some (c, n, e) ∧ readF (B.size + 1) Cfg.usual [] 1 B.data.toList = some (c, m, f) ∧ ((e == 0) = (f == 0)) := by
  obtain ⟨r, hr⟩ := readF_ends (A.size + 1) Cfg.usual [] 1 A.data.toList (by rw [Array.length_toList]; exact Nat.lt_succ_self _)
  obtain ⟨q, hq⟩ := readF_ends (B.size + 1) Cfg.usual [] 1 B.data.toList (by rw [Array.length_toList]; exact Nat.lt_succ_self _)
  have hAz : A.size = A.data.toList.length := Array.length_toList.symm
  have hBz : B.size = B.data.toList.length := Array.length_toList.symm
  have := lines_any (l.map fun x : ByteArray => x.data.toList) A.data.toList B.data.toList hA hB r q (by rw [← hAz]; exact hr) (by rw [← hBz]; exact hq)
  obtain ⟨h1, h2⟩ := this
  obtain ⟨c, n, e⟩ := r
  obtain ⟨d, m, f⟩ := q
  simp only at h1 h2
  subst h2
  refine ⟨c, n, m, e, f, hr, hq, ?_⟩
  rw [Bool.eq_iff_iff, beq_iff_eq, beq_iff_eq]
  exact h1
set_option maxRecDepth 100000 in
set_option maxHeartbeats 1000000 in
theorem SetupLines_some (w : World) (a : Addr) (cap : Nat) (ss : List ByteArray) (hc : ∀ i, i < ss.length → w.cell? (a.add i) = some (.string (ss.getD i ByteArray.empty))) (hS : LaidS w) : Gives Tryd.prog 4 #[.slice (some a) ss.length cap] w (.bool true) := by
  unfold Gives
  go_enter Tryd.func4, Tryd.ntmps4
  have HC := Lib.hid hc
  clear hc
  by_cases hbig : 7 < ss.length
  · go_wp2_with (go_at_call 6; refine Calls.mono (awake_gives _ ?_) ?_; exact (hS.of_isOv (by repeat (first | with_reducible exact IsOv.refl _ | with_reducible apply IsOv.dr | with_reducible apply IsOv.drewN | with_reducible apply IsOv.drew | with_reducible apply IsOv.alloc | with_reducible apply IsOv.ov))); rintro e w' ⟨rfl, x9, rfl⟩)
    exact bodyPost_ret (v := .bool true) (by simp [results, Tryd.results4, go_sem, ↓IntWalk.iteOmega]) rfl ⟨rfl, by repeat (first | with_reducible exact IsOv.refl _ | with_reducible apply IsOv.dr | with_reducible apply IsOv.drewN | with_reducible apply IsOv.drew | with_reducible apply IsOv.alloc | with_reducible apply IsOv.ov)⟩
  · go_wp2_with fail
    go_loopw [3, 4, 5] (fun av bv iv wr => ∃ (i : Nat) (A B : ByteArray), av = .string A ∧ bv = .string B ∧ iv = .int .i64 (i : Int) ∧ i ≤ ss.length ∧ A.size ≤ 51 * i ∧ B.size ≤ 51 * i ∧ Hid (A.data.toList = joinN (ss.take i)) ∧ Hid (B.data.toList = joinR (ss.take i)) ∧ wr = w) (fun av bv iv wr => (ss.length - intOf iv).toNat)
    case atStart => exact ⟨0, ⟨#[]⟩, ⟨#[]⟩, rfl, rfl, rfl, Nat.zero_le _, Nat.le_refl _, Nat.le_refl _, Lib.hid rfl, Lib.hid rfl, rfl⟩
    case round =>
      obtain ⟨i, A, B, rfl, rfl, rfl, hi, hAz, hBz, hA, hB, rfl⟩ := hrel
      by_cases hin : i < ss.length
      · have hx := HC.out i hin
        have hNA := Lib.hid ((joinN_snoc (x := ss.getD i ByteArray.empty) hA.out).trans (by rw [← take_snoc hin]))
        have hNB := Lib.hid ((joinR_snoc (x := ss.getD i ByteArray.empty) hB.out).trans (by rw [← take_snoc hin]))
        generalize ss.getD i ByteArray.empty = x at *
        clear hA hB
        by_cases hxl : 50 < x.size
        · go_wp2_with (go_at_call 6; refine Calls.mono (awake_gives _ ?_) ?_; exact (hS.of_isOv (by repeat (first | with_reducible exact IsOv.refl _ | with_reducible apply IsOv.dr | with_reducible apply IsOv.drewN | with_reducible apply IsOv.drew | with_reducible apply IsOv.alloc | with_reducible apply IsOv.ov))); rintro e w' ⟨rfl, x9, rfl⟩)
          exact bodyPost_ret (v := .bool true) (by simp [results, Tryd.results4, go_sem, ↓IntWalk.iteOmega]) rfl ⟨rfl, by repeat (first | with_reducible exact IsOv.refl _ | with_reducible apply IsOv.dr | with_reducible apply IsOv.drewN | with_reducible apply IsOv.drew | with_reducible apply IsOv.alloc | with_reducible apply IsOv.ov)⟩
        · have hxl2 : x.size ≤ 50 := by omega
          have e10 : (⟨#[10]⟩ : ByteArray).size = 1 := rfl
          have g1 : (A ++ x ++ ⟨#[10]⟩ : ByteArray).size ≤ 51 * (i + 1) := by rw [ByteArray.size_append, ByteArray.size_append, e10]; omega
          have g2 : (x ++ ⟨#[10]⟩ ++ B : ByteArray).size ≤ 51 * (i + 1) := by rw [ByteArray.size_append, ByteArray.size_append, e10]; omega
          go_wp2_with fail
          go_roundw
          case rel => exact ⟨i + 1, A ++ x ++ ⟨#[10]⟩, x ++ ⟨#[10]⟩ ++ B, rfl, rfl, by go_num, by omega, g1, g2, hNA, hNB, trivial⟩
          case measure => simp [intOf]; omega
      · obtain rfl : i = ss.length := by omega
        have hA2 := hA.out
        have hB2 := hB.out
        rw [List.take_of_length_le (Nat.le_refl _)] at hA2 hB2
        obtain ⟨⟨c0, c1, c2, c3, c4, c5, c6⟩, n, m, e1, f1, h1, h2, h3⟩ := joined_read hA2 hB2
        have HR := Lib.hid h1
        have HR2 := Lib.hid h2
        clear hA hB hA2 hB2 h1 h2 HC
        go_wp2_with fail
        refine Calls.mono (Read_calls wr A hS.v (by omega) _ HR.out) ?_
        rintro e w1 ⟨rfl, hov1⟩
        simp only [Cfg.val, Cfg.cells]
        go_wp2_with fail
        refine Calls.mono (Read_calls _ B ?_ (by omega) _ HR2.out) ?_
        · exact (hS.of_isOv (hov1.alloc _)).v
        rintro e w2 ⟨rfl, hov2⟩
        have hc2 : w2.heap[w1.heap.size]? = some (.cells #[.int .i64 c0, .int .i64 c1, .int .i64 c2, .int .i64 c3, .int .i64 c4, .int .i64 c5, .bool c6] 24) := hov2.heap (heap_alloc_new w1 _)
        have hov2w : IsOv wr w2 := hov1.trans (((IsOv.refl w1).alloc _).trans hov2)
        have hz2 : w1.heap.size < w2.heap.size := lt_of_heap hc2
        have p0 : w2.cell? ⟨w1.heap.size, 0, none⟩ = some (.int .i64 c0) := cell_of_heap hc2 0
        have p1 : w2.cell? ⟨w1.heap.size, 1, none⟩ = some (.int .i64 c1) := cell_of_heap hc2 1
        have p2 : w2.cell? ⟨w1.heap.size, 2, none⟩ = some (.int .i64 c2) := cell_of_heap hc2 2
        have p3 : w2.cell? ⟨w1.heap.size, 3, none⟩ = some (.int .i64 c3) := cell_of_heap hc2 3
        have p4 : w2.cell? ⟨w1.heap.size, 4, none⟩ = some (.int .i64 c4) := cell_of_heap hc2 4
        have p5 : w2.cell? ⟨w1.heap.size, 5, none⟩ = some (.int .i64 c5) := cell_of_heap hc2 5
        have p6 : w2.cell? ⟨w1.heap.size, 6, none⟩ = some (.bool c6) := cell_of_heap hc2 6
        clear hov2 hc2
        simp only [Cfg.val, Cfg.cells]
        cases he : (e1 == 0)
        · rw [he] at h3
          have h4 : (f1 == 0) = false := h3.symm
          clear h3
          go_wp2_with (go_at_call 6; refine Calls.mono (awake_gives _ ?_) ?_; exact (hS.of_isOv (hov2w.trans (by repeat (first | with_reducible exact IsOv.refl _ | with_reducible apply IsOv.dr | with_reducible apply IsOv.drewN | with_reducible apply IsOv.drew | with_reducible apply IsOv.alloc | with_reducible apply IsOv.ov)))); rintro e w' ⟨rfl, x9, rfl⟩)
          exact bodyPost_ret (v := .bool true) (by simp [results, Tryd.results4, go_sem, ↓IntWalk.iteOmega]) rfl ⟨rfl, hov2w.trans (by repeat (first | with_reducible exact IsOv.refl _ | with_reducible apply IsOv.dr | with_reducible apply IsOv.drewN | with_reducible apply IsOv.drew | with_reducible apply IsOv.alloc | with_reducible apply IsOv.ov))⟩
        · rw [he] at h3
          have h4 : (f1 == 0) = true := h3.symm
          clear h3
          go_wp2_with (go_at_call 6; refine Calls.mono (awake_gives _ ?_) ?_; exact (hS.of_isOv (hov2w.trans (by repeat (first | with_reducible exact IsOv.refl _ | with_reducible apply IsOv.dr | with_reducible apply IsOv.drewN | with_reducible apply IsOv.drew | with_reducible apply IsOv.alloc | with_reducible apply IsOv.ov)))); rintro e w' ⟨rfl, x9, rfl⟩)
          exact bodyPost_ret (v := .bool true) (by simp [results, Tryd.results4, go_sem, ↓IntWalk.iteOmega]) rfl ⟨rfl, hov2w.trans (by repeat (first | with_reducible exact IsOv.refl _ | with_reducible apply IsOv.dr | with_reducible apply IsOv.drewN | with_reducible apply IsOv.drew | with_reducible apply IsOv.alloc | with_reducible apply IsOv.ov))⟩
set_option maxRecDepth 100000 in
set_option maxHeartbeats 1000000 in
theorem SetupLines_nil (w : World) (hS : LaidS w) : Gives Tryd.prog 4 #[.slice none 0 0] w (.bool true) := by
  unfold Gives
  go_enter Tryd.func4, Tryd.ntmps4
  go_wp2_with fail
  go_loopw [3, 4, 5] (fun av bv iv wr => av = .string ⟨#[]⟩ ∧ bv = .string ⟨#[]⟩ ∧ iv = .int .i64 0 ∧ wr = w) (fun av bv iv wr => 0)
  case atStart => exact ⟨rfl, rfl, rfl, rfl⟩
  case round =>
    obtain ⟨rfl, rfl, rfl, rfl⟩ := hrel
    go_wp2_with fail
    refine Calls.mono (Read_calls wr ⟨#[]⟩ hS.v (by decide) (⟨3, 60, 100000, 200000, 100000, 12, false⟩, 0, 0) (by kernel_rfl)) ?_
    rintro e w1 ⟨rfl, hov1⟩
    simp only [Cfg.val, Cfg.cells]
    go_wp2_with fail
    refine Calls.mono (Read_calls _ ⟨#[]⟩ ?_ (by decide) (⟨3, 60, 100000, 200000, 100000, 12, false⟩, 0, 0) (by kernel_rfl)) ?_
    · exact (hS.of_isOv (hov1.alloc _)).v
    rintro e w2 ⟨rfl, hov2⟩
    have hc2 : w2.heap[w1.heap.size]? = some (.cells #[.int .i64 3, .int .i64 60, .int .i64 100000, .int .i64 200000, .int .i64 100000, .int .i64 12, .bool false] 24) := hov2.heap (heap_alloc_new w1 _)
    have hov2w : IsOv wr w2 := hov1.trans (((IsOv.refl w1).alloc _).trans hov2)
    have hz2 : w1.heap.size < w2.heap.size := lt_of_heap hc2
    have p0 : w2.cell? ⟨w1.heap.size, 0, none⟩ = some (.int .i64 3) := cell_of_heap hc2 0
    have p1 : w2.cell? ⟨w1.heap.size, 1, none⟩ = some (.int .i64 60) := cell_of_heap hc2 1
    have p2 : w2.cell? ⟨w1.heap.size, 2, none⟩ = some (.int .i64 100000) := cell_of_heap hc2 2
    have p3 : w2.cell? ⟨w1.heap.size, 3, none⟩ = some (.int .i64 200000) := cell_of_heap hc2 3
    have p4 : w2.cell? ⟨w1.heap.size, 4, none⟩ = some (.int .i64 100000) := cell_of_heap hc2 4
    have p5 : w2.cell? ⟨w1.heap.size, 5, none⟩ = some (.int .i64 12) := cell_of_heap hc2 5
    have p6 : w2.cell? ⟨w1.heap.size, 6, none⟩ = some (.bool false) := cell_of_heap hc2 6
    clear hov2 hc2
    simp only [Cfg.val, Cfg.cells]
    go_wp2_with (go_at_call 6; refine Calls.mono (awake_gives _ ?_) ?_; exact (hS.of_isOv (hov2w.trans (by repeat (first | with_reducible exact IsOv.refl _ | with_reducible apply IsOv.dr | with_reducible apply IsOv.drewN | with_reducible apply IsOv.drew | with_reducible apply IsOv.alloc | with_reducible apply IsOv.ov)))); rintro e w' ⟨rfl, x9, rfl⟩)
    exact bodyPost_ret (v := .bool true) (by simp [results, Tryd.results4, go_sem, ↓IntWalk.iteOmega]) rfl ⟨rfl, hov2w.trans (by repeat (first | with_reducible exact IsOv.refl _ | with_reducible apply IsOv.dr | with_reducible apply IsOv.drewN | with_reducible apply IsOv.drew | with_reducible apply IsOv.alloc | with_reducible apply IsOv.ov))⟩
end Go.Proofs.YtaibjaienhnckaaDoor
