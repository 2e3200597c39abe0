/- Layer 22: Read, as a plain function of the text. Conditions: the text takes at most 65536 bytes; the variables lie as the program lays them. -/
import Derived.Test.YtaibjaienhnckaaDoorVe
set_option linter.unusedVariables false
set_option linter.unusedSimpArgs false
namespace Go.Proofs.YtaibjaienhnckaaDoor
open Go.RowKit
def Cfg.zero : Cfg := ⟨0, 0, 0, 0, 0, 0, false⟩
def Cfg.usual : Cfg := ⟨3, 60, 100000, 200000, 100000, 12, false⟩
def Cfg.val (c : Cfg) : Value := .agg c.cells
/-- What Read answers from a line on: a setup, the line that is wrong, the error. -/
def readF : Nat → Cfg → List (List UInt8) → Nat → List UInt8 → Option (Cfg × Nat × Int)
  | 0, _, _, _, _ => none
  | f + 1, c, seen, n, l =>
    if l = [] then some (c, 0, 0)
    else if (Lib.cut l [10]).2.2 then
      (if (lineF c (Lib.cut l [10]).1 seen).1 = 0 then readF f (lineF c (Lib.cut l [10]).1 seen).2 (seen ++ [(Lib.cut (Lib.cut l [10]).1 [32]).1]) (n + 1) (Lib.cut l [10]).2.1
      else some (Cfg.zero, n, (lineF c (Lib.cut l [10]).1 seen).1))
    else some (Cfg.zero, n, 220)
theorem cut_lens (l : List UInt8) : (Lib.cut l [10]).1.length ≤ l.length ∧ ((Lib.cut l [10]).2.2 = true → (Lib.cut l [10]).2.1.length + 1 ≤ l.length) := by
  unfold Lib.cut
  split
  · rename_i h
    refine ⟨by simp; omega, fun _ => ?_⟩
    have := Lib.index_room l [10] h
    simp at this ⊢
    omega
  · exact ⟨Nat.le_refl _, fun h => by cases h⟩
set_option maxRecDepth 20000 in
set_option maxHeartbeats 1000000 in
theorem Read_calls (w : World) (s : ByteArray) (hL : LaidV w) (hs : s.size ≤ 65536) (r : Cfg × Nat × Int) (hr : readF (s.size + 1) Cfg.usual [] 1 s.data.toList = some r) : Gives Tryd.prog 7 #[.string s] w (.tuple #[r.1.val, .int .i64 r.2.1, .int .i64 r.2.2]) := by
  unfold Gives
  go_enter Tryd.func7, Tryd.ntmps7
  go_wp2_with fail
  refine (Usual_gives _).mono ?_
  rintro e w1 ⟨rfl, hov1⟩
  have hmk := run_makeMap (P := Tryd.prog) 41 w1
  have hL1 : LaidV w1 := hL.of_isOv (((IsOv.refl w).alloc _).trans hov1)
  have hres1 : w1.heap[w.heap.size]? = some (.cells Cfg.zero.cells 24) := hov1.heap (heap_alloc_new w _)
  have hovw : IsOv w w1 := ((IsOv.refl w).alloc _).trans hov1
  have hwz : w.heap.size < w1.heap.size := lt_of_heap hres1
  clear hov1
  have hst : (((w1.alloc (.map #[] 0)).alloc (.cells Cfg.usual.cells 24)).heap[w1.heap.size + 1]?) = some (.cells Cfg.usual.cells 24) := by
    have := heap_alloc_new (w1.alloc (.map #[] 0)) (.cells Cfg.usual.cells 24)
    simpa using this
  have hmt : (((w1.alloc (.map #[] 0)).alloc (.cells Cfg.usual.cells 24)).heap[w1.heap.size]?) = some (.map #[] 0) :=
    ((IsOv.refl (w1.alloc (.map #[] 0))).alloc _).heap (heap_alloc_new w1 _)
  have HST := Lib.hid hst
  have HMT := Lib.hid hmt
  have HRES := Lib.hid hres1
  clear hst hmt hres1
  go_wp2_with fail
  go_loopg [0, 7] (s.size + 1) (fun g tv nv wr => ∃ (b : ByteArray) (n : Nat) (c : Cfg) (seen : List (List UInt8)) (es : Array MapEntry) (clk : Nat), tv = .string b ∧ nv = .int .i64 (n : Int) ∧ b.size ≤ 65536 ∧ n + b.size ≤ 65537 ∧ Hid (readF g c seen n b.data.toList = some r) ∧ IsOv w1 wr ∧ Hid (wr.heap[w1.heap.size + 1]? = some (.cells c.cells 24)) ∧ Hid (wr.heap[w1.heap.size]? = some (.map es clk)) ∧ Hid (keysAre es.toList seen))
  case atStart => exact ⟨s, 1, Cfg.usual, [], #[], 0, rfl, rfl, hs, by omega, hr, by repeat (first | with_reducible exact IsOv.refl _ | with_reducible apply IsOv.dr | with_reducible apply IsOv.drewN | with_reducible apply IsOv.drew | with_reducible apply IsOv.alloc | with_reducible apply IsOv.ov), HST, HMT, rfl⟩
  case round =>
    obtain ⟨b, n, c, seen, es, clk, rfl, rfl, hbs, hnb, hrd, hov, hpc, hpm, hks⟩ := hrel
    cases gk with
    | zero => exact absurd hrd.out (by simp [readF])
    | succ m =>
    by_cases hb0 : b.toList = []
    · have hb0b : (b.toList == []) = true := by simpa using hb0
      have hrr : r = (c, 0, 0) := by
        have := hrd.out
        simp only [readF] at this
        rw [if_pos (by rw [← ByteArray.toList_eq]; exact hb0)] at this
        exact (Option.some.inj this).symm
      have HRR := Lib.hid hrr
      clear hrr
      have hres := hov.heap HRES.out
      have hpc2 := hpc.out
      have r0 : wr.cell? ⟨w.heap.size, 0, none⟩ = some (.int .i64 0) := cell_of_heap hres 0
      have rf0 := frozen_of_heap hres 0
      have rc0 : wr.cell? ⟨w1.heap.size + 1, 0, none⟩ = some (.int .i64 c.l0) := cell_of_heap hpc2 0
      have r1 : wr.cell? ⟨w.heap.size, 1, none⟩ = some (.int .i64 0) := cell_of_heap hres 1
      have rf1 := frozen_of_heap hres 1
      have rc1 : wr.cell? ⟨w1.heap.size + 1, 1, none⟩ = some (.int .i64 c.l1) := cell_of_heap hpc2 1
      have r2 : wr.cell? ⟨w.heap.size, 2, none⟩ = some (.int .i64 0) := cell_of_heap hres 2
      have rf2 := frozen_of_heap hres 2
      have rc2 : wr.cell? ⟨w1.heap.size + 1, 2, none⟩ = some (.int .i64 c.l2) := cell_of_heap hpc2 2
      have r3 : wr.cell? ⟨w.heap.size, 3, none⟩ = some (.int .i64 0) := cell_of_heap hres 3
      have rf3 := frozen_of_heap hres 3
      have rc3 : wr.cell? ⟨w1.heap.size + 1, 3, none⟩ = some (.int .i64 c.l3) := cell_of_heap hpc2 3
      have r4 : wr.cell? ⟨w.heap.size, 4, none⟩ = some (.int .i64 0) := cell_of_heap hres 4
      have rf4 := frozen_of_heap hres 4
      have rc4 : wr.cell? ⟨w1.heap.size + 1, 4, none⟩ = some (.int .i64 c.l4) := cell_of_heap hpc2 4
      have r5 : wr.cell? ⟨w.heap.size, 5, none⟩ = some (.int .i64 0) := cell_of_heap hres 5
      have rf5 := frozen_of_heap hres 5
      have rc5 : wr.cell? ⟨w1.heap.size + 1, 5, none⟩ = some (.int .i64 c.l5) := cell_of_heap hpc2 5
      have r6 : wr.cell? ⟨w.heap.size, 6, none⟩ = some (.bool false) := cell_of_heap hres 6
      have rf6 := frozen_of_heap hres 6
      have rc6 : wr.cell? ⟨w1.heap.size + 1, 6, none⟩ = some (.bool c.t) := cell_of_heap hpc2 6
      clear hres hpc2
      go_wp2_with fail
      exact bodyPost_ret (v := .tuple #[.agg #[.int .i64 c.l0, .int .i64 c.l1, .int .i64 c.l2, .int .i64 c.l3, .int .i64 c.l4, .int .i64 c.l5, .bool c.t], .int .i64 0, .int .i64 0]) (by simp [results, Tryd.results7, go_sem, ↓IntWalk.iteOmega, r0, r1, r2, r3, r4, r5, r6]) rfl ⟨by rw [HRR.out]; rfl, (IsOv.setCellB (IsOv.setCellB (IsOv.setCellB (IsOv.setCellB (IsOv.setCellB (IsOv.setCellB (IsOv.setCellB (hovw.trans hov) (Nat.le_refl _) 0 (.int .i64 c.l0)) (Nat.le_refl _) 1 (.int .i64 c.l1)) (Nat.le_refl _) 2 (.int .i64 c.l2)) (Nat.le_refl _) 3 (.int .i64 c.l3)) (Nat.le_refl _) 4 (.int .i64 c.l4)) (Nat.le_refl _) 5 (.int .i64 c.l5)) (Nat.le_refl _) 6 (.bool c.t))⟩
    · have hb0b : (b.toList == []) = false := by simpa using hb0
      have hbl : ¬ b.data.toList = [] := by rw [← ByteArray.toList_eq]; exact hb0
      have hrd2 := hrd.out
      simp only [readF] at hrd2
      rw [if_neg hbl] at hrd2
      go_wp2_with fail
      refine (cutN_gives b wr (hL1.of_isOv hov) hbs).mono ?_
      rintro e w2 ⟨rfl, hov2⟩
      have hcl := cut_lens b.data.toList
      have hbz : b.size = b.data.toList.length := Array.length_toList.symm
      generalize (Lib.cut b.data.toList [10]).1 = hd at *
      generalize (Lib.cut b.data.toList [10]).2.1 = tl at *
      generalize (Lib.cut b.data.toList [10]).2.2 = ok at *
      have hovA : IsOv w1 w2 := hov.trans hov2
      have hpc2 := hov2.heap hpc.out
      have hpm2 := hov2.heap hpm.out
      have hhz : (⟨hd.toArray⟩ : ByteArray).size ≤ 65536 := by show hd.toArray.size ≤ 65536; rw [List.size_toArray]; omega
      have htz : (⟨tl.toArray⟩ : ByteArray).size = tl.length := by show tl.toArray.size = _; rw [List.size_toArray]
      generalize hhb : (⟨hd.toArray⟩ : ByteArray) = hb at *
      have hhl : hb.data.toList = hd := by rw [← hhb]
      generalize htb : (⟨tl.toArray⟩ : ByteArray) = tb at *
      have htl : tb.data.toList = tl := by rw [← htb]
      rw [← hhl, ← htl] at hrd2
      have HRD := Lib.hid hrd2
      have HPC := Lib.hid hpc2
      have HPM := Lib.hid hpm2
      have HRES2 := Lib.hid (hovA.heap HRES.out)
      clear hrd2 hpc2 hpm2 hhb htb hhl htl hov hov2 hpc hpm hrd hb0 hbl
      go_wp2_with fail
      refine (line_calls w1 w2 hb (w1.heap.size + 1) w1.heap.size c es clk seen hovA hL1 (Nat.le_succ _) (Nat.le_refl _) (by omega) HPC.out HPM.out hks.out hhz).mono ?_
      rintro e w3 ⟨rfl, hov3, hpc3, es3, clk3, seen3, hpm3, hks3, hsn⟩
      have HPC3 := Lib.hid hpc3
      have HPM3 := Lib.hid hpm3
      have HSN := Lib.hid hsn
      have HKS3 := Lib.hid hks3
      have hres := hov3.heap HRES.out
      have r0 : w3.cell? ⟨w.heap.size, 0, none⟩ = some (.int .i64 0) := cell_of_heap hres 0
      have rf0 := frozen_of_heap hres 0
      have r1 : w3.cell? ⟨w.heap.size, 1, none⟩ = some (.int .i64 0) := cell_of_heap hres 1
      have rf1 := frozen_of_heap hres 1
      have r2 : w3.cell? ⟨w.heap.size, 2, none⟩ = some (.int .i64 0) := cell_of_heap hres 2
      have rf2 := frozen_of_heap hres 2
      have r3 : w3.cell? ⟨w.heap.size, 3, none⟩ = some (.int .i64 0) := cell_of_heap hres 3
      have rf3 := frozen_of_heap hres 3
      have r4 : w3.cell? ⟨w.heap.size, 4, none⟩ = some (.int .i64 0) := cell_of_heap hres 4
      have rf4 := frozen_of_heap hres 4
      have r5 : w3.cell? ⟨w.heap.size, 5, none⟩ = some (.int .i64 0) := cell_of_heap hres 5
      have rf5 := frozen_of_heap hres 5
      have r6 : w3.cell? ⟨w.heap.size, 6, none⟩ = some (.bool false) := cell_of_heap hres 6
      have rf6 := frozen_of_heap hres 6
      clear hpc3 hpm3 hsn hks3 hres HPC HPM HRES2
      generalize hln : lineF c hb.data.toList seen = ln at *
      obtain ⟨le, lc⟩ := ln
      cases ok
      · have hrr : r = (Cfg.zero, n, 220) := by
          have := HRD.out
          rw [if_neg Bool.false_ne_true] at this
          exact (Option.some.inj this).symm
        have HRR := Lib.hid hrr
        clear hrr hln
        go_wp2_with fail
        exact bodyPost_ret (v := .tuple #[.agg #[.int .i64 0, .int .i64 0, .int .i64 0, .int .i64 0, .int .i64 0, .int .i64 0, .bool false], .int .i64 (n : Int), .int .i64 220]) (by simp [results, Tryd.results7, go_sem, ↓IntWalk.iteOmega, r0, r1, r2, r3, r4, r5, r6]) rfl ⟨by rw [HRR.out]; rfl, (IsOv.setCellB (IsOv.setCellB (IsOv.setCellB (IsOv.setCellB (IsOv.setCellB (IsOv.setCellB (IsOv.setCellB (hovw.trans hov3) (Nat.le_refl _) 0 (.int .i64 0)) (Nat.le_refl _) 1 (.int .i64 0)) (Nat.le_refl _) 2 (.int .i64 0)) (Nat.le_refl _) 3 (.int .i64 0)) (Nat.le_refl _) 4 (.int .i64 0)) (Nat.le_refl _) 5 (.int .i64 0)) (Nat.le_refl _) 6 (.bool false))⟩
      · by_cases h0 : le = 0
        · have h0b : (le == 0) = true := by simpa using h0
          have hr5 : readF m lc (seen ++ [(Lib.cut hb.data.toList [32]).1]) (n + 1) tb.data.toList = some r := by
            have := HRD.out
            rw [if_pos rfl, if_pos h0] at this
            exact this
          have HR5 := Lib.hid hr5
          have hs3 := HSN.out h0
          have HS3 := Lib.hid hs3
          have htz2 := hcl.2 rfl
          clear hr5 h0 hln hs3
          go_wp2_with fail
          go_roundg m
          case rel => exact ⟨tb, n + 1, lc, seen3, es3, clk3, rfl, by go_num, by omega, by omega, Lib.hid (by rw [HS3.out]; exact HR5.out), hov3, HPC3, HPM3, HKS3⟩
          case measure => omega
        · have h0b : (le == 0) = false := by simpa using h0
          have hrr : r = (Cfg.zero, n, le) := by
            have := HRD.out
            rw [if_pos rfl, if_neg h0] at this
            exact (Option.some.inj this).symm
          have HRR := Lib.hid hrr
          clear hrr hln h0
          go_wp2_with fail
          exact bodyPost_ret (v := .tuple #[.agg #[.int .i64 0, .int .i64 0, .int .i64 0, .int .i64 0, .int .i64 0, .int .i64 0, .bool false], .int .i64 (n : Int), .int .i64 le]) (by simp [results, Tryd.results7, go_sem, ↓IntWalk.iteOmega, r0, r1, r2, r3, r4, r5, r6]) rfl ⟨by rw [HRR.out]; rfl, (IsOv.setCellB (IsOv.setCellB (IsOv.setCellB (IsOv.setCellB (IsOv.setCellB (IsOv.setCellB (IsOv.setCellB (hovw.trans hov3) (Nat.le_refl _) 0 (.int .i64 0)) (Nat.le_refl _) 1 (.int .i64 0)) (Nat.le_refl _) 2 (.int .i64 0)) (Nat.le_refl _) 3 (.int .i64 0)) (Nat.le_refl _) 4 (.int .i64 0)) (Nat.le_refl _) 5 (.int .i64 0)) (Nat.le_refl _) 6 (.bool false))⟩
end Go.Proofs.YtaibjaienhnckaaDoor
