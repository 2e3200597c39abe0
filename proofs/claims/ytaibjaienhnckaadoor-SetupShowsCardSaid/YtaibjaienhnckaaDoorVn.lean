/- Layer 22: SetupShows answers true. Condition: the listed variables lie as the program lays them. -/
import Derived.Test.YtaibjaienhnckaaDoorVl
import Derived.Test.YtaibjaienhnckaaDoorUf
set_option linter.unusedVariables false
set_option linter.unusedSimpArgs false
namespace Go.Proofs.YtaibjaienhnckaaDoor
open Go.RowKit
theorem showF_len {c : Cfg} (h : ∀ k, k < 6 → 0 ≤ c.get k ∧ c.get k ≤ 2147483648) : (showF c).length ≤ 200 := by
  have := showK_len h 6 (Nat.le_refl _)
  rw [showF_eq]
  split <;> simp [turnedW] <;> omega
set_option maxRecDepth 100000 in
set_option maxHeartbeats 2000000 in
theorem SetupShows_gives (w : World) (c : Cfg) (hS : LaidS w) : Gives Tryd.prog 5 #[c.val] w (.bool true) := by
  have hlen := fun h => @showF_len c (range_small h)
  have hsmall := fun h => @range_small c h
  obtain ⟨l0, l1, l2, l3, l4, l5, t⟩ := c
  unfold Gives
  generalize hcv : (Cfg.val ⟨l0, l1, l2, l3, l4, l5, t⟩) = cv
  have hcv2 : cv = .agg #[.int .i64 l0, .int .i64 l1, .int .i64 l2, .int .i64 l3, .int .i64 l4, .int .i64 l5, .bool t] := hcv.symm
  subst hcv2
  clear hcv
  go_enter Tryd.func5, Tryd.ntmps5
  go_wp2_with fail
  refine Calls.mono (Show_gives _ ⟨l0, l1, l2, l3, l4, l5, t⟩ ?_) ?_
  · exact hS.of_isOv (by repeat (first | with_reducible exact IsOv.refl _ | with_reducible apply IsOv.dr | with_reducible apply IsOv.drewN | with_reducible apply IsOv.drew | with_reducible apply IsOv.alloc | with_reducible apply IsOv.ov))
  rintro e w1 ⟨rfl, hov1b⟩
  have hc1 : w1.heap[w.heap.size]? = some (.cells (Cfg.cells ⟨l0, l1, l2, l3, l4, l5, t⟩) 24) := hov1b.heap (heap_alloc_new w _)
  have hov1 : IsOv w w1 := ((IsOv.refl w).alloc _).trans hov1b
  have hz1 : w.heap.size < w1.heap.size := lt_of_heap hc1
  have k0 : w1.cell? ⟨w.heap.size, 0, none⟩ = some (.int .i64 l0) := cell_of_heap hc1 0
  have k1 : w1.cell? ⟨w.heap.size, 1, none⟩ = some (.int .i64 l1) := cell_of_heap hc1 1
  have k2 : w1.cell? ⟨w.heap.size, 2, none⟩ = some (.int .i64 l2) := cell_of_heap hc1 2
  have k3 : w1.cell? ⟨w.heap.size, 3, none⟩ = some (.int .i64 l3) := cell_of_heap hc1 3
  have k4 : w1.cell? ⟨w.heap.size, 4, none⟩ = some (.int .i64 l4) := cell_of_heap hc1 4
  have k5 : w1.cell? ⟨w.heap.size, 5, none⟩ = some (.int .i64 l5) := cell_of_heap hc1 5
  have k6 : w1.cell? ⟨w.heap.size, 6, none⟩ = some (.bool t) := cell_of_heap hc1 6
  have HC1 := Lib.hid hc1
  clear hov1b hc1
  cases hr : rightB l0 l1 l2 l3 l4 l5
  · have HRB : Hid (Cfg.rightB ⟨l0, l1, l2, l3, l4, l5, t⟩ = false) := Lib.hid hr
    have HRQ : ∀ W, Gives Tryd.prog 11 #[.agg #[.int .i64 l0, .int .i64 l1, .int .i64 l2, .int .i64 l3, .int .i64 l4, .int .i64 l5, .bool t]] W (.bool false) := fun W => by
      have := refRight_gives W ⟨l0, l1, l2, l3, l4, l5, t⟩
      rw [HRB.out] at this
      exact this
    have HLQ : ∀ W, LaidV W → Gives Tryd.prog 10 #[.agg #[.int .i64 l0, .int .i64 l1, .int .i64 l2, .int .i64 l3, .int .i64 l4, .int .i64 l5, .bool t]] W (.bool false) := fun W hW => by
      have := Right_gives W hW l0 l1 l2 l3 l4 l5 t
      rw [hr] at this
      exact this
    have hV : showV ⟨l0, l1, l2, l3, l4, l5, t⟩ = .tuple #[.string ⟨#[]⟩, .int .i64 221] := by unfold showV; rw [HRB.out]; rfl
    rw [hV]
    clear hV hlen hsmall
    go_wp2_with (first | (refine wp_region_ov (by kernel_rfl) (by kernel_rfl) ?_; (repeat (go_big_quiet_step ((first | (go_at_call 10; exact (HLQ _ (LaidV.ov (hS.of_isOv hov1).v _)).quiet) | (go_at_call 11; exact (HRQ _).quiet))))); refine wpQuiet_nil ?_; rintro _ ⟨nq, rfl⟩) | (go_at_call 11; refine Calls.mono (HRQ _) ?_; rintro e w' ⟨rfl, x, rfl⟩) | (go_at_call 6; refine Calls.mono (awake_gives _ ?_) ?_; exact (hS.of_isOv (hov1.trans (by repeat (first | with_reducible exact IsOv.refl _ | with_reducible apply IsOv.dr | with_reducible apply IsOv.drewN | with_reducible apply IsOv.drew | with_reducible apply IsOv.alloc | with_reducible apply IsOv.ov)))); rintro e w' ⟨rfl, x, rfl⟩))
    exact bodyPost_ret (v := .bool true) (by simp [results, Tryd.results5, go_sem, ↓IntWalk.iteOmega]) rfl ⟨rfl, hov1.trans (by repeat (first | with_reducible exact IsOv.refl _ | with_reducible apply IsOv.dr | with_reducible apply IsOv.drewN | with_reducible apply IsOv.drew | with_reducible apply IsOv.alloc | with_reducible apply IsOv.ov))⟩
  · have HRB : Hid (Cfg.rightB ⟨l0, l1, l2, l3, l4, l5, t⟩ = true) := Lib.hid hr
    have HRQ : ∀ W, Gives Tryd.prog 11 #[.agg #[.int .i64 l0, .int .i64 l1, .int .i64 l2, .int .i64 l3, .int .i64 l4, .int .i64 l5, .bool t]] W (.bool true) := fun W => by
      have := refRight_gives W ⟨l0, l1, l2, l3, l4, l5, t⟩
      rw [HRB.out] at this
      exact this
    have HLQ : ∀ W, LaidV W → Gives Tryd.prog 10 #[.agg #[.int .i64 l0, .int .i64 l1, .int .i64 l2, .int .i64 l3, .int .i64 l4, .int .i64 l5, .bool t]] W (.bool true) := fun W hW => by
      have := Right_gives W hW l0 l1 l2 l3 l4 l5 t
      rw [hr] at this
      exact this
    have hV : showV ⟨l0, l1, l2, l3, l4, l5, t⟩ = .tuple #[.string ⟨(showF ⟨l0, l1, l2, l3, l4, l5, t⟩).toArray⟩, .int .i64 0] := by unfold showV; rw [HRB.out]; rfl
    rw [hV]
    have hrg := rightB_range (t := t) hr
    have HSM := Lib.hid (hsmall hrg)
    have hrd := read_shown ⟨l0, l1, l2, l3, l4, l5, t⟩ (hrg 0 (by decide)) (hrg 1 (by decide)) (hrg 2 (by decide)) (hrg 3 (by decide)) (hrg 4 (by decide)) (hrg 5 (by decide))
    have hl := hlen hrg
    generalize hsb : (⟨(showF ⟨l0, l1, l2, l3, l4, l5, t⟩).toArray⟩ : ByteArray) = sb
    have hsd : sb.data.toList = showF ⟨l0, l1, l2, l3, l4, l5, t⟩ := by rw [← hsb]
    have hsz : sb.size ≤ 200 := by rw [show sb.size = sb.data.toList.length from Array.length_toList.symm, hsd]; exact hl
    have HRD : Hid (readF (sb.size + 1) Cfg.usual [] 1 sb.data.toList = some (⟨l0, l1, l2, l3, l4, l5, t⟩, 0, 0)) := Lib.hid (by
      rw [show sb.size = sb.data.toList.length from Array.length_toList.symm, hsd]; exact hrd)
    have HSB := Lib.hid hsb
    clear hV hlen hsmall hrg hrd hl hsb hsd
    go_wp2_with (first | (refine wp_region_ov (by kernel_rfl) (by kernel_rfl) ?_; (repeat (go_big_quiet_step ((first | (go_at_call 10; exact (HLQ _ (LaidV.ov (hS.of_isOv hov1).v _)).quiet) | (go_at_call 11; exact (HRQ _).quiet))))); refine wpQuiet_nil ?_; rintro _ ⟨nq, rfl⟩) | (go_at_call 11; refine Calls.mono (HRQ _) ?_; rintro e w' ⟨rfl, x, rfl⟩))
    refine Calls.mono (Read_calls _ sb ?_ (by omega) _ HRD.out) ?_
    · exact (hS.of_isOv (hov1.trans (by repeat (first | with_reducible exact IsOv.refl _ | with_reducible apply IsOv.dr | with_reducible apply IsOv.drewN | with_reducible apply IsOv.drew | with_reducible apply IsOv.alloc | with_reducible apply IsOv.ov)))).v
    rintro e w3 ⟨rfl, hov3⟩
    have hc3 := IsOv.heap (IsOv.trans (by repeat (first | with_reducible exact IsOv.refl _ | with_reducible apply IsOv.dr | with_reducible apply IsOv.drewN | with_reducible apply IsOv.drew | with_reducible apply IsOv.alloc | with_reducible apply IsOv.ov)) hov3) HC1.out
    have hov3w : IsOv w w3 := hov1.trans (IsOv.trans (by repeat (first | with_reducible exact IsOv.refl _ | with_reducible apply IsOv.dr | with_reducible apply IsOv.drewN | with_reducible apply IsOv.drew | with_reducible apply IsOv.alloc | with_reducible apply IsOv.ov)) hov3)
    have hz3 : w.heap.size < w3.heap.size := lt_of_heap hc3
    have m0 : w3.cell? ⟨w.heap.size, 0, none⟩ = some (.int .i64 l0) := cell_of_heap hc3 0
    have m1 : w3.cell? ⟨w.heap.size, 1, none⟩ = some (.int .i64 l1) := cell_of_heap hc3 1
    have m2 : w3.cell? ⟨w.heap.size, 2, none⟩ = some (.int .i64 l2) := cell_of_heap hc3 2
    have m3 : w3.cell? ⟨w.heap.size, 3, none⟩ = some (.int .i64 l3) := cell_of_heap hc3 3
    have m4 : w3.cell? ⟨w.heap.size, 4, none⟩ = some (.int .i64 l4) := cell_of_heap hc3 4
    have m5 : w3.cell? ⟨w.heap.size, 5, none⟩ = some (.int .i64 l5) := cell_of_heap hc3 5
    have m6 : w3.cell? ⟨w.heap.size, 6, none⟩ = some (.bool t) := cell_of_heap hc3 6
    clear hov3 hc3
    simp only [Cfg.val, Cfg.cells]
    go_wp2_with (first | (go_at_call 6; refine Calls.mono (awake_gives _ ?_) ?_; exact (hS.of_isOv (hov3w.trans (by repeat (first | with_reducible exact IsOv.refl _ | with_reducible apply IsOv.dr | with_reducible apply IsOv.drewN | with_reducible apply IsOv.drew | with_reducible apply IsOv.alloc | with_reducible apply IsOv.ov)))); rintro e w' ⟨rfl, x4, rfl⟩) | (go_at_call 12; refine Calls.mono (refShow_gives _ ⟨l0, l1, l2, l3, l4, l5, t⟩ HSM.out) ?_; rintro e w' ⟨rfl, x5, rfl⟩; rw [HSB.out]))
    exact bodyPost_ret (v := .bool true) (by simp [results, Tryd.results5, go_sem, ↓IntWalk.iteOmega]) rfl ⟨rfl, hov3w.trans (by repeat (first | with_reducible exact IsOv.refl _ | with_reducible apply IsOv.dr | with_reducible apply IsOv.drewN | with_reducible apply IsOv.drew | with_reducible apply IsOv.alloc | with_reducible apply IsOv.ov))⟩
end Go.Proofs.YtaibjaienhnckaaDoor
