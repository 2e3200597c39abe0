/- Layer 22's small words: the table of entries, Usual, numbers, Right. Condition: the table lies as the program lays it. -/
import Derived.Test.YtaibjaienhnckaaDoorM
import Derived.Handy
import Derived.Deep.RegionHeld3
import Derived.Deep.LoopGhost
set_option linter.unusedVariables false
set_option linter.unusedSimpArgs false
namespace Go.Proofs.YtaibjaienhnckaaDoor
open Go.RowKit
/-- A table of Tryd lies so. -/
def LaidAt (g : Nat) (cs : Array Value) (w : World) : Prop := ∀ i : Nat, i < cs.size → w.cell? ⟨g, i, none⟩ = cs[i]?
/-- Something that may be an error lies there. -/
def HasErr (g : Nat) (w : World) : Prop := ∃ ev : Value, w.cell? ⟨g, 0, none⟩ = some ev ∧ (ev = .nilIface ∨ ∃ te pe, ev = .iface te pe)
/-- A whole number lies there. -/
def HasInt (g : Nat) (w : World) : Prop := ∃ m : Int, w.cell? ⟨g, 0, none⟩ = some (.int .i64 m)
theorem LaidAt.of_isOv {g : Nat} {cs : Array Value} {w w' : World} (h : LaidAt g cs w) (hn : 0 < cs.size) (hb : IsOv w w') : LaidAt g cs w' := fun i hi => by
  have hs : g < w.heap.size := by
    have h0 := h 0 hn
    rw [Array.getElem?_eq_getElem hn] at h0
    exact block_lt_of_cell (a := ⟨g, 0, none⟩) h0
  obtain ⟨x, rfl⟩ := hb
  rw [World.cell_ov_lt w x ⟨g, i, none⟩ hs]; exact h i hi
theorem HasErr.of_isOv {g : Nat} {w w' : World} (h : HasErr g w) (hb : IsOv w w') : HasErr g w' := by
  obtain ⟨ev, h1, h2⟩ := h
  exact ⟨ev, hb.cell h1, h2⟩
theorem HasInt.of_isOv {g : Nat} {w w' : World} (h : HasInt g w) (hb : IsOv w w') : HasInt g w' := by
  obtain ⟨m, h1⟩ := h
  exact ⟨m, hb.cell h1⟩
def entCells : Array Value := #[.string ⟨#[108, 111, 110, 103]⟩, .int .i64 1, .int .i64 6, .string ⟨#[114, 111, 117, 110, 100, 115]⟩, .int .i64 1, .int .i64 1000, .string ⟨#[99, 111, 110, 102, 108, 105, 99, 116, 115]⟩, .int .i64 1, .int .i64 1073741824, .string ⟨#[110, 111, 100, 101, 115]⟩, .int .i64 2, .int .i64 16777216, .string ⟨#[115, 116, 97, 116, 101, 115]⟩, .int .i64 1, .int .i64 16777216, .string ⟨#[97, 115, 107, 115]⟩, .int .i64 0, .int .i64 20]
def p10Cells : Array Value := #[.int .u64 1, .int .u64 10, .int .u64 100, .int .u64 1000, .int .u64 10000, .int .u64 100000, .int .u64 1000000, .int .u64 10000000, .int .u64 100000000, .int .u64 1000000000, .int .u64 10000000000, .int .u64 100000000000, .int .u64 1000000000000, .int .u64 10000000000000, .int .u64 100000000000000, .int .u64 1000000000000000, .int .u64 10000000000000000, .int .u64 100000000000000000, .int .u64 1000000000000000000, .int .u64 10000000000000000000]
/-- The variables that layer 22 comes to lie as the program lays them. -/
structure LaidV (w : World) : Prop where
  en : LaidAt 0 entCells w
  ml : HasInt 1 w
  es : HasErr 3 w
  er : HasErr 4 w
  p10 : LaidAt 2 p10Cells w
theorem LaidV.of_isOv {w w' : World} (h : LaidV w) (hb : IsOv w w') : LaidV w' :=
  ⟨h.en.of_isOv (by decide) hb, h.ml.of_isOv hb, h.es.of_isOv hb, h.er.of_isOv hb, h.p10.of_isOv (by decide) hb⟩
theorem LaidV.alloc {w : World} (h : LaidV w) (o : Obj) : LaidV (w.alloc o) := h.of_isOv ((IsOv.refl w).alloc o)
theorem LaidV.ov {w : World} (h : LaidV w) (x : Ext) : LaidV (w.ov x) := h.of_isOv ((IsOv.refl w).ov x)
theorem LaidV.dr {w : World} (h : LaidV w) (d : Nat) : LaidV (w.dr d) := h.of_isOv ((IsOv.refl w).dr d)
theorem LaidV.drew {w : World} (h : LaidV w) : LaidV w.drew := h.of_isOv (IsOv.refl w).drew
theorem Usual_gives (w : World) : Gives Tryd.prog 15 #[] w (.agg #[.int .i64 3, .int .i64 60, .int .i64 100000, .int .i64 200000, .int .i64 100000, .int .i64 12, .bool false]) := by
  unfold Gives
  go_enter Tryd.func15, Tryd.ntmps15
  go_wp2_with fail
  exact bodyPost_ret (v := .agg #[.int .i64 3, .int .i64 60, .int .i64 100000, .int .i64 200000, .int .i64 100000, .int .i64 12, .bool false]) (by simp [results, Tryd.results15, go_sem, ↓IntWalk.iteOmega]) rfl ⟨rfl, by repeat (first | with_reducible exact IsOv.refl _ | with_reducible apply IsOv.dr | with_reducible apply IsOv.drewN | with_reducible apply IsOv.drew | with_reducible apply IsOv.alloc | with_reducible apply IsOv.ov)⟩
/-- The six addresses of a setup's numbers. -/
def numP (b : Nat) : Value := .agg #[.pointer (some ⟨b, 0, none⟩), .pointer (some ⟨b, 1, none⟩), .pointer (some ⟨b, 2, none⟩), .pointer (some ⟨b, 3, none⟩), .pointer (some ⟨b, 4, none⟩), .pointer (some ⟨b, 5, none⟩)]
set_option maxHeartbeats 400000 in
theorem numbers_gives (w : World) (b : Nat) : Gives Tryd.prog 20 #[.pointer (some ⟨b, 0, none⟩)] w (numP b) := by
  unfold Gives
  go_enter Tryd.func20, Tryd.ntmps20
  go_wp2_with fail
  go_region_held3 (fun _ => True) (first | exact trivial | go_keep) (fail)
  go_wp2_with fail
  exact bodyPost_ret (v := numP b) (by simp [numP, results, Tryd.results20, go_sem, ↓IntWalk.iteOmega]) rfl ⟨rfl, by repeat (first | with_reducible exact IsOv.refl _ | (with_reducible refine IsOv.setCell ?_ ?_ _; rotate_left; (first | exact Nat.le_refl _ | exact Nat.le_succ _)) | with_reducible apply IsOv.dr | with_reducible apply IsOv.drewN | with_reducible apply IsOv.drew | with_reducible apply IsOv.alloc | with_reducible apply IsOv.ov)⟩
theorem numP_index0 (b : Nat) (w : World) : (Instr.index 54 (.agg #[.pointer (some ⟨b, 0, none⟩), .pointer (some ⟨b, 1, none⟩), .pointer (some ⟨b, 2, none⟩), .pointer (some ⟨b, 3, none⟩), .pointer (some ⟨b, 4, none⟩), .pointer (some ⟨b, 5, none⟩)]) (.int .i64 0)).run Tryd.prog w = .ok (.pointer (some ⟨b, 0, none⟩)) w := by kernel_rfl
theorem numP_index1 (b : Nat) (w : World) : (Instr.index 54 (.agg #[.pointer (some ⟨b, 0, none⟩), .pointer (some ⟨b, 1, none⟩), .pointer (some ⟨b, 2, none⟩), .pointer (some ⟨b, 3, none⟩), .pointer (some ⟨b, 4, none⟩), .pointer (some ⟨b, 5, none⟩)]) (.int .i64 1)).run Tryd.prog w = .ok (.pointer (some ⟨b, 1, none⟩)) w := by kernel_rfl
theorem numP_index2 (b : Nat) (w : World) : (Instr.index 54 (.agg #[.pointer (some ⟨b, 0, none⟩), .pointer (some ⟨b, 1, none⟩), .pointer (some ⟨b, 2, none⟩), .pointer (some ⟨b, 3, none⟩), .pointer (some ⟨b, 4, none⟩), .pointer (some ⟨b, 5, none⟩)]) (.int .i64 2)).run Tryd.prog w = .ok (.pointer (some ⟨b, 2, none⟩)) w := by kernel_rfl
theorem numP_index3 (b : Nat) (w : World) : (Instr.index 54 (.agg #[.pointer (some ⟨b, 0, none⟩), .pointer (some ⟨b, 1, none⟩), .pointer (some ⟨b, 2, none⟩), .pointer (some ⟨b, 3, none⟩), .pointer (some ⟨b, 4, none⟩), .pointer (some ⟨b, 5, none⟩)]) (.int .i64 3)).run Tryd.prog w = .ok (.pointer (some ⟨b, 3, none⟩)) w := by kernel_rfl
theorem numP_index4 (b : Nat) (w : World) : (Instr.index 54 (.agg #[.pointer (some ⟨b, 0, none⟩), .pointer (some ⟨b, 1, none⟩), .pointer (some ⟨b, 2, none⟩), .pointer (some ⟨b, 3, none⟩), .pointer (some ⟨b, 4, none⟩), .pointer (some ⟨b, 5, none⟩)]) (.int .i64 4)).run Tryd.prog w = .ok (.pointer (some ⟨b, 4, none⟩)) w := by kernel_rfl
theorem numP_index5 (b : Nat) (w : World) : (Instr.index 54 (.agg #[.pointer (some ⟨b, 0, none⟩), .pointer (some ⟨b, 1, none⟩), .pointer (some ⟨b, 2, none⟩), .pointer (some ⟨b, 3, none⟩), .pointer (some ⟨b, 4, none⟩), .pointer (some ⟨b, 5, none⟩)]) (.int .i64 5)).run Tryd.prog w = .ok (.pointer (some ⟨b, 5, none⟩)) w := by kernel_rfl
/-- May a setup be? -/
def rngB (lo hi l : Int) : Bool := decide (lo ≤ l) && decide (l ≤ hi)
def rights (l0 l1 l2 l3 l4 l5 : Int) : List Bool := [rngB 1 6 l0, rngB 1 1000 l1, rngB 1 1073741824 l2, rngB 2 16777216 l3, rngB 1 16777216 l4, rngB 0 20 l5]
def rightB (l0 l1 l2 l3 l4 l5 : Int) : Bool := (rights l0 l1 l2 l3 l4 l5).all id
theorem rightB_false {l0 l1 l2 l3 l4 l5 : Int} {k : Nat} (h : (rights l0 l1 l2 l3 l4 l5)[k]? = some false) : rightB l0 l1 l2 l3 l4 l5 = false := by
  unfold rightB
  rw [Bool.eq_false_iff]; intro h2
  have := List.all_eq_true.1 h2 false (List.mem_of_getElem? h)
  cases this
theorem rightB_true {l0 l1 l2 l3 l4 l5 : Int} (h : ∀ j, j < 6 → (rights l0 l1 l2 l3 l4 l5)[j]? = some true) : rightB l0 l1 l2 l3 l4 l5 = true := by
  unfold rightB
  refine List.all_eq_true.2 fun b hb => ?_
  obtain ⟨j, hj⟩ := List.getElem?_of_mem hb
  have hl : j < 6 := (List.getElem?_eq_some_iff.1 hj).1
  rw [h j hl] at hj
  rw [← Option.some.inj hj]; rfl
theorem rngB_low {lo hi l : Int} (h : l < lo) : rngB lo hi l = false := by unfold rngB; rw [decide_eq_false (by omega)]; rfl
theorem rngB_high {lo hi l : Int} (h : hi < l) : rngB lo hi l = false := by unfold rngB; rw [decide_eq_false (p := l ≤ hi) (by omega), Bool.and_false]
theorem rngB_in {lo hi l : Int} (h1 : ¬ l < lo) (h2 : ¬ hi < l) : rngB lo hi l = true := by unfold rngB; rw [decide_eq_true (by omega), decide_eq_true (by omega)]; rfl
set_option maxRecDepth 20000 in
set_option maxHeartbeats 2000000 in
theorem Right_gives (w : World) (hL : LaidV w) (l0 l1 l2 l3 l4 l5 : Int) (t : Bool) : Gives Tryd.prog 10 #[.agg #[.int .i64 l0, .int .i64 l1, .int .i64 l2, .int .i64 l3, .int .i64 l4, .int .i64 l5, .bool t]] w (.bool (rightB l0 l1 l2 l3 l4 l5)) := by
  unfold Gives
  go_enter Tryd.func10, Tryd.ntmps10
  go_wp2_with fail
  refine (numbers_gives _ _).mono ?_
  rintro e w1 ⟨rfl, hov1⟩
  unfold numP
  go_wp2_with fail
  have hov : IsOv w w1 := ((IsOv.refl w).alloc _).trans hov1
  have p0 : w1.cell? ⟨w.heap.size, 0, none⟩ = some (.int .i64 l0) := hov1.cell (by rw [World.cell_alloc_cells, if_neg (Nat.lt_irrefl _), if_pos rfl]; rfl)
  have p1 : w1.cell? ⟨w.heap.size, 1, none⟩ = some (.int .i64 l1) := hov1.cell (by rw [World.cell_alloc_cells, if_neg (Nat.lt_irrefl _), if_pos rfl]; rfl)
  have p2 : w1.cell? ⟨w.heap.size, 2, none⟩ = some (.int .i64 l2) := hov1.cell (by rw [World.cell_alloc_cells, if_neg (Nat.lt_irrefl _), if_pos rfl]; rfl)
  have p3 : w1.cell? ⟨w.heap.size, 3, none⟩ = some (.int .i64 l3) := hov1.cell (by rw [World.cell_alloc_cells, if_neg (Nat.lt_irrefl _), if_pos rfl]; rfl)
  have p4 : w1.cell? ⟨w.heap.size, 4, none⟩ = some (.int .i64 l4) := hov1.cell (by rw [World.cell_alloc_cells, if_neg (Nat.lt_irrefl _), if_pos rfl]; rfl)
  have p5 : w1.cell? ⟨w.heap.size, 5, none⟩ = some (.int .i64 l5) := hov1.cell (by rw [World.cell_alloc_cells, if_neg (Nat.lt_irrefl _), if_pos rfl]; rfl)
  have hL1 := hL.of_isOv hov
  have e1 : w1.cell? ⟨0, 1, none⟩ = some (.int .i64 1) := hL1.en 1 (by decide)
  have e2 : w1.cell? ⟨0, 2, none⟩ = some (.int .i64 6) := hL1.en 2 (by decide)
  have e4 : w1.cell? ⟨0, 4, none⟩ = some (.int .i64 1) := hL1.en 4 (by decide)
  have e5 : w1.cell? ⟨0, 5, none⟩ = some (.int .i64 1000) := hL1.en 5 (by decide)
  have e7 : w1.cell? ⟨0, 7, none⟩ = some (.int .i64 1) := hL1.en 7 (by decide)
  have e8 : w1.cell? ⟨0, 8, none⟩ = some (.int .i64 1073741824) := hL1.en 8 (by decide)
  have e10 : w1.cell? ⟨0, 10, none⟩ = some (.int .i64 2) := hL1.en 10 (by decide)
  have e11 : w1.cell? ⟨0, 11, none⟩ = some (.int .i64 16777216) := hL1.en 11 (by decide)
  have e13 : w1.cell? ⟨0, 13, none⟩ = some (.int .i64 1) := hL1.en 13 (by decide)
  have e14 : w1.cell? ⟨0, 14, none⟩ = some (.int .i64 16777216) := hL1.en 14 (by decide)
  have e16 : w1.cell? ⟨0, 16, none⟩ = some (.int .i64 0) := hL1.en 16 (by decide)
  have e17 : w1.cell? ⟨0, 17, none⟩ = some (.int .i64 20) := hL1.en 17 (by decide)
  clear hov1 hL1
  go_loopw [6] (fun i wr => ∃ k : Nat, i = .int .i64 (k : Int) ∧ k ≤ 6 ∧ Hid (∀ j, j < k → (rights l0 l1 l2 l3 l4 l5)[j]? = some true) ∧ IsDr w1 wr) (fun i wr => (6 - intOf i).toNat)
  case atStart => exact ⟨0, rfl, Nat.zero_le _, fun j hj => absurd hj (Nat.not_lt_zero _), IsDr.refl _⟩
  case round =>
    obtain ⟨k, rfl, hk, hall, d, rfl⟩ := hrel
    have hk7 : k = 0 ∨ k = 1 ∨ k = 2 ∨ k = 3 ∨ k = 4 ∨ k = 5 ∨ k = 6 := by omega
    rcases hk7 with rfl | rfl | rfl | rfl | rfl | rfl | rfl
    · have hix := numP_index0 w.heap.size
      by_cases h1 : l0 < 1
      · have HV : Hid (rightB l0 l1 l2 l3 l4 l5 = false) := Lib.hid (rightB_false (k := 0) (congrArg some (rngB_low h1)))
        clear hall
        go_wp2_with (first | (refine wp_region_dr (by kernel_rfl) (by kernel_rfl) ?_; (repeat (go_big_quiet_step ((fail)))); refine wpQuiet_nil ?_; rintro _ ⟨nq, rfl⟩))
        exact bodyPost_ret (v := .bool false) (by simp [results, Tryd.results10, go_sem, ↓IntWalk.iteOmega]) rfl ⟨by rw [HV.out], hov.trans (by repeat (first | with_reducible exact IsOv.refl _ | with_reducible apply IsOv.dr | with_reducible apply IsOv.drewN | with_reducible apply IsOv.drew | with_reducible apply IsOv.alloc | with_reducible apply IsOv.ov))⟩
      · by_cases h2 : 6 < l0
        · have HV : Hid (rightB l0 l1 l2 l3 l4 l5 = false) := Lib.hid (rightB_false (k := 0) (congrArg some (rngB_high h2)))
          clear hall
          go_wp2_with (first | (refine wp_region_dr (by kernel_rfl) (by kernel_rfl) ?_; (repeat (go_big_quiet_step ((fail)))); refine wpQuiet_nil ?_; rintro _ ⟨nq, rfl⟩))
          exact bodyPost_ret (v := .bool false) (by simp [results, Tryd.results10, go_sem, ↓IntWalk.iteOmega]) rfl ⟨by rw [HV.out], hov.trans (by repeat (first | with_reducible exact IsOv.refl _ | with_reducible apply IsOv.dr | with_reducible apply IsOv.drewN | with_reducible apply IsOv.drew | with_reducible apply IsOv.alloc | with_reducible apply IsOv.ov))⟩
        · have H2 : Hid (∀ j, j < 1 → (rights l0 l1 l2 l3 l4 l5)[j]? = some true) := Lib.hid fun j hj => (by
            rcases Nat.lt_or_ge j 0 with h5 | h5
            · exact hall.out j h5
            · obtain rfl : j = 0 := by omega
              exact congrArg some (rngB_in h1 h2))
          clear hall
          go_wp2_with (first | (refine wp_region_dr (by kernel_rfl) (by kernel_rfl) ?_; (repeat (go_big_quiet_step ((fail)))); refine wpQuiet_nil ?_; rintro _ ⟨nq, rfl⟩))
          go_roundw
          case rel => exact ⟨1, by go_num, by omega, H2, by repeat (first | exact IsDr.refl _ | exact ⟨_, rfl⟩ | apply IsDr.dr | apply IsDr.drewN | apply IsDr.drew)⟩
          case measure => simp [intOf]
    · have hix := numP_index1 w.heap.size
      by_cases h1 : l1 < 1
      · have HV : Hid (rightB l0 l1 l2 l3 l4 l5 = false) := Lib.hid (rightB_false (k := 1) (congrArg some (rngB_low h1)))
        clear hall
        go_wp2_with (first | (refine wp_region_dr (by kernel_rfl) (by kernel_rfl) ?_; (repeat (go_big_quiet_step ((fail)))); refine wpQuiet_nil ?_; rintro _ ⟨nq, rfl⟩))
        exact bodyPost_ret (v := .bool false) (by simp [results, Tryd.results10, go_sem, ↓IntWalk.iteOmega]) rfl ⟨by rw [HV.out], hov.trans (by repeat (first | with_reducible exact IsOv.refl _ | with_reducible apply IsOv.dr | with_reducible apply IsOv.drewN | with_reducible apply IsOv.drew | with_reducible apply IsOv.alloc | with_reducible apply IsOv.ov))⟩
      · by_cases h2 : 1000 < l1
        · have HV : Hid (rightB l0 l1 l2 l3 l4 l5 = false) := Lib.hid (rightB_false (k := 1) (congrArg some (rngB_high h2)))
          clear hall
          go_wp2_with (first | (refine wp_region_dr (by kernel_rfl) (by kernel_rfl) ?_; (repeat (go_big_quiet_step ((fail)))); refine wpQuiet_nil ?_; rintro _ ⟨nq, rfl⟩))
          exact bodyPost_ret (v := .bool false) (by simp [results, Tryd.results10, go_sem, ↓IntWalk.iteOmega]) rfl ⟨by rw [HV.out], hov.trans (by repeat (first | with_reducible exact IsOv.refl _ | with_reducible apply IsOv.dr | with_reducible apply IsOv.drewN | with_reducible apply IsOv.drew | with_reducible apply IsOv.alloc | with_reducible apply IsOv.ov))⟩
        · have H2 : Hid (∀ j, j < 2 → (rights l0 l1 l2 l3 l4 l5)[j]? = some true) := Lib.hid fun j hj => (by
            rcases Nat.lt_or_ge j 1 with h5 | h5
            · exact hall.out j h5
            · obtain rfl : j = 1 := by omega
              exact congrArg some (rngB_in h1 h2))
          clear hall
          go_wp2_with (first | (refine wp_region_dr (by kernel_rfl) (by kernel_rfl) ?_; (repeat (go_big_quiet_step ((fail)))); refine wpQuiet_nil ?_; rintro _ ⟨nq, rfl⟩))
          go_roundw
          case rel => exact ⟨2, by go_num, by omega, H2, by repeat (first | exact IsDr.refl _ | exact ⟨_, rfl⟩ | apply IsDr.dr | apply IsDr.drewN | apply IsDr.drew)⟩
          case measure => simp [intOf]
    · have hix := numP_index2 w.heap.size
      by_cases h1 : l2 < 1
      · have HV : Hid (rightB l0 l1 l2 l3 l4 l5 = false) := Lib.hid (rightB_false (k := 2) (congrArg some (rngB_low h1)))
        clear hall
        go_wp2_with (first | (refine wp_region_dr (by kernel_rfl) (by kernel_rfl) ?_; (repeat (go_big_quiet_step ((fail)))); refine wpQuiet_nil ?_; rintro _ ⟨nq, rfl⟩))
        exact bodyPost_ret (v := .bool false) (by simp [results, Tryd.results10, go_sem, ↓IntWalk.iteOmega]) rfl ⟨by rw [HV.out], hov.trans (by repeat (first | with_reducible exact IsOv.refl _ | with_reducible apply IsOv.dr | with_reducible apply IsOv.drewN | with_reducible apply IsOv.drew | with_reducible apply IsOv.alloc | with_reducible apply IsOv.ov))⟩
      · by_cases h2 : 1073741824 < l2
        · have HV : Hid (rightB l0 l1 l2 l3 l4 l5 = false) := Lib.hid (rightB_false (k := 2) (congrArg some (rngB_high h2)))
          clear hall
          go_wp2_with (first | (refine wp_region_dr (by kernel_rfl) (by kernel_rfl) ?_; (repeat (go_big_quiet_step ((fail)))); refine wpQuiet_nil ?_; rintro _ ⟨nq, rfl⟩))
          exact bodyPost_ret (v := .bool false) (by simp [results, Tryd.results10, go_sem, ↓IntWalk.iteOmega]) rfl ⟨by rw [HV.out], hov.trans (by repeat (first | with_reducible exact IsOv.refl _ | with_reducible apply IsOv.dr | with_reducible apply IsOv.drewN | with_reducible apply IsOv.drew | with_reducible apply IsOv.alloc | with_reducible apply IsOv.ov))⟩
        · have H2 : Hid (∀ j, j < 3 → (rights l0 l1 l2 l3 l4 l5)[j]? = some true) := Lib.hid fun j hj => (by
            rcases Nat.lt_or_ge j 2 with h5 | h5
            · exact hall.out j h5
            · obtain rfl : j = 2 := by omega
              exact congrArg some (rngB_in h1 h2))
          clear hall
          go_wp2_with (first | (refine wp_region_dr (by kernel_rfl) (by kernel_rfl) ?_; (repeat (go_big_quiet_step ((fail)))); refine wpQuiet_nil ?_; rintro _ ⟨nq, rfl⟩))
          go_roundw
          case rel => exact ⟨3, by go_num, by omega, H2, by repeat (first | exact IsDr.refl _ | exact ⟨_, rfl⟩ | apply IsDr.dr | apply IsDr.drewN | apply IsDr.drew)⟩
          case measure => simp [intOf]
    · have hix := numP_index3 w.heap.size
      by_cases h1 : l3 < 2
      · have HV : Hid (rightB l0 l1 l2 l3 l4 l5 = false) := Lib.hid (rightB_false (k := 3) (congrArg some (rngB_low h1)))
        clear hall
        go_wp2_with (first | (refine wp_region_dr (by kernel_rfl) (by kernel_rfl) ?_; (repeat (go_big_quiet_step ((fail)))); refine wpQuiet_nil ?_; rintro _ ⟨nq, rfl⟩))
        exact bodyPost_ret (v := .bool false) (by simp [results, Tryd.results10, go_sem, ↓IntWalk.iteOmega]) rfl ⟨by rw [HV.out], hov.trans (by repeat (first | with_reducible exact IsOv.refl _ | with_reducible apply IsOv.dr | with_reducible apply IsOv.drewN | with_reducible apply IsOv.drew | with_reducible apply IsOv.alloc | with_reducible apply IsOv.ov))⟩
      · by_cases h2 : 16777216 < l3
        · have HV : Hid (rightB l0 l1 l2 l3 l4 l5 = false) := Lib.hid (rightB_false (k := 3) (congrArg some (rngB_high h2)))
          clear hall
          go_wp2_with (first | (refine wp_region_dr (by kernel_rfl) (by kernel_rfl) ?_; (repeat (go_big_quiet_step ((fail)))); refine wpQuiet_nil ?_; rintro _ ⟨nq, rfl⟩))
          exact bodyPost_ret (v := .bool false) (by simp [results, Tryd.results10, go_sem, ↓IntWalk.iteOmega]) rfl ⟨by rw [HV.out], hov.trans (by repeat (first | with_reducible exact IsOv.refl _ | with_reducible apply IsOv.dr | with_reducible apply IsOv.drewN | with_reducible apply IsOv.drew | with_reducible apply IsOv.alloc | with_reducible apply IsOv.ov))⟩
        · have H2 : Hid (∀ j, j < 4 → (rights l0 l1 l2 l3 l4 l5)[j]? = some true) := Lib.hid fun j hj => (by
            rcases Nat.lt_or_ge j 3 with h5 | h5
            · exact hall.out j h5
            · obtain rfl : j = 3 := by omega
              exact congrArg some (rngB_in h1 h2))
          clear hall
          go_wp2_with (first | (refine wp_region_dr (by kernel_rfl) (by kernel_rfl) ?_; (repeat (go_big_quiet_step ((fail)))); refine wpQuiet_nil ?_; rintro _ ⟨nq, rfl⟩))
          go_roundw
          case rel => exact ⟨4, by go_num, by omega, H2, by repeat (first | exact IsDr.refl _ | exact ⟨_, rfl⟩ | apply IsDr.dr | apply IsDr.drewN | apply IsDr.drew)⟩
          case measure => simp [intOf]
    · have hix := numP_index4 w.heap.size
      by_cases h1 : l4 < 1
      · have HV : Hid (rightB l0 l1 l2 l3 l4 l5 = false) := Lib.hid (rightB_false (k := 4) (congrArg some (rngB_low h1)))
        clear hall
        go_wp2_with (first | (refine wp_region_dr (by kernel_rfl) (by kernel_rfl) ?_; (repeat (go_big_quiet_step ((fail)))); refine wpQuiet_nil ?_; rintro _ ⟨nq, rfl⟩))
        exact bodyPost_ret (v := .bool false) (by simp [results, Tryd.results10, go_sem, ↓IntWalk.iteOmega]) rfl ⟨by rw [HV.out], hov.trans (by repeat (first | with_reducible exact IsOv.refl _ | with_reducible apply IsOv.dr | with_reducible apply IsOv.drewN | with_reducible apply IsOv.drew | with_reducible apply IsOv.alloc | with_reducible apply IsOv.ov))⟩
      · by_cases h2 : 16777216 < l4
        · have HV : Hid (rightB l0 l1 l2 l3 l4 l5 = false) := Lib.hid (rightB_false (k := 4) (congrArg some (rngB_high h2)))
          clear hall
          go_wp2_with (first | (refine wp_region_dr (by kernel_rfl) (by kernel_rfl) ?_; (repeat (go_big_quiet_step ((fail)))); refine wpQuiet_nil ?_; rintro _ ⟨nq, rfl⟩))
          exact bodyPost_ret (v := .bool false) (by simp [results, Tryd.results10, go_sem, ↓IntWalk.iteOmega]) rfl ⟨by rw [HV.out], hov.trans (by repeat (first | with_reducible exact IsOv.refl _ | with_reducible apply IsOv.dr | with_reducible apply IsOv.drewN | with_reducible apply IsOv.drew | with_reducible apply IsOv.alloc | with_reducible apply IsOv.ov))⟩
        · have H2 : Hid (∀ j, j < 5 → (rights l0 l1 l2 l3 l4 l5)[j]? = some true) := Lib.hid fun j hj => (by
            rcases Nat.lt_or_ge j 4 with h5 | h5
            · exact hall.out j h5
            · obtain rfl : j = 4 := by omega
              exact congrArg some (rngB_in h1 h2))
          clear hall
          go_wp2_with (first | (refine wp_region_dr (by kernel_rfl) (by kernel_rfl) ?_; (repeat (go_big_quiet_step ((fail)))); refine wpQuiet_nil ?_; rintro _ ⟨nq, rfl⟩))
          go_roundw
          case rel => exact ⟨5, by go_num, by omega, H2, by repeat (first | exact IsDr.refl _ | exact ⟨_, rfl⟩ | apply IsDr.dr | apply IsDr.drewN | apply IsDr.drew)⟩
          case measure => simp [intOf]
    · have hix := numP_index5 w.heap.size
      by_cases h1 : l5 < 0
      · have HV : Hid (rightB l0 l1 l2 l3 l4 l5 = false) := Lib.hid (rightB_false (k := 5) (congrArg some (rngB_low h1)))
        clear hall
        go_wp2_with (first | (refine wp_region_dr (by kernel_rfl) (by kernel_rfl) ?_; (repeat (go_big_quiet_step ((fail)))); refine wpQuiet_nil ?_; rintro _ ⟨nq, rfl⟩))
        exact bodyPost_ret (v := .bool false) (by simp [results, Tryd.results10, go_sem, ↓IntWalk.iteOmega]) rfl ⟨by rw [HV.out], hov.trans (by repeat (first | with_reducible exact IsOv.refl _ | with_reducible apply IsOv.dr | with_reducible apply IsOv.drewN | with_reducible apply IsOv.drew | with_reducible apply IsOv.alloc | with_reducible apply IsOv.ov))⟩
      · by_cases h2 : 20 < l5
        · have HV : Hid (rightB l0 l1 l2 l3 l4 l5 = false) := Lib.hid (rightB_false (k := 5) (congrArg some (rngB_high h2)))
          clear hall
          go_wp2_with (first | (refine wp_region_dr (by kernel_rfl) (by kernel_rfl) ?_; (repeat (go_big_quiet_step ((fail)))); refine wpQuiet_nil ?_; rintro _ ⟨nq, rfl⟩))
          exact bodyPost_ret (v := .bool false) (by simp [results, Tryd.results10, go_sem, ↓IntWalk.iteOmega]) rfl ⟨by rw [HV.out], hov.trans (by repeat (first | with_reducible exact IsOv.refl _ | with_reducible apply IsOv.dr | with_reducible apply IsOv.drewN | with_reducible apply IsOv.drew | with_reducible apply IsOv.alloc | with_reducible apply IsOv.ov))⟩
        · have H2 : Hid (∀ j, j < 6 → (rights l0 l1 l2 l3 l4 l5)[j]? = some true) := Lib.hid fun j hj => (by
            rcases Nat.lt_or_ge j 5 with h5 | h5
            · exact hall.out j h5
            · obtain rfl : j = 5 := by omega
              exact congrArg some (rngB_in h1 h2))
          clear hall
          go_wp2_with (first | (refine wp_region_dr (by kernel_rfl) (by kernel_rfl) ?_; (repeat (go_big_quiet_step ((fail)))); refine wpQuiet_nil ?_; rintro _ ⟨nq, rfl⟩))
          go_roundw
          case rel => exact ⟨6, by go_num, by omega, H2, by repeat (first | exact IsDr.refl _ | exact ⟨_, rfl⟩ | apply IsDr.dr | apply IsDr.drewN | apply IsDr.drew)⟩
          case measure => simp [intOf]
    ·
      have HV : Hid (rightB l0 l1 l2 l3 l4 l5 = true) := Lib.hid (rightB_true hall.out)
      clear hall
      go_wp2_with fail
      exact bodyPost_ret (v := .bool true) (by simp [results, Tryd.results10, go_sem, ↓IntWalk.iteOmega]) rfl ⟨by rw [HV.out], hov.trans (by repeat (first | with_reducible exact IsOv.refl _ | with_reducible apply IsOv.dr | with_reducible apply IsOv.drewN | with_reducible apply IsOv.drew | with_reducible apply IsOv.alloc | with_reducible apply IsOv.ov))⟩
end Go.Proofs.YtaibjaienhnckaaDoor
