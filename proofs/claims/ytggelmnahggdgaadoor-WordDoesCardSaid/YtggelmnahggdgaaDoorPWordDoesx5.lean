-- PRINTED BY print.sh 35421559b90ae4d0a3588c463048766b98c2df88dd9212a6774a882060cdf62d: not written by this session
import Derived.Test.YtggelmnahggdgaaDoorPWordDoesx0
import Derived.Test.YtggelmnahggdgaaDoorPWordDoesx1
import Derived.Test.YtggelmnahggdgaaDoorPWordDoesx3
namespace Go.Proofs.YtggelmnahggdgaaDoor.PWordDoes
open Go.RowKit Go.Proofs.YtggelmnahggdgaaDoorW.PrintWords Go.Proofs.YtggelmnahggdgaaDoorW.PrintLast Go.Proofs.YtggelmnahggdgaaDoorW.PrintMore
attribute [local go_sem] max2_int min2_int max_two min_two max_three min_three max_four min_four   -- for this text's walks alone
set_option linter.unusedVariables false
set_option linter.unusedSimpArgs false

/-! ### skuaref01_shift: function 39 -/
mutual
def skuaref01_shift.l0 : Nat → Int → Int → Bool → List Bool → Int → Int → Bool → Option (Int)
  | 0, _, _, _, _, _, _, _ => none
  | k + 1, x1, x2, x3, x9, x10, x178000, x178001 => if x10 < x2 then (skuaref01_shift.j1 k x1 x2 x3 x9 x10 (decide (x10 < 64)) x178000 x178001) else (skuaref01_shift.j1 k x1 x2 x3 x9 x10 false x178000 x178001)
def skuaref01_shift.j1 : Nat → Int → Int → Bool → List Bool → Int → Bool → Int → Bool → Option (Int)
  | 0, _, _, _, _, _, _, _, _ => none
  | k + 1, x1, x2, x3, x9, x10, x21, x178000, x178001 => if x21 = true then (if x3 = true then ((some (([false] : List Bool) : List Bool)).bind fun y181 => (if 0 ≤ (wrap64 (x178000 - 1)) then (if (wrap64 (x178000 - 1)) ≤ (x9.length : Int) then ((some (x9.take ((wrap64 (x178000 - 1)) : Int).toNat : List Bool)).bind fun y184 => (if y181.length + y184.length < 140737488355328 then (skuaref01_shift.l0 k x1 x2 x3 (y181 ++ y184) (IntKind.u64.wrap (x10 + 1)) x178000 x178001) else (none))) else (none)) else (none))) else ((some (([] : List Bool) : List Bool)).bind fun y191 => (if 1 ≤ (x9.length : Int) then ((some (x9.drop 1 : List Bool)).bind fun y194 => (if y191.length + y194.length < 140737488355328 then ((some (y191 ++ y194 : List Bool)).bind fun y198 => ((skuaref01_Neg.f k x178000 x178001 x1).bind fun t201 => (if y198.length < 140737488355328 then (skuaref01_shift.l0 k x1 x2 x3 (y198 ++ [t201]) (IntKind.u64.wrap (x10 + 1)) x178000 x178001) else (none)))) else (none))) else (none)))) else ((skuaref01_Value.f k x9).bind fun t205 => (some t205))
end
def skuaref01_shift.f (k : Nat) (a0_0 : Int) (a0_1 : Bool) (a1 : Int) (a2 : Int) (a3 : Bool) : Option (Int) := (skuaref01_Bits.f k a1 a0_0).bind fun t178 => (skuaref01_shift.l0 k a1 a2 a3 t178 0 a0_0 a0_1)
theorem skuaref01_shift.mono_l : ∀ k, (∀ y0 y1 y2 y3 y4 y5 y6, LeO (skuaref01_shift.l0 k y0 y1 y2 y3 y4 y5 y6) (skuaref01_shift.l0 (k + 1) y0 y1 y2 y3 y4 y5 y6)) ∧ (∀ y0 y1 y2 y3 y4 y5 y6 y7, LeO (skuaref01_shift.j1 k y0 y1 y2 y3 y4 y5 y6 y7) (skuaref01_shift.j1 (k + 1) y0 y1 y2 y3 y4 y5 y6 y7))
  | 0 => ⟨fun _ _ _ _ _ _ _ r h => by simp [skuaref01_shift.l0] at h, fun _ _ _ _ _ _ _ _ r h => by simp [skuaref01_shift.j1] at h⟩
  | k + 1 => by
    obtain ⟨ih0, ih1⟩ := skuaref01_shift.mono_l k
    refine ⟨?_, ?_⟩
    · intro y0 y1 y2 y3 y4 y5 y6
      unfold skuaref01_shift.l0
      repeat' first
      | (with_reducible exact ih0 _ _ _ _ _ _ _)
      | (with_reducible exact ih1 _ _ _ _ _ _ _ _)
      | (with_reducible exact skuaref01_Bits.mono _ _ _)
      | (with_reducible exact skuaref01_Neg.mono _ _ _ _)
      | (with_reducible exact skuaref01_Value.mono _ _)
      | (with_reducible exact LeO.refl _)
      | (with_reducible exact LeO.none _)
      | (with_reducible refine LeO.ite ?_ ?_)
      | (with_reducible refine LeO.bind ?_ (fun _ => ?_))
      | exact ih0 _ _ _ _ _ _ _
      | exact ih1 _ _ _ _ _ _ _ _
      | exact skuaref01_Bits.mono _ _ _
      | exact skuaref01_Neg.mono _ _ _ _
      | exact skuaref01_Value.mono _ _
      | exact LeO.none _
      | refine LeO.ite ?_ ?_
      | refine LeO.bind ?_ (fun _ => ?_)
    · intro y0 y1 y2 y3 y4 y5 y6 y7
      unfold skuaref01_shift.j1
      repeat' first
      | (with_reducible exact ih0 _ _ _ _ _ _ _)
      | (with_reducible exact ih1 _ _ _ _ _ _ _ _)
      | (with_reducible exact skuaref01_Bits.mono _ _ _)
      | (with_reducible exact skuaref01_Neg.mono _ _ _ _)
      | (with_reducible exact skuaref01_Value.mono _ _)
      | (with_reducible exact LeO.refl _)
      | (with_reducible exact LeO.none _)
      | (with_reducible refine LeO.ite ?_ ?_)
      | (with_reducible refine LeO.bind ?_ (fun _ => ?_))
      | exact ih0 _ _ _ _ _ _ _
      | exact ih1 _ _ _ _ _ _ _ _
      | exact skuaref01_Bits.mono _ _ _
      | exact skuaref01_Neg.mono _ _ _ _
      | exact skuaref01_Value.mono _ _
      | exact LeO.none _
      | refine LeO.ite ?_ ?_
      | refine LeO.bind ?_ (fun _ => ?_)
theorem skuaref01_shift.mono : ∀ a0 a1 a2 a3 a4 k, LeO (skuaref01_shift.f k a0 a1 a2 a3 a4) (skuaref01_shift.f (k + 1) a0 a1 a2 a3 a4) := by
  intro a0 a1 a2 a3 a4 k
  obtain ⟨ih0, ih1⟩ := skuaref01_shift.mono_l k
  unfold skuaref01_shift.f
  repeat' first
      | (with_reducible exact ih0 _ _ _ _ _ _ _)
      | (with_reducible exact ih1 _ _ _ _ _ _ _ _)
      | (with_reducible exact skuaref01_Bits.mono _ _ _)
      | (with_reducible exact skuaref01_Neg.mono _ _ _ _)
      | (with_reducible exact skuaref01_Value.mono _ _)
      | (with_reducible exact LeO.refl _)
      | (with_reducible exact LeO.none _)
      | (with_reducible refine LeO.ite ?_ ?_)
      | (with_reducible refine LeO.bind ?_ (fun _ => ?_))
      | exact ih0 _ _ _ _ _ _ _
      | exact ih1 _ _ _ _ _ _ _ _
      | exact skuaref01_Bits.mono _ _ _
      | exact skuaref01_Neg.mono _ _ _ _
      | exact skuaref01_Value.mono _ _
      | exact LeO.none _
      | refine LeO.ite ?_ ?_
      | refine LeO.bind ?_ (fun _ => ?_)
def skuaref01_shift.T7 : Bool × List (List Nat × List Nat) := (true, [([], []), ([], []), ([1], [1]), ([0, 2], [0, 2]), ([], []), ([], []), ([4, 5, 3], [4, 5]), ([6], [6]), ([3, 7, 6], [3, 7]), ([8, 8, 0, 1, 2, 3, 4, 5, 6, 7, 8], [1, 8])])
def skuaref01_shift.B7 : List Nat := [0, 0, 2, 7, 0, 0, 63, 127, 255, 511]
theorem skuaref01_shift.tab7 : rtab .any (opsOf Tryd.f39 7) = skuaref01_shift.T7 := by kernel_rfl
theorem skuaref01_shift.bits7 : waitsOk skuaref01_shift.T7.2 skuaref01_shift.B7 = true := by kernel_rfl
set_option maxHeartbeats 8000000 in
set_option maxRecDepth 100000 in
theorem skuaref01_shift.calls (k : Nat) (a0_0 : Int) (a0_1 : Bool) (a1 : Int) (a2 : Int) (a3 : Bool) (r : Int) (w : World) (h : skuaref01_shift.f k a0_0 a0_1 a1 a2 a3 = some r) :
    Calls Tryd.prog 39 #[.agg #[.int .i64 a0_0, .bool a0_1], .int .u64 a1, .int .u64 a2, .bool a3] w fun e w' => e = .returned (.int .u64 r) ∧ Below w.heap.size w w' := by
  have hu23 := Tryd.underlying23
  have HB := Aside0.mk (Below.refl w.heap.size w)
  have H : ((skuaref01_Bits.f k a1 a0_0).bind fun t178 => (skuaref01_shift.l0 k a1 a2 a3 t178 0 a0_0 a0_1)) = some r := h
  clear h
  replace H := Option.bind_eq_some_iff.mp H
  obtain ⟨t178, A50, H⟩ := H
  replace H : (skuaref01_shift.l0 k a1 a2 a3 t178 0 a0_0 a0_1) = some r := H
  have A5 := Aside0.mk A50
  clear A50
  have H' := Aside0.mk H
  clear H
  go_enter Tryd.func39, Tryd.ntmps39
  go_wp2_with (first | ((with_reducible refine gate_dst (N := 4) rfl ?_); refine box_event ?hg (N := 4) ?hd (cs := #[.int .i64 a0_0, .bool a0_1]) (t := 23) ?hr ?_; (case hd => rfl); (case hg => rfl); (case hr => first | (go_simp; done) | (go_simp; rfl)); intro gb177 hg w6 hbox hb; have n0_ := Aside0.mk (below_step (by repeat (first | (with_reducible first | exact HB.out | apply below_alloc | apply pw_below_drewN | apply below_drew1) | exact HB.out)) hb); have n1_ := Aside0.mk (hbox); have n2_ := Aside0.mk ((by rw [hg]; exact (below_size (by repeat (first | (with_reducible first | exact HB.out | apply below_alloc | apply pw_below_drewN | apply below_drew1) | exact HB.out))) : w.heap.size ≤ gb177)); have n3_ := Aside0.mk ((by rw [hg]; exact (below_size (by repeat (first | (with_reducible first | exact HB.out | apply below_alloc | apply pw_below_drewN | apply below_drew1) | exact HB.out))) : w.heap.size ≤ gb177)); clear HB; have HB := n0_; have BK177 := n1_; have GW177 := n2_; have GE177 := n3_; clear n0_ n1_ n2_ n3_; clear hb hbox hg; have hcz7_0 : w6.cell? ⟨gb177, 0, none⟩ = some (.int .i64 a0_0) := (blk_cell BK177.out 0).trans rfl; have hcz7_1 : w6.cell? ⟨gb177, 1, none⟩ = some (.bool a0_1) := (blk_cell BK177.out 1).trans rfl; have hfz7_0 := blk_frozen BK177.out 0; have hfz7_1 := blk_frozen BK177.out 1) | ((with_reducible refine gate_callee (f := 34) rfl ?_); refine goesL_ (some 14) rfl rfl Tryd.func34 (by kernel_rfl) rfl #[.int .u64 a1, .int .i64 a0_0] rfl (by (try simp only [List.map_toArray, List.map_cons, List.map_nil]); first | done | rfl | (simp only [List.length_drop, List.length_take]; rfl)) ?_; (with_reducible refine (skuaref01_Bits.calls k a1 a0_0 t178 _ A5.out).mono ?_); rintro e w8 ⟨v179, rfl, ho0, hb⟩; refine ⟨_, rfl, ?_⟩; have n0_ := Aside0.mk (Kd.R_lower ho0 (below_size (by repeat (first | (with_reducible first | exact HB.out | apply below_alloc | apply pw_below_drewN | apply below_drew1 | refine below_set ?_ GE177.out) | exact HB.out)))); have n1_ := Aside0.mk (blk_below (g := gb177) (o := .cells #[.int .i64 a0_0, .bool a0_1] 23 (0, 0)) (by (with_reducible repeat (first | refine blk_drewN ?_ _ | refine blk_drew ?_ | refine blk_alloc ?_ _)); exact BK177.out) hb); have n2_ := Aside0.mk (below_step (by repeat (first | (with_reducible first | exact HB.out | apply below_alloc | apply pw_below_drewN | apply below_drew1 | refine below_set ?_ GE177.out) | exact HB.out)) hb); clear BK177; clear HB; have HO180 := n0_; have BK177 := n1_; have HB := n2_; clear n0_ n1_ n2_; (try clear hb); (try clear hb2); (try clear hk); (try clear hi); (try clear ho0)))
  go_loopg [9, 10] k (fun kq v9 v10 w' => ∃ (x9_1 : List Bool) (x10_1 : Int), v10 = .int .u64 x10_1 ∧ Aside0 (skuaref01_shift.l0 kq a1 a2 a3 x9_1 x10_1 a0_0 a0_1 = some r) ∧ Aside0 (kq ≤ k) ∧ Aside0 (Kd.R Kd.bool 4 w' w.heap.size (fun _ => True) v9 x9_1) ∧ Aside0 (w'.heap[gb177]? = some (.cells #[.int .i64 a0_0, .bool a0_1] 23 (0, 0))) ∧ Aside0 (Below w.heap.size w w'))
  case atStart => exact ⟨(t178), (0), (by first | rfl | (simp; done) | (simp [*]; done)), H', ⟨Nat.le_refl _⟩, ⟨by (with_reducible repeat (first | apply Kd.R_alloc | apply Kd.R_drewN | apply Kd.R_drew)); exact HO180.out⟩, ⟨by (with_reducible repeat (first | refine blk_drewN ?_ _ | refine blk_drew ?_ | refine blk_alloc ?_ _)); exact BK177.out⟩, ⟨by repeat (first | (with_reducible first | exact HB.out | apply below_alloc | apply pw_below_drewN | apply below_drew1 | refine below_set ?_ GE177.out) | exact HB.out)⟩⟩
  case round =>
    clear H'
    try clear p2
    try clear c3
    try clear hcz7_0
    try clear hcz7_1
    try clear hfz7_0
    try clear hfz7_1
    obtain ⟨x9_1, x10_1, rfl, HA, HK1, HO_9, BK177, HB⟩ := hrel
    cases gk with
    | zero => exact absurd HA.out (by simp [skuaref01_shift.l0])
    | succ k1 =>
      have H := HA.out
      clear HA
      simp only [skuaref01_shift.l0] at H
      have HC9 := Aside0.mk H
      clear H
      go_upto_region 3 with (fail)
      go_cut [21] (fun v21 wc => ∃ (kq : Nat) (x21_8 : Bool), v21 = .bool x21_8 ∧ Aside0 (skuaref01_shift.j1 kq a1 a2 a3 x9_1 x10_1 x21_8 a0_0 a0_1 = some r) ∧ Aside0 (kq ≤ k1) ∧ Aside0 (Kd.R Kd.bool 4 wc w.heap.size (fun _ => True) u9 x9_1) ∧ Aside0 (wc.heap[gb177]? = some (.cells #[.int .i64 a0_0, .bool a0_1] 23 (0, 0))) ∧ Aside0 (Below w.heap.size w wc))
      case first =>
        have H := HC9.out
        clear HC9
        by_cases c10 : x10_1 < a2
        · rw [if_pos c10] at H
          have c10b0 : decide (x10_1 < a2) = true := decide_eq_true c10
          clear c10
          (first | rw [c10b0] | (simp only [i64_w, i32_w]; rw [c10b0]) | skip)
          have H' := Aside0.mk H
          clear H
          go_wp2
          go_meet
          case rel => exact ⟨_, (decide (x10_1 < 64)), (by first | rfl | (simp; done) | (simp [*]; done)), H', ⟨by have := HK1.out; first | omega | exact Nat.le_refl _⟩, ⟨by (with_reducible repeat (first | apply Kd.R_alloc | apply Kd.R_drewN | apply Kd.R_drew)); exact HO_9.out⟩, ⟨by (with_reducible repeat (first | refine blk_drewN ?_ _ | refine blk_drew ?_ | refine blk_alloc ?_ _)); exact BK177.out⟩, ⟨by repeat (first | (with_reducible first | exact HB.out | apply below_alloc | apply pw_below_drewN | apply below_drew1 | refine below_set ?_ GE177.out) | exact HB.out)⟩⟩
        · rw [if_neg c10] at H
          have c10b0 : decide (x10_1 < a2) = false := decide_eq_false c10
          clear c10
          (first | rw [c10b0] | (simp only [i64_w, i32_w]; rw [c10b0]) | skip)
          have H' := Aside0.mk H
          clear H
          go_wp2
          go_meet
          case rel => exact ⟨_, (false), (by first | rfl | (simp; done) | (simp [*]; done)), H', ⟨by have := HK1.out; first | omega | exact Nat.le_refl _⟩, ⟨by (with_reducible repeat (first | apply Kd.R_alloc | apply Kd.R_drewN | apply Kd.R_drew)); exact HO_9.out⟩, ⟨by (with_reducible repeat (first | refine blk_drewN ?_ _ | refine blk_drew ?_ | refine blk_alloc ?_ _)); exact BK177.out⟩, ⟨by repeat (first | (with_reducible first | exact HB.out | apply below_alloc | apply pw_below_drewN | apply below_drew1 | refine below_set ?_ GE177.out) | exact HB.out)⟩⟩
      case rest =>
        clear HC9
        try clear c1
        try clear p2
        try clear c3
        try clear c10
        try clear c10b0
        try clear hcz7_0
        try clear hcz7_1
        try clear hfz7_0
        try clear hfz7_1
        try clear p2
        obtain ⟨kq, x21_8, rfl, HA, HJ8, HO_9, BK177, HB⟩ := hcut
        cases kq with
        | zero => exact absurd HA.out (by simp [skuaref01_shift.j1])
        | succ kj8 =>
          have H := HA.out
          clear HA
          simp only [skuaref01_shift.j1] at H
          by_cases c11 : x21_8 = true
          · subst c11
            have H1 : (if a3 = true then ((some (([false] : List Bool) : List Bool)).bind fun y181 => (if 0 ≤ (wrap64 (a0_0 - 1)) then (if (wrap64 (a0_0 - 1)) ≤ (x9_1.length : Int) then ((some (x9_1.take ((wrap64 (a0_0 - 1)) : Int).toNat : List Bool)).bind fun y184 => (if y181.length + y184.length < 140737488355328 then (skuaref01_shift.l0 kj8 a1 a2 a3 (y181 ++ y184) (IntKind.u64.wrap (x10_1 + 1)) a0_0 a0_1) else (none))) else (none)) else (none))) else ((some (([] : List Bool) : List Bool)).bind fun y191 => (if 1 ≤ (x9_1.length : Int) then ((some (x9_1.drop 1 : List Bool)).bind fun y194 => (if y191.length + y194.length < 140737488355328 then ((some (y191 ++ y194 : List Bool)).bind fun y198 => ((skuaref01_Neg.f kj8 a0_0 a0_1 a1).bind fun t201 => (if y198.length < 140737488355328 then (skuaref01_shift.l0 kj8 a1 a2 a3 (y198 ++ [t201]) (IntKind.u64.wrap (x10_1 + 1)) a0_0 a0_1) else (none)))) else (none))) else (none)))) = some r := by rw [if_pos rfl] at H; exact H
            clear H
            have H := H1
            clear H1
            by_cases c12 : a3 = true
            · subst c12
              have H1 : ((some (([false] : List Bool) : List Bool)).bind fun y181 => (if 0 ≤ (wrap64 (a0_0 - 1)) then (if (wrap64 (a0_0 - 1)) ≤ (x9_1.length : Int) then ((some (x9_1.take ((wrap64 (a0_0 - 1)) : Int).toNat : List Bool)).bind fun y184 => (if y181.length + y184.length < 140737488355328 then (skuaref01_shift.l0 kj8 a1 a2 true (y181 ++ y184) (IntKind.u64.wrap (x10_1 + 1)) a0_0 a0_1) else (none))) else (none)) else (none))) = some r := by rw [if_pos rfl] at H; exact H
              clear H
              have H := H1
              clear H1
              obtain ⟨y181, hy181⟩ : ∃ y_ : List Bool, y_ = (([false] : List Bool)) := ⟨_, rfl⟩
              replace H : (if 0 ≤ (wrap64 (a0_0 - 1)) then (if (wrap64 (a0_0 - 1)) ≤ (x9_1.length : Int) then ((some (x9_1.take ((wrap64 (a0_0 - 1)) : Int).toNat : List Bool)).bind fun y184 => (if y181.length + y184.length < 140737488355328 then (skuaref01_shift.l0 kj8 a1 a2 true (y181 ++ y184) (IntKind.u64.wrap (x10_1 + 1)) a0_0 a0_1) else (none))) else (none)) else (none)) = some r := by first | (rw [hy181]; with_reducible exact H) | (have H2_ := (Option.bind_some _ _).symm.trans H; rw [hy181]; with_reducible exact H2_) | (have H2_ := (Option.bind_some _ _).symm.trans H; with_reducible exact H2_) | with_reducible exact H | (rw [hy181]; exact H) | exact H
              have Ny181 := Aside0.mk hy181
              clear hy181
              obtain ⟨ji13, hji13⟩ : ∃ j_ : Int, (wrap64 (a0_0 - 1)) = j_ := ⟨_, rfl⟩
              replace H : (if 0 ≤ (ji13) then (if (ji13) ≤ (x9_1.length : Int) then ((some (x9_1.take ((ji13) : Int).toNat : List Bool)).bind fun y184 => (if y181.length + y184.length < 140737488355328 then (skuaref01_shift.l0 kj8 a1 a2 true (y181 ++ y184) (IntKind.u64.wrap (x10_1 + 1)) a0_0 a0_1) else (none))) else (none)) else (none)) = some r := by first | (rw [hji13] at H; exact H) | (simp only [hji13] at H ⊢; exact H)
              have hji13w : (IntKind.i64.wrap (a0_0 - 1)) = ji13 := (i64_w _).trans hji13
              by_cases c14 : 0 ≤ (ji13)
              · rw [if_pos c14] at H
                have c14b0 := eq_true c14
                have c14b1 : decide (0 ≤ (ji13)) = true := decide_eq_true c14
                clear c14
                by_cases c15 : (ji13) ≤ (x9_1.length : Int)
                · rw [if_pos c15] at H
                  have c15b0 := eq_true c15
                  have c15b1 : decide ((ji13) ≤ (x9_1.length : Int)) = true := decide_eq_true c15
                  clear c15
                  obtain ⟨y184, hy184⟩ : ∃ y_ : List Bool, y_ = (x9_1.take ((ji13) : Int).toNat) := ⟨_, rfl⟩
                  replace H : (if y181.length + y184.length < 140737488355328 then (skuaref01_shift.l0 kj8 a1 a2 true (y181 ++ y184) (IntKind.u64.wrap (x10_1 + 1)) a0_0 a0_1) else (none)) = some r := by first | (rw [hy184]; with_reducible exact H) | (have H2_ := (Option.bind_some _ _).symm.trans H; rw [hy184]; with_reducible exact H2_) | (have H2_ := (Option.bind_some _ _).symm.trans H; with_reducible exact H2_) | with_reducible exact H | (rw [hy184]; exact H) | exact H
                  have Ny184 := Aside0.mk hy184
                  clear hy184
                  by_cases c16 : y181.length + y184.length < 140737488355328
                  · rw [if_pos c16] at H
                    have LMc16 := Aside0.mk c16
                    clear c16
                    obtain ⟨y188, hy188⟩ : ∃ y_ : List Bool, y_ = (y181 ++ y184) := ⟨_, rfl⟩
                    replace H : (skuaref01_shift.l0 kj8 a1 a2 true y188 (IntKind.u64.wrap (x10_1 + 1)) a0_0 a0_1) = some r := by first | (rw [hy188]; with_reducible exact H) | (have H2_ := (Option.bind_some _ _).symm.trans H; rw [hy188]; with_reducible exact H2_) | (have H2_ := (Option.bind_some _ _).symm.trans H; with_reducible exact H2_) | with_reducible exact H | (rw [hy188]; exact H) | exact H
                    have Ny188 := Aside0.mk hy188
                    clear hy188
                    have H' := Aside0.mk H
                    clear H
                    go_wp2_with (first | ((with_reducible refine gate_dst (N := 25) rfl ?_); refine Kd.R_lit Kd.bool _ 4 ?hg (N := 25) ?hd (xs := ([false] : List Bool)) (inner := [.bool false]) (ok := fun _ => True) (okp := fun _ => True) ?hr ?hp (fun _ hk => hk) trivial (Below.refl _ _) (Nat.le_refl _) (by simp) ?_; (case hd => rfl); (case hg => rfl); (case hr => first | (go_simp; done) | (go_simp; rfl)); (case hp => exact (Reps.one (show Kd.M Kd.bool _ _ _ false [.bool false] from rfl) (Reps.none _ _))); intro v182 w17 ho18 hb hg_ hnew_; clear hg_ hnew_; (first | rw [← Ny181.out] at ho18 | (simp only [Int.reduceToNat] at ho18; rw [← Ny181.out] at ho18)); have n0_ := Aside0.mk (Kd.R_elder' (by (with_reducible repeat (first | apply Kd.R_alloc | apply Kd.R_drewN | apply Kd.R_drew)); exact HO_9.out) (Kd.R_base ho18) hb); have n1_ := Aside0.mk (Kd.R_lower (Kd.R_new' ho18 (Kd.R_lt (by (with_reducible repeat (first | apply Kd.R_alloc | apply Kd.R_drewN | apply Kd.R_drew)); exact HO_9.out))) (below_size (by repeat (first | (with_reducible first | exact HB.out | apply below_alloc | apply pw_below_drewN | apply below_drew1 | refine below_set ?_ GE177.out) | exact HB.out)))); have n2_ := Aside0.mk (blk_below (g := gb177) (o := .cells #[.int .i64 a0_0, .bool a0_1] 23 (0, 0)) (by (with_reducible repeat (first | refine blk_drewN ?_ _ | refine blk_drew ?_ | refine blk_alloc ?_ _)); exact BK177.out) hb); have n3_ := Aside0.mk (below_step (by repeat (first | (with_reducible first | exact HB.out | apply below_alloc | apply pw_below_drewN | apply below_drew1 | refine below_set ?_ GE177.out) | exact HB.out)) hb); clear HO_9; clear BK177; clear HB; have HO_9 := n0_; have HO183 := n1_; have BK177 := n2_; have HB := n3_; clear n0_ n1_ n2_ n3_; clear hb ho18; have hcz19_0 : w17.cell? ⟨gb177, 0, none⟩ = some (.int .i64 a0_0) := (blk_cell BK177.out 0).trans rfl; have hcz19_1 : w17.cell? ⟨gb177, 1, none⟩ = some (.bool a0_1) := (blk_cell BK177.out 1).trans rfl; have hfz19_0 := blk_frozen BK177.out 0; have hfz19_1 := blk_frozen BK177.out 1; obtain ⟨Ao21, co21, eo21⟩ := Kd.R_slice HO_9.out; subst eo21; have q20 : ((ji13) : Int) ≤ ((x9_1.length : Int) : Int) := of_decide_eq_true (by first | (with_reducible assumption) | assumption); obtain ⟨i020, hi020, _, hsz20, _⟩ := info_parts info4; have hroom20 : x9_1.length ≤ co21 := (Kd.R_reads' HO_9.out).2.1; have hC20 : Kd.C Kd.bool _ Ao21 x9_1.length x9_1 := (Kd.R_reads' HO_9.out).2.2; have hcut20 := cut_to (P := Tryd.prog) 53 4 .i64 Tryd.underlying53 hi020 Ao21 x9_1.length co21 (ji13) (of_decide_eq_true (by first | (with_reducible assumption) | assumption)) q20 hroom20; have hr20 := Kd.C_take (m := ((ji13) : Int).toNat) hC20 (by omega); have hy20 : y184.length = ((ji13) : Int).toNat := (by rw [Ny184.out, List.length_take]; omega); rw [← Ny184.out] at hr20; rw [← hy20] at hcut20; have HR187 := Aside0.mk hr20; have HC187 := Aside0.mk (show y184.length ≤ co21 from by omega); clear hr20 hC20 hroom20 hi020 hsz20; have KY20 := Aside0.mk hy20; clear hy20; have KL20 := Aside0.mk (show ((ji13) : Int).toNat ≤ x9_1.length from by omega); replace q20 := eq_true q20) | ((with_reducible refine gate_builtin (b := .append) (xs := #[.tmp 25, .tmp 30]) rfl ?_); at_builtin; refine Kd.R_append_rows Kd.bool (w0 := w) w.heap.size rfl (.tmp 25) (.tmp 30) 53 4 (.bool false) 1 rfl Tryd.underlying53 info4 rfl (by decide) (by omega) v182 y181 y184 _ _ _ (fun k_ => some k_ ≠ (.slice Ao21 x9_1.length co21 : Value).ownBlock) (fun _ => False) rfl rfl ?aO ?aR (fun _ _ h => h) (fun _ h => h.elim) ?aF ?aB ?aS ?aL ?_; (case aR => repeat (first | exact (by repeat (first | (with_reducible exact HR187.out) | (with_reducible refine Kd.C_alloc ?_ _) | (with_reducible refine Kd.C_drewN ?_ _) | (with_reducible refine Kd.C_drew ?_) | exact HR187.out)) | (with_reducible refine Kd.C_alloc ?_ _) | (with_reducible refine Kd.C_drewN ?_ _) | (with_reducible refine Kd.C_drew ?_))); (case aB => exact (by repeat (first | (with_reducible first | exact HB.out | apply below_alloc | apply pw_below_drewN | apply below_drew1 | refine below_set ?_ GE177.out) | exact HB.out))); (case aF => exact (fun k_ hk => Kd.fresh' (Kd.R_lt (by (with_reducible repeat (first | apply Kd.R_alloc | apply Kd.R_drewN | apply Kd.R_drew)); exact HO_9.out)) k_ hk)); (case aO => exact (by (with_reducible repeat (first | apply Kd.R_alloc | apply Kd.R_drewN | apply Kd.R_drew)); exact Kd.R_mono HO183.out (fun _ hk => hk.2))); (case aS => exact (below_size (by repeat (first | (with_reducible first | exact HB.out | apply below_alloc | apply pw_below_drewN | apply below_drew1 | refine below_set ?_ GE177.out) | exact HB.out)))); (case aL => have := LMc16.out; omega); intro v189 w22 ho hb hg hat; rw [← Ny188.out] at ho; have n0_ := Aside0.mk (Kd.R_after (ok := (fun _ => True)) (by (with_reducible repeat (first | apply Kd.R_alloc | apply Kd.R_drewN | apply Kd.R_drew)); exact HO_9.out) hg hat); have n1_ := Aside0.mk (blk_grown (g := gb177) (o := .cells #[.int .i64 a0_0, .bool a0_1] 23 (0, 0)) (by (with_reducible repeat (first | refine blk_drewN ?_ _ | refine blk_drew ?_ | refine blk_alloc ?_ _)); exact BK177.out) hg (Kd.R_ne HO183.out BK177.out (by decide))); have n2_ := Aside0.mk (hb); have n3_ := Aside0.mk ((show Kd.C Kd.bool w22 Ao21 y184.length y184 from by rw [Ny184.out]; exact Kd.C_take (m := ((ji13) : Int).toNat) ((Kd.R_reads' (Kd.R_after (ok := (fun _ => True)) (by (with_reducible repeat (first | apply Kd.R_alloc | apply Kd.R_drewN | apply Kd.R_drew)); exact HO_9.out) hg hat)).2.2) KL20.out)); have n4_ := Aside0.mk (ho); clear HO_9; clear BK177; clear HB; clear HR187; clear HO183; have HO_9 := n0_; have BK177 := n1_; have HB := n2_; have HR187 := n3_; have HO190 := n4_; clear n0_ n1_ n2_ n3_ n4_; clear ho hb hg hat))
                    go_roundg kj8
                    case measure => have := HK1.out; have := HJ8.out; omega
                    case rel => exact ⟨(y188), (IntKind.u64.wrap (x10_1 + 1)), (by first | rfl | (simp; done) | (simp [*]; done)), H', ⟨by have := HK1.out; have := HJ8.out; omega⟩, ⟨by (with_reducible repeat (first | apply Kd.R_alloc | apply Kd.R_drewN | apply Kd.R_drew)); exact Kd.R_mono HO190.out (fun _ hk => trivial)⟩, ⟨by (with_reducible repeat (first | refine blk_drewN ?_ _ | refine blk_drew ?_ | refine blk_alloc ?_ _)); exact BK177.out⟩, ⟨by repeat (first | (with_reducible first | exact HB.out | apply below_alloc | apply pw_below_drewN | apply below_drew1 | refine below_set ?_ GE177.out) | exact HB.out)⟩⟩
                  · rw [if_neg c16] at H
                    exact absurd H (by simp)
                · rw [if_neg c15] at H
                  exact absurd H (by simp)
              · rw [if_neg c14] at H
                exact absurd H (by simp)
            · replace c12 := Bool.eq_false_iff.mpr c12
              subst c12
              have H1 : ((some (([] : List Bool) : List Bool)).bind fun y191 => (if 1 ≤ (x9_1.length : Int) then ((some (x9_1.drop 1 : List Bool)).bind fun y194 => (if y191.length + y194.length < 140737488355328 then ((some (y191 ++ y194 : List Bool)).bind fun y198 => ((skuaref01_Neg.f kj8 a0_0 a0_1 a1).bind fun t201 => (if y198.length < 140737488355328 then (skuaref01_shift.l0 kj8 a1 a2 false (y198 ++ [t201]) (IntKind.u64.wrap (x10_1 + 1)) a0_0 a0_1) else (none)))) else (none))) else (none))) = some r := by rw [if_neg (show ¬ (false = true) by decide)] at H; exact H
              clear H
              have H := H1
              clear H1
              obtain ⟨y191, hy191⟩ : ∃ y_ : List Bool, y_ = (([] : List Bool)) := ⟨_, rfl⟩
              replace H : (if 1 ≤ (x9_1.length : Int) then ((some (x9_1.drop 1 : List Bool)).bind fun y194 => (if y191.length + y194.length < 140737488355328 then ((some (y191 ++ y194 : List Bool)).bind fun y198 => ((skuaref01_Neg.f kj8 a0_0 a0_1 a1).bind fun t201 => (if y198.length < 140737488355328 then (skuaref01_shift.l0 kj8 a1 a2 false (y198 ++ [t201]) (IntKind.u64.wrap (x10_1 + 1)) a0_0 a0_1) else (none)))) else (none))) else (none)) = some r := by first | (rw [hy191]; with_reducible exact H) | (have H2_ := (Option.bind_some _ _).symm.trans H; rw [hy191]; with_reducible exact H2_) | (have H2_ := (Option.bind_some _ _).symm.trans H; with_reducible exact H2_) | with_reducible exact H | (rw [hy191]; exact H) | exact H
              have Ny191 := Aside0.mk hy191
              clear hy191
              by_cases c23 : 1 ≤ (x9_1.length : Int)
              · rw [if_pos c23] at H
                have c23b0 := eq_true c23
                have c23b1 : decide (1 ≤ (x9_1.length : Int)) = true := decide_eq_true c23
                clear c23
                obtain ⟨y194, hy194⟩ : ∃ y_ : List Bool, y_ = (x9_1.drop 1) := ⟨_, rfl⟩
                replace H : (if y191.length + y194.length < 140737488355328 then ((some (y191 ++ y194 : List Bool)).bind fun y198 => ((skuaref01_Neg.f kj8 a0_0 a0_1 a1).bind fun t201 => (if y198.length < 140737488355328 then (skuaref01_shift.l0 kj8 a1 a2 false (y198 ++ [t201]) (IntKind.u64.wrap (x10_1 + 1)) a0_0 a0_1) else (none)))) else (none)) = some r := by first | (rw [hy194]; with_reducible exact H) | (have H2_ := (Option.bind_some _ _).symm.trans H; rw [hy194]; with_reducible exact H2_) | (have H2_ := (Option.bind_some _ _).symm.trans H; with_reducible exact H2_) | with_reducible exact H | (rw [hy194]; exact H) | exact H
                have Ny194 := Aside0.mk hy194
                clear hy194
                by_cases c24 : y191.length + y194.length < 140737488355328
                · rw [if_pos c24] at H
                  have LMc24 := Aside0.mk c24
                  clear c24
                  obtain ⟨y198, hy198⟩ : ∃ y_ : List Bool, y_ = (y191 ++ y194) := ⟨_, rfl⟩
                  replace H : ((skuaref01_Neg.f kj8 a0_0 a0_1 a1).bind fun t201 => (if y198.length < 140737488355328 then (skuaref01_shift.l0 kj8 a1 a2 false (y198 ++ [t201]) (IntKind.u64.wrap (x10_1 + 1)) a0_0 a0_1) else (none))) = some r := by first | (rw [hy198]; with_reducible exact H) | (have H2_ := (Option.bind_some _ _).symm.trans H; rw [hy198]; with_reducible exact H2_) | (have H2_ := (Option.bind_some _ _).symm.trans H; with_reducible exact H2_) | with_reducible exact H | (rw [hy198]; exact H) | exact H
                  have Ny198 := Aside0.mk hy198
                  clear hy198
                  replace H := Option.bind_eq_some_iff.mp H
                  obtain ⟨t201, A250, H⟩ := H
                  replace H : (if y198.length < 140737488355328 then (skuaref01_shift.l0 kj8 a1 a2 false (y198 ++ [t201]) (IntKind.u64.wrap (x10_1 + 1)) a0_0 a0_1) else (none)) = some r := H
                  have A25 := Aside0.mk A250
                  clear A250
                  by_cases c26 : y198.length < 140737488355328
                  · rw [if_pos c26] at H
                    have LMc26 := Aside0.mk c26
                    clear c26
                    obtain ⟨y202, hy202⟩ : ∃ y_ : List Bool, y_ = (y198 ++ [t201]) := ⟨_, rfl⟩
                    replace H : (skuaref01_shift.l0 kj8 a1 a2 false y202 (IntKind.u64.wrap (x10_1 + 1)) a0_0 a0_1) = some r := by first | (rw [hy202]; with_reducible exact H) | (have H2_ := (Option.bind_some _ _).symm.trans H; rw [hy202]; with_reducible exact H2_) | (have H2_ := (Option.bind_some _ _).symm.trans H; with_reducible exact H2_) | with_reducible exact H | (rw [hy202]; exact H) | exact H
                    have Ny202 := Aside0.mk hy202
                    clear hy202
                    have H' := Aside0.mk H
                    clear H
                    try go_wp2
                    have n0_ := Aside0.mk (Kd.R_drew HO_9.out)
                    have n1_ := Aside0.mk (blk_drew BK177.out)
                    have n2_ := Aside0.mk (below_drew1 HB.out)
                    clear HO_9
                    clear BK177
                    clear HB
                    have HO_9 := n0_
                    have BK177 := n1_
                    have HB := n2_
                    clear n0_ n1_ n2_
                    obtain ⟨Ao29, co29, eo29⟩ := Kd.R_slice HO_9.out
                    (first | subst eo29 | (injection eo29 with f1_ f2_ f3_; have f4_ := f1_.symm; have f5_ := f3_.symm; clear f1_ f2_ f3_; subst f4_; subst f5_))
                    have q28 : (1 : Int) ≤ ((x9_1.length : Int) : Int) := of_decide_eq_true (by first | (with_reducible assumption) | assumption)
                    obtain ⟨i028, hi028, _, hsz28, _⟩ := info_parts info4
                    have hroom28 : x9_1.length ≤ co29 := (Kd.R_reads' HO_9.out).2.1
                    have hC28 : Kd.C Kd.bool _ Ao29 x9_1.length x9_1 := (Kd.R_reads' HO_9.out).2.2
                    have hcut28 := cut_from (P := Tryd.prog) 53 4 .i64 Tryd.underlying53 hi028 1 hsz28 Ao29 x9_1.length co29 1 (by omega) q28
                    have hr28 := Kd.C_drop (m := (1 : Int).toNat) (c := co29) hC28 (by omega) hroom28
                    obtain ⟨A28, hA28⟩ : ∃ A1, A1 = (if co29 = (1 : Int).toNat then Ao29 else (Ao29 : Option Addr).map (·.add ((1 : Int).toNat * 1))) := ⟨_, rfl⟩
                    obtain ⟨c28, hc28⟩ : ∃ c1, c1 = co29 - (1 : Int).toNat := ⟨_, rfl⟩
                    have hy28 : y194.length = x9_1.length - (1 : Int).toNat := (by rw [Ny194.out, List.length_drop] <;> omega)
                    rw [show (x9_1).drop (1 : Int).toNat = y194 from Ny194.out.symm] at hr28
                    replace hr28 : Kd.C Kd.bool _ A28 y194.length y194 := (by rw [hA28]; exact hr28)
                    rw [← hy28, ← hA28, ← hc28] at hcut28
                    have HR197 := Aside0.mk hr28
                    have HC197 := Aside0.mk (show y194.length ≤ c28 from by rw [hy28, hc28]; exact Nat.sub_le_sub_right hroom28 _)
                    clear hr28 hC28 hroom28 hi028 hsz28 hc28
                    have KY28 := Aside0.mk hy28
                    have KA28 := Aside0.mk hA28
                    clear hy28 hA28
                    have KL28 := Aside0.mk (show 1 ≤ x9_1.length from by omega)
                    replace q28 := eq_true q28
                    refine start_ (n := 10) (S := fun w' => w'.cell? ⟨gb177, 0, none⟩ = some (.int .i64 a0_0) ∧ w'.cell? ⟨gb177, 1, none⟩ = some (.bool a0_1)) (ds := []) #[false, false, false, false, false, false, false, false, false, false] (by kernel_rfl) rfl rfl ⟨(blk_cell BK177.out 0).trans rfl, (blk_cell BK177.out 1).trans rfl⟩ (fun hHeld => ?_); refine with_tabW skuaref01_shift.tab7 skuaref01_shift.bits7 (fun HT_ HW_ => ?_)
                    generalize wc.drew = w27 at HO_9 BK177 HB HR197 hHeld ⊢
                    refine pure_ (i := 1) (N := some 33) (v := ?_) (a' := ?_) #[false, true, false, false, false, false, false, false, false, false] rfl rfl (any_of HT_.out (by kernel_rfl)) (fun _ _ _ h => h) (Or.inl ⟨by rfl, ?_⟩) ?_ ?_
                    rotate_left
                    · intro w'
                      go_simp
                      with_reducible rfl
                    rotate_left
                    · simp only [Act.put, List.setIfInBounds_toArray, List.set_cons_zero, List.set_cons_succ, i64_w, i32_w]
                      rfl
                    refine pure_ (i := 2) (N := some 34) (v := ?_) (a' := ?_) #[false, true, true, false, false, false, false, false, false, false] rfl rfl (any_of HT_.out (by kernel_rfl)) (fun _ _ _ h => h) (Or.inl ⟨by rfl, ?_⟩) ?_ ?_
                    rotate_left
                    · intro w'
                      go_simp
                      with_reducible rfl
                    rotate_left
                    · simp only [Act.put, List.setIfInBounds_toArray, List.set_cons_zero, List.set_cons_succ, i64_w, i32_w]
                      rfl
                    refine pure_ (i := 5) (N := some 37) (v := ?_) (a' := ?_) #[false, true, true, false, false, true, false, false, false, false] rfl rfl (any_of HT_.out (by kernel_rfl)) (fun _ _ _ h => h) (Or.inl ⟨by rfl, ?_⟩) ?_ ?_
                    rotate_left
                    · intro w'
                      go_simp
                      with_reducible rfl
                    rotate_left
                    · simp only [Act.put, List.setIfInBounds_toArray, List.set_cons_zero, List.set_cons_succ, i64_w, i32_w]
                      rfl
                    refine take_ (i := 4) (N := some 36) (v := ?_) (a' := ?_) #[false, true, true, false, true, true, false, false, false, false] rfl rfl (take_ofW HT_.out HW_.out (by kernel_rfl)) (fun _ _ _ h => h) (Or.inl ⟨by rfl, ?_⟩) hHeld ?_ ?_
                    rotate_left
                    · rintro w' ⟨s0, s1⟩
                      go_simp
                      with_reducible rfl
                    rotate_left
                    · simp only [Act.put, List.setIfInBounds_toArray, List.set_cons_zero, List.set_cons_succ, i64_w, i32_w]
                      rfl
                    refine one_ (i := 0) (N := some 32) #[true, true, true, false, true, true, false, false, false, false] rfl rfl (one_of HT_.out (by kernel_rfl)) (by decide) (fun K hK => ?_)
                    refine Kd.R_lit_step Kd.bool _ 4 ?hg (N := 32) ?hd (xs := ([] : List Bool)) (inner := []) (ok := fun _ => True) (okp := fun _ => True) ?hr ?hp (fun _ hk => hk) trivial (Below.refl _ _) (Nat.le_refl _) (by simp) ?_; (case hd => rfl); (case hg => rfl); (case hr => first | (go_simp; done) | (go_simp; rfl)); (case hp => exact (Reps.none _ _))
                    intro v192 w30 ho31 hb hg_ hnew_
                    clear hg_ hnew_
                    (first | rw [← Ny191.out] at ho31 | (simp only [Int.reduceToNat] at ho31; rw [← Ny191.out] at ho31))
                    have n0_ := Aside0.mk (Kd.R_elder' (by (with_reducible repeat (first | apply Kd.R_alloc | apply Kd.R_drewN | apply Kd.R_drew)); exact HO_9.out) (Kd.R_base ho31) hb)
                    have n1_ := Aside0.mk (Kd.R_lower (Kd.R_new' ho31 (Kd.R_lt (by (with_reducible repeat (first | apply Kd.R_alloc | apply Kd.R_drewN | apply Kd.R_drew)); exact HO_9.out))) (below_size (by repeat (first | (with_reducible first | exact HB.out | apply below_alloc | apply pw_below_drewN | apply below_drew1 | refine below_set ?_ GE177.out) | exact HB.out))))
                    have n2_ := Aside0.mk (blk_below (g := gb177) (o := .cells #[.int .i64 a0_0, .bool a0_1] 23 (0, 0)) (by (with_reducible repeat (first | refine blk_drewN ?_ _ | refine blk_drew ?_ | refine blk_alloc ?_ _)); exact BK177.out) hb)
                    have n3_ := Aside0.mk (Kd.C_below (by repeat (first | (with_reducible exact HR197.out) | (with_reducible refine Kd.C_alloc ?_ _) | (with_reducible refine Kd.C_drewN ?_ _) | (with_reducible refine Kd.C_drew ?_) | exact HR197.out)) hb)
                    have n4_ := Aside0.mk (below_step (by repeat (first | (with_reducible first | exact HB.out | apply below_alloc | apply pw_below_drewN | apply below_drew1 | refine below_set ?_ GE177.out) | exact HB.out)) hb)
                    clear HO_9
                    clear BK177
                    clear HR197
                    clear HB
                    have HO_9 := n0_
                    have HO193 := n1_
                    have BK177 := n2_
                    have HR197 := n3_
                    have HB := n4_
                    clear n0_ n1_ n2_ n3_ n4_
                    clear hb ho31
                    refine hK.out _ _ ⟨(blk_cell BK177.out 0).trans rfl, (blk_cell BK177.out 1).trans rfl⟩ (fun hHeld => ?_)
                    clear hK K
                    refine norm_ (a' := ?_) ?_ ?_
                    rotate_left
                    · show Act.put _ (some 32) _ = _
                      simp only [Act.put, List.setIfInBounds_toArray, List.set_cons_zero, List.set_cons_succ, i64_w, i32_w]
                      rfl
                    refine one_ (i := 3) (N := some 35) #[true, true, true, true, true, true, false, false, false, false] rfl rfl (one_of HT_.out (by kernel_rfl)) (by decide) (fun K hK => ?_)
                    refine Kd.R_append_rows_step Kd.bool (w0 := w) w.heap.size (by rfl) (.tmp 32) (.tmp 34) 53 4 (.bool false) 1 rfl Tryd.underlying53 info4 rfl (by decide) (by omega) v192 y191 y194 _ _ _ (fun k_ => some k_ ≠ (.slice Ao29 x9_1.length co29 : Value).ownBlock) (fun _ => False) rfl rfl ?aO ?aR (fun _ _ h => h) (fun _ h => h.elim) ?aF ?aB ?aS ?aL ?_
                    (case aR => repeat (first | exact (by repeat (first | (with_reducible exact HR197.out) | (with_reducible refine Kd.C_alloc ?_ _) | (with_reducible refine Kd.C_drewN ?_ _) | (with_reducible refine Kd.C_drew ?_) | exact HR197.out)) | (with_reducible refine Kd.C_alloc ?_ _) | (with_reducible refine Kd.C_drewN ?_ _) | (with_reducible refine Kd.C_drew ?_)))
                    (case aB => exact (by repeat (first | (with_reducible first | exact HB.out | apply below_alloc | apply pw_below_drewN | apply below_drew1 | refine below_set ?_ GE177.out) | exact HB.out)))
                    (case aF => exact (fun k_ hk => Kd.fresh' (Kd.R_lt (by (with_reducible repeat (first | apply Kd.R_alloc | apply Kd.R_drewN | apply Kd.R_drew)); exact HO_9.out)) k_ hk))
                    (case aO => exact (by (with_reducible repeat (first | apply Kd.R_alloc | apply Kd.R_drewN | apply Kd.R_drew)); exact Kd.R_mono HO193.out (fun _ hk => hk.2)))
                    (case aS => exact (below_size (by repeat (first | (with_reducible first | exact HB.out | apply below_alloc | apply pw_below_drewN | apply below_drew1 | refine below_set ?_ GE177.out) | exact HB.out))))
                    (case aL => have := LMc24.out; omega)
                    intro v199 w32 ho hb hg hat
                    rw [← Ny198.out] at ho
                    have n0_ := Aside0.mk (Kd.R_after (ok := (fun _ => True)) (by (with_reducible repeat (first | apply Kd.R_alloc | apply Kd.R_drewN | apply Kd.R_drew)); exact HO_9.out) hg hat)
                    have n1_ := Aside0.mk (blk_grown (g := gb177) (o := .cells #[.int .i64 a0_0, .bool a0_1] 23 (0, 0)) (by (with_reducible repeat (first | refine blk_drewN ?_ _ | refine blk_drew ?_ | refine blk_alloc ?_ _)); exact BK177.out) hg (Kd.R_ne HO193.out BK177.out (by decide)))
                    have n2_ := Aside0.mk (hb)
                    have n3_ := Aside0.mk ((show Kd.C Kd.bool w32 A28 y194.length y194 from by rw [Ny194.out, KA28.out]; exact Kd.C_drop (m := 1) (c := co29) ((Kd.R_reads' (Kd.R_after (ok := (fun _ => True)) (by (with_reducible repeat (first | apply Kd.R_alloc | apply Kd.R_drewN | apply Kd.R_drew)); exact HO_9.out) hg hat)).2.2) KL28.out ((Kd.R_reads' (Kd.R_after (ok := (fun _ => True)) (by (with_reducible repeat (first | apply Kd.R_alloc | apply Kd.R_drewN | apply Kd.R_drew)); exact HO_9.out) hg hat)).2.1)))
                    have n4_ := Aside0.mk (ho)
                    clear HO_9
                    clear BK177
                    clear HB
                    clear HR197
                    clear HO193
                    have HO_9 := n0_
                    have BK177 := n1_
                    have HB := n2_
                    have HR197 := n3_
                    have HO200 := n4_
                    clear n0_ n1_ n2_ n3_ n4_
                    clear ho hb hg hat
                    refine hK.out _ _ ⟨(blk_cell BK177.out 0).trans rfl, (blk_cell BK177.out 1).trans rfl⟩ (fun hHeld => ?_)
                    clear hK K
                    refine norm_ (a' := ?_) ?_ ?_
                    rotate_left
                    · show Act.put _ (some 35) _ = _
                      simp only [Act.put, List.setIfInBounds_toArray, List.set_cons_zero, List.set_cons_succ, i64_w, i32_w]
                      rfl
                    refine one_ (i := 6) (N := some 38) #[true, true, true, true, true, true, true, false, false, false] rfl rfl (one_of HT_.out (by kernel_rfl)) (by decide) (fun K hK => ?_)
                    refine goes_ Tryd.func54 (by kernel_rfl) rfl #[.agg #[.int .i64 a0_0, .bool a0_1], .int .u64 a1] (by rfl) rfl rfl (by (try simp only [List.map_toArray, List.map_cons, List.map_nil]); first | done | rfl | (simp only [List.length_drop, List.length_take]; rfl)) ?_
                    with_reducible refine (skuaref01_Neg.calls kj8 a0_0 a0_1 a1 t201 _ A25.out).mono ?_
                    rintro e w33 ⟨rfl, hb⟩
                    refine ⟨_, rfl, ?_⟩
                    have n0_ := Aside0.mk (Kd.R_below (by (with_reducible repeat (first | apply Kd.R_alloc | apply Kd.R_drewN | apply Kd.R_drew)); exact HO_9.out) hb)
                    have n1_ := Aside0.mk (Kd.R_below (by (with_reducible repeat (first | apply Kd.R_alloc | apply Kd.R_drewN | apply Kd.R_drew)); exact HO200.out) hb)
                    have n2_ := Aside0.mk (blk_below (g := gb177) (o := .cells #[.int .i64 a0_0, .bool a0_1] 23 (0, 0)) (by (with_reducible repeat (first | refine blk_drewN ?_ _ | refine blk_drew ?_ | refine blk_alloc ?_ _)); exact BK177.out) hb)
                    have n3_ := Aside0.mk (Kd.C_below (by repeat (first | (with_reducible exact HR197.out) | (with_reducible refine Kd.C_alloc ?_ _) | (with_reducible refine Kd.C_drewN ?_ _) | (with_reducible refine Kd.C_drew ?_) | exact HR197.out)) hb)
                    have n4_ := Aside0.mk (below_step (by repeat (first | (with_reducible first | exact HB.out | apply below_alloc | apply pw_below_drewN | apply below_drew1 | refine below_set ?_ GE177.out) | exact HB.out)) hb)
                    clear HO_9
                    clear HO200
                    clear BK177
                    clear HR197
                    clear HB
                    have HO_9 := n0_
                    have HO200 := n1_
                    have BK177 := n2_
                    have HR197 := n3_
                    have HB := n4_
                    clear n0_ n1_ n2_ n3_ n4_
                    (try clear hb)
                    (try clear hb2)
                    (try clear hk)
                    (try clear hi)
                    refine hK.out _ _ ⟨(blk_cell BK177.out 0).trans rfl, (blk_cell BK177.out 1).trans rfl⟩ (fun hHeld => ?_)
                    clear hK K
                    refine norm_ (a' := ?_) ?_ ?_
                    rotate_left
                    · show Act.put _ (some 38) _ = _
                      simp only [Act.put, List.setIfInBounds_toArray, List.set_cons_zero, List.set_cons_succ, i64_w, i32_w]
                      rfl
                    refine one_ (i := 7) (N := some 39) #[true, true, true, true, true, true, true, true, false, false] rfl rfl (one_of HT_.out (by kernel_rfl)) (by decide) (fun K hK => ?_)
                    refine value_ (w1 := ?_) (v := ?_) (by rfl) rfl ?_ ?_
                    rotate_left 2
                    · go_simp
                      constructor
                      · rfl
                      · rfl
                    refine hK.out _ _ ⟨(blk_cell (blk_alloc BK177.out _) 0).trans rfl, (blk_cell (blk_alloc BK177.out _) 1).trans rfl⟩ (fun hHeld => ?_)
                    clear hK K
                    refine norm_ (a' := ?_) ?_ ?_
                    rotate_left
                    · show Act.put _ (some 39) _ = _
                      simp only [Act.put, List.setIfInBounds_toArray, List.set_cons_zero, List.set_cons_succ, i64_w, i32_w]
                      rfl
                    refine one_ (i := 8) (N := some 40) #[true, true, true, true, true, true, true, true, true, false] rfl rfl (one_of HT_.out (by kernel_rfl)) (by decide) (fun K hK => ?_)
                    refine Kd.R_append_step Kd.bool (w0 := w) w.heap.size (by rfl) (.tmp 35) (.tmp 39) 53 4 (.bool false) 1 rfl Tryd.underlying53 info4 rfl (by decide) (by omega) v199 y198 t201 [.bool t201] (fun k_ => some k_ ≠ (.slice Ao29 x9_1.length co29 : Value).ownBlock) (fun _ => False) rfl rfl ?aP (fun _ hk => hk.elim) ?aF ?aO ?aB ?aS ?aL ?_
                    (case aP => exact rfl)
                    (case aB => exact (by repeat (first | (with_reducible first | exact HB.out | apply below_alloc | apply pw_below_drewN | apply below_drew1 | refine below_set ?_ GE177.out) | exact HB.out)))
                    (case aF => exact (fun k_ hk => Kd.fresh' (Kd.R_lt (by (with_reducible repeat (first | apply Kd.R_alloc | apply Kd.R_drewN | apply Kd.R_drew)); exact HO_9.out)) k_ hk))
                    (case aO => exact (by (with_reducible repeat (first | apply Kd.R_alloc | apply Kd.R_drewN | apply Kd.R_drew)); exact HO200.out))
                    (case aS => exact (below_size (by repeat (first | (with_reducible first | exact HB.out | apply below_alloc | apply pw_below_drewN | apply below_drew1 | refine below_set ?_ GE177.out) | exact HB.out))))
                    (case aL => have := LMc26.out; omega)
                    intro v203 w34 ho hb hg hat
                    rw [← Ny202.out] at ho
                    have n0_ := Aside0.mk (Kd.R_after (ok := (fun _ => True)) (by (with_reducible repeat (first | apply Kd.R_alloc | apply Kd.R_drewN | apply Kd.R_drew)); exact HO_9.out) hg hat)
                    have n1_ := Aside0.mk (blk_grown (g := gb177) (o := .cells #[.int .i64 a0_0, .bool a0_1] 23 (0, 0)) (by (with_reducible repeat (first | refine blk_drewN ?_ _ | refine blk_drew ?_ | refine blk_alloc ?_ _)); exact BK177.out) hg (Kd.R_ne HO200.out BK177.out (by decide)))
                    have n2_ := Aside0.mk (hb)
                    have n3_ := Aside0.mk ((show Kd.C Kd.bool w34 A28 y194.length y194 from by rw [Ny194.out, KA28.out]; exact Kd.C_drop (m := 1) (c := co29) ((Kd.R_reads' (Kd.R_after (ok := (fun _ => True)) (by (with_reducible repeat (first | apply Kd.R_alloc | apply Kd.R_drewN | apply Kd.R_drew)); exact HO_9.out) hg hat)).2.2) KL28.out ((Kd.R_reads' (Kd.R_after (ok := (fun _ => True)) (by (with_reducible repeat (first | apply Kd.R_alloc | apply Kd.R_drewN | apply Kd.R_drew)); exact HO_9.out) hg hat)).2.1)))
                    have n4_ := Aside0.mk (ho)
                    clear HO_9
                    clear BK177
                    clear HB
                    clear HR197
                    clear HO200
                    have HO_9 := n0_
                    have BK177 := n1_
                    have HB := n2_
                    have HR197 := n3_
                    have HO204 := n4_
                    clear n0_ n1_ n2_ n3_ n4_
                    clear ho hb hg hat
                    refine hK.out _ _ ⟨(blk_cell BK177.out 0).trans rfl, (blk_cell BK177.out 1).trans rfl⟩ (fun hHeld => ?_)
                    clear hK K
                    refine norm_ (a' := ?_) ?_ ?_
                    rotate_left
                    · show Act.put _ (some 40) _ = _
                      simp only [Act.put, List.setIfInBounds_toArray, List.set_cons_zero, List.set_cons_succ, i64_w, i32_w]
                      rfl
                    refine pure_ (i := 9) (N := some 9) (v := ?_) (a' := ?_) #[true, true, true, true, true, true, true, true, true, true] rfl rfl (any_of HT_.out (by kernel_rfl)) (fun _ _ _ h => h) (Or.inl ⟨by rfl, ?_⟩) ?_ ?_
                    rotate_left
                    · intro w'
                      go_simp
                      with_reducible rfl
                    rotate_left
                    · simp only [Act.put, List.setIfInBounds_toArray, List.set_cons_zero, List.set_cons_succ, i64_w, i32_w]
                      rfl
                    refine done_ (done_of HT_.out (by kernel_rfl)) ?_
                    try go_wp2
                    go_roundg kj8
                    case measure => have := HK1.out; have := HJ8.out; omega
                    case rel => exact ⟨(y202), (IntKind.u64.wrap (x10_1 + 1)), (by first | rfl | (simp; done) | (simp [*]; done)), H', ⟨by have := HK1.out; have := HJ8.out; omega⟩, ⟨by (with_reducible repeat (first | apply Kd.R_alloc | apply Kd.R_drewN | apply Kd.R_drew)); exact Kd.R_mono HO204.out (fun _ hk => trivial)⟩, ⟨by (with_reducible repeat (first | refine blk_drewN ?_ _ | refine blk_drew ?_ | refine blk_alloc ?_ _)); exact BK177.out⟩, ⟨by repeat (first | (with_reducible first | exact HB.out | apply below_alloc | apply pw_below_drewN | apply below_drew1 | refine below_set ?_ GE177.out) | exact HB.out)⟩⟩
                  · rw [if_neg c26] at H
                    exact absurd H (by simp)
                · rw [if_neg c24] at H
                  exact absurd H (by simp)
              · rw [if_neg c23] at H
                exact absurd H (by simp)
          · replace c11 := Bool.eq_false_iff.mpr c11
            subst c11
            have H1 : ((skuaref01_Value.f kj8 x9_1).bind fun t205 => (some t205)) = some r := by rw [if_neg (show ¬ (false = true) by decide)] at H; exact H
            clear H
            have H := H1
            clear H1
            replace H := Option.bind_eq_some_iff.mp H
            obtain ⟨t205, A350, H⟩ := H
            replace H : (some t205) = some r := H
            have A35 := Aside0.mk A350
            clear A350
            obtain rfl := Option.some.inj H
            obtain ⟨Ao36, co36, eo36⟩ := Kd.R_slice HO_9.out
            subst eo36
            go_wp2_with (first | ((with_reducible refine gate_callee (f := 33) rfl ?_); refine goesL_ (some 42) rfl rfl Tryd.func33 (by kernel_rfl) rfl #[.slice Ao36 x9_1.length co36] rfl (by (try simp only [List.map_toArray, List.map_cons, List.map_nil]); first | done | rfl | (simp only [List.length_drop, List.length_take]; rfl)) ?_; (with_reducible refine (skuaref01_Value.calls kj8 _ _ x9_1 t205 _ ?side1 ?side2 A35.out).mono ?_); (case side1 => repeat (first | exact (Kd.R_reads' HO_9.out).2.2 | (with_reducible refine Kd.C_alloc ?_ _) | (with_reducible refine Kd.C_drewN ?_ _) | (with_reducible refine Kd.C_drew ?_))); (case side2 => exact (Kd.R_reads' HO_9.out).2.1); rintro e w' ⟨rfl, ⟨nd, rfl⟩⟩; refine ⟨_, rfl, ?_⟩))
            go_ret
            exact ⟨by first | rfl | (simp [errW_none, errW_some] <;> rfl) | (simp [*, errW_none, errW_some] <;> rfl), by repeat (first | (with_reducible first | exact HB.out | apply below_alloc | apply pw_below_drewN | apply below_drew1 | refine below_set ?_ GE177.out) | exact HB.out)⟩

end Go.Proofs.YtggelmnahggdgaaDoor.PWordDoes
