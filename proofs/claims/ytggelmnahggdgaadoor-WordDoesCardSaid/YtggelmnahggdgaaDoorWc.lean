/- word.Do: what an operator makes of two values, in every world in which the table of types lies as the program lays it. Condition: both numbers are not below 0. -/
import Derived.Test.YtggelmnahggdgaaDoorWb
set_option linter.unusedVariables false
set_option linter.unusedSimpArgs false
namespace Go.Proofs.YtggelmnahggdgaaDoor
open Go.RowKit
theorem look1_3 (p : Nat) (U : World) (n : Nat) (hn : n = U.heap.size) : (Instr.lookup 59 (.map (some n)) (.string ⟨#[38]⟩) true).run Tryd.prog (U.alloc (.map (opsEs3 p) 3)) = .ok (.tuple #[.func (.func 41) #[] #[], .bool true]) (U.alloc (.map (opsEs3 p) 3)) :=
  run_lookup_str (i := 0) Tryd.underlying59 Tryd.underlying9 (by subst hn; exact heap_alloc_new _ _) (by kernel_rfl)
theorem look1_10 (p : Nat) (U : World) (n : Nat) (hn : n = U.heap.size) : (Instr.lookup 59 (.map (some n)) (.string ⟨#[38]⟩) true).run Tryd.prog (U.alloc (.map (opsEs10 p) 10)) = .ok (.tuple #[.func (.func 41) #[] #[], .bool true]) (U.alloc (.map (opsEs10 p) 10)) :=
  run_lookup_str (i := 0) Tryd.underlying59 Tryd.underlying9 (by subst hn; exact heap_alloc_new _ _) (by kernel_rfl)
theorem look2_3 (p : Nat) (U : World) (n : Nat) (hn : n = U.heap.size) : (Instr.lookup 59 (.map (some n)) (.string ⟨#[124]⟩) true).run Tryd.prog (U.alloc (.map (opsEs3 p) 3)) = .ok (.tuple #[.func (.func 42) #[] #[], .bool true]) (U.alloc (.map (opsEs3 p) 3)) :=
  run_lookup_str (i := 1) Tryd.underlying59 Tryd.underlying9 (by subst hn; exact heap_alloc_new _ _) (by kernel_rfl)
theorem look2_10 (p : Nat) (U : World) (n : Nat) (hn : n = U.heap.size) : (Instr.lookup 59 (.map (some n)) (.string ⟨#[124]⟩) true).run Tryd.prog (U.alloc (.map (opsEs10 p) 10)) = .ok (.tuple #[.func (.func 42) #[] #[], .bool true]) (U.alloc (.map (opsEs10 p) 10)) :=
  run_lookup_str (i := 1) Tryd.underlying59 Tryd.underlying9 (by subst hn; exact heap_alloc_new _ _) (by kernel_rfl)
theorem look3_3 (p : Nat) (U : World) (n : Nat) (hn : n = U.heap.size) : (Instr.lookup 59 (.map (some n)) (.string ⟨#[94]⟩) true).run Tryd.prog (U.alloc (.map (opsEs3 p) 3)) = .ok (.tuple #[.func (.func 43) #[] #[], .bool true]) (U.alloc (.map (opsEs3 p) 3)) :=
  run_lookup_str (i := 2) Tryd.underlying59 Tryd.underlying9 (by subst hn; exact heap_alloc_new _ _) (by kernel_rfl)
theorem look3_10 (p : Nat) (U : World) (n : Nat) (hn : n = U.heap.size) : (Instr.lookup 59 (.map (some n)) (.string ⟨#[94]⟩) true).run Tryd.prog (U.alloc (.map (opsEs10 p) 10)) = .ok (.tuple #[.func (.func 43) #[] #[], .bool true]) (U.alloc (.map (opsEs10 p) 10)) :=
  run_lookup_str (i := 2) Tryd.underlying59 Tryd.underlying9 (by subst hn; exact heap_alloc_new _ _) (by kernel_rfl)
theorem look4_10 (p : Nat) (U : World) (n : Nat) (hn : n = U.heap.size) : (Instr.lookup 59 (.map (some n)) (.string ⟨#[43]⟩) true).run Tryd.prog (U.alloc (.map (opsEs10 p) 10)) = .ok (.tuple #[.func (.func 44) #[] #[], .bool true]) (U.alloc (.map (opsEs10 p) 10)) :=
  run_lookup_str (i := 3) Tryd.underlying59 Tryd.underlying9 (by subst hn; exact heap_alloc_new _ _) (by kernel_rfl)
theorem look5_10 (p : Nat) (U : World) (n : Nat) (hn : n = U.heap.size) : (Instr.lookup 59 (.map (some n)) (.string ⟨#[45]⟩) true).run Tryd.prog (U.alloc (.map (opsEs10 p) 10)) = .ok (.tuple #[.func (.func 45) #[] #[], .bool true]) (U.alloc (.map (opsEs10 p) 10)) :=
  run_lookup_str (i := 4) Tryd.underlying59 Tryd.underlying9 (by subst hn; exact heap_alloc_new _ _) (by kernel_rfl)
theorem look6_10 (p : Nat) (U : World) (n : Nat) (hn : n = U.heap.size) : (Instr.lookup 59 (.map (some n)) (.string ⟨#[42]⟩) true).run Tryd.prog (U.alloc (.map (opsEs10 p) 10)) = .ok (.tuple #[.func (.func 46) #[] #[], .bool true]) (U.alloc (.map (opsEs10 p) 10)) :=
  run_lookup_str (i := 5) Tryd.underlying59 Tryd.underlying9 (by subst hn; exact heap_alloc_new _ _) (by kernel_rfl)
theorem look7_10 (p : Nat) (U : World) (n : Nat) (hn : n = U.heap.size) : (Instr.lookup 59 (.map (some n)) (.string ⟨#[60, 60]⟩) true).run Tryd.prog (U.alloc (.map (opsEs10 p) 10)) = .ok (.tuple #[.func (.func 47) #[] #[], .bool true]) (U.alloc (.map (opsEs10 p) 10)) :=
  run_lookup_str (i := 6) Tryd.underlying59 Tryd.underlying9 (by subst hn; exact heap_alloc_new _ _) (by kernel_rfl)
theorem look8_10 (p : Nat) (U : World) (n : Nat) (hn : n = U.heap.size) : (Instr.lookup 59 (.map (some n)) (.string ⟨#[62, 62]⟩) true).run Tryd.prog (U.alloc (.map (opsEs10 p) 10)) = .ok (.tuple #[.func (.func 48) #[] #[.pointer (some ⟨p, 0, none⟩)], .bool true]) (U.alloc (.map (opsEs10 p) 10)) :=
  run_lookup_str (i := 7) Tryd.underlying59 Tryd.underlying9 (by subst hn; exact heap_alloc_new _ _) (by kernel_rfl)
theorem look9_10 (p : Nat) (U : World) (n : Nat) (hn : n = U.heap.size) : (Instr.lookup 59 (.map (some n)) (.string ⟨#[47]⟩) true).run Tryd.prog (U.alloc (.map (opsEs10 p) 10)) = .ok (.tuple #[.func (.func 50) #[] #[.pointer (some ⟨p, 0, none⟩)], .bool true]) (U.alloc (.map (opsEs10 p) 10)) :=
  run_lookup_str (i := 8) Tryd.underlying59 Tryd.underlying9 (by subst hn; exact heap_alloc_new _ _) (by kernel_rfl)
theorem look10_10 (p : Nat) (U : World) (n : Nat) (hn : n = U.heap.size) : (Instr.lookup 59 (.map (some n)) (.string ⟨#[37]⟩) true).run Tryd.prog (U.alloc (.map (opsEs10 p) 10)) = .ok (.tuple #[.func (.func 52) #[] #[.pointer (some ⟨p, 0, none⟩)], .bool true]) (U.alloc (.map (opsEs10 p) 10)) :=
  run_lookup_str (i := 9) Tryd.underlying59 Tryd.underlying9 (by subst hn; exact heap_alloc_new _ _) (by kernel_rfl)
theorem look_no_3 (op : ByteArray) (h1 : (op == ⟨#[38]⟩) = false) (h2 : (op == ⟨#[124]⟩) = false) (h3 : (op == ⟨#[94]⟩) = false) (p : Nat) (U : World) (n : Nat) (hn : n = U.heap.size) : (Instr.lookup 59 (.map (some n)) (.string op) true).run Tryd.prog (U.alloc (.map (opsEs3 p) 3)) = .ok (.tuple #[.nilFunc, .bool false]) (U.alloc (.map (opsEs3 p) 3)) :=
  run_lookup_str_none Tryd.underlying59 Tryd.underlying9 (by subst hn; exact heap_alloc_new _ _) (by simp [opsEs3, Instr.findNow, Instr.sameNow, h1, h2, h3]) (by kernel_rfl)
theorem look_no_10 (op : ByteArray) (h1 : (op == ⟨#[38]⟩) = false) (h2 : (op == ⟨#[124]⟩) = false) (h3 : (op == ⟨#[94]⟩) = false) (h4 : (op == ⟨#[43]⟩) = false) (h5 : (op == ⟨#[45]⟩) = false) (h6 : (op == ⟨#[42]⟩) = false) (h7 : (op == ⟨#[60, 60]⟩) = false) (h8 : (op == ⟨#[62, 62]⟩) = false) (h9 : (op == ⟨#[47]⟩) = false) (h10 : (op == ⟨#[37]⟩) = false) (p : Nat) (U : World) (n : Nat) (hn : n = U.heap.size) : (Instr.lookup 59 (.map (some n)) (.string op) true).run Tryd.prog (U.alloc (.map (opsEs10 p) 10)) = .ok (.tuple #[.nilFunc, .bool false]) (U.alloc (.map (opsEs10 p) 10)) :=
  run_lookup_str_none Tryd.underlying59 Tryd.underlying9 (by subst hn; exact heap_alloc_new _ _) (by simp [opsEs10, Instr.findNow, Instr.sameNow, h1, h2, h3, h4, h5, h6, h7, h8, h9, h10]) (by kernel_rfl)
set_option maxHeartbeats 4000000 in
theorem Do_bad (wd : Int) (sg : Bool) (op : ByteArray) (a b : Int) (w : World) (hL : Laid w) (hT : okT wd sg = false) :
    Gives Tryd.prog 18 #[.agg #[.int .i64 wd, .bool sg], .string op, .int .u64 a, .int .u64 b] w (.tuple #[.int .u64 0, .int .i64 10]) := by
  unfold Gives
  go_enter Tryd.func18, Tryd.ntmps18
  go_wp2_with (first | (go_at_call 22; refine (Right_gives _ _ _ (by repeat (first | exact hL | apply Laid.alloc | apply Laid.ov))).mono ?_; rintro e w' ⟨rfl, x, rfl⟩))
  go_ret2
  exact ⟨rfl, by repeat (first | exact IsOv.refl _ | apply IsOv.alloc | apply IsOv.ov)⟩
set_option maxHeartbeats 8000000 in
theorem Do_no3 (wd : Int) (sg : Bool) (op : ByteArray) (a b : Int) (w : World) (hL : Laid w) (hT : okT wd sg = true) (hw : (wd == 1) = true) (h1 : (op == ⟨#[38]⟩) = false) (h2 : (op == ⟨#[124]⟩) = false) (h3 : (op == ⟨#[94]⟩) = false) :
    Gives Tryd.prog 18 #[.agg #[.int .i64 wd, .bool sg], .string op, .int .u64 a, .int .u64 b] w (.tuple #[.int .u64 0, .int .i64 12]) := by
  have hl := look_no_3 op h1 h2 h3
  unfold Gives
  go_enter Tryd.func18, Tryd.ntmps18
  go_wp2_with (first | (go_at_call 22; refine (Right_gives _ _ _ (by repeat (first | exact hL | apply Laid.alloc | apply Laid.ov))).mono ?_; rintro e w' ⟨rfl, x, rfl⟩) | (go_at_call 36; refine (ops_one _ _ _ (by assumption)).mono ?_; rintro e w' ⟨rfl, rfl⟩))
  refine wp_region_ov (by kernel_rfl) (by kernel_rfl) ?_
  repeat (go_big_quiet_step (((go_at_call 14; exact (Norm_gives _ _ _ _ (by repeat (first | exact hL | apply Laid.alloc | apply Laid.ov))).quiet))))
  refine wpQuiet_nil ?_
  rintro _ ⟨nq, rfl⟩
  go_wp2
  go_ret2
  exact ⟨rfl, by repeat (first | exact IsOv.refl _ | apply IsOv.alloc | apply IsOv.ov)⟩
set_option maxHeartbeats 8000000 in
theorem Do_no10 (wd : Int) (sg : Bool) (op : ByteArray) (a b : Int) (w : World) (hL : Laid w) (hT : okT wd sg = true) (hw : (wd == 1) = false) (h1 : (op == ⟨#[38]⟩) = false) (h2 : (op == ⟨#[124]⟩) = false) (h3 : (op == ⟨#[94]⟩) = false) (h4 : (op == ⟨#[43]⟩) = false) (h5 : (op == ⟨#[45]⟩) = false) (h6 : (op == ⟨#[42]⟩) = false) (h7 : (op == ⟨#[60, 60]⟩) = false) (h8 : (op == ⟨#[62, 62]⟩) = false) (h9 : (op == ⟨#[47]⟩) = false) (h10 : (op == ⟨#[37]⟩) = false) :
    Gives Tryd.prog 18 #[.agg #[.int .i64 wd, .bool sg], .string op, .int .u64 a, .int .u64 b] w (.tuple #[.int .u64 0, .int .i64 12]) := by
  have hl := look_no_10 op h1 h2 h3 h4 h5 h6 h7 h8 h9 h10
  unfold Gives
  go_enter Tryd.func18, Tryd.ntmps18
  go_wp2_with (first | (go_at_call 22; refine (Right_gives _ _ _ (by repeat (first | exact hL | apply Laid.alloc | apply Laid.ov))).mono ?_; rintro e w' ⟨rfl, x, rfl⟩) | (go_at_call 36; refine (ops_more _ _ _ (by assumption)).mono ?_; rintro e w' ⟨rfl, rfl⟩))
  refine wp_region_ov (by kernel_rfl) (by kernel_rfl) ?_
  repeat (go_big_quiet_step (((go_at_call 14; exact (Norm_gives _ _ _ _ (by repeat (first | exact hL | apply Laid.alloc | apply Laid.ov))).quiet))))
  refine wpQuiet_nil ?_
  rintro _ ⟨nq, rfl⟩
  go_wp2
  go_ret2
  exact ⟨rfl, by repeat (first | exact IsOv.refl _ | apply IsOv.alloc | apply IsOv.ov)⟩
set_option maxHeartbeats 8000000 in
theorem Do_one1 (wd : Int) (sg : Bool) (a b : Int) (w : World) (hL : Laid w) (hT : okT wd sg = true) (hw : (wd == 1) = true)  :
    Gives Tryd.prog 18 #[.agg #[.int .i64 wd, .bool sg], .string ⟨#[38]⟩, .int .u64 a, .int .u64 b] w (.tuple #[.int .u64 (nrm wd sg (rawOp wd sg (nrm wd sg a) (nrm wd sg b) 1)), .int .i64 0]) := by
  have hl := look1_3
  unfold Gives
  go_enter Tryd.func18, Tryd.ntmps18
  go_wp2_with (first | (go_at_call 22; refine (Right_gives _ _ _ (by repeat (first | exact hL | apply Laid.alloc | apply Laid.ov))).mono ?_; rintro e w' ⟨rfl, x, rfl⟩) | (go_at_call 36; refine (ops_one _ _ _ (by assumption)).mono ?_; rintro e w' ⟨rfl, rfl⟩))
  refine wp_region_ov (by kernel_rfl) (by kernel_rfl) ?_
  repeat (go_big_quiet_step (((go_at_call 14; exact (Norm_gives _ _ _ _ (by repeat (first | exact hL | apply Laid.alloc | apply Laid.ov))).quiet))))
  refine wpQuiet_nil ?_
  rintro _ ⟨nq, rfl⟩
  go_wp2_with fail
  all_goals
    refine wp_region_ov (by kernel_rfl) (by kernel_rfl) ?_
    repeat (go_big_quiet_step ((first | (go_at_call 14; exact (Norm_gives _ _ _ _ (by repeat (first | exact hL | apply Laid.alloc | apply Laid.ov))).quiet) | (go_at_call 41; exact (ops1_gives wd sg _ _ _).quiet))))
    refine wpQuiet_nil ?_
    rintro _ ⟨nq, rfl⟩
    go_wp2
    go_ret2
    exact ⟨by first | rfl | (simp_all; done), by repeat (first | exact IsOv.refl _ | apply IsOv.alloc | apply IsOv.ov)⟩
set_option maxHeartbeats 8000000 in
theorem Do_one2 (wd : Int) (sg : Bool) (a b : Int) (w : World) (hL : Laid w) (hT : okT wd sg = true) (hw : (wd == 1) = true)  :
    Gives Tryd.prog 18 #[.agg #[.int .i64 wd, .bool sg], .string ⟨#[124]⟩, .int .u64 a, .int .u64 b] w (.tuple #[.int .u64 (nrm wd sg (rawOp wd sg (nrm wd sg a) (nrm wd sg b) 2)), .int .i64 0]) := by
  have hl := look2_3
  unfold Gives
  go_enter Tryd.func18, Tryd.ntmps18
  go_wp2_with (first | (go_at_call 22; refine (Right_gives _ _ _ (by repeat (first | exact hL | apply Laid.alloc | apply Laid.ov))).mono ?_; rintro e w' ⟨rfl, x, rfl⟩) | (go_at_call 36; refine (ops_one _ _ _ (by assumption)).mono ?_; rintro e w' ⟨rfl, rfl⟩))
  refine wp_region_ov (by kernel_rfl) (by kernel_rfl) ?_
  repeat (go_big_quiet_step (((go_at_call 14; exact (Norm_gives _ _ _ _ (by repeat (first | exact hL | apply Laid.alloc | apply Laid.ov))).quiet))))
  refine wpQuiet_nil ?_
  rintro _ ⟨nq, rfl⟩
  go_wp2_with fail
  all_goals
    refine wp_region_ov (by kernel_rfl) (by kernel_rfl) ?_
    repeat (go_big_quiet_step ((first | (go_at_call 14; exact (Norm_gives _ _ _ _ (by repeat (first | exact hL | apply Laid.alloc | apply Laid.ov))).quiet) | (go_at_call 42; exact (ops2_gives wd sg _ _ _).quiet))))
    refine wpQuiet_nil ?_
    rintro _ ⟨nq, rfl⟩
    go_wp2
    go_ret2
    exact ⟨by first | rfl | (simp_all; done), by repeat (first | exact IsOv.refl _ | apply IsOv.alloc | apply IsOv.ov)⟩
set_option maxHeartbeats 8000000 in
theorem Do_one3 (wd : Int) (sg : Bool) (a b : Int) (w : World) (hL : Laid w) (hT : okT wd sg = true) (hw : (wd == 1) = true)  :
    Gives Tryd.prog 18 #[.agg #[.int .i64 wd, .bool sg], .string ⟨#[94]⟩, .int .u64 a, .int .u64 b] w (.tuple #[.int .u64 (nrm wd sg (rawOp wd sg (nrm wd sg a) (nrm wd sg b) 3)), .int .i64 0]) := by
  have hl := look3_3
  unfold Gives
  go_enter Tryd.func18, Tryd.ntmps18
  go_wp2_with (first | (go_at_call 22; refine (Right_gives _ _ _ (by repeat (first | exact hL | apply Laid.alloc | apply Laid.ov))).mono ?_; rintro e w' ⟨rfl, x, rfl⟩) | (go_at_call 36; refine (ops_one _ _ _ (by assumption)).mono ?_; rintro e w' ⟨rfl, rfl⟩))
  refine wp_region_ov (by kernel_rfl) (by kernel_rfl) ?_
  repeat (go_big_quiet_step (((go_at_call 14; exact (Norm_gives _ _ _ _ (by repeat (first | exact hL | apply Laid.alloc | apply Laid.ov))).quiet))))
  refine wpQuiet_nil ?_
  rintro _ ⟨nq, rfl⟩
  go_wp2_with fail
  all_goals
    refine wp_region_ov (by kernel_rfl) (by kernel_rfl) ?_
    repeat (go_big_quiet_step ((first | (go_at_call 14; exact (Norm_gives _ _ _ _ (by repeat (first | exact hL | apply Laid.alloc | apply Laid.ov))).quiet) | (go_at_call 43; exact (ops3_gives wd sg _ _ _).quiet))))
    refine wpQuiet_nil ?_
    rintro _ ⟨nq, rfl⟩
    go_wp2
    go_ret2
    exact ⟨by first | rfl | (simp_all; done), by repeat (first | exact IsOv.refl _ | apply IsOv.alloc | apply IsOv.ov)⟩
set_option maxHeartbeats 8000000 in
theorem Do_more1 (wd : Int) (sg : Bool) (a b : Int) (w : World) (hL : Laid w) (hT : okT wd sg = true) (hw : (wd == 1) = false)  :
    Gives Tryd.prog 18 #[.agg #[.int .i64 wd, .bool sg], .string ⟨#[38]⟩, .int .u64 a, .int .u64 b] w (.tuple #[.int .u64 (nrm wd sg (rawOp wd sg (nrm wd sg a) (nrm wd sg b) 1)), .int .i64 0]) := by
  have hl := look1_10
  unfold Gives
  go_enter Tryd.func18, Tryd.ntmps18
  go_wp2_with (first | (go_at_call 22; refine (Right_gives _ _ _ (by repeat (first | exact hL | apply Laid.alloc | apply Laid.ov))).mono ?_; rintro e w' ⟨rfl, x, rfl⟩) | (go_at_call 36; refine (ops_more _ _ _ (by assumption)).mono ?_; rintro e w' ⟨rfl, rfl⟩))
  refine wp_region_ov (by kernel_rfl) (by kernel_rfl) ?_
  repeat (go_big_quiet_step (((go_at_call 14; exact (Norm_gives _ _ _ _ (by repeat (first | exact hL | apply Laid.alloc | apply Laid.ov))).quiet))))
  refine wpQuiet_nil ?_
  rintro _ ⟨nq, rfl⟩
  go_wp2_with fail
  all_goals
    refine wp_region_ov (by kernel_rfl) (by kernel_rfl) ?_
    repeat (go_big_quiet_step ((first | (go_at_call 14; exact (Norm_gives _ _ _ _ (by repeat (first | exact hL | apply Laid.alloc | apply Laid.ov))).quiet) | (go_at_call 41; exact (ops1_gives wd sg _ _ _).quiet))))
    refine wpQuiet_nil ?_
    rintro _ ⟨nq, rfl⟩
    go_wp2
    go_ret2
    exact ⟨by first | rfl | (simp_all; done), by repeat (first | exact IsOv.refl _ | apply IsOv.alloc | apply IsOv.ov)⟩
set_option maxHeartbeats 8000000 in
theorem Do_more2 (wd : Int) (sg : Bool) (a b : Int) (w : World) (hL : Laid w) (hT : okT wd sg = true) (hw : (wd == 1) = false)  :
    Gives Tryd.prog 18 #[.agg #[.int .i64 wd, .bool sg], .string ⟨#[124]⟩, .int .u64 a, .int .u64 b] w (.tuple #[.int .u64 (nrm wd sg (rawOp wd sg (nrm wd sg a) (nrm wd sg b) 2)), .int .i64 0]) := by
  have hl := look2_10
  unfold Gives
  go_enter Tryd.func18, Tryd.ntmps18
  go_wp2_with (first | (go_at_call 22; refine (Right_gives _ _ _ (by repeat (first | exact hL | apply Laid.alloc | apply Laid.ov))).mono ?_; rintro e w' ⟨rfl, x, rfl⟩) | (go_at_call 36; refine (ops_more _ _ _ (by assumption)).mono ?_; rintro e w' ⟨rfl, rfl⟩))
  refine wp_region_ov (by kernel_rfl) (by kernel_rfl) ?_
  repeat (go_big_quiet_step (((go_at_call 14; exact (Norm_gives _ _ _ _ (by repeat (first | exact hL | apply Laid.alloc | apply Laid.ov))).quiet))))
  refine wpQuiet_nil ?_
  rintro _ ⟨nq, rfl⟩
  go_wp2_with fail
  all_goals
    refine wp_region_ov (by kernel_rfl) (by kernel_rfl) ?_
    repeat (go_big_quiet_step ((first | (go_at_call 14; exact (Norm_gives _ _ _ _ (by repeat (first | exact hL | apply Laid.alloc | apply Laid.ov))).quiet) | (go_at_call 42; exact (ops2_gives wd sg _ _ _).quiet))))
    refine wpQuiet_nil ?_
    rintro _ ⟨nq, rfl⟩
    go_wp2
    go_ret2
    exact ⟨by first | rfl | (simp_all; done), by repeat (first | exact IsOv.refl _ | apply IsOv.alloc | apply IsOv.ov)⟩
set_option maxHeartbeats 8000000 in
theorem Do_more3 (wd : Int) (sg : Bool) (a b : Int) (w : World) (hL : Laid w) (hT : okT wd sg = true) (hw : (wd == 1) = false)  :
    Gives Tryd.prog 18 #[.agg #[.int .i64 wd, .bool sg], .string ⟨#[94]⟩, .int .u64 a, .int .u64 b] w (.tuple #[.int .u64 (nrm wd sg (rawOp wd sg (nrm wd sg a) (nrm wd sg b) 3)), .int .i64 0]) := by
  have hl := look3_10
  unfold Gives
  go_enter Tryd.func18, Tryd.ntmps18
  go_wp2_with (first | (go_at_call 22; refine (Right_gives _ _ _ (by repeat (first | exact hL | apply Laid.alloc | apply Laid.ov))).mono ?_; rintro e w' ⟨rfl, x, rfl⟩) | (go_at_call 36; refine (ops_more _ _ _ (by assumption)).mono ?_; rintro e w' ⟨rfl, rfl⟩))
  refine wp_region_ov (by kernel_rfl) (by kernel_rfl) ?_
  repeat (go_big_quiet_step (((go_at_call 14; exact (Norm_gives _ _ _ _ (by repeat (first | exact hL | apply Laid.alloc | apply Laid.ov))).quiet))))
  refine wpQuiet_nil ?_
  rintro _ ⟨nq, rfl⟩
  go_wp2_with fail
  all_goals
    refine wp_region_ov (by kernel_rfl) (by kernel_rfl) ?_
    repeat (go_big_quiet_step ((first | (go_at_call 14; exact (Norm_gives _ _ _ _ (by repeat (first | exact hL | apply Laid.alloc | apply Laid.ov))).quiet) | (go_at_call 43; exact (ops3_gives wd sg _ _ _).quiet))))
    refine wpQuiet_nil ?_
    rintro _ ⟨nq, rfl⟩
    go_wp2
    go_ret2
    exact ⟨by first | rfl | (simp_all; done), by repeat (first | exact IsOv.refl _ | apply IsOv.alloc | apply IsOv.ov)⟩
set_option maxHeartbeats 8000000 in
theorem Do_more4 (wd : Int) (sg : Bool) (a b : Int) (w : World) (hL : Laid w) (hT : okT wd sg = true) (hw : (wd == 1) = false)  :
    Gives Tryd.prog 18 #[.agg #[.int .i64 wd, .bool sg], .string ⟨#[43]⟩, .int .u64 a, .int .u64 b] w (.tuple #[.int .u64 (nrm wd sg (rawOp wd sg (nrm wd sg a) (nrm wd sg b) 4)), .int .i64 0]) := by
  have hl := look4_10
  unfold Gives
  go_enter Tryd.func18, Tryd.ntmps18
  go_wp2_with (first | (go_at_call 22; refine (Right_gives _ _ _ (by repeat (first | exact hL | apply Laid.alloc | apply Laid.ov))).mono ?_; rintro e w' ⟨rfl, x, rfl⟩) | (go_at_call 36; refine (ops_more _ _ _ (by assumption)).mono ?_; rintro e w' ⟨rfl, rfl⟩))
  refine wp_region_ov (by kernel_rfl) (by kernel_rfl) ?_
  repeat (go_big_quiet_step (((go_at_call 14; exact (Norm_gives _ _ _ _ (by repeat (first | exact hL | apply Laid.alloc | apply Laid.ov))).quiet))))
  refine wpQuiet_nil ?_
  rintro _ ⟨nq, rfl⟩
  go_wp2_with fail
  all_goals
    refine wp_region_ov (by kernel_rfl) (by kernel_rfl) ?_
    repeat (go_big_quiet_step ((first | (go_at_call 14; exact (Norm_gives _ _ _ _ (by repeat (first | exact hL | apply Laid.alloc | apply Laid.ov))).quiet) | (go_at_call 44; exact (ops4_gives wd sg _ _ _).quiet))))
    refine wpQuiet_nil ?_
    rintro _ ⟨nq, rfl⟩
    go_wp2
    go_ret2
    exact ⟨by first | rfl | (simp_all; done), by repeat (first | exact IsOv.refl _ | apply IsOv.alloc | apply IsOv.ov)⟩
set_option maxHeartbeats 8000000 in
theorem Do_more5 (wd : Int) (sg : Bool) (a b : Int) (w : World) (hL : Laid w) (hT : okT wd sg = true) (hw : (wd == 1) = false)  :
    Gives Tryd.prog 18 #[.agg #[.int .i64 wd, .bool sg], .string ⟨#[45]⟩, .int .u64 a, .int .u64 b] w (.tuple #[.int .u64 (nrm wd sg (rawOp wd sg (nrm wd sg a) (nrm wd sg b) 5)), .int .i64 0]) := by
  have hl := look5_10
  unfold Gives
  go_enter Tryd.func18, Tryd.ntmps18
  go_wp2_with (first | (go_at_call 22; refine (Right_gives _ _ _ (by repeat (first | exact hL | apply Laid.alloc | apply Laid.ov))).mono ?_; rintro e w' ⟨rfl, x, rfl⟩) | (go_at_call 36; refine (ops_more _ _ _ (by assumption)).mono ?_; rintro e w' ⟨rfl, rfl⟩))
  refine wp_region_ov (by kernel_rfl) (by kernel_rfl) ?_
  repeat (go_big_quiet_step (((go_at_call 14; exact (Norm_gives _ _ _ _ (by repeat (first | exact hL | apply Laid.alloc | apply Laid.ov))).quiet))))
  refine wpQuiet_nil ?_
  rintro _ ⟨nq, rfl⟩
  go_wp2_with fail
  all_goals
    refine wp_region_ov (by kernel_rfl) (by kernel_rfl) ?_
    repeat (go_big_quiet_step ((first | (go_at_call 14; exact (Norm_gives _ _ _ _ (by repeat (first | exact hL | apply Laid.alloc | apply Laid.ov))).quiet) | (go_at_call 45; exact (ops5_gives wd sg _ _ _).quiet))))
    refine wpQuiet_nil ?_
    rintro _ ⟨nq, rfl⟩
    go_wp2
    go_ret2
    exact ⟨by first | rfl | (simp_all; done), by repeat (first | exact IsOv.refl _ | apply IsOv.alloc | apply IsOv.ov)⟩
set_option maxHeartbeats 8000000 in
theorem Do_more6 (wd : Int) (sg : Bool) (a b : Int) (w : World) (hL : Laid w) (hT : okT wd sg = true) (hw : (wd == 1) = false)  :
    Gives Tryd.prog 18 #[.agg #[.int .i64 wd, .bool sg], .string ⟨#[42]⟩, .int .u64 a, .int .u64 b] w (.tuple #[.int .u64 (nrm wd sg (rawOp wd sg (nrm wd sg a) (nrm wd sg b) 6)), .int .i64 0]) := by
  have hl := look6_10
  unfold Gives
  go_enter Tryd.func18, Tryd.ntmps18
  go_wp2_with (first | (go_at_call 22; refine (Right_gives _ _ _ (by repeat (first | exact hL | apply Laid.alloc | apply Laid.ov))).mono ?_; rintro e w' ⟨rfl, x, rfl⟩) | (go_at_call 36; refine (ops_more _ _ _ (by assumption)).mono ?_; rintro e w' ⟨rfl, rfl⟩))
  refine wp_region_ov (by kernel_rfl) (by kernel_rfl) ?_
  repeat (go_big_quiet_step (((go_at_call 14; exact (Norm_gives _ _ _ _ (by repeat (first | exact hL | apply Laid.alloc | apply Laid.ov))).quiet))))
  refine wpQuiet_nil ?_
  rintro _ ⟨nq, rfl⟩
  go_wp2_with fail
  all_goals
    refine wp_region_ov (by kernel_rfl) (by kernel_rfl) ?_
    repeat (go_big_quiet_step ((first | (go_at_call 14; exact (Norm_gives _ _ _ _ (by repeat (first | exact hL | apply Laid.alloc | apply Laid.ov))).quiet) | (go_at_call 46; exact (ops6_gives wd sg _ _ _).quiet))))
    refine wpQuiet_nil ?_
    rintro _ ⟨nq, rfl⟩
    go_wp2
    go_ret2
    exact ⟨by first | rfl | (simp_all; done), by repeat (first | exact IsOv.refl _ | apply IsOv.alloc | apply IsOv.ov)⟩
set_option maxHeartbeats 8000000 in
theorem Do_more7 (wd : Int) (sg : Bool) (a b : Int) (w : World) (hL : Laid w) (hT : okT wd sg = true) (hw : (wd == 1) = false) (hb : 0 ≤ nrm wd sg b) :
    Gives Tryd.prog 18 #[.agg #[.int .i64 wd, .bool sg], .string ⟨#[60, 60]⟩, .int .u64 a, .int .u64 b] w (.tuple #[.int .u64 (nrm wd sg (rawOp wd sg (nrm wd sg a) (nrm wd sg b) 7)), .int .i64 0]) := by
  have hl := look7_10
  unfold Gives
  go_enter Tryd.func18, Tryd.ntmps18
  go_wp2_with (first | (go_at_call 22; refine (Right_gives _ _ _ (by repeat (first | exact hL | apply Laid.alloc | apply Laid.ov))).mono ?_; rintro e w' ⟨rfl, x, rfl⟩) | (go_at_call 36; refine (ops_more _ _ _ (by assumption)).mono ?_; rintro e w' ⟨rfl, rfl⟩))
  refine wp_region_ov (by kernel_rfl) (by kernel_rfl) ?_
  repeat (go_big_quiet_step (((go_at_call 14; exact (Norm_gives _ _ _ _ (by repeat (first | exact hL | apply Laid.alloc | apply Laid.ov))).quiet))))
  refine wpQuiet_nil ?_
  rintro _ ⟨nq, rfl⟩
  go_wp2_with fail
  all_goals
    refine wp_region_ov (by kernel_rfl) (by kernel_rfl) ?_
    repeat (go_big_quiet_step ((first | (go_at_call 14; exact (Norm_gives _ _ _ _ (by repeat (first | exact hL | apply Laid.alloc | apply Laid.ov))).quiet) | (go_at_call 47; exact (ops7_gives wd sg _ _ _ (by first | assumption | omega)).quiet))))
    refine wpQuiet_nil ?_
    rintro _ ⟨nq, rfl⟩
    go_wp2
    go_ret2
    exact ⟨by first | rfl | (simp_all; done), by repeat (first | exact IsOv.refl _ | apply IsOv.alloc | apply IsOv.ov)⟩
set_option maxHeartbeats 8000000 in
theorem Do_more8 (wd : Int) (sg : Bool) (a b : Int) (w : World) (hL : Laid w) (hT : okT wd sg = true) (hw : (wd == 1) = false) (hb : 0 ≤ nrm wd sg b) :
    Gives Tryd.prog 18 #[.agg #[.int .i64 wd, .bool sg], .string ⟨#[62, 62]⟩, .int .u64 a, .int .u64 b] w (.tuple #[.int .u64 (nrm wd sg (rawOp wd sg (nrm wd sg a) (nrm wd sg b) 8)), .int .i64 0]) := by
  have hl := look8_10
  unfold Gives
  go_enter Tryd.func18, Tryd.ntmps18
  go_wp2_with (first | (go_at_call 22; refine (Right_gives _ _ _ (by repeat (first | exact hL | apply Laid.alloc | apply Laid.ov))).mono ?_; rintro e w' ⟨rfl, x, rfl⟩) | (go_at_call 36; refine (ops_more _ _ _ (by assumption)).mono ?_; rintro e w' ⟨rfl, rfl⟩))
  refine wp_region_ov (by kernel_rfl) (by kernel_rfl) ?_
  repeat (go_big_quiet_step (((go_at_call 14; exact (Norm_gives _ _ _ _ (by repeat (first | exact hL | apply Laid.alloc | apply Laid.ov))).quiet))))
  refine wpQuiet_nil ?_
  rintro _ ⟨nq, rfl⟩
  go_wp2_with fail
  all_goals
    refine wp_region_ov (by kernel_rfl) (by kernel_rfl) ?_
    repeat (go_big_quiet_step ((first | (go_at_call 14; exact (Norm_gives _ _ _ _ (by repeat (first | exact hL | apply Laid.alloc | apply Laid.ov))).quiet) | (go_at_call 48; refine (ops8_gives wd sg _ _ _ (by repeat (first | exact hL | apply Laid.alloc | apply Laid.ov)) _ ?_ ?_ (by first | assumption | omega)).quiet <;> (simp [go_sem, ↓IntWalk.iteOmega]; done)))))
    refine wpQuiet_nil ?_
    rintro _ ⟨nq, rfl⟩
    go_wp2
    go_ret2
    exact ⟨by first | rfl | (simp_all; done), by repeat (first | exact IsOv.refl _ | apply IsOv.alloc | apply IsOv.ov)⟩
set_option maxHeartbeats 8000000 in
theorem Do_zero9 (wd : Int) (sg : Bool) (a b : Int) (w : World) (hL : Laid w) (hT : okT wd sg = true) (hw : (wd == 1) = false) (hb : nrm wd sg b = 0) :
    Gives Tryd.prog 18 #[.agg #[.int .i64 wd, .bool sg], .string ⟨#[47]⟩, .int .u64 a, .int .u64 b] w (.tuple #[.int .u64 0, .int .i64 11]) := by
  have hl := look9_10
  unfold Gives
  go_enter Tryd.func18, Tryd.ntmps18
  go_wp2_with (first | (go_at_call 22; refine (Right_gives _ _ _ (by repeat (first | exact hL | apply Laid.alloc | apply Laid.ov))).mono ?_; rintro e w' ⟨rfl, x, rfl⟩) | (go_at_call 36; refine (ops_more _ _ _ (by assumption)).mono ?_; rintro e w' ⟨rfl, rfl⟩))
  refine wp_region_ov (by kernel_rfl) (by kernel_rfl) ?_
  repeat (go_big_quiet_step (((go_at_call 14; exact (Norm_gives _ _ _ _ (by repeat (first | exact hL | apply Laid.alloc | apply Laid.ov))).quiet))))
  refine wpQuiet_nil ?_
  rintro _ ⟨nq, rfl⟩
  go_wp2
  go_ret2
  exact ⟨rfl, by repeat (first | exact IsOv.refl _ | apply IsOv.alloc | apply IsOv.ov)⟩
set_option maxHeartbeats 8000000 in
theorem Do_more9 (wd : Int) (sg : Bool) (a b : Int) (w : World) (hL : Laid w) (hT : okT wd sg = true) (hw : (wd == 1) = false) (hb : ¬ nrm wd sg b = 0) (hs : ¬ sint wd sg (nrm wd sg b) = 0) :
    Gives Tryd.prog 18 #[.agg #[.int .i64 wd, .bool sg], .string ⟨#[47]⟩, .int .u64 a, .int .u64 b] w (.tuple #[.int .u64 (nrm wd sg (rawOp wd sg (nrm wd sg a) (nrm wd sg b) 9)), .int .i64 0]) := by
  have hl := look9_10
  unfold Gives
  go_enter Tryd.func18, Tryd.ntmps18
  go_wp2_with (first | (go_at_call 22; refine (Right_gives _ _ _ (by repeat (first | exact hL | apply Laid.alloc | apply Laid.ov))).mono ?_; rintro e w' ⟨rfl, x, rfl⟩) | (go_at_call 36; refine (ops_more _ _ _ (by assumption)).mono ?_; rintro e w' ⟨rfl, rfl⟩))
  refine wp_region_ov (by kernel_rfl) (by kernel_rfl) ?_
  repeat (go_big_quiet_step (((go_at_call 14; exact (Norm_gives _ _ _ _ (by repeat (first | exact hL | apply Laid.alloc | apply Laid.ov))).quiet))))
  refine wpQuiet_nil ?_
  rintro _ ⟨nq, rfl⟩
  go_wp2_with fail
  all_goals
    refine wp_region_ov (by kernel_rfl) (by kernel_rfl) ?_
    repeat (go_big_quiet_step ((first | (go_at_call 14; exact (Norm_gives _ _ _ _ (by repeat (first | exact hL | apply Laid.alloc | apply Laid.ov))).quiet) | (go_at_call 50; refine (ops9_gives wd sg _ _ _ (by repeat (first | exact hL | apply Laid.alloc | apply Laid.ov)) _ ?_ ?_ (by first | assumption | omega) (by assumption)).quiet <;> (simp [go_sem, ↓IntWalk.iteOmega]; done)))))
    refine wpQuiet_nil ?_
    rintro _ ⟨nq, rfl⟩
    go_wp2
    go_ret2
    exact ⟨by first | rfl | (simp_all; done), by repeat (first | exact IsOv.refl _ | apply IsOv.alloc | apply IsOv.ov)⟩
set_option maxHeartbeats 8000000 in
theorem Do_zero10 (wd : Int) (sg : Bool) (a b : Int) (w : World) (hL : Laid w) (hT : okT wd sg = true) (hw : (wd == 1) = false) (hb : nrm wd sg b = 0) :
    Gives Tryd.prog 18 #[.agg #[.int .i64 wd, .bool sg], .string ⟨#[37]⟩, .int .u64 a, .int .u64 b] w (.tuple #[.int .u64 0, .int .i64 11]) := by
  have hl := look10_10
  unfold Gives
  go_enter Tryd.func18, Tryd.ntmps18
  go_wp2_with (first | (go_at_call 22; refine (Right_gives _ _ _ (by repeat (first | exact hL | apply Laid.alloc | apply Laid.ov))).mono ?_; rintro e w' ⟨rfl, x, rfl⟩) | (go_at_call 36; refine (ops_more _ _ _ (by assumption)).mono ?_; rintro e w' ⟨rfl, rfl⟩))
  refine wp_region_ov (by kernel_rfl) (by kernel_rfl) ?_
  repeat (go_big_quiet_step (((go_at_call 14; exact (Norm_gives _ _ _ _ (by repeat (first | exact hL | apply Laid.alloc | apply Laid.ov))).quiet))))
  refine wpQuiet_nil ?_
  rintro _ ⟨nq, rfl⟩
  go_wp2
  go_ret2
  exact ⟨rfl, by repeat (first | exact IsOv.refl _ | apply IsOv.alloc | apply IsOv.ov)⟩
set_option maxHeartbeats 8000000 in
theorem Do_more10 (wd : Int) (sg : Bool) (a b : Int) (w : World) (hL : Laid w) (hT : okT wd sg = true) (hw : (wd == 1) = false) (hb : ¬ nrm wd sg b = 0) (hs : ¬ sint wd sg (nrm wd sg b) = 0) :
    Gives Tryd.prog 18 #[.agg #[.int .i64 wd, .bool sg], .string ⟨#[37]⟩, .int .u64 a, .int .u64 b] w (.tuple #[.int .u64 (nrm wd sg (rawOp wd sg (nrm wd sg a) (nrm wd sg b) 10)), .int .i64 0]) := by
  have hl := look10_10
  unfold Gives
  go_enter Tryd.func18, Tryd.ntmps18
  go_wp2_with (first | (go_at_call 22; refine (Right_gives _ _ _ (by repeat (first | exact hL | apply Laid.alloc | apply Laid.ov))).mono ?_; rintro e w' ⟨rfl, x, rfl⟩) | (go_at_call 36; refine (ops_more _ _ _ (by assumption)).mono ?_; rintro e w' ⟨rfl, rfl⟩))
  refine wp_region_ov (by kernel_rfl) (by kernel_rfl) ?_
  repeat (go_big_quiet_step (((go_at_call 14; exact (Norm_gives _ _ _ _ (by repeat (first | exact hL | apply Laid.alloc | apply Laid.ov))).quiet))))
  refine wpQuiet_nil ?_
  rintro _ ⟨nq, rfl⟩
  go_wp2_with fail
  all_goals
    refine wp_region_ov (by kernel_rfl) (by kernel_rfl) ?_
    repeat (go_big_quiet_step ((first | (go_at_call 14; exact (Norm_gives _ _ _ _ (by repeat (first | exact hL | apply Laid.alloc | apply Laid.ov))).quiet) | (go_at_call 52; refine (ops10_gives wd sg _ _ _ (by repeat (first | exact hL | apply Laid.alloc | apply Laid.ov)) _ ?_ ?_ (by first | assumption | omega) (by assumption)).quiet <;> (simp [go_sem, ↓IntWalk.iteOmega]; done)))))
    refine wpQuiet_nil ?_
    rintro _ ⟨nq, rfl⟩
    go_wp2
    go_ret2
    exact ⟨by first | rfl | (simp_all; done), by repeat (first | exact IsOv.refl _ | apply IsOv.alloc | apply IsOv.ov)⟩
end Go.Proofs.YtggelmnahggdgaaDoor
