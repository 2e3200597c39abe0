/- word's numbers: what mask, Norm, Int, shift, divide, ops and Do answer, in every world in which the table of types lies as the program lays it. Conditions: a shift's count is not below 0; a divisor is not 0. -/
import Derived.Test.YtggelmnahggdgaaDoorWa
set_option linter.unusedVariables false
set_option linter.unusedSimpArgs false
namespace Go.Proofs.YtggelmnahggdgaaDoor
open Go.RowKit
/-- All bits of a type. -/
def mk (wd : Int) : Int := 18446744073709551615 / 2 ^ min (IntKind.u64.wrap (wrap64 (64 - wd))).toNat 64
set_option maxHeartbeats 4000000 in
theorem mask_gives (wd : Int) (sg : Bool) (w : World) : Gives Tryd.prog 32 #[.agg #[.int .i64 wd, .bool sg]] w (.int .u64 (mk wd)) := by
  unfold Gives
  go_enter Tryd.func32, Tryd.ntmps32
  go_wp2
  go_ret
  exact ⟨by simp [mk], by repeat (first | exact IsOv.refl _ | apply IsOv.alloc)⟩
/-- The value that a number stands for. -/
def nrm (wd : Int) (sg : Bool) (v : Int) : Int := if okT wd sg then bits BinOp.and IntKind.u64 v (mk wd) else 0
set_option maxHeartbeats 4000000 in
theorem Norm_gives (wd : Int) (sg : Bool) (v : Int) (w : World) (hL : Laid w) :
    Gives Tryd.prog 14 #[.agg #[.int .i64 wd, .bool sg], .int .u64 v] w (.int .u64 (nrm wd sg v)) := by
  unfold Gives
  go_enter Tryd.func14, Tryd.ntmps14
  go_wp2_with (first | (go_at_call 22; refine (Right_gives _ _ _ (by repeat (first | exact hL | apply Laid.alloc | apply Laid.ov))).mono ?_; rintro e w' ⟨rfl, x, rfl⟩) | (go_at_call 32; refine (mask_gives _ _ _).mono ?_; rintro e w' ⟨rfl, x, rfl⟩))
  all_goals
    go_ret
    exact ⟨by simp_all [nrm], by repeat (first | exact IsOv.refl _ | apply IsOv.alloc | apply IsOv.ov)⟩
/-- Is a value's sign set? -/
def sgb (wd v : Int) : Bool := v / 2 ^ min (IntKind.u64.wrap (wrap64 (wd - 1))).toNat 64 == 1
/-- What a value is with its sign. -/
def sint (wd : Int) (sg : Bool) (v : Int) : Int := if sg && (okT wd sg && sgb wd (nrm wd sg v)) then wrap64 (bits BinOp.or IntKind.u64 (nrm wd sg v) (bits BinOp.xor IntKind.u64 IntKind.u64.max (mk wd))) else wrap64 (nrm wd sg v)
set_option maxHeartbeats 4000000 in
theorem Int_gives (wd : Int) (sg : Bool) (v : Int) (w : World) (hL : Laid w) :
    Gives Tryd.prog 16 #[.agg #[.int .i64 wd, .bool sg], .int .u64 v] w (.int .i64 (sint wd sg v)) := by
  unfold Gives
  go_enter Tryd.func16, Tryd.ntmps16
  go_wp2_with (first | (go_at_call 22; refine (Right_gives _ _ _ (by repeat (first | exact hL | apply Laid.alloc | apply Laid.ov))).mono ?_; rintro e w' ⟨rfl, x, rfl⟩) | (go_at_call 32; refine (mask_gives _ _ _).mono ?_; rintro e w' ⟨rfl, x, rfl⟩) | (go_at_call 14; refine (Norm_gives _ _ _ _ (by repeat (first | exact hL | apply Laid.alloc | apply Laid.ov))).mono ?_; rintro e w' ⟨rfl, x, rfl⟩))
  all_goals
    go_ret
    exact ⟨by simp_all [sint, sgb], by repeat (first | exact IsOv.refl _ | apply IsOv.alloc | apply IsOv.ov)⟩
/-- A value moved to the right. -/
def shf (wd : Int) (sg : Bool) (a b : Int) : Int := if !sg then (if 64 ≤ b then 0 else a / 2 ^ b.toNat) else if 63 < b then IntKind.u64.wrap (sint wd sg a / 9223372036854775808) else IntKind.u64.wrap (sint wd sg a / 2 ^ b.toNat)
set_option maxHeartbeats 4000000 in
theorem shift_gives (wd : Int) (sg : Bool) (a b : Int) (w : World) (hL : Laid w) (hb : 0 ≤ b) :
    Gives Tryd.prog 49 #[.agg #[.int .i64 wd, .bool sg], .int .u64 a, .int .u64 b] w (.int .u64 (shf wd sg a b)) := by
  unfold Gives
  go_enter Tryd.func49, Tryd.ntmps49
  go_wp2_with (first | (go_at_call 16; refine (Int_gives _ _ _ _ (by repeat (first | exact hL | apply Laid.alloc | apply Laid.ov))).mono ?_; rintro e w' ⟨rfl, x, rfl⟩))
  all_goals
    go_ret
    refine ⟨?_, by repeat (first | exact IsOv.refl _ | apply IsOv.alloc | apply IsOv.ov)⟩
    unfold shf
    first | (rw [if_pos ‹_›, if_pos ‹_›]; rfl) | (rw [if_pos ‹_›, if_neg (by omega)]; rfl) | (rw [if_neg (by simp_all), if_pos ‹_›]; rfl) | (rw [if_neg (by simp_all), if_neg (by omega)]; rfl)
/-- The quotient, and the rest. -/
def quoZ (wd : Int) (sg : Bool) (a b : Int) : Int := if !sg then IntKind.u64.wrap (a.tdiv b) else if sint wd sg b == -1 then IntKind.u64.wrap (wrap64 (-sint wd sg a)) else IntKind.u64.wrap (wrap64 ((sint wd sg a).tdiv (sint wd sg b)))
def remZ (wd : Int) (sg : Bool) (a b : Int) : Int := if !sg then a.tmod b else if sint wd sg b == -1 then 0 else IntKind.u64.wrap ((sint wd sg a).tmod (sint wd sg b))
set_option maxHeartbeats 4000000 in
theorem divide_gives (wd : Int) (sg : Bool) (a b : Int) (w : World) (hL : Laid w) (hb : ¬ b = 0) (hs : ¬ sint wd sg b = 0) :
    Gives Tryd.prog 51 #[.agg #[.int .i64 wd, .bool sg], .int .u64 a, .int .u64 b] w (.tuple #[.int .u64 (quoZ wd sg a b), .int .u64 (remZ wd sg a b)]) := by
  unfold Gives
  go_enter Tryd.func51, Tryd.ntmps51
  go_wp2_with fail
  · refine wp_region_ov (by kernel_rfl) (by kernel_rfl) ?_
    repeat (go_big_quiet_step (fail))
    refine wpQuiet_nil ?_
    rintro _ ⟨nq, rfl⟩
    go_wp2
    go_ret2
    exact ⟨by simp_all [quoZ, remZ], by repeat (first | exact IsOv.refl _ | apply IsOv.alloc | apply IsOv.ov)⟩
  · refine wp_region_ov (by kernel_rfl) (by kernel_rfl) ?_
    repeat (go_big_quiet_step (((go_at_call 16; exact (Int_gives _ _ _ _ (by repeat (first | exact hL | apply Laid.alloc | apply Laid.ov))).quiet))))
    refine wpQuiet_nil ?_
    rintro _ ⟨nq, rfl⟩
    go_wp2_with fail
    · go_ret2
      exact ⟨by simp_all [quoZ, remZ], by repeat (first | exact IsOv.refl _ | apply IsOv.alloc | apply IsOv.ov)⟩
    · refine wp_region_ov (by kernel_rfl) (by kernel_rfl) ?_
      repeat (go_big_quiet_step (fail))
      refine wpQuiet_nil ?_
      rintro _ ⟨nq2, rfl⟩
      go_wp2
      go_ret2
      exact ⟨by simp_all [quoZ, remZ], by repeat (first | exact IsOv.refl _ | apply IsOv.alloc | apply IsOv.ov)⟩
/-- What the operators make of two values: and, or, xor, +, -, *, <<, >>, /, %. -/
def rawOp (wd : Int) (sg : Bool) (a b : Int) : Nat → Int
  | 1 => bits BinOp.and IntKind.u64 a b
  | 2 => bits BinOp.or IntKind.u64 a b
  | 3 => bits BinOp.xor IntKind.u64 a b
  | 4 => IntKind.u64.wrap (a + b)
  | 5 => IntKind.u64.wrap (a - b)
  | 6 => IntKind.u64.wrap (a * b)
  | 7 => if 64 ≤ b then 0 else IntKind.u64.wrap (a * 2 ^ b.toNat)
  | 8 => shf wd sg a b
  | 9 => quoZ wd sg a b
  | _ => remZ wd sg a b
set_option maxHeartbeats 4000000 in
theorem ops1_gives (wd : Int) (sg : Bool) (a b : Int) (w : World) : Gives Tryd.prog 41 #[.int .u64 a, .int .u64 b] w (.int .u64 (rawOp wd sg a b 1)) := by
  unfold Gives
  go_enter Tryd.func41, Tryd.ntmps41
  go_wp2
  go_ret
  exact ⟨by simp [rawOp], IsOv.refl _⟩
set_option maxHeartbeats 4000000 in
theorem ops2_gives (wd : Int) (sg : Bool) (a b : Int) (w : World) : Gives Tryd.prog 42 #[.int .u64 a, .int .u64 b] w (.int .u64 (rawOp wd sg a b 2)) := by
  unfold Gives
  go_enter Tryd.func42, Tryd.ntmps42
  go_wp2
  go_ret
  exact ⟨by simp [rawOp], IsOv.refl _⟩
set_option maxHeartbeats 4000000 in
theorem ops3_gives (wd : Int) (sg : Bool) (a b : Int) (w : World) : Gives Tryd.prog 43 #[.int .u64 a, .int .u64 b] w (.int .u64 (rawOp wd sg a b 3)) := by
  unfold Gives
  go_enter Tryd.func43, Tryd.ntmps43
  go_wp2
  go_ret
  exact ⟨by simp [rawOp], IsOv.refl _⟩
set_option maxHeartbeats 4000000 in
theorem ops4_gives (wd : Int) (sg : Bool) (a b : Int) (w : World) : Gives Tryd.prog 44 #[.int .u64 a, .int .u64 b] w (.int .u64 (rawOp wd sg a b 4)) := by
  unfold Gives
  go_enter Tryd.func44, Tryd.ntmps44
  go_wp2
  go_ret
  exact ⟨by simp [rawOp], IsOv.refl _⟩
set_option maxHeartbeats 4000000 in
theorem ops5_gives (wd : Int) (sg : Bool) (a b : Int) (w : World) : Gives Tryd.prog 45 #[.int .u64 a, .int .u64 b] w (.int .u64 (rawOp wd sg a b 5)) := by
  unfold Gives
  go_enter Tryd.func45, Tryd.ntmps45
  go_wp2
  go_ret
  exact ⟨by simp [rawOp], IsOv.refl _⟩
set_option maxHeartbeats 4000000 in
theorem ops6_gives (wd : Int) (sg : Bool) (a b : Int) (w : World) : Gives Tryd.prog 46 #[.int .u64 a, .int .u64 b] w (.int .u64 (rawOp wd sg a b 6)) := by
  unfold Gives
  go_enter Tryd.func46, Tryd.ntmps46
  go_wp2
  go_ret
  exact ⟨by simp [rawOp], IsOv.refl _⟩
set_option maxHeartbeats 4000000 in
theorem ops7_gives (wd : Int) (sg : Bool) (a b : Int) (w : World) (hb : 0 ≤ b) : Gives Tryd.prog 47 #[.int .u64 a, .int .u64 b] w (.int .u64 (rawOp wd sg a b 7)) := by
  unfold Gives
  go_enter Tryd.func47, Tryd.ntmps47
  go_wp2
  all_goals
    go_ret
    refine ⟨?_, IsOv.refl _⟩
    simp only [rawOp]
    first | (rw [if_pos ‹_›]; rfl) | (rw [if_neg (by omega)]; rfl)
set_option maxHeartbeats 4000000 in
theorem ops8_gives (wd : Int) (sg : Bool) (a b : Int) (w : World) (hL : Laid w) (p : Nat) (c0 : w.cell? ⟨p, 0, none⟩ = some (.int .i64 wd)) (c1 : w.cell? ⟨p, 1, none⟩ = some (.bool sg)) (hb : 0 ≤ b) :
    Gives Tryd.prog 48 #[.int .u64 a, .int .u64 b, .pointer (some ⟨p, 0, none⟩)] w (.int .u64 (rawOp wd sg a b 8)) := by
  unfold Gives
  go_enter Tryd.func48, Tryd.ntmps48
  go_wp2_with (first | (go_at_call 49; refine (shift_gives _ _ _ _ _ (by repeat (first | exact hL | apply Laid.alloc | apply Laid.ov)) hb).mono ?_; rintro e w' ⟨rfl, x, rfl⟩))
  go_ret
  exact ⟨by simp [rawOp], by repeat (first | exact IsOv.refl _ | apply IsOv.alloc | apply IsOv.ov)⟩
set_option maxHeartbeats 4000000 in
theorem ops9_gives (wd : Int) (sg : Bool) (a b : Int) (w : World) (hL : Laid w) (p : Nat) (c0 : w.cell? ⟨p, 0, none⟩ = some (.int .i64 wd)) (c1 : w.cell? ⟨p, 1, none⟩ = some (.bool sg)) (hb : ¬ b = 0) (hs : ¬ sint wd sg b = 0) :
    Gives Tryd.prog 50 #[.int .u64 a, .int .u64 b, .pointer (some ⟨p, 0, none⟩)] w (.int .u64 (rawOp wd sg a b 9)) := by
  unfold Gives
  go_enter Tryd.func50, Tryd.ntmps50
  go_wp2_with (first | (go_at_call 51; refine (divide_gives _ _ _ _ _ (by repeat (first | exact hL | apply Laid.alloc | apply Laid.ov)) hb hs).mono ?_; rintro e w' ⟨rfl, x, rfl⟩))
  go_ret
  exact ⟨by simp [rawOp], by repeat (first | exact IsOv.refl _ | apply IsOv.alloc | apply IsOv.ov)⟩
set_option maxHeartbeats 4000000 in
theorem ops10_gives (wd : Int) (sg : Bool) (a b : Int) (w : World) (hL : Laid w) (p : Nat) (c0 : w.cell? ⟨p, 0, none⟩ = some (.int .i64 wd)) (c1 : w.cell? ⟨p, 1, none⟩ = some (.bool sg)) (hb : ¬ b = 0) (hs : ¬ sint wd sg b = 0) :
    Gives Tryd.prog 52 #[.int .u64 a, .int .u64 b, .pointer (some ⟨p, 0, none⟩)] w (.int .u64 (rawOp wd sg a b 10)) := by
  unfold Gives
  go_enter Tryd.func52, Tryd.ntmps52
  go_wp2_with (first | (go_at_call 51; refine (divide_gives _ _ _ _ _ (by repeat (first | exact hL | apply Laid.alloc | apply Laid.ov)) hb hs).mono ?_; rintro e w' ⟨rfl, x, rfl⟩))
  go_ret
  exact ⟨by simp [rawOp], by repeat (first | exact IsOv.refl _ | apply IsOv.alloc | apply IsOv.ov)⟩
/-- The map of the operators, as far as it is made. -/
def opsEs0 (p : Nat) : Array MapEntry := #[]
def opsEs1 (p : Nat) : Array MapEntry := #[⟨.string ⟨#[38]⟩, .func (.func 41) #[] #[], 0⟩]
def opsEs2 (p : Nat) : Array MapEntry := #[⟨.string ⟨#[38]⟩, .func (.func 41) #[] #[], 0⟩, ⟨.string ⟨#[124]⟩, .func (.func 42) #[] #[], 1⟩]
def opsEs3 (p : Nat) : Array MapEntry := #[⟨.string ⟨#[38]⟩, .func (.func 41) #[] #[], 0⟩, ⟨.string ⟨#[124]⟩, .func (.func 42) #[] #[], 1⟩, ⟨.string ⟨#[94]⟩, .func (.func 43) #[] #[], 2⟩]
def opsEs4 (p : Nat) : Array MapEntry := #[⟨.string ⟨#[38]⟩, .func (.func 41) #[] #[], 0⟩, ⟨.string ⟨#[124]⟩, .func (.func 42) #[] #[], 1⟩, ⟨.string ⟨#[94]⟩, .func (.func 43) #[] #[], 2⟩, ⟨.string ⟨#[43]⟩, .func (.func 44) #[] #[], 3⟩]
def opsEs5 (p : Nat) : Array MapEntry := #[⟨.string ⟨#[38]⟩, .func (.func 41) #[] #[], 0⟩, ⟨.string ⟨#[124]⟩, .func (.func 42) #[] #[], 1⟩, ⟨.string ⟨#[94]⟩, .func (.func 43) #[] #[], 2⟩, ⟨.string ⟨#[43]⟩, .func (.func 44) #[] #[], 3⟩, ⟨.string ⟨#[45]⟩, .func (.func 45) #[] #[], 4⟩]
def opsEs6 (p : Nat) : Array MapEntry := #[⟨.string ⟨#[38]⟩, .func (.func 41) #[] #[], 0⟩, ⟨.string ⟨#[124]⟩, .func (.func 42) #[] #[], 1⟩, ⟨.string ⟨#[94]⟩, .func (.func 43) #[] #[], 2⟩, ⟨.string ⟨#[43]⟩, .func (.func 44) #[] #[], 3⟩, ⟨.string ⟨#[45]⟩, .func (.func 45) #[] #[], 4⟩, ⟨.string ⟨#[42]⟩, .func (.func 46) #[] #[], 5⟩]
def opsEs7 (p : Nat) : Array MapEntry := #[⟨.string ⟨#[38]⟩, .func (.func 41) #[] #[], 0⟩, ⟨.string ⟨#[124]⟩, .func (.func 42) #[] #[], 1⟩, ⟨.string ⟨#[94]⟩, .func (.func 43) #[] #[], 2⟩, ⟨.string ⟨#[43]⟩, .func (.func 44) #[] #[], 3⟩, ⟨.string ⟨#[45]⟩, .func (.func 45) #[] #[], 4⟩, ⟨.string ⟨#[42]⟩, .func (.func 46) #[] #[], 5⟩, ⟨.string ⟨#[60, 60]⟩, .func (.func 47) #[] #[], 6⟩]
def opsEs8 (p : Nat) : Array MapEntry := #[⟨.string ⟨#[38]⟩, .func (.func 41) #[] #[], 0⟩, ⟨.string ⟨#[124]⟩, .func (.func 42) #[] #[], 1⟩, ⟨.string ⟨#[94]⟩, .func (.func 43) #[] #[], 2⟩, ⟨.string ⟨#[43]⟩, .func (.func 44) #[] #[], 3⟩, ⟨.string ⟨#[45]⟩, .func (.func 45) #[] #[], 4⟩, ⟨.string ⟨#[42]⟩, .func (.func 46) #[] #[], 5⟩, ⟨.string ⟨#[60, 60]⟩, .func (.func 47) #[] #[], 6⟩, ⟨.string ⟨#[62, 62]⟩, .func (.func 48) #[] #[.pointer (some ⟨p, 0, none⟩)], 7⟩]
def opsEs9 (p : Nat) : Array MapEntry := #[⟨.string ⟨#[38]⟩, .func (.func 41) #[] #[], 0⟩, ⟨.string ⟨#[124]⟩, .func (.func 42) #[] #[], 1⟩, ⟨.string ⟨#[94]⟩, .func (.func 43) #[] #[], 2⟩, ⟨.string ⟨#[43]⟩, .func (.func 44) #[] #[], 3⟩, ⟨.string ⟨#[45]⟩, .func (.func 45) #[] #[], 4⟩, ⟨.string ⟨#[42]⟩, .func (.func 46) #[] #[], 5⟩, ⟨.string ⟨#[60, 60]⟩, .func (.func 47) #[] #[], 6⟩, ⟨.string ⟨#[62, 62]⟩, .func (.func 48) #[] #[.pointer (some ⟨p, 0, none⟩)], 7⟩, ⟨.string ⟨#[47]⟩, .func (.func 50) #[] #[.pointer (some ⟨p, 0, none⟩)], 8⟩]
def opsEs10 (p : Nat) : Array MapEntry := #[⟨.string ⟨#[38]⟩, .func (.func 41) #[] #[], 0⟩, ⟨.string ⟨#[124]⟩, .func (.func 42) #[] #[], 1⟩, ⟨.string ⟨#[94]⟩, .func (.func 43) #[] #[], 2⟩, ⟨.string ⟨#[43]⟩, .func (.func 44) #[] #[], 3⟩, ⟨.string ⟨#[45]⟩, .func (.func 45) #[] #[], 4⟩, ⟨.string ⟨#[42]⟩, .func (.func 46) #[] #[], 5⟩, ⟨.string ⟨#[60, 60]⟩, .func (.func 47) #[] #[], 6⟩, ⟨.string ⟨#[62, 62]⟩, .func (.func 48) #[] #[.pointer (some ⟨p, 0, none⟩)], 7⟩, ⟨.string ⟨#[47]⟩, .func (.func 50) #[] #[.pointer (some ⟨p, 0, none⟩)], 8⟩, ⟨.string ⟨#[37]⟩, .func (.func 52) #[] #[.pointer (some ⟨p, 0, none⟩)], 9⟩]
theorem upd1 (p : Nat) (U : World) (n : Nat) (hn : n = U.heap.size) : (Instr.mapUpdate 59 (.map (some n)) (.string ⟨#[38]⟩) (.func (.func 41) #[] #[])).run Tryd.prog (U.alloc (.map (opsEs0 p) 0)) = .ok () (U.alloc (.map (opsEs1 p) 1)) :=
  run_mapUpdate_str_new Tryd.underlying59 Tryd.underlying9 U n _ _ (opsEs0 p) 0 (by kernel_rfl) hn
theorem upd2 (p : Nat) (U : World) (n : Nat) (hn : n = U.heap.size) : (Instr.mapUpdate 59 (.map (some n)) (.string ⟨#[124]⟩) (.func (.func 42) #[] #[])).run Tryd.prog (U.alloc (.map (opsEs1 p) 1)) = .ok () (U.alloc (.map (opsEs2 p) 2)) :=
  run_mapUpdate_str_new Tryd.underlying59 Tryd.underlying9 U n _ _ (opsEs1 p) 1 (by kernel_rfl) hn
theorem upd3 (p : Nat) (U : World) (n : Nat) (hn : n = U.heap.size) : (Instr.mapUpdate 59 (.map (some n)) (.string ⟨#[94]⟩) (.func (.func 43) #[] #[])).run Tryd.prog (U.alloc (.map (opsEs2 p) 2)) = .ok () (U.alloc (.map (opsEs3 p) 3)) :=
  run_mapUpdate_str_new Tryd.underlying59 Tryd.underlying9 U n _ _ (opsEs2 p) 2 (by kernel_rfl) hn
theorem upd4 (p : Nat) (U : World) (n : Nat) (hn : n = U.heap.size) : (Instr.mapUpdate 59 (.map (some n)) (.string ⟨#[43]⟩) (.func (.func 44) #[] #[])).run Tryd.prog (U.alloc (.map (opsEs3 p) 3)) = .ok () (U.alloc (.map (opsEs4 p) 4)) :=
  run_mapUpdate_str_new Tryd.underlying59 Tryd.underlying9 U n _ _ (opsEs3 p) 3 (by kernel_rfl) hn
theorem upd5 (p : Nat) (U : World) (n : Nat) (hn : n = U.heap.size) : (Instr.mapUpdate 59 (.map (some n)) (.string ⟨#[45]⟩) (.func (.func 45) #[] #[])).run Tryd.prog (U.alloc (.map (opsEs4 p) 4)) = .ok () (U.alloc (.map (opsEs5 p) 5)) :=
  run_mapUpdate_str_new Tryd.underlying59 Tryd.underlying9 U n _ _ (opsEs4 p) 4 (by kernel_rfl) hn
theorem upd6 (p : Nat) (U : World) (n : Nat) (hn : n = U.heap.size) : (Instr.mapUpdate 59 (.map (some n)) (.string ⟨#[42]⟩) (.func (.func 46) #[] #[])).run Tryd.prog (U.alloc (.map (opsEs5 p) 5)) = .ok () (U.alloc (.map (opsEs6 p) 6)) :=
  run_mapUpdate_str_new Tryd.underlying59 Tryd.underlying9 U n _ _ (opsEs5 p) 5 (by kernel_rfl) hn
theorem upd7 (p : Nat) (U : World) (n : Nat) (hn : n = U.heap.size) : (Instr.mapUpdate 59 (.map (some n)) (.string ⟨#[60, 60]⟩) (.func (.func 47) #[] #[])).run Tryd.prog (U.alloc (.map (opsEs6 p) 6)) = .ok () (U.alloc (.map (opsEs7 p) 7)) :=
  run_mapUpdate_str_new Tryd.underlying59 Tryd.underlying9 U n _ _ (opsEs6 p) 6 (by kernel_rfl) hn
theorem upd8 (p : Nat) (U : World) (n : Nat) (hn : n = U.heap.size) : (Instr.mapUpdate 59 (.map (some n)) (.string ⟨#[62, 62]⟩) (.func (.func 48) #[] #[.pointer (some ⟨p, 0, none⟩)])).run Tryd.prog (U.alloc (.map (opsEs7 p) 7)) = .ok () (U.alloc (.map (opsEs8 p) 8)) :=
  run_mapUpdate_str_new Tryd.underlying59 Tryd.underlying9 U n _ _ (opsEs7 p) 7 (by kernel_rfl) hn
theorem upd9 (p : Nat) (U : World) (n : Nat) (hn : n = U.heap.size) : (Instr.mapUpdate 59 (.map (some n)) (.string ⟨#[47]⟩) (.func (.func 50) #[] #[.pointer (some ⟨p, 0, none⟩)])).run Tryd.prog (U.alloc (.map (opsEs8 p) 8)) = .ok () (U.alloc (.map (opsEs9 p) 9)) :=
  run_mapUpdate_str_new Tryd.underlying59 Tryd.underlying9 U n _ _ (opsEs8 p) 8 (by kernel_rfl) hn
theorem upd10 (p : Nat) (U : World) (n : Nat) (hn : n = U.heap.size) : (Instr.mapUpdate 59 (.map (some n)) (.string ⟨#[37]⟩) (.func (.func 52) #[] #[.pointer (some ⟨p, 0, none⟩)])).run Tryd.prog (U.alloc (.map (opsEs9 p) 9)) = .ok () (U.alloc (.map (opsEs10 p) 10)) :=
  run_mapUpdate_str_new Tryd.underlying59 Tryd.underlying9 U n _ _ (opsEs9 p) 9 (by kernel_rfl) hn
theorem mk_ops (p : Nat) (w : World) : (Instr.makeMap 59 none).run Tryd.prog w = .ok (.map (some w.heap.size)) (w.alloc (.map (opsEs0 p) 0)) := run_makeMap 59 w
set_option maxHeartbeats 4000000 in
theorem ops_one (wd : Int) (sg : Bool) (w : World) (hw : (wd == 1) = true) :
    Calls Tryd.prog 36 #[.agg #[.int .i64 wd, .bool sg]] w fun e w' => e = .returned (.map (some (w.heap.size + 1))) ∧ w' = (w.alloc (.cells #[.int .i64 wd, .bool sg] 23)).alloc (.map (opsEs3 w.heap.size) 3) := by
  have hmm := mk_ops w.heap.size
  have hu1 := upd1 w.heap.size
  have hu2 := upd2 w.heap.size
  have hu3 := upd3 w.heap.size
  go_enter Tryd.func36, Tryd.ntmps36
  go_wp2
  go_ret
  exact ⟨rfl, rfl⟩
set_option maxHeartbeats 4000000 in
theorem ops_more (wd : Int) (sg : Bool) (w : World) (hw : (wd == 1) = false) :
    Calls Tryd.prog 36 #[.agg #[.int .i64 wd, .bool sg]] w fun e w' => e = .returned (.map (some (w.heap.size + 1))) ∧ w' = (w.alloc (.cells #[.int .i64 wd, .bool sg] 23)).alloc (.map (opsEs10 w.heap.size) 10) := by
  have hmm := mk_ops w.heap.size
  have hu1 := upd1 w.heap.size
  have hu2 := upd2 w.heap.size
  have hu3 := upd3 w.heap.size
  have hu4 := upd4 w.heap.size
  have hu5 := upd5 w.heap.size
  have hu6 := upd6 w.heap.size
  have hu7 := upd7 w.heap.size
  have hu8 := upd8 w.heap.size
  have hu9 := upd9 w.heap.size
  have hu10 := upd10 w.heap.size
  go_enter Tryd.func36, Tryd.ntmps36
  go_wp2
  go_ret
  exact ⟨rfl, rfl⟩
end Go.Proofs.YtggelmnahggdgaaDoor
