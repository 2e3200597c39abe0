/- word.less, Test, Turn, Cast, Of: what each answers, in every world in which the table of types lies as the program lays it. No other condition. -/
import Derived.Test.YtggelmnahggdgaaDoorWb
set_option linter.unusedVariables false
set_option linter.unusedSimpArgs false
namespace Go.Proofs.YtggelmnahggdgaaDoor
open Go.RowKit
/-- Is a value below another one? -/
def lessB (wd : Int) (sg : Bool) (a b : Int) : Bool := if sg then decide (sint wd sg a < sint wd sg b) else decide (nrm wd sg a < nrm wd sg b)
set_option maxHeartbeats 4000000 in
theorem less_gives (wd : Int) (sg : Bool) (a b : Int) (w : World) (hL : Laid w) :
    Gives Tryd.prog 40 #[.agg #[.int .i64 wd, .bool sg], .int .u64 a, .int .u64 b] w (.bool (lessB wd sg a b)) := by
  cases sg
  all_goals
    unfold Gives
    go_enter Tryd.func40, Tryd.ntmps40
    go_wp2_with (refine wp_region_ov (by kernel_rfl) (by kernel_rfl) ?_; (repeat (go_big_quiet_step ((first | (go_at_call 16; exact (Int_gives _ _ _ _ (by repeat (first | exact hL | apply Laid.alloc | apply Laid.ov))).quiet) | (go_at_call 14; exact (Norm_gives _ _ _ _ (by repeat (first | exact hL | apply Laid.alloc | apply Laid.ov))).quiet))))); refine wpQuiet_nil ?_; rintro _ ⟨nq, rfl⟩)
    go_ret
    exact ⟨by simp [lessB], by repeat (first | exact IsOv.refl _ | apply IsOv.alloc | apply IsOv.ov)⟩
/-- Are two values as an operator says? And is there such an operator? -/
def tstV (wd : Int) (sg : Bool) (op : ByteArray) (a b : Int) : Bool :=
  if !okT wd sg then false else if op.toList = [61, 61] then nrm wd sg a == nrm wd sg b else if op.toList = [33, 61] then nrm wd sg a != nrm wd sg b else
  if 1 < wd then (if op.toList = [60] then lessB wd sg (nrm wd sg a) (nrm wd sg b) else if op.toList = [60, 61] then !lessB wd sg (nrm wd sg b) (nrm wd sg a) else
    if op.toList = [62] then lessB wd sg (nrm wd sg b) (nrm wd sg a) else if op.toList = [62, 61] then !lessB wd sg (nrm wd sg a) (nrm wd sg b) else false) else false
def tstE (wd : Int) (sg : Bool) (op : ByteArray) : Int :=
  if !okT wd sg then 10 else if op.toList = [61, 61] then 0 else if op.toList = [33, 61] then 0 else
  if 1 < wd then (if op.toList = [60] then 0 else if op.toList = [60, 61] then 0 else if op.toList = [62] then 0 else if op.toList = [62, 61] then 0 else 12) else 12
set_option maxHeartbeats 8000000 in
theorem Test_gives (wd : Int) (sg : Bool) (op : ByteArray) (a b : Int) (w : World) (hL : Laid w) :
    Gives Tryd.prog 29 #[.agg #[.int .i64 wd, .bool sg], .string op, .int .u64 a, .int .u64 b] w (.tuple #[.bool (tstV wd sg op a b), .int .i64 (tstE wd sg op)]) := by
  unfold Gives
  go_enter Tryd.func29, Tryd.ntmps29
  go_wp2_with (first | (go_at_call 22; refine (Right_gives _ _ _ (by repeat (first | exact hL | apply Laid.alloc | apply Laid.ov))).mono ?_; rintro e w' ⟨rfl, x, rfl⟩) | (go_at_call 40; refine (less_gives _ _ _ _ _ (by repeat (first | exact hL | apply Laid.alloc | apply Laid.ov))).mono ?_; rintro e w' ⟨rfl, x, rfl⟩) | (refine wp_region_ov (by kernel_rfl) (by kernel_rfl) ?_; (repeat (go_big_quiet_step (((go_at_call 14; exact (Norm_gives _ _ _ _ (by repeat (first | exact hL | apply Laid.alloc | apply Laid.ov))).quiet))))); refine wpQuiet_nil ?_; rintro _ ⟨nq, rfl⟩))
  all_goals
    go_ret2
    exact ⟨by first | (simp_all [tstV, tstE]; done) | (simp_all [tstV, tstE]; (try constructor) <;> intros <;> omega), by repeat (first | exact IsOv.refl _ | apply IsOv.alloc | apply IsOv.ov)⟩
/-- What an operator makes of one value. -/
def trnV (wd : Int) (sg : Bool) (op : ByteArray) (a : Int) : Int :=
  if !okT wd sg then 0 else if op.toList = [45] ∧ 1 < wd then nrm wd sg (IntKind.u64.wrap (-a)) else if (op.toList = [126] ∧ 1 < wd) ∨ (op.toList = [33] ∧ wd = 1) then nrm wd sg (bits BinOp.xor IntKind.u64 IntKind.u64.max a) else 0
def trnE (wd : Int) (sg : Bool) (op : ByteArray) : Int :=
  if !okT wd sg then 10 else if op.toList = [45] ∧ 1 < wd then 0 else if (op.toList = [126] ∧ 1 < wd) ∨ (op.toList = [33] ∧ wd = 1) then 0 else 12
set_option maxHeartbeats 8000000 in
theorem Turn_gives (wd : Int) (sg : Bool) (op : ByteArray) (a : Int) (w : World) (hL : Laid w) :
    Gives Tryd.prog 27 #[.agg #[.int .i64 wd, .bool sg], .string op, .int .u64 a] w (.tuple #[.int .u64 (trnV wd sg op a), .int .i64 (trnE wd sg op)]) := by
  unfold Gives
  go_enter Tryd.func27, Tryd.ntmps27
  go_wp2_with (first | (go_at_call 22; refine (Right_gives _ _ _ (by repeat (first | exact hL | apply Laid.alloc | apply Laid.ov))).mono ?_; rintro e w' ⟨rfl, x, rfl⟩) | (go_at_call 14; refine (Norm_gives _ _ _ _ (by repeat (first | exact hL | apply Laid.alloc | apply Laid.ov))).mono ?_; rintro e w' ⟨rfl, x, rfl⟩))
  all_goals
    go_ret2
    exact ⟨by first | (simp_all [trnV, trnE]; done) | (simp_all [trnV, trnE]; (try constructor) <;> intros <;> omega), by repeat (first | exact IsOv.refl _ | apply IsOv.alloc | apply IsOv.ov)⟩
/-- A value of one type as one of another. -/
def cst (wd : Int) (sg : Bool) (xd : Int) (xg : Bool) (v : Int) : Int :=
  if !okT wd sg || !okT xd xg then 0 else if xd == 1 then (if nrm wd sg v < 1 then nrm wd sg v else 1) else nrm xd xg (IntKind.u64.wrap (sint wd sg v))
set_option maxHeartbeats 8000000 in
theorem Cast_gives (wd : Int) (sg : Bool) (xd : Int) (xg : Bool) (v : Int) (w : World) (hL : Laid w) :
    Gives Tryd.prog 20 #[.agg #[.int .i64 wd, .bool sg], .agg #[.int .i64 xd, .bool xg], .int .u64 v] w (.int .u64 (cst wd sg xd xg v)) := by
  unfold Gives
  go_enter Tryd.func20, Tryd.ntmps20
  go_wp2_with (first | (go_at_call 22; refine (Right_gives _ _ _ (by repeat (first | exact hL | apply Laid.alloc | apply Laid.ov))).mono ?_; rintro e w' ⟨rfl, x, rfl⟩) | (go_at_call 14; refine (Norm_gives _ _ _ _ (by repeat (first | exact hL | apply Laid.alloc | apply Laid.ov))).mono ?_; rintro e w' ⟨rfl, x, rfl⟩) | (refine wp_region_ov (by kernel_rfl) (by kernel_rfl) ?_; (repeat (go_big_quiet_step ((first | (go_at_call 16; exact (Int_gives _ _ _ _ (by repeat (first | exact hL | apply Laid.alloc | apply Laid.ov))).quiet) | (go_at_call 14; exact (Norm_gives _ _ _ _ (by repeat (first | exact hL | apply Laid.alloc | apply Laid.ov))).quiet))))); refine wpQuiet_nil ?_; rintro _ ⟨nq, rfl⟩))
  all_goals
    go_ret
    exact ⟨by first | (simp_all [cst]; done) | (simp_all [cst]; (try constructor) <;> intros <;> omega), by repeat (first | exact IsOv.refl _ | apply IsOv.alloc | apply IsOv.ov)⟩
end Go.Proofs.YtggelmnahggdgaaDoor
