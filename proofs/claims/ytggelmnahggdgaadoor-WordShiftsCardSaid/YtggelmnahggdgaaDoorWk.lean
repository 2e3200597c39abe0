/- WordShifts: what the law answers, in every world in which the table of types lies as the program lays it. Conditions: the number is of 64 bits, the count of 8. -/
import Derived.Test.YtggelmnahggdgaaDoorWf
import Derived.Test.YtggelmnahggdgaaDoorWg
set_option linter.unusedVariables false
set_option linter.unusedSimpArgs false
namespace Go.Proofs.YtggelmnahggdgaaDoor
open Go.RowKit
/-- Doubled, or halved, as often. -/
def shX (wd : Int) (sg : Bool) (a : Int) : Nat → Int
  | 0 => nrm wd sg a
  | k + 1 => doV wd sg ⟨#[42]⟩ (shX wd sg a k) 2
def shY (wd : Int) (sg : Bool) (a : Int) : Nat → Int
  | 0 => nrm wd sg a
  | k + 1 => if sg then shY wd sg a k else doV wd sg ⟨#[47]⟩ (shY wd sg a k) 2
theorem nrm_small {wd : Int} {sg : Bool} {n : Int} (hT : okT wd sg = true) (hw : ¬ wd = 1) (h0 : 0 ≤ n) (h1 : n < 70) : nrm wd sg n = n := by
  rw [nrm_eq hT ⟨h0, by omega⟩]
  have : 256 ≤ M wd := by
    rcases (okT_iff wd sg).1 hT with ⟨rfl, _⟩ | rfl | rfl | rfl | rfl
    · exact absurd rfl hw
    all_goals decide
  exact Int.emod_eq_of_lt h0 (by omega)
theorem shX_eq {wd : Int} {sg : Bool} {a : Int} (hT : okT wd sg = true) (hw : ¬ wd = 1) (ha : U64 a) : ∀ k, shX wd sg a k = nrm wd sg a * 2 ^ k % M wd
  | 0 => by
    have h := nrm_range hT ha
    rw [shX, Int.pow_zero, Int.mul_one, Int.emod_eq_of_lt h.1 h.2]
  | k + 1 => by
    have ih := shX_eq hT hw ha k
    have hM := M_pos hT
    have hX : U64 (shX wd sg a k) := by
      rw [ih]
      exact ⟨Int.emod_nonneg _ (by omega), by have := Int.emod_lt_of_pos (nrm wd sg a * 2 ^ k) (show 0 < M wd by omega); omega⟩
    have h2 : nrm wd sg 2 = 2 := nrm_small hT hw (by decide) (by decide)
    rw [shX, doV_plain _ _ hT hw opN_6 (by decide) (by decide), h2]
    simp only [rawOp]
    rw [nrm_eq hT (u64_of_wrap _)]
    have h1 : Cg (M wd) (IntKind.u64.wrap (nrm wd sg (shX wd sg a k) * 2)) (nrm wd sg a * 2 ^ k * 2) := by
      refine (cg_u64 hT _).trans (Cg.mul ?_ (Cg.refl _ _))
      refine (cg_nrm hT hX).trans ?_
      rw [ih]; exact Cg.mod _ _
    rw [h1, Int.pow_succ, Int.mul_assoc]
theorem shY_eq {wd : Int} {a : Int} (hT : okT wd false = true) (hw : ¬ wd = 1) (ha : U64 a) : ∀ k, shY wd false a k = nrm wd false a / 2 ^ k
  | 0 => by rw [shY, Int.pow_zero, Int.ediv_one]
  | k + 1 => by
    have ih := shY_eq hT hw ha k
    have hr := nrm_range hT ha
    have hM := M_pos hT
    have h0 : 0 ≤ nrm wd false a / 2 ^ k := Int.ediv_nonneg hr.1 (Int.le_of_lt (Int.pow_pos (by decide)))
    have h1 : nrm wd false a / 2 ^ k ≤ nrm wd false a := Int.ediv_le_self _ hr.1
    have hU : U64 (shY wd false a k) := by rw [ih]; exact ⟨h0, by omega⟩
    have h2 : nrm wd false 2 = 2 := nrm_small hT hw (by decide) (by decide)
    have h3 : nrm wd false (shY wd false a k) = shY wd false a k := by rw [nrm_eq hT hU, ih]; exact Int.emod_eq_of_lt h0 (by omega)
    rw [shY]
    simp only [Bool.false_eq_true, if_false]
    rw [doV_quo _ hT hw (by rw [h2]; decide), h2, h3, ih]
    unfold quoZ
    simp only [Bool.not_false, if_true]
    have h4 : 0 ≤ nrm wd false a / 2 ^ k / 2 := Int.ediv_nonneg h0 (by decide)
    have h5 : nrm wd false a / 2 ^ k / 2 ≤ nrm wd false a / 2 ^ k := Int.ediv_le_self _ h0
    rw [Int.tdiv_eq_ediv_of_nonneg h0, wraps_u64 _ h4 (by omega), nrm_eq hT ⟨h4, by omega⟩, Int.emod_eq_of_lt h4 (by omega), Int.pow_succ, Int.ediv_ediv_of_nonneg (Int.le_of_lt (Int.pow_pos (by decide)))]
theorem shl_law {wd : Int} {sg : Bool} {a : Int} (n : Nat) (hT : okT wd sg = true) (hw : ¬ wd = 1) (ha : U64 a) (hn : n < 70) : doV wd sg ⟨#[60, 60]⟩ a n = shX wd sg a n := by
  have h2 : nrm wd sg n = n := nrm_small hT hw (by omega) (by omega)
  rw [shX_eq hT hw ha, doV_plain _ _ hT hw opN_7 (by decide) (by decide), h2]
  simp only [rawOp]
  split
  · rename_i h
    rw [show nrm wd sg 0 = 0 from nrm_small hT hw (by decide) (by decide)]
    obtain ⟨m, rfl⟩ : ∃ m, n = 64 + m := ⟨n - 64, by omega⟩
    obtain ⟨c, hc⟩ := M_dvd hT
    rw [Int.pow_add, show (2 : Int) ^ 64 = 18446744073709551616 from rfl, hc]
    rw [show nrm wd sg a * (M wd * c * 2 ^ m) = M wd * (nrm wd sg a * (c * 2 ^ m)) by
      rw [Int.mul_assoc (M wd), Int.mul_left_comm]]
    exact (Int.mul_emod_right _ _).symm
  · rw [nrm_eq hT (u64_of_wrap _), Int.toNat_natCast]
    exact cg_u64 hT _
theorem shr_law {wd : Int} {a : Int} (n : Nat) (hT : okT wd false = true) (hw : ¬ wd = 1) (ha : U64 a) (hn : n < 70) : doV wd false ⟨#[62, 62]⟩ a n = shY wd false a n := by
  have hr := nrm_range hT ha
  have hM := M_pos hT
  have h2 : nrm wd false n = n := nrm_small hT hw (by omega) (by omega)
  rw [shY_eq hT hw ha, doV_plain _ _ hT hw opN_8 (by decide) (by decide), h2]
  simp only [rawOp, shf, Bool.not_false, if_true]
  have hp : (0 : Int) < 2 ^ n := Int.pow_pos (by decide)
  split
  · rename_i h
    rw [show nrm wd false 0 = 0 from nrm_small hT hw (by decide) (by decide)]
    symm
    refine Int.ediv_eq_zero_of_lt hr.1 ?_
    have : (2 : Int) ^ 64 ≤ 2 ^ n := by exact_mod_cast Nat.pow_le_pow_right (n := 2) (by decide) (show 64 ≤ n by omega)
    omega
  · rw [Int.toNat_natCast]
    have h0 : 0 ≤ nrm wd false a / 2 ^ n := Int.ediv_nonneg hr.1 (Int.le_of_lt hp)
    have h1 : nrm wd false a / 2 ^ n ≤ nrm wd false a := Int.ediv_le_self _ hr.1
    rw [nrm_eq hT ⟨h0, by omega⟩, Int.emod_eq_of_lt h0 (by omega)]
theorem shX_u64 {wd : Int} {sg : Bool} {a : Int} (ha : U64 a) : ∀ k, U64 (shX wd sg a k)
  | 0 => nrm_u64 ha
  | k + 1 => doV_u64 _ _ _ (shX_u64 ha k) ⟨by decide, by decide⟩
theorem shY_u64 {wd : Int} {sg : Bool} {a : Int} (ha : U64 a) : ∀ k, U64 (shY wd sg a k)
  | 0 => nrm_u64 ha
  | k + 1 => by
    rw [shY]
    split
    · exact shY_u64 ha k
    · exact doV_u64 _ _ _ (shY_u64 ha k) ⟨by decide, by decide⟩
theorem doE_shift (wd : Int) (sg : Bool) (b : Int) : doE wd sg ⟨#[62, 62]⟩ b = doE wd sg ⟨#[60, 60]⟩ b := by simp [doE, opN_7, opN_8, isOp, byZero]
theorem doE_shl {wd : Int} {sg : Bool} {b : Int} (h : doE wd sg ⟨#[60, 60]⟩ b = 0) : okT wd sg = true ∧ ¬ wd = 1 := by
  unfold doE at h
  rw [opN_7] at h
  split at h
  · rename_i hT
    exact ⟨hT, fun e => by subst e; simp [isOp] at h⟩
  · cases h
set_option maxHeartbeats 8000000 in
theorem WordShifts_gives (wd : Int) (sg : Bool) (a b : Int) (w : World) (hL : Laid w) (ha : U64 a) (hb0 : 0 ≤ b) (hb1 : b ≤ 255) :
    Gives Tryd.prog 8 #[.agg #[.int .i64 wd, .bool sg], .int .u64 a, .int .u8 b] w (.bool true) := by
  obtain ⟨n, hn, hn2⟩ : ∃ n : Nat, b % 70 = n ∧ n < 70 := ⟨(b % 70).toNat, by omega, by omega⟩
  have e2 := fun c => doE_shift wd sg c
  by_cases E : doE wd sg ⟨#[60, 60]⟩ n = 0
  · obtain ⟨hT, hw⟩ := doE_shl E
    have e3 := shl_law n hT hw ha hn2
    have uX := fun k => shX_u64 (wd := wd) (sg := sg) ha k
    have uY := fun k => shY_u64 (wd := wd) (sg := sg) ha k
    have e4 : sg = false → (doV wd sg ⟨#[62, 62]⟩ a n == shY wd sg a n) = true := fun h => by subst h; exact beq_iff_eq.2 (shr_law n hT hw ha hn2)
    have HU := Lib.hid (And.intro uX uY)
    have HE := Lib.hid (And.intro e3 e4)
    clear hT hw uX uY e3 e4
    unfold Gives
    go_enter Tryd.func8, Tryd.ntmps8
    go_wp2_with (first | (go_at_call 13; refine (awake_gives _ (by repeat (first | exact hL | apply Laid.alloc | apply Laid.ov))).mono ?_; rintro e w' ⟨rfl, x, rfl⟩) | (go_at_call 18; refine (Do_gives _ _ _ _ _ _ (by repeat (first | exact hL | apply Laid.alloc | apply Laid.ov)) (by first | assumption | exact nrm_u64 (by assumption) | exact doV_u64 _ _ _ (by assumption) (by assumption) | (unfold U64; omega))).mono ?_; rintro e w' ⟨rfl, x, rfl⟩) | (refine wp_region_ov (by kernel_rfl) (by kernel_rfl) ?_; (repeat (go_big_quiet_step (((go_at_call 14; exact (Norm_gives _ _ _ _ (by repeat (first | exact hL | apply Laid.alloc | apply Laid.ov))).quiet))))); refine wpQuiet_nil ?_; rintro _ ⟨nq, rfl⟩))
    go_loopw [12, 13, 14] (fun x y i wr => ∃ k : Nat, k ≤ n ∧ i = .int .u64 k ∧ x = .int .u64 (shX wd sg a k) ∧ y = .int .u64 (shY wd sg a k) ∧ IsOv (w.alloc (.cells #[.int .i64 wd, .bool sg] 23)) wr) (fun _ _ i _ => n - (intOf i).toNat)
    case atStart => exact ⟨0, Nat.zero_le _, rfl, rfl, rfl, by repeat (first | exact IsOv.refl _ | apply IsOv.alloc | apply IsOv.ov)⟩
    case round =>
      obtain ⟨k, hk, rfl, rfl, rfl, e, rfl⟩ := hrel
      have hX := HU.out.1 k
      have hY := HU.out.2 k
      by_cases hlt : k < n
      · cases sg
        all_goals
          go_wp2_with (first | (go_at_call 18; refine (Do_gives _ _ _ _ _ _ (by repeat (first | exact hL | apply Laid.alloc | apply Laid.ov)) (by first | assumption | exact nrm_u64 (by assumption) | exact doV_u64 _ _ _ (by assumption) (by assumption) | (unfold U64; omega))).mono ?_; rintro e w' ⟨rfl, x, rfl⟩))
          go_roundw
          case rel => exact ⟨k + 1, by omega, by go_num, rfl, rfl, by repeat (first | exact IsOv.refl _ | apply IsOv.alloc | apply IsOv.ov)⟩
          case measure => simp [intOf]; omega
      · obtain rfl : k = n := by omega
        obtain ⟨e3, e4⟩ := HE.out
        cases sg
        all_goals
          have e5 := e4
          simp only [forall_const, reduceCtorEq, false_implies, true_implies] at e5
          clear e4
          go_wp2_with (first | (go_at_call 13; refine (awake_gives _ (by repeat (first | exact hL | apply Laid.alloc | apply Laid.ov))).mono ?_; rintro e w' ⟨rfl, x, rfl⟩))
          go_ret
          exact ⟨rfl, by repeat (first | exact IsOv.refl _ | apply IsOv.alloc | apply IsOv.ov)⟩
  unfold Gives
  go_enter Tryd.func8, Tryd.ntmps8
  go_wp2_with (first | (go_at_call 13; refine (awake_gives _ (by repeat (first | exact hL | apply Laid.alloc | apply Laid.ov))).mono ?_; rintro e w' ⟨rfl, x, rfl⟩) | (go_at_call 18; refine (Do_gives _ _ _ _ _ _ (by repeat (first | exact hL | apply Laid.alloc | apply Laid.ov)) (by first | assumption | exact nrm_u64 (by assumption) | exact doV_u64 _ _ _ (by assumption) (by assumption) | (unfold U64; omega))).mono ?_; rintro e w' ⟨rfl, x, rfl⟩) | (go_at_call 14; refine (Norm_gives _ _ _ _ (by repeat (first | exact hL | apply Laid.alloc | apply Laid.ov))).mono ?_; rintro e w' ⟨rfl, x, rfl⟩))
  go_ret
  exact ⟨rfl, by repeat (first | exact IsOv.refl _ | apply IsOv.alloc | apply IsOv.ov)⟩
end Go.Proofs.YtggelmnahggdgaaDoor
