/- WordOrder: what the law answers, in every world in which the table of types lies as the program lays it. Conditions: the numbers are of 64 bits. -/
import Derived.Test.YtggelmnahggdgaaDoorWf
import Derived.Test.YtggelmnahggdgaaDoorWg
set_option linter.unusedVariables false
set_option linter.unusedSimpArgs false
namespace Go.Proofs.YtggelmnahggdgaaDoor
open Go.RowKit
theorem tstE_gt (wd : Int) (sg : Bool) : tstE wd sg ⟨#[62]⟩ = tstE wd sg ⟨#[60]⟩ := by
  have h1 : (⟨#[62]⟩ : ByteArray).toList = [62] := by decide +kernel
  have h2 : (⟨#[60]⟩ : ByteArray).toList = [60] := by decide +kernel
  simp [tstE, h1, h2]
theorem tstE_lt {wd : Int} {sg : Bool} (h : tstE wd sg ⟨#[60]⟩ = 0) : okT wd sg = true ∧ 1 < wd ∧ tstE wd sg ⟨#[61, 61]⟩ = 0 := by
  have h1 : (⟨#[61, 61]⟩ : ByteArray).toList = [61, 61] := by decide +kernel
  have h2 : (⟨#[60]⟩ : ByteArray).toList = [60] := by decide +kernel
  unfold tstE at h
  rw [h2] at h
  cases hT : okT wd sg
  · simp [hT] at h
  · by_cases hw : 1 < wd
    · exact ⟨rfl, hw, by simp [tstE, h1, hT]⟩
    · simp [hT, hw] at h
/-- A value's place in the order. -/
def plc (wd : Int) (sg : Bool) (a : Int) : Int := if sg then sint wd sg (nrm wd sg a) else nrm wd sg a
theorem lessB_plc {wd : Int} {sg : Bool} {a b : Int} (hT : okT wd sg = true) (ha : U64 a) (hb : U64 b) : lessB wd sg (nrm wd sg a) (nrm wd sg b) = decide (plc wd sg a < plc wd sg b) := by
  unfold lessB plc
  rw [nrm_nrm hT ha, nrm_nrm hT hb]
  cases sg <;> rfl
theorem plc_inj {wd : Int} {sg : Bool} {a b : Int} (hT : okT wd sg = true) (ha : U64 a) (hb : U64 b) : plc wd sg a = plc wd sg b ↔ nrm wd sg a = nrm wd sg b := by
  have h1 := nrm_range hT ha
  have h2 := nrm_range hT hb
  unfold plc
  cases sg
  · exact Iff.rfl
  · simp only [if_true]
    rw [sint_s hT (nrm_u64 ha), sint_s hT (nrm_u64 hb), nrm_nrm hT ha, nrm_nrm hT hb]
    split <;> split <;> omega
theorem tst_lt {wd : Int} {sg : Bool} {a b : Int} (hT : okT wd sg = true) (hw : 1 < wd) (ha : U64 a) (hb : U64 b) : tstV wd sg ⟨#[60]⟩ a b = decide (plc wd sg a < plc wd sg b) := by
  have h2 : (⟨#[60]⟩ : ByteArray).toList = [60] := by decide +kernel
  rw [← lessB_plc hT ha hb]; simp [tstV, hT, hw, h2]
theorem tst_gt {wd : Int} {sg : Bool} {a b : Int} (hT : okT wd sg = true) (hw : 1 < wd) (ha : U64 a) (hb : U64 b) : tstV wd sg ⟨#[62]⟩ a b = decide (plc wd sg b < plc wd sg a) := by
  have h2 : (⟨#[62]⟩ : ByteArray).toList = [62] := by decide +kernel
  rw [← lessB_plc hT hb ha]; simp [tstV, hT, hw, h2]
theorem tst_eq {wd : Int} {sg : Bool} {a b : Int} (hT : okT wd sg = true) (ha : U64 a) (hb : U64 b) : tstV wd sg ⟨#[61, 61]⟩ a b = decide (plc wd sg a = plc wd sg b) := by
  have h2 : (⟨#[61, 61]⟩ : ByteArray).toList = [61, 61] := by decide +kernel
  rw [Bool.eq_iff_iff]
  simp [tstV, hT, h2, plc_inj hT ha hb]
set_option maxHeartbeats 8000000 in
theorem WordOrder_gives (wd : Int) (sg : Bool) (a b c : Int) (w : World) (hL : Laid w) (ha : U64 a) (hb : U64 b) (hc : U64 c) :
    Gives Tryd.prog 12 #[.agg #[.int .i64 wd, .bool sg], .agg #[.int .u64 a, .int .u64 b, .int .u64 c]] w (.bool true) := by
  have eg := tstE_gt wd sg
  by_cases E : tstE wd sg ⟨#[60]⟩ = 0
  · obtain ⟨hT, hw, e2⟩ := tstE_lt E
    have t1 := tst_lt hT hw ha hb
    have t2 := tst_eq hT ha hb
    have t3 := tst_gt hT hw ha hb
    have t4 := tst_lt hT hw hb hc
    have t5 := tst_lt hT hw ha hc
    have T : (tstV wd sg ⟨#[60]⟩ a b = true ∧ tstV wd sg ⟨#[61, 61]⟩ a b = false ∧ tstV wd sg ⟨#[62]⟩ a b = false ∧ (tstV wd sg ⟨#[60]⟩ b c = false ∨ tstV wd sg ⟨#[60]⟩ b c = true ∧ tstV wd sg ⟨#[60]⟩ a c = true)) ∨
        (tstV wd sg ⟨#[60]⟩ a b = false ∧ tstV wd sg ⟨#[61, 61]⟩ a b = true ∧ tstV wd sg ⟨#[62]⟩ a b = false) ∨ (tstV wd sg ⟨#[60]⟩ a b = false ∧ tstV wd sg ⟨#[61, 61]⟩ a b = false ∧ tstV wd sg ⟨#[62]⟩ a b = true) := by
      rw [t1, t2, t3, t4, t5]
      simp only [decide_eq_true_eq, decide_eq_false_iff_not]
      omega
    clear t1 t2 t3 t4 t5 hw hT
    rcases T with ⟨v1, v2, v3, v4 | ⟨v4, v5⟩⟩ | ⟨v1, v2, v3⟩ | ⟨v1, v2, v3⟩
    all_goals
      unfold Gives
      go_enter Tryd.func12, Tryd.ntmps12
      go_wp2_with (first | (go_at_call 13; refine (awake_gives _ (by repeat (first | exact hL | apply Laid.alloc | apply Laid.ov))).mono ?_; rintro e w' ⟨rfl, x, rfl⟩) | (go_at_call 29; refine (Test_gives _ _ _ _ _ _ (by repeat (first | exact hL | apply Laid.alloc | apply Laid.ov))).mono ?_; rintro e w' ⟨rfl, x, rfl⟩))
      go_ret
      exact ⟨rfl, by repeat (first | exact IsOv.refl _ | apply IsOv.alloc | apply IsOv.ov)⟩
  unfold Gives
  go_enter Tryd.func12, Tryd.ntmps12
  go_wp2_with (first | (go_at_call 13; refine (awake_gives _ (by repeat (first | exact hL | apply Laid.alloc | apply Laid.ov))).mono ?_; rintro e w' ⟨rfl, x, rfl⟩) | (go_at_call 29; refine (Test_gives _ _ _ _ _ _ (by repeat (first | exact hL | apply Laid.alloc | apply Laid.ov))).mono ?_; rintro e w' ⟨rfl, x, rfl⟩))
  go_ret
  exact ⟨by first | rfl | (simp [E]; done) | simp_all, by repeat (first | exact IsOv.refl _ | apply IsOv.alloc | apply IsOv.ov)⟩
end Go.Proofs.YtggelmnahggdgaaDoor
