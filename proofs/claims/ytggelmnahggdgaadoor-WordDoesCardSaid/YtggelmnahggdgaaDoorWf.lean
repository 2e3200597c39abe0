/- The chapter's examples hold: what the law's own words i8 and awake answer, in every world in which the table of types lies as the program lays it. No other condition. -/
import Derived.Test.YtggelmnahggdgaaDoorWd
import Derived.Test.YtggelmnahggdgaaDoorWe
set_option linter.unusedVariables false
set_option linter.unusedSimpArgs false
namespace Go.Proofs.YtggelmnahggdgaaDoor
open Go.RowKit
theorem Laid.setCell {w w' : World} (h : Laid w) (hb : IsOv w w') : Laid w' := h.of_below hb.below
set_option maxHeartbeats 4000000 in
theorem i8_gives (w : World) : Gives Tryd.prog 31 #[] w (.agg #[.int .i64 8, .bool true]) := by
  unfold Gives
  go_enter Tryd.func31, Tryd.ntmps31
  go_wp2
  exact bodyPost_ret (v := .agg #[.int .i64 8, .bool true]) (by simp [results, Tryd.results31, go_sem]) rfl ⟨rfl, by repeat (first | exact IsOv.refl _ | apply IsOv.alloc | apply IsOv.ov)⟩
theorem ex0 : doV 8 true ⟨#[47]⟩ 200 3 = 238 := by decide +kernel
theorem ex1 : doE 8 true ⟨#[47]⟩ 3 = 0 := by decide +kernel
theorem ex2 : doV 8 true ⟨#[37]⟩ 200 3 = 254 := by decide +kernel
theorem ex3 : doE 8 true ⟨#[37]⟩ 3 = 0 := by decide +kernel
theorem ex4 : doV 8 true ⟨#[62, 62]⟩ 200 2 = 242 := by decide +kernel
theorem ex5 : doE 8 true ⟨#[62, 62]⟩ 2 = 0 := by decide +kernel
theorem ex6 : doV 8 false ⟨#[43]⟩ 200 100 = 44 := by decide +kernel
theorem ex7 : doE 8 false ⟨#[43]⟩ 100 = 0 := by decide +kernel
theorem ex8 : doE 8 true ⟨#[47]⟩ 0 = 11 := by decide +kernel
theorem ex9 : sint 8 true 200 = -56 := by decide +kernel
theorem ex10 : cst 8 true 16 true 200 = 65480 := by decide +kernel
theorem ex11 : cst 8 true 1 false 200 = 1 := by decide +kernel
theorem ex12 : tyName 8 true = ⟨#[105, 56]⟩ := by decide +kernel
set_option maxHeartbeats 8000000 in
theorem awake_gives (w : World) (hL : Laid w) : Gives Tryd.prog 13 #[] w (.bool true) := by
  have e0 := ex0
  have e1 := ex1
  have e2 := ex2
  have e3 := ex3
  have e4 := ex4
  have e5 := ex5
  have e6 := ex6
  have e7 := ex7
  have e8 := ex8
  have e9 := ex9
  have e10 := ex10
  have e11 := ex11
  have e12 := ex12
  unfold Gives
  go_enter Tryd.func13, Tryd.ntmps13
  go_wp2_with (first | (go_at_call 31; refine (i8_gives _).mono ?_; rintro e w' ⟨rfl, x, rfl⟩) | (go_at_call 18; refine (Do_gives _ _ _ _ _ _ (by repeat (first | exact hL | apply Laid.alloc | apply Laid.ov | apply Laid.setCell)) (by unfold U64; omega)).mono ?_; rintro e w' ⟨rfl, x, rfl⟩) | (go_at_call 16; refine (Int_gives _ _ _ _ (by repeat (first | exact hL | apply Laid.alloc | apply Laid.ov | apply Laid.setCell))).mono ?_; rintro e w' ⟨rfl, x, rfl⟩) | (go_at_call 20; refine (Cast_gives _ _ _ _ _ _ (by repeat (first | exact hL | apply Laid.alloc | apply Laid.ov | apply Laid.setCell))).mono ?_; rintro e w' ⟨rfl, x, rfl⟩) | (go_at_call 26; refine (Name_gives _ _ _ (by repeat (first | exact hL | apply Laid.alloc | apply Laid.ov | apply Laid.setCell))).mono ?_; rintro e w' ⟨rfl, x, rfl⟩))
  go_ret
  exact ⟨rfl, by repeat (first | exact IsOv.refl _ | apply IsOv.alloc | apply IsOv.ov)⟩
end Go.Proofs.YtggelmnahggdgaaDoor
