/- WordTypes: what the law answers, in every world in which the table of types lies as the program lays it. Condition: the text takes at most 2^47 bytes. -/
import Derived.Test.YtggelmnahggdgaaDoorWf
import Derived.Test.YtggelmnahggdgaaDoorWo
import Derived.Test.YtggelmnahggdgaaDoorQc
set_option linter.unusedVariables false
set_option linter.unusedSimpArgs false
namespace Go.Proofs.YtggelmnahggdgaaDoor
open Go.RowKit
theorem refRightT_gives (wd : Int) (sg : Bool) (w : World) : Gives Tryd.prog 24 #[.agg #[.int .i64 wd, .bool sg]] w (.bool (okT wd sg)) :=
  (PWordTypes.skuaref01_Right.calls wd sg _ w (RWordTypes.right wd sg)).mono fun _ _ ⟨he, hb⟩ => ⟨he, IsOv.of_below hb⟩
theorem refName_gives (wd : Int) (sg : Bool) (w : World) : Gives Tryd.prog 25 #[.agg #[.int .i64 wd, .bool sg]] w (.string (tyName wd sg)) :=
  (PWordTypes.skuaref01_Name.calls 9 wd sg _ w (RWordTypes.name_f 9 wd sg (by decide))).mono fun _ _ ⟨he, hb⟩ => ⟨he, IsOv.of_below hb⟩
theorem neq_type (a c : Int) (b d : Bool) (w : World) : (binOp .neq 23 (.agg #[.int .i64 a, .bool b]) (.agg #[.int .i64 c, .bool d])).run Tryd.prog w = .ok (.bool (!tyEq a b c d)) w := by
  by_cases h1 : a = c <;> by_cases h2 : b = d <;> simp [go_sem, tyEq, h1, h2]
attribute [local go_sem high] neq_type
theorem of_name {wd : Int} {sg : Bool} (hT : okT wd sg = true) : ofOk (tyName wd sg) = true ∧ ofWd (tyName wd sg) = wd ∧ ofSg (tyName wd sg) = sg := by
  rcases (okT_iff wd sg).1 hT with ⟨rfl, rfl⟩ | rfl | rfl | rfl | rfl
  · decide +kernel
  all_goals (cases sg <;> decide +kernel)
theorem not_name {wd : Int} {sg : Bool} (hT : okT wd sg = false) : ofOk (tyName wd sg) = false ∧ ofWd (tyName wd sg) = 0 ∧ ofSg (tyName wd sg) = false ∧ (tyName wd sg).toList = [] := by
  have h : (tyName wd sg).toList = [] := by simpa [okT] using hT
  refine ⟨?_, ?_, ?_, h⟩ <;> simp [ofOk, ofWd, ofSg, h]
theorem of_ok {s : ByteArray} (h : ofOk s = true) : okT (ofWd s) (ofSg s) = true ∧ ((tyName (ofWd s) (ofSg s)).toList == s.toList) = true := by
  unfold ofOk at h
  unfold ofWd ofSg
  repeat' (split at h)
  all_goals first | (rename_i h1; simp_all; done) | (simp_all; rename_i h1; rw [← h1]; decide +kernel) | cases h
theorem not_ok {s : ByteArray} (h : ofOk s = false) : ofWd s = 0 ∧ ofSg s = false := by
  unfold ofOk at h
  unfold ofWd ofSg
  repeat' (split at h)
  all_goals first | (cases h; done) | simp_all
set_option maxHeartbeats 8000000 in
theorem WordTypes_gives (wd : Int) (sg : Bool) (s : ByteArray) (w : World) (hL : Laid w) :
    Gives Tryd.prog 9 #[.agg #[.int .i64 wd, .bool sg], .string s] w (.bool true) := by
  have z0 : tyEq 0 false 0 false = true := by decide
  by_cases hlen : (100 : Int) < s.size
  · unfold Gives
    go_enter Tryd.func9, Tryd.ntmps9
    go_wp2_with (first | (go_at_call 13; refine (awake_gives _ (by repeat (first | exact hL | apply Laid.alloc | apply Laid.ov))).mono ?_; rintro e w' ⟨rfl, x, rfl⟩))
    go_ret
    exact ⟨rfl, by repeat (first | exact IsOv.refl _ | apply IsOv.alloc | apply IsOv.ov)⟩
  have F : ofOk s = true ∨ (ofOk s = false ∧ ofWd s = 0 ∧ ofSg s = false ∧ (s.toList.isEmpty = true ∨ (s.toList.isEmpty = false ∧ ((tyName wd sg).toList == s.toList) = false))) := by
    cases hO : ofOk s
    · obtain ⟨h1, h2⟩ := not_ok hO
      refine .inr ⟨rfl, h1, h2, ?_⟩
      cases hE : s.toList.isEmpty
      · refine .inr ⟨rfl, ?_⟩
        rw [beq_eq_false_iff_ne]
        intro e
        cases hT : okT wd sg
        · have := (not_name hT).2.2.2
          rw [e] at this
          rw [this] at hE
          cases hE
        · have h3 := (of_name hT).1
          have : ofOk s = ofOk (tyName wd sg) := by unfold ofOk; rw [e]
          rw [hO, h3] at this
          cases this
      · exact .inl rfl
    · exact .inl rfl
  have N : (okT wd sg = true ∧ ofOk (tyName wd sg) = true ∧ ofWd (tyName wd sg) = wd ∧ ofSg (tyName wd sg) = sg ∧ (tyName wd sg).toList.isEmpty = false ∧ tyEq wd sg wd sg = true) ∨
      (okT wd sg = false ∧ ofOk (tyName wd sg) = false ∧ ofWd (tyName wd sg) = 0 ∧ ofSg (tyName wd sg) = false ∧ (tyName wd sg).toList.isEmpty = true ∧ tyEq wd sg wd sg = true) := by
    have z : tyEq wd sg wd sg = true := by simp [tyEq]
    cases hT : okT wd sg
    · obtain ⟨h1, h2, h3, h4⟩ := not_name hT
      exact .inr ⟨rfl, h1, h2, h3, by rw [h4]; rfl, z⟩
    · obtain ⟨h1, h2, h3⟩ := of_name hT
      exact .inl ⟨rfl, h1, h2, h3, by simpa [okT] using hT, z⟩
  rcases F with F | ⟨f1, f2, f3, f4 | ⟨f4, f5⟩⟩
  · obtain ⟨o1, o2⟩ := of_ok F
    rcases N with ⟨n1, n2, n3, n4, n5, n6⟩ | ⟨n1, n2, n3, n4, n5, n6⟩
    all_goals
      unfold Gives
      go_enter Tryd.func9, Tryd.ntmps9
      go_wp2_with (first | (go_at_call 13; refine (awake_gives _ (by repeat (first | exact hL | apply Laid.alloc | apply Laid.ov))).mono ?_; rintro e w' ⟨rfl, x, rfl⟩) | (go_at_call 23; refine (Of_gives _ _ (by repeat (first | exact hL | apply Laid.alloc | apply Laid.ov))).mono ?_; rintro e w' ⟨rfl, x, rfl⟩) | (go_at_call 24; refine (refRightT_gives _ _ _).mono ?_; rintro e w' ⟨rfl, x, rfl⟩) | (go_at_call 25; refine (refName_gives _ _ _).mono ?_; rintro e w' ⟨rfl, x, rfl⟩) | (refine wp_region_ov (by kernel_rfl) (by kernel_rfl) ?_; (repeat (go_big_quiet_step ((first | (go_at_call 13; exact (awake_gives _ (by repeat (first | exact hL | apply Laid.alloc | apply Laid.ov))).quiet) | (go_at_call 22; exact (Right_gives _ _ _ (by repeat (first | exact hL | apply Laid.alloc | apply Laid.ov))).quiet) | (go_at_call 26; exact (Name_gives _ _ _ (by repeat (first | exact hL | apply Laid.alloc | apply Laid.ov))).quiet) | (go_at_call 24; exact (refRightT_gives _ _ _).quiet) | (go_at_call 25; exact (refName_gives _ _ _).quiet))))); refine wpQuiet_nil ?_; rintro _ ⟨nq, rfl⟩))
      go_ret
      exact ⟨rfl, by repeat (first | exact IsOv.refl _ | apply IsOv.alloc | apply IsOv.ov)⟩
  all_goals
    rcases N with ⟨n1, n2, n3, n4, n5, n6⟩ | ⟨n1, n2, n3, n4, n5, n6⟩
    all_goals
      unfold Gives
      go_enter Tryd.func9, Tryd.ntmps9
      go_wp2_with (first | (go_at_call 13; refine (awake_gives _ (by repeat (first | exact hL | apply Laid.alloc | apply Laid.ov))).mono ?_; rintro e w' ⟨rfl, x, rfl⟩) | (go_at_call 23; refine (Of_gives _ _ (by repeat (first | exact hL | apply Laid.alloc | apply Laid.ov))).mono ?_; rintro e w' ⟨rfl, x, rfl⟩) | (go_at_call 24; refine (refRightT_gives _ _ _).mono ?_; rintro e w' ⟨rfl, x, rfl⟩) | (go_at_call 25; refine (refName_gives _ _ _).mono ?_; rintro e w' ⟨rfl, x, rfl⟩) | (refine wp_region_ov (by kernel_rfl) (by kernel_rfl) ?_; (repeat (go_big_quiet_step ((first | (go_at_call 13; exact (awake_gives _ (by repeat (first | exact hL | apply Laid.alloc | apply Laid.ov))).quiet) | (go_at_call 22; exact (Right_gives _ _ _ (by repeat (first | exact hL | apply Laid.alloc | apply Laid.ov))).quiet) | (go_at_call 26; exact (Name_gives _ _ _ (by repeat (first | exact hL | apply Laid.alloc | apply Laid.ov))).quiet) | (go_at_call 24; exact (refRightT_gives _ _ _).quiet) | (go_at_call 25; exact (refName_gives _ _ _).quiet))))); refine wpQuiet_nil ?_; rintro _ ⟨nq, rfl⟩))
      go_ret
      exact ⟨rfl, by repeat (first | exact IsOv.refl _ | apply IsOv.alloc | apply IsOv.ov)⟩
end Go.Proofs.YtggelmnahggdgaaDoor
