/- The law LexBetween comes to true, where kind has the rest 0 or 1 by 4. Condition: the tables lie as the program lays them. -/
import Derived.Test.YtdimhoilfopndaaDoorYw
set_option linter.unusedVariables false
set_option linter.unusedSimpArgs false
namespace Go.Proofs.YtdimhoilfopndaaDoor
open Go.RowKit
set_option maxHeartbeats 1000000 in
theorem LexBetween_0 (s more : ByteArray) (kd : Int) (w : World) (hL : LaidX w) (hk : 0 ≤ kd ∧ kd ≤ 255) (h : s.size ≤ 2000) (h3 : more.size ≤ 500) (hm : kd % 4 = 0) : Gives Tryd.prog 4 #[.string s, .string more, .int .u8 kd] w (.bool true) := by
  unfold Gives
  have h2 : (s.size : Int) ≤ 2000 := by omega
  have h4 : (more.size : Int) ≤ 500 := by omega
  go_enter Tryd.func4, Tryd.ntmps4
  go_wp2_with fail
  refine (noLine_gives more _ (by omega)).mono ?_
  rintro e w1 ⟨rfl, hov1⟩
  have hnl : ((⟨(noL more.data.toList).toArray⟩ : ByteArray).size : Int) ≤ 500 := by have := noL_size more; omega
  generalize hN : (⟨(noL more.data.toList).toArray⟩ : ByteArray) = nl at *
  have HN := Lib.hid hN
  clear hN
  go_wp2_with fail
  refine Calls.mono (Lex_calls _ _ (hL.of_isOv (hov1.trans (by repeat (first | with_reducible exact IsOv.refl _ | with_reducible apply IsOv.dr | with_reducible apply IsOv.drewN | with_reducible apply IsOv.drew | with_reducible apply IsOv.alloc | with_reducible apply IsOv.ov))))) ?_
  rintro e w2 ⟨va, rfl, hov2, hown2⟩
  have hovB : IsOv w w2 := hov1.trans (IsOv.trans (by repeat (first | with_reducible exact IsOv.refl _ | with_reducible apply IsOv.dr | with_reducible apply IsOv.drewN | with_reducible apply IsOv.drew | with_reducible apply IsOv.alloc | with_reducible apply IsOv.ov)) hov2)
  have ta := Toks.of_owns hown2
  clear hov1 hov2 hown2
  go_wp2_with fail
  refine Calls.mono (Lex_calls _ _ (hL.of_isOv (hovB.trans (by repeat (first | with_reducible exact IsOv.refl _ | with_reducible apply IsOv.dr | with_reducible apply IsOv.drewN | with_reducible apply IsOv.drew | with_reducible apply IsOv.alloc | with_reducible apply IsOv.ov))))) ?_
  rintro e w3 ⟨vb, rfl, hov3, hown3⟩
  have hovC : IsOv w w3 := hovB.trans hov3
  have hL3 : LaidX w3 := hL.of_isOv hovC
  have ta3 := ta.of_isOv hov3
  have tb3 := Toks.of_owns hown3
  clear hov3 hown3 hovB ta hnl
  have hP := Lib.hid (between_pure s more ⟨#[32]⟩ nl HN.out.symm h h3 (by exact .inl rfl))
  clear HN
  generalize lexR (s ++ ⟨#[32]⟩ ++ more) = r1 at *
  generalize lexR (s ++ ⟨#[10]⟩ ++ ⟨#[32]⟩ ++ more) = r2 at *
  cases hc : ssB s.data.toList
  · obtain ⟨hp1, hp2, hp3, hp4⟩ := hP.out hc
    have HQ := Lib.hid hp2
    clear hp2 hP
    by_cases he : r1.err = 0
    · have he1 : (r1.err == 0) = true := by simpa using he
      have he2 : (r2.err == 0) = true := by simpa using hp1.1 he
      clear he hp1
      go_wp2_with (first | (go_at_call 7; refine (awake_gives _ (by repeat (first | exact hL3 | apply LaidX.alloc | apply LaidX.ov | apply LaidX.dr | apply LaidX.drew))).mono ?_; rintro e w' ⟨rfl, x, rfl⟩) | (go_at_call 14; refine (comment_gives s _ (by omega)).mono ?_; rw [hc]; rintro e w' ⟨rfl, x, rfl⟩) | (go_at_call 15; refine (Same_gives _ va vb _ _ (ta3.of_isOv (by repeat (first | with_reducible exact IsOv.refl _ | with_reducible apply IsOv.dr | with_reducible apply IsOv.drewN | with_reducible apply IsOv.drew | with_reducible apply IsOv.alloc | with_reducible apply IsOv.ov))) (tb3.of_isOv (by repeat (first | with_reducible exact IsOv.refl _ | with_reducible apply IsOv.dr | with_reducible apply IsOv.drewN | with_reducible apply IsOv.drew | with_reducible apply IsOv.alloc | with_reducible apply IsOv.ov))) hp3 hp4).mono ?_; rw [HQ.out]; rintro e w' ⟨rfl, x, rfl⟩))
      exact bodyPost_ret (v := .bool true) (by simp [results, Tryd.results4, go_sem, ↓IntWalk.iteOmega]) rfl ⟨rfl, hovC.trans (by repeat (first | with_reducible exact IsOv.refl _ | with_reducible apply IsOv.dr | with_reducible apply IsOv.drewN | with_reducible apply IsOv.drew | with_reducible apply IsOv.alloc | with_reducible apply IsOv.ov))⟩
    · have he1 : (r1.err == 0) = false := by simpa using he
      have he2 : (r2.err == 0) = false := by simpa using fun e => he (hp1.2 e)
      clear he hp1
      go_wp2_with (first | (go_at_call 7; refine (awake_gives _ (by repeat (first | exact hL3 | apply LaidX.alloc | apply LaidX.ov | apply LaidX.dr | apply LaidX.drew))).mono ?_; rintro e w' ⟨rfl, x, rfl⟩) | (go_at_call 14; refine (comment_gives s _ (by omega)).mono ?_; rw [hc]; rintro e w' ⟨rfl, x, rfl⟩) | (go_at_call 15; refine (Same_gives _ va vb _ _ (ta3.of_isOv (by repeat (first | with_reducible exact IsOv.refl _ | with_reducible apply IsOv.dr | with_reducible apply IsOv.drewN | with_reducible apply IsOv.drew | with_reducible apply IsOv.alloc | with_reducible apply IsOv.ov))) (tb3.of_isOv (by repeat (first | with_reducible exact IsOv.refl _ | with_reducible apply IsOv.dr | with_reducible apply IsOv.drewN | with_reducible apply IsOv.drew | with_reducible apply IsOv.alloc | with_reducible apply IsOv.ov))) hp3 hp4).mono ?_; rw [HQ.out]; rintro e w' ⟨rfl, x, rfl⟩))
      exact bodyPost_ret (v := .bool true) (by simp [results, Tryd.results4, go_sem, ↓IntWalk.iteOmega]) rfl ⟨rfl, hovC.trans (by repeat (first | with_reducible exact IsOv.refl _ | with_reducible apply IsOv.dr | with_reducible apply IsOv.drewN | with_reducible apply IsOv.drew | with_reducible apply IsOv.alloc | with_reducible apply IsOv.ov))⟩
  · clear hP
    go_wp2_with (first | (go_at_call 7; refine (awake_gives _ (by repeat (first | exact hL3 | apply LaidX.alloc | apply LaidX.ov | apply LaidX.dr | apply LaidX.drew))).mono ?_; rintro e w' ⟨rfl, x, rfl⟩) | (go_at_call 14; refine (comment_gives s _ (by omega)).mono ?_; rw [hc]; rintro e w' ⟨rfl, x, rfl⟩))
    exact bodyPost_ret (v := .bool true) (by simp [results, Tryd.results4, go_sem, ↓IntWalk.iteOmega]) rfl ⟨rfl, hovC.trans (by repeat (first | with_reducible exact IsOv.refl _ | with_reducible apply IsOv.dr | with_reducible apply IsOv.drewN | with_reducible apply IsOv.drew | with_reducible apply IsOv.alloc | with_reducible apply IsOv.ov))⟩
set_option maxHeartbeats 1000000 in
theorem LexBetween_1 (s more : ByteArray) (kd : Int) (w : World) (hL : LaidX w) (hk : 0 ≤ kd ∧ kd ≤ 255) (h : s.size ≤ 2000) (h3 : more.size ≤ 500) (hm : kd % 4 = 1) : Gives Tryd.prog 4 #[.string s, .string more, .int .u8 kd] w (.bool true) := by
  unfold Gives
  have h2 : (s.size : Int) ≤ 2000 := by omega
  have h4 : (more.size : Int) ≤ 500 := by omega
  go_enter Tryd.func4, Tryd.ntmps4
  go_wp2_with fail
  refine (noLine_gives more _ (by omega)).mono ?_
  rintro e w1 ⟨rfl, hov1⟩
  have hnl : ((⟨(noL more.data.toList).toArray⟩ : ByteArray).size : Int) ≤ 500 := by have := noL_size more; omega
  generalize hN : (⟨(noL more.data.toList).toArray⟩ : ByteArray) = nl at *
  have HN := Lib.hid hN
  clear hN
  go_wp2_with fail
  refine Calls.mono (Lex_calls _ _ (hL.of_isOv (hov1.trans (by repeat (first | with_reducible exact IsOv.refl _ | with_reducible apply IsOv.dr | with_reducible apply IsOv.drewN | with_reducible apply IsOv.drew | with_reducible apply IsOv.alloc | with_reducible apply IsOv.ov))))) ?_
  rintro e w2 ⟨va, rfl, hov2, hown2⟩
  have hovB : IsOv w w2 := hov1.trans (IsOv.trans (by repeat (first | with_reducible exact IsOv.refl _ | with_reducible apply IsOv.dr | with_reducible apply IsOv.drewN | with_reducible apply IsOv.drew | with_reducible apply IsOv.alloc | with_reducible apply IsOv.ov)) hov2)
  have ta := Toks.of_owns hown2
  clear hov1 hov2 hown2
  go_wp2_with fail
  refine Calls.mono (Lex_calls _ _ (hL.of_isOv (hovB.trans (by repeat (first | with_reducible exact IsOv.refl _ | with_reducible apply IsOv.dr | with_reducible apply IsOv.drewN | with_reducible apply IsOv.drew | with_reducible apply IsOv.alloc | with_reducible apply IsOv.ov))))) ?_
  rintro e w3 ⟨vb, rfl, hov3, hown3⟩
  have hovC : IsOv w w3 := hovB.trans hov3
  have hL3 : LaidX w3 := hL.of_isOv hovC
  have ta3 := ta.of_isOv hov3
  have tb3 := Toks.of_owns hown3
  clear hov3 hown3 hovB ta hnl
  have hP := Lib.hid (between_pure s more ⟨#[10]⟩ nl HN.out.symm h h3 (by exact .inr (.inl rfl)))
  clear HN
  generalize lexR (s ++ ⟨#[32]⟩ ++ more) = r1 at *
  generalize lexR (s ++ ⟨#[10]⟩ ++ ⟨#[10]⟩ ++ more) = r2 at *
  cases hc : ssB s.data.toList
  · obtain ⟨hp1, hp2, hp3, hp4⟩ := hP.out hc
    have HQ := Lib.hid hp2
    clear hp2 hP
    by_cases he : r1.err = 0
    · have he1 : (r1.err == 0) = true := by simpa using he
      have he2 : (r2.err == 0) = true := by simpa using hp1.1 he
      clear he hp1
      go_wp2_with (first | (go_at_call 7; refine (awake_gives _ (by repeat (first | exact hL3 | apply LaidX.alloc | apply LaidX.ov | apply LaidX.dr | apply LaidX.drew))).mono ?_; rintro e w' ⟨rfl, x, rfl⟩) | (go_at_call 14; refine (comment_gives s _ (by omega)).mono ?_; rw [hc]; rintro e w' ⟨rfl, x, rfl⟩) | (go_at_call 15; refine (Same_gives _ va vb _ _ (ta3.of_isOv (by repeat (first | with_reducible exact IsOv.refl _ | with_reducible apply IsOv.dr | with_reducible apply IsOv.drewN | with_reducible apply IsOv.drew | with_reducible apply IsOv.alloc | with_reducible apply IsOv.ov))) (tb3.of_isOv (by repeat (first | with_reducible exact IsOv.refl _ | with_reducible apply IsOv.dr | with_reducible apply IsOv.drewN | with_reducible apply IsOv.drew | with_reducible apply IsOv.alloc | with_reducible apply IsOv.ov))) hp3 hp4).mono ?_; rw [HQ.out]; rintro e w' ⟨rfl, x, rfl⟩))
      exact bodyPost_ret (v := .bool true) (by simp [results, Tryd.results4, go_sem, ↓IntWalk.iteOmega]) rfl ⟨rfl, hovC.trans (by repeat (first | with_reducible exact IsOv.refl _ | with_reducible apply IsOv.dr | with_reducible apply IsOv.drewN | with_reducible apply IsOv.drew | with_reducible apply IsOv.alloc | with_reducible apply IsOv.ov))⟩
    · have he1 : (r1.err == 0) = false := by simpa using he
      have he2 : (r2.err == 0) = false := by simpa using fun e => he (hp1.2 e)
      clear he hp1
      go_wp2_with (first | (go_at_call 7; refine (awake_gives _ (by repeat (first | exact hL3 | apply LaidX.alloc | apply LaidX.ov | apply LaidX.dr | apply LaidX.drew))).mono ?_; rintro e w' ⟨rfl, x, rfl⟩) | (go_at_call 14; refine (comment_gives s _ (by omega)).mono ?_; rw [hc]; rintro e w' ⟨rfl, x, rfl⟩) | (go_at_call 15; refine (Same_gives _ va vb _ _ (ta3.of_isOv (by repeat (first | with_reducible exact IsOv.refl _ | with_reducible apply IsOv.dr | with_reducible apply IsOv.drewN | with_reducible apply IsOv.drew | with_reducible apply IsOv.alloc | with_reducible apply IsOv.ov))) (tb3.of_isOv (by repeat (first | with_reducible exact IsOv.refl _ | with_reducible apply IsOv.dr | with_reducible apply IsOv.drewN | with_reducible apply IsOv.drew | with_reducible apply IsOv.alloc | with_reducible apply IsOv.ov))) hp3 hp4).mono ?_; rw [HQ.out]; rintro e w' ⟨rfl, x, rfl⟩))
      exact bodyPost_ret (v := .bool true) (by simp [results, Tryd.results4, go_sem, ↓IntWalk.iteOmega]) rfl ⟨rfl, hovC.trans (by repeat (first | with_reducible exact IsOv.refl _ | with_reducible apply IsOv.dr | with_reducible apply IsOv.drewN | with_reducible apply IsOv.drew | with_reducible apply IsOv.alloc | with_reducible apply IsOv.ov))⟩
  · clear hP
    go_wp2_with (first | (go_at_call 7; refine (awake_gives _ (by repeat (first | exact hL3 | apply LaidX.alloc | apply LaidX.ov | apply LaidX.dr | apply LaidX.drew))).mono ?_; rintro e w' ⟨rfl, x, rfl⟩) | (go_at_call 14; refine (comment_gives s _ (by omega)).mono ?_; rw [hc]; rintro e w' ⟨rfl, x, rfl⟩))
    exact bodyPost_ret (v := .bool true) (by simp [results, Tryd.results4, go_sem, ↓IntWalk.iteOmega]) rfl ⟨rfl, hovC.trans (by repeat (first | with_reducible exact IsOv.refl _ | with_reducible apply IsOv.dr | with_reducible apply IsOv.drewN | with_reducible apply IsOv.drew | with_reducible apply IsOv.alloc | with_reducible apply IsOv.ov))⟩
end Go.Proofs.YtdimhoilfopndaaDoor
