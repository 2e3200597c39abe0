/- The law LexBack comes to true, whatever the text. Condition: the tables lie as the program lays them. -/
import Derived.Test.YtdimhoilfopndaaDoorYx
set_option linter.unusedVariables false
set_option linter.unusedSimpArgs false
namespace Go.Proofs.YtdimhoilfopndaaDoor
open Go.RowKit
theorem txts_bare : ∀ ts : List Tok, (txts ts).map (·.data.toList) = ((ts.map Tok.bare).filter fun t => !(t.kind == 3)).map (·.text)
  | [] => rfl
  | t :: ts => by
    have ih := txts_bare ts
    unfold txts at ih ⊢
    have e : t.bare.kind = t.kind := rfl
    cases hk : (t.kind == 3)
    · rw [List.filter_cons_of_pos (by simp [hk]), List.map_cons, List.map_cons, List.map_cons, List.filter_cons_of_pos (by simp [e, hk]), List.map_cons, ih]; rfl
    · rw [List.filter_cons_of_neg (by simp [hk]), List.map_cons, List.filter_cons_of_neg (by simp [e, hk]), ih]
theorem join_joinB : ∀ xs : List (List UInt8), Lib.join xs [32] = joinB xs
  | [] => rfl
  | [x] => by simp [Lib.join, joinB, List.intercalate]
  | x :: y :: r => by
    have ih := join_joinB (y :: r)
    unfold Lib.join at ih ⊢
    simp only [List.intercalate, joinB] at ih ⊢
    rw [← ih]
    simp [List.intersperse]
theorem filter_good {gs : List Tk} (h : ∀ g ∈ gs, Good g) : (gs ++ [(⟨3, [], 0⟩ : Tk)]).filter (fun t => !(t.kind == 3)) = gs := by
  rw [List.filter_append]
  have h1 : gs.filter (fun t => !(t.kind == 3)) = gs := List.filter_eq_self.2 fun g hg => by
    have := (h g hg).kind
    simpa using this
  rw [h1]; simp
theorem back_pure (s : ByteArray) (hs : s.size ≤ 3000) : ((lexR s).err ≠ 0 → (lexR s).toks = []) ∧ ((lexR s).err = 0 →
    (Lib.join ((txts (lexR s).toks).map (·.data.toList)) [32]).length ≤ 140737488355328 ∧
    (lexR ⟨(Lib.join ((txts (lexR s).toks).map (·.data.toList)) [32]).toArray⟩).err = 0 ∧
    sameB (lexR s).toks (lexR ⟨(Lib.join ((txts (lexR s).toks).map (·.data.toList)) [32]).toArray⟩).toks = true ∧
    (lexR s).toks.length ≤ 70000 ∧ (lexR ⟨(Lib.join ((txts (lexR s).toks).map (·.data.toList)) [32]).toArray⟩).toks.length ≤ 70000) := by
  have a1 := lexR_list s (by omega)
  refine ⟨fun he => (a1.2 he).2, fun he => ?_⟩
  obtain ⟨gs, h1, h2, h3⟩ := LX_form _ _ _ rfl (a1.1 he)
  have hj : Lib.join ((txts (lexR s).toks).map (·.data.toList)) [32] = joinB (gs.map (·.text)) := by
    rw [join_joinB, txts_bare, h1, filter_good h2]
  rw [hj]
  rw [← size_list] at h3
  have hl := joinB_len (gs.map (·.text)) s.size (fun g hg => by
    obtain ⟨t, ht, rfl⟩ := List.mem_map.1 hg
    obtain ⟨c, r, hc, _⟩ := (h2 t ht).head
    rw [hc]; simp) h3
  generalize hq : (⟨(joinB (gs.map (·.text))).toArray⟩ : ByteArray) = q
  have hql : q.data.toList = joinB (gs.map (·.text)) := by rw [← hq]
  have hqz : q.size ≤ 65536 := by rw [size_list, hql]; omega
  have a2 := lexR_list q hqz
  have hX := LX_join gs h2
  rw [← hql] at hX
  have he2 : (lexR q).err = 0 := by
    by_cases e2 : (lexR q).err = 0
    · exact e2
    · have := (a2.2 e2).1
      rw [this] at hX; cases hX
  have h4 := a2.1 he2
  rw [hX] at h4
  have h5 := Option.some.inj h4
  refine ⟨by omega, he2, sameB_bare (by rw [h1]; exact h5), Nat.le_trans (toks_len s (by omega)) (by omega), Nat.le_trans (toks_len q hqz) (by omega)⟩
set_option maxHeartbeats 1000000 in
theorem LexBack_gives (s : ByteArray) (w : World) (hL : LaidX w) : Gives Tryd.prog 6 #[.string s] w (.bool true) := by
  unfold Gives
  by_cases h : s.size ≤ 3000
  · have h2 : (s.size : Int) ≤ 3000 := by omega
    have hP := Lib.hid (back_pure s h)
    go_enter Tryd.func6, Tryd.ntmps6
    go_wp2_with fail
    refine Calls.mono (Lex_calls _ _ (hL.of_isOv (by repeat (first | with_reducible exact IsOv.refl _ | with_reducible apply IsOv.dr | with_reducible apply IsOv.drewN | with_reducible apply IsOv.drew | with_reducible apply IsOv.alloc | with_reducible apply IsOv.ov)))) ?_
    rintro e w3 ⟨va, rfl, hovC, hown3⟩
    have hL3 : LaidX w3 := hL.of_isOv hovC
    have ta := Toks.of_owns hown3
    have hown4 := Lib.hid hown3
    clear hown3
    generalize lexR s = r1 at *
    by_cases he : r1.err = 0
    · have he1 : (r1.err == 0) = true := by simpa using he
      obtain ⟨hp1, hp2, hp3, hp4, hp5⟩ := hP.out.2 he
      have HQ := Lib.hid hp3
      have HJ := Lib.hid hp1
      have hp2' : ((lexR ⟨(Lib.join ((txts r1.toks).map (·.data.toList)) [32]).toArray⟩).err == 0) = true := by simpa using hp2
      clear hp1 hp2 hp3 hP he hown4
      generalize hq : (⟨(Lib.join ((txts r1.toks).map (·.data.toList)) [32]).toArray⟩ : ByteArray) = q at *
      have HE := Lib.hid hq
      clear hq
      go_wp2_with (first | (go_at_call 7; refine (awake_gives _ (by repeat (first | exact hL3 | apply LaidX.alloc | apply LaidX.ov | apply LaidX.dr | apply LaidX.drew))).mono ?_; rintro e w' ⟨rfl, x, rfl⟩) | (go_at_call 16; refine (Show_gives _ _ r1.toks (ta.of_isOv (by repeat (first | with_reducible exact IsOv.refl _ | with_reducible apply IsOv.dr | with_reducible apply IsOv.drewN | with_reducible apply IsOv.drew | with_reducible apply IsOv.alloc | with_reducible apply IsOv.ov))) hp4 HJ.out).mono ?_; rw [HE.out]; rintro e w' ⟨rfl, x, rfl⟩) | (go_at_call 13; refine Calls.mono (Lex_calls _ _ (by repeat (first | exact hL3 | apply LaidX.alloc | apply LaidX.ov | apply LaidX.dr | apply LaidX.drew))) ?_; rintro e w5 ⟨vb, rfl, hov5, hown5⟩; have tb := Toks.of_owns hown5; have ta5 := (ta.of_isOv (by repeat (first | with_reducible exact IsOv.refl _ | with_reducible apply IsOv.dr | with_reducible apply IsOv.drewN | with_reducible apply IsOv.drew | with_reducible apply IsOv.alloc | with_reducible apply IsOv.ov))).of_isOv hov5; have hov6 : IsOv w w5 := hovC.trans (IsOv.trans (by repeat (first | with_reducible exact IsOv.refl _ | with_reducible apply IsOv.dr | with_reducible apply IsOv.drewN | with_reducible apply IsOv.drew | with_reducible apply IsOv.alloc | with_reducible apply IsOv.ov)) hov5); clear hown5 hov5) | (go_at_call 15; refine (Same_gives _ va vb _ _ (ta5.of_isOv (by repeat (first | with_reducible exact IsOv.refl _ | with_reducible apply IsOv.dr | with_reducible apply IsOv.drewN | with_reducible apply IsOv.drew | with_reducible apply IsOv.alloc | with_reducible apply IsOv.ov))) (tb.of_isOv (by repeat (first | with_reducible exact IsOv.refl _ | with_reducible apply IsOv.dr | with_reducible apply IsOv.drewN | with_reducible apply IsOv.drew | with_reducible apply IsOv.alloc | with_reducible apply IsOv.ov))) hp4 hp5).mono ?_; rw [HQ.out]; rintro e w' ⟨rfl, x, rfl⟩))
      exact bodyPost_ret (v := .bool true) (by simp [results, Tryd.results6, go_sem, ↓IntWalk.iteOmega]) rfl ⟨rfl, by repeat (first | exact hov6 | with_reducible exact IsOv.refl _ | with_reducible apply IsOv.dr | with_reducible apply IsOv.drewN | with_reducible apply IsOv.drew | with_reducible apply IsOv.alloc | with_reducible apply IsOv.ov)⟩
    · have he1 : (r1.err == 0) = false := by simpa using he
      have hnil := hP.out.1 he
      obtain ⟨a, c, rfl, _⟩ := ta.form
      rw [hnil] at ta ⊢
      clear hP hown4 ta
      go_wp2_with (first | (go_at_call 7; refine (awake_gives _ (by repeat (first | exact hL3 | apply LaidX.alloc | apply LaidX.ov | apply LaidX.dr | apply LaidX.drew))).mono ?_; rintro e w' ⟨rfl, x, rfl⟩))
      exact bodyPost_ret (v := .bool true) (by simp [results, Tryd.results6, go_sem, ↓IntWalk.iteOmega]) rfl ⟨rfl, hovC.trans (by repeat (first | with_reducible exact IsOv.refl _ | with_reducible apply IsOv.dr | with_reducible apply IsOv.drewN | with_reducible apply IsOv.drew | with_reducible apply IsOv.alloc | with_reducible apply IsOv.ov))⟩
  · have h2 : (3000 : Int) < s.size := by omega
    go_enter Tryd.func6, Tryd.ntmps6
    go_wp2_with (first | (go_at_call 7; refine (awake_gives _ (hL.of_isOv (by repeat (first | with_reducible exact IsOv.refl _ | with_reducible apply IsOv.dr | with_reducible apply IsOv.drewN | with_reducible apply IsOv.drew | with_reducible apply IsOv.alloc | with_reducible apply IsOv.ov)))).mono ?_; rintro e w' ⟨rfl, x, rfl⟩))
    exact bodyPost_ret (v := .bool true) (by simp [results, Tryd.results6, go_sem, ↓IntWalk.iteOmega]) rfl ⟨rfl, by repeat (first | with_reducible exact IsOv.refl _ | with_reducible apply IsOv.dr | with_reducible apply IsOv.drewN | with_reducible apply IsOv.drew | with_reducible apply IsOv.alloc | with_reducible apply IsOv.ov)⟩
end Go.Proofs.YtdimhoilfopndaaDoor
