/- What spreads holds in each set of literals that holds the sure ones and each clause, and no literal against its negation. No condition. -/
import Derived.Test.YtaibjaienhnckaaGreatDoorZe
set_option linter.unusedVariables false
namespace Go.Proofs.YtaibjaienhnckaaGreatDoor
open Go.RowKit
theorem mem_addK {ks : List Int} {n x : Int} : x ∈ addK ks n ↔ x ∈ ks ∨ x = n := by
  unfold addK
  split
  · rename_i h
    exact ⟨.inl, fun h9 => h9.elim id (fun e => by rw [e]; exact h)⟩
  · simp
/-- Where a clause holds in m and all of ks are in m, what is open of it holds too. -/
theorem open_model {ks m : List Int} (hk : ∀ x ∈ ks, x ∈ m) (hm : ∀ x, ¬ (x ∈ m ∧ -x ∈ m)) : ∀ (c : List Int) (only cnt : Int), 0 ≤ cnt → cnt ≤ 2 → (cnt = 1 → only ∈ m ∨ ∃ x ∈ c, x ∈ m) → (cnt = 0 → ∃ x ∈ c, x ∈ m) →
    (openF ks c only cnt).2 ≠ 0 ∧ ((openF ks c only cnt).2 = 1 → (openF ks c only cnt).1 ∈ m)
  | [], only, cnt, h0, h2, h1, hz => by
    simp only [openF]
    refine ⟨fun e => ?_, fun e => ?_⟩
    · obtain ⟨x, hx, _⟩ := hz e
      cases hx
    · rcases h1 e with h | ⟨x, hx, _⟩
      · exact h
      · cases hx
  | n :: c, only, cnt, h0, h2, h1, hz => by
    simp only [openF]
    by_cases hn : n ∈ ks
    · rw [if_pos hn]
      exact ⟨by simp, by simp⟩
    · rw [if_neg hn]
      by_cases hc : -n ∉ ks ∧ (cnt = 0 ∨ n ≠ only)
      · rw [if_pos hc]
        have e : (if 2 < cnt + 1 then 2 else cnt + 1) = if cnt = 0 then 1 else (2 : Int) := by split <;> split <;> omega
        rw [e]
        by_cases h : cnt = 0
        · rw [if_pos h]
          refine open_model hk hm c n 1 (by decide) (by decide) (fun _ => ?_) (fun h9 => by omega)
          obtain ⟨x, hx, hxm⟩ := hz h
          rcases List.mem_cons.1 hx with rfl | hx
          · exact .inl hxm
          · exact .inr ⟨x, hx, hxm⟩
        · rw [if_neg h]
          exact open_model hk hm c n 2 (by decide) (by decide) (fun h9 => by omega) (fun h9 => by omega)
      · rw [if_neg hc]
        refine open_model hk hm c only cnt h0 h2 (fun h9 => ?_) (fun h9 => ?_)
        · rcases h1 h9 with h | ⟨x, hx, hxm⟩
          · exact .inl h
          · rcases List.mem_cons.1 hx with rfl | hx
            · by_cases hxo : x = only
              · exact .inl (by rw [← hxo]; exact hxm)
              · have hng : -x ∈ ks := Decidable.byContradiction fun h8 => hc ⟨h8, .inr hxo⟩
                exact absurd ⟨hxm, hk _ hng⟩ (hm x)
            · exact .inr ⟨x, hx, hxm⟩
        · obtain ⟨x, hx, hxm⟩ := hz h9
          rcases List.mem_cons.1 hx with rfl | hx
          · have hng : -x ∈ ks := Decidable.byContradiction fun h8 => hc ⟨h8, .inl h9⟩
            exact absurd ⟨hxm, hk _ hng⟩ (hm x)
          · exact ⟨x, hx, hxm⟩
theorem seed_model {m : List Int} (hm : ∀ x, ¬ (x ∈ m ∧ -x ∈ m)) : ∀ (sure ks : List Int), (∀ x ∈ ks, x ∈ m) → (∀ x ∈ sure, x ∈ m) → ∃ ks2, seedF ks sure = some ks2 ∧ ∀ x ∈ ks2, x ∈ m
  | [], ks, hk, _ => ⟨ks, rfl, hk⟩
  | n :: r, ks, hk, hs => by
    have hk2 : ∀ x ∈ addK ks n, x ∈ m := fun x hx => (mem_addK.1 hx).elim (hk x) (fun e => by rw [e]; exact hs n List.mem_cons_self)
    simp only [seedF]
    rw [if_neg (fun h => hm n ⟨hs n List.mem_cons_self, hk2 _ h⟩)]
    exact seed_model hm r _ hk2 (fun x hx => hs x (List.mem_cons_of_mem _ hx))
theorem pass_model {m : List Int} (hm : ∀ x, ¬ (x ∈ m ∧ -x ∈ m)) : ∀ (l : List (List Int)) (ks : List Int) (more : Bool), (∀ x ∈ ks, x ∈ m) → (∀ c ∈ l, ∃ x ∈ c, x ∈ m) → ∃ ks2 m2, passF ks more l = some (ks2, m2) ∧ ∀ x ∈ ks2, x ∈ m
  | [], ks, more, hk, _ => ⟨ks, more, rfl, hk⟩
  | c :: l, ks, more, hk, hl => by
    have ho := open_model hk hm c 0 0 (by decide) (by decide) (fun h => by omega) (fun _ => hl c List.mem_cons_self)
    have hl2 := fun d hd => hl d (List.mem_cons_of_mem c hd)
    simp only [passF]
    rw [if_neg ho.1]
    split
    · rename_i h1
      exact pass_model hm l _ _ (fun x hx => (mem_addK.1 hx).elim (hk x) (fun e => by rw [e]; exact ho.2 h1)) hl2
    · exact pass_model hm l _ _ hk hl2
theorem loop_model {m : List Int} (hm : ∀ x, ¬ (x ∈ m ∧ -x ∈ m)) {l : List (List Int)} (hl : ∀ c ∈ l, ∃ x ∈ c, x ∈ m) : ∀ (g : Nat) (ks : List Int) (more : Bool) (r : Option (List Int)), (∀ x ∈ ks, x ∈ m) → loopF g ks more l = some r → ∃ ks2, r = some ks2 ∧ ∀ x ∈ ks2, x ∈ m
  | 0, ks, more, r, hk, h => by simp [loopF] at h
  | g + 1, ks, more, r, hk, h => by
    obtain ⟨ks2, m2, hp, hk2⟩ := pass_model hm l ks false hk hl
    cases more
    · simp only [loopF, if_true, Option.some.injEq] at h
      exact ⟨ks, h.symm, hk⟩
    · simp only [loopF, Bool.true_eq_false, if_false] at h
      rw [hp] at h
      exact loop_model hm hl g ks2 m2 r hk2 h
/-- What spreads can hold wherever all holds, and holds there. -/
theorem start_model {m : List Int} (hm : ∀ x, ¬ (x ∈ m ∧ -x ∈ m)) {l : List (List Int)} (hl : ∀ c ∈ l, ∃ x ∈ c, x ∈ m) {sure : List Int} (hs : ∀ x ∈ sure, x ∈ m) {g : Nat} {r : Option (List Int)} (h : startF l sure g = some r) : ∃ ks2, r = some ks2 ∧ ∀ x ∈ ks2, x ∈ m := by
  obtain ⟨ks, hk, hkm⟩ := seed_model hm sure [] (fun x hx => by cases hx) hs
  unfold startF at h
  rw [hk] at h
  exact loop_model hm hl g ks true r hkm h
end Go.Proofs.YtaibjaienhnckaaGreatDoor
