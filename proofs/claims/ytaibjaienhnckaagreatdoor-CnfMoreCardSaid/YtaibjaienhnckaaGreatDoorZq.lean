/- Spreading comes to an end. No condition. -/
import Derived.Test.YtaibjaienhnckaaGreatDoorZo
set_option linter.unusedVariables false
set_option linter.unusedSimpArgs false
namespace Go.Proofs.YtaibjaienhnckaaGreatDoor
open Go.RowKit
theorem open_new {ks : List Int} : ∀ (c : List Int) (only cnt : Int), 0 ≤ cnt → (cnt = 1 → only ∉ ks) → (openF ks c only cnt).2 = 1 → (openF ks c only cnt).1 ∉ ks ∧ ((openF ks c only cnt).1 ∈ c ∨ (openF ks c only cnt).1 = only ∧ cnt = 1)
  | [], only, cnt, h0, h1, h => ⟨h1 h, .inr ⟨rfl, h⟩⟩
  | n :: c, only, cnt, h0, h1, h => by
    simp only [openF] at h ⊢
    by_cases hn : n ∈ ks
    · rw [if_pos hn] at h; simp at h
    · rw [if_neg hn] at h ⊢
      by_cases hc : -n ∉ ks ∧ (cnt = 0 ∨ n ≠ only)
      · rw [if_pos hc] at h ⊢
        have h9 := open_new c n (if 2 < cnt + 1 then 2 else cnt + 1) (by split <;> omega) (fun _ => hn) h
        refine ⟨h9.1, .inl ?_⟩
        rcases h9.2 with h8 | h8
        · exact List.mem_cons_of_mem _ h8
        · rw [h8.1]; exact List.mem_cons_self
      · rw [if_neg hc] at h ⊢
        have h9 := open_new c only cnt h0 h1 h
        exact ⟨h9.1, h9.2.imp (List.mem_cons_of_mem _) id⟩
/-- How many literals are not there yet. -/
def lacks (U ks : List Int) : Nat := (U.filter fun x => decide (x ∉ ks)).length
theorem lacks_le {U ks ks2 : List Int} (h : ∀ x ∈ ks, x ∈ ks2) : lacks U ks2 ≤ lacks U ks := by
  unfold lacks
  induction U with
  | nil => simp
  | cons u U ih =>
    simp only [List.filter_cons, decide_eq_true_eq]
    by_cases h1 : u ∈ ks
    · rw [if_neg (by simpa using h u h1), if_neg (by simpa using h1)]; exact ih
    · rw [if_pos h1]
      split
      · simpa using ih
      · simp only [List.length_cons]; omega
theorem lacks_lt {U ks ks2 : List Int} {n : Int} (h : ∀ x ∈ ks, x ∈ ks2) (hn : n ∈ U) (h1 : n ∉ ks) (h2 : n ∈ ks2) : lacks U ks2 < lacks U ks := by
  induction U with
  | nil => cases hn
  | cons u U ih =>
    have hle := lacks_le (U := U) h
    unfold lacks at hle ih ⊢
    simp only [List.filter_cons, decide_eq_true_eq]
    by_cases hu : u = n
    · subst hu
      rw [if_neg (by simpa using h2), if_pos h1]
      simp only [List.length_cons]; omega
    · have hn2 : n ∈ U := (List.mem_cons.1 hn).resolve_left (fun e => hu e.symm)
      have h9 := ih hn2
      by_cases h3 : u ∈ ks
      · rw [if_neg (by simpa using h u h3), if_neg (by simpa using h3)]; exact h9
      · rw [if_pos h3]
        split
        · simpa using h9
        · simp only [List.length_cons]; omega
theorem pass_lacks {U : List Int} : ∀ (l : List (List Int)) (ks : List Int) (more : Bool) (ks2 : List Int) (m2 : Bool), (∀ c ∈ l, ∀ x ∈ c, x ∈ U) → passF ks more l = some (ks2, m2) → lacks U ks2 ≤ lacks U ks ∧ (m2 = true → more = true ∨ lacks U ks2 < lacks U ks)
  | [], ks, more, ks2, m2, hU, h => by
    simp only [passF, Option.some.injEq, Prod.mk.injEq] at h
    rw [h.1, h.2]
    exact ⟨Nat.le_refl _, .inl⟩
  | c :: l, ks, more, ks2, m2, hU, h => by
    have hU2 := fun d hd => hU d (List.mem_cons_of_mem c hd)
    simp only [passF] at h
    split at h
    · cases h
    · split at h
      · rename_i h1
        have hn := open_new c 0 0 (by decide) (fun h => by omega) h1
        have hc : (openF ks c 0 0).1 ∈ U := hU c List.mem_cons_self _ (hn.2.resolve_right (fun h => by omega))
        have hlt := lacks_lt (U := U) (ks2 := addK ks (openF ks c 0 0).1) (fun x hx => mem_addK.2 (.inl hx)) hc hn.1 (mem_addK.2 (.inr rfl))
        have h9 := pass_lacks l _ _ ks2 m2 hU2 h
        exact ⟨by omega, fun _ => .inr (by omega)⟩
      · exact pass_lacks l _ _ ks2 m2 hU2 h
theorem loop_ends {U : List Int} {l : List (List Int)} (hU : ∀ c ∈ l, ∀ x ∈ c, x ∈ U) : ∀ (g : Nat) (ks : List Int), lacks U ks < g → ∃ r, loopF (g + 1) ks true l = some r
  | 0, ks, h => by omega
  | g + 1, ks, h => by
    simp only [loopF, Bool.true_eq_false, if_false]
    cases hp : passF ks false l with
    | none => exact ⟨_, rfl⟩
    | some q =>
      obtain ⟨ks2, m2⟩ := q
      have h9 := pass_lacks l ks false ks2 m2 hU hp
      cases m2
      · exact ⟨some ks2, by simp⟩
      · have h8 := (h9.2 rfl).resolve_left (by simp)
        exact loop_ends hU g ks2 (by omega)
theorem start_ends (l : List (List Int)) (sure : List Int) : ∃ g r, startF l sure g = some r := by
  unfold startF
  cases hs : seedF [] sure with
  | none => exact ⟨0, _, rfl⟩
  | some ks =>
    obtain ⟨r, hr⟩ := loop_ends (U := l.flatten) (l := l) (fun c hc x hx => List.mem_flatten.2 ⟨c, hc, hx⟩) (lacks l.flatten ks + 1) ks (by omega)
    exact ⟨_, r, hr⟩
end Go.Proofs.YtaibjaienhnckaaGreatDoor
