/- Clauses as sets: what cleaning and resolving keep. No condition. -/
import Derived.Test.YtaibjaienhnckaaGreatDoorZi
set_option linter.unusedVariables false
namespace Go.Proofs.YtaibjaienhnckaaGreatDoor
open Go.RowKit
theorem compact_all_mem (l : List Int) : ∀ (j : Nat) (hj : j < l.length), l[j] ∈ Lib.compact l
  | 0, hj => by
    unfold Lib.compact Lib.compactUpTo
    exact List.mem_map.2 ⟨0, List.mem_filter.2 ⟨List.mem_range.2 hj, by simp [Lib.keeps]⟩, by simp [hj]⟩
  | j + 1, hj => by
    have hj0 : j < l.length := by omega
    by_cases h : l[j + 1] = l[j]
    · rw [h]; exact compact_all_mem l j hj0
    · unfold Lib.compact Lib.compactUpTo
      refine List.mem_map.2 ⟨j + 1, List.mem_filter.2 ⟨List.mem_range.2 hj, ?_⟩, by simp [hj]⟩
      unfold Lib.keeps
      refine decide_eq_true (.inr ?_)
      simpa [hj, hj0] using h
theorem mem_tidy {c : List Int} {x : Int} : x ∈ tidyF c ↔ x ∈ c := by
  have hp := (List.mergeSort_perm c fun x y => decide (x ≤ y)).mem_iff (a := x)
  unfold tidyF
  refine ⟨fun h => hp.1 (compact_mem h), fun h => ?_⟩
  obtain ⟨j, hj, rfl⟩ := List.getElem_of_mem (hp.2 h)
  exact compact_all_mem _ j hj
/-- What resolves holds the literals of both clauses but the two of the variable. -/
theorem resolve_mem {a b d : List Int} {v : Int} (h : resolveF a b v = some d) (x : Int) : x ∈ d ↔ (x ∈ a ∨ x ∈ b) ∧ x ≠ v ∧ x ≠ -v := by
  unfold resolveF at h
  split at h
  · rw [clean_some h, mem_tidy, List.mem_filter, List.mem_append]
    simp
  · cases h
/-- Resolving is sound: where both clauses hold in a set of literals that doesn't hold both of the variable's, so does what resolves. -/
theorem resolve_sound {a b d m : List Int} {v : Int} (h : resolveF a b v = some d) (hm : ¬ (v ∈ m ∧ -v ∈ m)) (ha : ∃ x ∈ a, x ∈ m) (hb : ∃ x ∈ b, x ∈ m) : ∃ x ∈ d, x ∈ m := by
  have hcl : ∀ c : List Int, cleanF c = some c → ∀ x ∈ c, x ≠ 0 → -x ∉ c := by
    intro c hc x hx hx0 hn
    have hcc : clashF c c = false := by
      have ht := clean_some hc
      unfold cleanF at hc
      rw [← ht] at hc
      cases hq : clashF c c
      · rfl
      · rw [hq] at hc; cases hc
    have key : ∀ l : List Int, x ∈ l → clashF c l = true := by
      intro l
      induction l with
      | nil => intro h; cases h
      | cons y l ih =>
        intro h
        simp only [clashF]
        by_cases hy : y ≠ 0 ∧ -y ∈ c
        · rw [if_pos hy]
        · rw [if_neg hy]
          rcases List.mem_cons.1 h with rfl | h
          · exact absurd ⟨hx0, hn⟩ hy
          · exact ih h
    rw [key c hx] at hcc
    cases hcc
  have hmem := resolve_mem h
  unfold resolveF at h
  split at h
  · rename_i hc
    obtain ⟨h1, h2, h3, h4, h5⟩ := hc
    obtain ⟨x, hxa, hxm⟩ := ha
    obtain ⟨y, hyb, hym⟩ := hb
    by_cases hx : x = v
    · by_cases hy : y = -v
      · subst hx; subst hy; exact absurd ⟨hxm, hym⟩ hm
      · refine ⟨y, (hmem y).2 ⟨.inr hyb, ?_, hy⟩, hym⟩
        rintro rfl
        exact hcl b h2 y hyb (by omega) h5
    · refine ⟨x, (hmem x).2 ⟨.inl hxa, hx, ?_⟩, hxm⟩
      rintro rfl
      exact hcl a h1 v h4 (by omega) hxa
  · cases h
end Go.Proofs.YtaibjaienhnckaaGreatDoor
