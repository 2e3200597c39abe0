/- Layer 22 as a plain matter: a line of a setup and the document's, alike. No condition. -/
import Derived.Test.YtaibjaienhnckaaDoorUb
import Derived.Lib.IndexMore
import Derived.Lib.SlTrimSet
import Derived.Lib.AtoiAll
import Derived.Lib.ItoaNum
set_option linter.unusedVariables false
set_option linter.unusedSimpArgs false
namespace Go.Proofs.YtaibjaienhnckaaDoor
open Go.RowKit
/-- Cut at a byte, one by one. -/
def cut1 (c : UInt8) : List UInt8 → List UInt8 × List UInt8 × Bool
  | [] => ([], [], false)
  | b :: l => if b = c then ([], l, true) else (b :: (cut1 c l).1, (cut1 c l).2.1, (cut1 c l).2.2)
theorem cut_one (c : UInt8) : ∀ l : List UInt8, Lib.cut l [c] = cut1 c l
  | [] => by simp [Lib.cut, Lib.index, cut1]
  | b :: l => by
    have ih := cut_one c l
    unfold Lib.cut at ih ⊢
    unfold Lib.index cut1
    by_cases h : b = c
    · subst h; simp
    · have h2 : (c == b) = false := by rw [beq_eq_false_iff_ne]; exact fun e => h e.symm
      have hp : [c].isPrefixOf (b :: l) = false := by simp [List.isPrefixOf, h2]
      rw [if_neg h, hp]
      simp only [Bool.false_eq_true, if_false]
      by_cases h3 : Lib.index l [c] = -1
      · rw [h3] at ih ⊢
        simp at ih ⊢
        rw [← ih]; simp
      · have h4 : 0 ≤ Lib.index l [c] := by have := Lib.index_ge l [c]; omega
        have h5 : (Lib.index l [c] == -1) = false := by rw [beq_eq_false_iff_ne]; exact h3
        rw [if_pos h4] at ih
        rw [h5, if_neg Bool.false_ne_true, if_pos (by omega), ← ih]
        have e : (Lib.index l [c] + 1).toNat = (Lib.index l [c]).toNat + 1 := by omega
        simp [e]
theorem cut1_app (c : UInt8) (r : List UInt8) : ∀ a : List UInt8, c ∉ a → cut1 c (a ++ c :: r) = (a, r, true)
  | [], _ => by simp [cut1]
  | b :: a, h => by
    have h1 : b ≠ c := fun e => h (by rw [e]; exact List.mem_cons_self)
    have h2 : c ∉ a := fun e => h (List.mem_cons_of_mem _ e)
    simp [cut1, h1, cut1_app c r a h2]
theorem cut1_none (c : UInt8) : ∀ a : List UInt8, c ∉ a → cut1 c a = (a, [], false)
  | [], _ => rfl
  | b :: a, h => by
    have h1 : b ≠ c := fun e => h (by rw [e]; exact List.mem_cons_self)
    have h2 : c ∉ a := fun e => h (List.mem_cons_of_mem _ e)
    simp [cut1, h1, cut1_none c a h2]
/-- What a cut says. -/
theorem cut1_spec (c : UInt8) : ∀ l : List UInt8, c ∉ (cut1 c l).1 ∧ ((cut1 c l).2.2 = true → l = (cut1 c l).1 ++ c :: (cut1 c l).2.1) ∧ ((cut1 c l).2.2 = false → (cut1 c l).1 = l ∧ (cut1 c l).2.1 = [])
  | [] => by simp [cut1]
  | b :: l => by
    obtain ⟨h1, h2, h3⟩ := cut1_spec c l
    by_cases h : b = c
    · subst h; simp [cut1]
    · simp only [cut1, if_neg h]
      refine ⟨?_, ?_, ?_⟩
      · intro hm
        rcases List.mem_cons.1 hm with e | e
        · exact h e.symm
        · exact h1 e
      · intro e; exact congrArg (List.cons b) (h2 e)
      · intro e; exact ⟨congrArg (List.cons b) (h3 e).1, (h3 e).2⟩
theorem dropWhile_nil {p : UInt8 → Bool} : ∀ l : List UInt8, l.dropWhile p = [] ↔ ∀ a ∈ l, p a = true
  | [] => by simp
  | b :: l => by
    by_cases h : p b = true
    · simp [List.dropWhile, h, dropWhile_nil l]
    · simp [List.dropWhile, h]
theorem dropWhile_head {p : UInt8 → Bool} : ∀ (l : List UInt8) (a : UInt8) (r : List UInt8), l.dropWhile p = a :: r → p a = false
  | b :: l, a, r, h => by
    by_cases hb : p b = true
    · simp only [List.dropWhile, hb] at h; exact dropWhile_head l a r h
    · simp only [List.dropWhile] at h
      split at h
      · contradiction
      · rename_i hb2; injection h with h1 h2; rw [← h1]; exact hb2
theorem trimS_nil (l cs : List UInt8) : Lib.trimS l cs = [] ↔ ∀ a ∈ l, cs.contains a = true := by
  unfold Lib.trimS Lib.trimLeftS Lib.trimRightS
  rw [dropWhile_nil]
  constructor
  · intro h
    have : l.reverse.dropWhile (cs.contains ·) = [] := by
      cases hd : l.reverse.dropWhile (cs.contains ·) with
      | nil => rfl
      | cons a r =>
        have h1 := dropWhile_head _ _ _ hd
        have h2 := h a (by rw [hd]; simp)
        rw [h1] at h2; cases h2
    rw [dropWhile_nil] at this
    intro a ha
    exact this a (by simpa using ha)
  · intro h a ha
    have : l.reverse.dropWhile (cs.contains ·) = [] := (dropWhile_nil _).2 fun a ha => h a (by simpa using ha)
    rw [this] at ha
    simp at ha
theorem u8_all {p : UInt8 → Prop} (h : ∀ n : Nat, n < 256 → p (UInt8.ofNat n)) (a : UInt8) : p a := by
  have := h a.toNat a.toNat_lt
  rwa [UInt8.ofNat_toNat] at this
theorem digL_mem (a : UInt8) : ([48, 49, 50, 51, 52, 53, 54, 55, 56, 57] : List UInt8).contains a = true ↔ 48 ≤ a.toNat ∧ a.toNat ≤ 57 := by
  refine u8_all (p := fun a => ([48, 49, 50, 51, 52, 53, 54, 55, 56, 57] : List UInt8).contains a = true ↔ 48 ≤ a.toNat ∧ a.toNat ≤ 57) ?_ a
  decide +kernel
end Go.Proofs.YtaibjaienhnckaaDoor
