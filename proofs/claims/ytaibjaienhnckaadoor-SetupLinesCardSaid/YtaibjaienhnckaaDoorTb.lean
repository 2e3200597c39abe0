/- Layer 22 as a plain matter: a number's digits, as the program and the document read them. No condition. -/
import Derived.Test.YtaibjaienhnckaaDoorTa
set_option linter.unusedVariables false
set_option linter.unusedSimpArgs false
namespace Go.Proofs.YtaibjaienhnckaaDoor
open Go.RowKit
/-- The number that digits spell behind a number. -/
def decV (v : Nat) (l : List UInt8) : Nat := l.foldl (fun v b => v * 10 + (b.toNat - 48)) v
def isDig (b : UInt8) : Prop := 48 ≤ b.toNat ∧ b.toNat ≤ 57
theorem decV_cons (v : Nat) (b : UInt8) (l : List UInt8) : decV v (b :: l) = decV (v * 10 + (b.toNat - 48)) l := by simp only [decV, List.foldl_cons]
theorem decV_ge : ∀ (l : List UInt8) (v : Nat), v ≤ decV v l
  | [], v => Nat.le_refl _
  | b :: l, v => by rw [decV_cons]; exact Nat.le_trans (by omega) (decV_ge l (v * 10 + (b.toNat - 48)))
theorem numG_none : ∀ (l : List UInt8) (v : Int), (∃ a ∈ l, ¬ isDig a) → numG v l = none
  | [], v, h => by obtain ⟨a, ha, _⟩ := h; cases ha
  | b :: l, v, h => by
    unfold numG
    by_cases h1 : (b.toNat : Int) < 48
    · rw [if_pos h1]
    · by_cases h2 : 57 < (b.toNat : Int)
      · rw [if_neg h1, if_pos h2]
      · rw [if_neg h1, if_neg h2]
        refine numG_none l _ ?_
        obtain ⟨a, ha, hn⟩ := h
        rcases List.mem_cons.1 ha with rfl | ha
        · exact absurd ⟨by omega, by omega⟩ hn
        · exact ⟨a, ha, hn⟩
theorem numG_big : ∀ (l : List UInt8) (v : Int), (∀ a ∈ l, isDig a) → 100000000000 ≤ v → numG v l = some v
  | [], v, _, _ => rfl
  | b :: l, v, h, hv => by
    obtain ⟨h1, h2⟩ := h b List.mem_cons_self
    unfold numG
    rw [if_neg (by omega), if_neg (by omega), if_neg (by omega)]
    exact numG_big l v (fun a ha => h a (List.mem_cons_of_mem _ ha)) hv
theorem numG_some : ∀ (l : List UInt8) (v : Nat), (∀ a ∈ l, isDig a) → ∃ u : Int, numG v l = some u ∧ (u = (decV v l : Nat) ∨ (100000000000 ≤ u ∧ 100000000000 ≤ (decV v l : Nat)))
  | [], v, _ => ⟨v, rfl, .inl rfl⟩
  | b :: l, v, h => by
    obtain ⟨h1, h2⟩ := h b List.mem_cons_self
    have hl : ∀ a ∈ l, isDig a := fun a ha => h a (List.mem_cons_of_mem _ ha)
    by_cases hv : (v : Int) < 100000000000
    · obtain ⟨u, h3, h4⟩ := numG_some l (v * 10 + (b.toNat - 48)) hl
      refine ⟨u, ?_, h4⟩
      unfold numG
      rw [if_neg (by omega), if_neg (by omega), if_pos hv, ← h3]
      congr 1
      omega
    · refine ⟨v, numG_big _ _ h (by omega), .inr ⟨by omega, ?_⟩⟩
      have := decV_ge (b :: l) v
      omega
theorem parse10 : ∀ (l : List UInt8) (v : Nat), (∀ a ∈ l, isDig a) → v < 18446744073709551616 → (decV v l < 18446744073709551616 ∧ Lib.parseUint10 v l = .ok (decV v l)) ∨ (18446744073709551616 ≤ decV v l ∧ Lib.parseUint10 v l = .range)
  | [], v, _, hv => .inl ⟨hv, rfl⟩
  | b :: l, v, h, hv => by
    obtain ⟨h1, h2⟩ := h b List.mem_cons_self
    have hl : ∀ a ∈ l, isDig a := fun a ha => h a (List.mem_cons_of_mem _ ha)
    have hge := decV_ge l (v * 10 + (b.toNat - 48))
    unfold Lib.parseUint10
    rw [if_pos ⟨h1, h2⟩]
    rw [decV_cons]
    by_cases h3 : 1844674407370955162 ≤ v
    · rw [if_pos h3]; exact .inr ⟨by omega, rfl⟩
    · by_cases h4 : 18446744073709551616 ≤ v * 10 + (b.toNat - 48)
      · rw [if_neg h3, if_pos h4]; exact .inr ⟨by omega, rfl⟩
      · rw [if_neg h3, if_neg h4]
        exact parse10 l _ hl (by omega)
theorem atoiP_dig (l : List UInt8) (h0 : l ≠ []) (h : ∀ a ∈ l, isDig a) : (decV 0 l < 9223372036854775808 ∧ atoiP l = some ((decV 0 l : Nat) : Int)) ∨ (9223372036854775808 ≤ decV 0 l ∧ atoiP l = none) := by
  cases l with
  | nil => exact absurd rfl h0
  | cons c r =>
    obtain ⟨h1, h2⟩ := h c List.mem_cons_self
    unfold atoiP Lib.atoiAll
    simp only
    rw [if_neg (by omega)]
    unfold Lib.parseMag
    rw [if_neg h0]
    rcases parse10 (c :: r) 0 h (by decide) with ⟨h3, h4⟩ | ⟨h3, h4⟩
    · rw [h4]
      simp only
      by_cases h5 : 9223372036854775808 ≤ decV 0 (c :: r)
      · rw [if_pos ⟨by omega, h5⟩]; exact .inr ⟨h5, rfl⟩
      · rw [if_neg (by omega), if_neg (by omega), if_neg (by omega)]; exact .inl ⟨by omega, rfl⟩
    · rw [h4]; exact .inr ⟨by omega, rfl⟩
theorem isDig_all (l : List UInt8) : (Lib.trimS l digL).isEmpty = true ↔ ∀ a ∈ l, isDig a := by
  rw [List.isEmpty_iff, trimS_nil]
  exact forall_congr' fun a => forall_congr' fun _ => digL_mem a
/-- Digits alone, without a nought ahead: the document reads a number just there. -/
theorem digits_some (r : List UInt8) : digitsOk r = (numR r).isSome := by
  unfold digitsOk numR
  by_cases h0 : r = []
  · subst h0; simp
  · rw [if_neg h0]
    by_cases h1 : ∀ a ∈ r, isDig a
    · have e := (isDig_all r).2 h1
      obtain ⟨u, h3, _⟩ := numG_some r 0 h1
      have h3' : numG 0 r = some u := h3
      have hr : r.isEmpty = false := by rw [Bool.eq_false_iff]; intro h; exact h0 (List.isEmpty_iff.1 h)
      rw [e, hr]
      cases r with
      | nil => exact absurd rfl h0
      | cons a t =>
        by_cases ha : a = 48
        · subst ha
          cases t with
          | nil => rw [if_neg (by simp), h3']; rfl
          | cons b t2 => rw [if_pos (by simp)]; simp
        · rw [if_neg (by simp [ha]), h3']; simp [ha]
    · have e : (Lib.trimS r digL).isEmpty = false := by rw [Bool.eq_false_iff]; intro h; exact h1 ((isDig_all r).1 h)
      rw [e]
      have hn : numG 0 r = none := numG_none r 0 (by simpa using h1)
      split
      · rfl
      · rw [hn]; rfl
/-- Where digits stand, both read the same number, or both a great one. -/
theorem digits_both (r : List UInt8) (h : digitsOk r = true) : ∃ u : Int, numR r = some u ∧ (atoiP r = some u ∨ (100000000000 ≤ u ∧ ∀ v, atoiP r = some v → 100000000000 ≤ v)) := by
  have hs := digits_some r
  rw [h] at hs
  cases hn : numR r with
  | none => rw [hn] at hs; cases hs
  | some u =>
    refine ⟨u, rfl, ?_⟩
    have h0 : r ≠ [] := by intro e; subst e; cases hn
    have h1 : ∀ a ∈ r, isDig a := (isDig_all r).1 (by unfold digitsOk at h; simp only [Bool.and_eq_true] at h; exact h.1.1)
    have hg : numG 0 r = some u := by
      unfold numR at hn
      rw [if_neg h0] at hn
      split at hn
      · cases hn
      · exact hn
    obtain ⟨u', h3, h4⟩ := numG_some r 0 h1
    have h3' : numG 0 r = some u' := h3
    rw [hg] at h3'
    obtain rfl : u = u' := Option.some.inj h3'
    rcases atoiP_dig r h0 h1 with ⟨h5, h6⟩ | ⟨h5, h6⟩
    · rcases h4 with h4 | ⟨h4, h7⟩
      · left; rw [h6, h4]
      · right; refine ⟨h4, fun v hv => ?_⟩
        rw [h6] at hv
        have := Option.some.inj hv
        omega
    · right
      refine ⟨?_, fun v hv => by rw [h6] at hv; cases hv⟩
      rcases h4 with h4 | ⟨h4, _⟩
      · omega
      · exact h4
end Go.Proofs.YtaibjaienhnckaaDoor
