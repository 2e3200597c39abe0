/- Where the plain lexer's tokens stand: one behind the other, each where it says. Condition: the text takes at most 65536 bytes. -/
import Derived.Test.YtdimhoilfopndaaDoorYw
set_option linter.unusedVariables false
set_option linter.unusedSimpArgs false
namespace Go.Proofs.YtdimhoilfopndaaDoor
open Go.RowKit
/-- The tokens stand one behind the other, from a byte on, the end last. -/
def Placed (s : ByteArray) : Nat → List Tok → Prop
  | _, [] => False
  | a, [t] => t.kind = 3 ∧ t.text = ⟨#[]⟩ ∧ a ≤ s.size ∧ t.line = (lcAt s s.size).1 ∧ t.col = (lcAt s s.size).2
  | a, t :: u :: r => t.kind ≠ 3 ∧ ∃ b, a ≤ b ∧ 0 < t.text.size ∧ b + t.text.size ≤ s.size ∧ t.line = (lcAt s b).1 ∧ t.col = (lcAt s b).2 ∧ s.extract b (b + t.text.size) = t.text ∧ Placed s (b + t.text.size) (u :: r)
theorem bytes_ext {a b : ByteArray} (h : a.data.toList = b.data.toList) : a = b := by
  cases a; cases b
  simpa using h
theorem extract_nil (s : ByteArray) (n : Nat) : s.extract n n = ⟨#[]⟩ := by
  refine bytes_ext ?_
  have := extract_take s n 0
  rw [Nat.add_zero] at this
  rw [this]; rfl
theorem Placed.head {s : ByteArray} {a : Nat} {t : Tok} {r : List Tok} (h : Placed s a (t :: r)) : ∃ b, a ≤ b ∧ b + t.text.size ≤ s.size ∧ t.line = (lcAt s b).1 ∧ t.col = (lcAt s b).2 ∧ s.extract b (b + t.text.size) = t.text ∧
    ((t.kind = 3 ∧ t.text.size = 0 ∧ b = s.size ∧ r = []) ∨ (t.kind ≠ 3 ∧ 0 < t.text.size ∧ r ≠ [] ∧ Placed s (b + t.text.size) r)) := by
  cases r with
  | nil =>
    obtain ⟨h1, h2, h3, h4, h5⟩ := h
    have hz : t.text.size = 0 := by rw [h2]; rfl
    exact ⟨s.size, h3, by omega, h4, h5, by rw [hz, Nat.add_zero, extract_nil, h2], .inl ⟨h1, hz, rfl, rfl⟩⟩
  | cons u r =>
    obtain ⟨h1, b, h2, h3, h4, h5, h6, h7, h8⟩ := h
    exact ⟨b, h2, h4, h5, h6, h7, .inr ⟨h1, h3, by simp, h8⟩⟩
theorem Placed.low {s : ByteArray} {a a' : Nat} (ha : a' ≤ a) : ∀ {ts : List Tok}, Placed s a ts → Placed s a' ts
  | [], h => h
  | [t], ⟨h1, h2, h3, h4⟩ => ⟨h1, h2, Nat.le_trans ha h3, h4⟩
  | t :: u :: r, ⟨h1, b, h2, h3⟩ => ⟨h1, b, Nat.le_trans ha h2, h3⟩
theorem Placed.up {s : ByteArray} {i : Nat} {t : Tok} {r : List Tok} (h : Placed s i (t :: r)) (hne : ¬ (t.line = (lcAt s i).1 ∧ t.col = (lcAt s i).2)) : Placed s (i + 1) (t :: r) := by
  cases r with
  | nil =>
    obtain ⟨h1, h2, h3, h4, h5⟩ := h
    refine ⟨h1, h2, ?_, h4, h5⟩
    rcases Nat.lt_or_ge i s.size with h6 | h6
    · exact h6
    · exfalso
      obtain rfl : i = s.size := by omega
      exact hne ⟨h4, h5⟩
  | cons u r =>
    obtain ⟨h1, b, h2, h3, h4, h5, h6, h7⟩ := h
    refine ⟨h1, b, ?_, h3, h4, h5, h6, h7⟩
    rcases Nat.lt_or_ge i b with h8 | h8
    · exact h8
    · exfalso
      obtain rfl : i = b := by omega
      exact hne ⟨h5, h6⟩
theorem Placed.last {s : ByteArray} : ∀ {ts : List Tok} {a : Nat}, Placed s a ts → 0 < ts.length ∧ (ts.getD (ts.length - 1) default).kind = 3
  | [], _, h => h.elim
  | [t], _, h => ⟨by simp, h.1⟩
  | t :: u :: r, _, ⟨_, b, _, _, _, _, _, _, h⟩ => by
    have := (Placed.last h).2
    refine ⟨by simp, ?_⟩
    simpa using this
theorem hasPrefix_take : ∀ {l p : List UInt8}, Lib.hasPrefix l p = true → l.take p.length = p
  | l, [], _ => by simp
  | [], _ :: _, h => by simp [Lib.hasPrefix] at h
  | a :: l, b :: p, h => by
    rw [hasPrefix_cons] at h
    simp only [Bool.and_eq_true, beq_iff_eq] at h
    rw [List.length_cons, List.take_succ_cons, hasPrefix_take h.2, h.1]
theorem nextF_place {s : ByteArray} {a : Nat} (ha : a ≤ s.size) (h0 : (nextF s a).2 = 0) : (nextF s a).1.line = (lcAt s a).1 ∧ (nextF s a).1.col = (lcAt s a).2 ∧
    (((nextF s a).1.kind = 3 ∧ (nextF s a).1.text = ⟨#[]⟩ ∧ a = s.size) ∨ ((nextF s a).1.kind ≠ 3 ∧ s.extract a (a + (nextF s a).1.text.size) = (nextF s a).1.text)) := by
  have q := spanN_le (p := letterB) ha
  have hx : (s.extract a (a + spanN letterB s a)).size = spanN letterB s a := by rw [ByteArray.size_extract]; omega
  unfold nextF at h0 ⊢
  split
  · rename_i h; exact ⟨rfl, rfl, .inl ⟨rfl, rfl, h⟩⟩
  · rename_i h
    rw [if_neg h] at h0
    split
    · rename_i h2
      rw [if_pos h2] at h0
      split
      · rename_i h3
        rw [if_pos h3] at h0
        split
        · exact ⟨rfl, rfl, .inr ⟨by simp, by dsimp only; rw [hx]⟩⟩
        · rename_i h4; simp [h4] at h0
      · exact ⟨rfl, rfl, .inr ⟨by simp, by dsimp only; rw [hx]⟩⟩
    · rename_i h2
      rw [if_neg h2] at h0
      split
      · rename_i i hi
        have := sgFindI_some hi
        refine ⟨rfl, rfl, .inr ⟨by simp, ?_⟩⟩
        dsimp only
        refine bytes_ext ?_
        rw [extract_take, sgAt_size, hasPrefix_take this.2.2]
        simp [sgAt]
      · rename_i hi; simp [hi] at h0
theorem lexF_placed (s : ByteArray) : ∀ (f a : Nat) (r : LexA), a ≤ s.size → lexF f s a = some r → r.err = 0 → Placed s a r.toks
  | 0, a, r, _, h, _ => by simp [lexF] at h
  | f + 1, a, r, ha, h, he => by
    obtain ⟨b, hb, h1, h2⟩ := skipF_some s (s.size + 1) a ha (by omega)
    simp only [lexF, hb] at h
    by_cases h0 : (nextF s b).2 = 0
    · rw [if_pos h0] at h
      obtain ⟨p1, p2, p3⟩ := nextF_place h2 h0
      by_cases hk : (nextF s b).1.kind = 3
      · rw [if_pos hk] at h
        obtain rfl := Option.some.inj h
        rcases p3 with ⟨_, p4, p5⟩ | ⟨p4, _⟩
        · exact ⟨hk, p4, ha, by rw [p1, p5], by rw [p2, p5]⟩
        · exact absurd hk p4
      · rw [if_neg hk] at h
        obtain ⟨r3, hr3, rfl⟩ := Option.map_eq_some_iff.1 h
        have hz := nextF_size h2 h0 hk
        have he3 : r3.err = 0 := by
          by_cases e3 : r3.err = 0
          · exact e3
          · exfalso; apply e3; unfold LexA.cons at he; rw [if_neg e3] at he; exact he
        have e1 : (LexA.cons (nextF s b).1 r3).toks = (nextF s b).1 :: r3.toks := by unfold LexA.cons; rw [if_pos he3]
        rw [e1]
        have ih := lexF_placed s f _ r3 hz.2 hr3 he3
        rcases p3 with ⟨p4, _⟩ | ⟨p4, p5⟩
        · exact absurd p4 hk
        · cases hr : r3.toks with
          | nil => rw [hr] at ih; exact ih.elim
          | cons u q => rw [hr] at ih; exact ⟨hk, b, h1, hz.1, hz.2, p1, p2, p5, ih⟩
    · rw [if_neg h0] at h
      obtain rfl := Option.some.inj h
      exact absurd he h0
theorem lexR_placed (s : ByteArray) (hs : s.size ≤ 65536) (he : (lexR s).err = 0) : Placed s 0 (lexR s).toks := by
  obtain ⟨r, hr⟩ := lexF_some s (s.size + 1) 0 (Nat.zero_le _) (by omega)
  have hlr : lexR s = r := by unfold lexR; rw [if_neg (by omega), hr]; rfl
  rw [hlr] at he ⊢
  exact lexF_placed s _ 0 r (Nat.zero_le _) hr he
theorem lcAt_succ (s : ByteArray) (i : Nat) : lcAt s (i + 1) = stepLC (byteAt s i) (lcAt s i) := by
  have h := lcI_add s 0 (1, 1) i 1
  unfold lcAt
  rw [← h, Nat.zero_add]
  rfl
/-- Another byte, another place. -/
theorem lcAt_lt (s : ByteArray) (i : Nat) : ∀ d : Nat, (lcAt s i).1 < (lcAt s (i + (d + 1))).1 ∨ ((lcAt s i).1 = (lcAt s (i + (d + 1))).1 ∧ (lcAt s i).2 < (lcAt s (i + (d + 1))).2)
  | 0 => by
    rw [lcAt_succ]
    unfold stepLC
    split
    · left; dsimp only; omega
    · right; dsimp only; exact ⟨rfl, by omega⟩
  | d + 1 => by
    have ih := lcAt_lt s i d
    rw [show i + (d + 1 + 1) = (i + (d + 1)) + 1 by omega, lcAt_succ s (i + (d + 1))]
    unfold stepLC
    split
    · left; dsimp only; rcases ih with h | h <;> omega
    · dsimp only; rcases ih with h | h <;> omega
end Go.Proofs.YtdimhoilfopndaaDoor
