/- Plain laws on the numbers of a few widths: which types may be, what Norm and Int come to; word.Do as one law. No program's text beyond the words' own. -/
import Derived.Test.YtggelmnahggdgaaDoorWc
import Derived.Laws.Bits64
set_option linter.unusedVariables false
set_option linter.unusedSimpArgs false
namespace Go.Proofs.YtggelmnahggdgaaDoor
open Go.RowKit

theorem tyEq_iff (a : Int) (b : Bool) (c : Int) (d : Bool) : tyEq a b c d = true ↔ a = c ∧ b = d := by simp [tyEq]
theorem okT_iff (wd : Int) (sg : Bool) : okT wd sg = true ↔ (wd = 1 ∧ sg = false) ∨ wd = 8 ∨ wd = 16 ∨ wd = 32 ∨ wd = 64 := by
  unfold okT tyName
  simp only [tyEq_iff]
  constructor
  · intro h
    repeat' (split at h)
    all_goals first | omega | (rename_i h1; obtain ⟨h1, h2⟩ := h1; subst h1; simp_all; done) | simp at h
  · intro h
    rcases h with ⟨rfl, rfl⟩ | rfl | rfl | rfl | rfl
    · decide +kernel
    all_goals (cases sg <;> decide +kernel)
/-- One more than the greatest value. -/
def M (wd : Int) : Int := if wd = 1 then 2 else if wd = 8 then 256 else if wd = 16 then 65536 else if wd = 32 then 4294967296 else 18446744073709551616
/-- A number of 64 bits. -/
def U64 (v : Int) : Prop := 0 ≤ v ∧ v < 18446744073709551616

theorem wraps_u64 (n : Int) (h₀ : 0 ≤ n) (h₁ : n < 2 ^ 64) : IntKind.u64.wrap n = n := by rw [IntKind.wrap_u64]; omega
theorem mk_1 : mk 1 = 2 ^ 1 - 1 := by decide +kernel
theorem mk_8 : mk 8 = 2 ^ 8 - 1 := by decide +kernel
theorem mk_16 : mk 16 = 2 ^ 16 - 1 := by decide +kernel
theorem mk_32 : mk 32 = 2 ^ 32 - 1 := by decide +kernel
theorem mk_64 : mk 64 = 2 ^ 64 - 1 := by decide +kernel
theorem and_mask (i : Nat) (hi : i ≤ 64) (v : Int) (h : U64 v) : bits .and .u64 v (2 ^ i - 1) = v % 2 ^ i :=
  bits_mask .u64 64 (by decide) wraps_u64 i hi v h.1 (by have := h.2; omega)
theorem nrm_eq {wd : Int} {sg : Bool} {v : Int} (hT : okT wd sg = true) (h : U64 v) : nrm wd sg v = v % M wd := by
  unfold nrm
  rw [if_pos hT]
  rcases (okT_iff wd sg).1 hT with ⟨rfl, rfl⟩ | rfl | rfl | rfl | rfl
  · rw [mk_1, and_mask 1 (by decide) v h]; rfl
  · rw [mk_8, and_mask 8 (by decide) v h]; rfl
  · rw [mk_16, and_mask 16 (by decide) v h]; rfl
  · rw [mk_32, and_mask 32 (by decide) v h]; rfl
  · rw [mk_64, and_mask 64 (by decide) v h]; rfl
theorem M_pos {wd : Int} {sg : Bool} (hT : okT wd sg = true) : 2 ≤ M wd ∧ M wd ≤ 18446744073709551616 := by
  rcases (okT_iff wd sg).1 hT with ⟨rfl, rfl⟩ | rfl | rfl | rfl | rfl <;> decide
theorem nrm_range {wd : Int} {sg : Bool} {v : Int} (hT : okT wd sg = true) (h : U64 v) : 0 ≤ nrm wd sg v ∧ nrm wd sg v < M wd := by
  rw [nrm_eq hT h]
  have := M_pos hT
  exact ⟨Int.emod_nonneg _ (by omega), Int.emod_lt_of_pos _ (by omega)⟩
theorem nrm_u64 {wd : Int} {sg : Bool} {v : Int} (h : U64 v) : U64 (nrm wd sg v) := by
  cases hT : okT wd sg
  · simp [nrm, hT, U64]
  · have := nrm_range hT h; have := M_pos hT; exact ⟨by omega, by omega⟩
theorem nrm_nrm {wd : Int} {sg : Bool} {v : Int} (hT : okT wd sg = true) (h : U64 v) : nrm wd sg (nrm wd sg v) = nrm wd sg v := by
  rw [nrm_eq hT (nrm_u64 h), nrm_eq hT h, Int.emod_emod]

theorem not_bits (a : Int) (h : U64 a) : bits .xor .u64 IntKind.u64.max a = 18446744073709551615 - a := by
  obtain ⟨n, rfl⟩ := Int.eq_ofNat_of_zero_le h.1
  have hn : n < 18446744073709551616 := by have := h.2; omega
  have e : IntKind.u64.max = ((2 ^ 64 - 1 : Nat) : Int) := by decide +kernel
  rw [e, bits_xor_u64_nat _ _ (by decide) hn]
  have : (2 ^ 64 - 1) ^^^ n = 2 ^ 64 - 1 - n := by
    apply Nat.eq_of_testBit_eq
    intro i
    rw [Nat.testBit_xor, Nat.testBit_two_pow_sub_one, show 2 ^ 64 - 1 - n = 2 ^ 64 - (n + 1) from by omega, Nat.testBit_two_pow_sub_succ (by omega)]
    by_cases hi : i < 64
    · simp [hi]
    · have : n.testBit i = false := Nat.testBit_lt_two_pow (Nat.lt_of_lt_of_le hn (show 2 ^ 64 ≤ 2 ^ i from Nat.pow_le_pow_right (by decide) (by omega)))
      simp [hi, this]
  rw [this]
  omega

theorem or_join (i : Nat) (hi : i ≤ 64) (X y : Int) (hX : 0 ≤ X) (hX1 : X % 2 ^ i = 0) (hX2 : X < 2 ^ 64) (hy : 0 ≤ y) (hy1 : y < 2 ^ i) : bits .or .u64 y X = X + y := by
  have hp : (2 : Int) ^ i ≤ 2 ^ 64 := by exact_mod_cast Nat.pow_le_pow_right (n := 2) (by decide) hi
  have h := bits_join .u64 64 (by decide) wraps_u64 i X y hX hX1 hX2 hy hy1 (by omega)
  obtain ⟨a, rfl⟩ := Int.eq_ofNat_of_zero_le hX
  obtain ⟨b, rfl⟩ := Int.eq_ofNat_of_zero_le hy
  have ha : a < 2 ^ 64 := by exact_mod_cast hX2
  have hb : b < 2 ^ 64 := by have := Int.lt_of_lt_of_le hy1 hp; exact_mod_cast this
  rw [(bits_nat .u64 64 (by decide) wraps_u64 b a hb ha).2, Nat.or_comm, ← (bits_nat .u64 64 (by decide) wraps_u64 a b ha hb).2]
  exact h
theorem sgb_8 (x : Int) : sgb 8 x = (x / 128 == 1) := by unfold sgb; rw [show (2 : Int) ^ min (IntKind.u64.wrap (wrap64 (8 - 1))).toNat 64 = 128 from by decide +kernel]
theorem sgb_16 (x : Int) : sgb 16 x = (x / 32768 == 1) := by unfold sgb; rw [show (2 : Int) ^ min (IntKind.u64.wrap (wrap64 (16 - 1))).toNat 64 = 32768 from by decide +kernel]
theorem sgb_32 (x : Int) : sgb 32 x = (x / 2147483648 == 1) := by unfold sgb; rw [show (2 : Int) ^ min (IntKind.u64.wrap (wrap64 (32 - 1))).toNat 64 = 2147483648 from by decide +kernel]
theorem sgb_64 (x : Int) : sgb 64 x = (x / 9223372036854775808 == 1) := by unfold sgb; rw [show (2 : Int) ^ min (IntKind.u64.wrap (wrap64 (64 - 1))).toNat 64 = 9223372036854775808 from by decide +kernel]
theorem sint_u (wd v : Int) : sint wd false v = wrap64 (nrm wd false v) := by simp [sint]
/-- What a value with a sign stands for. -/
theorem sint_s {wd v : Int} (hT : okT wd true = true) (h : U64 v) : sint wd true v = if M wd / 2 ≤ nrm wd true v then nrm wd true v - M wd else nrm wd true v := by
  have hr := nrm_range hT h
  have hu := nrm_u64 (wd := wd) (sg := true) h
  unfold sint
  rw [hT]
  generalize nrm wd true v = x at *
  obtain ⟨h0, h1⟩ := hr
  have key : ∀ i : Nat, i ≤ 64 → mk wd = 2 ^ i - 1 → M wd = 2 ^ i → sgb wd x = decide (M wd / 2 ≤ x) → M wd / 2 ≤ 9223372036854775808 → (18446744073709551616 - M wd) % M wd = 0 → M wd ≤ 18446744073709551616 → M wd / 2 + M wd / 2 = M wd → 0 < M wd →
      (if (true && (true && sgb wd x)) = true then wrap64 (bits BinOp.or IntKind.u64 x (bits BinOp.xor IntKind.u64 IntKind.u64.max (mk wd))) else wrap64 x) = if M wd / 2 ≤ x then x - M wd else x := by
    intro i hi hm hM hs hh hmod hle heven hpos
    rw [hs]
    by_cases hc : M wd / 2 ≤ x
    · simp only [hc, decide_true, Bool.and_self, if_true]
      rw [hm, not_bits _ ⟨by rw [← hM]; omega, by rw [← hM]; omega⟩, or_join i hi _ x (by rw [← hM]; omega) (by rw [← hM, show 18446744073709551615 - (M wd - 1) = 18446744073709551616 - M wd by omega]; exact hmod) (by rw [← hM]; omega) h0 (by rw [← hM]; exact h1), ← hM]
      unfold wrap64
      omega
    · simp only [hc, decide_false, Bool.and_false, if_false, Bool.false_eq_true]
      unfold wrap64
      omega
  rcases (okT_iff wd true).1 hT with ⟨_, h⟩ | rfl | rfl | rfl | rfl
  · cases h
  · exact key 8 (by decide) mk_8 rfl (by rw [sgb_8, show M 8 = 256 from rfl] at *; rw [Bool.eq_iff_iff]; simp; omega) (by decide) (by decide) (by decide) (by decide) (by decide)
  · exact key 16 (by decide) mk_16 rfl (by rw [sgb_16, show M 16 = 65536 from rfl] at *; rw [Bool.eq_iff_iff]; simp; omega) (by decide) (by decide) (by decide) (by decide) (by decide)
  · exact key 32 (by decide) mk_32 rfl (by rw [sgb_32, show M 32 = 4294967296 from rfl] at *; rw [Bool.eq_iff_iff]; simp; omega) (by decide) (by decide) (by decide) (by decide) (by decide)
  · exact key 64 (by decide) mk_64 rfl (by rw [sgb_64, show M 64 = 18446744073709551616 from rfl] at *; rw [Bool.eq_iff_iff]; simp; omega) (by decide) (by decide) (by decide) (by decide) (by decide)
theorem sint_zero {wd : Int} {sg : Bool} {v : Int} (hT : okT wd sg = true) (h : U64 v) : sint wd sg v = 0 ↔ nrm wd sg v = 0 := by
  have hr := nrm_range hT h
  have hu := nrm_u64 (wd := wd) (sg := sg) h
  have hM := M_pos hT
  cases sg
  · rw [sint_u]; unfold wrap64; have := hu.2; omega
  · rw [sint_s hT h]; split <;> omega
end Go.Proofs.YtggelmnahggdgaaDoor
