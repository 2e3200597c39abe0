/- Bits of a number, the lowest first, and the number of bits. No condition. -/
import Derived.Test.YtggelmnahggdgaaDoorWg
set_option linter.unusedVariables false
set_option linter.unusedSimpArgs false
namespace Go.Proofs.YtggelmnahggdgaaDoor
open Go.RowKit
def bitsL : Int → Nat → List Bool
  | _, 0 => []
  | v, n + 1 => (v % 2 == 1) :: bitsL (v / 2) n
def valL : List Bool → Int
  | [] => 0
  | b :: l => (if b then 1 else 0) + 2 * valL l
theorem bitsL_length (n : Nat) : ∀ v, (bitsL v n).length = n := by
  induction n with
  | zero => intro v; rfl
  | succ n ih => intro v; simp [bitsL, ih]
theorem valL_range : ∀ l, 0 ≤ valL l ∧ valL l < 2 ^ l.length
  | [] => by simp [valL]
  | b :: l => by
    have ih := valL_range l
    simp only [valL, List.length_cons, Int.pow_succ]
    split <;> omega
theorem valL_bits (n : Nat) : ∀ v : Int, valL (bitsL v n) = v % 2 ^ n := by
  induction n with
  | zero => intro v; simp [bitsL, valL, Int.emod_one]
  | succ n ih =>
    intro v
    simp only [bitsL, valL, ih]
    have h2 : v % 2 ^ (n + 1) = v % 2 + 2 * (v / 2 % 2 ^ n) := by
      have hp : (0 : Int) < 2 ^ n := Int.pow_pos (by decide)
      rw [Int.pow_succ, Int.mul_comm, Int.emod_def v (2 * 2 ^ n), Int.emod_def (v / 2), Int.emod_def v 2, Int.ediv_ediv_of_nonneg (by decide)]
      rw [Int.mul_sub, ← Int.mul_assoc 2 (2 ^ n)]
      omega
    rw [h2]
    have : v % 2 = 0 ∨ v % 2 = 1 := by omega
    rcases this with h | h <;> simp [h]
theorem valL_append (l m : List Bool) : valL (l ++ m) = valL l + 2 ^ l.length * valL m := by
  induction l with
  | nil => simp [valL]
  | cons b l ih =>
    simp only [List.cons_append, valL, ih, List.length_cons, Int.pow_succ, Int.mul_add]
    rw [Int.mul_comm (2 ^ l.length) 2, Int.mul_assoc]
    omega
theorem valL_replicate (n : Nat) (b : Bool) : valL (List.replicate n b) = if b then 2 ^ n - 1 else 0 := by
  induction n with
  | zero => cases b <;> simp [valL]
  | succ n ih =>
    rw [List.replicate_succ, valL, ih]
    cases b
    · simp
    · simp only [if_true, Int.pow_succ]; omega
/-- Bit number i. -/
theorem bitsL_get (n : Nat) : ∀ (v : Int) (i : Nat), i < n → (bitsL v n).getD i false = (v / 2 ^ i % 2 == 1) := by
  induction n with
  | zero => intro v i h; omega
  | succ n ih =>
    intro v i h
    cases i with
    | zero => simp [bitsL]
    | succ i =>
      rw [bitsL, List.getD_cons_succ, ih _ i (by omega), Int.ediv_ediv_of_nonneg (by decide), Int.pow_succ, Int.mul_comm]
theorem M_pow {wd : Int} {sg : Bool} (hT : okT wd sg = true) : M wd = 2 ^ wd.toNat ∧ 1 ≤ wd ∧ wd ≤ 64 := by
  rcases (okT_iff wd sg).1 hT with ⟨rfl, rfl⟩ | rfl | rfl | rfl | rfl <;> exact ⟨rfl, by decide, by decide⟩
end Go.Proofs.YtggelmnahggdgaaDoor
