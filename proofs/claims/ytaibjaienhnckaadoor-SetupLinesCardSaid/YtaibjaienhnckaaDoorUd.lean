/- Layer 22's reference: a line, as a plain function. No condition. -/
import Derived.Test.YtaibjaienhnckaaDoorUb
set_option linter.unusedVariables false
set_option linter.unusedSimpArgs false
namespace Go.Proofs.YtaibjaienhnckaaDoor
open Go.RowKit
def wB (k : Nat) : ByteArray := ⟨(entL.getD k ([], 0, 0)).1.toArray⟩
theorem words_k (w : World) (k : Nat) (hk : k < 6) : Calls Tryd.prog 25 #[] w fun e w' => e = .returned (.slice (some ⟨w.heap.size, 0, none⟩) 6 6) ∧ IsOv w w' ∧ w'.cell? ⟨w.heap.size, k, none⟩ = some (.string (wB k)) := by
  refine (words_calls w).mono ?_
  rintro e w' ⟨rfl, rfl⟩
  refine ⟨rfl, (IsOv.refl w).alloc _, ?_⟩
  rw [World.cell_alloc_cells, if_neg (Nat.lt_irrefl _), if_pos rfl]
  have hk7 : k = 0 ∨ k = 1 ∨ k = 2 ∨ k = 3 ∨ k = 4 ∨ k = 5 := by omega
  rcases hk7 with rfl | rfl | rfl | rfl | rfl | rfl <;> rfl
/-- A number's word and the blank behind it. -/
def wK (k : Nat) : ByteArray := wB k ++ ⟨#[32]⟩
def preB (k : Nat) (s : ByteArray) : Bool := decide ((wB k).size + 1 ≤ s.size) && ((s.extract 0 ((wB k).size + 1)).toList == (wK k).toList)
def idxR (s : ByteArray) : Option Nat := [0, 1, 2, 3, 4, 5].find? (fun k => preB k s)
def turnedB : ByteArray := ⟨#[116, 117, 114, 110, 101, 100]⟩
def lineR (c : Cfg) (s : ByteArray) : Cfg × Int × Int :=
  if s.toList == turnedW then ({ c with t := true }, 6, 0)
  else match idxR s with
    | none => (c, -1, 220)
    | some k => match numR (s.extract ((wB k).size + 1) s.size).data.toList with
      | none => (c, -1, 220)
      | some v => if v < loN k ∨ hiN k < v then (c, k, 221) else (c.set k v, k, 0)
theorem idxR_some {s : ByteArray} {k : Nat} (hk : k < 6) (h : ∀ j, j < k → preB j s = false) (h2 : preB k s = true) : idxR s = some k := by
  unfold idxR
  have hk7 : k = 0 ∨ k = 1 ∨ k = 2 ∨ k = 3 ∨ k = 4 ∨ k = 5 := by omega
  rcases hk7 with rfl | rfl | rfl | rfl | rfl | rfl
  · simp [h2]
  · simp [h2, h 0 (by decide)]
  · simp [h2, h 0 (by decide), h 1 (by decide)]
  · simp [h2, h 0 (by decide), h 1 (by decide), h 2 (by decide)]
  · simp [h2, h 0 (by decide), h 1 (by decide), h 2 (by decide), h 3 (by decide)]
  · simp [h2, h 0 (by decide), h 1 (by decide), h 2 (by decide), h 3 (by decide), h 4 (by decide)]
theorem idxR_none {s : ByteArray} (h : ∀ j, j < 6 → preB j s = false) : idxR s = none := by
  unfold idxR
  simp [h 0 (by decide), h 1 (by decide), h 2 (by decide), h 3 (by decide), h 4 (by decide), h 5 (by decide)]
theorem pre_next {s : ByteArray} {k : Nat} (h : ∀ j, j < k → preB j s = false) (h2 : preB k s = false) : ∀ j, j < k + 1 → preB j s = false := fun j hj => by
  rcases Nat.lt_or_ge j k with h3 | h3
  · exact h j h3
  · obtain rfl : j = k := by omega
    exact h2
theorem wB_size (k : Nat) (hk : k < 6) : (wB k).size ≤ 9 := by
  have hk7 : k = 0 ∨ k = 1 ∨ k = 2 ∨ k = 3 ∨ k = 4 ∨ k = 5 := by omega
  rcases hk7 with rfl | rfl | rfl | rfl | rfl | rfl <;> decide
theorem wK_size (k : Nat) : (wK k).size = (wB k).size + 1 := by unfold wK; rw [ByteArray.size_append]; rfl
theorem lineR_turned {s : ByteArray} (c : Cfg) (h : (s.toList == turnedW) = true) : lineR c s = ({ c with t := true }, 6, 0) := by unfold lineR; rw [if_pos h]
theorem lineR_form {s : ByteArray} (c : Cfg) (h : (s.toList == turnedW) = false) (hi : idxR s = none) : lineR c s = (c, -1, 220) := by unfold lineR; rw [h, if_neg Bool.false_ne_true, hi]
theorem lineR_noNum {s : ByteArray} (c : Cfg) {k : Nat} (h : (s.toList == turnedW) = false) (hi : idxR s = some k) (hn : numR (s.extract ((wB k).size + 1) s.size).data.toList = none) : lineR c s = (c, -1, 220) := by
  unfold lineR; rw [h, if_neg Bool.false_ne_true, hi]; simp only [hn]
theorem lineR_num {s : ByteArray} (c : Cfg) {k : Nat} {v : Int} (h : (s.toList == turnedW) = false) (hi : idxR s = some k) (hn : numR (s.extract ((wB k).size + 1) s.size).data.toList = some v) : lineR c s = if v < loN k ∨ hiN k < v then (c, (k : Int), 221) else (c.set k v, (k : Int), 0) := by
  unfold lineR; rw [h, if_neg Bool.false_ne_true, hi]; simp only [hn]
end Go.Proofs.YtaibjaienhnckaaDoor
