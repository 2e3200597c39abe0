/- The document's Bind: how tight an operator binds. No condition. -/
import Derived.Test.YtdimhoilfopndaaGreatDoorA14
set_option linter.unusedVariables false
set_option linter.unusedSimpArgs false
section
namespace Go.Proofs.YtdimhoilfopndaaGreatDoor
open Go.RowKit
def opsB : List (List UInt8 × Int) := [([124, 124], 1), ([38, 38], 2), ([124], 3), ([94], 4), ([38], 5), ([61, 61], 6), ([33, 61], 6), ([60], 7), ([60, 61], 7), ([62], 7), ([62, 61], 7), ([60, 60], 8), ([62, 62], 8), ([43], 9), ([45], 9), ([42], 10), ([47], 10), ([37], 10)]
def bindL (l : List UInt8) : List (List UInt8 × Int) → Int
 | [] => 0
 | (x, k) :: r => if l == x then k else bindL l r
def bindF (op : ByteArray) : Int := bindL op.toList opsB
set_option maxRecDepth 20000 in
set_option maxHeartbeats 1600000 in
theorem Bind_gives (op : ByteArray) (w : World) : Gives Tryz.prog 16 #[.string op] w (.int .i64 (bindF op)) := by
 unfold Gives
 obtain ⟨r, hr⟩ : ∃ r, r = bindF op := ⟨_, rfl⟩
 rw [← hr]
 unfold bindF opsB at hr
 simp only [bindL] at hr
 have HR := hid hr
 clear hr
 go_enter Tryz.func16, Tryz.ntmps16
 cases h0 : (op.toList == [124, 124])
 rotate_left
 ·
  go_wp2_with fail
  exact bodyPost_ret (v := .int .i64 1) (by simp [results, Tryz.results16, go_sem, ↓IntWalk.iteOmega]) rfl ⟨by rw [HR.out]; simp only [h0, Bool.false_eq_true, ↓reduceIte], IsOv.refl _⟩
 cases h1 : (op.toList == [38, 38])
 rotate_left
 ·
  go_wp2_with fail
  exact bodyPost_ret (v := .int .i64 2) (by simp [results, Tryz.results16, go_sem, ↓IntWalk.iteOmega]) rfl ⟨by rw [HR.out]; simp only [h0, h1, Bool.false_eq_true, ↓reduceIte], IsOv.refl _⟩
 cases h2 : (op.toList == [124])
 rotate_left
 ·
  go_wp2_with fail
  exact bodyPost_ret (v := .int .i64 3) (by simp [results, Tryz.results16, go_sem, ↓IntWalk.iteOmega]) rfl ⟨by rw [HR.out]; simp only [h0, h1, h2, Bool.false_eq_true, ↓reduceIte], IsOv.refl _⟩
 cases h3 : (op.toList == [94])
 rotate_left
 ·
  go_wp2_with fail
  exact bodyPost_ret (v := .int .i64 4) (by simp [results, Tryz.results16, go_sem, ↓IntWalk.iteOmega]) rfl ⟨by rw [HR.out]; simp only [h0, h1, h2, h3, Bool.false_eq_true, ↓reduceIte], IsOv.refl _⟩
 cases h4 : (op.toList == [38])
 rotate_left
 ·
  go_wp2_with fail
  exact bodyPost_ret (v := .int .i64 5) (by simp [results, Tryz.results16, go_sem, ↓IntWalk.iteOmega]) rfl ⟨by rw [HR.out]; simp only [h0, h1, h2, h3, h4, Bool.false_eq_true, ↓reduceIte], IsOv.refl _⟩
 cases h5 : (op.toList == [61, 61])
 rotate_left
 ·
  go_wp2_with fail
  exact bodyPost_ret (v := .int .i64 6) (by simp [results, Tryz.results16, go_sem, ↓IntWalk.iteOmega]) rfl ⟨by rw [HR.out]; simp only [h0, h1, h2, h3, h4, h5, Bool.false_eq_true, ↓reduceIte], IsOv.refl _⟩
 cases h6 : (op.toList == [33, 61])
 rotate_left
 ·
  go_wp2_with fail
  exact bodyPost_ret (v := .int .i64 6) (by simp [results, Tryz.results16, go_sem, ↓IntWalk.iteOmega]) rfl ⟨by rw [HR.out]; simp only [h0, h1, h2, h3, h4, h5, h6, Bool.false_eq_true, ↓reduceIte], IsOv.refl _⟩
 cases h7 : (op.toList == [60])
 rotate_left
 ·
  go_wp2_with fail
  exact bodyPost_ret (v := .int .i64 7) (by simp [results, Tryz.results16, go_sem, ↓IntWalk.iteOmega]) rfl ⟨by rw [HR.out]; simp only [h0, h1, h2, h3, h4, h5, h6, h7, Bool.false_eq_true, ↓reduceIte], IsOv.refl _⟩
 cases h8 : (op.toList == [60, 61])
 rotate_left
 ·
  go_wp2_with fail
  exact bodyPost_ret (v := .int .i64 7) (by simp [results, Tryz.results16, go_sem, ↓IntWalk.iteOmega]) rfl ⟨by rw [HR.out]; simp only [h0, h1, h2, h3, h4, h5, h6, h7, h8, Bool.false_eq_true, ↓reduceIte], IsOv.refl _⟩
 cases h9 : (op.toList == [62])
 rotate_left
 ·
  go_wp2_with fail
  exact bodyPost_ret (v := .int .i64 7) (by simp [results, Tryz.results16, go_sem, ↓IntWalk.iteOmega]) rfl ⟨by rw [HR.out]; simp only [h0, h1, h2, h3, h4, h5, h6, h7, h8, h9, Bool.false_eq_true, ↓reduceIte], IsOv.refl _⟩
 cases h10 : (op.toList == [62, 61])
 rotate_left
 ·
  go_wp2_with fail
  exact bodyPost_ret (v := .int .i64 7) (by simp [results, Tryz.results16, go_sem, ↓IntWalk.iteOmega]) rfl ⟨by rw [HR.out]; simp only [h0, h1, h2, h3, h4, h5, h6, h7, h8, h9, h10, Bool.false_eq_true, ↓reduceIte], IsOv.refl _⟩
 cases h11 : (op.toList == [60, 60])
 rotate_left
 ·
  go_wp2_with fail
  exact bodyPost_ret (v := .int .i64 8) (by simp [results, Tryz.results16, go_sem, ↓IntWalk.iteOmega]) rfl ⟨by rw [HR.out]; simp only [h0, h1, h2, h3, h4, h5, h6, h7, h8, h9, h10, h11, Bool.false_eq_true, ↓reduceIte], IsOv.refl _⟩
 cases h12 : (op.toList == [62, 62])
 rotate_left
 ·
  go_wp2_with fail
  exact bodyPost_ret (v := .int .i64 8) (by simp [results, Tryz.results16, go_sem, ↓IntWalk.iteOmega]) rfl ⟨by rw [HR.out]; simp only [h0, h1, h2, h3, h4, h5, h6, h7, h8, h9, h10, h11, h12, Bool.false_eq_true, ↓reduceIte], IsOv.refl _⟩
 cases h13 : (op.toList == [43])
 rotate_left
 ·
  go_wp2_with fail
  exact bodyPost_ret (v := .int .i64 9) (by simp [results, Tryz.results16, go_sem, ↓IntWalk.iteOmega]) rfl ⟨by rw [HR.out]; simp only [h0, h1, h2, h3, h4, h5, h6, h7, h8, h9, h10, h11, h12, h13, Bool.false_eq_true, ↓reduceIte], IsOv.refl _⟩
 cases h14 : (op.toList == [45])
 rotate_left
 ·
  go_wp2_with fail
  exact bodyPost_ret (v := .int .i64 9) (by simp [results, Tryz.results16, go_sem, ↓IntWalk.iteOmega]) rfl ⟨by rw [HR.out]; simp only [h0, h1, h2, h3, h4, h5, h6, h7, h8, h9, h10, h11, h12, h13, h14, Bool.false_eq_true, ↓reduceIte], IsOv.refl _⟩
 cases h15 : (op.toList == [42])
 rotate_left
 ·
  go_wp2_with fail
  exact bodyPost_ret (v := .int .i64 10) (by simp [results, Tryz.results16, go_sem, ↓IntWalk.iteOmega]) rfl ⟨by rw [HR.out]; simp only [h0, h1, h2, h3, h4, h5, h6, h7, h8, h9, h10, h11, h12, h13, h14, h15, Bool.false_eq_true, ↓reduceIte], IsOv.refl _⟩
 cases h16 : (op.toList == [47])
 rotate_left
 ·
  go_wp2_with fail
  exact bodyPost_ret (v := .int .i64 10) (by simp [results, Tryz.results16, go_sem, ↓IntWalk.iteOmega]) rfl ⟨by rw [HR.out]; simp only [h0, h1, h2, h3, h4, h5, h6, h7, h8, h9, h10, h11, h12, h13, h14, h15, h16, Bool.false_eq_true, ↓reduceIte], IsOv.refl _⟩
 cases h17 : (op.toList == [37])
 rotate_left
 ·
  go_wp2_with fail
  exact bodyPost_ret (v := .int .i64 10) (by simp [results, Tryz.results16, go_sem, ↓IntWalk.iteOmega]) rfl ⟨by rw [HR.out]; simp only [h0, h1, h2, h3, h4, h5, h6, h7, h8, h9, h10, h11, h12, h13, h14, h15, h16, h17, Bool.false_eq_true, ↓reduceIte], IsOv.refl _⟩
 go_wp2_with fail
 exact bodyPost_ret (v := .int .i64 0) (by simp [results, Tryz.results16, go_sem, ↓IntWalk.iteOmega]) rfl ⟨by rw [HR.out]; simp only [h0, h1, h2, h3, h4, h5, h6, h7, h8, h9, h10, h11, h12, h13, h14, h15, h16, h17, Bool.false_eq_true, ↓reduceIte], IsOv.refl _⟩
end Go.Proofs.YtdimhoilfopndaaGreatDoor
end
