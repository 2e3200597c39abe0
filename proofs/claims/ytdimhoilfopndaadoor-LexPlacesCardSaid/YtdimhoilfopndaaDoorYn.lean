/- The anchor of the laws of layer 2: it is true. Condition: the tables lie as the program lays them. -/
import Derived.Test.YtdimhoilfopndaaDoorYl
set_option linter.unusedVariables false
set_option linter.unusedSimpArgs false
namespace Go.Proofs.YtdimhoilfopndaaDoor
open Go.RowKit
set_option maxRecDepth 100000 in
theorem lex_t1 : lexR ⟨#[120, 32, 61, 32, 48, 120, 49, 70, 59, 32, 47, 47, 32, 121]⟩ = ⟨[⟨0, ⟨#[120]⟩, 0, 1, 1⟩, ⟨2, ⟨#[61]⟩, 0, 1, 3⟩, ⟨1, ⟨#[48, 120, 49, 70]⟩, 31, 1, 5⟩, ⟨2, ⟨#[59]⟩, 0, 1, 9⟩, ⟨3, ⟨#[]⟩, 0, 1, 15⟩], 0, 0, 0⟩ := by kernel_rfl
set_option maxRecDepth 100000 in
theorem lex_t2 : lexR ⟨#[97, 32, 36]⟩ = ⟨[], 1, 3, 20⟩ := by kernel_rfl
set_option maxRecDepth 100000 in
theorem lex_t3 : lexR ⟨#[49, 50, 122]⟩ = ⟨[], 1, 1, 21⟩ := by kernel_rfl
theorem ownsRow_nilEq {w : World} {base : Nat} {e : TypeId} {size : Nat} {v : Value} {xs : List Value} (h : w.ownsRow base e size v 0 xs) : True := trivial
theorem addr_add0 (g j : Nat) : (⟨g, 0, none⟩ : Addr).add j = ⟨g, j, none⟩ := by unfold Addr.add; split <;> simp_all
theorem kw_while : kwB (⟨#[119, 104, 105, 108, 101]⟩ : ByteArray).data.toList = true := by decide
set_option maxHeartbeats 400000 in
theorem awake_gives (w : World) (hL : LaidX w) : Gives Tryd.prog 7 #[] w (.bool true) := by
  unfold Gives
  go_enter Tryd.func7, Tryd.ntmps7
  go_wp2_with fail
  refine (Lex_calls _ ⟨#[120, 32, 61, 32, 48, 120, 49, 70, 59, 32, 47, 47, 32, 121]⟩ (hL.of_isOv (by repeat (first | with_reducible exact IsOv.refl _ | with_reducible apply IsOv.dr | with_reducible apply IsOv.drewN | with_reducible apply IsOv.drew | with_reducible apply IsOv.alloc | with_reducible apply IsOv.ov)))).mono ?_
  rw [lex_t1]
  rintro e w1 ⟨v, rfl, hov1, hown1⟩
  obtain ⟨g, cap, rfl, hg0, hg1⟩ := hown1.form (by decide)
  have hcell := hown1.cells (g := g) rfl
  clear hown1
  have q := fun (j : Nat) (u : Value) (h : _) => (by have := hcell j u h; rwa [addr_add0] at this : w1.cell? ⟨g, j, none⟩ = some u)
  have f10 := q 10 (.int .i64 1) rfl
  have f11 := q 11 (.string ⟨#[48, 120, 49, 70]⟩) rfl
  have f12 := q 12 (.int .u64 31) rfl
  have f13 := q 13 (.int .i64 1) rfl
  have f14 := q 14 (.int .i64 5) rfl
  have f20 := q 20 (.int .i64 3) rfl
  have f21 := q 21 (.string ⟨#[]⟩) rfl
  have f22 := q 22 (.int .u64 0) rfl
  have f23 := q 23 (.int .i64 1) rfl
  have f24 := q 24 (.int .i64 15) rfl
  clear q hcell
  go_wp2_with fail
  refine (Lex_calls _ ⟨#[97, 32, 36]⟩ (hL.of_isOv (hov1.trans (by repeat (first | with_reducible exact IsOv.refl _ | with_reducible apply IsOv.dr | with_reducible apply IsOv.drewN | with_reducible apply IsOv.drew | with_reducible apply IsOv.alloc | with_reducible apply IsOv.ov))))).mono ?_
  rw [lex_t2]
  rintro e w2 ⟨v2, rfl, hov2, hown2⟩
  go_wp2_with fail
  refine (Lex_calls _ ⟨#[49, 50, 122]⟩ (hL.of_isOv (hov1.trans hov2))).mono ?_
  rw [lex_t3]
  rintro e w3 ⟨v3, rfl, hov3, hown3⟩
  have hov4 : IsOv w w3 := hov1.trans (hov2.trans hov3)
  have hL3 := hL.of_isOv hov4
  have hov5 := hov2.trans hov3
  have g10 := hov5.cell f10
  have g11 := hov5.cell f11
  have g12 := hov5.cell f12
  have g13 := hov5.cell f13
  have g14 := hov5.cell f14
  have g20 := hov5.cell f20
  have g21 := hov5.cell f21
  have g22 := hov5.cell f22
  have g23 := hov5.cell f23
  have g24 := hov5.cell f24
  have hg3 : g < w3.heap.size := block_lt_of_cell (a := ⟨g, 10, none⟩) g10
  clear hov1 hov2 hov3 hov5 hown2 hown3 f10 f11 f12 f13 f14 f20 f21 f22 f23 f24 hg0 hg1
  go_wp2_with fail
  refine (Keyword_says _ w3 hL3).gives.mono ?_
  rw [kw_while]
  rintro e w4 ⟨rfl, hov5⟩
  go_wp2_with fail
  exact bodyPost_ret (v := .bool true) (by simp [results, Tryd.results7, go_sem, ↓IntWalk.iteOmega]) rfl ⟨rfl, hov4.trans (hov5.trans (by repeat (first | with_reducible exact IsOv.refl _ | with_reducible apply IsOv.dr | with_reducible apply IsOv.drewN | with_reducible apply IsOv.drew | with_reducible apply IsOv.alloc | with_reducible apply IsOv.ov)))⟩
end Go.Proofs.YtdimhoilfopndaaDoor
