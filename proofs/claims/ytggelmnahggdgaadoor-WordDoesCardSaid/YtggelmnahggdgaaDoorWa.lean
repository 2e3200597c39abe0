/- The types' table, and the words word.Name, word.Of, word.Right: what each answers, in every world in which the table lies as the program lays it. No other condition. -/
import Derived.Test.YtggelmnahggdgaaDoorL
namespace Go.Proofs.YtggelmnahggdgaaDoor
open Go.RowKit
def tysCells : Array Value := #[.int .i64 1, .bool false, .string ⟨#[98, 111, 111, 108]⟩, .int .i64 8, .bool false, .string ⟨#[117, 56]⟩, .int .i64 16, .bool false, .string ⟨#[117, 49, 54]⟩, .int .i64 32, .bool false, .string ⟨#[117, 51, 50]⟩, .int .i64 64, .bool false, .string ⟨#[117, 54, 52]⟩, .int .i64 8, .bool true, .string ⟨#[105, 56]⟩, .int .i64 16, .bool true, .string ⟨#[105, 49, 54]⟩, .int .i64 32, .bool true, .string ⟨#[105, 51, 50]⟩, .int .i64 64, .bool true, .string ⟨#[105, 54, 52]⟩]
/-- The tables lie as the program lays them. -/
def Laid (w : World) : Prop := ∀ i : Nat, i < tysCells.size → w.cell? ⟨0, i, none⟩ = tysCells[i]?
theorem Laid.size {w : World} (h : Laid w) : 0 < w.heap.size :=
  block_lt_of_cell (a := ⟨0, 0, none⟩) (h 0 (by decide))
theorem Laid.of_below {w w' : World} (h : Laid w) (hb : Below w.heap.size w w') : Laid w' := fun i hi => by
  rw [hb.cell (p := ⟨0, i, none⟩) h.size]; exact h i hi
@[go_sem] theorem Laid.alloc {w : World} (h : Laid w) (o : Obj) : Laid (w.alloc o) := h.of_below ((IsOv.refl w).alloc o).below
@[go_sem] theorem Laid.ov {w : World} (h : Laid w) (x : Ext) : Laid (w.ov x) := h.of_below ((IsOv.refl w).ov x).below
theorem load_tys {W : World} (h : Laid W) (A : Act) (dst : Option Tmp) (rt : TypeId) (pos : String) (after : Array Edge) (gd : Option (Nat × Bool)) :
    (execOp A.eval ⟨dst, .load 67 (.global 0), rt, pos, after, gd⟩).run Tryd.prog W = .ok (.value (.agg tysCells)) W :=
  run_load_table h Tryd.underlying67 rfl (by kernel_rfl) A dst rt pos after gd
attribute [local go_sem ↓] load_tys
theorem idx0 (w : World) : (Instr.index 67 (.agg tysCells) (.int .i64 0)).run Tryd.prog w = .ok (.agg #[.int .i64 1, .bool false, .string ⟨#[98, 111, 111, 108]⟩]) w := by kernel_rfl
theorem idx1 (w : World) : (Instr.index 67 (.agg tysCells) (.int .i64 1)).run Tryd.prog w = .ok (.agg #[.int .i64 8, .bool false, .string ⟨#[117, 56]⟩]) w := by kernel_rfl
theorem idx2 (w : World) : (Instr.index 67 (.agg tysCells) (.int .i64 2)).run Tryd.prog w = .ok (.agg #[.int .i64 16, .bool false, .string ⟨#[117, 49, 54]⟩]) w := by kernel_rfl
theorem idx3 (w : World) : (Instr.index 67 (.agg tysCells) (.int .i64 3)).run Tryd.prog w = .ok (.agg #[.int .i64 32, .bool false, .string ⟨#[117, 51, 50]⟩]) w := by kernel_rfl
theorem idx4 (w : World) : (Instr.index 67 (.agg tysCells) (.int .i64 4)).run Tryd.prog w = .ok (.agg #[.int .i64 64, .bool false, .string ⟨#[117, 54, 52]⟩]) w := by kernel_rfl
theorem idx5 (w : World) : (Instr.index 67 (.agg tysCells) (.int .i64 5)).run Tryd.prog w = .ok (.agg #[.int .i64 8, .bool true, .string ⟨#[105, 56]⟩]) w := by kernel_rfl
theorem idx6 (w : World) : (Instr.index 67 (.agg tysCells) (.int .i64 6)).run Tryd.prog w = .ok (.agg #[.int .i64 16, .bool true, .string ⟨#[105, 49, 54]⟩]) w := by kernel_rfl
theorem idx7 (w : World) : (Instr.index 67 (.agg tysCells) (.int .i64 7)).run Tryd.prog w = .ok (.agg #[.int .i64 32, .bool true, .string ⟨#[105, 51, 50]⟩]) w := by kernel_rfl
theorem idx8 (w : World) : (Instr.index 67 (.agg tysCells) (.int .i64 8)).run Tryd.prog w = .ok (.agg #[.int .i64 64, .bool true, .string ⟨#[105, 54, 52]⟩]) w := by kernel_rfl
attribute [local go_sem] idx0 idx1 idx2 idx3 idx4 idx5 idx6 idx7 idx8
/-- Are two types the same? -/
def tyEq (a : Int) (b : Bool) (c : Int) (d : Bool) : Bool := a == c && b == d
/-- A type's name; empty: it may not be. -/
def tyName (wd : Int) (sg : Bool) : ByteArray := if tyEq 1 false wd sg then ⟨#[98, 111, 111, 108]⟩ else if tyEq 8 false wd sg then ⟨#[117, 56]⟩ else if tyEq 16 false wd sg then ⟨#[117, 49, 54]⟩ else if tyEq 32 false wd sg then ⟨#[117, 51, 50]⟩ else if tyEq 64 false wd sg then ⟨#[117, 54, 52]⟩ else if tyEq 8 true wd sg then ⟨#[105, 56]⟩ else if tyEq 16 true wd sg then ⟨#[105, 49, 54]⟩ else if tyEq 32 true wd sg then ⟨#[105, 51, 50]⟩ else if tyEq 64 true wd sg then ⟨#[105, 54, 52]⟩ else ⟨#[]⟩
theorem eql_type (a c : Int) (b d : Bool) (w : World) : (binOp .eql 23 (.agg #[.int .i64 a, .bool b]) (.agg #[.int .i64 c, .bool d])).run Tryd.prog w = .ok (.bool (tyEq a b c d)) w := by
  by_cases h1 : a = c <;> by_cases h2 : b = d <;> simp [go_sem, tyEq, h1, h2]
attribute [go_sem high] eql_type
set_option maxHeartbeats 4000000 in
theorem Name_gives (wd : Int) (sg : Bool) (w : World) (hL : Laid w) :
    Gives Tryd.prog 26 #[.agg #[.int .i64 wd, .bool sg]] w (.string (tyName wd sg)) := by
  unfold Gives
  go_enter Tryd.func26, Tryd.ntmps26
  go_wp2
  refine wp_loop_rounds 10 ?_
  iterate 10 (all_goals (try rw [rounds_succ]); go_wp2)
  all_goals
    go_ret
    exact ⟨by simp [tyName, *], by repeat (first | exact IsOv.refl _ | apply IsOv.alloc)⟩
/-- May a type be? -/
def okT (wd : Int) (sg : Bool) : Bool := !(tyName wd sg).toList.isEmpty
set_option maxHeartbeats 4000000 in
theorem Right_gives (wd : Int) (sg : Bool) (w : World) (hL : Laid w) :
    Gives Tryd.prog 22 #[.agg #[.int .i64 wd, .bool sg]] w (.bool (okT wd sg)) := by
  unfold Gives
  go_enter Tryd.func22, Tryd.ntmps22
  go_wp2_with (go_at_call 26; refine (Name_gives _ _ _ (by go_simp)).mono ?_; rintro e w' ⟨rfl, x, rfl⟩)
  go_goals
  go_ret
  exact ⟨by simp [okT], by repeat (first | exact IsOv.refl _ | apply IsOv.alloc | apply IsOv.ov)⟩
end Go.Proofs.YtggelmnahggdgaaDoor
