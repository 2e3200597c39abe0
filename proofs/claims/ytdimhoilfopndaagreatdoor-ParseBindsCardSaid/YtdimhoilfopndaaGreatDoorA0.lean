/- Texts of one proof, put together: K. Conditions: as each lemma says. -/
import Derived.Test.YtdimhoilfopndaaGreatDoorProg
import Derived.WalkKit
import Derived.WalkSpells
import Derived.WalkLawsBesides
import Derived.Deep.QuietTactic
import Derived.BigQuiet
import Derived.Lib.Hide
import Derived.LoopN
import Derived.Deep.LoopGhost
import Derived.Deep.DeepFit
set_option linter.unusedVariables false
set_option linter.unusedSimpArgs false
section
namespace Go
open Go.RowKit
structure Ext where
 blocks : Array Obj
 drawn : Nat
instance : Inhabited Ext := ⟨⟨#[], 0⟩⟩
def World.ov (W : World) (x : Ext) : World := { W with heap := W.heap ++ x.blocks, drawn := x.drawn }
section
variable (W : World) (x y : Ext) (p : Addr)
@[go_sem] theorem World.size_ov : (W.ov x).heap.size = W.heap.size + x.blocks.size := by simp [World.ov]
@[go_sem] theorem World.tape_ov : (W.ov x).tape = W.tape := rfl
theorem World.ov_ov : (W.ov x).ov y = W.ov ⟨x.blocks ++ y.blocks, y.drawn⟩ := by simp [World.ov]
@[go_sem] theorem World.drew_ov : (W.ov x).drew = W.ov ⟨x.blocks, x.drawn + 1⟩ := rfl
@[go_sem] theorem World.drewN_ov (n : Nat) : (W.ov x).drewN n = W.ov ⟨x.blocks, x.drawn + n⟩ := rfl
theorem World.heap_ov {k : Nat} (h : k < W.heap.size) : (W.ov x).heap[k]? = W.heap[k]? := by
 simp only [World.ov]; rw [Array.getElem?_append_left h]
theorem World.cell_ov_lt (h : p.block < W.heap.size) : (W.ov x).cell? p = W.cell? p := by
 unfold World.cell?; rw [World.heap_ov W x h]
theorem World.frozen_ov_lt (h : p.block < W.heap.size) : (W.ov x).frozen? p = W.frozen? p := by
 unfold World.frozen?; rw [World.heap_ov W x h]
def World.cellBehind (W : World) (x : Ext) (p : Addr) : Option Value := (W.ov x).cell? p
@[go_sem] theorem World.cell_ov : (W.ov x).cell? p = if p.block < W.heap.size then W.cell? p else W.cellBehind x p := by
 split
 · exact World.cell_ov_lt W x p ‹_›
 · rfl
def World.frozenBehind (W : World) (x : Ext) (p : Addr) : Bool := (W.ov x).frozen? p
@[go_sem] theorem World.frozen_ov : (W.ov x).frozen? p = if p.block < W.heap.size then W.frozen? p else W.frozenBehind x p := by
 split
 · exact World.frozen_ov_lt W x p ‹_›
 · rfl
end
@[go_sem low] theorem World.cell_alloc_cells (W : World) (c : Array Value) (t : TypeId) (fr : Nat × Nat) (n i : Nat) :
  (W.alloc (.cells c t fr)).cell? ⟨n, i, none⟩ = if n < W.heap.size then W.cell? ⟨n, i, none⟩ else if n = W.heap.size then c[i]? else none := by
 by_cases h : n < W.heap.size
 · rw [if_pos h]; exact World.cell?_alloc_lt W _ ⟨n, i, none⟩ h
 ·
  rw [if_neg h]
  by_cases e : n = W.heap.size
  · subst e; rw [if_pos rfl]; unfold World.cell?; rw [heap_alloc_new]; rfl
  ·
   rw [if_neg e]
   have : (W.alloc (.cells c t fr)).heap[n]? = none := Array.getElem?_eq_none (by simp; omega)
   simp [World.cell?, this]
@[go_sem low] theorem World.cell_alloc_map (W : World) (es : Array MapEntry) (clk : Nat) (n i : Nat) :
  (W.alloc (.map es clk)).cell? ⟨n, i, none⟩ = if n < W.heap.size then W.cell? ⟨n, i, none⟩ else none := by
 by_cases h : n < W.heap.size
 · rw [if_pos h]; exact World.cell?_alloc_lt W _ ⟨n, i, none⟩ h
 ·
  rw [if_neg h]
  by_cases e : n = W.heap.size
  · subst e; unfold World.cell?; rw [heap_alloc_new]
  ·
   have : (W.alloc (.map es clk)).heap[n]? = none := Array.getElem?_eq_none (by simp; omega)
   simp [World.cell?, this]
@[go_sem low] theorem World.frozen_alloc_lt (W : World) (o : Obj) (n i : Nat) :
  (W.alloc o).frozen? ⟨n, i, none⟩ = if n < W.heap.size then W.frozen? ⟨n, i, none⟩ else (W.alloc o).frozenBehind ⟨#[], (W.alloc o).drawn⟩ ⟨n, i, none⟩ := by
 split
 · exact World.frozen?_alloc_old W o ⟨n, i, none⟩ (Nat.ne_of_lt ‹_›)
 · unfold World.frozenBehind; congr 1
theorem World.ov_self (W : World) : W = W.ov ⟨#[], W.drawn⟩ := by cases W; simp [World.ov]
theorem World.alloc_is_ov (W : World) (o : Obj) : W.alloc o = W.ov ⟨#[o], W.drawn⟩ := by unfold World.ov World.alloc; simp
theorem World.drew_is_ov (W : World) : W.drew = W.ov ⟨#[], W.drawn + 1⟩ := by unfold World.ov World.drew; simp
def IsOv (w w' : World) : Prop := ∃ x, w' = w.ov x
theorem IsOv.refl (w : World) : IsOv w w := ⟨_, World.ov_self w⟩
theorem IsOv.ov {w w' : World} (h : IsOv w w') (x : Ext) : IsOv w (w'.ov x) := by
 obtain ⟨y, rfl⟩ := h; exact ⟨_, World.ov_ov w y x⟩
theorem IsOv.alloc {w w' : World} (h : IsOv w w') (o : Obj) : IsOv w (w'.alloc o) := by
 rw [World.alloc_is_ov]; exact h.ov _
theorem IsOv.drew {w w' : World} (h : IsOv w w') : IsOv w w'.drew := by
 rw [World.drew_is_ov]; exact h.ov _
theorem IsOv.trans {a b c : World} (h : IsOv a b) (k : IsOv b c) : IsOv a c := by
 obtain ⟨y, rfl⟩ := k; exact h.ov y
theorem IsOv.setCell {w w' : World} (h : IsOv w w') {p : Addr} (hp : w.heap.size ≤ p.block) (v : Value) : IsOv w (w'.setCell p v) := by
 obtain ⟨x, rfl⟩ := h
 refine ⟨⟨(x.blocks.modify (p.block - w.heap.size) fun
   | .cells c elem frozen => .cells (if p.spot.isSome then c else c.setIfInBounds p.off v) elem frozen
   | o => o), x.drawn⟩, ?_⟩
 simp only [World.setCell, World.ov]
 congr 1
 apply Array.ext_getElem?
 intro k
 rw [Array.getElem?_modify]
 by_cases hk : k < w.heap.size
 · rw [Array.getElem?_append_left hk, Array.getElem?_append_left hk, if_neg (by omega)]
 ·
  rw [Array.getElem?_append_right (by omega), Array.getElem?_append_right (by omega), Array.getElem?_modify]
  by_cases e : p.block = k
  · rw [if_pos e, if_pos (by omega)]; rfl
  · rw [if_neg e, if_neg (by omega)]
theorem IsOv.below {w w' : World} (h : IsOv w w') : Below w.heap.size w w' := by
 obtain ⟨x, rfl⟩ := h
 exact ⟨rfl, rfl, rfl, by rw [World.size_ov]; omega, fun k hk => World.heap_ov w x hk⟩
theorem IsOv.of_below {w w' : World} (h : Below w.heap.size w w') : IsOv w w' := by
 refine ⟨⟨w'.heap.extract w.heap.size w'.heap.size, w'.drawn⟩, ?_⟩
 obtain ⟨h1, h2, h3, h4, h5⟩ := h
 obtain ⟨hp, tp, dr, os, out⟩ := w'
 simp only at h1 h2 h3 h4 h5
 simp only [World.ov]
 congr 1
 apply Array.ext_getElem?
 intro k
 by_cases hk : k < w.heap.size
 · rw [Array.getElem?_append_left hk]; exact h5 k hk
 ·
  rw [Array.getElem?_append_right (by omega), Array.getElem?_extract]
  by_cases h6 : k < hp.size
  · rw [if_pos (by omega)]; congr 1; omega
  · rw [Array.getElem?_eq_none (by omega), if_neg (by omega)]
def Gives (P : Program) (f : FuncId) (args : Array Value) (w : World) (v : Value) : Prop :=
 Calls P f args w fun e w' => e = .returned v ∧ IsOv w w'
section
variable {P : Program} {f : FuncId} {args : Array Value} {W : World} {v : Value}
theorem Gives.quiet {x : Ext} (h : Gives P f args (W.ov x) v) : Calls P f args (W.ov x) fun e w'' => e = .returned v ∧ ∃ y, w'' = W.ov y :=
 h.mono fun _ _ ⟨he, y, hy⟩ => ⟨he, ⟨x.blocks ++ y.blocks, y.drawn⟩, hy.trans (World.ov_ov W x y)⟩
theorem wp_region_ov {id : Nat} {Q : Exit → Act → World → Prop} {a : Act} {l : List Oper} (hm : P.follows .mixedOrders = true) (hB : Region.lexB .any l.toArray = true)
  (h : wpQuiet P l.toArray (fun w' => ∃ x, w' = W.ov x) (fun a' => ∀ w', (∃ x, w' = W.ov x) → Q .normal a' w') l a) : (Code.region id l.toArray true).wp P Q a W :=
 wp_region_quiet (C := fun w' => ∃ x, w' = W.ov x) hm hB ⟨_, World.drew_is_ov W⟩ (by simpa using h)
end
@[go_sem] theorem u64_unsigned : IntKind.u64.signed = false := rfl
@[go_sem] theorem i64_signed : IntKind.i64.signed = true := rfl
section
variable {P : Program}
end
end Go
end
