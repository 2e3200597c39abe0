/- Words for calls that turn nothing but the count of draws: 'Says', the region rule over that class; a store into the one block that a walk has made. No condition. -/
import Derived.Test.YtaibjaienhnckaaGreatDoorL
namespace Go
open Go.RowKit
/-- The same world at another count of draws. -/
def World.dr (w : World) (d : Nat) : World := { w with drawn := d }
section
variable (w : World) (d e : Nat) (x : Ext) (p : Addr)
@[go_sem] theorem World.dr_dr : (w.dr d).dr e = w.dr e := rfl
@[go_sem] theorem World.drew_dr : (w.dr d).drew = w.dr (d + 1) := rfl
@[go_sem] theorem World.drewN_dr (n : Nat) : (w.dr d).drewN n = w.dr (d + n) := rfl
theorem World.dr_ov : (w.ov x).dr d = w.ov ⟨x.blocks, d⟩ := rfl
@[go_sem] theorem World.cell_dr : (w.dr d).cell? p = w.cell? p := rfl
@[go_sem] theorem World.frozen_dr : (w.dr d).frozen? p = w.frozen? p := rfl
@[go_sem] theorem World.size_dr : (w.dr d).heap.size = w.heap.size := rfl
@[go_sem] theorem World.tape_dr : (w.dr d).tape = w.tape := rfl
@[go_sem] theorem World.setCell_dr (v : Value) : (w.dr d).setCell p v = (w.setCell p v).dr d := rfl
@[go_sem] theorem World.alloc_dr (o : Obj) : (w.dr d).alloc o = (w.alloc o).dr d := rfl
@[go_sem] theorem World.ov_dr : (w.dr d).ov x = w.ov x := rfl
theorem World.dr_is_ov : w.dr d = w.ov ⟨#[], d⟩ := by simp [World.dr, World.ov]
theorem World.dr_self : w = w.dr w.drawn := rfl
end
/-- w' is w at another count of draws. -/
def IsDr (w w' : World) : Prop := ∃ d, w' = w.dr d
theorem IsDr.refl (w : World) : IsDr w w := ⟨w.drawn, rfl⟩
theorem IsDr.dr {w w' : World} (h : IsDr w w') (d : Nat) : IsDr w (w'.dr d) := ⟨d, by obtain ⟨e, rfl⟩ := h; rfl⟩
theorem IsDr.drew {w w' : World} (h : IsDr w w') : IsDr w w'.drew := by obtain ⟨e, rfl⟩ := h; exact ⟨_, rfl⟩
theorem IsDr.drewN {w w' : World} (h : IsDr w w') (n : Nat) : IsDr w (w'.drewN n) := by obtain ⟨e, rfl⟩ := h; exact ⟨_, rfl⟩
theorem IsDr.ov (W : World) (x : Ext) (d : Nat) : IsDr (W.ov x) (W.ov ⟨x.blocks, d⟩) := ⟨d, rfl⟩
theorem IsDr.isOv {w w' : World} (h : IsDr w w') : IsOv w w' := by obtain ⟨d, rfl⟩ := h; exact ⟨_, World.dr_is_ov w d⟩
theorem IsOv.dr {w w' : World} (h : IsOv w w') (d : Nat) : IsOv w (w'.dr d) := h.trans ⟨_, World.dr_is_ov w' d⟩
theorem IsOv.drewN {w w' : World} (h : IsOv w w') (n : Nat) : IsOv w (w'.drewN n) := h.trans (IsDr.isOv ⟨_, rfl⟩)
/-- What was there is there. -/
theorem IsOv.cell {w w' : World} {p : Addr} {v : Value} (h : IsOv w w') (hc : w.cell? p = some v) : w'.cell? p = some v := by
  obtain ⟨x, rfl⟩ := h
  rw [World.cell_ov_lt w x p (block_lt_of_cell hc)]; exact hc
/-- A call that gives one value, and turns nothing but the count of draws. -/
def Says (P : Program) (f : FuncId) (args : Array Value) (w : World) (v : Value) : Prop :=
  Calls P f args w fun e w' => e = .returned v ∧ IsDr w w'
section
variable {P : Program} {f : FuncId} {args : Array Value} {W : World} {v : Value}
theorem Says.gives (h : Says P f args W v) : Gives P f args W v := Calls.mono h fun _ _ hh => ⟨hh.1, hh.2.isOv⟩
theorem Says.quiet {d : Nat} (h : Says P f args (W.dr d) v) : Calls P f args (W.dr d) fun e w'' => e = .returned v ∧ ∃ y, w'' = W.dr y :=
  Calls.mono h fun _ _ ⟨he, y, hy⟩ => ⟨he, y, hy⟩
/-- A region that draws its order, all of whose operations only read and whose calls turn nothing but the count of draws. -/
theorem wp_region_dr {id : Nat} {Q : Exit → Act → World → Prop} {a : Act} {l : List Oper} (hm : P.follows .mixedOrders = true) (hB : Region.lexB .any l.toArray = true)
    (h : wpQuiet P l.toArray (fun w' => ∃ x, w' = W.dr x) (fun a' => ∀ w', (∃ x, w' = W.dr x) → Q .normal a' w') l a) : (Code.region id l.toArray true).wp P Q a W :=
  wp_region_quiet (C := fun w' => ∃ x, w' = W.dr x) hm hB ⟨_, rfl⟩ (by simpa using h)
end
/-- What the one block that a walk has made holds. -/
theorem World.LW_cell (W : World) (c : Array Value) (t : TypeId) (fr : Nat × Nat) (x : Ext) (d i : Nat) : (((W.alloc (.cells c t fr)).ov x).dr d).cell? ⟨W.heap.size, i, none⟩ = c[i]? := by
  rw [World.cell_dr, World.cell_ov_lt _ _ _ (by show W.heap.size < (W.heap.push _).size; rw [Array.size_push]; omega)]
  unfold World.cell?
  rw [heap_alloc_new]
  rfl
theorem World.setCell_alloc_ov (W : World) (c : Array Value) (t : TypeId) (fr : Nat × Nat) (x : Ext) (n i : Nat) (v : Value) (h : n = W.heap.size) :
    ((W.alloc (.cells c t fr)).ov x).setCell ⟨n, i, none⟩ v = (W.alloc (.cells (c.setIfInBounds i v) t fr)).ov x := by
  subst h
  unfold World.ov World.alloc World.setCell
  simp only [Option.isSome_none, Bool.false_eq_true, if_false]
  congr 1
  apply Array.ext_getElem?
  intro k
  rw [Array.getElem?_modify]
  by_cases hk : k < W.heap.size
  · rw [if_neg (by omega), Array.getElem?_append_left (by simp; omega), Array.getElem?_append_left (by simp; omega), Array.getElem?_push, Array.getElem?_push, if_neg (by omega), if_neg (by omega)]
  · by_cases e : W.heap.size = k
    · subst e
      rw [if_pos rfl, Array.getElem?_append_left (by simp), Array.getElem?_append_left (by simp)]
      simp
    · rw [if_neg e, Array.getElem?_append_right (by simp; omega), Array.getElem?_append_right (by simp; omega)]
      simp
end Go
