/- Words for blocks that turn: what a block holds, behind more memory, behind a store, behind a map's update. No condition. -/
import Derived.Test.YtaibjaienhnckaaGreatDoorM
namespace Go
open Go.RowKit
theorem cell_of_heap {w : World} {b : Nat} {cs : Array Value} {t : TypeId} {fr : Nat × Nat} (h : w.heap[b]? = some (.cells cs t fr)) (i : Nat) : w.cell? ⟨b, i, none⟩ = cs[i]? := by
  unfold World.cell?; rw [h]; rfl
theorem frozen_of_heap {w : World} {b : Nat} {cs : Array Value} {t : TypeId} (h : w.heap[b]? = some (.cells cs t (0, 0))) (i : Nat) : w.frozen? ⟨b, i, none⟩ = false := by
  unfold World.frozen?; rw [h]; simp
theorem lt_of_heap {w : World} {b : Nat} {o : Obj} (h : w.heap[b]? = some o) : b < w.heap.size := by
  rcases Nat.lt_or_ge b w.heap.size with h1 | h1
  · exact h1
  · rw [Array.getElem?_eq_none h1] at h; cases h
/-- Another object in a block's place. -/
def World.put (w : World) (b : Nat) (o : Obj) : World := { w with heap := w.heap.setIfInBounds b o }
section
variable (w : World) (b k : Nat) (o : Obj)
@[go_sem] theorem World.size_put : (w.put b o).heap.size = w.heap.size := by simp [World.put]
theorem World.heap_put_self (h : b < w.heap.size) : (w.put b o).heap[b]? = some o := by simp [World.put, h]
theorem World.heap_put_ne (h : k ≠ b) : (w.put b o).heap[k]? = w.heap[k]? := by
  simp only [World.put]; rw [Array.getElem?_setIfInBounds, if_neg (fun e => h e.symm)]
end
theorem heap_setCell_self {w : World} {b i : Nat} {cs : Array Value} {t : TypeId} {fr : Nat × Nat} (h : w.heap[b]? = some (.cells cs t fr)) (v : Value) : (w.setCell ⟨b, i, none⟩ v).heap[b]? = some (.cells (cs.setIfInBounds i v) t fr) := by
  simp only [World.setCell]
  rw [Array.getElem?_modify, if_pos rfl, h]; rfl
theorem heap_setCell_ne {w : World} {b i k : Nat} (hk : k ≠ b) (v : Value) : (w.setCell ⟨b, i, none⟩ v).heap[k]? = w.heap[k]? := by
  simp only [World.setCell]
  rw [Array.getElem?_modify, if_neg (fun e => hk e.symm)]
/-- A block of the old ones is as it was behind more memory. -/
theorem IsOv.heap {w w' : World} (h : IsOv w w') {k : Nat} {o : Obj} (hk : w.heap[k]? = some o) : w'.heap[k]? = some o := by
  obtain ⟨x, rfl⟩ := h
  rw [World.heap_ov w x (lt_of_heap hk)]; exact hk
theorem IsOv.put {W w : World} (h : IsOv W w) {b : Nat} (hb : W.heap.size ≤ b) (o : Obj) : IsOv W (w.put b o) := by
  have hb2 := h.below
  refine IsOv.of_below ⟨hb2.os, hb2.tape, hb2.output, by rw [World.size_put]; exact hb2.size, fun k hk => ?_⟩
  rw [World.heap_put_ne w b k o (by omega)]
  exact hb2.block k hk
theorem IsOv.size_le {w w' : World} (h : IsOv w w') : w.heap.size ≤ w'.heap.size := h.below.size
section
variable {P : Program}
theorem run_mapUpdate_put {T K E : TypeId} (hT : P.underlying T = some (.map K E)) (hK : P.underlying K = some .string) {w : World} {n : Nat} {s : ByteArray} (v : Value) {es : Array MapEntry} {clk : Nat}
    (hr : w.heap[n]? = some (.map es clk)) (hf : Instr.findNow .string (.string s) es.toList 0 = some none) :
    (Instr.mapUpdate T (.map (some n)) (.string s) v).run P w = .ok () (w.put n (.map (es.push ⟨.string s, v, clk⟩) (clk + 1))) := by
  have hset : (setObj n (.map (es.push ⟨.string s, v, clk⟩) (clk + 1))).run P w = .ok () (w.put n (.map (es.push ⟨.string s, v, clk⟩) (clk + 1))) := by
    unfold setObj
    simp only [Sem.run, hr]
    rfl
  simp [Instr.mapUpdate, Sem.run_bind, run_underlying hT, run_getObj hr, run_checkKey_string hK, run_findKey_string hK s es.toList none hf, hset]
/-- The keys of a map of texts, by the list of its keys. -/
def keysAre (es : List MapEntry) (ks : List (List UInt8)) : Prop := es.map (·.key) = ks.map fun k => Value.string ⟨k.toArray⟩
theorem findNow_keys : ∀ (es : List MapEntry) (ks : List (List UInt8)) (s : ByteArray) (i : Nat), keysAre es ks → (ks.contains s.data.toList = false → Instr.findNow .string (.string s) es i = some none) ∧ (ks.contains s.data.toList = true → ∃ j v, Instr.findNow .string (.string s) es i = some (some (j, v)))
  | [], ks, s, i, h => by
    have : ks = [] := by cases ks with | nil => rfl | cons a r => simp [keysAre] at h
    subst this
    exact ⟨fun _ => rfl, fun h => by cases h⟩
  | e :: es, ks, s, i, h => by
    cases ks with
    | nil => simp [keysAre] at h
    | cons k ks =>
      simp only [keysAre, List.map_cons, List.cons.injEq] at h
      obtain ⟨h1, h2⟩ := h
      have ih := findNow_keys es ks s (i + 1) h2
      have hs : Instr.sameNow .string (.string s) e.key = some (s.data.toList == k) := by
        rw [h1]
        show some (s.data == k.toArray) = _
        congr 1
        rw [Bool.eq_iff_iff, beq_iff_eq, beq_iff_eq]
        constructor
        · intro e; rw [e]
        · intro e; rw [← e]
      constructor
      · intro hc
        simp only [List.contains_cons, Bool.or_eq_false_iff] at hc
        simp only [Instr.findNow, hs, hc.1]
        exact ih.1 hc.2
      · intro hc
        cases hk : (s.data.toList == k)
        · simp only [List.contains_cons, hk, Bool.false_or] at hc
          simp only [Instr.findNow, hs, hk]
          exact ih.2 hc
        · simp only [Instr.findNow, hs, hk]
          exact ⟨_, _, rfl⟩
theorem keysAre_push {es : Array MapEntry} {ks : List (List UInt8)} (h : keysAre es.toList ks) (s : ByteArray) (v : Value) (clk : Nat) : keysAre (es.push ⟨.string s, v, clk⟩).toList (ks ++ [s.data.toList]) := by
  unfold keysAre at h ⊢
  rw [Array.toList_push, List.map_append, List.map_append, h]
  rfl
end
end Go
