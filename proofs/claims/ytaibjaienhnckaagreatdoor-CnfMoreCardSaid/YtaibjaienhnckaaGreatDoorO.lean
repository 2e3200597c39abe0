/- Words for rows that a walk has made: behind more memory, behind an append; and what a row of texts holds. No condition. -/
import Derived.Test.YtaibjaienhnckaaGreatDoorN
import Derived.OwnWalk
import Derived.Deep.AppendLies
import Derived.Deep.RegionHeld3
set_option linter.unusedVariables false
set_option linter.unusedSimpArgs false
namespace Go
open Go.RowKit
/-- What a row owns is what it owns behind more memory, and at another count of draws. -/
theorem ownsRow_isOv {w w' : World} {base : Nat} {e : TypeId} {size : Nat} {v : Value} {n : Nat} {xs : List Value} (h : w.ownsRow base e size v n xs) (hb : IsOv w w') : w'.ownsRow base e size v n xs := by
  obtain ⟨x, rfl⟩ := hb
  refine ⟨h.1, ?_⟩
  rcases h.2 with h2 | ⟨g, cap, cur, hv, hb, hg, h3⟩
  · exact .inl h2
  · refine .inr ⟨g, cap, cur, hv, hb, ?_, h3⟩
    rw [World.heap_ov w x (by
      rcases Nat.lt_or_ge g w.heap.size with hlt | hge
      · exact hlt
      · rw [Array.getElem?_eq_none hge] at hg; cases hg)]
    exact hg
/-- The one block below may turn. -/
theorem ownsRow_turn {W : World} {c c' : Array Value} {t : TypeId} {fr : Nat × Nat} {x : Ext} {d d' : Nat} {e : TypeId} {size : Nat} {v : Value} {n : Nat} {xs : List Value} {base : Nat} (hb0 : W.heap.size < base)
    (h : (((W.alloc (.cells c t fr)).ov x).dr d).ownsRow base e size v n xs) : (((W.alloc (.cells c' t fr)).ov x).dr d').ownsRow base e size v n xs := by
  refine ⟨h.1, ?_⟩
  rcases h.2 with h2 | ⟨g, cap, cur, hv, hb, hg, h3⟩
  · exact .inl h2
  · refine .inr ⟨g, cap, cur, hv, hb, ?_, h3⟩
    rw [← hg]
    show (((W.heap.push _) ++ x.blocks)[g]?) = (((W.heap.push _) ++ x.blocks)[g]?)
    rw [Array.getElem?_append_right (by simp; omega), Array.getElem?_append_right (by simp; omega)]
    simp
/-- Behind an append the world is the old one with more behind it. -/
theorem IsOv.grown {W w w' : World} {v : Value} (h : IsOv W w) (hg : w.grownBy w' v.ownBlock) (hv : ∀ b, v.ownBlock = some b → W.heap.size ≤ b) : IsOv W w' := by
  have hb := h.below
  refine IsOv.of_below ⟨hg.os.trans hb.os, hg.tape.trans hb.tape, hg.output.trans hb.output, Nat.le_trans hb.size hg.size, fun k hk => ?_⟩
  rw [hg.block k (Nat.lt_of_lt_of_le hk hb.size) (fun e => absurd (hv k e.symm) (by omega))]
  exact hb.block k hk
theorem ownsRow_block {w : World} {base : Nat} {e : TypeId} {size : Nat} {v : Value} {n : Nat} {xs : List Value} (h : w.ownsRow base e size v n xs) : ∀ b, v.ownBlock = some b → base ≤ b := by
  intro b hb
  rcases h.2 with ⟨rfl, _⟩ | ⟨g, cap, cur, rfl, hb2, _⟩
  · simp [Value.ownBlock] at hb
  · simp [Value.ownBlock] at hb; omega
theorem news_second (w : World) (o : Obj) (cs : Array Value) (t : TypeId) (fr : Nat × Nat) : ∀ j u, cs.toList[j]? = some u → ((w.alloc o).alloc (.cells cs t fr)).cell? ((⟨w.heap.size + 1, 0, none⟩ : Addr).add j) = some u :=
  World.news_of_block (t := t) (fr := fr) (by have := heap_alloc_new (w.alloc o) (.cells cs t fr); simpa using this)
theorem ownsRow_low {w : World} {base : Nat} {e : TypeId} {size : Nat} {v : Value} {n : Nat} {xs : List Value} (h : w.ownsRow (base + 1) e size v n xs) : w.ownsRow base e size v n xs := by
  refine ⟨h.1, ?_⟩
  rcases h.2 with h2 | ⟨g, cap, cur, hv, hb, h3⟩
  · exact .inl h2
  · exact .inr ⟨g, cap, cur, hv, by omega, h3⟩
theorem ownsRow_lt {w : World} {base : Nat} {e : TypeId} {size : Nat} {v : Value} {n : Nat} {xs : List Value} (h : w.ownsRow base e size v n xs) : ∀ b, v.ownBlock = some b → b < w.heap.size := by
  intro b hb
  rcases h.2 with ⟨rfl, _⟩ | ⟨g, cap, cur, rfl, hb2, hg, _⟩
  · simp [Value.ownBlock] at hb
  · simp [Value.ownBlock] at hb
    subst hb
    rcases Nat.lt_or_ge g w.heap.size with hlt | hge
    · exact hlt
    · rw [Array.getElem?_eq_none hge] at hg; cases hg
/-- What lay in a block made ahead of an append lies there behind it. -/
theorem aft_cell {w w' : World} {c c2 : Array Value} {t t2 : TypeId} {fr fr2 : Nat × Nat} {base : Nat} {e : TypeId} {size : Nat} {v : Value} {n : Nat} {xs : List Value} (hg : ((w.alloc (.cells c t fr)).alloc (.cells c2 t2 fr2)).grownBy w' v.ownBlock) (h : w.ownsRow base e size v n xs) (i : Nat) {u : Value} (hu : c[i]? = some u) : w'.cell? ⟨w.heap.size, i, none⟩ = some u := by
  rw [hg.cell_far ⟨w.heap.size, i, none⟩ (by simp; omega) (fun e => absurd (ownsRow_lt h _ e.symm) (by simp))]
  rw [World.cell?_alloc_lt _ _ ⟨w.heap.size, i, none⟩ (by simp)]
  unfold World.cell?
  rw [heap_alloc_new]; exact hu
theorem news_new (W : World) (cs : Array Value) (t : TypeId) (fr : Nat × Nat) (N : Nat) (hN : N = W.heap.size) : ∀ j u, cs.toList[j]? = some u → (W.alloc (.cells cs t fr)).cell? ((⟨N, 0, none⟩ : Addr).add j) = some u := by
  subst hN
  exact World.news_of_block (t := t) (fr := fr) (heap_alloc_new _ _)
theorem IsOv.grownBy {W w' : World} {v : Value} {W0 : World} (h : IsOv W0 W) (hg : W.grownBy w' v.ownBlock) (hv : ∀ b, v.ownBlock = some b → W0.heap.size ≤ b) : IsOv W0 w' := h.grown hg hv
/-- The texts of a row. -/
theorem ownsRow_texts {w : World} {base : Nat} {e : TypeId} {g n cap : Nat} {xs : List ByteArray} (h : w.ownsRow base e 1 (.slice (some ⟨g, 0, none⟩) n cap) n (xs.map Value.string)) : ∀ (j : Nat) x, xs[j]? = some x → w.cell? ⟨g, 0 + j, none⟩ = some (.string x) := by
  intro j x hj
  have hlen := h.1
  rcases h.2 with ⟨h1, _⟩ | ⟨g', cap', cur, hv, hb, hg, _, _, hz, ht⟩
  · cases h1
  · injection hv with e1
    injection e1 with e1
    injection e1 with e1
    subst e1
    rw [Nat.zero_add, cell_of_heap hg, ← Array.getElem?_toList]
    have hjl : j < xs.length := (List.getElem?_eq_some_iff.1 hj).1
    have h2 : (cur.toList.take (n * 1))[j]? = some (.string x) := by rw [ht, List.getElem?_map, hj]; rfl
    rw [List.getElem?_take] at h2
    split at h2
    · exact h2
    · cases h2
theorem ownsRow_cap {w : World} {base : Nat} {e : TypeId} {g n cap size : Nat} {xs : List Value} (h : w.ownsRow base e size (.slice (some ⟨g, 0, none⟩) n cap) n xs) : n ≤ cap := by
  rcases h.2 with ⟨h1, _⟩ | ⟨g', cap', cur, hv, hb, hg, hc, _, hz, ht⟩
  · cases h1
  · injection hv with e1 e2 e3
    omega
/-- A cell that is there is there behind more memory. -/
theorem cellk_ov {W : World} {p : Addr} {v : Value} (h : W.cell? p = some v) (x : Ext) : (W.ov x).cell? p = some v := by rw [World.cell_ov_lt W x p (World.block_lt_of_cell? W p h)]; exact h
theorem cellk_isOv {W W' : World} {p : Addr} {v : Value} (h : W.cell? p = some v) (hb : IsOv W W') : W'.cell? p = some v := by obtain ⟨x, rfl⟩ := hb; exact cellk_ov h x
theorem cellk_alloc {W : World} {p : Addr} {v : Value} (h : W.cell? p = some v) (o : Obj) : (W.alloc o).cell? p = some v := by rw [World.cell?_alloc_some W p o (by rw [h]; rfl)]; exact h
theorem cellk_below {B : Nat} {W W' : World} {p : Addr} {v : Value} (h : W.cell? p = some v) (hb : Below B W W') (hp : p.block < B) : W'.cell? p = some v := by
  unfold World.cell? at *
  rw [hb.block p.block hp]
  exact h
theorem ov_below {w W W' : World} {B : Nat} (h : IsOv w W) (hB : w.heap.size ≤ B) (hb : Below B W W') : IsOv w W' :=
  IsOv.of_below ⟨hb.os.trans h.below.os, hb.tape.trans h.below.tape, hb.output.trans h.below.output, Nat.le_trans h.below.size hb.size, fun k hk => (hb.block k (by omega)).trans (h.below.block k hk)⟩
end Go
