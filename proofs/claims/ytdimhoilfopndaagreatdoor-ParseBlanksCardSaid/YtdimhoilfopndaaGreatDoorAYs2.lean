/- The reference's Same over rows of tokens, places left out: are they the same, but for where they stand? Condition: at most 70000 tokens each. -/
import Derived.Test.YtdimhoilfopndaaGreatDoorA11
import Derived.Test.YtdimhoilfopndaaGreatDoorA5
set_option linter.unusedVariables false
set_option linter.unusedSimpArgs false
section
namespace Go.Proofs.YtdimhoilfopndaaGreatDoor
open Go.RowKit
theorem addr_add0 (g j : Nat) : (⟨g, 0, none⟩ : Addr).add j = ⟨g, j, none⟩ := by unfold Addr.add; split <;> simp_all
structure Toks (w : World) (v : Value) (ts : List Tok) : Prop where
 form : ∃ a c, v = .slice a ts.length c ∧ (0 < ts.length → ∃ g, a = some ⟨g, 0, none⟩ ∧ g < w.heap.size ∧ ∀ j u, (ts.flatMap Tok.cells)[j]? = some u → w.cell? ⟨g, j, none⟩ = some u)
theorem Toks.of_owns {w : World} {base : Nat} {v : Value} {ts : List Tok} (h : w.ownsRow base 60 5 v ts.length (ts.flatMap Tok.cells)) : Toks w v ts := by
 by_cases hp : 0 < ts.length
 ·
  obtain ⟨g, cap, rfl, hg0, hg1⟩ := h.form hp
  exact ⟨_, _, rfl, fun _ => ⟨g, rfl, hg1, fun j u hu => by have := h.cells (g := g) rfl j u hu; rwa [addr_add0] at this⟩⟩
 ·
  rcases h.2 with ⟨hv, hn⟩ | ⟨g, cap, cur, hv, _⟩
  · exact ⟨none, 0, by rw [hv, hn], fun h => absurd h hp⟩
  · exact ⟨_, _, hv, fun h => absurd h hp⟩
theorem Toks.of_isOv {w w' : World} {v : Value} {ts : List Tok} (h : Toks w v ts) (hb : IsOv w w') : Toks w' v ts := by
 obtain ⟨a, c, hv, hp⟩ := h.form
 refine ⟨a, c, hv, fun h0 => ?_⟩
 obtain ⟨g, ha, hg, hc⟩ := hp h0
 exact ⟨g, ha, Nat.lt_of_lt_of_le hg hb.below.size, fun j u hu => hb.cell (hc j u hu)⟩
end Go.Proofs.YtdimhoilfopndaaGreatDoor
end
