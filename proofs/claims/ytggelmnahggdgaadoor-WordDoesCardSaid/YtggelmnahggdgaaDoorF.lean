/- The frame of this seat's rows: the listed table of types, as the program lays it, is what the walks ask; an array of whole numbers, opened. No condition. -/
import Derived.Test.YtggelmnahggdgaaDoorRows
import Derived.Test.YtggelmnahggdgaaDoorWa
import Derived.ProofKit
import Derived.LaidMore
import Derived.OpenShut
import Derived.Stop.Joined
import Derived.Lib.SmallJoins
set_option linter.unusedVariables false
namespace Go.Proofs.YtggelmnahggdgaaDoor
open Go.ChangeShapes Go.WideShapes Go.ChangeAt Go.RowKit
theorem own : ownKnob Tryd.prog.godebug = none := by kernel_rfl
theorem laidOut : laidOutB Tryd.prog = true := by kernel_rfl
def laidTypes : List (String × DataW Unit) := [("skua/word.types", Rows.laid_skua_word_types)]
/-- The door's own heap meets the condition: three closed facts. -/
theorem door_met (os : Os) (args : Array Value) : laidMetH Tryd.prog laidTypes ((World.doorLaid Tryd.prog 400 os).forCall (fun _ _ => 0) ⟨#[], args, []⟩).memory :=
  laidMetH_of_parts3 (fuel := 8) (laidMet_of_run' 8 (by kernel_rfl) (by kernel_rfl)) (by kernel_rfl) (by kernel_rfl)
theorem tys_plain : plainCells Tryd.prog 8 67 Rows.laid_skua_word_types = some tysCells.toList := by kernel_rfl
theorem of_laid {W : World} (h : laidMetH Tryd.prog laidTypes W) : Laid W := by
  rw [MakeChecks.laidMetH_plain _ _ _ (by kernel_rfl)] at h
  obtain ⟨ps, hv, _, _⟩ := h
  have := (laid_cells hv (g := 0) (t := 67) (by kernel_rfl) (by kernel_rfl) tys_plain).1
  intro i hi
  rcases this i with h | h
  · rw [h]; simp
  · simp at h; omega

theorem ints2 : ∀ {l : List Int}, l.length = 2 → ∃ a b, l = [a, b]
  | [a, b], _ => ⟨a, b, rfl⟩
theorem ints3 : ∀ {l : List Int}, l.length = 3 → ∃ a b c, l = [a, b, c]
  | [a, b, c], _ => ⟨a, b, c, rfl⟩
section
variable {H : Type} {enc : TypeId × Value → H} {P : Program} {w : World} {base : Nat} {spare : Nat → Bool} {held : Bool}
/-- An array of whole numbers, by value. -/
theorem open_int_array {r : Reach} {b0 n : Nat} {t e : TypeId} {k : IntKind} {v : Value} {d : DataW H} {p : List MemPlace} (ht : P.underlying t = some (.array n e)) (he : P.underlying e = some (.int k)) (hce : P.cellsOf e = 1) (hC : P.cellsOf t = n)
    (hv : Value.okWide P w r b0 t v) (h : DataW.Trod enc P w base spare held t v d p) :
    ∃ zs : List Int, zs.length = n ∧ v = .agg (zs.map (Value.int k)).toArray ∧ ∀ z ∈ zs, (Lit.int k z).wf = true := by
  obtain ⟨cs, rfl, hsz, _⟩ : ∃ cs, v = .agg cs ∧ cs.size = P.cellsOf t ∧ Row.okWide P w r b0 t cs := by simpa [Value.okWide, ht] using hv
  obtain ⟨fuel, hf⟩ := h
  obtain ⟨xs, m, _, _, hl, hlen, hel⟩ := DataW.trod_array ht hf
  obtain ⟨l⟩ := cs
  simp only [Value.cells] at hel hl
  have hln : l.length = n := by rw [← hC]; simpa using hsz
  have hz : ∀ i (hi : i < l.length), ∃ z, l[i] = .int k z ∧ (Lit.int k z).wf = true := fun i hi => by
    have h1 := hel i (by omega)
    rw [hce, Nat.mul_one] at h1
    have h2 : (l.drop i).take 1 = [l[i]] := by rw [List.drop_eq_getElem_cons hi]; rfl
    rw [h2] at h1
    have h3 : i < xs.length := by omega
    rw [List.getElem?_eq_getElem h3] at h1
    obtain ⟨z, e1, _, wz⟩ := DataW.trod_int he h1
    exact ⟨z, by simpa using e1, wz⟩
  refine ⟨l.map (fun v => match v with | .int _ z => z | _ => 0), by simpa using hln, ?_, ?_⟩
  · congr 2
    apply List.ext_getElem
    · simp
    · intro i h1 h2
      obtain ⟨z, hz, _⟩ := hz i h1
      simp [hz]
  · intro z hm
    obtain ⟨v, hv, rfl⟩ := List.mem_map.1 hm
    obtain ⟨i, hi, rfl⟩ := List.getElem_of_mem hv
    obtain ⟨z, hz, wz⟩ := hz i hi
    rw [hz]; exact wz
end
end Go.Proofs.YtggelmnahggdgaaDoor
