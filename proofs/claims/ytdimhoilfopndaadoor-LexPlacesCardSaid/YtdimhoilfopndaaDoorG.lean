/- The frame of this seat's rows: the listed variables, as the program lays them, are what the walks ask. No condition. -/
import Derived.Test.YtdimhoilfopndaaDoorRows
import Derived.Test.YtdimhoilfopndaaDoorYa
import Derived.ProofKit
import Derived.LaidMore
import Derived.LaidLaws
import Derived.OpenShut
import Derived.Stop.Joined
import Derived.Lib.SmallJoins
set_option linter.unusedVariables false
namespace Go.Proofs.YtdimhoilfopndaaDoor
open Go.ChangeShapes Go.WideShapes Go.ChangeAt Go.RowKit
theorem own : ownKnob Tryd.prog.godebug = none := by kernel_rfl
theorem laidOut : laidOutB Tryd.prog = true := by kernel_rfl
def laidTypes : List (String × DataW Unit) := [("math/bits.deBruijn32tab", Rows.laid_math_bits_deBruijn32tab), ("math/bits.deBruijn64tab", Rows.laid_math_bits_deBruijn64tab), ("internal/strconv.uint64pow10", Rows.laid_internal_strconv_uint64pow10), ("strconv.ErrRange", Rows.laid_strconv_ErrRange), ("strconv.ErrSyntax", Rows.laid_strconv_ErrSyntax), ("skua/lex.signs", Rows.laid_skua_lex_signs), ("skua/lex.keywords", Rows.laid_skua_lex_keywords)]
/-- The door's own heap meets the condition: three closed facts. -/
theorem door_met (os : Os) (args : Array Value) : laidMetH Tryd.prog laidTypes ((World.doorLaid Tryd.prog 400 os).forCall (fun _ _ => 0) ⟨#[], args, []⟩).memory :=
  laidMetH_of_parts3 (fuel := 8) (laidMet_of_run' 8 (by kernel_rfl) (by kernel_rfl)) (by kernel_rfl) (by kernel_rfl)
theorem laid_mem {P : Program} {w : World} : ∀ {l : List (String × DataW Unit)} {ps : List MemPlace}, DataW.LaidVars P w l ps → ∀ {x : String × DataW Unit}, x ∈ l → ∃ q, DataW.LaidVars P w [x] q
  | [], _, _, _, hx => by cases hx
  | (n, d) :: r, ps, h, x, hx => by
    obtain ⟨g, t, cs, fuel, p, q, h1, h2, h3, h4, h5, _⟩ := h
    rcases List.mem_cons.1 hx with rfl | hx
    · exact ⟨_, g, t, cs, fuel, p, [], h1, h2, h3, h4, rfl, rfl⟩
    · exact laid_mem h5 hx
theorem laid_at {w : World} {ps : List MemPlace} (h : DataW.LaidVars Tryd.prog w laidTypes ps) {n : String} {d : DataW Unit} (hx : (n, d) ∈ laidTypes) {g : Nat} {t : TypeId} {m : Nat} {cs : Array Value}
    (hg : Tryd.prog.globalNamed n = some g) (ht : (Tryd.prog.globals[g]?).map (·.type) = some t) (hc : plainCells Tryd.prog m t d = some cs.toList) : LaidAt g cs w := by
  obtain ⟨q, hq⟩ := laid_mem h hx
  have := (laid_cells hq hg ht hc).1
  intro i hi
  rcases this i with h | h
  · rw [h]; simp
  · simp at h; omega
theorem laid_err {w : World} {ps : List MemPlace} (h : DataW.LaidVars Tryd.prog w laidTypes ps) {n nm : String} {d : DataW Unit} (hx : (n, .iface nm d) ∈ laidTypes) {g : Nat} {t : TypeId} {ms : Array (String × TypeId)}
    (hg : Tryd.prog.globalNamed n = some g) (ht : (Tryd.prog.globals[g]?).map (·.type) = some t) (hi : Tryd.prog.underlying t = some (.interface ms)) : HasErr g w := by
  obtain ⟨q, g', t', cs, fuel, p, q2, h1, h2, h3, h4, h5, _⟩ := laid_mem h hx
  obtain rfl := Option.some.inj (hg.symm.trans h1)
  obtain rfl := Option.some.inj (ht.symm.trans h2)
  obtain ⟨_, u, v, e, _, _⟩ := iface_of_trod hi h4
  refine ⟨.iface u v, ?_, .inr ⟨u, v, rfl⟩⟩
  have := World.var?_cell hg h3 0
  rw [this, ← Array.getElem?_toList, e]; rfl
theorem of_laid {W : World} (h : laidMetH Tryd.prog laidTypes W) : LaidX W := by
  rw [MakeChecks.laidMetH_plain _ _ _ (by kernel_rfl)] at h
  obtain ⟨ps, hv, _, _⟩ := h
  exact ⟨laid_at hv (n := "skua/lex.signs") (d := Rows.laid_skua_lex_signs) (by unfold laidTypes; repeat (first | exact List.mem_cons_self | apply List.mem_cons_of_mem)) (t := 58) (m := 8) (by kernel_rfl) (by kernel_rfl) (by kernel_rfl), laid_at hv (n := "skua/lex.keywords") (d := Rows.laid_skua_lex_keywords) (by unfold laidTypes; repeat (first | exact List.mem_cons_self | apply List.mem_cons_of_mem)) (t := 46) (m := 8) (by kernel_rfl) (by kernel_rfl) (by kernel_rfl), laid_err hv (n := "strconv.ErrSyntax") (by unfold laidTypes; repeat (first | exact List.mem_cons_self | apply List.mem_cons_of_mem)) (by kernel_rfl) (by kernel_rfl) Tryd.underlying42, laid_err hv (n := "strconv.ErrRange") (by unfold laidTypes; repeat (first | exact List.mem_cons_self | apply List.mem_cons_of_mem)) (by kernel_rfl) (by kernel_rfl) Tryd.underlying42⟩
end Go.Proofs.YtdimhoilfopndaaDoor
