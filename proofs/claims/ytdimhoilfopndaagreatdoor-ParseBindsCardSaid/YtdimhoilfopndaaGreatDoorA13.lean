/- Texts of one proof, put together: Gp. Conditions: as each lemma says. -/
import Derived.ProofKit
import Derived.LaidMore
import Derived.LaidLaws
import Derived.OpenShut
import Derived.Stop.Joined
import Derived.Lib.SmallJoins
import Derived.Shelf.Vars
import Derived.HandedShaped
import Derived.Lay
import Derived.SizedLaws
import Derived.ChangeMaps5
import Derived.Test.YtdimhoilfopndaaGreatDoorRows
import Derived.Test.YtdimhoilfopndaaGreatDoorA12
set_option linter.unusedVariables false
set_option linter.unusedSimpArgs false
section
namespace Go.Proofs.YtdimhoilfopndaaGreatDoor
open Go.ChangeShapes Go.WideShapes Go.ChangeAt Go.RowKit
theorem own : ownKnob Tryz.prog.godebug = none := by kernel_rfl
theorem laidOut : laidOutB Tryz.prog = true := by kernel_rfl
def laidTypes : List (String × DataW Unit) := [("math/bits.deBruijn32tab", Rows.laid_math_bits_deBruijn32tab), ("math/bits.deBruijn64tab", Rows.laid_math_bits_deBruijn64tab), ("internal/strconv.uint64pow10", Rows.laid_internal_strconv_uint64pow10), ("unicode/utf8.acceptRanges", Rows.laid_unicode_utf8_acceptRanges), ("strconv.ErrRange", Rows.laid_strconv_ErrRange), ("strconv.ErrSyntax", Rows.laid_strconv_ErrSyntax), ("skua/lex.signs", Rows.laid_skua_lex_signs), ("skua/lex.keywords", Rows.laid_skua_lex_keywords), ("unicode/utf8.first", Rows.laid_unicode_utf8_first)]
theorem laid_mem {P : Program} {w : World} : ∀ {l : List (String × DataW Unit)} {ps : List MemPlace}, DataW.LaidVars P w l ps → ∀ {x : String × DataW Unit}, x ∈ l → ∃ q, DataW.LaidVars P w [x] q
 | [], _, _, _, hx => by cases hx
 | (n, d) :: r, ps, h, x, hx => by
  obtain ⟨g, t, cs, fuel, p, q, h1, h2, h3, h4, h5, _⟩ := h
  rcases List.mem_cons.1 hx with rfl | hx
  · exact ⟨_, g, t, cs, fuel, p, [], h1, h2, h3, h4, rfl, rfl⟩
  · exact laid_mem h5 hx
theorem laid_at {w : World} {ps : List MemPlace} (h : DataW.LaidVars Tryz.prog w laidTypes ps) {n : String} {d : DataW Unit} (hx : (n, d) ∈ laidTypes) {g : Nat} {t : TypeId} {m : Nat} {cs : Array Value}
  (hg : Tryz.prog.globalNamed n = some g) (ht : (Tryz.prog.globals[g]?).map (·.type) = some t) (hc : plainCells Tryz.prog m t d = some cs.toList) : LaidAt g cs w := by
 obtain ⟨q, hq⟩ := laid_mem h hx
 have := (laid_cells hq hg ht hc).1
 intro i hi
 rcases this i with h | h
 · rw [h]; simp
 · simp at h; omega
theorem laid_err {w : World} {ps : List MemPlace} (h : DataW.LaidVars Tryz.prog w laidTypes ps) {n nm : String} {d : DataW Unit} (hx : (n, .iface nm d) ∈ laidTypes) {g : Nat} {t : TypeId} {ms : Array (String × TypeId)}
  (hg : Tryz.prog.globalNamed n = some g) (ht : (Tryz.prog.globals[g]?).map (·.type) = some t) (hi : Tryz.prog.underlying t = some (.interface ms)) : HasErr g w := by
 obtain ⟨q, g', t', cs, fuel, p, q2, h1, h2, h3, h4, h5, _⟩ := laid_mem h hx
 obtain rfl := Option.some.inj (hg.symm.trans h1)
 obtain rfl := Option.some.inj (ht.symm.trans h2)
 obtain ⟨_, u, v, e, _, _⟩ := iface_of_trod hi h4
 refine ⟨.iface u v, ?_, .inr ⟨u, v, rfl⟩⟩
 have := World.var?_cell hg h3 0
 rw [this, ← Array.getElem?_toList, e]; rfl
theorem laid_var {w : World} {ps : List MemPlace} (h : DataW.LaidVars Tryz.prog w laidTypes ps) {n : String} {d : DataW Unit} (hx : (n, d) ∈ laidTypes) {g : Nat} {t : TypeId} {m : Nat} {cs : List Value}
  (hg : Tryz.prog.globalNamed n = some g) (ht : (Tryz.prog.globals[g]?).map (·.type) = some t) (hc : plainCells Tryz.prog m t d = some cs) : w.var? Tryz.prog n = some cs.toArray := by
 obtain ⟨q, g', t', cs', fuel, p, q2, h1, h2, h3, h4, h5, _⟩ := laid_mem h hx
 obtain rfl := Option.some.inj (hg.symm.trans h1)
 obtain rfl := Option.some.inj (ht.symm.trans h2)
 have e := plainCells_spec m fuel t cs'.toList d p cs h4 hc
 rw [h3, ← e]
theorem of_laid {W : World} (h : laidMetH Tryz.prog laidTypes W) (hsh : W.ShapedOpen Tryz.prog) : LaidP W := by
 rw [MakeChecks.laidMetH_plain _ _ _ (by kernel_rfl)] at h
 obtain ⟨ps, hv, _, _⟩ := h
 refine ⟨⟨?_, ?_, ?_, ?_⟩, ?_, ?_⟩
 · exact laid_at hv (n := "skua/lex.signs") (d := Rows.laid_skua_lex_signs) (by unfold laidTypes; repeat (first | exact List.mem_cons_self | apply List.mem_cons_of_mem)) (t := 96) (m := 8) (by kernel_rfl) (by kernel_rfl) (by kernel_rfl)
 · exact laid_at hv (n := "skua/lex.keywords") (d := Rows.laid_skua_lex_keywords) (by unfold laidTypes; repeat (first | exact List.mem_cons_self | apply List.mem_cons_of_mem)) (t := 125) (m := 8) (by kernel_rfl) (by kernel_rfl) (by kernel_rfl)
 · exact laid_err hv (n := "strconv.ErrSyntax") (by unfold laidTypes; repeat (first | exact List.mem_cons_self | apply List.mem_cons_of_mem)) (by kernel_rfl) (by kernel_rfl) Tryz.underlying81
 · exact laid_err hv (n := "strconv.ErrRange") (by unfold laidTypes; repeat (first | exact List.mem_cons_self | apply List.mem_cons_of_mem)) (by kernel_rfl) (by kernel_rfl) Tryz.underlying81
 · exact laid_var hv (g := 2) (n := "internal/strconv.uint64pow10") (d := Rows.laid_internal_strconv_uint64pow10) (by unfold laidTypes; repeat (first | exact List.mem_cons_self | apply List.mem_cons_of_mem)) (t := 128) (m := 8) (by kernel_rfl) (by kernel_rfl) (by kernel_rfl)
 · exact Go.Proofs.cell_of_shapedOpen_int (zero := #[.int .i64 0]) (t := 3) hsh (of_decide_eq_true (by kernel_rfl)) (by kernel_rfl) rfl (by kernel_rfl) (by kernel_rfl) Tryz.underlying3
theorem handed_and_shaped {H : Type} {enc : TypeId × Value → H} {a : Assume} {C : Checked} {os : Os} {f : FuncId} {fn : Func} {s : ChangeSpec} {conds : List PathCond} {apart fresh handsOn again : Bool} {X : World → Array Value → Prop}
  (hX : ∀ (w w' : World) (args : Array Value), w.heap = w'.heap → X w args → X w' args)
  (own : ownKnob C.prog.godebug = none) (started : os.Started) (noInit : C.prog.inits.idxOf? f = none) (hfn : C.prog.funcs[f]? = some fn)
  (witness : ∃ (w : World) (tape : Tape) (i : Input), w.os = os ∧ (w.forCall tape i).Shaped C.prog ∧ i.vars = [] ∧ Input.okWide C.prog (w.forCall tape i) .any w.heap.size f i ∧
   ((s.pre enc C.prog fn conds apart (w.forCall tape i).memory i.args ∧ X (w.forCall tape i).memory i.args) ∧ sizedMet enc C.prog fn (OpenSpec.ofChange s) apart (w.forCall tape i).memory i.args) ∧ a.holds C.prog (lone (Frame.enter C.prog f i.args .normal) [] (w.forCall tape i)))
  (contract : ∀ (W : World) (base : Nat) (args : Array Value) (ds gs : List (DataW H)) (before : List MemPlace),
   (∀ (j : Nat) t v, fn.params[j]? = some t → args[j]? = some v → Value.okWide C.prog W .any base t v) →
   DataW.Whole enc C.prog fn.params.toList s.vars apart W args.toList ds gs before → X W args → W.ShapedOpen C.prog →
   Calls C.prog f args W fun e W' => ∃ v, e = .returned v ∧ s.post enc C.prog fn apart fresh handsOn again W args v W') :
  ReturnsInHanded a C os f .any (fun w args => (s.pre enc C.prog fn conds apart w args ∧ X w args) ∧ sizedMet enc C.prog fn (OpenSpec.ofChange s) apart w args) (s.post enc C.prog fn apart fresh handsOn again) := by
 refine returnsInHanded_of_calls own started noInit witness ?_
 intro w tape i _ hsh _ hok hpre _
 obtain ⟨_, _, _, fn', hfn', _, _, _, _, hval⟩ := hok
 obtain rfl : fn' = fn := Option.some.inj (hfn'.symm.trans hfn)
 obtain ⟨⟨⟨ds, gs, before, hw, _⟩, hx⟩, _⟩ := hpre
 refine (contract (w.forCall tape i) w.heap.size i.args ds gs before hval (DataW.Whole.of_heap (w' := w.forCall tape i) (by rfl) hw) (hX _ _ _ (by rfl) hx) hsh).mono fun e W' ⟨v, he, hp⟩ => ?_
 subst he
 exact ChangeSpec.post_blind hp
theorem handed_shaped_sized {H : Type} {enc : TypeId × Value → H} {a : Assume} {C : Checked} {os : Os} {f : FuncId} {fn : Func} {s : ChangeSpec} {conds : List PathCond} {apart fresh handsOn again : Bool} {X : World → Array Value → Prop}
  (hX : ∀ (w w' : World) (args : Array Value), w.heap = w'.heap → X w args → X w' args)
  (own : ownKnob C.prog.godebug = none) (started : os.Started) (noInit : C.prog.inits.idxOf? f = none) (hfn : C.prog.funcs[f]? = some fn)
  (witness : ∃ (w : World) (tape : Tape) (i : Input), w.os = os ∧ (w.forCall tape i).Shaped C.prog ∧ i.vars = [] ∧ Input.okWide C.prog (w.forCall tape i) .any w.heap.size f i ∧
   ((s.pre enc C.prog fn conds apart (w.forCall tape i).memory i.args ∧ X (w.forCall tape i).memory i.args) ∧ sizedMet enc C.prog fn (OpenSpec.ofChange s) apart (w.forCall tape i).memory i.args) ∧ a.holds C.prog (lone (Frame.enter C.prog f i.args .normal) [] (w.forCall tape i)))
  (contract : ∀ (W : World) (base : Nat) (args : Array Value) (ds gs : List (DataW H)) (before : List MemPlace),
   (∀ (j : Nat) t v, fn.params[j]? = some t → args[j]? = some v → Value.okWide C.prog W .any base t v) →
   DataW.Whole enc C.prog fn.params.toList s.vars apart W args.toList ds gs before → X W args → W.ShapedOpen C.prog →
   (∃ ds gs before, DataW.Whole enc C.prog fn.params.toList s.vars apart W args.toList ds gs before ∧ (DataW.weightsEach C.prog (fn.params.toList ++ (OpenSpec.ofChange s).bare.plain.varTypes C.prog) (ds ++ gs)).all (· ≤ reachBytes) = true) →
   Calls C.prog f args W fun e W' => ∃ v, e = .returned v ∧ s.post enc C.prog fn apart fresh handsOn again W args v W') :
  ReturnsInHanded a C os f .any (fun w args => (s.pre enc C.prog fn conds apart w args ∧ X w args) ∧ sizedMet enc C.prog fn (OpenSpec.ofChange s) apart w args) (s.post enc C.prog fn apart fresh handsOn again) := by
 refine returnsInHanded_of_calls own started noInit witness ?_
 intro w tape i _ hsh _ hok hpre _
 obtain ⟨_, _, _, fn', hfn', _, _, _, _, hval⟩ := hok
 obtain rfl : fn' = fn := Option.some.inj (hfn'.symm.trans hfn)
 obtain ⟨⟨⟨ds, gs, before, hw, _⟩, hx⟩, _, ds2, gs2, bf2, hw2, hs2⟩ := hpre
 refine (contract (w.forCall tape i) w.heap.size i.args ds gs before hval (DataW.Whole.of_heap (w' := w.forCall tape i) (by rfl) hw) (hX _ _ _ (by rfl) hx) hsh ⟨ds2, gs2, bf2, DataW.Whole.of_heap (w' := w.forCall tape i) (by rfl) hw2, hs2⟩).mono fun e W' ⟨v, he, hp⟩ => ?_
 subst he
 exact ChangeSpec.post_blind hp
set_option maxRecDepth 100000 in
theorem sized_two {H : Type} {enc : TypeId × Value → H} {W : World} {b0 : Nat} {vars : List String} {apart : Bool} {extra : List TypeId} {a b : ByteArray} (ha : Value.okWide Tryz.prog W .any b0 9 (.string a)) (hb : Value.okWide Tryz.prog W .any b0 9 (.string b))
  (h : ∃ (ds gs : List (DataW H)) (before : List MemPlace), DataW.Whole enc Tryz.prog [9, 9] vars apart W [.string a, .string b] ds gs before ∧ (DataW.weightsEach Tryz.prog ([9, 9] ++ extra) (ds ++ gs)).all (· ≤ reachBytes) = true) : a.size ≤ 140737488351232 ∧ b.size ≤ 140737488351232 := by
 obtain ⟨ds, gs, bf, ⟨p, q, hA, _⟩, hs⟩ := h
 obtain ⟨v0, vs0, d0, ds0, p0, q0, e0, rfl, rfl, h0, r0⟩ := trodAll_cons hA
 injection e0 with e0 e1
 subst e0
 subst e1
 obtain ⟨v1, vs1, d1, ds1, p1, q1, e2, rfl, rfl, h1, r1⟩ := trodAll_cons r0
 injection e2 with e2 e3
 subst e2
 obtain ⟨s0, f0, rfl, _⟩ := Go.ChangeMaps.open_string Tryz.underlying9 ha h0
 obtain ⟨s1, f1, rfl, _⟩ := Go.ChangeMaps.open_string Tryz.underlying9 hb h1
 injection f0 with f0
 injection f1 with f1
 subst f0
 subst f1
 have z0 := sized_string hs (j := 0) (t := 9) (bytes := a.data.toList) rfl rfl
 have z1 := sized_string hs (j := 1) (t := 9) (bytes := b.data.toList) rfl rfl
 have r9 : reachBytes = 140737488351232 := rfl
 rw [r9] at z0 z1
 exact ⟨by rw [show a.size = a.data.toList.length from Array.length_toList.symm]; exact z0, by rw [show b.size = b.data.toList.length from Array.length_toList.symm]; exact z1⟩
end Go.Proofs.YtdimhoilfopndaaGreatDoor
end
