/- The frame of this seat's rows: the listed variables, as the program lays them, are what the walks ask. No condition. -/
import Derived.Test.YtaibjaienhnckaaDoorRows
import Derived.Test.YtaibjaienhnckaaDoorVk
import Derived.ProofKit
import Derived.LaidMore
import Derived.LaidLaws
import Derived.OpenShut
import Derived.Stop.Joined
import Derived.Lib.SmallJoins
import Derived.Shelf.Vars
import Derived.HandedShaped
import Derived.Lay
set_option linter.unusedVariables false
namespace Go.Proofs.YtaibjaienhnckaaDoor
open Go.ChangeShapes Go.WideShapes Go.ChangeAt Go.RowKit
theorem own : ownKnob Tryd.prog.godebug = none := by kernel_rfl
theorem laidOut : laidOutB Tryd.prog = true := by kernel_rfl
def laidTypes : List (String × DataW Unit) := [("math/bits.deBruijn32tab", Rows.laid_math_bits_deBruijn32tab), ("math/bits.deBruijn64tab", Rows.laid_math_bits_deBruijn64tab), ("internal/strconv.uint64pow10", Rows.laid_internal_strconv_uint64pow10), ("unicode/utf8.acceptRanges", Rows.laid_unicode_utf8_acceptRanges), ("strconv.ErrRange", Rows.laid_strconv_ErrRange), ("strconv.ErrSyntax", Rows.laid_strconv_ErrSyntax), ("skua/setup.entries", Rows.laid_skua_setup_entries), ("unicode/utf8.first", Rows.laid_unicode_utf8_first)]
theorem laid_mem {P : Program} {w : World} : ∀ {l : List (String × DataW Unit)} {ps : List MemPlace}, DataW.LaidVars P w l ps → ∀ {x : String × DataW Unit}, x ∈ l → ∃ q, DataW.LaidVars P w [x] q
  | [], _, _, _, hx => by cases hx
  | (n, d) :: r, ps, h, x, hx => by
    obtain ⟨g, t, cs, fuel, p, q, h1, h2, h3, h4, h5, _⟩ := h
    rcases List.mem_cons.1 hx with rfl | hx
    · exact ⟨_, g, t, cs, fuel, p, [], h1, h2, h3, h4, rfl, rfl⟩
    · exact laid_mem h5 hx
theorem laid_at {w : World} {ps : List MemPlace} (h : DataW.LaidVars Tryd.prog w laidTypes ps) {n : String} {d : DataW Unit} (hx : (n, d) ∈ laidTypes) {g : Nat} {t : TypeId} {m : Nat} {cs : Array Value}
    (hg : Tryd.prog.globalNamed n = some g) (ht : (Tryd.prog.globals[g]?).map (·.type) = some t) (hc : plainCells Tryd.prog m t d = some cs.toList) : LaidAt g cs w := by
  obtain ⟨q, hq⟩ := laid_mem h hx
  have := (laid_cells hq hg ht hc).1
  intro i hi
  rcases this i with h | h
  · rw [h]; simp
  · simp at h; omega
theorem laid_err {w : World} {ps : List MemPlace} (h : DataW.LaidVars Tryd.prog w laidTypes ps) {n nm : String} {d : DataW Unit} (hx : (n, .iface nm d) ∈ laidTypes) {g : Nat} {t : TypeId} {ms : Array (String × TypeId)}
    (hg : Tryd.prog.globalNamed n = some g) (ht : (Tryd.prog.globals[g]?).map (·.type) = some t) (hi : Tryd.prog.underlying t = some (.interface ms)) : HasErr g w := by
  obtain ⟨q, g', t', cs, fuel, p, q2, h1, h2, h3, h4, h5, _⟩ := laid_mem h hx
  obtain rfl := Option.some.inj (hg.symm.trans h1)
  obtain rfl := Option.some.inj (ht.symm.trans h2)
  obtain ⟨_, u, v, e, _, _⟩ := iface_of_trod hi h4
  refine ⟨.iface u v, ?_, .inr ⟨u, v, rfl⟩⟩
  have := World.var?_cell hg h3 0
  rw [this, ← Array.getElem?_toList, e]; rfl
theorem laid_var {w : World} {ps : List MemPlace} (h : DataW.LaidVars Tryd.prog w laidTypes ps) {n : String} {d : DataW Unit} (hx : (n, d) ∈ laidTypes) {g : Nat} {t : TypeId} {m : Nat} {cs : List Value}
    (hg : Tryd.prog.globalNamed n = some g) (ht : (Tryd.prog.globals[g]?).map (·.type) = some t) (hc : plainCells Tryd.prog m t d = some cs) : w.var? Tryd.prog n = some cs.toArray := by
  obtain ⟨q, g', t', cs', fuel, p, q2, h1, h2, h3, h4, h5, _⟩ := laid_mem h hx
  obtain rfl := Option.some.inj (hg.symm.trans h1)
  obtain rfl := Option.some.inj (ht.symm.trans h2)
  have e := plainCells_spec m fuel t cs'.toList d p cs h4 hc
  rw [h3, ← e]
theorem of_laid {W : World} (h : laidMetH Tryd.prog laidTypes W) (hsh : W.ShapedOpen Tryd.prog) : LaidS W := by
  rw [MakeChecks.laidMetH_plain _ _ _ (by kernel_rfl)] at h
  obtain ⟨ps, hv, _, _⟩ := h
  refine ⟨⟨?_, ?_, ?_, ?_, ?_⟩, ?_⟩
  · exact laid_at hv (n := "skua/setup.entries") (d := Rows.laid_skua_setup_entries) (by unfold laidTypes; repeat (first | exact List.mem_cons_self | apply List.mem_cons_of_mem)) (t := 61) (m := 8) (by kernel_rfl) (by kernel_rfl) (by kernel_rfl)
  · exact Go.Proofs.cell_of_shapedOpen_int (zero := #[.int .i64 0]) (t := 3) hsh (of_decide_eq_true (by kernel_rfl)) (by kernel_rfl) rfl (by kernel_rfl) (by kernel_rfl) Tryd.underlying3
  · exact laid_err hv (n := "strconv.ErrSyntax") (by unfold laidTypes; repeat (first | exact List.mem_cons_self | apply List.mem_cons_of_mem)) (by kernel_rfl) (by kernel_rfl) Tryd.underlying57
  · exact laid_err hv (n := "strconv.ErrRange") (by unfold laidTypes; repeat (first | exact List.mem_cons_self | apply List.mem_cons_of_mem)) (by kernel_rfl) (by kernel_rfl) Tryd.underlying57
  · exact laid_at hv (n := "internal/strconv.uint64pow10") (d := Rows.laid_internal_strconv_uint64pow10) (by unfold laidTypes; repeat (first | exact List.mem_cons_self | apply List.mem_cons_of_mem)) (t := 110) (m := 8) (by kernel_rfl) (by kernel_rfl) (by kernel_rfl)
  · exact laid_var hv (g := 2) (n := "internal/strconv.uint64pow10") (d := Rows.laid_internal_strconv_uint64pow10) (by unfold laidTypes; repeat (first | exact List.mem_cons_self | apply List.mem_cons_of_mem)) (t := 110) (m := 8) (by kernel_rfl) (by kernel_rfl) (by kernel_rfl)
/-- A call's claim out of a contract that is handed the world's shape and a condition on the world. -/
theorem handed_and_shaped {H : Type} {enc : TypeId × Value → H} {a : Assume} {C : Checked} {os : Os} {f : FuncId} {fn : Func} {s : ChangeSpec} {conds : List PathCond} {apart fresh handsOn again : Bool} {X : World → Array Value → Prop}
    (hX : ∀ (w w' : World) (args : Array Value), w.heap = w'.heap → X w args → X w' args)
    (own : ownKnob C.prog.godebug = none) (started : os.Started) (noInit : C.prog.inits.idxOf? f = none) (hfn : C.prog.funcs[f]? = some fn)
    (witness : ∃ (w : World) (tape : Tape) (i : Input), w.os = os ∧ (w.forCall tape i).Shaped C.prog ∧ i.vars = [] ∧ Input.okWide C.prog (w.forCall tape i) .any w.heap.size f i ∧
      ((s.pre enc C.prog fn conds apart (w.forCall tape i).memory i.args ∧ X (w.forCall tape i).memory i.args) ∧ sizedMet enc C.prog fn (OpenSpec.ofChange s) apart (w.forCall tape i).memory i.args) ∧ a.holds C.prog (lone (Frame.enter C.prog f i.args .normal) [] (w.forCall tape i)))
    (contract : ∀ (W : World) (base : Nat) (args : Array Value) (ds gs : List (DataW H)) (before : List MemPlace),
      (∀ (j : Nat) t v, fn.params[j]? = some t → args[j]? = some v → Value.okWide C.prog W .any base t v) →
      DataW.Whole enc C.prog fn.params.toList s.vars apart W args.toList ds gs before → X W args → W.ShapedOpen C.prog →
      Calls C.prog f args W fun e W' => ∃ v, e = .returned v ∧ s.post enc C.prog fn apart fresh handsOn again W args v W') :
    ReturnsInHanded a C os f .any (fun w args => (s.pre enc C.prog fn conds apart w args ∧ X w args) ∧ sizedMet enc C.prog fn (OpenSpec.ofChange s) apart w args) (s.post enc C.prog fn apart fresh handsOn again) := by
  refine returnsInHanded_of_calls own started noInit witness ?_
  intro w tape i _ hsh _ hok hpre _
  obtain ⟨_, _, _, fn', hfn', _, _, _, _, hval⟩ := hok
  obtain rfl : fn' = fn := Option.some.inj (hfn'.symm.trans hfn)
  obtain ⟨⟨⟨ds, gs, before, hw, _⟩, hx⟩, _⟩ := hpre
  refine (contract (w.forCall tape i) w.heap.size i.args ds gs before hval (DataW.Whole.of_heap (w' := w.forCall tape i) (by rfl) hw) (hX _ _ _ (by rfl) hx) hsh).mono fun e W' ⟨v, he, hp⟩ => ?_
  subst he
  exact ChangeSpec.post_blind hp
set_option maxRecDepth 100000 in
/-- A setup by value, opened. -/
theorem open_setup {H : Type} {enc : TypeId × Value → H} {W : World} {b0 base : Nat} {spare : Nat → Bool} {held : Bool} {v : Value} {d : DataW H} {p : List MemPlace} (hv : Value.okWide Tryd.prog W .any b0 24 v)
    (h : DataW.Trod enc Tryd.prog W base spare held 24 v d p) : ∃ c : Cfg, v = c.val := by
  obtain ⟨cs, rfl, hsz⟩ := okWide_struct Tryd.underlying24 hv
  have hs7 : cs.size = 7 := hsz.trans (show Tryd.prog.cellsOf 24 = 7 by kernel_rfl)
  obtain ⟨fuel, hf⟩ := h
  obtain ⟨xs, m, _, hx, hl, hlen, hfs⟩ := DataW.trod_struct Tryd.underlying24 hf
  obtain ⟨c0, c1, c2, c3, c4, c5, c6, hcs⟩ : ∃ c0 c1 c2 c3 c4 c5 c6, cs = #[c0, c1, c2, c3, c4, c5, c6] := by
    obtain ⟨l⟩ := cs
    have hl7 : l.length = 7 := hs7
    match l, hl7 with
    | [c0, c1, c2, c3, c4, c5, c6], _ => exact ⟨c0, c1, c2, c3, c4, c5, c6, rfl⟩
  subst hcs
  have hint : ∀ (c : Value) (x : DataW H × List MemPlace), DataW.trod enc Tryd.prog W base spare held m 3 [c] = some x → ∃ n, c = .int .i64 n := fun c x hx => by
    obtain ⟨n, h1, _⟩ := DataW.trod_int Tryd.underlying3 hx
    exact ⟨n, by simpa using h1⟩
  have hbool : ∀ (c : Value) (x : DataW H × List MemPlace), DataW.trod enc Tryd.prog W base spare held m 4 [c] = some x → ∃ n, c = .bool n := fun c x hx => by
    obtain ⟨n, h1, _⟩ := DataW.trod_bool Tryd.underlying4 hx
    exact ⟨n, by simpa using h1⟩
  have hat : ∀ j, j < 7 → ∃ x, xs[j]? = some x := fun j hj => ⟨_, List.getElem?_eq_getElem (show j < xs.length by rw [hlen]; exact hj)⟩
  obtain ⟨x0, hx0⟩ := hat 0 (by decide)
  obtain ⟨x1, hx1⟩ := hat 1 (by decide)
  obtain ⟨x2, hx2⟩ := hat 2 (by decide)
  obtain ⟨x3, hx3⟩ := hat 3 (by decide)
  obtain ⟨x4, hx4⟩ := hat 4 (by decide)
  obtain ⟨x5, hx5⟩ := hat 5 (by decide)
  obtain ⟨x6, hx6⟩ := hat 6 (by decide)
  obtain ⟨n0, e0⟩ := hint c0 x0 ((hfs 0 _ rfl).trans hx0)
  obtain ⟨n1, e1⟩ := hint c1 x1 ((hfs 1 _ rfl).trans hx1)
  obtain ⟨n2, e2⟩ := hint c2 x2 ((hfs 2 _ rfl).trans hx2)
  obtain ⟨n3, e3⟩ := hint c3 x3 ((hfs 3 _ rfl).trans hx3)
  obtain ⟨n4, e4⟩ := hint c4 x4 ((hfs 4 _ rfl).trans hx4)
  obtain ⟨n5, e5⟩ := hint c5 x5 ((hfs 5 _ rfl).trans hx5)
  obtain ⟨n6, e6⟩ := hbool c6 x6 ((hfs 6 _ rfl).trans hx6)
  subst e0 e1 e2 e3 e4 e5 e6
  exact ⟨⟨n0, n1, n2, n3, n4, n5, n6⟩, rfl⟩
end Go.Proofs.YtaibjaienhnckaaDoor
