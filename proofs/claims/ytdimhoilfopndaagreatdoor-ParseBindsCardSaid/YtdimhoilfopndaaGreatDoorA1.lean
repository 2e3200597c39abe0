/- Texts of one proof, put together: L M Ya N. Conditions: as each lemma says. -/
import Derived.OpenShut
import Derived.Test.YtdimhoilfopndaaGreatDoorA0
set_option linter.unusedVariables false
set_option linter.unusedSimpArgs false
section
namespace Go
open Go.RowKit
mutual
def plainCells (P : Program) : Nat → TypeId → DataW Unit → Option (List Value)
 | 0, _, _ => none
 | n + 1, t, d =>
  match P.underlying t, d with
  | some .bool, .lit (.bool b) => some [.bool b]
  | some (.int k), .lit (.int k' x) => if k = k' then some [.int k x] else none
  | some .string, .lit (.string l) => some [.string ⟨l.toArray⟩]
  | some (.struct fs), .agg ds => plainParts P n (P.cellsOf t) (fs.toList.map fun f => (f.type, f.offset)) ds 0
  | some (.array m e), .agg ds => plainParts P n (P.cellsOf t) ((List.range m).map fun i => (e, i * P.cellsOf e)) ds 0
  | _, _ => none
def plainParts (P : Program) : Nat → Nat → List (TypeId × Nat) → List (DataW Unit) → Nat → Option (List Value)
 | _, size, [], [], o => if o = size then some [] else none
 | n, size, (t, off) :: ps, d :: ds, o =>
  if off = o then
   match plainCells P n t d, plainParts P n size ps ds (o + P.cellsOf t) with
   | some c, some r => some (c ++ r)
   | _, _ => none
  else none
 | _, _, _, _, _ => none
end
section
variable {enc : TypeId × Value → Unit} {P : Program} {w : World} {base : Nat} {spare : Nat → Bool} {held : Bool}
theorem plainParts_spec (n : Nat) (ih : ∀ fuel t cs d p cs', DataW.trod enc P w base spare held fuel t cs = some (d, p) → plainCells P n t d = some cs' → cs = cs')
  (fuel size : Nat) (cs : List Value) (hcs : cs.length = size) : ∀ (ps : List (TypeId × Nat)) (xs : List (DataW Unit × List MemPlace)) (o : Nat) (r : List Value),
   (∀ (i : Nat) (q : TypeId × Nat), ps[i]? = some q → DataW.trod enc P w base spare held fuel q.1 ((cs.drop q.2).take (P.cellsOf q.1)) = xs[i]?) →
   plainParts P n size ps (xs.map (·.1)) o = some r → cs.drop o = r
 | [], xs, o, r, _, h => by
  cases xs with
  | nil =>
   simp only [List.map_nil, plainParts] at h
   split at h
   · simp at h; subst h; rename_i e; rw [e, ← hcs, List.drop_length]
   · cases h
  | cons x xs => simp [plainParts] at h
 | (t, off) :: ps, xs, o, r, hp, h => by
  cases xs with
  | nil => simp [plainParts] at h
  | cons x xs =>
   simp only [List.map_cons, plainParts] at h
   split at h
   ·
    rename_i e
    subst e
    split at h
    ·
     rename_i c r' hc hr
     simp at h
     subst h
     have h0 := hp 0 (t, off) rfl
     simp only [List.getElem?_cons_zero] at h0
     have e1 := ih _ _ _ x.1 x.2 c (by simpa using h0) hc
     have e2 := plainParts_spec n ih fuel size cs hcs ps xs (off + P.cellsOf t) r' (fun i q hq => by simpa using hp (i + 1) q (by simpa using hq)) hr
     rw [← e1, ← e2, ← List.drop_drop, List.take_append_drop]
    · cases h
   · cases h
theorem plainCells_spec : ∀ (n fuel : Nat) (t : TypeId) (cs : List Value) (d : DataW Unit) (p : List MemPlace) (cs' : List Value),
  DataW.trod enc P w base spare held fuel t cs = some (d, p) → plainCells P n t d = some cs' → cs = cs'
 | 0, _, _, _, _, _, _, _, h => by simp [plainCells] at h
 | n + 1, fuel, t, cs, d, p, cs', h, hc => by
  unfold plainCells at hc
  split at hc
  ·
   rename_i b ht
   obtain ⟨b', e1, e2⟩ := DataW.trod_bool ht h
   simp at e2 hc
   rw [e1, ← hc, e2.1]
  ·
   rename_i k k' x ht
   split at hc
   ·
    rename_i e
    subst e
    obtain ⟨b', e1, e2, _⟩ := DataW.trod_int ht h
    simp at e2 hc
    rw [e1, ← hc, e2.1]
   · cases hc
  ·
   rename_i l ht
   obtain ⟨b', e1, e2, _⟩ := DataW.trod_string ht h
   simp at e2 hc
   rw [e1, ← hc, e2.1]
  ·
   rename_i fs ds ht
   obtain ⟨xs, m, _, hx, hl, hlen, hf⟩ := DataW.trod_struct ht h
   simp only [Prod.mk.injEq, DataW.agg.injEq] at hx
   rw [hx.1] at hc
   have := plainParts_spec n (plainCells_spec n) m _ cs hl _ xs 0 cs' (fun i q hq => by
    rw [List.getElem?_map] at hq
    obtain ⟨f, hfi, rfl⟩ := Option.map_eq_some_iff.1 hq
    exact hf i f (by simpa using hfi)) hc
   simpa using this
  ·
   rename_i m e ds ht
   obtain ⟨xs, m1, _, hx, hl, hlen, hf⟩ := DataW.trod_array ht h
   simp only [Prod.mk.injEq, DataW.agg.injEq] at hx
   rw [hx.1] at hc
   have := plainParts_spec n (plainCells_spec n) m1 _ cs hl _ xs 0 cs' (fun i q hq => by
    rw [List.getElem?_map] at hq
    obtain ⟨j, hj, rfl⟩ := Option.map_eq_some_iff.1 hq
    obtain ⟨hj1, hj2⟩ := List.getElem?_eq_some_iff.1 hj
    simp at hj1 hj2
    subst hj2
    exact hf _ (by simpa using hj1)) hc
   simpa using this
  · cases hc
theorem laid_cells {n : String} {d : DataW Unit} {r : List (String × DataW Unit)} {ps : List MemPlace} (h : DataW.LaidVars P w ((n, d) :: r) ps) {g : Nat} {t : TypeId} {m : Nat} {cs : List Value}
  (hg : P.globalNamed n = some g) (ht : (P.globals[g]?).map (·.type) = some t) (hc : plainCells P m t d = some cs) :
  (∀ i : Nat, w.cell? ⟨g, i, none⟩ = cs[i]? ∨ cs.length ≤ i) ∧ ∃ q, DataW.LaidVars P w r q := by
 obtain ⟨g', t', cs', fuel, p, q, h1, h2, h3, h4, h5, _⟩ := h
 obtain rfl := Option.some.inj (hg.symm.trans h1)
 obtain rfl := Option.some.inj (ht.symm.trans h2)
 have e := plainCells_spec m fuel t cs'.toList d p cs h4 hc
 refine ⟨fun i => ?_, q, h5⟩
 by_cases hi : i < cs.length
 ·
  left
  have := World.var?_cell hg h3 i
  rw [this, ← e]
  simp
 · right; omega
end
theorem run_loadVar_cells {P : Program} (w : World) (g : Nat) (ty : TypeId) (cs : Array Value) (d : TypeDesc) (hc : ∀ i : Nat, i < cs.size → w.cell? ⟨g, i, none⟩ = cs[i]?)
  (hu : P.underlying ty = some d) (hd : (match d with | .struct _ | .array _ _ => true | _ => false) = true) (hi : (P.info? ty).map (·.size) = some cs.size) :
  (loadVar ty ⟨g, 0, none⟩).run P w = .ok (.agg cs) w := by
 have hl : (loadCells ⟨g, 0, none⟩ cs.toList.length).run P w = .ok cs.toList.toArray w :=
  run_loadCells_list (P := P) w ⟨g, 0, none⟩ cs.toList (fun j v hv => by
   have hadd : (⟨g, 0, none⟩ : Addr).add j = ⟨g, j, none⟩ := by unfold Addr.add; split <;> simp_all
   have hj : j < cs.size := by
    rcases Nat.lt_or_ge j cs.size with h | h
    · exact h
    · rw [List.getElem?_eq_none (by simpa using h)] at hv; cases hv
   rw [hadd, hc j hj]
   simpa using hv)
 cases hq : P.info? ty with
 | none => simp [hq] at hi
 | some i =>
  have hs : i.size = cs.size := by simpa [hq] using hi
  have hagg : (isAgg ty).run P w = .ok true w := by
   unfold isAgg
   rw [Sem.run_bind, run_underlying hu w]
   cases d <;> simp_all
  simp only [Array.length_toList, Array.toArray_toList] at hl
  simp [loadVar, Sem.run_bind, hagg, sizeOf, typeInfo, hq, hs, hl]
theorem run_load_table {P : Program} {W : World} {g : Nat} {ty : TypeId} {cs : Array Value} {d : TypeDesc} (hc : ∀ i : Nat, i < cs.size → W.cell? ⟨g, i, none⟩ = cs[i]?)
  (hu : P.underlying ty = some d) (hd : (match d with | .struct _ | .array _ _ => true | _ => false) = true) (hi : (P.info? ty).map (·.size) = some cs.size)
  (A : Act) (dst : Option Tmp) (rt : TypeId) (pos : String) (after : Array Edge) (gd : Option (Nat × Bool)) :
  (execOp A.eval ⟨dst, .load ty (.global g), rt, pos, after, gd⟩).run P W = .ok (.value (.agg cs)) W := by
 unfold execOp
 have : A.eval (.global g) = .pointer (some ⟨g, 0, none⟩) := rfl
 simp only [this, Instr.loadAt, Instr.sureAddr, Sem.run_bind, Sem.run_pure, Result.andThen_ok, run_loadVar_cells W g ty cs d hc hu hd hi]
end Go
end
section
namespace Go
open Go.RowKit
def World.dr (w : World) (d : Nat) : World := { w with drawn := d }
section
variable (w : World) (d e : Nat) (x : Ext) (p : Addr)
@[go_sem] theorem World.dr_dr : (w.dr d).dr e = w.dr e := rfl
@[go_sem] theorem World.drew_dr : (w.dr d).drew = w.dr (d + 1) := rfl
@[go_sem] theorem World.drewN_dr (n : Nat) : (w.dr d).drewN n = w.dr (d + n) := rfl
@[go_sem] theorem World.cell_dr : (w.dr d).cell? p = w.cell? p := rfl
@[go_sem] theorem World.frozen_dr : (w.dr d).frozen? p = w.frozen? p := rfl
@[go_sem] theorem World.size_dr : (w.dr d).heap.size = w.heap.size := rfl
@[go_sem] theorem World.tape_dr : (w.dr d).tape = w.tape := rfl
@[go_sem] theorem World.setCell_dr (v : Value) : (w.dr d).setCell p v = (w.setCell p v).dr d := rfl
@[go_sem] theorem World.alloc_dr (o : Obj) : (w.dr d).alloc o = (w.alloc o).dr d := rfl
@[go_sem] theorem World.ov_dr : (w.dr d).ov x = w.ov x := rfl
theorem World.dr_is_ov : w.dr d = w.ov ⟨#[], d⟩ := by simp [World.dr, World.ov]
end
def IsDr (w w' : World) : Prop := ∃ d, w' = w.dr d
theorem IsDr.refl (w : World) : IsDr w w := ⟨w.drawn, rfl⟩
theorem IsDr.dr {w w' : World} (h : IsDr w w') (d : Nat) : IsDr w (w'.dr d) := ⟨d, by obtain ⟨e, rfl⟩ := h; rfl⟩
theorem IsDr.drew {w w' : World} (h : IsDr w w') : IsDr w w'.drew := by obtain ⟨e, rfl⟩ := h; exact ⟨_, rfl⟩
theorem IsDr.drewN {w w' : World} (h : IsDr w w') (n : Nat) : IsDr w (w'.drewN n) := by obtain ⟨e, rfl⟩ := h; exact ⟨_, rfl⟩
theorem IsDr.ov (W : World) (x : Ext) (d : Nat) : IsDr (W.ov x) (W.ov ⟨x.blocks, d⟩) := ⟨d, rfl⟩
theorem IsDr.isOv {w w' : World} (h : IsDr w w') : IsOv w w' := by obtain ⟨d, rfl⟩ := h; exact ⟨_, World.dr_is_ov w d⟩
theorem IsOv.dr {w w' : World} (h : IsOv w w') (d : Nat) : IsOv w (w'.dr d) := h.trans ⟨_, World.dr_is_ov w' d⟩
theorem IsOv.drewN {w w' : World} (h : IsOv w w') (n : Nat) : IsOv w (w'.drewN n) := h.trans (IsDr.isOv ⟨_, rfl⟩)
theorem IsOv.cell {w w' : World} {p : Addr} {v : Value} (h : IsOv w w') (hc : w.cell? p = some v) : w'.cell? p = some v := by
 obtain ⟨x, rfl⟩ := h
 rw [World.cell_ov_lt w x p (block_lt_of_cell hc)]; exact hc
def Says (P : Program) (f : FuncId) (args : Array Value) (w : World) (v : Value) : Prop :=
 Calls P f args w fun e w' => e = .returned v ∧ IsDr w w'
section
variable {P : Program} {f : FuncId} {args : Array Value} {W : World} {v : Value}
theorem Says.gives (h : Says P f args W v) : Gives P f args W v := Calls.mono h fun _ _ hh => ⟨hh.1, hh.2.isOv⟩
theorem Says.quiet {d : Nat} (h : Says P f args (W.dr d) v) : Calls P f args (W.dr d) fun e w'' => e = .returned v ∧ ∃ y, w'' = W.dr y :=
 Calls.mono h fun _ _ ⟨he, y, hy⟩ => ⟨he, y, hy⟩
theorem wp_region_dr {id : Nat} {Q : Exit → Act → World → Prop} {a : Act} {l : List Oper} (hm : P.follows .mixedOrders = true) (hB : Region.lexB .any l.toArray = true)
  (h : wpQuiet P l.toArray (fun w' => ∃ x, w' = W.dr x) (fun a' => ∀ w', (∃ x, w' = W.dr x) → Q .normal a' w') l a) : (Code.region id l.toArray true).wp P Q a W :=
 wp_region_quiet (C := fun w' => ∃ x, w' = W.dr x) hm hB ⟨_, rfl⟩ (by simpa using h)
end
theorem World.LW_cell (W : World) (c : Array Value) (t : TypeId) (fr : Nat × Nat) (x : Ext) (d i : Nat) : (((W.alloc (.cells c t fr)).ov x).dr d).cell? ⟨W.heap.size, i, none⟩ = c[i]? := by
 rw [World.cell_dr, World.cell_ov_lt _ _ _ (by show W.heap.size < (W.heap.push _).size; rw [Array.size_push]; omega)]
 unfold World.cell?
 rw [heap_alloc_new]
 rfl
theorem World.setCell_alloc_ov (W : World) (c : Array Value) (t : TypeId) (fr : Nat × Nat) (x : Ext) (n i : Nat) (v : Value) (h : n = W.heap.size) :
  ((W.alloc (.cells c t fr)).ov x).setCell ⟨n, i, none⟩ v = (W.alloc (.cells (c.setIfInBounds i v) t fr)).ov x := by
 subst h
 unfold World.ov World.alloc World.setCell
 simp only [Option.isSome_none, Bool.false_eq_true, if_false]
 congr 1
 apply Array.ext_getElem?
 intro k
 rw [Array.getElem?_modify]
 by_cases hk : k < W.heap.size
 · rw [if_neg (by omega), Array.getElem?_append_left (by simp; omega), Array.getElem?_append_left (by simp; omega), Array.getElem?_push, Array.getElem?_push, if_neg (by omega), if_neg (by omega)]
 ·
  by_cases e : W.heap.size = k
  ·
   subst e
   rw [if_pos rfl, Array.getElem?_append_left (by simp), Array.getElem?_append_left (by simp)]
   simp
  ·
   rw [if_neg e, Array.getElem?_append_right (by simp; omega), Array.getElem?_append_right (by simp; omega)]
   simp
end Go
end
section
namespace Go.Proofs.YtdimhoilfopndaaGreatDoor
open Go.RowKit
def sgL : List (List UInt8) := [[124, 124], [38, 38], [61, 61], [33, 61], [60, 61], [62, 61], [60, 60], [62, 62], [43], [45], [42], [47], [37], [38], [124], [94], [126], [33], [60], [62], [61], [40], [41], [123], [125], [91], [93], [44], [59]]
def kwL : List (List UInt8) := [[98, 111, 111, 108], [117, 56], [117, 49, 54], [117, 51, 50], [117, 54, 52], [105, 56], [105, 49, 54], [105, 51, 50], [105, 54, 52], [118, 111, 105, 100], [105, 102], [101, 108, 115, 101], [119, 104, 105, 108, 101], [114, 101, 116, 117, 114, 110], [97, 115, 115, 101, 114, 116], [97, 115, 115, 117, 109, 101], [110, 111, 110, 100, 101, 116], [116, 114, 117, 101], [102, 97, 108, 115, 101]]
def sgCells : Array Value := #[.string ⟨#[124, 124]⟩, .string ⟨#[38, 38]⟩, .string ⟨#[61, 61]⟩, .string ⟨#[33, 61]⟩, .string ⟨#[60, 61]⟩, .string ⟨#[62, 61]⟩, .string ⟨#[60, 60]⟩, .string ⟨#[62, 62]⟩, .string ⟨#[43]⟩, .string ⟨#[45]⟩, .string ⟨#[42]⟩, .string ⟨#[47]⟩, .string ⟨#[37]⟩, .string ⟨#[38]⟩, .string ⟨#[124]⟩, .string ⟨#[94]⟩, .string ⟨#[126]⟩, .string ⟨#[33]⟩, .string ⟨#[60]⟩, .string ⟨#[62]⟩, .string ⟨#[61]⟩, .string ⟨#[40]⟩, .string ⟨#[41]⟩, .string ⟨#[123]⟩, .string ⟨#[125]⟩, .string ⟨#[91]⟩, .string ⟨#[93]⟩, .string ⟨#[44]⟩, .string ⟨#[59]⟩]
def kwCells : Array Value := #[.string ⟨#[98, 111, 111, 108]⟩, .string ⟨#[117, 56]⟩, .string ⟨#[117, 49, 54]⟩, .string ⟨#[117, 51, 50]⟩, .string ⟨#[117, 54, 52]⟩, .string ⟨#[105, 56]⟩, .string ⟨#[105, 49, 54]⟩, .string ⟨#[105, 51, 50]⟩, .string ⟨#[105, 54, 52]⟩, .string ⟨#[118, 111, 105, 100]⟩, .string ⟨#[105, 102]⟩, .string ⟨#[101, 108, 115, 101]⟩, .string ⟨#[119, 104, 105, 108, 101]⟩, .string ⟨#[114, 101, 116, 117, 114, 110]⟩, .string ⟨#[97, 115, 115, 101, 114, 116]⟩, .string ⟨#[97, 115, 115, 117, 109, 101]⟩, .string ⟨#[110, 111, 110, 100, 101, 116]⟩, .string ⟨#[116, 114, 117, 101]⟩, .string ⟨#[102, 97, 108, 115, 101]⟩]
def LaidAt (g : Nat) (cs : Array Value) (w : World) : Prop := ∀ i : Nat, i < cs.size → w.cell? ⟨g, i, none⟩ = cs[i]?
def HasErr (g : Nat) (w : World) : Prop := ∃ ev : Value, w.cell? ⟨g, 0, none⟩ = some ev ∧ (ev = .nilIface ∨ ∃ te pe, ev = .iface te pe)
structure LaidX (w : World) : Prop where
 sg : LaidAt 0 sgCells w
 kw : LaidAt 1 kwCells w
 es : HasErr 4 w
 er : HasErr 5 w
theorem LaidAt.of_isOv {g : Nat} {cs : Array Value} {w w' : World} (h : LaidAt g cs w) (hn : 0 < cs.size) (hb : IsOv w w') : LaidAt g cs w' := fun i hi => by
 have hs : g < w.heap.size := by
  have h0 := h 0 hn
  rw [Array.getElem?_eq_getElem hn] at h0
  exact block_lt_of_cell (a := ⟨g, 0, none⟩) h0
 obtain ⟨x, rfl⟩ := hb
 rw [World.cell_ov_lt w x ⟨g, i, none⟩ hs]; exact h i hi
theorem HasErr.of_isOv {g : Nat} {w w' : World} (h : HasErr g w) (hb : IsOv w w') : HasErr g w' := by
 obtain ⟨ev, h1, h2⟩ := h
 have hs : g < w.heap.size := block_lt_of_cell (a := ⟨g, 0, none⟩) h1
 obtain ⟨x, rfl⟩ := hb
 exact ⟨ev, by rw [World.cell_ov_lt w x ⟨g, 0, none⟩ hs]; exact h1, h2⟩
theorem LaidX.of_isOv {w w' : World} (h : LaidX w) (hb : IsOv w w') : LaidX w' :=
 ⟨h.sg.of_isOv (by decide) hb, h.kw.of_isOv (by decide) hb, h.es.of_isOv hb, h.er.of_isOv hb⟩
theorem LaidX.alloc {w : World} (h : LaidX w) (o : Obj) : LaidX (w.alloc o) := h.of_isOv ((IsOv.refl w).alloc o)
theorem LaidX.ov {w : World} (h : LaidX w) (x : Ext) : LaidX (w.ov x) := h.of_isOv ((IsOv.refl w).ov x)
theorem load_sg {W : World} (h : LaidX W) (A : Act) (dst : Option Tmp) (rt : TypeId) (pos : String) (after : Array Edge) (gd : Option (Nat × Bool)) :
  (execOp A.eval ⟨dst, .load 96 (.global 0), rt, pos, after, gd⟩).run Tryz.prog W = .ok (.value (.agg sgCells)) W :=
 run_load_table h.sg Tryz.underlying96 rfl (by kernel_rfl) A dst rt pos after gd
theorem load_kw {W : World} (h : LaidX W) (A : Act) (dst : Option Tmp) (rt : TypeId) (pos : String) (after : Array Edge) (gd : Option (Nat × Bool)) :
  (execOp A.eval ⟨dst, .load 125 (.global 1), rt, pos, after, gd⟩).run Tryz.prog W = .ok (.value (.agg kwCells)) W :=
 run_load_table h.kw Tryz.underlying125 rfl (by kernel_rfl) A dst rt pos after gd
def sgAt (i : Nat) : ByteArray := ⟨(sgL.getD i []).toArray⟩
def kwAt (i : Nat) : ByteArray := ⟨(kwL.getD i []).toArray⟩
theorem sg_index (i : Nat) (h : i < 29) (w : World) : (Instr.index 96 (.agg sgCells) (.int .i64 (i : Int))).run Tryz.prog w = .ok (.string (sgAt i)) w :=
 match i, h with
 | 0, _ => by kernel_rfl
 | 1, _ => by kernel_rfl
 | 2, _ => by kernel_rfl
 | 3, _ => by kernel_rfl
 | 4, _ => by kernel_rfl
 | 5, _ => by kernel_rfl
 | 6, _ => by kernel_rfl
 | 7, _ => by kernel_rfl
 | 8, _ => by kernel_rfl
 | 9, _ => by kernel_rfl
 | 10, _ => by kernel_rfl
 | 11, _ => by kernel_rfl
 | 12, _ => by kernel_rfl
 | 13, _ => by kernel_rfl
 | 14, _ => by kernel_rfl
 | 15, _ => by kernel_rfl
 | 16, _ => by kernel_rfl
 | 17, _ => by kernel_rfl
 | 18, _ => by kernel_rfl
 | 19, _ => by kernel_rfl
 | 20, _ => by kernel_rfl
 | 21, _ => by kernel_rfl
 | 22, _ => by kernel_rfl
 | 23, _ => by kernel_rfl
 | 24, _ => by kernel_rfl
 | 25, _ => by kernel_rfl
 | 26, _ => by kernel_rfl
 | 27, _ => by kernel_rfl
 | 28, _ => by kernel_rfl
 | n + 29, h => absurd h (by omega)
theorem kw_index (i : Nat) (h : i < 19) (w : World) : (Instr.index 125 (.agg kwCells) (.int .i64 (i : Int))).run Tryz.prog w = .ok (.string (kwAt i)) w :=
 match i, h with
 | 0, _ => by kernel_rfl
 | 1, _ => by kernel_rfl
 | 2, _ => by kernel_rfl
 | 3, _ => by kernel_rfl
 | 4, _ => by kernel_rfl
 | 5, _ => by kernel_rfl
 | 6, _ => by kernel_rfl
 | 7, _ => by kernel_rfl
 | 8, _ => by kernel_rfl
 | 9, _ => by kernel_rfl
 | 10, _ => by kernel_rfl
 | 11, _ => by kernel_rfl
 | 12, _ => by kernel_rfl
 | 13, _ => by kernel_rfl
 | 14, _ => by kernel_rfl
 | 15, _ => by kernel_rfl
 | 16, _ => by kernel_rfl
 | 17, _ => by kernel_rfl
 | 18, _ => by kernel_rfl
 | n + 19, h => absurd h (by omega)
def kwB (s : List UInt8) : Bool := kwL.contains s
def digitB (c : Int) : Bool := decide (48 ≤ c) && decide (c ≤ 57)
def letterB (c : Int) : Bool := (decide (97 ≤ c) && decide (c ≤ 122)) || (decide (65 ≤ c) && decide (c ≤ 90)) || c == 95 || digitB c
def spaceB (c : Int) : Bool := c == 32 || c == 9 || c == 13 || c == 10
def lineB (c : Int) : Bool := c != 10
set_option maxHeartbeats 4000000 in
theorem digit_says (c : Int) (w : World) : Says Tryz.prog 52 #[.int .u8 c] w (.bool (digitB c)) := by
 unfold Says
 go_enter Tryz.func52, Tryz.ntmps52
 go_wp2
 all_goals
  go_ret
  refine ⟨congrArg (fun b => Ending.returned (Value.bool b)) (?_ : (_ : Bool) = _), by repeat (first | exact IsDr.refl _ | exact IsDr.ov _ _ _ | apply IsDr.dr | apply IsDr.drewN | apply IsDr.drew)⟩
  rw [Bool.eq_iff_iff]
  (simp [digitB, digitB]) <;> omega
set_option maxHeartbeats 4000000 in
theorem letter_says (c : Int) (w : World) : Says Tryz.prog 51 #[.int .u8 c] w (.bool (letterB c)) := by
 unfold Says
 go_enter Tryz.func51, Tryz.ntmps51
 go_wp2_with (first | (go_at_call 52; refine (digit_says _ _).mono ?_; rintro e w' ⟨rfl, x, rfl⟩) | (refine wp_region_dr (by kernel_rfl) (by kernel_rfl) ?_; (repeat (go_big_quiet_step (((go_at_call 52; exact (digit_says _ _).quiet))))); refine wpQuiet_nil ?_; rintro _ ⟨nq, rfl⟩))
 all_goals
  go_ret
  refine ⟨congrArg (fun b => Ending.returned (Value.bool b)) (?_ : (_ : Bool) = _), by repeat (first | exact IsDr.refl _ | exact IsDr.ov _ _ _ | apply IsDr.dr | apply IsDr.drewN | apply IsDr.drew)⟩
  rw [Bool.eq_iff_iff]
  (simp [letterB, digitB]) <;> omega
set_option maxHeartbeats 4000000 in
theorem space_says (c : Int) (w : World) : Says Tryz.prog 48 #[.int .u8 c] w (.bool (spaceB c)) := by
 unfold Says
 go_enter Tryz.func48, Tryz.ntmps48
 go_wp2
 all_goals
  go_ret
  refine ⟨congrArg (fun b => Ending.returned (Value.bool b)) (?_ : (_ : Bool) = _), by repeat (first | exact IsDr.refl _ | exact IsDr.ov _ _ _ | apply IsDr.dr | apply IsDr.drewN | apply IsDr.drew)⟩
  rw [Bool.eq_iff_iff]
  (simp [spaceB, digitB]) <;> omega
set_option maxHeartbeats 4000000 in
theorem line_says (c : Int) (w : World) : Says Tryz.prog 50 #[.int .u8 c] w (.bool (lineB c)) := by
 unfold Says
 go_enter Tryz.func50, Tryz.ntmps50
 go_wp2
 all_goals
  go_ret
  refine ⟨congrArg (fun b => Ending.returned (Value.bool b)) (?_ : (_ : Bool) = _), by repeat (first | exact IsDr.refl _ | exact IsDr.ov _ _ _ | apply IsDr.dr | apply IsDr.drewN | apply IsDr.drew)⟩
  rw [Bool.eq_iff_iff]
  (simp [lineB, digitB]) <;> omega
end Go.Proofs.YtdimhoilfopndaaGreatDoor
end
section
namespace Go
open Go.RowKit
theorem cell_of_heap {w : World} {b : Nat} {cs : Array Value} {t : TypeId} {fr : Nat × Nat} (h : w.heap[b]? = some (.cells cs t fr)) (i : Nat) : w.cell? ⟨b, i, none⟩ = cs[i]? := by
 unfold World.cell?; rw [h]; rfl
theorem frozen_of_heap {w : World} {b : Nat} {cs : Array Value} {t : TypeId} (h : w.heap[b]? = some (.cells cs t (0, 0))) (i : Nat) : w.frozen? ⟨b, i, none⟩ = false := by
 unfold World.frozen?; rw [h]; simp
theorem lt_of_heap {w : World} {b : Nat} {o : Obj} (h : w.heap[b]? = some o) : b < w.heap.size := by
 rcases Nat.lt_or_ge b w.heap.size with h1 | h1
 · exact h1
 · rw [Array.getElem?_eq_none h1] at h; cases h
def World.put (w : World) (b : Nat) (o : Obj) : World := { w with heap := w.heap.setIfInBounds b o }
section
variable (w : World) (b k : Nat) (o : Obj)
@[go_sem] theorem World.size_put : (w.put b o).heap.size = w.heap.size := by simp [World.put]
theorem World.heap_put_ne (h : k ≠ b) : (w.put b o).heap[k]? = w.heap[k]? := by
 simp only [World.put]; rw [Array.getElem?_setIfInBounds, if_neg (fun e => h e.symm)]
end
theorem heap_setCell_self {w : World} {b i : Nat} {cs : Array Value} {t : TypeId} {fr : Nat × Nat} (h : w.heap[b]? = some (.cells cs t fr)) (v : Value) : (w.setCell ⟨b, i, none⟩ v).heap[b]? = some (.cells (cs.setIfInBounds i v) t fr) := by
 simp only [World.setCell]
 rw [Array.getElem?_modify, if_pos rfl, h]; rfl
theorem heap_setCell_ne {w : World} {b i k : Nat} (hk : k ≠ b) (v : Value) : (w.setCell ⟨b, i, none⟩ v).heap[k]? = w.heap[k]? := by
 simp only [World.setCell]
 rw [Array.getElem?_modify, if_neg (fun e => hk e.symm)]
theorem IsOv.heap {w w' : World} (h : IsOv w w') {k : Nat} {o : Obj} (hk : w.heap[k]? = some o) : w'.heap[k]? = some o := by
 obtain ⟨x, rfl⟩ := h
 rw [World.heap_ov w x (lt_of_heap hk)]; exact hk
theorem IsOv.put {W w : World} (h : IsOv W w) {b : Nat} (hb : W.heap.size ≤ b) (o : Obj) : IsOv W (w.put b o) := by
 have hb2 := h.below
 refine IsOv.of_below ⟨hb2.os, hb2.tape, hb2.output, by rw [World.size_put]; exact hb2.size, fun k hk => ?_⟩
 rw [World.heap_put_ne w b k o (by omega)]
 exact hb2.block k hk
theorem IsOv.size_le {w w' : World} (h : IsOv w w') : w.heap.size ≤ w'.heap.size := h.below.size
section
variable {P : Program}
end
end Go
end
section
namespace Go.Proofs.YtdimhoilfopndaaGreatDoor
def C1 (W : World) (b : Nat) (a0 : Value) : Prop := W.cell? ⟨b, 0, none⟩ = some a0 ∧ ∀ i, W.frozen? ⟨b, i, none⟩ = false
theorem cells1 {W : World} {b : Nat} {a0 : Value} {T : TypeId} (h : W.heap[b]? = some (.cells #[a0] T (0, 0))) : C1 W b a0 := ⟨cell_of_heap h 0, frozen_of_heap h⟩
def C2 (W : World) (b : Nat) (a0 a1 : Value) : Prop := W.cell? ⟨b, 0, none⟩ = some a0 ∧ W.cell? ⟨b, 1, none⟩ = some a1 ∧ ∀ i, W.frozen? ⟨b, i, none⟩ = false
theorem cells2 {W : World} {b : Nat} {a0 a1 : Value} {T : TypeId} (h : W.heap[b]? = some (.cells #[a0, a1] T (0, 0))) : C2 W b a0 a1 := ⟨cell_of_heap h 0, cell_of_heap h 1, frozen_of_heap h⟩
def C5 (W : World) (b : Nat) (a0 a1 a2 a3 a4 : Value) : Prop := W.cell? ⟨b, 0, none⟩ = some a0 ∧ W.cell? ⟨b, 1, none⟩ = some a1 ∧ W.cell? ⟨b, 2, none⟩ = some a2 ∧ W.cell? ⟨b, 3, none⟩ = some a3 ∧ W.cell? ⟨b, 4, none⟩ = some a4 ∧ ∀ i, W.frozen? ⟨b, i, none⟩ = false
theorem cells5 {W : World} {b : Nat} {a0 a1 a2 a3 a4 : Value} {T : TypeId} (h : W.heap[b]? = some (.cells #[a0, a1, a2, a3, a4] T (0, 0))) : C5 W b a0 a1 a2 a3 a4 := ⟨cell_of_heap h 0, cell_of_heap h 1, cell_of_heap h 2, cell_of_heap h 3, cell_of_heap h 4, frozen_of_heap h⟩
def C6 (W : World) (b : Nat) (a0 a1 a2 a3 a4 a5 : Value) : Prop := W.cell? ⟨b, 0, none⟩ = some a0 ∧ W.cell? ⟨b, 1, none⟩ = some a1 ∧ W.cell? ⟨b, 2, none⟩ = some a2 ∧ W.cell? ⟨b, 3, none⟩ = some a3 ∧ W.cell? ⟨b, 4, none⟩ = some a4 ∧ W.cell? ⟨b, 5, none⟩ = some a5 ∧ ∀ i, W.frozen? ⟨b, i, none⟩ = false
theorem cells6 {W : World} {b : Nat} {a0 a1 a2 a3 a4 a5 : Value} {T : TypeId} (h : W.heap[b]? = some (.cells #[a0, a1, a2, a3, a4, a5] T (0, 0))) : C6 W b a0 a1 a2 a3 a4 a5 := ⟨cell_of_heap h 0, cell_of_heap h 1, cell_of_heap h 2, cell_of_heap h 3, cell_of_heap h 4, cell_of_heap h 5, frozen_of_heap h⟩
end Go.Proofs.YtdimhoilfopndaaGreatDoor
end
