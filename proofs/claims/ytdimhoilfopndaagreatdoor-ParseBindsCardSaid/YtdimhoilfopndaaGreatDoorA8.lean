/- Texts of one proof, put together: Pa Pb Pc Pd Pe Pf Pg Ph Po Pi Pj Pk Pl Pm Pp Pl2. Conditions: as each lemma says. -/
import Derived.Test.YtdimhoilfopndaaGreatDoorA6
import Derived.Test.YtdimhoilfopndaaGreatDoorA1
import Derived.Test.YtdimhoilfopndaaGreatDoorA7
set_option linter.unusedVariables false
set_option linter.unusedSimpArgs false
section
namespace Go.Proofs.YtdimhoilfopndaaGreatDoor
open Go.RowKit
theorem hid {p : Prop} (h : p) : Go.RowKit.Hid p := h
theorem cmo {P : Program} {f : FuncId} {args : Array Value} {w : World} {R R' : Ending → World → Prop} (h : Calls P f args w R) (hr : ∀ e w', R e w' → R' e w') : Calls P f args w R' := Calls.mono h hr
theorem WZ : (∀ (w : World) (o : Obj), (w.alloc o).heap.size = w.heap.size + 1) ∧ ∀ (w : World) (a : Addr) (v : Value), (w.setCell a v).heap.size = w.heap.size := ⟨fun w o => World.size_alloc w o, fun w a v => World.size_setCell w a v⟩
structure PC where
 W : World
 p : Nat
 g : Nat
 cap : Nat
 toks : List Tok
structure PC.Ok (c : PC) : Prop where
 hp : c.W.heap.size ≤ c.p
 hcap : c.toks.length ≤ c.cap
 hlen : c.toks.length ≤ 100000
 cells : ∀ i, i < c.toks.length → ∀ j u, ((c.toks.getD i default).cells)[j]? = some u → c.W.cell? ⟨c.g, i * 5 + j, none⟩ = some u
 ends : ∀ i, i < c.toks.length → (c.toks.getD i default).kind ≠ 3 → i + 1 < c.toks.length
 laid : LaidX c.W
 ml : ∃ m : Int, c.W.cell? ⟨3, 0, none⟩ = some (.int .i64 m)
def PS (c : PC) (w : World) (ts : List Tok) : Prop := IsOv c.W w ∧ ∃ i, i < c.toks.length ∧ c.toks.drop i = ts ∧ w.heap[c.p]? = some (.cells #[.slice (some ⟨c.g, 0, none⟩) c.toks.length c.cap, .int .i64 (i : Int)] 69 (0, 0))
theorem IsOv.block {W w w' : World} {k : Nat} {o : Obj} (h : IsOv w w') (hk : w.heap[k]? = some o) : w'.heap[k]? = some o := h.heap hk
theorem PS.isOv {c : PC} {w w' : World} {ts : List Tok} (h : PS c w ts) (hb : IsOv w w') : PS c w' ts := by
 obtain ⟨h1, i, h2, h3, h4⟩ := h
 exact ⟨h1.trans hb, i, h2, h3, hb.heap h4⟩
theorem PS.alloc {c : PC} {w : World} {ts : List Tok} (h : PS c w ts) (o : Obj) : PS c (w.alloc o) ts := h.isOv ((IsOv.refl w).alloc o)
theorem tok_cells {c : PC} (hc : c.Ok) {w : World} (hov : IsOv c.W w) {i : Nat} (hi : i < c.toks.length) {t : Tok} (ht : c.toks.getD i default = t) :
  w.cell? ⟨c.g, i * 5, none⟩ = some (.int .i64 t.kind) ∧ w.cell? ⟨c.g, i * 5 + 1, none⟩ = some (.string t.text) ∧ w.cell? ⟨c.g, i * 5 + 2, none⟩ = some (.int .u64 t.num) ∧ w.cell? ⟨c.g, i * 5 + 3, none⟩ = some (.int .i64 t.line) ∧ w.cell? ⟨c.g, i * 5 + 4, none⟩ = some (.int .i64 t.col) := by
 subst ht
 have h := hc.cells i hi
 exact ⟨hov.cell (h 0 _ rfl), hov.cell (h 1 _ rfl), hov.cell (h 2 _ rfl), hov.cell (h 3 _ rfl), hov.cell (h 4 _ rfl)⟩
def nowT (ts : List Tok) : Tok := ts.headD default
theorem now_getD {l : List Tok} {i : Nat} (hi : i < l.length) : l.getD i default = nowT (l.drop i) := by
 rw [List.drop_eq_getElem_cons hi]
 simp [nowT, List.getD, hi]
set_option maxRecDepth 20000 in
set_option maxHeartbeats 400000 in
theorem now_gives (c : PC) (hc : c.Ok) (w : World) (ts : List Tok) (h : PS c w ts) : Gives Tryz.prog 30 #[.pointer (some ⟨c.p, 0, none⟩)] w (nowT ts).val := by
 obtain ⟨hov, i, hi, hts, hp⟩ := h
 have ht : c.toks.getD i default = nowT ts := by rw [← hts]; exact now_getD hi
 obtain ⟨hp0, hp1, _⟩ := cells2 hp
 obtain ⟨t0, t1, t2, t3, t4⟩ := tok_cells hc hov hi ht
 have hlen := hc.hlen
 generalize nowT ts = t at *
 unfold Gives
 have hle : ¬ ((c.toks.length : Int) ≤ (i : Int)) := by omega
 clear hts ht hp
 have hleb : decide ((c.toks.length : Int) ≤ (i : Int)) = false := decide_eq_false hle
 go_enter Tryz.func30, Tryz.ntmps30
 have n0 := World.new_ne w _ hp0
 have n1 := World.new_ne w _ hp1
 have m0 := World.new_ne w _ t0
 have m1 := World.new_ne w _ t1
 have m2 := World.new_ne w _ t2
 have m3 := World.new_ne w _ t3
 have m4 := World.new_ne w _ t4
 have hi0 : (0 : Int) ≤ (i : Int) := by omega
 have hi1 : (i : Int) < (c.toks.length : Int) := by omega
 go_wp2_with fail
 go_region_held3 (fun w' => w'.cell? ⟨c.p, 0, none⟩ = some (.slice (some ⟨c.g, 0, none⟩) c.toks.length c.cap) ∧ w'.cell? ⟨c.p, 1, none⟩ = some (.int .i64 (i : Int))) (go_keep) (fail)
 go_wp2_with fail
 go_region_held3 (fun w' => w'.cell? ⟨c.p, 0, none⟩ = some (.slice (some ⟨c.g, 0, none⟩) c.toks.length c.cap) ∧ w'.cell? ⟨c.p, 1, none⟩ = some (.int .i64 (i : Int)) ∧ w'.cell? ⟨c.g, i * 5, none⟩ = some (.int .i64 t.kind) ∧ w'.cell? ⟨c.g, i * 5 + 1, none⟩ = some (.string t.text) ∧ w'.cell? ⟨c.g, i * 5 + 2, none⟩ = some (.int .u64 t.num) ∧ w'.cell? ⟨c.g, i * 5 + 3, none⟩ = some (.int .i64 t.line) ∧ w'.cell? ⟨c.g, i * 5 + 4, none⟩ = some (.int .i64 t.col)) (go_keep) (fail)
 go_wp2_with fail
 exact bodyPost_ret (v := .agg #[.int .i64 t.kind, .string t.text, .int .u64 t.num, .int .i64 t.line, .int .i64 t.col]) (by simp [results, Tryz.results30, go_sem, ↓IntWalk.iteOmega]) rfl ⟨rfl, by repeat (first | with_reducible exact IsOv.refl _ | with_reducible apply IsOv.dr | with_reducible apply IsOv.drewN | with_reducible apply IsOv.drew | with_reducible apply IsOv.alloc | with_reducible apply IsOv.ov)⟩
def isF (ts : List Tok) (x : ByteArray) : Bool := ((nowT ts).text.data.toList == x.data.toList) && ((nowT ts).kind == 0 || (nowT ts).kind == 2)
theorem txt_eq (a b : ByteArray) : (a.toList == b.toList) = (a.data.toList == b.data.toList) := by rw [Lib.toList_data, Lib.toList_data]
set_option maxRecDepth 20000 in
set_option maxHeartbeats 400000 in
theorem is_gives (c : PC) (hc : c.Ok) (w : World) (ts : List Tok) (x : ByteArray) (h : PS c w ts) : Gives Tryz.prog 54 #[.pointer (some ⟨c.p, 0, none⟩), .string x] w (.bool (isF ts x)) := by
 have hn := hid (now_gives c hc w ts h)
 unfold Gives
 unfold isF
 rw [← txt_eq]
 clear h
 generalize nowT ts = t at *
 go_enter Tryz.func54, Tryz.ntmps54
 go_wp2_with fail
 refine Calls.mono hn.out ?_
 rintro e w1 ⟨rfl, hov⟩
 rw [show t.val = .agg #[.int .i64 t.kind, .string t.text, .int .u64 t.num, .int .i64 t.line, .int .i64 t.col] from rfl]
 clear hn
 cases hx : (t.text.toList == x.toList)
 ·
  go_wp2_with fail
  exact bodyPost_ret (v := .bool false) (by simp [results, Tryz.results54, go_sem, ↓IntWalk.iteOmega]) rfl ⟨by simp [hx], hov.trans (by repeat (first | with_reducible exact IsOv.refl _ | with_reducible apply IsOv.dr | with_reducible apply IsOv.drewN | with_reducible apply IsOv.drew | with_reducible apply IsOv.alloc | with_reducible apply IsOv.ov))⟩
 ·
  cases h0 : (t.kind == 0)
  ·
   go_wp2_with fail
   exact bodyPost_ret (v := .bool (t.kind == 2)) (by simp [results, Tryz.results54, go_sem, ↓IntWalk.iteOmega]) rfl ⟨by simp only [hx, h0, Bool.true_and, Bool.false_or], hov.trans (by repeat (first | with_reducible exact IsOv.refl _ | with_reducible apply IsOv.dr | with_reducible apply IsOv.drewN | with_reducible apply IsOv.drew | with_reducible apply IsOv.alloc | with_reducible apply IsOv.ov))⟩
  ·
   go_wp2_with fail
   exact bodyPost_ret (v := .bool true) (by simp [results, Tryz.results54, go_sem, ↓IntWalk.iteOmega]) rfl ⟨by simp only [hx, h0, Bool.true_and, Bool.true_or], hov.trans (by repeat (first | with_reducible exact IsOv.refl _ | with_reducible apply IsOv.dr | with_reducible apply IsOv.drewN | with_reducible apply IsOv.drew | with_reducible apply IsOv.alloc | with_reducible apply IsOv.ov))⟩
def Kp (c : PC) (w w' : World) : Prop := w.grownBy w' (some c.p)
theorem Kp.refl (c : PC) (w : World) : Kp c w w := World.grownBy.refl w _
theorem Kp.trans {c : PC} {a b d : World} (h : Kp c a b) (k : Kp c b d) : Kp c a d := World.grownBy.trans h k
theorem Kp.of_isOv {c : PC} {w w' : World} (h : IsOv w w') : Kp c w w' := by
 have := h.below
 exact ⟨this.os, this.tape, this.output, this.size, fun i hi _ => this.block i hi⟩
theorem Kp.alloc {c : PC} {a w : World} (h : Kp c a w) (o : Obj) : Kp c a (w.alloc o) := h.trans (Kp.of_isOv ((IsOv.refl w).alloc o))
theorem Kp.drew {c : PC} {a w : World} (h : Kp c a w) : Kp c a w.drew := h.trans (Kp.of_isOv (IsOv.refl w).drew)
theorem Kp.drewN {c : PC} {a w : World} (h : Kp c a w) (n : Nat) : Kp c a (w.drewN n) := h.trans (Kp.of_isOv ((IsOv.refl w).drewN n))
theorem Kp.setCell {c : PC} {a w : World} (h : Kp c a w) {p : Addr} (hp : p.block = c.p ∨ a.heap.size ≤ p.block) (u : Value) : Kp c a (w.setCell p u) :=
 ⟨h.os, h.tape, h.output, by simpa [World.setCell] using h.size, fun i hi hne => (Below.heap_setCell w p u i (by
  rintro rfl
  rcases hp with hp | hp
  · exact hne (by rw [hp])
  · omega)).trans (h.block i hi hne)⟩
theorem Kp.size_le {c : PC} {a b : World} (h : Kp c a b) : a.heap.size ≤ b.heap.size := h.size
theorem Kp.heap {c : PC} {a b : World} (h : Kp c a b) {k : Nat} {o : Obj} (hk : a.heap[k]? = some o) (hne : k ≠ c.p) : b.heap[k]? = some o := by
 rw [h.block k (lt_of_heap hk) (fun e => hne (Option.some.inj e))]; exact hk
theorem Kp.grown {c : PC} {a w w' : World} {v : Value} (h : Kp c a w) (hg : w.grownBy w' v.ownBlock) (hv : ∀ b, v.ownBlock = some b → a.heap.size ≤ b) : Kp c a w' :=
 ⟨hg.os.trans h.os, hg.tape.trans h.tape, hg.output.trans h.output, Nat.le_trans h.size hg.size, fun i hi hne => (hg.block i (Nat.lt_of_lt_of_le hi h.size) (fun e => absurd (hv i e.symm) (by omega))).trans (h.block i hi hne)⟩
theorem PS.lt {c : PC} {w : World} {ts : List Tok} (h : PS c w ts) : c.p < w.heap.size := by
 obtain ⟨_, i, _, _, h4⟩ := h; exact lt_of_heap h4
theorem PS.drew {c : PC} {w : World} {ts : List Tok} (h : PS c w ts) : PS c w.drew ts := h.isOv (IsOv.refl w).drew
theorem PS.drewN {c : PC} {w : World} {ts : List Tok} (h : PS c w ts) (n : Nat) : PS c (w.drewN n) ts := h.isOv ((IsOv.refl w).drewN n)
theorem PS.setCell {c : PC} {w : World} {ts : List Tok} (h : PS c w ts) {b i : Nat} (hb : c.p < b) (hc : c.Ok) (u : Value) : PS c (w.setCell ⟨b, i, none⟩ u) ts := by
 obtain ⟨h1, k, h2, h3, h4⟩ := h
 refine ⟨h1.setCell (p := ⟨b, i, none⟩) (by have := hc.hp; show c.W.heap.size ≤ b; omega) u, k, h2, h3, ?_⟩
 rw [heap_setCell_ne (by omega)]; exact h4
theorem PS.grown {c : PC} {w w' : World} {ts : List Tok} {v : Value} (h : PS c w ts) (hc : c.Ok) (hg : w.grownBy w' v.ownBlock) (hv : ∀ b, v.ownBlock = some b → c.p < b) : PS c w' ts := by
 have hlt := h.lt
 obtain ⟨h1, k, h2, h3, h4⟩ := h
 refine ⟨IsOv.grown h1 hg (fun b hb => by have := hv b hb; have := hc.hp; omega), k, h2, h3, ?_⟩
 rw [hg.block c.p hlt (fun e => absurd (hv c.p e.symm) (Nat.lt_irrefl _))]; exact h4
theorem PS.next {c : PC} (hc : c.Ok) {w : World} {ts : List Tok} (h : PS c w ts) (hk : (nowT ts).kind ≠ 3) : ∃ i : Nat, w.heap[c.p]? = some (.cells #[.slice (some ⟨c.g, 0, none⟩) c.toks.length c.cap, .int .i64 (i : Int)] 69 (0, 0)) ∧ i < 100000 ∧ PS c (w.setCell ⟨c.p, 1, none⟩ (.int .i64 ((i : Int) + 1))) ts.tail := by
 obtain ⟨h1, i, h2, h3, h4⟩ := h
 have hn := hc.ends i h2 (by rw [now_getD h2, h3]; exact hk)
 refine ⟨i, h4, by have := hc.hlen; omega, h1.setCell (p := ⟨c.p, 1, none⟩) hc.hp _, i + 1, hn, by rw [← h3, List.tail_drop], ?_⟩
 rw [heap_setCell_self h4]
 rfl
theorem isF_kind {ts : List Tok} {x : ByteArray} (h : isF ts x = true) : (nowT ts).kind ≠ 3 := by
 unfold isF at h
 simp only [Bool.and_eq_true, Bool.or_eq_true, beq_iff_eq] at h
 omega
set_option maxRecDepth 20000 in
set_option maxHeartbeats 400000 in
theorem take_calls (c : PC) (hc : c.Ok) (w : World) (ts : List Tok) (x : ByteArray) (h : PS c w ts) :
  Calls Tryz.prog 58 #[.pointer (some ⟨c.p, 0, none⟩), .string x] w fun e w' => e = .returned (.bool (isF ts x)) ∧ PS c w' (if isF ts x then ts.tail else ts) ∧ Kp c w w' := by
 have hn := hid (is_gives c hc w ts x h)
 cases hx : isF ts x
 ·
  rw [hx] at hn
  have HPS := hid h
  clear h
  go_enter Tryz.func58, Tryz.ntmps58
  go_wp2_with fail
  refine Calls.mono hn.out ?_
  rintro e w1 ⟨rfl, hov⟩
  go_wp2_with fail
  exact bodyPost_ret (v := .bool false) (by simp [results, Tryz.results58, go_sem, ↓IntWalk.iteOmega]) rfl ⟨rfl, HPS.out.isOv hov, Kp.of_isOv hov⟩
 ·
  rw [hx] at hn
  have HPS := hid h
  have HX := hid (isF_kind hx)
  clear h hx
  go_enter Tryz.func58, Tryz.ntmps58
  go_wp2_with fail
  refine Calls.mono hn.out ?_
  rintro e w1 ⟨rfl, hov⟩
  obtain ⟨i, hb, hi, hps⟩ := PS.next hc (HPS.out.isOv hov) HX.out
  have hb0 := cell_of_heap hb 0
  have hb1 : w1.cell? ⟨c.p, 1, none⟩ = some (.int .i64 (i : Int)) := cell_of_heap hb 1
  have hbf := frozen_of_heap hb 1
  have HP2 := hid hps
  have HK := hid (Kp.of_isOv (c := c) hov)
  clear hov hb hps hn HPS
  go_wp2_with fail
  exact bodyPost_ret (v := .bool true) (by simp [results, Tryz.results58, go_sem, ↓IntWalk.iteOmega]) rfl ⟨rfl, HP2.out, HK.out.setCell (.inl rfl) _⟩
def wrongE (l k e : Int) : Ending := .panicked [{ v := .iface 65 (.agg #[.int .i64 l, .int .i64 k, .int .i64 e]), recovered := false }]
set_option maxRecDepth 20000 in
set_option maxHeartbeats 400000 in
theorem give_calls (c : PC) (hc : c.Ok) (w : World) (ts : List Tok) (e : Int) (h : PS c w ts) :
  Calls Tryz.prog 62 #[.pointer (some ⟨c.p, 0, none⟩), .int .i64 e] w fun en w' => en = wrongE (nowT ts).line (nowT ts).col e ∧ PS c w' ts ∧ Kp c w w' := by
 have hn := hid (now_gives c hc w ts h)
 have HPS := hid h
 clear h
 generalize nowT ts = t at *
 go_enter Tryz.func62, Tryz.ntmps62
 go_wp2_with fail
 refine Calls.mono hn.out ?_
 rintro e1 w1 ⟨rfl, hov⟩
 rw [show t.val = .agg #[.int .i64 t.kind, .string t.text, .int .u64 t.num, .int .i64 t.line, .int .i64 t.col] from rfl]
 clear hn
 go_wp2_with fail
 exact ⟨rfl, rfl, (HPS.out.isOv hov).alloc _, (Kp.of_isOv hov).alloc _⟩
theorem results_heap {P : Program} {fn : Func} {t : Tmp} {ty T : TypeId} (h : fn.results = #[.cell t ty]) {tmps : Array Value} {b : Nat} (ht : tmps.getD t undef = .pointer (some ⟨b, 0, none⟩)) {w : World} {cs : Array Value} {fr : Nat × Nat} (hh : w.heap[b]? = some (.cells cs T fr))
  {d : TypeDesc} (hu : P.underlying ty = some d) (hd : (match d with | .struct _ | .array _ _ => true | _ => false) = true) (hi : (P.info? ty).map (·.size) = some cs.size) : (results fn tmps).run P w = .ok (.agg cs) w := by
 have h1 := run_loadVar_cells w b ty cs d (fun i _ => cell_of_heap hh i) hu hd hi
 simp only [Array.getD_eq_getD_getElem?] at ht
 simp [results, h, ht, h1, asAddr]
theorem heap_set5 {w : World} {b : Nat} {T : TypeId} {x0 x1 x2 x3 x4 : Value} (h : w.heap[b]? = some (.cells #[x0, x1, x2, x3, x4] T (0, 0))) (a0 a1 a2 a3 a4 : Value) :
  (((((w.setCell ⟨b, 0, none⟩ a0).setCell ⟨b, 1, none⟩ a1).setCell ⟨b, 2, none⟩ a2).setCell ⟨b, 3, none⟩ a3).setCell ⟨b, 4, none⟩ a4).heap[b]? = some (.cells #[a0, a1, a2, a3, a4] T (0, 0)) :=
 heap_setCell_self (heap_setCell_self (heap_setCell_self (heap_setCell_self (heap_setCell_self h a0) a1) a2) a3) a4
theorem heap_set6 {w : World} {b : Nat} {T : TypeId} {x0 x1 x2 x3 x4 x5 : Value} (h : w.heap[b]? = some (.cells #[x0, x1, x2, x3, x4, x5] T (0, 0))) (a0 a1 a2 a3 a4 a5 : Value) :
  ((((((w.setCell ⟨b, 0, none⟩ a0).setCell ⟨b, 1, none⟩ a1).setCell ⟨b, 2, none⟩ a2).setCell ⟨b, 3, none⟩ a3).setCell ⟨b, 4, none⟩ a4).setCell ⟨b, 5, none⟩ a5).heap[b]? = some (.cells #[a0, a1, a2, a3, a4, a5] T (0, 0)) :=
 heap_setCell_self (heap_setCell_self (heap_setCell_self (heap_setCell_self (heap_setCell_self (heap_setCell_self h a0) a1) a2) a3) a4) a5
theorem hs_set {w : World} {b i : Nat} {cs : Array Value} {T : TypeId} {fr : Nat × Nat} (h : w.heap[b]? = some (.cells cs T fr)) (v : Value) : (w.setCell ⟨b, i, none⟩ v).heap[b]? = some (.cells (cs.setIfInBounds i v) T fr) := heap_setCell_self h v
theorem hs_far {w : World} {b k i : Nat} {o : Obj} (h : w.heap[b]? = some o) (hne : b ≠ k) (v : Value) : (w.setCell ⟨k, i, none⟩ v).heap[b]? = some o := (heap_setCell_ne hne v).trans h
theorem hs_alloc {w : World} {b : Nat} {o : Obj} (h : w.heap[b]? = some o) (o' : Obj) : (w.alloc o').heap[b]? = some o := ((IsOv.refl w).alloc o').heap h
theorem hs_drew {w : World} {b : Nat} {o : Obj} (h : w.heap[b]? = some o) : w.drew.heap[b]? = some o := h
inductive PR (α : Type) where
 | ok (a : α) (ts : List Tok)
 | bad (l k e : Int)
def badAt {α : Type} (ts : List Tok) (e : Int) : PR α := .bad (nowT ts).line (nowT ts).col e
def needF (ts : List Tok) (x : ByteArray) : PR Tok := if isF ts x then .ok (nowT ts) ts.tail else badAt ts 30
set_option maxRecDepth 20000 in
set_option maxHeartbeats 400000 in
theorem need_calls (c : PC) (hc : c.Ok) (w : World) (ts : List Tok) (x : ByteArray) (h : PS c w ts) :
  Calls Tryz.prog 63 #[.pointer (some ⟨c.p, 0, none⟩), .string x] w fun e w' => Kp c w w' ∧ (match needF ts x with | .ok t r => e = .returned t.val ∧ PS c w' r | .bad l k er => e = wrongE l k er) := by
 have hn := hid (now_gives c hc w ts h)
 have hlt := h.lt
 unfold needF
 cases hx : isF ts x
 ·
  have HPS := hid h
  have HX := hid hx
  have HB : Hid ((if false = true then PR.ok (nowT ts) ts.tail else badAt ts 30 : PR Tok) = .bad (nowT ts).line (nowT ts).col 30) := hid rfl
  rw [HB.out]
  clear h hx HB
  generalize ht : nowT ts = t at *
  have HT := hid ht
  clear ht
  go_enter Tryz.func63, Tryz.ntmps63
  go_wp2_with fail
  refine cmo (now_gives c hc _ ts (HPS.out.alloc _)) ?_
  rintro e1 w1 ⟨rfl, hov⟩
  rw [HT.out, show t.val = .agg #[.int .i64 t.kind, .string t.text, .int .u64 t.num, .int .i64 t.line, .int .i64 t.col] from rfl]
  have hps := hid ((HPS.out.alloc _).isOv hov)
  have hkp := hid (((Kp.refl c w).alloc _).trans (Kp.of_isOv hov))
  clear hov hn HPS
  go_wp2_with fail
  refine cmo (is_gives c hc _ ts x (hps.out.alloc _)) ?_
  rintro e1 w2 ⟨rfl, hov2⟩
  rw [HX.out]
  have hps2 := hid ((hps.out.alloc _).isOv hov2)
  have hkp2 := hid ((hkp.out.alloc _).trans (Kp.of_isOv hov2))
  clear hov2 hps hkp
  go_wp2_with fail
  refine cmo (give_calls c hc _ ts 30 hps2.out) ?_
  rintro e1 w3 ⟨rfl, hps3, hkp3⟩
  exact ⟨rfl, hkp2.out.trans hkp3, by rw [HT.out]; rfl⟩
 ·
  have HPS := hid h
  have HK := hid (isF_kind hx)
  have HX := hid hx
  have HB : Hid ((if true = true then PR.ok (nowT ts) ts.tail else badAt ts 30 : PR Tok) = .ok (nowT ts) ts.tail) := hid rfl
  rw [HB.out]
  clear h hx HB
  generalize ht : nowT ts = t at *
  have HT := hid ht
  clear ht
  go_enter Tryz.func63, Tryz.ntmps63
  go_wp2_with fail
  refine cmo (now_gives c hc _ ts (HPS.out.alloc _)) ?_
  rintro e1 w1 ⟨rfl, hov⟩
  rw [HT.out, show t.val = .agg #[.int .i64 t.kind, .string t.text, .int .u64 t.num, .int .i64 t.line, .int .i64 t.col] from rfl]
  have hps := hid ((HPS.out.alloc _).isOv hov)
  have hkp := hid (((Kp.refl c w).alloc _).trans (Kp.of_isOv hov))
  have hz1 : w.heap.size < w1.heap.size := by have := hov.size_le; simp at this; omega
  have hr0 := hid (hov.heap (heap_alloc_new w (.cells #[.int .i64 0, .string ⟨#[]⟩, .int .u64 0, .int .i64 0, .int .i64 0] 60)))
  clear hov hn HPS
  go_wp2_with fail
  refine cmo (is_gives c hc _ ts x (hps.out.alloc _)) ?_
  rintro e1 w2 ⟨rfl, hov2⟩
  rw [HX.out]
  have hps2 := (hps.out.alloc (.cells #[.int .i64 t.kind, .string t.text, .int .u64 t.num, .int .i64 t.line, .int .i64 t.col] 60)).isOv hov2
  have hkp2 := (hkp.out.alloc (.cells #[.int .i64 t.kind, .string t.text, .int .u64 t.num, .int .i64 t.line, .int .i64 t.col] 60)).trans (Kp.of_isOv hov2)
  have hr2 := hid (hov2.heap (((IsOv.refl w1).alloc (.cells #[.int .i64 t.kind, .string t.text, .int .u64 t.num, .int .i64 t.line, .int .i64 t.col] 60)).heap hr0.out))
  have ht2 := hid (hov2.heap (heap_alloc_new w1 (.cells #[.int .i64 t.kind, .string t.text, .int .u64 t.num, .int .i64 t.line, .int .i64 t.col] 60)))
  have hz2 : w1.heap.size < w2.heap.size := by have := hov2.size_le; simp at this; omega
  clear hov2 hps hkp hr0
  obtain ⟨i, hb, hi, hps3⟩ := PS.next hc hps2 (by rw [HT.out]; exact HK.out)
  have hb0 := cell_of_heap hb 0
  have hb1 : w2.cell? ⟨c.p, 1, none⟩ = some (.int .i64 (i : Int)) := cell_of_heap hb 1
  have hbf := frozen_of_heap hb 1
  obtain ⟨t0, t1, t2, t3, t4, _⟩ := cells5 ht2.out
  obtain ⟨r0, r1, r2, r3, r4, hrf⟩ := cells5 hr2.out
  have HP3 := hid hps3
  have HK2 := hid hkp2
  have hp1 : c.p < w1.heap.size := by omega
  clear hb hps2 hps3 hkp2
  go_wp2_with fail
  refine bodyPost_ret (results_heap Tryz.results63 rfl (heap_set5 ((heap_setCell_ne (by omega) _).trans hr2.out) _ _ _ _ _) Tryz.underlying60 rfl (by kernel_rfl)) rfl ⟨by (repeat' (first | with_reducible exact HK2.out.setCell (.inl rfl) _ | with_reducible refine Kp.setCell ?_ (.inr (by first | exact Nat.le_refl _ | (show _ ≤ _; omega))) _ | with_reducible refine Kp.alloc ?_ _ | with_reducible refine Kp.drewN ?_ _ | with_reducible refine Kp.drew ?_)), rfl, by (repeat' (first | with_reducible exact HP3.out | with_reducible refine PS.setCell ?_ (by omega) hc _ | with_reducible refine PS.alloc ?_ _ | with_reducible refine PS.drewN ?_ _ | with_reducible refine PS.drew ?_))⟩
def deepF (d : Int) (ts : List Tok) : Option (Int × Int × Int) := if 60 < d then some ((nowT ts).line, (nowT ts).col, 31) else none
set_option maxRecDepth 20000 in
set_option maxHeartbeats 400000 in
theorem deep_calls (c : PC) (hc : c.Ok) (w : World) (ts : List Tok) (d : Int) (h : PS c w ts) :
  Calls Tryz.prog 84 #[.pointer (some ⟨c.p, 0, none⟩), .int .i64 d] w fun e w' => PS c w' ts ∧ Kp c w w' ∧ (match deepF d ts with | none => e = .returned (.tuple #[]) | some (l, k, er) => e = wrongE l k er) := by
 have HPS := hid h
 unfold deepF
 clear h
 by_cases hd : 60 < d
 ·
  rw [if_pos hd]
  have hdb : decide ((60 : Int) < d) = true := decide_eq_true hd
  go_enter Tryz.func84, Tryz.ntmps84
  go_wp2_with fail
  refine cmo (now_gives c hc _ ts HPS.out) ?_
  rintro e1 w1 ⟨rfl, hov⟩
  go_wp2_with fail
  refine cmo (give_calls c hc _ ts 31 (HPS.out.isOv hov)) ?_
  rintro e1 w3 ⟨rfl, hps3, hkp3⟩
  exact ⟨rfl, hps3, (Kp.of_isOv hov).trans hkp3, rfl⟩
 ·
  rw [if_neg hd]
  have hdb : decide ((60 : Int) < d) = false := decide_eq_false hd
  go_enter Tryz.func84, Tryz.ntmps84
  go_wp2_with fail
  refine cmo (now_gives c hc _ ts HPS.out) ?_
  rintro e1 w1 ⟨rfl, hov⟩
  go_wp2_with fail
  refine bodyPost_end (v := .tuple #[]) (by simp [results, Tryz.results84]) rfl ⟨HPS.out.isOv hov, Kp.of_isOv hov, rfl⟩
def namedF (ts : List Tok) : Bool := (nowT ts).kind == 0 && (!(nowT ts).text.data.toList.isEmpty && !kwB (nowT ts).text.data.toList)
set_option maxRecDepth 20000 in
set_option maxHeartbeats 400000 in
theorem named_gives (c : PC) (hc : c.Ok) (w : World) (ts : List Tok) (h : PS c w ts) : Gives Tryz.prog 83 #[.pointer (some ⟨c.p, 0, none⟩)] w (.bool (namedF ts)) := by
 have hn := hid (now_gives c hc w ts h)
 have hov0 := hid h.1
 unfold Gives namedF
 clear h
 generalize nowT ts = t at *
 go_enter Tryz.func83, Tryz.ntmps83
 go_wp2_with fail
 refine Calls.mono hn.out ?_
 rintro e w1 ⟨rfl, hov⟩
 rw [show t.val = .agg #[.int .i64 t.kind, .string t.text, .int .u64 t.num, .int .i64 t.line, .int .i64 t.col] from rfl]
 clear hn
 cases h0 : (t.kind == 0)
 ·
  go_wp2_with fail
  exact bodyPost_ret (v := .bool false) (by simp [results, Tryz.results83, go_sem, ↓IntWalk.iteOmega]) rfl ⟨by simp only [h0, Bool.false_and], hov.trans (by repeat (first | with_reducible exact IsOv.refl _ | with_reducible apply IsOv.dr | with_reducible apply IsOv.drewN | with_reducible apply IsOv.drew | with_reducible apply IsOv.alloc | with_reducible apply IsOv.ov))⟩
 ·
  cases he : t.text.data.toList.isEmpty
  ·
   have he2 : t.text.toList.isEmpty = false := by rw [Lib.toList_data]; exact he
   go_wp2_with fail
   refine cmo (Keyword_says t.text _ (hc.laid.of_isOv ((hov0.out.trans hov).alloc _))) ?_
   rintro e w2 ⟨rfl, hdr⟩
   have hov2 := hdr.isOv
   clear hdr
   go_wp2_with fail
   exact bodyPost_ret (v := .bool (!kwB t.text.data.toList)) (by simp [results, Tryz.results83, go_sem, ↓IntWalk.iteOmega]) rfl ⟨by simp only [h0, he, Bool.true_and, Bool.not_false], (hov.alloc _).trans hov2⟩
  ·
   have he2 : t.text.toList.isEmpty = true := by rw [Lib.toList_data]; exact he
   go_wp2_with fail
   exact bodyPost_ret (v := .bool false) (by simp [results, Tryz.results83, go_sem, ↓IntWalk.iteOmega]) rfl ⟨by simp only [h0, he, Bool.true_and, Bool.not_true, Bool.false_and], hov.trans (by repeat (first | with_reducible exact IsOv.refl _ | with_reducible apply IsOv.dr | with_reducible apply IsOv.drewN | with_reducible apply IsOv.drew | with_reducible apply IsOv.alloc | with_reducible apply IsOv.ov))⟩
def leafN (k : ByteArray) (t : Tok) : Node := if k.data.toList == [110, 117, 109] then ⟨k, ⟨#[]⟩, t.num, t.line, t.col, []⟩ else if k.data.toList == [116, 114, 117, 101] || k.data.toList == [102, 97, 108, 115, 101] then ⟨k, ⟨#[]⟩, 0, t.line, t.col, []⟩ else ⟨k, t.text, 0, t.line, t.col, []⟩
set_option maxRecDepth 20000 in
set_option maxHeartbeats 400000 in
theorem leaf_calls (c : PC) (hc : c.Ok) (w : World) (ts : List Tok) (k : ByteArray) (h : PS c w ts) (hk : (nowT ts).kind ≠ 3) :
  Calls Tryz.prog 55 #[.pointer (some ⟨c.p, 0, none⟩), .string k] w fun e w' => e = .returned (.agg #[.string (leafN k (nowT ts)).kind, .string (leafN k (nowT ts)).text, .int .u64 (leafN k (nowT ts)).num, .int .i64 (leafN k (nowT ts)).line, .int .i64 (leafN k (nowT ts)).col, .slice none 0 0]) ∧ PS c w' ts.tail ∧ Kp c w w' := by
 have HPS := hid h
 have HK := hid hk
 have hlt := h.lt
 clear h hk
 generalize ht : nowT ts = t at *
 have HT := hid ht
 clear ht
 go_enter Tryz.func55, Tryz.ntmps55
 go_wp2_with fail
 refine cmo (now_gives c hc _ ts (HPS.out.alloc _)) ?_
 rintro e1 w1 ⟨rfl, hov⟩
 rw [HT.out, show t.val = .agg #[.int .i64 t.kind, .string t.text, .int .u64 t.num, .int .i64 t.line, .int .i64 t.col] from rfl]
 have hps := (HPS.out.alloc _).isOv hov
 have hkp := hid (((Kp.refl c w).alloc _).trans (Kp.of_isOv hov))
 have hz1 : w.heap.size < w1.heap.size := by have := hov.size_le; simp at this; omega
 have hr0 : Hid (w1.heap[w.heap.size]? = some (.cells #[.string ⟨#[]⟩, .string ⟨#[]⟩, .int .u64 0, .int .i64 0, .int .i64 0, .slice none 0 0] 26 (0, 0))) := hid (hov.heap (heap_alloc_new w _))
 obtain ⟨i, hb, hi, hps3⟩ := PS.next hc (hps.alloc (.cells #[.int .i64 t.kind, .string t.text, .int .u64 t.num, .int .i64 t.line, .int .i64 t.col] 60)) (by rw [HT.out]; exact HK.out)
 have hb1 : (w1.alloc (.cells #[.int .i64 t.kind, .string t.text, .int .u64 t.num, .int .i64 t.line, .int .i64 t.col] 60)).cell? ⟨c.p, 1, none⟩ = some (.int .i64 (i : Int)) := cell_of_heap hb 1
 have hbf := frozen_of_heap hb 1
 have HP3 := hid hps3
 clear hov HPS hps hb hps3
 obtain ⟨r0, r1, r2, r3, r4, r5, hrf⟩ := cells6 hr0.out
 have hp1 : c.p < w.heap.size := hlt
 cases hk1 : (k.data.toList == [110, 117, 109])
 ·
  have hk1b : (k.toList == [110, 117, 109]) = false := by rw [Lib.toList_data]; exact hk1
  cases hk2 : (k.data.toList == [116, 114, 117, 101])
  ·
   have hk2b : (k.toList == [116, 114, 117, 101]) = false := by rw [Lib.toList_data]; exact hk2
   cases hk3 : (k.data.toList == [102, 97, 108, 115, 101])
   ·
    have hk3b : (k.toList == [102, 97, 108, 115, 101]) = false := by rw [Lib.toList_data]; exact hk3
    go_wp2_with fail
    refine bodyPost_ret (v := .agg _) (by exact results_heap (b := w.heap.size) Tryz.results55 rfl (hs_alloc (heap_set6 (hs_far (hs_alloc hr0.out _) (by omega) _) _ _ _ _ _ _) _) Tryz.underlying26 rfl (by kernel_rfl)) rfl ⟨by unfold leafN; simp [hk1, hk2, hk3], by (repeat' (first | with_reducible exact HP3.out | with_reducible refine PS.setCell ?_ (by omega) hc _ | with_reducible refine PS.alloc ?_ _ | with_reducible refine PS.drewN ?_ _ | with_reducible refine PS.drew ?_)), by (repeat' (first | with_reducible exact (hkp.out.alloc (.cells #[.int .i64 t.kind, .string t.text, .int .u64 t.num, .int .i64 t.line, .int .i64 t.col] 60)).setCell (.inl rfl) _ | with_reducible refine Kp.setCell ?_ (.inr (by first | exact Nat.le_refl _ | (show _ ≤ _; omega))) _ | with_reducible refine Kp.alloc ?_ _ | with_reducible refine Kp.drewN ?_ _ | with_reducible refine Kp.drew ?_))⟩
   ·
    have hk3b : (k.toList == [102, 97, 108, 115, 101]) = true := by rw [Lib.toList_data]; exact hk3
    go_wp2_with fail
    refine bodyPost_ret (v := .agg _) (by exact results_heap (b := w.heap.size) Tryz.results55 rfl (hs_alloc (heap_set6 (hs_far (hs_alloc hr0.out _) (by omega) _) _ _ _ _ _ _) _) Tryz.underlying26 rfl (by kernel_rfl)) rfl ⟨by unfold leafN; simp [hk1, hk2, hk3], by (repeat' (first | with_reducible exact HP3.out | with_reducible refine PS.setCell ?_ (by omega) hc _ | with_reducible refine PS.alloc ?_ _ | with_reducible refine PS.drewN ?_ _ | with_reducible refine PS.drew ?_)), by (repeat' (first | with_reducible exact (hkp.out.alloc (.cells #[.int .i64 t.kind, .string t.text, .int .u64 t.num, .int .i64 t.line, .int .i64 t.col] 60)).setCell (.inl rfl) _ | with_reducible refine Kp.setCell ?_ (.inr (by first | exact Nat.le_refl _ | (show _ ≤ _; omega))) _ | with_reducible refine Kp.alloc ?_ _ | with_reducible refine Kp.drewN ?_ _ | with_reducible refine Kp.drew ?_))⟩
  ·
   have hk2b : (k.toList == [116, 114, 117, 101]) = true := by rw [Lib.toList_data]; exact hk2
   go_wp2_with fail
   refine bodyPost_ret (v := .agg _) (by exact results_heap (b := w.heap.size) Tryz.results55 rfl (hs_alloc (heap_set6 (hs_far (hs_alloc hr0.out _) (by omega) _) _ _ _ _ _ _) _) Tryz.underlying26 rfl (by kernel_rfl)) rfl ⟨by unfold leafN; simp [hk1, hk2], by (repeat' (first | with_reducible exact HP3.out | with_reducible refine PS.setCell ?_ (by omega) hc _ | with_reducible refine PS.alloc ?_ _ | with_reducible refine PS.drewN ?_ _ | with_reducible refine PS.drew ?_)), by (repeat' (first | with_reducible exact (hkp.out.alloc (.cells #[.int .i64 t.kind, .string t.text, .int .u64 t.num, .int .i64 t.line, .int .i64 t.col] 60)).setCell (.inl rfl) _ | with_reducible refine Kp.setCell ?_ (.inr (by first | exact Nat.le_refl _ | (show _ ≤ _; omega))) _ | with_reducible refine Kp.alloc ?_ _ | with_reducible refine Kp.drewN ?_ _ | with_reducible refine Kp.drew ?_))⟩
 ·
  have hk1b : (k.toList == [110, 117, 109]) = true := by rw [Lib.toList_data]; exact hk1
  go_wp2_with fail
  go_region_held3 (fun w' => w'.cell? ⟨w1.heap.size, 2, none⟩ = some (.int .u64 t.num)) (first | exact cell_of_heap (hs_drew (hs_alloc (hs_far (heap_alloc_new w1 (.cells #[.int .i64 t.kind, .string t.text, .int .u64 t.num, .int .i64 t.line, .int .i64 t.col] 60)) (by omega) _) _)) 2 | exact cell_of_heap (hs_alloc (hs_far (heap_alloc_new w1 (.cells #[.int .i64 t.kind, .string t.text, .int .u64 t.num, .int .i64 t.line, .int .i64 t.col] 60)) (by omega) _) _) 2) (fail)
  go_wp2_with fail
  refine bodyPost_ret (v := .agg _) (by exact results_heap (b := w.heap.size) Tryz.results55 rfl (hs_drew (hs_alloc (heap_set6 (hs_far (hs_alloc hr0.out _) (by omega) _) _ _ _ _ _ _) _)) Tryz.underlying26 rfl (by kernel_rfl)) rfl ⟨by unfold leafN; simp [hk1], by (repeat' (first | with_reducible exact HP3.out | with_reducible refine PS.setCell ?_ (by omega) hc _ | with_reducible refine PS.alloc ?_ _ | with_reducible refine PS.drewN ?_ _ | with_reducible refine PS.drew ?_)), by (repeat' (first | with_reducible exact (hkp.out.alloc (.cells #[.int .i64 t.kind, .string t.text, .int .u64 t.num, .int .i64 t.line, .int .i64 t.col] 60)).setCell (.inl rfl) _ | with_reducible refine Kp.setCell ?_ (.inr (by first | exact Nat.le_refl _ | (show _ ≤ _; omega))) _ | with_reducible refine Kp.alloc ?_ _ | with_reducible refine Kp.drewN ?_ _ | with_reducible refine Kp.drew ?_))⟩
end Go.Proofs.YtdimhoilfopndaaGreatDoor
end
section
namespace Go.Proofs.YtdimhoilfopndaaGreatDoor
open Go.RowKit
def typedB (s : ByteArray) : Bool := (s.data.toList == [98, 111, 111, 108]) || (s.data.toList == [117, 56]) || (s.data.toList == [117, 49, 54]) || (s.data.toList == [117, 51, 50]) || (s.data.toList == [117, 54, 52]) || (s.data.toList == [105, 56]) || (s.data.toList == [105, 49, 54]) || (s.data.toList == [105, 51, 50]) || (s.data.toList == [105, 54, 52])
set_option maxRecDepth 20000 in
set_option maxHeartbeats 400000 in
theorem typed_gives (s : ByteArray) (w : World) : Gives Tryz.prog 64 #[.string s] w (.bool (typedB s)) := by
 unfold Gives
 go_enter Tryz.func64, Tryz.ntmps64
 cases h0 : (s.data.toList == [98, 111, 111, 108])
 ·
  have g0 : (s.toList == [98, 111, 111, 108]) = false := by rw [Lib.toList_data]; exact h0
  cases h1 : (s.data.toList == [117, 56])
  ·
   have g1 : (s.toList == [117, 56]) = false := by rw [Lib.toList_data]; exact h1
   cases h2 : (s.data.toList == [117, 49, 54])
   ·
    have g2 : (s.toList == [117, 49, 54]) = false := by rw [Lib.toList_data]; exact h2
    cases h3 : (s.data.toList == [117, 51, 50])
    ·
     have g3 : (s.toList == [117, 51, 50]) = false := by rw [Lib.toList_data]; exact h3
     cases h4 : (s.data.toList == [117, 54, 52])
     ·
      have g4 : (s.toList == [117, 54, 52]) = false := by rw [Lib.toList_data]; exact h4
      cases h5 : (s.data.toList == [105, 56])
      ·
       have g5 : (s.toList == [105, 56]) = false := by rw [Lib.toList_data]; exact h5
       cases h6 : (s.data.toList == [105, 49, 54])
       ·
        have g6 : (s.toList == [105, 49, 54]) = false := by rw [Lib.toList_data]; exact h6
        cases h7 : (s.data.toList == [105, 51, 50])
        ·
         have g7 : (s.toList == [105, 51, 50]) = false := by rw [Lib.toList_data]; exact h7
         cases h8 : (s.data.toList == [105, 54, 52])
         ·
          have g8 : (s.toList == [105, 54, 52]) = false := by rw [Lib.toList_data]; exact h8
          go_wp2_with fail
          exact bodyPost_ret (v := .bool false) (by simp [results, Tryz.results64, go_sem, ↓IntWalk.iteOmega]) rfl ⟨by unfold typedB; simp only [h0, h1, h2, h3, h4, h5, h6, h7, h8, Bool.or_false, Bool.or_self], by repeat (first | with_reducible exact IsOv.refl _ | with_reducible apply IsOv.dr | with_reducible apply IsOv.drewN | with_reducible apply IsOv.drew | with_reducible apply IsOv.alloc | with_reducible apply IsOv.ov)⟩
         ·
          have g8 : (s.toList == [105, 54, 52]) = true := by rw [Lib.toList_data]; exact h8
          go_wp2_with fail
          exact bodyPost_ret (v := .bool true) (by simp [results, Tryz.results64, go_sem, ↓IntWalk.iteOmega]) rfl ⟨by unfold typedB; simp only [h0, h1, h2, h3, h4, h5, h6, h7, h8, Bool.or_true, Bool.true_or, Bool.or_false], by repeat (first | with_reducible exact IsOv.refl _ | with_reducible apply IsOv.dr | with_reducible apply IsOv.drewN | with_reducible apply IsOv.drew | with_reducible apply IsOv.alloc | with_reducible apply IsOv.ov)⟩
        ·
         have g7 : (s.toList == [105, 51, 50]) = true := by rw [Lib.toList_data]; exact h7
         go_wp2_with fail
         exact bodyPost_ret (v := .bool true) (by simp [results, Tryz.results64, go_sem, ↓IntWalk.iteOmega]) rfl ⟨by unfold typedB; simp only [h0, h1, h2, h3, h4, h5, h6, h7, Bool.or_true, Bool.true_or, Bool.or_false], by repeat (first | with_reducible exact IsOv.refl _ | with_reducible apply IsOv.dr | with_reducible apply IsOv.drewN | with_reducible apply IsOv.drew | with_reducible apply IsOv.alloc | with_reducible apply IsOv.ov)⟩
       ·
        have g6 : (s.toList == [105, 49, 54]) = true := by rw [Lib.toList_data]; exact h6
        go_wp2_with fail
        exact bodyPost_ret (v := .bool true) (by simp [results, Tryz.results64, go_sem, ↓IntWalk.iteOmega]) rfl ⟨by unfold typedB; simp only [h0, h1, h2, h3, h4, h5, h6, Bool.or_true, Bool.true_or, Bool.or_false], by repeat (first | with_reducible exact IsOv.refl _ | with_reducible apply IsOv.dr | with_reducible apply IsOv.drewN | with_reducible apply IsOv.drew | with_reducible apply IsOv.alloc | with_reducible apply IsOv.ov)⟩
      ·
       have g5 : (s.toList == [105, 56]) = true := by rw [Lib.toList_data]; exact h5
       go_wp2_with fail
       exact bodyPost_ret (v := .bool true) (by simp [results, Tryz.results64, go_sem, ↓IntWalk.iteOmega]) rfl ⟨by unfold typedB; simp only [h0, h1, h2, h3, h4, h5, Bool.or_true, Bool.true_or, Bool.or_false], by repeat (first | with_reducible exact IsOv.refl _ | with_reducible apply IsOv.dr | with_reducible apply IsOv.drewN | with_reducible apply IsOv.drew | with_reducible apply IsOv.alloc | with_reducible apply IsOv.ov)⟩
     ·
      have g4 : (s.toList == [117, 54, 52]) = true := by rw [Lib.toList_data]; exact h4
      go_wp2_with fail
      exact bodyPost_ret (v := .bool true) (by simp [results, Tryz.results64, go_sem, ↓IntWalk.iteOmega]) rfl ⟨by unfold typedB; simp only [h0, h1, h2, h3, h4, Bool.or_true, Bool.true_or, Bool.or_false], by repeat (first | with_reducible exact IsOv.refl _ | with_reducible apply IsOv.dr | with_reducible apply IsOv.drewN | with_reducible apply IsOv.drew | with_reducible apply IsOv.alloc | with_reducible apply IsOv.ov)⟩
    ·
     have g3 : (s.toList == [117, 51, 50]) = true := by rw [Lib.toList_data]; exact h3
     go_wp2_with fail
     exact bodyPost_ret (v := .bool true) (by simp [results, Tryz.results64, go_sem, ↓IntWalk.iteOmega]) rfl ⟨by unfold typedB; simp only [h0, h1, h2, h3, Bool.or_true, Bool.true_or, Bool.or_false], by repeat (first | with_reducible exact IsOv.refl _ | with_reducible apply IsOv.dr | with_reducible apply IsOv.drewN | with_reducible apply IsOv.drew | with_reducible apply IsOv.alloc | with_reducible apply IsOv.ov)⟩
   ·
    have g2 : (s.toList == [117, 49, 54]) = true := by rw [Lib.toList_data]; exact h2
    go_wp2_with fail
    exact bodyPost_ret (v := .bool true) (by simp [results, Tryz.results64, go_sem, ↓IntWalk.iteOmega]) rfl ⟨by unfold typedB; simp only [h0, h1, h2, Bool.or_true, Bool.true_or, Bool.or_false], by repeat (first | with_reducible exact IsOv.refl _ | with_reducible apply IsOv.dr | with_reducible apply IsOv.drewN | with_reducible apply IsOv.drew | with_reducible apply IsOv.alloc | with_reducible apply IsOv.ov)⟩
  ·
   have g1 : (s.toList == [117, 56]) = true := by rw [Lib.toList_data]; exact h1
   go_wp2_with fail
   exact bodyPost_ret (v := .bool true) (by simp [results, Tryz.results64, go_sem, ↓IntWalk.iteOmega]) rfl ⟨by unfold typedB; simp only [h0, h1, Bool.or_true, Bool.true_or, Bool.or_false], by repeat (first | with_reducible exact IsOv.refl _ | with_reducible apply IsOv.dr | with_reducible apply IsOv.drewN | with_reducible apply IsOv.drew | with_reducible apply IsOv.alloc | with_reducible apply IsOv.ov)⟩
 ·
  have g0 : (s.toList == [98, 111, 111, 108]) = true := by rw [Lib.toList_data]; exact h0
  go_wp2_with fail
  exact bodyPost_ret (v := .bool true) (by simp [results, Tryz.results64, go_sem, ↓IntWalk.iteOmega]) rfl ⟨by unfold typedB; simp only [h0, Bool.or_true, Bool.true_or, Bool.or_false], by repeat (first | with_reducible exact IsOv.refl _ | with_reducible apply IsOv.dr | with_reducible apply IsOv.drewN | with_reducible apply IsOv.drew | with_reducible apply IsOv.alloc | with_reducible apply IsOv.ov)⟩
def isTypeF (ts : List Tok) : Bool := (nowT ts).kind == 0 && typedB (nowT ts).text
set_option maxRecDepth 20000 in
set_option maxHeartbeats 400000 in
theorem isType_gives (c : PC) (hc : c.Ok) (w : World) (ts : List Tok) (h : PS c w ts) : Gives Tryz.prog 82 #[.pointer (some ⟨c.p, 0, none⟩)] w (.bool (isTypeF ts)) := by
 have hn := hid (now_gives c hc w ts h)
 unfold Gives isTypeF
 clear h
 generalize nowT ts = t at *
 go_enter Tryz.func82, Tryz.ntmps82
 go_wp2_with fail
 refine Calls.mono hn.out ?_
 rintro e w1 ⟨rfl, hov⟩
 rw [show t.val = .agg #[.int .i64 t.kind, .string t.text, .int .u64 t.num, .int .i64 t.line, .int .i64 t.col] from rfl]
 clear hn
 cases h0 : (t.kind == 0)
 ·
  go_wp2_with fail
  exact bodyPost_ret (v := .bool false) (by simp [results, Tryz.results82, go_sem, ↓IntWalk.iteOmega]) rfl ⟨by simp only [h0, Bool.false_and], hov.trans (by repeat (first | with_reducible exact IsOv.refl _ | with_reducible apply IsOv.dr | with_reducible apply IsOv.drewN | with_reducible apply IsOv.drew | with_reducible apply IsOv.alloc | with_reducible apply IsOv.ov))⟩
 ·
  go_wp2_with fail
  refine cmo (typed_gives t.text _) ?_
  rintro e w2 ⟨rfl, hov2⟩
  have hov3 := hid ((hov.alloc _).trans hov2)
  clear hov hov2
  go_wp2_with fail
  exact bodyPost_ret (v := .bool (typedB t.text)) (by simp [results, Tryz.results82, go_sem, ↓IntWalk.iteOmega]) rfl ⟨by simp only [h0, Bool.true_and], hov3.out⟩
def nodeV (n : Node) (v : Value) : Value := .agg #[.string n.kind, .string n.text, .int .u64 n.num, .int .i64 n.line, .int .i64 n.col, v]
theorem leaf_kids (k : ByteArray) (t : Tok) : (leafN k t).kids = [] := by unfold leafN; split <;> (try split) <;> rfl
def nameF (ts : List Tok) : PR Node := if namedF ts then .ok (leafN ⟨#[110, 97, 109, 101]⟩ (nowT ts)) ts.tail else badAt ts 30
def typF (ts : List Tok) : PR Node := if isTypeF ts then .ok (leafN ⟨#[116, 121, 112, 101]⟩ (nowT ts)) ts.tail else badAt ts 30
theorem named_kind {ts : List Tok} (h : namedF ts = true) : (nowT ts).kind ≠ 3 := by
 unfold namedF at h
 simp only [Bool.and_eq_true, beq_iff_eq] at h
 omega
theorem isType_kind {ts : List Tok} (h : isTypeF ts = true) : (nowT ts).kind ≠ 3 := by
 unfold isTypeF at h
 simp only [Bool.and_eq_true, beq_iff_eq] at h
 omega
set_option maxRecDepth 20000 in
set_option maxHeartbeats 400000 in
theorem name_calls (c : PC) (hc : c.Ok) (w : World) (ts : List Tok) (h : PS c w ts) :
  Calls Tryz.prog 57 #[.pointer (some ⟨c.p, 0, none⟩)] w fun e w' => Kp c w w' ∧ (match nameF ts with | .ok n r => e = .returned (nodeV n (.slice none 0 0)) ∧ n.kids = [] ∧ PS c w' r | .bad l k er => e = wrongE l k er) := by
 have hlt := h.lt
 have HPS := hid h
 unfold nameF
 cases hx : namedF ts
 ·
  have HX := hid hx
  have HB : Hid ((if false = true then PR.ok (leafN ⟨#[110, 97, 109, 101]⟩ (nowT ts)) ts.tail else badAt ts 30 : PR Node) = .bad (nowT ts).line (nowT ts).col 30) := hid rfl
  rw [HB.out]
  clear h hx HB
  go_enter Tryz.func57, Tryz.ntmps57
  go_wp2_with fail
  refine cmo (named_gives c hc _ ts (HPS.out.alloc _)) ?_
  rintro e1 w1 ⟨rfl, hov⟩
  rw [HX.out]
  go_wp2_with fail
  refine cmo (give_calls c hc _ ts 30 ((HPS.out.alloc _).isOv hov)) ?_
  rintro e1 w3 ⟨rfl, hps3, hkp3⟩
  exact ⟨rfl, (((Kp.refl c w).alloc _).trans (Kp.of_isOv hov)).trans hkp3, rfl⟩
 ·
  have HX := hid hx
  have HB : Hid ((if true = true then PR.ok (leafN ⟨#[110, 97, 109, 101]⟩ (nowT ts)) ts.tail else badAt ts 30 : PR Node) = .ok (leafN ⟨#[110, 97, 109, 101]⟩ (nowT ts)) ts.tail) := hid rfl
  rw [HB.out]
  have HKD := hid (named_kind hx)
  clear h hx HB
  go_enter Tryz.func57, Tryz.ntmps57
  go_wp2_with fail
  refine cmo (named_gives c hc _ ts (HPS.out.alloc _)) ?_
  rintro e1 w1 ⟨rfl, hov⟩
  rw [HX.out]
  have hps1 := hid ((HPS.out.alloc _).isOv hov)
  have hkp1 := hid (((Kp.refl c w).alloc _).trans (Kp.of_isOv hov))
  have hr1 : Hid (w1.heap[w.heap.size]? = some (.cells #[.string ⟨#[]⟩, .string ⟨#[]⟩, .int .u64 0, .int .i64 0, .int .i64 0, .slice none 0 0] 26)) := hid (hov.heap (heap_alloc_new w _))
  clear hov HPS
  go_wp2_with fail
  refine cmo (leaf_calls c hc _ ts ⟨#[110, 97, 109, 101]⟩ hps1.out HKD.out) ?_
  rintro e1 w2 ⟨rfl, hps2, hkp2⟩
  have hr2 := hid (hkp2.heap hr1.out (by omega))
  have HPS2 := hid hps2
  have HKP2 := hid (hkp1.out.trans hkp2)
  have HLK := hid (leaf_kids ⟨#[110, 97, 109, 101]⟩ (nowT ts))
  clear hkp2 hps2 hr1 hkp1 hps1
  obtain ⟨r0, r1, r2, r3, r4, r5, rf⟩ := cells6 hr2.out
  go_wp2_with fail
  refine bodyPost_ret (v := .agg _) (by exact results_heap (b := w.heap.size) Tryz.results57 rfl (heap_set6 hr2.out _ _ _ _ _ _) Tryz.underlying26 rfl (by kernel_rfl)) rfl ⟨by (repeat' (first | with_reducible exact HKP2.out | with_reducible refine Kp.setCell ?_ (.inr (by first | exact Nat.le_refl _ | (show _ ≤ _; omega))) _ | with_reducible refine Kp.alloc ?_ _ | with_reducible refine Kp.drewN ?_ _ | with_reducible refine Kp.drew ?_)), rfl, HLK.out, by (repeat' (first | with_reducible exact HPS2.out | with_reducible refine PS.setCell ?_ (by omega) hc _ | with_reducible refine PS.alloc ?_ _ | with_reducible refine PS.drewN ?_ _ | with_reducible refine PS.drew ?_))⟩
set_option maxRecDepth 20000 in
set_option maxHeartbeats 400000 in
theorem typ_calls (c : PC) (hc : c.Ok) (w : World) (ts : List Tok) (h : PS c w ts) :
  Calls Tryz.prog 56 #[.pointer (some ⟨c.p, 0, none⟩)] w fun e w' => Kp c w w' ∧ (match typF ts with | .ok n r => e = .returned (nodeV n (.slice none 0 0)) ∧ n.kids = [] ∧ PS c w' r | .bad l k er => e = wrongE l k er) := by
 have hlt := h.lt
 have HPS := hid h
 unfold typF
 cases hx : isTypeF ts
 ·
  have HX := hid hx
  have HB : Hid ((if false = true then PR.ok (leafN ⟨#[116, 121, 112, 101]⟩ (nowT ts)) ts.tail else badAt ts 30 : PR Node) = .bad (nowT ts).line (nowT ts).col 30) := hid rfl
  rw [HB.out]
  clear h hx HB
  go_enter Tryz.func56, Tryz.ntmps56
  go_wp2_with fail
  refine cmo (isType_gives c hc _ ts (HPS.out.alloc _)) ?_
  rintro e1 w1 ⟨rfl, hov⟩
  rw [HX.out]
  go_wp2_with fail
  refine cmo (give_calls c hc _ ts 30 ((HPS.out.alloc _).isOv hov)) ?_
  rintro e1 w3 ⟨rfl, hps3, hkp3⟩
  exact ⟨rfl, (((Kp.refl c w).alloc _).trans (Kp.of_isOv hov)).trans hkp3, rfl⟩
 ·
  have HX := hid hx
  have HB : Hid ((if true = true then PR.ok (leafN ⟨#[116, 121, 112, 101]⟩ (nowT ts)) ts.tail else badAt ts 30 : PR Node) = .ok (leafN ⟨#[116, 121, 112, 101]⟩ (nowT ts)) ts.tail) := hid rfl
  rw [HB.out]
  have HKD := hid (isType_kind hx)
  clear h hx HB
  go_enter Tryz.func56, Tryz.ntmps56
  go_wp2_with fail
  refine cmo (isType_gives c hc _ ts (HPS.out.alloc _)) ?_
  rintro e1 w1 ⟨rfl, hov⟩
  rw [HX.out]
  have hps1 := hid ((HPS.out.alloc _).isOv hov)
  have hkp1 := hid (((Kp.refl c w).alloc _).trans (Kp.of_isOv hov))
  have hr1 : Hid (w1.heap[w.heap.size]? = some (.cells #[.string ⟨#[]⟩, .string ⟨#[]⟩, .int .u64 0, .int .i64 0, .int .i64 0, .slice none 0 0] 26)) := hid (hov.heap (heap_alloc_new w _))
  clear hov HPS
  go_wp2_with fail
  refine cmo (leaf_calls c hc _ ts ⟨#[116, 121, 112, 101]⟩ hps1.out HKD.out) ?_
  rintro e1 w2 ⟨rfl, hps2, hkp2⟩
  have hr2 := hid (hkp2.heap hr1.out (by omega))
  have HPS2 := hid hps2
  have HKP2 := hid (hkp1.out.trans hkp2)
  have HLK := hid (leaf_kids ⟨#[116, 121, 112, 101]⟩ (nowT ts))
  clear hkp2 hps2 hr1 hkp1 hps1
  obtain ⟨r0, r1, r2, r3, r4, r5, rf⟩ := cells6 hr2.out
  go_wp2_with fail
  refine bodyPost_ret (v := .agg _) (by exact results_heap (b := w.heap.size) Tryz.results56 rfl (heap_set6 hr2.out _ _ _ _ _ _) Tryz.underlying26 rfl (by kernel_rfl)) rfl ⟨by (repeat' (first | with_reducible exact HKP2.out | with_reducible refine Kp.setCell ?_ (.inr (by first | exact Nat.le_refl _ | (show _ ≤ _; omega))) _ | with_reducible refine Kp.alloc ?_ _ | with_reducible refine Kp.drewN ?_ _ | with_reducible refine Kp.drew ?_)), rfl, HLK.out, by (repeat' (first | with_reducible exact HPS2.out | with_reducible refine PS.setCell ?_ (by omega) hc _ | with_reducible refine PS.alloc ?_ _ | with_reducible refine PS.drewN ?_ _ | with_reducible refine PS.drew ?_))⟩
end Go.Proofs.YtdimhoilfopndaaGreatDoor
end
section
namespace Go.Proofs.YtdimhoilfopndaaGreatDoor
open Go.RowKit
def levL : List (List ByteArray) := [[⟨#[124, 124]⟩], [⟨#[38, 38]⟩], [⟨#[124]⟩], [⟨#[94]⟩], [⟨#[38]⟩], [⟨#[61, 61]⟩, ⟨#[33, 61]⟩], [⟨#[60]⟩, ⟨#[60, 61]⟩, ⟨#[62]⟩, ⟨#[62, 61]⟩], [⟨#[60, 60]⟩, ⟨#[62, 62]⟩], [⟨#[43]⟩, ⟨#[45]⟩], [⟨#[42]⟩, ⟨#[47]⟩, ⟨#[37]⟩]]
def levelB (i : Nat) (op : ByteArray) : Bool := (levL.getD i []).any fun s => s.data.toList == op.data.toList
theorem parts_at {w : World} {b : Nat} {P : List ByteArray} (h : w.heap[b]? = some (.cells (P.map Value.string).toArray 9 (0, 0))) {k : Nat} (hk : k < P.length) : w.cell? ⟨b, k, none⟩ = some (.string (P.getD k ⟨#[]⟩)) := by
 rw [cell_of_heap h, ← Array.getElem?_toList]
 simp [List.getD, List.getElem?_eq_getElem hk]
theorem any_take {P : List ByteArray} {op : ByteArray} {k : Nat} (hk : k < P.length) : (P.take (k + 1)).any (fun s => s.data.toList == op.data.toList) = ((P.take k).any (fun s => s.data.toList == op.data.toList) || (P.getD k ⟨#[]⟩).data.toList == op.data.toList) := by
 rw [List.take_add_one, List.any_append]
 simp [List.getD, List.getElem?_eq_getElem hk]
theorem any_hit {P : List ByteArray} {op : ByteArray} {k : Nat} (hk : k < P.length) (h : ((P.getD k ⟨#[]⟩).data.toList == op.data.toList) = true) : P.any (fun s => s.data.toList == op.data.toList) = true := by
 rw [List.any_eq_true]
 exact ⟨P.getD k ⟨#[]⟩, by simp [List.getD, List.getElem?_eq_getElem hk], h⟩
theorem split0 : Lib.countB ⟨#[124, 124]⟩ ⟨#[32]⟩ = 0 ∧ Lib.splitB ⟨#[32]⟩ 0 0 ⟨#[124, 124]⟩ = [⟨#[124, 124]⟩] := ⟨by kernel_rfl, by kernel_rfl⟩
set_option maxRecDepth 20000 in
set_option maxHeartbeats 400000 in
theorem level0 (w : World) (op : ByteArray) (m : Int) (hm : w.cell? ⟨3, 0, none⟩ = some (.int .i64 m)) : Gives Tryz.prog 126 #[.int .i64 0, .string op] w (.bool (levelB 0 op)) := by
 unfold Gives
 have HM := hid hm
 clear hm
 go_enter Tryz.func126, Tryz.ntmps126
 go_wp2_with fail
 refine cmo (Tryz.strings_Split ⟨#[124, 124]⟩ ⟨#[32]⟩ m _ (by decide) (IsOv.cell (by repeat (first | with_reducible exact IsOv.refl _ | with_reducible apply IsOv.dr | with_reducible apply IsOv.drewN | with_reducible apply IsOv.drew | with_reducible apply IsOv.alloc | with_reducible apply IsOv.ov)) HM.out) (by decide)) ?_
 rintro e w1 ⟨rfl, hw1⟩
 rw [split0.1, split0.2] at hw1
 rw [split0.1]
 have hov1 : IsOv w w1 := by rw [hw1]; exact (((IsOv.refl w).alloc _).alloc _)
 have hk1 : w1.heap[w.heap.size + 1]? = some (.cells (([⟨#[124, 124]⟩] : List ByteArray).map Value.string).toArray 9 (0, 0)) := by rw [hw1]; have h9 := heap_alloc_new (w.alloc (.cells #[.string ⟨#[124, 124]⟩, .string ⟨#[38, 38]⟩, .string ⟨#[124]⟩, .string ⟨#[94]⟩, .string ⟨#[38]⟩, .string ⟨#[61, 61, 32, 33, 61]⟩, .string ⟨#[60, 32, 60, 61, 32, 62, 32, 62, 61]⟩, .string ⟨#[60, 60, 32, 62, 62]⟩, .string ⟨#[43, 32, 45]⟩, .string ⟨#[42, 32, 47, 32, 37]⟩] 152)) (.cells (([⟨#[124, 124]⟩] : List ByteArray).map Value.string).toArray 9); simpa using h9
 have HV : Hid (levelB 0 op = ([⟨#[124, 124]⟩] : List ByteArray).any fun s => s.data.toList == op.data.toList) := hid rfl
 have HK1 := hid hk1
 have hlen : ([⟨#[124, 124]⟩] : List ByteArray).length = 1 := rfl
 generalize ([⟨#[124, 124]⟩] : List ByteArray) = P at *
 clear hw1 hk1
 have HLEN := hid hlen
 have hl1 : P.length ≤ 1 := by omega
 have hl2 : 1 ≤ P.length := by omega
 clear hlen
 go_wp2_with fail
 go_loopw [14] (fun iv wr => ∃ (k : Nat), iv = .int .i64 (k : Int) ∧ k ≤ P.length ∧ wr = w1 ∧ Hid ((P.take k).any (fun s => s.data.toList == op.data.toList) = false)) (fun iv wr => (P.length - intOf iv).toNat)
 case atStart => exact ⟨0, rfl, Nat.zero_le _, rfl, hid rfl⟩
 case round =>
  obtain ⟨k, rfl, hk, rfl, hA⟩ := hrel
  by_cases hkn : k < P.length
  ·
   have hc := parts_at HK1.out hkn
   have hT := any_take (op := op) hkn
   have hH := hid (any_hit (op := op) hkn)
   rw [hA.out, Bool.false_or] at hT
   generalize P.getD k ⟨#[]⟩ = x at *
   cases hx : (x.data.toList == op.data.toList)
   ·
    rw [hx] at hT
    have hxb : (x.toList == op.toList) = false := by rw [txt_eq]; exact hx
    have HT := hid hT
    clear hT hH hA hx
    go_wp2_with fail
    go_roundw
    case rel => exact ⟨k + 1, by go_num, by omega, trivial, HT⟩
    case measure => simp [intOf]; omega
   ·
    have hxb : (x.toList == op.toList) = true := by rw [txt_eq]; exact hx
    have HH := hid (hH.out hx)
    clear hT hH hA hx
    go_wp2_with fail
    exact bodyPost_ret (v := .bool true) (by simp [results, Tryz.results126, go_sem, ↓IntWalk.iteOmega]) rfl ⟨by rw [HV.out, HH.out], hov1⟩
  ·
   obtain rfl : k = P.length := by omega
   have hA2 := hA.out
   rw [List.take_of_length_le (Nat.le_refl _)] at hA2
   have HA2 := hid hA2
   clear hA hA2
   go_wp2_with fail
   exact bodyPost_ret (v := .bool false) (by simp [results, Tryz.results126, go_sem, ↓IntWalk.iteOmega]) rfl ⟨by rw [HV.out, HA2.out], hov1⟩
theorem split1 : Lib.countB ⟨#[38, 38]⟩ ⟨#[32]⟩ = 0 ∧ Lib.splitB ⟨#[32]⟩ 0 0 ⟨#[38, 38]⟩ = [⟨#[38, 38]⟩] := ⟨by kernel_rfl, by kernel_rfl⟩
set_option maxRecDepth 20000 in
set_option maxHeartbeats 400000 in
theorem level1 (w : World) (op : ByteArray) (m : Int) (hm : w.cell? ⟨3, 0, none⟩ = some (.int .i64 m)) : Gives Tryz.prog 126 #[.int .i64 1, .string op] w (.bool (levelB 1 op)) := by
 unfold Gives
 have HM := hid hm
 clear hm
 go_enter Tryz.func126, Tryz.ntmps126
 go_wp2_with fail
 refine cmo (Tryz.strings_Split ⟨#[38, 38]⟩ ⟨#[32]⟩ m _ (by decide) (IsOv.cell (by repeat (first | with_reducible exact IsOv.refl _ | with_reducible apply IsOv.dr | with_reducible apply IsOv.drewN | with_reducible apply IsOv.drew | with_reducible apply IsOv.alloc | with_reducible apply IsOv.ov)) HM.out) (by decide)) ?_
 rintro e w1 ⟨rfl, hw1⟩
 rw [split1.1, split1.2] at hw1
 rw [split1.1]
 have hov1 : IsOv w w1 := by rw [hw1]; exact (((IsOv.refl w).alloc _).alloc _)
 have hk1 : w1.heap[w.heap.size + 1]? = some (.cells (([⟨#[38, 38]⟩] : List ByteArray).map Value.string).toArray 9 (0, 0)) := by rw [hw1]; have h9 := heap_alloc_new (w.alloc (.cells #[.string ⟨#[124, 124]⟩, .string ⟨#[38, 38]⟩, .string ⟨#[124]⟩, .string ⟨#[94]⟩, .string ⟨#[38]⟩, .string ⟨#[61, 61, 32, 33, 61]⟩, .string ⟨#[60, 32, 60, 61, 32, 62, 32, 62, 61]⟩, .string ⟨#[60, 60, 32, 62, 62]⟩, .string ⟨#[43, 32, 45]⟩, .string ⟨#[42, 32, 47, 32, 37]⟩] 152)) (.cells (([⟨#[38, 38]⟩] : List ByteArray).map Value.string).toArray 9); simpa using h9
 have HV : Hid (levelB 1 op = ([⟨#[38, 38]⟩] : List ByteArray).any fun s => s.data.toList == op.data.toList) := hid rfl
 have HK1 := hid hk1
 have hlen : ([⟨#[38, 38]⟩] : List ByteArray).length = 1 := rfl
 generalize ([⟨#[38, 38]⟩] : List ByteArray) = P at *
 clear hw1 hk1
 have HLEN := hid hlen
 have hl1 : P.length ≤ 1 := by omega
 have hl2 : 1 ≤ P.length := by omega
 clear hlen
 go_wp2_with fail
 go_loopw [14] (fun iv wr => ∃ (k : Nat), iv = .int .i64 (k : Int) ∧ k ≤ P.length ∧ wr = w1 ∧ Hid ((P.take k).any (fun s => s.data.toList == op.data.toList) = false)) (fun iv wr => (P.length - intOf iv).toNat)
 case atStart => exact ⟨0, rfl, Nat.zero_le _, rfl, hid rfl⟩
 case round =>
  obtain ⟨k, rfl, hk, rfl, hA⟩ := hrel
  by_cases hkn : k < P.length
  ·
   have hc := parts_at HK1.out hkn
   have hT := any_take (op := op) hkn
   have hH := hid (any_hit (op := op) hkn)
   rw [hA.out, Bool.false_or] at hT
   generalize P.getD k ⟨#[]⟩ = x at *
   cases hx : (x.data.toList == op.data.toList)
   ·
    rw [hx] at hT
    have hxb : (x.toList == op.toList) = false := by rw [txt_eq]; exact hx
    have HT := hid hT
    clear hT hH hA hx
    go_wp2_with fail
    go_roundw
    case rel => exact ⟨k + 1, by go_num, by omega, trivial, HT⟩
    case measure => simp [intOf]; omega
   ·
    have hxb : (x.toList == op.toList) = true := by rw [txt_eq]; exact hx
    have HH := hid (hH.out hx)
    clear hT hH hA hx
    go_wp2_with fail
    exact bodyPost_ret (v := .bool true) (by simp [results, Tryz.results126, go_sem, ↓IntWalk.iteOmega]) rfl ⟨by rw [HV.out, HH.out], hov1⟩
  ·
   obtain rfl : k = P.length := by omega
   have hA2 := hA.out
   rw [List.take_of_length_le (Nat.le_refl _)] at hA2
   have HA2 := hid hA2
   clear hA hA2
   go_wp2_with fail
   exact bodyPost_ret (v := .bool false) (by simp [results, Tryz.results126, go_sem, ↓IntWalk.iteOmega]) rfl ⟨by rw [HV.out, HA2.out], hov1⟩
theorem split2 : Lib.countB ⟨#[124]⟩ ⟨#[32]⟩ = 0 ∧ Lib.splitB ⟨#[32]⟩ 0 0 ⟨#[124]⟩ = [⟨#[124]⟩] := ⟨by kernel_rfl, by kernel_rfl⟩
set_option maxRecDepth 20000 in
set_option maxHeartbeats 400000 in
theorem level2 (w : World) (op : ByteArray) (m : Int) (hm : w.cell? ⟨3, 0, none⟩ = some (.int .i64 m)) : Gives Tryz.prog 126 #[.int .i64 2, .string op] w (.bool (levelB 2 op)) := by
 unfold Gives
 have HM := hid hm
 clear hm
 go_enter Tryz.func126, Tryz.ntmps126
 go_wp2_with fail
 refine cmo (Tryz.strings_Split ⟨#[124]⟩ ⟨#[32]⟩ m _ (by decide) (IsOv.cell (by repeat (first | with_reducible exact IsOv.refl _ | with_reducible apply IsOv.dr | with_reducible apply IsOv.drewN | with_reducible apply IsOv.drew | with_reducible apply IsOv.alloc | with_reducible apply IsOv.ov)) HM.out) (by decide)) ?_
 rintro e w1 ⟨rfl, hw1⟩
 rw [split2.1, split2.2] at hw1
 rw [split2.1]
 have hov1 : IsOv w w1 := by rw [hw1]; exact (((IsOv.refl w).alloc _).alloc _)
 have hk1 : w1.heap[w.heap.size + 1]? = some (.cells (([⟨#[124]⟩] : List ByteArray).map Value.string).toArray 9 (0, 0)) := by rw [hw1]; have h9 := heap_alloc_new (w.alloc (.cells #[.string ⟨#[124, 124]⟩, .string ⟨#[38, 38]⟩, .string ⟨#[124]⟩, .string ⟨#[94]⟩, .string ⟨#[38]⟩, .string ⟨#[61, 61, 32, 33, 61]⟩, .string ⟨#[60, 32, 60, 61, 32, 62, 32, 62, 61]⟩, .string ⟨#[60, 60, 32, 62, 62]⟩, .string ⟨#[43, 32, 45]⟩, .string ⟨#[42, 32, 47, 32, 37]⟩] 152)) (.cells (([⟨#[124]⟩] : List ByteArray).map Value.string).toArray 9); simpa using h9
 have HV : Hid (levelB 2 op = ([⟨#[124]⟩] : List ByteArray).any fun s => s.data.toList == op.data.toList) := hid rfl
 have HK1 := hid hk1
 have hlen : ([⟨#[124]⟩] : List ByteArray).length = 1 := rfl
 generalize ([⟨#[124]⟩] : List ByteArray) = P at *
 clear hw1 hk1
 have HLEN := hid hlen
 have hl1 : P.length ≤ 1 := by omega
 have hl2 : 1 ≤ P.length := by omega
 clear hlen
 go_wp2_with fail
 go_loopw [14] (fun iv wr => ∃ (k : Nat), iv = .int .i64 (k : Int) ∧ k ≤ P.length ∧ wr = w1 ∧ Hid ((P.take k).any (fun s => s.data.toList == op.data.toList) = false)) (fun iv wr => (P.length - intOf iv).toNat)
 case atStart => exact ⟨0, rfl, Nat.zero_le _, rfl, hid rfl⟩
 case round =>
  obtain ⟨k, rfl, hk, rfl, hA⟩ := hrel
  by_cases hkn : k < P.length
  ·
   have hc := parts_at HK1.out hkn
   have hT := any_take (op := op) hkn
   have hH := hid (any_hit (op := op) hkn)
   rw [hA.out, Bool.false_or] at hT
   generalize P.getD k ⟨#[]⟩ = x at *
   cases hx : (x.data.toList == op.data.toList)
   ·
    rw [hx] at hT
    have hxb : (x.toList == op.toList) = false := by rw [txt_eq]; exact hx
    have HT := hid hT
    clear hT hH hA hx
    go_wp2_with fail
    go_roundw
    case rel => exact ⟨k + 1, by go_num, by omega, trivial, HT⟩
    case measure => simp [intOf]; omega
   ·
    have hxb : (x.toList == op.toList) = true := by rw [txt_eq]; exact hx
    have HH := hid (hH.out hx)
    clear hT hH hA hx
    go_wp2_with fail
    exact bodyPost_ret (v := .bool true) (by simp [results, Tryz.results126, go_sem, ↓IntWalk.iteOmega]) rfl ⟨by rw [HV.out, HH.out], hov1⟩
  ·
   obtain rfl : k = P.length := by omega
   have hA2 := hA.out
   rw [List.take_of_length_le (Nat.le_refl _)] at hA2
   have HA2 := hid hA2
   clear hA hA2
   go_wp2_with fail
   exact bodyPost_ret (v := .bool false) (by simp [results, Tryz.results126, go_sem, ↓IntWalk.iteOmega]) rfl ⟨by rw [HV.out, HA2.out], hov1⟩
theorem split3 : Lib.countB ⟨#[94]⟩ ⟨#[32]⟩ = 0 ∧ Lib.splitB ⟨#[32]⟩ 0 0 ⟨#[94]⟩ = [⟨#[94]⟩] := ⟨by kernel_rfl, by kernel_rfl⟩
set_option maxRecDepth 20000 in
set_option maxHeartbeats 400000 in
theorem level3 (w : World) (op : ByteArray) (m : Int) (hm : w.cell? ⟨3, 0, none⟩ = some (.int .i64 m)) : Gives Tryz.prog 126 #[.int .i64 3, .string op] w (.bool (levelB 3 op)) := by
 unfold Gives
 have HM := hid hm
 clear hm
 go_enter Tryz.func126, Tryz.ntmps126
 go_wp2_with fail
 refine cmo (Tryz.strings_Split ⟨#[94]⟩ ⟨#[32]⟩ m _ (by decide) (IsOv.cell (by repeat (first | with_reducible exact IsOv.refl _ | with_reducible apply IsOv.dr | with_reducible apply IsOv.drewN | with_reducible apply IsOv.drew | with_reducible apply IsOv.alloc | with_reducible apply IsOv.ov)) HM.out) (by decide)) ?_
 rintro e w1 ⟨rfl, hw1⟩
 rw [split3.1, split3.2] at hw1
 rw [split3.1]
 have hov1 : IsOv w w1 := by rw [hw1]; exact (((IsOv.refl w).alloc _).alloc _)
 have hk1 : w1.heap[w.heap.size + 1]? = some (.cells (([⟨#[94]⟩] : List ByteArray).map Value.string).toArray 9 (0, 0)) := by rw [hw1]; have h9 := heap_alloc_new (w.alloc (.cells #[.string ⟨#[124, 124]⟩, .string ⟨#[38, 38]⟩, .string ⟨#[124]⟩, .string ⟨#[94]⟩, .string ⟨#[38]⟩, .string ⟨#[61, 61, 32, 33, 61]⟩, .string ⟨#[60, 32, 60, 61, 32, 62, 32, 62, 61]⟩, .string ⟨#[60, 60, 32, 62, 62]⟩, .string ⟨#[43, 32, 45]⟩, .string ⟨#[42, 32, 47, 32, 37]⟩] 152)) (.cells (([⟨#[94]⟩] : List ByteArray).map Value.string).toArray 9); simpa using h9
 have HV : Hid (levelB 3 op = ([⟨#[94]⟩] : List ByteArray).any fun s => s.data.toList == op.data.toList) := hid rfl
 have HK1 := hid hk1
 have hlen : ([⟨#[94]⟩] : List ByteArray).length = 1 := rfl
 generalize ([⟨#[94]⟩] : List ByteArray) = P at *
 clear hw1 hk1
 have HLEN := hid hlen
 have hl1 : P.length ≤ 1 := by omega
 have hl2 : 1 ≤ P.length := by omega
 clear hlen
 go_wp2_with fail
 go_loopw [14] (fun iv wr => ∃ (k : Nat), iv = .int .i64 (k : Int) ∧ k ≤ P.length ∧ wr = w1 ∧ Hid ((P.take k).any (fun s => s.data.toList == op.data.toList) = false)) (fun iv wr => (P.length - intOf iv).toNat)
 case atStart => exact ⟨0, rfl, Nat.zero_le _, rfl, hid rfl⟩
 case round =>
  obtain ⟨k, rfl, hk, rfl, hA⟩ := hrel
  by_cases hkn : k < P.length
  ·
   have hc := parts_at HK1.out hkn
   have hT := any_take (op := op) hkn
   have hH := hid (any_hit (op := op) hkn)
   rw [hA.out, Bool.false_or] at hT
   generalize P.getD k ⟨#[]⟩ = x at *
   cases hx : (x.data.toList == op.data.toList)
   ·
    rw [hx] at hT
    have hxb : (x.toList == op.toList) = false := by rw [txt_eq]; exact hx
    have HT := hid hT
    clear hT hH hA hx
    go_wp2_with fail
    go_roundw
    case rel => exact ⟨k + 1, by go_num, by omega, trivial, HT⟩
    case measure => simp [intOf]; omega
   ·
    have hxb : (x.toList == op.toList) = true := by rw [txt_eq]; exact hx
    have HH := hid (hH.out hx)
    clear hT hH hA hx
    go_wp2_with fail
    exact bodyPost_ret (v := .bool true) (by simp [results, Tryz.results126, go_sem, ↓IntWalk.iteOmega]) rfl ⟨by rw [HV.out, HH.out], hov1⟩
  ·
   obtain rfl : k = P.length := by omega
   have hA2 := hA.out
   rw [List.take_of_length_le (Nat.le_refl _)] at hA2
   have HA2 := hid hA2
   clear hA hA2
   go_wp2_with fail
   exact bodyPost_ret (v := .bool false) (by simp [results, Tryz.results126, go_sem, ↓IntWalk.iteOmega]) rfl ⟨by rw [HV.out, HA2.out], hov1⟩
theorem split4 : Lib.countB ⟨#[38]⟩ ⟨#[32]⟩ = 0 ∧ Lib.splitB ⟨#[32]⟩ 0 0 ⟨#[38]⟩ = [⟨#[38]⟩] := ⟨by kernel_rfl, by kernel_rfl⟩
set_option maxRecDepth 20000 in
set_option maxHeartbeats 400000 in
theorem level4 (w : World) (op : ByteArray) (m : Int) (hm : w.cell? ⟨3, 0, none⟩ = some (.int .i64 m)) : Gives Tryz.prog 126 #[.int .i64 4, .string op] w (.bool (levelB 4 op)) := by
 unfold Gives
 have HM := hid hm
 clear hm
 go_enter Tryz.func126, Tryz.ntmps126
 go_wp2_with fail
 refine cmo (Tryz.strings_Split ⟨#[38]⟩ ⟨#[32]⟩ m _ (by decide) (IsOv.cell (by repeat (first | with_reducible exact IsOv.refl _ | with_reducible apply IsOv.dr | with_reducible apply IsOv.drewN | with_reducible apply IsOv.drew | with_reducible apply IsOv.alloc | with_reducible apply IsOv.ov)) HM.out) (by decide)) ?_
 rintro e w1 ⟨rfl, hw1⟩
 rw [split4.1, split4.2] at hw1
 rw [split4.1]
 have hov1 : IsOv w w1 := by rw [hw1]; exact (((IsOv.refl w).alloc _).alloc _)
 have hk1 : w1.heap[w.heap.size + 1]? = some (.cells (([⟨#[38]⟩] : List ByteArray).map Value.string).toArray 9 (0, 0)) := by rw [hw1]; have h9 := heap_alloc_new (w.alloc (.cells #[.string ⟨#[124, 124]⟩, .string ⟨#[38, 38]⟩, .string ⟨#[124]⟩, .string ⟨#[94]⟩, .string ⟨#[38]⟩, .string ⟨#[61, 61, 32, 33, 61]⟩, .string ⟨#[60, 32, 60, 61, 32, 62, 32, 62, 61]⟩, .string ⟨#[60, 60, 32, 62, 62]⟩, .string ⟨#[43, 32, 45]⟩, .string ⟨#[42, 32, 47, 32, 37]⟩] 152)) (.cells (([⟨#[38]⟩] : List ByteArray).map Value.string).toArray 9); simpa using h9
 have HV : Hid (levelB 4 op = ([⟨#[38]⟩] : List ByteArray).any fun s => s.data.toList == op.data.toList) := hid rfl
 have HK1 := hid hk1
 have hlen : ([⟨#[38]⟩] : List ByteArray).length = 1 := rfl
 generalize ([⟨#[38]⟩] : List ByteArray) = P at *
 clear hw1 hk1
 have HLEN := hid hlen
 have hl1 : P.length ≤ 1 := by omega
 have hl2 : 1 ≤ P.length := by omega
 clear hlen
 go_wp2_with fail
 go_loopw [14] (fun iv wr => ∃ (k : Nat), iv = .int .i64 (k : Int) ∧ k ≤ P.length ∧ wr = w1 ∧ Hid ((P.take k).any (fun s => s.data.toList == op.data.toList) = false)) (fun iv wr => (P.length - intOf iv).toNat)
 case atStart => exact ⟨0, rfl, Nat.zero_le _, rfl, hid rfl⟩
 case round =>
  obtain ⟨k, rfl, hk, rfl, hA⟩ := hrel
  by_cases hkn : k < P.length
  ·
   have hc := parts_at HK1.out hkn
   have hT := any_take (op := op) hkn
   have hH := hid (any_hit (op := op) hkn)
   rw [hA.out, Bool.false_or] at hT
   generalize P.getD k ⟨#[]⟩ = x at *
   cases hx : (x.data.toList == op.data.toList)
   ·
    rw [hx] at hT
    have hxb : (x.toList == op.toList) = false := by rw [txt_eq]; exact hx
    have HT := hid hT
    clear hT hH hA hx
    go_wp2_with fail
    go_roundw
    case rel => exact ⟨k + 1, by go_num, by omega, trivial, HT⟩
    case measure => simp [intOf]; omega
   ·
    have hxb : (x.toList == op.toList) = true := by rw [txt_eq]; exact hx
    have HH := hid (hH.out hx)
    clear hT hH hA hx
    go_wp2_with fail
    exact bodyPost_ret (v := .bool true) (by simp [results, Tryz.results126, go_sem, ↓IntWalk.iteOmega]) rfl ⟨by rw [HV.out, HH.out], hov1⟩
  ·
   obtain rfl : k = P.length := by omega
   have hA2 := hA.out
   rw [List.take_of_length_le (Nat.le_refl _)] at hA2
   have HA2 := hid hA2
   clear hA hA2
   go_wp2_with fail
   exact bodyPost_ret (v := .bool false) (by simp [results, Tryz.results126, go_sem, ↓IntWalk.iteOmega]) rfl ⟨by rw [HV.out, HA2.out], hov1⟩
theorem split5 : Lib.countB ⟨#[61, 61, 32, 33, 61]⟩ ⟨#[32]⟩ = 1 ∧ Lib.splitB ⟨#[32]⟩ 0 1 ⟨#[61, 61, 32, 33, 61]⟩ = [⟨#[61, 61]⟩, ⟨#[33, 61]⟩] := ⟨by kernel_rfl, by kernel_rfl⟩
set_option maxRecDepth 20000 in
set_option maxHeartbeats 400000 in
theorem level5 (w : World) (op : ByteArray) (m : Int) (hm : w.cell? ⟨3, 0, none⟩ = some (.int .i64 m)) : Gives Tryz.prog 126 #[.int .i64 5, .string op] w (.bool (levelB 5 op)) := by
 unfold Gives
 have HM := hid hm
 clear hm
 go_enter Tryz.func126, Tryz.ntmps126
 go_wp2_with fail
 refine cmo (Tryz.strings_Split ⟨#[61, 61, 32, 33, 61]⟩ ⟨#[32]⟩ m _ (by decide) (IsOv.cell (by repeat (first | with_reducible exact IsOv.refl _ | with_reducible apply IsOv.dr | with_reducible apply IsOv.drewN | with_reducible apply IsOv.drew | with_reducible apply IsOv.alloc | with_reducible apply IsOv.ov)) HM.out) (by decide)) ?_
 rintro e w1 ⟨rfl, hw1⟩
 rw [split5.1, split5.2] at hw1
 rw [split5.1]
 have hov1 : IsOv w w1 := by rw [hw1]; exact (((IsOv.refl w).alloc _).alloc _)
 have hk1 : w1.heap[w.heap.size + 1]? = some (.cells (([⟨#[61, 61]⟩, ⟨#[33, 61]⟩] : List ByteArray).map Value.string).toArray 9 (0, 0)) := by rw [hw1]; have h9 := heap_alloc_new (w.alloc (.cells #[.string ⟨#[124, 124]⟩, .string ⟨#[38, 38]⟩, .string ⟨#[124]⟩, .string ⟨#[94]⟩, .string ⟨#[38]⟩, .string ⟨#[61, 61, 32, 33, 61]⟩, .string ⟨#[60, 32, 60, 61, 32, 62, 32, 62, 61]⟩, .string ⟨#[60, 60, 32, 62, 62]⟩, .string ⟨#[43, 32, 45]⟩, .string ⟨#[42, 32, 47, 32, 37]⟩] 152)) (.cells (([⟨#[61, 61]⟩, ⟨#[33, 61]⟩] : List ByteArray).map Value.string).toArray 9); simpa using h9
 have HV : Hid (levelB 5 op = ([⟨#[61, 61]⟩, ⟨#[33, 61]⟩] : List ByteArray).any fun s => s.data.toList == op.data.toList) := hid rfl
 have HK1 := hid hk1
 have hlen : ([⟨#[61, 61]⟩, ⟨#[33, 61]⟩] : List ByteArray).length = 2 := rfl
 generalize ([⟨#[61, 61]⟩, ⟨#[33, 61]⟩] : List ByteArray) = P at *
 clear hw1 hk1
 have HLEN := hid hlen
 have hl1 : P.length ≤ 2 := by omega
 have hl2 : 2 ≤ P.length := by omega
 clear hlen
 go_wp2_with fail
 go_loopw [14] (fun iv wr => ∃ (k : Nat), iv = .int .i64 (k : Int) ∧ k ≤ P.length ∧ wr = w1 ∧ Hid ((P.take k).any (fun s => s.data.toList == op.data.toList) = false)) (fun iv wr => (P.length - intOf iv).toNat)
 case atStart => exact ⟨0, rfl, Nat.zero_le _, rfl, hid rfl⟩
 case round =>
  obtain ⟨k, rfl, hk, rfl, hA⟩ := hrel
  by_cases hkn : k < P.length
  ·
   have hc := parts_at HK1.out hkn
   have hT := any_take (op := op) hkn
   have hH := hid (any_hit (op := op) hkn)
   rw [hA.out, Bool.false_or] at hT
   generalize P.getD k ⟨#[]⟩ = x at *
   cases hx : (x.data.toList == op.data.toList)
   ·
    rw [hx] at hT
    have hxb : (x.toList == op.toList) = false := by rw [txt_eq]; exact hx
    have HT := hid hT
    clear hT hH hA hx
    go_wp2_with fail
    go_roundw
    case rel => exact ⟨k + 1, by go_num, by omega, trivial, HT⟩
    case measure => simp [intOf]; omega
   ·
    have hxb : (x.toList == op.toList) = true := by rw [txt_eq]; exact hx
    have HH := hid (hH.out hx)
    clear hT hH hA hx
    go_wp2_with fail
    exact bodyPost_ret (v := .bool true) (by simp [results, Tryz.results126, go_sem, ↓IntWalk.iteOmega]) rfl ⟨by rw [HV.out, HH.out], hov1⟩
  ·
   obtain rfl : k = P.length := by omega
   have hA2 := hA.out
   rw [List.take_of_length_le (Nat.le_refl _)] at hA2
   have HA2 := hid hA2
   clear hA hA2
   go_wp2_with fail
   exact bodyPost_ret (v := .bool false) (by simp [results, Tryz.results126, go_sem, ↓IntWalk.iteOmega]) rfl ⟨by rw [HV.out, HA2.out], hov1⟩
theorem split6 : Lib.countB ⟨#[60, 32, 60, 61, 32, 62, 32, 62, 61]⟩ ⟨#[32]⟩ = 3 ∧ Lib.splitB ⟨#[32]⟩ 0 3 ⟨#[60, 32, 60, 61, 32, 62, 32, 62, 61]⟩ = [⟨#[60]⟩, ⟨#[60, 61]⟩, ⟨#[62]⟩, ⟨#[62, 61]⟩] := ⟨by kernel_rfl, by kernel_rfl⟩
set_option maxRecDepth 20000 in
set_option maxHeartbeats 400000 in
theorem level6 (w : World) (op : ByteArray) (m : Int) (hm : w.cell? ⟨3, 0, none⟩ = some (.int .i64 m)) : Gives Tryz.prog 126 #[.int .i64 6, .string op] w (.bool (levelB 6 op)) := by
 unfold Gives
 have HM := hid hm
 clear hm
 go_enter Tryz.func126, Tryz.ntmps126
 go_wp2_with fail
 refine cmo (Tryz.strings_Split ⟨#[60, 32, 60, 61, 32, 62, 32, 62, 61]⟩ ⟨#[32]⟩ m _ (by decide) (IsOv.cell (by repeat (first | with_reducible exact IsOv.refl _ | with_reducible apply IsOv.dr | with_reducible apply IsOv.drewN | with_reducible apply IsOv.drew | with_reducible apply IsOv.alloc | with_reducible apply IsOv.ov)) HM.out) (by decide)) ?_
 rintro e w1 ⟨rfl, hw1⟩
 rw [split6.1, split6.2] at hw1
 rw [split6.1]
 have hov1 : IsOv w w1 := by rw [hw1]; exact (((IsOv.refl w).alloc _).alloc _)
 have hk1 : w1.heap[w.heap.size + 1]? = some (.cells (([⟨#[60]⟩, ⟨#[60, 61]⟩, ⟨#[62]⟩, ⟨#[62, 61]⟩] : List ByteArray).map Value.string).toArray 9 (0, 0)) := by rw [hw1]; have h9 := heap_alloc_new (w.alloc (.cells #[.string ⟨#[124, 124]⟩, .string ⟨#[38, 38]⟩, .string ⟨#[124]⟩, .string ⟨#[94]⟩, .string ⟨#[38]⟩, .string ⟨#[61, 61, 32, 33, 61]⟩, .string ⟨#[60, 32, 60, 61, 32, 62, 32, 62, 61]⟩, .string ⟨#[60, 60, 32, 62, 62]⟩, .string ⟨#[43, 32, 45]⟩, .string ⟨#[42, 32, 47, 32, 37]⟩] 152)) (.cells (([⟨#[60]⟩, ⟨#[60, 61]⟩, ⟨#[62]⟩, ⟨#[62, 61]⟩] : List ByteArray).map Value.string).toArray 9); simpa using h9
 have HV : Hid (levelB 6 op = ([⟨#[60]⟩, ⟨#[60, 61]⟩, ⟨#[62]⟩, ⟨#[62, 61]⟩] : List ByteArray).any fun s => s.data.toList == op.data.toList) := hid rfl
 have HK1 := hid hk1
 have hlen : ([⟨#[60]⟩, ⟨#[60, 61]⟩, ⟨#[62]⟩, ⟨#[62, 61]⟩] : List ByteArray).length = 4 := rfl
 generalize ([⟨#[60]⟩, ⟨#[60, 61]⟩, ⟨#[62]⟩, ⟨#[62, 61]⟩] : List ByteArray) = P at *
 clear hw1 hk1
 have HLEN := hid hlen
 have hl1 : P.length ≤ 4 := by omega
 have hl2 : 4 ≤ P.length := by omega
 clear hlen
 go_wp2_with fail
 go_loopw [14] (fun iv wr => ∃ (k : Nat), iv = .int .i64 (k : Int) ∧ k ≤ P.length ∧ wr = w1 ∧ Hid ((P.take k).any (fun s => s.data.toList == op.data.toList) = false)) (fun iv wr => (P.length - intOf iv).toNat)
 case atStart => exact ⟨0, rfl, Nat.zero_le _, rfl, hid rfl⟩
 case round =>
  obtain ⟨k, rfl, hk, rfl, hA⟩ := hrel
  by_cases hkn : k < P.length
  ·
   have hc := parts_at HK1.out hkn
   have hT := any_take (op := op) hkn
   have hH := hid (any_hit (op := op) hkn)
   rw [hA.out, Bool.false_or] at hT
   generalize P.getD k ⟨#[]⟩ = x at *
   cases hx : (x.data.toList == op.data.toList)
   ·
    rw [hx] at hT
    have hxb : (x.toList == op.toList) = false := by rw [txt_eq]; exact hx
    have HT := hid hT
    clear hT hH hA hx
    go_wp2_with fail
    go_roundw
    case rel => exact ⟨k + 1, by go_num, by omega, trivial, HT⟩
    case measure => simp [intOf]; omega
   ·
    have hxb : (x.toList == op.toList) = true := by rw [txt_eq]; exact hx
    have HH := hid (hH.out hx)
    clear hT hH hA hx
    go_wp2_with fail
    exact bodyPost_ret (v := .bool true) (by simp [results, Tryz.results126, go_sem, ↓IntWalk.iteOmega]) rfl ⟨by rw [HV.out, HH.out], hov1⟩
  ·
   obtain rfl : k = P.length := by omega
   have hA2 := hA.out
   rw [List.take_of_length_le (Nat.le_refl _)] at hA2
   have HA2 := hid hA2
   clear hA hA2
   go_wp2_with fail
   exact bodyPost_ret (v := .bool false) (by simp [results, Tryz.results126, go_sem, ↓IntWalk.iteOmega]) rfl ⟨by rw [HV.out, HA2.out], hov1⟩
theorem split7 : Lib.countB ⟨#[60, 60, 32, 62, 62]⟩ ⟨#[32]⟩ = 1 ∧ Lib.splitB ⟨#[32]⟩ 0 1 ⟨#[60, 60, 32, 62, 62]⟩ = [⟨#[60, 60]⟩, ⟨#[62, 62]⟩] := ⟨by kernel_rfl, by kernel_rfl⟩
set_option maxRecDepth 20000 in
set_option maxHeartbeats 400000 in
theorem level7 (w : World) (op : ByteArray) (m : Int) (hm : w.cell? ⟨3, 0, none⟩ = some (.int .i64 m)) : Gives Tryz.prog 126 #[.int .i64 7, .string op] w (.bool (levelB 7 op)) := by
 unfold Gives
 have HM := hid hm
 clear hm
 go_enter Tryz.func126, Tryz.ntmps126
 go_wp2_with fail
 refine cmo (Tryz.strings_Split ⟨#[60, 60, 32, 62, 62]⟩ ⟨#[32]⟩ m _ (by decide) (IsOv.cell (by repeat (first | with_reducible exact IsOv.refl _ | with_reducible apply IsOv.dr | with_reducible apply IsOv.drewN | with_reducible apply IsOv.drew | with_reducible apply IsOv.alloc | with_reducible apply IsOv.ov)) HM.out) (by decide)) ?_
 rintro e w1 ⟨rfl, hw1⟩
 rw [split7.1, split7.2] at hw1
 rw [split7.1]
 have hov1 : IsOv w w1 := by rw [hw1]; exact (((IsOv.refl w).alloc _).alloc _)
 have hk1 : w1.heap[w.heap.size + 1]? = some (.cells (([⟨#[60, 60]⟩, ⟨#[62, 62]⟩] : List ByteArray).map Value.string).toArray 9 (0, 0)) := by rw [hw1]; have h9 := heap_alloc_new (w.alloc (.cells #[.string ⟨#[124, 124]⟩, .string ⟨#[38, 38]⟩, .string ⟨#[124]⟩, .string ⟨#[94]⟩, .string ⟨#[38]⟩, .string ⟨#[61, 61, 32, 33, 61]⟩, .string ⟨#[60, 32, 60, 61, 32, 62, 32, 62, 61]⟩, .string ⟨#[60, 60, 32, 62, 62]⟩, .string ⟨#[43, 32, 45]⟩, .string ⟨#[42, 32, 47, 32, 37]⟩] 152)) (.cells (([⟨#[60, 60]⟩, ⟨#[62, 62]⟩] : List ByteArray).map Value.string).toArray 9); simpa using h9
 have HV : Hid (levelB 7 op = ([⟨#[60, 60]⟩, ⟨#[62, 62]⟩] : List ByteArray).any fun s => s.data.toList == op.data.toList) := hid rfl
 have HK1 := hid hk1
 have hlen : ([⟨#[60, 60]⟩, ⟨#[62, 62]⟩] : List ByteArray).length = 2 := rfl
 generalize ([⟨#[60, 60]⟩, ⟨#[62, 62]⟩] : List ByteArray) = P at *
 clear hw1 hk1
 have HLEN := hid hlen
 have hl1 : P.length ≤ 2 := by omega
 have hl2 : 2 ≤ P.length := by omega
 clear hlen
 go_wp2_with fail
 go_loopw [14] (fun iv wr => ∃ (k : Nat), iv = .int .i64 (k : Int) ∧ k ≤ P.length ∧ wr = w1 ∧ Hid ((P.take k).any (fun s => s.data.toList == op.data.toList) = false)) (fun iv wr => (P.length - intOf iv).toNat)
 case atStart => exact ⟨0, rfl, Nat.zero_le _, rfl, hid rfl⟩
 case round =>
  obtain ⟨k, rfl, hk, rfl, hA⟩ := hrel
  by_cases hkn : k < P.length
  ·
   have hc := parts_at HK1.out hkn
   have hT := any_take (op := op) hkn
   have hH := hid (any_hit (op := op) hkn)
   rw [hA.out, Bool.false_or] at hT
   generalize P.getD k ⟨#[]⟩ = x at *
   cases hx : (x.data.toList == op.data.toList)
   ·
    rw [hx] at hT
    have hxb : (x.toList == op.toList) = false := by rw [txt_eq]; exact hx
    have HT := hid hT
    clear hT hH hA hx
    go_wp2_with fail
    go_roundw
    case rel => exact ⟨k + 1, by go_num, by omega, trivial, HT⟩
    case measure => simp [intOf]; omega
   ·
    have hxb : (x.toList == op.toList) = true := by rw [txt_eq]; exact hx
    have HH := hid (hH.out hx)
    clear hT hH hA hx
    go_wp2_with fail
    exact bodyPost_ret (v := .bool true) (by simp [results, Tryz.results126, go_sem, ↓IntWalk.iteOmega]) rfl ⟨by rw [HV.out, HH.out], hov1⟩
  ·
   obtain rfl : k = P.length := by omega
   have hA2 := hA.out
   rw [List.take_of_length_le (Nat.le_refl _)] at hA2
   have HA2 := hid hA2
   clear hA hA2
   go_wp2_with fail
   exact bodyPost_ret (v := .bool false) (by simp [results, Tryz.results126, go_sem, ↓IntWalk.iteOmega]) rfl ⟨by rw [HV.out, HA2.out], hov1⟩
theorem split8 : Lib.countB ⟨#[43, 32, 45]⟩ ⟨#[32]⟩ = 1 ∧ Lib.splitB ⟨#[32]⟩ 0 1 ⟨#[43, 32, 45]⟩ = [⟨#[43]⟩, ⟨#[45]⟩] := ⟨by kernel_rfl, by kernel_rfl⟩
set_option maxRecDepth 20000 in
set_option maxHeartbeats 400000 in
theorem level8 (w : World) (op : ByteArray) (m : Int) (hm : w.cell? ⟨3, 0, none⟩ = some (.int .i64 m)) : Gives Tryz.prog 126 #[.int .i64 8, .string op] w (.bool (levelB 8 op)) := by
 unfold Gives
 have HM := hid hm
 clear hm
 go_enter Tryz.func126, Tryz.ntmps126
 go_wp2_with fail
 refine cmo (Tryz.strings_Split ⟨#[43, 32, 45]⟩ ⟨#[32]⟩ m _ (by decide) (IsOv.cell (by repeat (first | with_reducible exact IsOv.refl _ | with_reducible apply IsOv.dr | with_reducible apply IsOv.drewN | with_reducible apply IsOv.drew | with_reducible apply IsOv.alloc | with_reducible apply IsOv.ov)) HM.out) (by decide)) ?_
 rintro e w1 ⟨rfl, hw1⟩
 rw [split8.1, split8.2] at hw1
 rw [split8.1]
 have hov1 : IsOv w w1 := by rw [hw1]; exact (((IsOv.refl w).alloc _).alloc _)
 have hk1 : w1.heap[w.heap.size + 1]? = some (.cells (([⟨#[43]⟩, ⟨#[45]⟩] : List ByteArray).map Value.string).toArray 9 (0, 0)) := by rw [hw1]; have h9 := heap_alloc_new (w.alloc (.cells #[.string ⟨#[124, 124]⟩, .string ⟨#[38, 38]⟩, .string ⟨#[124]⟩, .string ⟨#[94]⟩, .string ⟨#[38]⟩, .string ⟨#[61, 61, 32, 33, 61]⟩, .string ⟨#[60, 32, 60, 61, 32, 62, 32, 62, 61]⟩, .string ⟨#[60, 60, 32, 62, 62]⟩, .string ⟨#[43, 32, 45]⟩, .string ⟨#[42, 32, 47, 32, 37]⟩] 152)) (.cells (([⟨#[43]⟩, ⟨#[45]⟩] : List ByteArray).map Value.string).toArray 9); simpa using h9
 have HV : Hid (levelB 8 op = ([⟨#[43]⟩, ⟨#[45]⟩] : List ByteArray).any fun s => s.data.toList == op.data.toList) := hid rfl
 have HK1 := hid hk1
 have hlen : ([⟨#[43]⟩, ⟨#[45]⟩] : List ByteArray).length = 2 := rfl
 generalize ([⟨#[43]⟩, ⟨#[45]⟩] : List ByteArray) = P at *
 clear hw1 hk1
 have HLEN := hid hlen
 have hl1 : P.length ≤ 2 := by omega
 have hl2 : 2 ≤ P.length := by omega
 clear hlen
 go_wp2_with fail
 go_loopw [14] (fun iv wr => ∃ (k : Nat), iv = .int .i64 (k : Int) ∧ k ≤ P.length ∧ wr = w1 ∧ Hid ((P.take k).any (fun s => s.data.toList == op.data.toList) = false)) (fun iv wr => (P.length - intOf iv).toNat)
 case atStart => exact ⟨0, rfl, Nat.zero_le _, rfl, hid rfl⟩
 case round =>
  obtain ⟨k, rfl, hk, rfl, hA⟩ := hrel
  by_cases hkn : k < P.length
  ·
   have hc := parts_at HK1.out hkn
   have hT := any_take (op := op) hkn
   have hH := hid (any_hit (op := op) hkn)
   rw [hA.out, Bool.false_or] at hT
   generalize P.getD k ⟨#[]⟩ = x at *
   cases hx : (x.data.toList == op.data.toList)
   ·
    rw [hx] at hT
    have hxb : (x.toList == op.toList) = false := by rw [txt_eq]; exact hx
    have HT := hid hT
    clear hT hH hA hx
    go_wp2_with fail
    go_roundw
    case rel => exact ⟨k + 1, by go_num, by omega, trivial, HT⟩
    case measure => simp [intOf]; omega
   ·
    have hxb : (x.toList == op.toList) = true := by rw [txt_eq]; exact hx
    have HH := hid (hH.out hx)
    clear hT hH hA hx
    go_wp2_with fail
    exact bodyPost_ret (v := .bool true) (by simp [results, Tryz.results126, go_sem, ↓IntWalk.iteOmega]) rfl ⟨by rw [HV.out, HH.out], hov1⟩
  ·
   obtain rfl : k = P.length := by omega
   have hA2 := hA.out
   rw [List.take_of_length_le (Nat.le_refl _)] at hA2
   have HA2 := hid hA2
   clear hA hA2
   go_wp2_with fail
   exact bodyPost_ret (v := .bool false) (by simp [results, Tryz.results126, go_sem, ↓IntWalk.iteOmega]) rfl ⟨by rw [HV.out, HA2.out], hov1⟩
theorem split9 : Lib.countB ⟨#[42, 32, 47, 32, 37]⟩ ⟨#[32]⟩ = 2 ∧ Lib.splitB ⟨#[32]⟩ 0 2 ⟨#[42, 32, 47, 32, 37]⟩ = [⟨#[42]⟩, ⟨#[47]⟩, ⟨#[37]⟩] := ⟨by kernel_rfl, by kernel_rfl⟩
set_option maxRecDepth 20000 in
set_option maxHeartbeats 400000 in
theorem level9 (w : World) (op : ByteArray) (m : Int) (hm : w.cell? ⟨3, 0, none⟩ = some (.int .i64 m)) : Gives Tryz.prog 126 #[.int .i64 9, .string op] w (.bool (levelB 9 op)) := by
 unfold Gives
 have HM := hid hm
 clear hm
 go_enter Tryz.func126, Tryz.ntmps126
 go_wp2_with fail
 refine cmo (Tryz.strings_Split ⟨#[42, 32, 47, 32, 37]⟩ ⟨#[32]⟩ m _ (by decide) (IsOv.cell (by repeat (first | with_reducible exact IsOv.refl _ | with_reducible apply IsOv.dr | with_reducible apply IsOv.drewN | with_reducible apply IsOv.drew | with_reducible apply IsOv.alloc | with_reducible apply IsOv.ov)) HM.out) (by decide)) ?_
 rintro e w1 ⟨rfl, hw1⟩
 rw [split9.1, split9.2] at hw1
 rw [split9.1]
 have hov1 : IsOv w w1 := by rw [hw1]; exact (((IsOv.refl w).alloc _).alloc _)
 have hk1 : w1.heap[w.heap.size + 1]? = some (.cells (([⟨#[42]⟩, ⟨#[47]⟩, ⟨#[37]⟩] : List ByteArray).map Value.string).toArray 9 (0, 0)) := by rw [hw1]; have h9 := heap_alloc_new (w.alloc (.cells #[.string ⟨#[124, 124]⟩, .string ⟨#[38, 38]⟩, .string ⟨#[124]⟩, .string ⟨#[94]⟩, .string ⟨#[38]⟩, .string ⟨#[61, 61, 32, 33, 61]⟩, .string ⟨#[60, 32, 60, 61, 32, 62, 32, 62, 61]⟩, .string ⟨#[60, 60, 32, 62, 62]⟩, .string ⟨#[43, 32, 45]⟩, .string ⟨#[42, 32, 47, 32, 37]⟩] 152)) (.cells (([⟨#[42]⟩, ⟨#[47]⟩, ⟨#[37]⟩] : List ByteArray).map Value.string).toArray 9); simpa using h9
 have HV : Hid (levelB 9 op = ([⟨#[42]⟩, ⟨#[47]⟩, ⟨#[37]⟩] : List ByteArray).any fun s => s.data.toList == op.data.toList) := hid rfl
 have HK1 := hid hk1
 have hlen : ([⟨#[42]⟩, ⟨#[47]⟩, ⟨#[37]⟩] : List ByteArray).length = 3 := rfl
 generalize ([⟨#[42]⟩, ⟨#[47]⟩, ⟨#[37]⟩] : List ByteArray) = P at *
 clear hw1 hk1
 have HLEN := hid hlen
 have hl1 : P.length ≤ 3 := by omega
 have hl2 : 3 ≤ P.length := by omega
 clear hlen
 go_wp2_with fail
 go_loopw [14] (fun iv wr => ∃ (k : Nat), iv = .int .i64 (k : Int) ∧ k ≤ P.length ∧ wr = w1 ∧ Hid ((P.take k).any (fun s => s.data.toList == op.data.toList) = false)) (fun iv wr => (P.length - intOf iv).toNat)
 case atStart => exact ⟨0, rfl, Nat.zero_le _, rfl, hid rfl⟩
 case round =>
  obtain ⟨k, rfl, hk, rfl, hA⟩ := hrel
  by_cases hkn : k < P.length
  ·
   have hc := parts_at HK1.out hkn
   have hT := any_take (op := op) hkn
   have hH := hid (any_hit (op := op) hkn)
   rw [hA.out, Bool.false_or] at hT
   generalize P.getD k ⟨#[]⟩ = x at *
   cases hx : (x.data.toList == op.data.toList)
   ·
    rw [hx] at hT
    have hxb : (x.toList == op.toList) = false := by rw [txt_eq]; exact hx
    have HT := hid hT
    clear hT hH hA hx
    go_wp2_with fail
    go_roundw
    case rel => exact ⟨k + 1, by go_num, by omega, trivial, HT⟩
    case measure => simp [intOf]; omega
   ·
    have hxb : (x.toList == op.toList) = true := by rw [txt_eq]; exact hx
    have HH := hid (hH.out hx)
    clear hT hH hA hx
    go_wp2_with fail
    exact bodyPost_ret (v := .bool true) (by simp [results, Tryz.results126, go_sem, ↓IntWalk.iteOmega]) rfl ⟨by rw [HV.out, HH.out], hov1⟩
  ·
   obtain rfl : k = P.length := by omega
   have hA2 := hA.out
   rw [List.take_of_length_le (Nat.le_refl _)] at hA2
   have HA2 := hid hA2
   clear hA hA2
   go_wp2_with fail
   exact bodyPost_ret (v := .bool false) (by simp [results, Tryz.results126, go_sem, ↓IntWalk.iteOmega]) rfl ⟨by rw [HV.out, HA2.out], hov1⟩
theorem level_gives (i : Nat) (hi : i < 10) (w : World) (op : ByteArray) (m : Int) (hm : w.cell? ⟨3, 0, none⟩ = some (.int .i64 m)) : Gives Tryz.prog 126 #[.int .i64 (i : Int), .string op] w (.bool (levelB i op)) := by
 obtain rfl | rfl | rfl | rfl | rfl | rfl | rfl | rfl | rfl | rfl : i = 0 ∨ i = 1 ∨ i = 2 ∨ i = 3 ∨ i = 4 ∨ i = 5 ∨ i = 6 ∨ i = 7 ∨ i = 8 ∨ i = 9 := by omega
 · exact level0 w op m hm
 · exact level1 w op m hm
 · exact level2 w op m hm
 · exact level3 w op m hm
 · exact level4 w op m hm
 · exact level5 w op m hm
 · exact level6 w op m hm
 · exact level7 w op m hm
 · exact level8 w op m hm
 · exact level9 w op m hm
end Go.Proofs.YtdimhoilfopndaaGreatDoor
end
section
namespace Go.Proofs.YtdimhoilfopndaaGreatDoor
open Go.RowKit
def bnd {α β : Type} (x : Option (PR α)) (f : α → List Tok → Option (PR β)) : Option (PR β) :=
 match x with
 | none => none
 | some (.bad l k e) => some (.bad l k e)
 | some (.ok a ts) => f a ts
theorem bnd_some {α β : Type} {x : Option (PR α)} {f : α → List Tok → Option (PR β)} {r : PR β} (h : bnd x f = some r) : (∃ l k e, x = some (.bad l k e) ∧ r = .bad l k e) ∨ ∃ a ts, x = some (.ok a ts) ∧ f a ts = some r := by
 unfold bnd at h
 split at h
 · cases h
 · rename_i l k e; exact .inl ⟨l, k, e, rfl, (Option.some.inj h).symm⟩
 · rename_i a ts; exact .inr ⟨a, ts, rfl, h⟩
mutual
def exprF : Nat → Int → List Tok → Option (PR Node)
 | 0, _, _ => none
 | g + 1, d, ts => if 60 < d then some (badAt ts 31) else binaryF g d 0 ts
def binaryF : Nat → Int → Nat → List Tok → Option (PR Node)
 | 0, _, _, _ => none
 | g + 1, d, i, ts => if i = 10 then operandF g d ts else bnd (binaryF g d (i + 1) ts) fun n r => moreF g d i n r
def moreF : Nat → Int → Nat → Node → List Tok → Option (PR Node)
 | 0, _, _, _, _ => none
 | g + 1, d, i, n, ts => if (nowT ts).kind == 2 && levelB i (nowT ts).text then bnd (binaryF g d (i + 1) ts.tail) fun m r => moreF g d i ⟨⟨#[98, 105, 110, 97, 114, 121]⟩, (nowT ts).text, 0, (nowT ts).line, (nowT ts).col, [n, m]⟩ r else some (.ok n ts)
def operandF : Nat → Int → List Tok → Option (PR Node)
 | 0, _, _ => none
 | g + 1, d, ts =>
  if 60 < d then some (badAt ts 31)
  else if isF ts ⟨#[33]⟩ || (isF ts ⟨#[126]⟩ || isF ts ⟨#[45]⟩) then bnd (operandF g (d + 1) ts.tail) fun k r => some (.ok ⟨⟨#[117, 110, 97, 114, 121]⟩, (nowT ts).text, 0, (nowT ts).line, (nowT ts).col, [k]⟩ r)
  else if (nowT ts).kind == 1 then some (.ok (leafN ⟨#[110, 117, 109]⟩ (nowT ts)) ts.tail)
  else if isF ts ⟨#[116, 114, 117, 101]⟩ || isF ts ⟨#[102, 97, 108, 115, 101]⟩ then some (.ok (leafN (nowT ts).text (nowT ts)) ts.tail)
  else if namedF ts then indexF g (leafN ⟨#[110, 97, 109, 101]⟩ (nowT ts)) d ts.tail
  else if isF ts ⟨#[40]⟩ then
   (if isTypeF ts.tail then
    bnd (some (needF ts.tail.tail ⟨#[41]⟩) ) fun _ r => bnd (operandF g (d + 1) r) fun k r2 => some (.ok ⟨⟨#[99, 97, 115, 116]⟩, (nowT ts.tail).text, 0, (nowT ts).line, (nowT ts).col, [k]⟩ r2)
   else bnd (exprF g (d + 1) ts.tail) fun k r => bnd (some (needF r ⟨#[41]⟩)) fun _ r2 => some (.ok k r2))
  else some (badAt ts 30)
def indexF : Nat → Node → Int → List Tok → Option (PR Node)
 | 0, _, _, _ => none
 | g + 1, x, d, ts => if isF ts ⟨#[91]⟩ then bnd (exprF g (d + 1) ts.tail) fun k r => bnd (some (needF r ⟨#[93]⟩)) fun _ r2 => some (.ok ⟨⟨#[105, 110, 100, 101, 120]⟩, x.text, x.num, x.line, x.col, [k]⟩ r2) else some (.ok x ts)
end
def listF (one : List Tok → Option (PR Node)) : Nat → List Node → List Tok → Option (PR (List Node))
 | 0, _, _ => none
 | g + 1, l, ts => bnd (one ts) fun n r => if isF r ⟨#[41]⟩ then some (.ok (l ++ [n]) r.tail) else if isF r ⟨#[44]⟩ then listF one g (l ++ [n]) r.tail else some (badAt r 30)
def listsF (one : List Tok → Option (PR Node)) (g : Nat) (ts : List Tok) : Option (PR (List Node)) := if isF ts ⟨#[41]⟩ then some (.ok [] ts.tail) else listF one g [] ts
def paramF (ts : List Tok) : Option (PR Node) := bnd (some (typF ts)) fun t r => bnd (some (nameF r)) fun n r2 => some (.ok ⟨⟨#[112, 97, 114, 97, 109]⟩, n.text, 0, t.line, t.col, [t]⟩ r2)
def condF (g : Nat) (d : Int) (ts : List Tok) : Option (PR Node) := bnd (some (needF ts ⟨#[40]⟩)) fun _ r => bnd (exprF g d r) fun n r2 => bnd (some (needF r2 ⟨#[41]⟩)) fun _ r3 => some (.ok n r3)
def callF (g : Nat) (x : Node) (d : Int) (ts : List Tok) : Option (PR Node) := bnd (some (needF ts ⟨#[40]⟩)) fun _ r => bnd (listsF (exprF g (d + 1)) g r) fun l r2 => some (.ok ⟨⟨#[99, 97, 108, 108]⟩, x.text, x.num, x.line, x.col, l⟩ r2)
def semiF (n : Node) (ts : List Tok) : Option (PR Node) := bnd (some (needF ts ⟨#[59]⟩)) fun _ r => some (.ok n r)
def simpleF (g : Nat) (d : Int) (ts : List Tok) : Option (PR Node) := bnd (some (nameF ts)) fun x r =>
 if isF r ⟨#[40]⟩ then bnd (callF g x d r) fun y r2 => semiF y r2
 else bnd (indexF g x d r) fun y r2 => bnd (some (needF r2 ⟨#[61]⟩)) fun _ r3 =>
  if isF r3 ⟨#[110, 111, 110, 100, 101, 116]⟩ then bnd (some (needF r3.tail ⟨#[40]⟩)) fun _ r4 => bnd (some (needF r4 ⟨#[41]⟩)) fun _ r5 => semiF ⟨⟨#[110, 111, 110, 100, 101, 116]⟩, ⟨#[]⟩, 0, x.line, x.col, [y]⟩ r5
  else if namedF r3 && (!r3.tail.isEmpty && ((nowT r3.tail).kind == 2 && (nowT r3.tail).text.data.toList == [40])) then bnd (some (nameF r3)) fun z r4 => bnd (callF g z d r4) fun u r5 => semiF ⟨⟨#[114, 101, 115, 117, 108, 116]⟩, ⟨#[]⟩, 0, x.line, x.col, [y, u]⟩ r5
  else bnd (exprF g d r3) fun u r4 => semiF ⟨⟨#[97, 115, 115, 105, 103, 110]⟩, ⟨#[]⟩, 0, x.line, x.col, [y, u]⟩ r4
def withKind (k : ByteArray) (n : Node) : Node := ⟨k, n.text, n.num, n.line, n.col, n.kids⟩
mutual
def blockF : Nat → Int → List Tok → Option (PR Node)
 | 0, _, _ => none
 | g + 1, d, ts => if 60 < d then some (badAt ts 31) else bnd (some (needF ts ⟨#[123]⟩)) fun t r => stmtsF g d t.line t.col [] r
def stmtsF : Nat → Int → Int → Int → List Node → List Tok → Option (PR Node)
 | 0, _, _, _, _, _ => none
 | g + 1, d, l, k, ks, ts => if isF ts ⟨#[125]⟩ then some (.ok ⟨⟨#[98, 108, 111, 99, 107]⟩, ⟨#[]⟩, 0, l, k, ks⟩ ts.tail) else bnd (stmtF g d ts) fun n r => stmtsF g d l k (ks ++ [n]) r
def stmtF : Nat → Int → List Tok → Option (PR Node)
 | 0, _, _ => none
 | g + 1, d, ts =>
  if isTypeF ts then bnd (paramF ts) fun x r => semiF (withKind ⟨#[108, 111, 99, 97, 108]⟩ x) r
  else if namedF ts then simpleF g d ts
  else if (nowT ts).kind != 0 then some (badAt ts 30)
  else if isF ts ⟨#[105, 102]⟩ || isF ts ⟨#[119, 104, 105, 108, 101]⟩ then
   bnd (condF g d ts.tail) fun a r => bnd (blockF g (d + 1) r) fun b r2 =>
    if (nowT ts).text.data.toList == [105, 102] && isF r2 ⟨#[101, 108, 115, 101]⟩ then bnd (blockF g (d + 1) r2.tail) fun e r3 => some (.ok ⟨(nowT ts).text, ⟨#[]⟩, 0, (nowT ts).line, (nowT ts).col, [a, b, e]⟩ r3)
    else some (.ok ⟨(nowT ts).text, ⟨#[]⟩, 0, (nowT ts).line, (nowT ts).col, [a, b]⟩ r2)
  else if isF ts ⟨#[114, 101, 116, 117, 114, 110]⟩ then
   (if isF ts.tail ⟨#[59]⟩ then semiF ⟨(nowT ts).text, ⟨#[]⟩, 0, (nowT ts).line, (nowT ts).col, []⟩ ts.tail
   else bnd (exprF g d ts.tail) fun a r => semiF ⟨(nowT ts).text, ⟨#[]⟩, 0, (nowT ts).line, (nowT ts).col, [a]⟩ r)
  else if isF ts ⟨#[97, 115, 115, 101, 114, 116]⟩ || isF ts ⟨#[97, 115, 115, 117, 109, 101]⟩ then bnd (condF g d ts.tail) fun a r => semiF ⟨(nowT ts).text, ⟨#[]⟩, 0, (nowT ts).line, (nowT ts).col, [a]⟩ r
  else some (badAt ts 30)
end
def itemF (g : Nat) (ts : List Tok) : Option (PR Node) :=
 bnd (some (if isF ts ⟨#[118, 111, 105, 100]⟩ then .ok (leafN ⟨#[116, 121, 112, 101]⟩ (nowT ts)) ts.tail else typF ts)) fun t r => bnd (some (nameF r)) fun x r2 =>
  if isF r2 ⟨#[40]⟩ then bnd (listsF paramF g r2.tail) fun l r3 => bnd (blockF g 1 r3) fun b r4 => some (.ok ⟨⟨#[102, 117, 110, 99]⟩, x.text, 0, t.line, t.col, [t] ++ l ++ [b]⟩ r4)
  else if isF ts ⟨#[118, 111, 105, 100]⟩ then some (badAt r2 30)
  else if isF r2 ⟨#[91]⟩ then
   (if (nowT r2.tail).kind != 1 then some (badAt r2.tail 30)
   else bnd (some (needF r2.tail.tail ⟨#[93]⟩)) fun _ r3 => semiF ⟨⟨#[103, 108, 111, 98, 97, 108]⟩, x.text, 0, t.line, t.col, [t, leafN ⟨#[110, 117, 109]⟩ (nowT r2.tail)]⟩ r3)
  else semiF ⟨⟨#[103, 108, 111, 98, 97, 108]⟩, x.text, 0, t.line, t.col, [t]⟩ r2
def itemsF : Nat → Int → Int → List Node → List Tok → Option (PR Node)
 | 0, _, _, _, _ => none
 | g + 1, l, k, ks, ts => if (nowT ts).kind == 3 then some (.ok ⟨⟨#[112, 114, 111, 103, 114, 97, 109]⟩, ⟨#[]⟩, 0, l, k, ks⟩ ts) else bnd (itemF g ts) fun n r => itemsF g l k (ks ++ [n]) r
def parseF (g : Nat) (ts : List Tok) : Option (PR Node) := itemsF g (nowT ts).line (nowT ts).col [] ts
structure ReadA where
 node : Node
 line : Int
 col : Int
 err : Int
def readF (g : Nat) (src : ByteArray) : Option ReadA :=
 if (lexR src).err ≠ 0 then some ⟨zNode, (lexR src).line, (lexR src).col, (lexR src).err⟩
 else match parseF g (lexR src).toks with
  | none => none
  | some (.ok n _) => some ⟨n, 0, 0, 0⟩
  | some (.bad l k e) => some ⟨zNode, l, k, e⟩
end Go.Proofs.YtdimhoilfopndaaGreatDoor
end
section
namespace Go.Proofs.YtdimhoilfopndaaGreatDoor
open Go.RowKit Go.Proofs.YtdimhoilfopndaaGreatDoorW.PrintWords
def PostN (c : PC) (w : World) (r : PR Node) (e : Ending) (w' : World) : Prop :=
 Kp c w w' ∧ (match r with
  | .ok n ts => PS c w' ts ∧ ∃ A cap, e = .returned (nodeV n (.slice A n.kids.length cap)) ∧ kNode.R 26 w' w.heap.size (fun _ => True) (.slice A n.kids.length cap) n.kids
  | .bad l k er => e = wrongE l k er)
theorem R_kp {c : PC} {w w' : World} {base : Nat} {v : Value} {ks : List Node} (h : kNode.R 26 w base (fun _ => True) v ks) (hk : Kp c w w') (hp : c.p < base) : kNode.R 26 w' base (fun _ => True) v ks :=
 Kd.R_mono (Kd.R_grown (Kd.R_bound h) hk (fun k hk9 e => by have := Option.some.inj e; have := hk9.2.1; omega)) (fun _ _ => trivial)
theorem R_set {w : World} {base b i : Nat} {v : Value} {ks : List Node} (h : kNode.R 26 w base (fun _ => True) v ks) (hb : b < base) (u : Value) : kNode.R 26 (w.setCell ⟨b, i, none⟩ u) base (fun _ => True) v ks :=
 Kd.R_mono (Kd.R_far (p := ⟨b, i, none⟩) (Kd.R_bound h) (fun k hk e => by have := hk.2.1; have e2 : k = b := e; omega) u) (fun _ _ => trivial)
theorem R_nilN (w : World) (base : Nat) : kNode.R 26 w base (fun _ => True) (.slice none 0 0) ([] : List Node) := Kd.R_nil _ _ _ _ _
theorem M_node {w : World} {base : Nat} {n : Node} {v : Value} (h : kNode.R 26 w base (fun _ => True) v n.kids) : kNode.M w base (fun _ => True) n [.string n.kind, .string n.text, .int .u64 n.num, .int .i64 n.line, .int .i64 n.col, v] := kNode_mkM w base _ n h
theorem R_made {W : World} {base : Nat} (hb : base ≤ W.heap.size) {xs : List Node} {inner : List Value} (hr : Reps (kNode.M W base (fun _ => True)) 6 xs inner) (hl : xs.length ≤ 1000) (hi : inner.length = xs.length * 6) :
  kNode.R 26 (W.alloc (.cells inner.toArray 26)) base (fun _ => True) (.slice (some ⟨W.heap.size, 0, none⟩) xs.length xs.length) xs := by
 refine ⟨fun _ _ => trivial, inner, ⟨hi, .inr ⟨W.heap.size, xs.length, inner.toArray, rfl, hb, heap_alloc_new W _, Nat.le_refl _, by unfold maxLen; omega, by simp [hi, kNode, Kd.fix], ?_⟩⟩, ?_⟩
 ·
  simp only [List.toList_toArray]
  exact List.take_of_length_le (by rw [hi]; exact Nat.le_refl _)
 ·
  refine hr.imp_ fun p cs hp => ?_
  refine Kd.M_below (kNode.M_mono (fun k hk => ⟨trivial, ?_⟩) (kNode.M_bound hp)) (below_alloc (Below.refl _ _) _)
  intro e
  simp [Value.ownBlock] at e
  have := hk.2.2.1
  omega
theorem reps_one {W : World} {base : Nat} {n : Node} {c : List Value} (h : kNode.M W base (fun _ => True) n c) (hc : c.length = 6) : Reps (kNode.M W base (fun _ => True)) 6 [n] c := by
 have := (Reps.none (kNode.M W base (fun _ => True)) 6).snoc h hc
 simpa using this
theorem R_made1 {W : World} {base : Nat} (hb : base ≤ W.heap.size) {n : Node} {v : Value} (h : kNode.R 26 W base (fun _ => True) v n.kids) :
  kNode.R 26 (W.alloc (.cells #[.string n.kind, .string n.text, .int .u64 n.num, .int .i64 n.line, .int .i64 n.col, v] 26)) base (fun _ => True) (.slice (some ⟨W.heap.size, 0, none⟩) 1 1) [n] :=
 R_made hb (reps_one (M_node h) rfl) (by simp) rfl
def set6 (w : World) (b : Nat) (a0 a1 a2 a3 a4 a5 : Value) : World := (((((w.setCell ⟨b, 0, none⟩ a0).setCell ⟨b, 1, none⟩ a1).setCell ⟨b, 2, none⟩ a2).setCell ⟨b, 3, none⟩ a3).setCell ⟨b, 4, none⟩ a4).setCell ⟨b, 5, none⟩ a5
theorem PS.set6 {c : PC} {w : World} {ts : List Tok} (h : PS c w ts) {b : Nat} (hb : c.p < b) (hc : c.Ok) (a0 a1 a2 a3 a4 a5 : Value) : PS c (set6 w b a0 a1 a2 a3 a4 a5) ts :=
 (((((h.setCell hb hc _).setCell hb hc _).setCell hb hc _).setCell hb hc _).setCell hb hc _).setCell hb hc _
theorem Kp.set6 {c : PC} {a w : World} (h : Kp c a w) {b : Nat} (hb : a.heap.size ≤ b) (a0 a1 a2 a3 a4 a5 : Value) : Kp c a (set6 w b a0 a1 a2 a3 a4 a5) :=
 (((((h.setCell (p := ⟨b, 0, none⟩) (.inr hb) _).setCell (p := ⟨b, 1, none⟩) (.inr hb) _).setCell (p := ⟨b, 2, none⟩) (.inr hb) _).setCell (p := ⟨b, 3, none⟩) (.inr hb) _).setCell (p := ⟨b, 4, none⟩) (.inr hb) _).setCell (p := ⟨b, 5, none⟩) (.inr hb) _
theorem R_set6 {w : World} {base b : Nat} {v : Value} {ks : List Node} (h : kNode.R 26 w base (fun _ => True) v ks) (hb : b < base) (a0 a1 a2 a3 a4 a5 : Value) : kNode.R 26 (set6 w b a0 a1 a2 a3 a4 a5) base (fun _ => True) v ks :=
 R_set (R_set (R_set (R_set (R_set (R_set h hb _) hb _) hb _) hb _) hb _) hb _
theorem ret_node {c : PC} (hc : c.Ok) {fn : Func} {t : Tmp} (hr : fn.results = #[.cell t 26]) {tmps : Array Value} {b base : Nat} (ht : tmps.getD t undef = .pointer (some ⟨b, 0, none⟩)) {w w2 : World} {n : Node} {tsr : List Tok} {A : Option Addr} {cap : Nat} {x0 x1 x2 x3 x4 x5 : Value}
  (hh : w2.heap[b]? = some (.cells #[x0, x1, x2, x3, x4, x5] 26 (0, 0))) (hps : PS c w2 tsr) (hkp : Kp c w w2) (hlt : c.p < w.heap.size) (hwb : w.heap.size ≤ b) (hR : kNode.R 26 w2 base (fun _ => True) (.slice A n.kids.length cap) n.kids) (hb : b < base) :
  bodyPost Tryz.prog fn (PostN c w (.ok n tsr)) Exit.ret ⟨tmps, []⟩ ((((((w2.setCell ⟨b, 0, none⟩ (.string n.kind)).setCell ⟨b, 1, none⟩ (.string n.text)).setCell ⟨b, 2, none⟩ (.int .u64 n.num)).setCell ⟨b, 3, none⟩ (.int .i64 n.line)).setCell ⟨b, 4, none⟩ (.int .i64 n.col)).setCell ⟨b, 5, none⟩ (.slice A n.kids.length cap)) := by
 refine bodyPost_ret (v := nodeV n (.slice A n.kids.length cap)) (results_heap (b := b) hr ht (heap_set6 hh _ _ _ _ _ _) Tryz.underlying26 rfl (by kernel_rfl)) rfl ?_
 exact ⟨hkp.set6 hwb _ _ _ _ _ _, hps.set6 (by omega) hc _ _ _ _ _ _, A, cap, rfl, Kd.R_lower (R_set6 hR hb _ _ _ _ _ _) (by omega)⟩
structure ExprsOk (c : PC) (g : Nat) : Prop where
 expr : ∀ (w : World) (d : Int) (ts : List Tok) (r : PR Node), exprF g d ts = some r → PS c w ts → 0 ≤ d → d ≤ 61 → Calls Tryz.prog 106 #[.pointer (some ⟨c.p, 0, none⟩), .int .i64 d] w (PostN c w r)
 binary : ∀ (w : World) (d : Int) (i : Nat) (ts : List Tok) (r : PR Node), binaryF g d i ts = some r → PS c w ts → 0 ≤ d → d ≤ 60 → i ≤ 10 → Calls Tryz.prog 123 #[.pointer (some ⟨c.p, 0, none⟩), .int .i64 d, .int .i64 (i : Int)] w (PostN c w r)
 operand : ∀ (w : World) (d : Int) (ts : List Tok) (r : PR Node), operandF g d ts = some r → PS c w ts → 0 ≤ d → d ≤ 61 → Calls Tryz.prog 134 #[.pointer (some ⟨c.p, 0, none⟩), .int .i64 d] w (PostN c w r)
 index : ∀ (w : World) (x : Node) (d : Int) (ts : List Tok) (r : PR Node), indexF g x d ts = some r → PS c w ts → 0 ≤ d → d ≤ 60 → x.kids = [] → Calls Tryz.prog 122 #[.pointer (some ⟨c.p, 0, none⟩), nodeV x (.slice none 0 0), .int .i64 d] w (PostN c w r)
set_option maxRecDepth 20000 in
set_option maxHeartbeats 400000 in
theorem expr_step (c : PC) (hc : c.Ok) (g : Nat) (IH : ExprsOk c g) (w : World) (d : Int) (ts : List Tok) (r : PR Node) (h : exprF (g + 1) d ts = some r) (hps : PS c w ts) (h0 : 0 ≤ d) (h1 : d ≤ 61) : Calls Tryz.prog 106 #[.pointer (some ⟨c.p, 0, none⟩), .int .i64 d] w (PostN c w r) := by
 have hlt := hps.lt
 have HPS := hid hps
 have H := hid h
 have hz := heap_alloc_new w (.cells #[.string ⟨#[]⟩, .string ⟨#[]⟩, .int .u64 0, .int .i64 0, .int .i64 0, .slice none 0 0] 26)
 have HZ := hid hz
 clear hps h hz
 go_enter Tryz.func106, Tryz.ntmps106
 go_wp2_with fail
 refine cmo (deep_calls c hc _ ts d (HPS.out.alloc _)) ?_
 rintro e w1 ⟨hps1, hkp1, hd⟩
 unfold deepF at hd
 by_cases h60 : 60 < d
 ·
  rw [if_pos h60] at hd
  subst hd
  have HR : Hid (r = .bad (nowT ts).line (nowT ts).col 31) := hid (by have h9 := H.out; unfold exprF at h9; rw [if_pos h60] at h9; exact (Option.some.inj h9).symm)
  exact ⟨rfl, ((Kp.refl c w).alloc _).trans hkp1, by rw [HR.out]; rfl⟩
 ·
  rw [if_neg h60] at hd
  subst hd
  have HB : Hid (binaryF g d 0 ts = some r) := hid (by have h9 := H.out; unfold exprF at h9; rw [if_neg h60] at h9; exact h9)
  have hr1 := hid (hkp1.heap HZ.out (by omega))
  have hkp1w := hid (((Kp.refl c w).alloc (.cells #[.string ⟨#[]⟩, .string ⟨#[]⟩, .int .u64 0, .int .i64 0, .int .i64 0, .slice none 0 0] 26)).trans hkp1)
  have hz1 := hkp1.size_le
  have hz1b : w.heap.size + 1 ≤ w1.heap.size := by simpa using hz1
  have HPS1 := hid hps1
  clear hkp1 hps1 H HZ HPS hz1
  go_wp2_with fail
  refine cmo (IH.binary w1 d 0 ts r HB.out HPS1.out h0 (by omega) (by omega)) ?_
  rintro e w2 ⟨hkp2, hp⟩
  cases r with
  | bad l k er =>
   subst hp
   exact ⟨rfl, hkp1w.out.trans hkp2, rfl⟩
  | ok n tsr =>
   obtain ⟨hps2, A, cap, rfl, hR⟩ := hp
   have hr2 := hid (hkp2.heap hr1.out (by omega))
   have HR2 := hid hR
   have HPS2 := hid hps2
   have HKP2 := hid (hkp1w.out.trans hkp2)
   unfold nodeV
   clear hR hps2 hkp2 hr1 hkp1w
   obtain ⟨r0, r1, r2, r3, r4, r5, rf⟩ := cells6 hr2.out
   go_wp2_with fail
   exact ret_node hc Tryz.results106 rfl hr2.out HPS2.out HKP2.out hlt (Nat.le_refl _) HR2.out (by omega)
set_option maxRecDepth 20000 in
set_option maxHeartbeats 400000 in
theorem index_step (c : PC) (hc : c.Ok) (g : Nat) (IH : ExprsOk c g) (w : World) (x : Node) (d : Int) (ts : List Tok) (r : PR Node) (h : indexF (g + 1) x d ts = some r) (hps : PS c w ts) (h0 : 0 ≤ d) (h1 : d ≤ 60) (hxk : x.kids = []) : Calls Tryz.prog 122 #[.pointer (some ⟨c.p, 0, none⟩), nodeV x (.slice none 0 0), .int .i64 d] w (PostN c w r) := by
 have hlt := hps.lt
 have HPS := hid hps
 have H := hid h
 have HXK := hid hxk
 obtain ⟨xk, xt, xn, xl, xc, xs⟩ := x
 subst hxk
 unfold nodeV
 clear hps h
 go_enter Tryz.func122, Tryz.ntmps122
 go_wp2_with fail
 refine cmo (take_calls c hc _ ts ⟨#[91]⟩ ((HPS.out.alloc _).alloc _)) ?_
 rintro e w1 ⟨rfl, hps1, hkp1⟩
 have hkw1 := hid ((((Kp.refl c w).alloc (.cells #[.string xk, .string xt, .int .u64 xn, .int .i64 xl, .int .i64 xc, .slice none 0 0] 26)).alloc (.cells #[.string ⟨#[]⟩, .string ⟨#[]⟩, .int .u64 0, .int .i64 0, .int .i64 0, .slice none 0 0] 26)).trans hkp1)
 have hx1 : Hid (w1.heap[w.heap.size]? = some (.cells #[.string xk, .string xt, .int .u64 xn, .int .i64 xl, .int .i64 xc, .slice none 0 0] 26)) := hid (hkp1.heap (hs_alloc (heap_alloc_new w (.cells #[.string xk, .string xt, .int .u64 xn, .int .i64 xl, .int .i64 xc, .slice none 0 0] 26)) (.cells #[.string ⟨#[]⟩, .string ⟨#[]⟩, .int .u64 0, .int .i64 0, .int .i64 0, .slice none 0 0] 26)) (by omega))
 have hr1 : Hid (w1.heap[w.heap.size + 1]? = some (.cells #[.string ⟨#[]⟩, .string ⟨#[]⟩, .int .u64 0, .int .i64 0, .int .i64 0, .slice none 0 0] 26)) := hid (hkp1.heap (by have := heap_alloc_new (w.alloc (.cells #[.string xk, .string xt, .int .u64 xn, .int .i64 xl, .int .i64 xc, .slice none 0 0] 26)) (.cells #[.string ⟨#[]⟩, .string ⟨#[]⟩, .int .u64 0, .int .i64 0, .int .i64 0, .slice none 0 0] 26); simpa using this) (by omega))
 have hz1 : w.heap.size + 2 ≤ w1.heap.size := by have := hkp1.size_le; simpa using this
 clear hkp1
 cases hb : isF ts ⟨#[91]⟩
 ·
  have HR : Hid (r = .ok ⟨xk, xt, xn, xl, xc, []⟩ ts) := hid (by have h9 := H.out; unfold indexF at h9; rw [hb] at h9; exact (Option.some.inj h9).symm)
  rw [hb] at hps1
  have HPS1 : Hid (PS c w1 ts) := hid hps1
  clear hps1 hb H HPS
  obtain ⟨x0, x1, x2, x3, x4, x5, xf⟩ := cells6 hx1.out
  obtain ⟨r0, r1, r2, r3, r4, r5, rf⟩ := cells6 hr1.out
  go_wp2_with fail
  rw [HR.out]
  exact ret_node hc (n := ⟨xk, xt, xn, xl, xc, []⟩) (A := none) (cap := 0) Tryz.results122 (by rfl) hr1.out HPS1.out hkw1.out hlt (by omega) (R_nilN w1 (w.heap.size + 2)) (by omega)
 ·
  have HB : Hid (bnd (exprF g (d + 1) ts.tail) (fun k r => bnd (some (needF r ⟨#[93]⟩)) fun _ r2 => some (.ok ⟨⟨#[105, 110, 100, 101, 120]⟩, xt, xn, xl, xc, [k]⟩ r2)) = some r) := hid (by have h9 := H.out; unfold indexF at h9; rw [hb] at h9; exact h9)
  rw [hb] at hps1
  have HPS1 : Hid (PS c w1 ts.tail) := hid hps1
  clear hps1 hb H HPS
  go_wp2_with fail
  rcases bnd_some HB.out with ⟨l, k, er, he, rfl⟩ | ⟨n, ts2, he, hB2⟩
  ·
   refine cmo (IH.expr w1 (d + 1) _ _ he HPS1.out (by omega) (by omega)) ?_
   rintro e w2 ⟨hkp2, rfl⟩
   exact ⟨rfl, hkw1.out.trans hkp2, rfl⟩
  ·
   have HB2 := hid hB2
   refine cmo (IH.expr w1 (d + 1) _ _ he HPS1.out (by omega) (by omega)) ?_
   clear hB2 HB
   rintro e w2 ⟨hkp2, hps2, A, cap, rfl, hR⟩
   have hx2 := hid (hkp2.heap hx1.out (by omega))
   have hr2 := hid (hkp2.heap hr1.out (by omega))
   have HR2 := hid hR
   have HPS2 := hid hps2
   have HKP2 := hid (hkw1.out.trans hkp2)
   have hz2 := hkp2.size_le
   unfold nodeV
   clear hR hps2 hkp2 hr1 hx1 hkw1 HPS1 he
   obtain ⟨x0, x1, x2, x3, x4, x5, xf⟩ := cells6 hx2.out
   go_wp2_with fail
   have hps3 := hid (show PS c (((w2.alloc (.cells #[.string n.kind, .string n.text, .int .u64 n.num, .int .i64 n.line, .int .i64 n.col, .slice A n.kids.length cap] 26)).setCell ⟨w.heap.size, 0, none⟩ (.string ⟨#[105, 110, 100, 101, 120]⟩)).setCell ⟨w.heap.size, 5, none⟩ (.slice (some ⟨w2.heap.size, 0, none⟩) 1 1)) ts2 from by (repeat' (first | with_reducible exact HPS2.out | with_reducible refine PS.setCell ?_ (by omega) hc _ | with_reducible refine PS.alloc ?_ _ | with_reducible refine PS.drewN ?_ _ | with_reducible refine PS.drew ?_)))
   have hkp3 := hid (show Kp c w (((w2.alloc (.cells #[.string n.kind, .string n.text, .int .u64 n.num, .int .i64 n.line, .int .i64 n.col, .slice A n.kids.length cap] 26)).setCell ⟨w.heap.size, 0, none⟩ (.string ⟨#[105, 110, 100, 101, 120]⟩)).setCell ⟨w.heap.size, 5, none⟩ (.slice (some ⟨w2.heap.size, 0, none⟩) 1 1)) from by (repeat' (first | with_reducible exact HKP2.out | with_reducible refine Kp.setCell ?_ (.inr (by first | exact Nat.le_refl _ | (show _ ≤ _; omega))) _ | with_reducible refine Kp.alloc ?_ _ | with_reducible refine Kp.drewN ?_ _ | with_reducible refine Kp.drew ?_)))
   have hx3 := hid (hs_set (i := 5) (hs_set (i := 0) (hs_alloc hx2.out (.cells #[.string n.kind, .string n.text, .int .u64 n.num, .int .i64 n.line, .int .i64 n.col, .slice A n.kids.length cap] 26)) (.string ⟨#[105, 110, 100, 101, 120]⟩)) (.slice (some ⟨w2.heap.size, 0, none⟩) 1 1))
   have hr3 := hid (hs_far (i := 5) (hs_far (i := 0) (hs_alloc hr2.out (.cells #[.string n.kind, .string n.text, .int .u64 n.num, .int .i64 n.line, .int .i64 n.col, .slice A n.kids.length cap] 26)) (k := w.heap.size) (by omega) (.string ⟨#[105, 110, 100, 101, 120]⟩)) (k := w.heap.size) (by omega) (.slice (some ⟨w2.heap.size, 0, none⟩) 1 1))
   have HR3 := hid (R_set (i := 5) (R_set (i := 0) (R_made1 (base := w1.heap.size) (W := w2) (by omega) HR2.out) (b := w.heap.size) (by omega) (.string ⟨#[105, 110, 100, 101, 120]⟩)) (b := w.heap.size) (by omega) (.slice (some ⟨w2.heap.size, 0, none⟩) 1 1))
   refine cmo (need_calls c hc _ ts2 ⟨#[93]⟩ hps3.out) ?_
   rintro e w3 ⟨hkp4, hp4⟩
   have HKP4 := hid (hkp3.out.trans hkp4)
   rcases bnd_some HB2.out with ⟨l, k, er, he, rfl⟩ | ⟨t, ts3, he, hB3⟩
   ·
    rw [Option.some.inj he] at hp4
    subst hp4
    exact ⟨rfl, HKP4.out, rfl⟩
   ·
    rw [Option.some.inj he] at hp4
    obtain ⟨rfl, hps4⟩ := hp4
    have HPS4 := hid hps4
    have hr4 := hid (hkp4.heap hr3.out (by omega))
    have hx4 := hid (hkp4.heap hx3.out (by omega))
    have HR4 := hid (R_kp HR3.out hkp4 (by omega))
    have HRR := hid (Option.some.inj hB3).symm
    clear hps4 hkp4 hx3 hr3 hkp3 hps3 HR3 hB3 he HR2 HPS2 HKP2 hx2 hr2 HB2
    simp only [Array.setIfInBounds, List.size_toArray, List.length_cons, List.length_nil, List.set] at hx4
    obtain ⟨x0, x1, x2, x3, x4, x5, xf⟩ := cells6 hx4.out
    obtain ⟨r0, r1, r2, r3, r4, r5, rf⟩ := cells6 hr4.out
    go_wp2_with fail
    rw [HRR.out]
    exact ret_node hc (n := ⟨⟨#[105, 110, 100, 101, 120]⟩, xt, xn, xl, xc, [n]⟩) (A := some ⟨w2.heap.size, 0, none⟩) (cap := 1) Tryz.results122 (by rfl) hr4.out HPS4.out HKP4.out hlt (by omega) HR4.out (by omega)
end Go.Proofs.YtdimhoilfopndaaGreatDoor
end
section
namespace Go.Proofs.YtdimhoilfopndaaGreatDoor
open Go.RowKit Go.Proofs.YtdimhoilfopndaaGreatDoorW.PrintWords
theorem R_kpP {c : PC} {w w' : World} {base : Nat} {P : Nat → Prop} {v : Value} {ks : List Node} (h : kNode.R 26 w base P v ks) (hk : Kp c w w') (hp : c.p < base) : kNode.R 26 w' base P v ks :=
 Kd.R_mono (Kd.R_grown (Kd.R_bound h) hk (fun k hk9 e => by have := Option.some.inj e; have := hk9.2.1; omega)) (fun _ h => h.1)
theorem R_setP {w : World} {base b i : Nat} {P : Nat → Prop} {v : Value} {ks : List Node} (h : kNode.R 26 w base P v ks) (hP : ∀ k, P k → k ≠ b) (u : Value) : kNode.R 26 (w.setCell ⟨b, i, none⟩ u) base P v ks :=
 Kd.R_far (p := ⟨b, i, none⟩) h hP u
theorem R_madeP {W : World} {base : Nat} {P : Nat → Prop} (hP : P W.heap.size) (hb : base ≤ W.heap.size) {xs : List Node} {inner : List Value} (hr : Reps (kNode.M W base P) 6 xs inner) (hl : xs.length ≤ 1000) (hi : inner.length = xs.length * 6) :
  kNode.R 26 (W.alloc (.cells inner.toArray 26)) base P (.slice (some ⟨W.heap.size, 0, none⟩) xs.length xs.length) xs := by
 refine ⟨fun k hk => ?_, inner, ⟨hi, .inr ⟨W.heap.size, xs.length, inner.toArray, rfl, hb, heap_alloc_new W _, Nat.le_refl _, by unfold maxLen; omega, by simp [hi, kNode, Kd.fix], ?_⟩⟩, ?_⟩
 ·
  simp [Value.ownBlock] at hk
  rw [← hk]; exact hP
 ·
  simp only [List.toList_toArray]
  exact List.take_of_length_le (by rw [hi]; exact Nat.le_refl _)
 ·
  refine hr.imp_ fun p cs hp => ?_
  refine Kd.M_below (kNode.M_mono (fun k hk => ⟨hk.1, ?_⟩) (kNode.M_bound hp)) (below_alloc (Below.refl _ _) _)
  intro e
  simp [Value.ownBlock] at e
  have := hk.2.2.1
  omega
theorem M_nodeP {w : World} {base : Nat} {P : Nat → Prop} {n : Node} {v : Value} (h : kNode.R 26 w base P v n.kids) : kNode.M w base P n [.string n.kind, .string n.text, .int .u64 n.num, .int .i64 n.line, .int .i64 n.col, v] := kNode_mkM w base P n h
structure Sta (c : PC) (w W : World) (ts : List Tok) (hs : List (Nat × Obj)) (rs : List (Nat × Value × List Node)) : Prop where
 ps : PS c W ts
 kp : Kp c w W
 lt : c.p < w.heap.size
 held : ∀ p ∈ hs, W.heap[p.1]? = some p.2 ∧ p.1 ≠ c.p
 rows : ∀ q ∈ rs, kNode.R 26 W q.1 (fun k => ∀ p ∈ hs, k ≠ p.1) q.2.1 q.2.2 ∧ c.p < q.1
variable {c : PC} {w W W' : World} {ts ts' : List Tok} {hs : List (Nat × Obj)} {rs : List (Nat × Value × List Node)}
theorem Sta.start (h : PS c w ts) : Sta c w w ts [] [] := ⟨h, Kp.refl c w, h.lt, fun p hp => (by cases hp), fun p hp => (by cases hp)⟩
theorem Sta.heldLt (h : Sta c w W ts hs rs) : ∀ p ∈ hs, p.1 < W.heap.size := fun p hp => lt_of_heap (h.held p hp).1
theorem Sta.call (h : Sta c w W ts hs rs) (hk : Kp c W W') (hp : PS c W' ts') : Sta c w W' ts' hs rs :=
 ⟨hp, h.kp.trans hk, h.lt, fun p hp => ⟨hk.heap (h.held p hp).1 (h.held p hp).2, (h.held p hp).2⟩, fun q hq => ⟨R_kpP (h.rows q hq).1 hk (h.rows q hq).2, (h.rows q hq).2⟩⟩
theorem Sta.isOv (h : Sta c w W ts hs rs) (hb : IsOv W W') : Sta c w W' ts hs rs := h.call (Kp.of_isOv hb) (h.ps.isOv hb)
theorem Sta.drew (h : Sta c w W ts hs rs) : Sta c w W.drew ts hs rs := h.isOv (IsOv.refl W).drew
theorem Sta.drewN (h : Sta c w W ts hs rs) (n : Nat) : Sta c w (W.drewN n) ts hs rs := h.isOv ((IsOv.refl W).drewN n)
theorem Sta.size (h : Sta c w W ts hs rs) : w.heap.size ≤ W.heap.size := h.kp.size_le
theorem Sta.alloc (h : Sta c w W ts hs rs) (o : Obj) : Sta c w (W.alloc o) ts ((W.heap.size, o) :: hs) rs := by
 have h2 := h.isOv ((IsOv.refl W).alloc o)
 refine ⟨h2.ps, h2.kp, h.lt, fun p hp => ?_, fun q hq => ⟨?_, (h.rows q hq).2⟩⟩
 ·
  rcases List.mem_cons.mp hp with rfl | hp
  · exact ⟨heap_alloc_new W o, by have := h.lt; have := h.size; omega⟩
  · exact h2.held p hp
 ·
  refine Kd.R_mono (Kd.R_below (Kd.R_bound (h.rows q hq).1) ((IsOv.refl W).alloc o).below) fun k hk p hp => ?_
  rcases List.mem_cons.mp hp with rfl | hp
  · have := hk.2.2.1; show k ≠ W.heap.size; omega
  · exact hk.1 p hp
theorem Sta.got (h : Sta c w W ts hs rs) (hk : Kp c W W') (hp : PS c W' ts') {v : Value} {ks : List Node} {b : Nat} (hb : W.heap.size ≤ b) (hR : kNode.R 26 W' b (fun _ => True) v ks) : Sta c w W' ts' hs ((b, v, ks) :: rs) := by
 have h2 := h.call hk hp
 refine ⟨h2.ps, h2.kp, h.lt, h2.held, fun q hq => ?_⟩
 rcases List.mem_cons.mp hq with rfl | hq
 · exact ⟨Kd.R_mono (Kd.R_bound hR) fun k hk9 p hp => by have := h.heldLt p hp; have := hk9.2.1; omega, by have := h.lt; have := h.size; show c.p < b; omega⟩
 · exact h2.rows q hq
theorem Sta.row (h : Sta c w W ts hs rs) {b : Nat} {v : Value} {ks : List Node} (hb : c.p < b) (hR : kNode.R 26 W b (fun k => ∀ p ∈ hs, k ≠ p.1) v ks) : Sta c w W ts hs ((b, v, ks) :: rs) := by
 refine ⟨h.ps, h.kp, h.lt, h.held, fun q hq => ?_⟩
 rcases List.mem_cons.mp hq with rfl | hq
 · exact ⟨hR, hb⟩
 · exact h.rows q hq
theorem Sta.nil (h : Sta c w W ts hs rs) (b : Nat) (hb : c.p < b) : Sta c w W ts hs ((b, .slice none 0 0, []) :: rs) := h.row hb (Kd.R_nil _ _ _ _ _)
theorem Sta.sub (h : Sta c w W ts hs rs) {hs' : List (Nat × Obj)} {rs' : List (Nat × Value × List Node)} (h1 : ∀ p ∈ hs', p ∈ hs) (h2 : ∀ q ∈ rs', q ∈ rs) : Sta c w W ts hs' rs' := ⟨h.ps, h.kp, h.lt, fun p hp => h.held p (h1 p hp), fun q hq => ⟨Kd.R_mono (h.rows q (h2 q hq)).1 fun k hk p hp => hk p (h1 p hp), (h.rows q (h2 q hq)).2⟩⟩
theorem Sta.swap {p q : Nat × Obj} (h : Sta c w W ts (p :: q :: hs) rs) : Sta c w W ts (q :: p :: hs) rs := h.sub (by simp +contextual) (fun _ h => h)
theorem Sta.rot {p q r : Nat × Obj} (h : Sta c w W ts (p :: q :: r :: hs) rs) : Sta c w W ts (r :: p :: q :: hs) rs := h.sub (by simp +contextual) (fun _ h => h)
theorem Sta.drop {p : Nat × Obj} (h : Sta c w W ts (p :: hs) rs) : Sta c w W ts hs rs := h.sub (by simp +contextual) (fun _ h => h)
theorem Sta.dropR {q : Nat × Value × List Node} (h : Sta c w W ts hs (q :: rs)) : Sta c w W ts hs rs := h.sub (fun _ h => h) (by simp +contextual)
theorem Sta.h0 {b : Nat} {o : Obj} (h : Sta c w W ts ((b, o) :: hs) rs) : W.heap[b]? = some o := (h.held (b, o) (by simp)).1
theorem Sta.h1 {p : Nat × Obj} {b : Nat} {o : Obj} (h : Sta c w W ts (p :: (b, o) :: hs) rs) : W.heap[b]? = some o := (h.held (b, o) (by simp)).1
theorem Sta.h2 {p q : Nat × Obj} {b : Nat} {o : Obj} (h : Sta c w W ts (p :: q :: (b, o) :: hs) rs) : W.heap[b]? = some o := (h.held (b, o) (by simp)).1
theorem Sta.h3 {p q r : Nat × Obj} {b : Nat} {o : Obj} (h : Sta c w W ts (p :: q :: r :: (b, o) :: hs) rs) : W.heap[b]? = some o := (h.held (b, o) (by simp)).1
theorem Sta.r0 {b : Nat} {v : Value} {ks : List Node} (h : Sta c w W ts hs ((b, v, ks) :: rs)) : kNode.R 26 W b (fun k => ∀ p ∈ hs, k ≠ p.1) v ks := (h.rows (b, v, ks) (by simp)).1
theorem Sta.r1 {q : Nat × Value × List Node} {b : Nat} {v : Value} {ks : List Node} (h : Sta c w W ts hs (q :: (b, v, ks) :: rs)) : kNode.R 26 W b (fun k => ∀ p ∈ hs, k ≠ p.1) v ks := (h.rows (b, v, ks) (by simp)).1
theorem Sta.made1 {base : Nat} {n : Node} {v : Value} (h : Sta c w W ts hs ((base, v, n.kids) :: rs)) (hb : base ≤ W.heap.size) :
  Sta c w (W.alloc (.cells #[.string n.kind, .string n.text, .int .u64 n.num, .int .i64 n.line, .int .i64 n.col, v] 26)) ts hs ((base, .slice (some ⟨W.heap.size, 0, none⟩) 1 1, [n]) :: rs) := by
 have hlt := (h.rows _ (List.mem_cons_self ..)).2
 exact ((h.dropR).isOv ((IsOv.refl W).alloc _)).row hlt (R_madeP (fun p hp => by have := h.heldLt p hp; omega) hb (by
  have := (Reps.none (kNode.M W base (fun k => ∀ p ∈ hs, k ≠ p.1)) 6).snoc (M_nodeP h.r0) rfl
  simpa using this) (by simp) rfl)
theorem Sta.made2 {base base2 : Nat} {n m : Node} {v u : Value} (h : Sta c w W ts hs ((base, v, n.kids) :: (base2, u, m.kids) :: rs)) (hb : base2 ≤ base) (hb2 : base ≤ W.heap.size) :
  Sta c w (W.alloc (.cells #[.string m.kind, .string m.text, .int .u64 m.num, .int .i64 m.line, .int .i64 m.col, u, .string n.kind, .string n.text, .int .u64 n.num, .int .i64 n.line, .int .i64 n.col, v] 26)) ts hs ((base2, .slice (some ⟨W.heap.size, 0, none⟩) 2 2, [m, n]) :: rs) := by
 have hlt := (h.dropR.rows _ (List.mem_cons_self ..)).2
 exact (((h.dropR).dropR).isOv ((IsOv.refl W).alloc _)).row hlt (R_madeP (fun p hp => by have := h.heldLt p hp; omega) (by omega) (by
  have := ((Reps.none (kNode.M W base2 (fun k => ∀ p ∈ hs, k ≠ p.1)) 6).snoc (M_nodeP h.r1) rfl).snoc (M_nodeP (Kd.R_lower h.r0 hb)) rfl
  simpa using this) (by simp) rfl)
theorem Sta.set {b : Nat} {cs : Array Value} {T : TypeId} (h : Sta c w W ts ((b, .cells cs T) :: hs) rs) (hc : c.Ok) (hb : w.heap.size ≤ b) (hh : ∀ p ∈ hs, p.1 ≠ b) (i : Nat) (v : Value) : Sta c w (W.setCell ⟨b, i, none⟩ v) ts ((b, .cells (cs.setIfInBounds i v) T) :: hs) rs := by
 have hlt := h.lt
 refine ⟨h.ps.setCell (b := b) (i := i) (by omega) hc v, h.kp.setCell (p := ⟨b, i, none⟩) (.inr hb) v, h.lt, fun p hp => ?_, fun q hq => ⟨Kd.R_mono (R_setP (h.rows q hq).1 (fun k hk => hk _ (List.mem_cons_self ..)) v) (fun k hk p hp => ?_), (h.rows q hq).2⟩⟩
 ·
  rcases List.mem_cons.mp hp with rfl | hp
  · exact ⟨hs_set h.h0 v, by show b ≠ c.p; omega⟩
  ·
   have := h.held p (List.mem_cons_of_mem _ hp)
   exact ⟨hs_far this.1 (hh p hp) v, this.2⟩
 ·
  rcases List.mem_cons.mp hp with rfl | hp
  · exact hk (b, .cells cs T) (List.mem_cons_self ..)
  · exact hk p (List.mem_cons_of_mem _ hp)
theorem Sta.as {b : Nat} {o o' : Obj} (h : Sta c w W ts ((b, o) :: hs) rs) (he : o = o') : Sta c w W ts ((b, o') :: hs) rs := by rw [← he]; exact h
theorem Sta.set6 {b : Nat} {x0 x1 x2 x3 x4 x5 : Value} {T : TypeId} (h : Sta c w W ts ((b, .cells #[x0, x1, x2, x3, x4, x5] T) :: hs) rs) (hc : c.Ok) (hb : w.heap.size ≤ b) (hh : ∀ p ∈ hs, p.1 ≠ b) (a0 a1 a2 a3 a4 a5 : Value) :
  Sta c w ((((((W.setCell ⟨b, 0, none⟩ a0).setCell ⟨b, 1, none⟩ a1).setCell ⟨b, 2, none⟩ a2).setCell ⟨b, 3, none⟩ a3).setCell ⟨b, 4, none⟩ a4).setCell ⟨b, 5, none⟩ a5) ts ((b, .cells #[a0, a1, a2, a3, a4, a5] T) :: hs) rs :=
 ((((((h.set hc hb hh 0 a0).set hc hb hh 1 a1).set hc hb hh 2 a2).set hc hb hh 3 a3).set hc hb hh 4 a4).set hc hb hh 5 a5).as rfl
theorem Sta.set5 {b : Nat} {x0 x1 x2 x3 x4 : Value} {T : TypeId} (h : Sta c w W ts ((b, .cells #[x0, x1, x2, x3, x4] T) :: hs) rs) (hc : c.Ok) (hb : w.heap.size ≤ b) (hh : ∀ p ∈ hs, p.1 ≠ b) (a0 a1 a2 a3 a4 : Value) :
  Sta c w (((((W.setCell ⟨b, 0, none⟩ a0).setCell ⟨b, 1, none⟩ a1).setCell ⟨b, 2, none⟩ a2).setCell ⟨b, 3, none⟩ a3).setCell ⟨b, 4, none⟩ a4) ts ((b, .cells #[a0, a1, a2, a3, a4] T) :: hs) rs :=
 (((((h.set hc hb hh 0 a0).set hc hb hh 1 a1).set hc hb hh 2 a2).set hc hb hh 3 a3).set hc hb hh 4 a4).as rfl
theorem Sta.next (h : Sta c w W ts hs rs) (hc : c.Ok) (hk : (nowT ts).kind ≠ 3) : ∃ i : Nat, W.heap[c.p]? = some (.cells #[.slice (some ⟨c.g, 0, none⟩) c.toks.length c.cap, .int .i64 (i : Int)] 69 (0, 0)) ∧ i < 100000 ∧ Sta c w (W.setCell ⟨c.p, 1, none⟩ (.int .i64 ((i : Int) + 1))) ts.tail hs rs := by
 obtain ⟨i, h1, h2, h3⟩ := h.ps.next hc hk
 exact ⟨i, h1, h2, h.call ((Kp.refl c W).setCell (p := ⟨c.p, 1, none⟩) (.inl rfl) _) h3⟩
theorem ret_sta (hc : c.Ok) {fn : Func} {t : Tmp} (hr : fn.results = #[.cell t 26]) {tmps : Array Value} {b base : Nat} (ht : tmps.getD t undef = .pointer (some ⟨b, 0, none⟩)) {n : Node} {A : Option Addr} {cap : Nat} {x0 x1 x2 x3 x4 x5 : Value}
  (h : Sta c w W ts ((b, .cells #[x0, x1, x2, x3, x4, x5] 26) :: hs) ((base, .slice A n.kids.length cap, n.kids) :: rs)) (hwb : w.heap.size ≤ b) (hb : w.heap.size ≤ base) (hh : ∀ p ∈ hs, p.1 ≠ b) :
  bodyPost Tryz.prog fn (PostN c w (.ok n ts)) Exit.ret ⟨tmps, []⟩ ((((((W.setCell ⟨b, 0, none⟩ (.string n.kind)).setCell ⟨b, 1, none⟩ (.string n.text)).setCell ⟨b, 2, none⟩ (.int .u64 n.num)).setCell ⟨b, 3, none⟩ (.int .i64 n.line)).setCell ⟨b, 4, none⟩ (.int .i64 n.col)).setCell ⟨b, 5, none⟩ (.slice A n.kids.length cap)) := by
 have h6 := h.set6 hc hwb hh (.string n.kind) (.string n.text) (.int .u64 n.num) (.int .i64 n.line) (.int .i64 n.col) (.slice A n.kids.length cap)
 refine bodyPost_ret (v := nodeV n (.slice A n.kids.length cap)) (results_heap (b := b) hr ht h6.h0 Tryz.underlying26 rfl (by kernel_rfl)) rfl ?_
 exact ⟨h6.kp, h6.ps, A, cap, rfl, Kd.R_mono (Kd.R_lower h6.r0 hb) (fun _ _ => trivial)⟩
theorem ret_leaf (hc : c.Ok) {fn : Func} {t : Tmp} (hr : fn.results = #[.cell t 26]) {tmps : Array Value} {b : Nat} (ht : tmps.getD t undef = .pointer (some ⟨b, 0, none⟩)) {n : Node} {x0 x1 x2 x3 x4 x5 : Value}
  (h : Sta c w W ts ((b, .cells #[x0, x1, x2, x3, x4, x5] 26) :: hs) rs) (hwb : w.heap.size ≤ b) (hn : n.kids = []) :
  bodyPost Tryz.prog fn (PostN c w (.ok n ts)) Exit.ret ⟨tmps, []⟩ ((((((W.setCell ⟨b, 0, none⟩ (.string n.kind)).setCell ⟨b, 1, none⟩ (.string n.text)).setCell ⟨b, 2, none⟩ (.int .u64 n.num)).setCell ⟨b, 3, none⟩ (.int .i64 n.line)).setCell ⟨b, 4, none⟩ (.int .i64 n.col)).setCell ⟨b, 5, none⟩ (.slice none 0 0)) := by
 have := ret_node (A := none) (cap := 0) (base := b + 1) hc (n := n) hr ht h.h0 h.ps h.kp h.lt hwb (by rw [hn]; exact R_nilN W _) (by omega)
 rw [hn] at this
 exact this
end Go.Proofs.YtdimhoilfopndaaGreatDoor
end
section
namespace Go.Proofs.YtdimhoilfopndaaGreatDoor
open Go.RowKit Go.Proofs.YtdimhoilfopndaaGreatDoorW.PrintWords
set_option maxRecDepth 20000 in
set_option maxHeartbeats 400000 in
theorem operand_un0 (c : PC) (hc : c.Ok) (g : Nat) (IH : ExprsOk c g) (w : World) (d : Int) (ts : List Tok) (r : PR Node) (t : Tok) (HT : Hid (nowT ts = t)) (hps : PS c w ts) (h0 : 0 ≤ d) (h60 : ¬ 60 < d) (b0 : isF ts ⟨#[33]⟩ = true) (HB : Hid (bnd (operandF g (d + 1) ts.tail) (fun k r => some (.ok ⟨⟨#[117, 110, 97, 114, 121]⟩, t.text, 0, t.line, t.col, [k]⟩ r)) = some r)) : Calls Tryz.prog 134 #[.pointer (some ⟨c.p, 0, none⟩), .int .i64 d] w (PostN c w r) := by
 have hlt := hps.lt
 have HS1 := hid (Sta.start hps)
 clear hps
 go_enter Tryz.func134, Tryz.ntmps134
 have HS2 := hid (HS1.out.alloc (.cells #[.string ⟨#[]⟩, .string ⟨#[]⟩, .int .u64 0, .int .i64 0, .int .i64 0, .slice none 0 0] 26))
 clear HS1
 go_wp2_with fail
 refine cmo (deep_calls c hc _ ts d HS2.out.ps) ?_
 rintro e9 w1 ⟨hpt, hkt, hd⟩
 unfold deepF at hd
 rw [if_neg (by omega)] at hd
 subst hd
 have HS3 := hid (HS2.out.call hkt hpt)
 clear HS2
 have hz1 := hkt.size_le
 simp only [World.size_alloc] at hz1
 clear hkt hpt
 go_wp2_with fail
 refine cmo (now_gives c hc _ ts HS3.out.ps) ?_
 rintro e9 w2 ⟨rfl, hov⟩
 have HS4 := hid (HS3.out.isOv hov)
 clear HS3
 have hz2 := hov.size_le
 clear hov
 rw [HT.out, show t.val = .agg #[.int .i64 t.kind, .string t.text, .int .u64 t.num, .int .i64 t.line, .int .i64 t.col] from rfl]
 go_wp2_with fail
 have HS5 : Hid (Sta c w ((w2.alloc (.cells #[.int .i64 t.kind, .string t.text, .int .u64 t.num, .int .i64 t.line, .int .i64 t.col] 60)).alloc (.cells #[.string ⟨#[]⟩, .string t.text, .int .u64 0, .int .i64 t.line, .int .i64 t.col, .slice none 0 0] 26)) ts [(w2.heap.size + 1, (.cells #[.string ⟨#[]⟩, .string t.text, .int .u64 0, .int .i64 t.line, .int .i64 t.col, .slice none 0 0] 26)), (w2.heap.size, (.cells #[.int .i64 t.kind, .string t.text, .int .u64 t.num, .int .i64 t.line, .int .i64 t.col] 60)), (w.heap.size, (.cells #[.string ⟨#[]⟩, .string ⟨#[]⟩, .int .u64 0, .int .i64 0, .int .i64 0, .slice none 0 0] 26))] []) := hid (by have h9 := (HS4.out.alloc (.cells #[.int .i64 t.kind, .string t.text, .int .u64 t.num, .int .i64 t.line, .int .i64 t.col] 60)).alloc (.cells #[.string ⟨#[]⟩, .string t.text, .int .u64 0, .int .i64 t.line, .int .i64 t.col, .slice none 0 0] 26); rw [World.size_alloc] at h9; exact h9)
 clear HS4
 refine cmo (take_calls c hc _ (ts) ⟨#[33]⟩ HS5.out.ps) ?_
 rintro e9 w3 ⟨rfl, hpt, hkt⟩
 rw [b0] at hpt ⊢
 have hpt2 : PS c w3 (ts.tail) := hpt
 have HS6 := hid (HS5.out.call hkt hpt2)
 clear HS5
 clear hpt hkt hpt2
 go_wp2_with fail
 have hzz : w2.heap.size + 2 ≤ w3.heap.size := lt_of_heap HS6.out.h0
 rcases bnd_some HB.out with ⟨l, k, er, he, rfl⟩ | ⟨n, ts2, he, hB9⟩
 ·
  refine cmo (IH.operand _ (d + 1) _ _ he HS6.out.ps (by omega) (by omega)) ?_
  rintro e9 w99 ⟨hkp, rfl⟩
  exact ⟨rfl, HS6.out.kp.trans hkp, rfl⟩
 ·
  have HB2 := hid hB9
  clear hB9
  refine cmo (IH.operand _ (d + 1) _ _ he HS6.out.ps (by omega) (by omega)) ?_
  clear he
  rintro e9 w4 ⟨hkp, hpt, An, capn, rfl, hR⟩
  have HS7 := hid (HS6.out.got hkp hpt (Nat.le_refl _) hR)
  clear HS6
  have hz4 := hkp.size_le
  try simp only [WZ] at hz4
  unfold nodeV
  clear hkp hpt hR HB
  obtain ⟨n0, n1, n2, n3, n4, n5, nf⟩ := cells6 HS7.out.h0
  obtain ⟨r0, r1, r2, r3, r4, r5, rf⟩ := cells6 HS7.out.h2
  go_wp2_with fail
  rw [(Option.some.inj HB2.out).symm]
  exact ret_sta hc (n := ⟨⟨#[117, 110, 97, 114, 121]⟩, t.text, 0, t.line, t.col, [n]⟩) (A := some ⟨w4.heap.size, 0, none⟩) (cap := 1) (base := w3.heap.size) Tryz.results134 (by rfl) (((((HS7.out.made1 (by omega)).set hc (by omega) (by simp <;> omega) 0 (.string ⟨#[117, 110, 97, 114, 121]⟩)).set hc (by omega) (by simp <;> omega) 5 (.slice (some ⟨w4.heap.size, 0, none⟩) 1 1)).drop).swap) (by omega) (by omega) (by simp <;> omega)
set_option maxRecDepth 20000 in
set_option maxHeartbeats 400000 in
theorem operand_un1 (c : PC) (hc : c.Ok) (g : Nat) (IH : ExprsOk c g) (w : World) (d : Int) (ts : List Tok) (r : PR Node) (t : Tok) (HT : Hid (nowT ts = t)) (hps : PS c w ts) (h0 : 0 ≤ d) (h60 : ¬ 60 < d) (b0 : isF ts ⟨#[33]⟩ = false) (b1 : isF ts ⟨#[126]⟩ = true) (HB : Hid (bnd (operandF g (d + 1) ts.tail) (fun k r => some (.ok ⟨⟨#[117, 110, 97, 114, 121]⟩, t.text, 0, t.line, t.col, [k]⟩ r)) = some r)) : Calls Tryz.prog 134 #[.pointer (some ⟨c.p, 0, none⟩), .int .i64 d] w (PostN c w r) := by
 have hlt := hps.lt
 have HS1 := hid (Sta.start hps)
 clear hps
 go_enter Tryz.func134, Tryz.ntmps134
 have HS2 := hid (HS1.out.alloc (.cells #[.string ⟨#[]⟩, .string ⟨#[]⟩, .int .u64 0, .int .i64 0, .int .i64 0, .slice none 0 0] 26))
 clear HS1
 go_wp2_with fail
 refine cmo (deep_calls c hc _ ts d HS2.out.ps) ?_
 rintro e9 w1 ⟨hpt, hkt, hd⟩
 unfold deepF at hd
 rw [if_neg (by omega)] at hd
 subst hd
 have HS3 := hid (HS2.out.call hkt hpt)
 clear HS2
 have hz1 := hkt.size_le
 simp only [World.size_alloc] at hz1
 clear hkt hpt
 go_wp2_with fail
 refine cmo (now_gives c hc _ ts HS3.out.ps) ?_
 rintro e9 w2 ⟨rfl, hov⟩
 have HS4 := hid (HS3.out.isOv hov)
 clear HS3
 have hz2 := hov.size_le
 clear hov
 rw [HT.out, show t.val = .agg #[.int .i64 t.kind, .string t.text, .int .u64 t.num, .int .i64 t.line, .int .i64 t.col] from rfl]
 go_wp2_with fail
 have HS5 : Hid (Sta c w ((w2.alloc (.cells #[.int .i64 t.kind, .string t.text, .int .u64 t.num, .int .i64 t.line, .int .i64 t.col] 60)).alloc (.cells #[.string ⟨#[]⟩, .string t.text, .int .u64 0, .int .i64 t.line, .int .i64 t.col, .slice none 0 0] 26)) ts [(w2.heap.size + 1, (.cells #[.string ⟨#[]⟩, .string t.text, .int .u64 0, .int .i64 t.line, .int .i64 t.col, .slice none 0 0] 26)), (w2.heap.size, (.cells #[.int .i64 t.kind, .string t.text, .int .u64 t.num, .int .i64 t.line, .int .i64 t.col] 60)), (w.heap.size, (.cells #[.string ⟨#[]⟩, .string ⟨#[]⟩, .int .u64 0, .int .i64 0, .int .i64 0, .slice none 0 0] 26))] []) := hid (by have h9 := (HS4.out.alloc (.cells #[.int .i64 t.kind, .string t.text, .int .u64 t.num, .int .i64 t.line, .int .i64 t.col] 60)).alloc (.cells #[.string ⟨#[]⟩, .string t.text, .int .u64 0, .int .i64 t.line, .int .i64 t.col, .slice none 0 0] 26); rw [World.size_alloc] at h9; exact h9)
 clear HS4
 refine cmo (take_calls c hc _ (ts) ⟨#[33]⟩ HS5.out.ps) ?_
 rintro e9 w3 ⟨rfl, hpt, hkt⟩
 rw [b0] at hpt ⊢
 have hpt2 : PS c w3 (ts) := hpt
 have HS6 := hid (HS5.out.call hkt hpt2)
 clear HS5
 clear hpt hkt hpt2
 go_wp2_with fail
 refine cmo (take_calls c hc _ (ts) ⟨#[126]⟩ HS6.out.ps) ?_
 rintro e9 w4 ⟨rfl, hpt, hkt⟩
 rw [b1] at hpt ⊢
 have hpt2 : PS c w4 (ts.tail) := hpt
 have HS7 := hid (HS6.out.call hkt hpt2)
 clear HS6
 clear hpt hkt hpt2
 go_wp2_with fail
 have hzz : w2.heap.size + 2 ≤ w4.heap.size := lt_of_heap HS7.out.h0
 rcases bnd_some HB.out with ⟨l, k, er, he, rfl⟩ | ⟨n, ts2, he, hB9⟩
 ·
  refine cmo (IH.operand _ (d + 1) _ _ he HS7.out.ps (by omega) (by omega)) ?_
  rintro e9 w99 ⟨hkp, rfl⟩
  exact ⟨rfl, HS7.out.kp.trans hkp, rfl⟩
 ·
  have HB2 := hid hB9
  clear hB9
  refine cmo (IH.operand _ (d + 1) _ _ he HS7.out.ps (by omega) (by omega)) ?_
  clear he
  rintro e9 w5 ⟨hkp, hpt, An, capn, rfl, hR⟩
  have HS8 := hid (HS7.out.got hkp hpt (Nat.le_refl _) hR)
  clear HS7
  have hz5 := hkp.size_le
  try simp only [WZ] at hz5
  unfold nodeV
  clear hkp hpt hR HB
  obtain ⟨n0, n1, n2, n3, n4, n5, nf⟩ := cells6 HS8.out.h0
  obtain ⟨r0, r1, r2, r3, r4, r5, rf⟩ := cells6 HS8.out.h2
  go_wp2_with fail
  rw [(Option.some.inj HB2.out).symm]
  exact ret_sta hc (n := ⟨⟨#[117, 110, 97, 114, 121]⟩, t.text, 0, t.line, t.col, [n]⟩) (A := some ⟨w5.heap.size, 0, none⟩) (cap := 1) (base := w4.heap.size) Tryz.results134 (by rfl) (((((HS8.out.made1 (by omega)).set hc (by omega) (by simp <;> omega) 0 (.string ⟨#[117, 110, 97, 114, 121]⟩)).set hc (by omega) (by simp <;> omega) 5 (.slice (some ⟨w5.heap.size, 0, none⟩) 1 1)).drop).swap) (by omega) (by omega) (by simp <;> omega)
set_option maxRecDepth 20000 in
set_option maxHeartbeats 400000 in
theorem operand_un2 (c : PC) (hc : c.Ok) (g : Nat) (IH : ExprsOk c g) (w : World) (d : Int) (ts : List Tok) (r : PR Node) (t : Tok) (HT : Hid (nowT ts = t)) (hps : PS c w ts) (h0 : 0 ≤ d) (h60 : ¬ 60 < d) (b0 : isF ts ⟨#[33]⟩ = false) (b1 : isF ts ⟨#[126]⟩ = false) (b2 : isF ts ⟨#[45]⟩ = true) (HB : Hid (bnd (operandF g (d + 1) ts.tail) (fun k r => some (.ok ⟨⟨#[117, 110, 97, 114, 121]⟩, t.text, 0, t.line, t.col, [k]⟩ r)) = some r)) : Calls Tryz.prog 134 #[.pointer (some ⟨c.p, 0, none⟩), .int .i64 d] w (PostN c w r) := by
 have hlt := hps.lt
 have HS1 := hid (Sta.start hps)
 clear hps
 go_enter Tryz.func134, Tryz.ntmps134
 have HS2 := hid (HS1.out.alloc (.cells #[.string ⟨#[]⟩, .string ⟨#[]⟩, .int .u64 0, .int .i64 0, .int .i64 0, .slice none 0 0] 26))
 clear HS1
 go_wp2_with fail
 refine cmo (deep_calls c hc _ ts d HS2.out.ps) ?_
 rintro e9 w1 ⟨hpt, hkt, hd⟩
 unfold deepF at hd
 rw [if_neg (by omega)] at hd
 subst hd
 have HS3 := hid (HS2.out.call hkt hpt)
 clear HS2
 have hz1 := hkt.size_le
 simp only [World.size_alloc] at hz1
 clear hkt hpt
 go_wp2_with fail
 refine cmo (now_gives c hc _ ts HS3.out.ps) ?_
 rintro e9 w2 ⟨rfl, hov⟩
 have HS4 := hid (HS3.out.isOv hov)
 clear HS3
 have hz2 := hov.size_le
 clear hov
 rw [HT.out, show t.val = .agg #[.int .i64 t.kind, .string t.text, .int .u64 t.num, .int .i64 t.line, .int .i64 t.col] from rfl]
 go_wp2_with fail
 have HS5 : Hid (Sta c w ((w2.alloc (.cells #[.int .i64 t.kind, .string t.text, .int .u64 t.num, .int .i64 t.line, .int .i64 t.col] 60)).alloc (.cells #[.string ⟨#[]⟩, .string t.text, .int .u64 0, .int .i64 t.line, .int .i64 t.col, .slice none 0 0] 26)) ts [(w2.heap.size + 1, (.cells #[.string ⟨#[]⟩, .string t.text, .int .u64 0, .int .i64 t.line, .int .i64 t.col, .slice none 0 0] 26)), (w2.heap.size, (.cells #[.int .i64 t.kind, .string t.text, .int .u64 t.num, .int .i64 t.line, .int .i64 t.col] 60)), (w.heap.size, (.cells #[.string ⟨#[]⟩, .string ⟨#[]⟩, .int .u64 0, .int .i64 0, .int .i64 0, .slice none 0 0] 26))] []) := hid (by have h9 := (HS4.out.alloc (.cells #[.int .i64 t.kind, .string t.text, .int .u64 t.num, .int .i64 t.line, .int .i64 t.col] 60)).alloc (.cells #[.string ⟨#[]⟩, .string t.text, .int .u64 0, .int .i64 t.line, .int .i64 t.col, .slice none 0 0] 26); rw [World.size_alloc] at h9; exact h9)
 clear HS4
 refine cmo (take_calls c hc _ (ts) ⟨#[33]⟩ HS5.out.ps) ?_
 rintro e9 w3 ⟨rfl, hpt, hkt⟩
 rw [b0] at hpt ⊢
 have hpt2 : PS c w3 (ts) := hpt
 have HS6 := hid (HS5.out.call hkt hpt2)
 clear HS5
 clear hpt hkt hpt2
 go_wp2_with fail
 refine cmo (take_calls c hc _ (ts) ⟨#[126]⟩ HS6.out.ps) ?_
 rintro e9 w4 ⟨rfl, hpt, hkt⟩
 rw [b1] at hpt ⊢
 have hpt2 : PS c w4 (ts) := hpt
 have HS7 := hid (HS6.out.call hkt hpt2)
 clear HS6
 clear hpt hkt hpt2
 go_wp2_with fail
 refine cmo (take_calls c hc _ (ts) ⟨#[45]⟩ HS7.out.ps) ?_
 rintro e9 w5 ⟨rfl, hpt, hkt⟩
 rw [b2] at hpt ⊢
 have hpt2 : PS c w5 (ts.tail) := hpt
 have HS8 := hid (HS7.out.call hkt hpt2)
 clear HS7
 clear hpt hkt hpt2
 go_wp2_with fail
 have hzz : w2.heap.size + 2 ≤ w5.heap.size := lt_of_heap HS8.out.h0
 rcases bnd_some HB.out with ⟨l, k, er, he, rfl⟩ | ⟨n, ts2, he, hB9⟩
 ·
  refine cmo (IH.operand _ (d + 1) _ _ he HS8.out.ps (by omega) (by omega)) ?_
  rintro e9 w99 ⟨hkp, rfl⟩
  exact ⟨rfl, HS8.out.kp.trans hkp, rfl⟩
 ·
  have HB2 := hid hB9
  clear hB9
  refine cmo (IH.operand _ (d + 1) _ _ he HS8.out.ps (by omega) (by omega)) ?_
  clear he
  rintro e9 w6 ⟨hkp, hpt, An, capn, rfl, hR⟩
  have HS9 := hid (HS8.out.got hkp hpt (Nat.le_refl _) hR)
  clear HS8
  have hz6 := hkp.size_le
  try simp only [WZ] at hz6
  unfold nodeV
  clear hkp hpt hR HB
  obtain ⟨n0, n1, n2, n3, n4, n5, nf⟩ := cells6 HS9.out.h0
  obtain ⟨r0, r1, r2, r3, r4, r5, rf⟩ := cells6 HS9.out.h2
  go_wp2_with fail
  rw [(Option.some.inj HB2.out).symm]
  exact ret_sta hc (n := ⟨⟨#[117, 110, 97, 114, 121]⟩, t.text, 0, t.line, t.col, [n]⟩) (A := some ⟨w6.heap.size, 0, none⟩) (cap := 1) (base := w5.heap.size) Tryz.results134 (by rfl) (((((HS9.out.made1 (by omega)).set hc (by omega) (by simp <;> omega) 0 (.string ⟨#[117, 110, 97, 114, 121]⟩)).set hc (by omega) (by simp <;> omega) 5 (.slice (some ⟨w6.heap.size, 0, none⟩) 1 1)).drop).swap) (by omega) (by omega) (by simp <;> omega)
set_option maxRecDepth 20000 in
set_option maxHeartbeats 400000 in
theorem operand_num (c : PC) (hc : c.Ok) (g : Nat) (IH : ExprsOk c g) (w : World) (d : Int) (ts : List Tok) (r : PR Node) (t : Tok) (HT : Hid (nowT ts = t)) (hps : PS c w ts) (h0 : 0 ≤ d) (h60 : ¬ 60 < d) (b0 : isF ts ⟨#[33]⟩ = false) (b1 : isF ts ⟨#[126]⟩ = false) (b2 : isF ts ⟨#[45]⟩ = false) (b3 : (t.kind == 1) = true) (HB : Hid (some (PR.ok (leafN (⟨#[110, 117, 109]⟩) (nowT ts)) ts.tail) = some r)) : Calls Tryz.prog 134 #[.pointer (some ⟨c.p, 0, none⟩), .int .i64 d] w (PostN c w r) := by
 have hlt := hps.lt
 have HS1 := hid (Sta.start hps)
 clear hps
 go_enter Tryz.func134, Tryz.ntmps134
 have HS2 := hid (HS1.out.alloc (.cells #[.string ⟨#[]⟩, .string ⟨#[]⟩, .int .u64 0, .int .i64 0, .int .i64 0, .slice none 0 0] 26))
 clear HS1
 go_wp2_with fail
 refine cmo (deep_calls c hc _ ts d HS2.out.ps) ?_
 rintro e9 w1 ⟨hpt, hkt, hd⟩
 unfold deepF at hd
 rw [if_neg (by omega)] at hd
 subst hd
 have HS3 := hid (HS2.out.call hkt hpt)
 clear HS2
 have hz1 := hkt.size_le
 simp only [World.size_alloc] at hz1
 clear hkt hpt
 go_wp2_with fail
 refine cmo (now_gives c hc _ ts HS3.out.ps) ?_
 rintro e9 w2 ⟨rfl, hov⟩
 have HS4 := hid (HS3.out.isOv hov)
 clear HS3
 have hz2 := hov.size_le
 clear hov
 rw [HT.out, show t.val = .agg #[.int .i64 t.kind, .string t.text, .int .u64 t.num, .int .i64 t.line, .int .i64 t.col] from rfl]
 go_wp2_with fail
 have HS5 : Hid (Sta c w ((w2.alloc (.cells #[.int .i64 t.kind, .string t.text, .int .u64 t.num, .int .i64 t.line, .int .i64 t.col] 60)).alloc (.cells #[.string ⟨#[]⟩, .string t.text, .int .u64 0, .int .i64 t.line, .int .i64 t.col, .slice none 0 0] 26)) ts [(w2.heap.size + 1, (.cells #[.string ⟨#[]⟩, .string t.text, .int .u64 0, .int .i64 t.line, .int .i64 t.col, .slice none 0 0] 26)), (w2.heap.size, (.cells #[.int .i64 t.kind, .string t.text, .int .u64 t.num, .int .i64 t.line, .int .i64 t.col] 60)), (w.heap.size, (.cells #[.string ⟨#[]⟩, .string ⟨#[]⟩, .int .u64 0, .int .i64 0, .int .i64 0, .slice none 0 0] 26))] []) := hid (by have h9 := (HS4.out.alloc (.cells #[.int .i64 t.kind, .string t.text, .int .u64 t.num, .int .i64 t.line, .int .i64 t.col] 60)).alloc (.cells #[.string ⟨#[]⟩, .string t.text, .int .u64 0, .int .i64 t.line, .int .i64 t.col, .slice none 0 0] 26); rw [World.size_alloc] at h9; exact h9)
 clear HS4
 refine cmo (take_calls c hc _ (ts) ⟨#[33]⟩ HS5.out.ps) ?_
 rintro e9 w3 ⟨rfl, hpt, hkt⟩
 rw [b0] at hpt ⊢
 have hpt2 : PS c w3 (ts) := hpt
 have HS6 := hid (HS5.out.call hkt hpt2)
 clear HS5
 clear hpt hkt hpt2
 go_wp2_with fail
 refine cmo (take_calls c hc _ (ts) ⟨#[126]⟩ HS6.out.ps) ?_
 rintro e9 w4 ⟨rfl, hpt, hkt⟩
 rw [b1] at hpt ⊢
 have hpt2 : PS c w4 (ts) := hpt
 have HS7 := hid (HS6.out.call hkt hpt2)
 clear HS6
 clear hpt hkt hpt2
 go_wp2_with fail
 refine cmo (take_calls c hc _ (ts) ⟨#[45]⟩ HS7.out.ps) ?_
 rintro e9 w5 ⟨rfl, hpt, hkt⟩
 rw [b2] at hpt ⊢
 have hpt2 : PS c w5 (ts) := hpt
 have HS8 := hid (HS7.out.call hkt hpt2)
 clear HS7
 clear hpt hkt hpt2
 have hz5 : w2.heap.size + 2 ≤ w5.heap.size := lt_of_heap HS8.out.h0
 obtain ⟨n0, n1, n2, n3, n4, n5, nf⟩ := cells6 HS8.out.h0
 obtain ⟨t0, t1, t2, t3, t4, tf⟩ := cells5 HS8.out.h1
 obtain ⟨r0, r1, r2, r3, r4, r5, rf⟩ := cells6 HS8.out.h2
 go_wp2_with fail
 refine cmo (leaf_calls c hc _ (ts) (⟨#[110, 117, 109]⟩) HS8.out.ps (by rw [HT.out]; intro e; rw [e] at b3; simp at b3)) ?_
 rintro e9 w6 ⟨rfl, hpt, hkt⟩
 have HS9 := hid (HS8.out.call hkt hpt)
 clear HS8
 clear hpt hkt
 have hz6 : w2.heap.size + 2 ≤ w6.heap.size := lt_of_heap HS9.out.h0
 obtain ⟨n0, n1, n2, n3, n4, n5, nf⟩ := cells6 HS9.out.h0
 obtain ⟨t0, t1, t2, t3, t4, tf⟩ := cells5 HS9.out.h1
 obtain ⟨r0, r1, r2, r3, r4, r5, rf⟩ := cells6 HS9.out.h2
 go_wp2_with fail
 rw [(Option.some.inj HB.out).symm]
 exact ret_leaf hc (n := leafN (⟨#[110, 117, 109]⟩) (nowT ts)) Tryz.results134 (by rfl) (HS9.out.swap.drop.swap) (by omega) (leaf_kids _ _)
set_option maxRecDepth 20000 in
set_option maxHeartbeats 400000 in
theorem operand_true (c : PC) (hc : c.Ok) (g : Nat) (IH : ExprsOk c g) (w : World) (d : Int) (ts : List Tok) (r : PR Node) (t : Tok) (HT : Hid (nowT ts = t)) (hps : PS c w ts) (h0 : 0 ≤ d) (h60 : ¬ 60 < d) (b0 : isF ts ⟨#[33]⟩ = false) (b1 : isF ts ⟨#[126]⟩ = false) (b2 : isF ts ⟨#[45]⟩ = false) (b3 : (t.kind == 1) = false) (b4 : isF ts ⟨#[116, 114, 117, 101]⟩ = true) (HB : Hid (some (PR.ok (leafN (t.text) (nowT ts)) ts.tail) = some r)) : Calls Tryz.prog 134 #[.pointer (some ⟨c.p, 0, none⟩), .int .i64 d] w (PostN c w r) := by
 have hlt := hps.lt
 have HS1 := hid (Sta.start hps)
 clear hps
 go_enter Tryz.func134, Tryz.ntmps134
 have HS2 := hid (HS1.out.alloc (.cells #[.string ⟨#[]⟩, .string ⟨#[]⟩, .int .u64 0, .int .i64 0, .int .i64 0, .slice none 0 0] 26))
 clear HS1
 go_wp2_with fail
 refine cmo (deep_calls c hc _ ts d HS2.out.ps) ?_
 rintro e9 w1 ⟨hpt, hkt, hd⟩
 unfold deepF at hd
 rw [if_neg (by omega)] at hd
 subst hd
 have HS3 := hid (HS2.out.call hkt hpt)
 clear HS2
 have hz1 := hkt.size_le
 simp only [World.size_alloc] at hz1
 clear hkt hpt
 go_wp2_with fail
 refine cmo (now_gives c hc _ ts HS3.out.ps) ?_
 rintro e9 w2 ⟨rfl, hov⟩
 have HS4 := hid (HS3.out.isOv hov)
 clear HS3
 have hz2 := hov.size_le
 clear hov
 rw [HT.out, show t.val = .agg #[.int .i64 t.kind, .string t.text, .int .u64 t.num, .int .i64 t.line, .int .i64 t.col] from rfl]
 go_wp2_with fail
 have HS5 : Hid (Sta c w ((w2.alloc (.cells #[.int .i64 t.kind, .string t.text, .int .u64 t.num, .int .i64 t.line, .int .i64 t.col] 60)).alloc (.cells #[.string ⟨#[]⟩, .string t.text, .int .u64 0, .int .i64 t.line, .int .i64 t.col, .slice none 0 0] 26)) ts [(w2.heap.size + 1, (.cells #[.string ⟨#[]⟩, .string t.text, .int .u64 0, .int .i64 t.line, .int .i64 t.col, .slice none 0 0] 26)), (w2.heap.size, (.cells #[.int .i64 t.kind, .string t.text, .int .u64 t.num, .int .i64 t.line, .int .i64 t.col] 60)), (w.heap.size, (.cells #[.string ⟨#[]⟩, .string ⟨#[]⟩, .int .u64 0, .int .i64 0, .int .i64 0, .slice none 0 0] 26))] []) := hid (by have h9 := (HS4.out.alloc (.cells #[.int .i64 t.kind, .string t.text, .int .u64 t.num, .int .i64 t.line, .int .i64 t.col] 60)).alloc (.cells #[.string ⟨#[]⟩, .string t.text, .int .u64 0, .int .i64 t.line, .int .i64 t.col, .slice none 0 0] 26); rw [World.size_alloc] at h9; exact h9)
 clear HS4
 refine cmo (take_calls c hc _ (ts) ⟨#[33]⟩ HS5.out.ps) ?_
 rintro e9 w3 ⟨rfl, hpt, hkt⟩
 rw [b0] at hpt ⊢
 have hpt2 : PS c w3 (ts) := hpt
 have HS6 := hid (HS5.out.call hkt hpt2)
 clear HS5
 clear hpt hkt hpt2
 go_wp2_with fail
 refine cmo (take_calls c hc _ (ts) ⟨#[126]⟩ HS6.out.ps) ?_
 rintro e9 w4 ⟨rfl, hpt, hkt⟩
 rw [b1] at hpt ⊢
 have hpt2 : PS c w4 (ts) := hpt
 have HS7 := hid (HS6.out.call hkt hpt2)
 clear HS6
 clear hpt hkt hpt2
 go_wp2_with fail
 refine cmo (take_calls c hc _ (ts) ⟨#[45]⟩ HS7.out.ps) ?_
 rintro e9 w5 ⟨rfl, hpt, hkt⟩
 rw [b2] at hpt ⊢
 have hpt2 : PS c w5 (ts) := hpt
 have HS8 := hid (HS7.out.call hkt hpt2)
 clear HS7
 clear hpt hkt hpt2
 have hz5 : w2.heap.size + 2 ≤ w5.heap.size := lt_of_heap HS8.out.h0
 obtain ⟨n0, n1, n2, n3, n4, n5, nf⟩ := cells6 HS8.out.h0
 obtain ⟨t0, t1, t2, t3, t4, tf⟩ := cells5 HS8.out.h1
 obtain ⟨r0, r1, r2, r3, r4, r5, rf⟩ := cells6 HS8.out.h2
 go_wp2_with fail
 refine cmo (is_gives c hc _ (ts) ⟨#[116, 114, 117, 101]⟩ HS8.out.ps) ?_
 rintro e9 w6 ⟨rfl, hov⟩
 rw [b4]
 have HS9 := hid (HS8.out.isOv hov)
 clear HS8
 clear hov
 have hz6 : w2.heap.size + 2 ≤ w6.heap.size := lt_of_heap HS9.out.h0
 obtain ⟨n0, n1, n2, n3, n4, n5, nf⟩ := cells6 HS9.out.h0
 obtain ⟨t0, t1, t2, t3, t4, tf⟩ := cells5 HS9.out.h1
 obtain ⟨r0, r1, r2, r3, r4, r5, rf⟩ := cells6 HS9.out.h2
 go_wp2_with fail
 refine cmo (leaf_calls c hc _ (ts) (t.text) HS9.out.ps (isF_kind b4)) ?_
 rintro e9 w7 ⟨rfl, hpt, hkt⟩
 have HS10 := hid (HS9.out.call hkt hpt)
 clear HS9
 clear hpt hkt
 have hz7 : w2.heap.size + 2 ≤ w7.heap.size := lt_of_heap HS10.out.h0
 obtain ⟨n0, n1, n2, n3, n4, n5, nf⟩ := cells6 HS10.out.h0
 obtain ⟨t0, t1, t2, t3, t4, tf⟩ := cells5 HS10.out.h1
 obtain ⟨r0, r1, r2, r3, r4, r5, rf⟩ := cells6 HS10.out.h2
 go_wp2_with fail
 rw [(Option.some.inj HB.out).symm]
 exact ret_leaf hc (n := leafN (t.text) (nowT ts)) Tryz.results134 (by rfl) (HS10.out.swap.drop.swap) (by omega) (leaf_kids _ _)
set_option maxRecDepth 20000 in
set_option maxHeartbeats 400000 in
theorem operand_false (c : PC) (hc : c.Ok) (g : Nat) (IH : ExprsOk c g) (w : World) (d : Int) (ts : List Tok) (r : PR Node) (t : Tok) (HT : Hid (nowT ts = t)) (hps : PS c w ts) (h0 : 0 ≤ d) (h60 : ¬ 60 < d) (b0 : isF ts ⟨#[33]⟩ = false) (b1 : isF ts ⟨#[126]⟩ = false) (b2 : isF ts ⟨#[45]⟩ = false) (b3 : (t.kind == 1) = false) (b4 : isF ts ⟨#[116, 114, 117, 101]⟩ = false) (b5 : isF ts ⟨#[102, 97, 108, 115, 101]⟩ = true) (HB : Hid (some (PR.ok (leafN (t.text) (nowT ts)) ts.tail) = some r)) : Calls Tryz.prog 134 #[.pointer (some ⟨c.p, 0, none⟩), .int .i64 d] w (PostN c w r) := by
 have hlt := hps.lt
 have HS1 := hid (Sta.start hps)
 clear hps
 go_enter Tryz.func134, Tryz.ntmps134
 have HS2 := hid (HS1.out.alloc (.cells #[.string ⟨#[]⟩, .string ⟨#[]⟩, .int .u64 0, .int .i64 0, .int .i64 0, .slice none 0 0] 26))
 clear HS1
 go_wp2_with fail
 refine cmo (deep_calls c hc _ ts d HS2.out.ps) ?_
 rintro e9 w1 ⟨hpt, hkt, hd⟩
 unfold deepF at hd
 rw [if_neg (by omega)] at hd
 subst hd
 have HS3 := hid (HS2.out.call hkt hpt)
 clear HS2
 have hz1 := hkt.size_le
 simp only [World.size_alloc] at hz1
 clear hkt hpt
 go_wp2_with fail
 refine cmo (now_gives c hc _ ts HS3.out.ps) ?_
 rintro e9 w2 ⟨rfl, hov⟩
 have HS4 := hid (HS3.out.isOv hov)
 clear HS3
 have hz2 := hov.size_le
 clear hov
 rw [HT.out, show t.val = .agg #[.int .i64 t.kind, .string t.text, .int .u64 t.num, .int .i64 t.line, .int .i64 t.col] from rfl]
 go_wp2_with fail
 have HS5 : Hid (Sta c w ((w2.alloc (.cells #[.int .i64 t.kind, .string t.text, .int .u64 t.num, .int .i64 t.line, .int .i64 t.col] 60)).alloc (.cells #[.string ⟨#[]⟩, .string t.text, .int .u64 0, .int .i64 t.line, .int .i64 t.col, .slice none 0 0] 26)) ts [(w2.heap.size + 1, (.cells #[.string ⟨#[]⟩, .string t.text, .int .u64 0, .int .i64 t.line, .int .i64 t.col, .slice none 0 0] 26)), (w2.heap.size, (.cells #[.int .i64 t.kind, .string t.text, .int .u64 t.num, .int .i64 t.line, .int .i64 t.col] 60)), (w.heap.size, (.cells #[.string ⟨#[]⟩, .string ⟨#[]⟩, .int .u64 0, .int .i64 0, .int .i64 0, .slice none 0 0] 26))] []) := hid (by have h9 := (HS4.out.alloc (.cells #[.int .i64 t.kind, .string t.text, .int .u64 t.num, .int .i64 t.line, .int .i64 t.col] 60)).alloc (.cells #[.string ⟨#[]⟩, .string t.text, .int .u64 0, .int .i64 t.line, .int .i64 t.col, .slice none 0 0] 26); rw [World.size_alloc] at h9; exact h9)
 clear HS4
 refine cmo (take_calls c hc _ (ts) ⟨#[33]⟩ HS5.out.ps) ?_
 rintro e9 w3 ⟨rfl, hpt, hkt⟩
 rw [b0] at hpt ⊢
 have hpt2 : PS c w3 (ts) := hpt
 have HS6 := hid (HS5.out.call hkt hpt2)
 clear HS5
 clear hpt hkt hpt2
 go_wp2_with fail
 refine cmo (take_calls c hc _ (ts) ⟨#[126]⟩ HS6.out.ps) ?_
 rintro e9 w4 ⟨rfl, hpt, hkt⟩
 rw [b1] at hpt ⊢
 have hpt2 : PS c w4 (ts) := hpt
 have HS7 := hid (HS6.out.call hkt hpt2)
 clear HS6
 clear hpt hkt hpt2
 go_wp2_with fail
 refine cmo (take_calls c hc _ (ts) ⟨#[45]⟩ HS7.out.ps) ?_
 rintro e9 w5 ⟨rfl, hpt, hkt⟩
 rw [b2] at hpt ⊢
 have hpt2 : PS c w5 (ts) := hpt
 have HS8 := hid (HS7.out.call hkt hpt2)
 clear HS7
 clear hpt hkt hpt2
 have hz5 : w2.heap.size + 2 ≤ w5.heap.size := lt_of_heap HS8.out.h0
 obtain ⟨n0, n1, n2, n3, n4, n5, nf⟩ := cells6 HS8.out.h0
 obtain ⟨t0, t1, t2, t3, t4, tf⟩ := cells5 HS8.out.h1
 obtain ⟨r0, r1, r2, r3, r4, r5, rf⟩ := cells6 HS8.out.h2
 go_wp2_with fail
 refine cmo (is_gives c hc _ (ts) ⟨#[116, 114, 117, 101]⟩ HS8.out.ps) ?_
 rintro e9 w6 ⟨rfl, hov⟩
 rw [b4]
 have HS9 := hid (HS8.out.isOv hov)
 clear HS8
 clear hov
 have hz6 : w2.heap.size + 2 ≤ w6.heap.size := lt_of_heap HS9.out.h0
 obtain ⟨n0, n1, n2, n3, n4, n5, nf⟩ := cells6 HS9.out.h0
 obtain ⟨t0, t1, t2, t3, t4, tf⟩ := cells5 HS9.out.h1
 obtain ⟨r0, r1, r2, r3, r4, r5, rf⟩ := cells6 HS9.out.h2
 go_wp2_with fail
 refine cmo (is_gives c hc _ (ts) ⟨#[102, 97, 108, 115, 101]⟩ HS9.out.ps) ?_
 rintro e9 w7 ⟨rfl, hov⟩
 rw [b5]
 have HS10 := hid (HS9.out.isOv hov)
 clear HS9
 clear hov
 have hz7 : w2.heap.size + 2 ≤ w7.heap.size := lt_of_heap HS10.out.h0
 obtain ⟨n0, n1, n2, n3, n4, n5, nf⟩ := cells6 HS10.out.h0
 obtain ⟨t0, t1, t2, t3, t4, tf⟩ := cells5 HS10.out.h1
 obtain ⟨r0, r1, r2, r3, r4, r5, rf⟩ := cells6 HS10.out.h2
 go_wp2_with fail
 refine cmo (leaf_calls c hc _ (ts) (t.text) HS10.out.ps (isF_kind b5)) ?_
 rintro e9 w8 ⟨rfl, hpt, hkt⟩
 have HS11 := hid (HS10.out.call hkt hpt)
 clear HS10
 clear hpt hkt
 have hz8 : w2.heap.size + 2 ≤ w8.heap.size := lt_of_heap HS11.out.h0
 obtain ⟨n0, n1, n2, n3, n4, n5, nf⟩ := cells6 HS11.out.h0
 obtain ⟨t0, t1, t2, t3, t4, tf⟩ := cells5 HS11.out.h1
 obtain ⟨r0, r1, r2, r3, r4, r5, rf⟩ := cells6 HS11.out.h2
 go_wp2_with fail
 rw [(Option.some.inj HB.out).symm]
 exact ret_leaf hc (n := leafN (t.text) (nowT ts)) Tryz.results134 (by rfl) (HS11.out.swap.drop.swap) (by omega) (leaf_kids _ _)
set_option maxRecDepth 20000 in
set_option maxHeartbeats 400000 in
theorem operand_named (c : PC) (hc : c.Ok) (g : Nat) (IH : ExprsOk c g) (w : World) (d : Int) (ts : List Tok) (r : PR Node) (t : Tok) (HT : Hid (nowT ts = t)) (hps : PS c w ts) (h0 : 0 ≤ d) (h60 : ¬ 60 < d) (b0 : isF ts ⟨#[33]⟩ = false) (b1 : isF ts ⟨#[126]⟩ = false) (b2 : isF ts ⟨#[45]⟩ = false) (b3 : (t.kind == 1) = false) (b4 : isF ts ⟨#[116, 114, 117, 101]⟩ = false) (b5 : isF ts ⟨#[102, 97, 108, 115, 101]⟩ = false) (b6 : namedF ts = true) (HB : Hid (indexF g (leafN ⟨#[110, 97, 109, 101]⟩ (nowT ts)) d ts.tail = some r)) : Calls Tryz.prog 134 #[.pointer (some ⟨c.p, 0, none⟩), .int .i64 d] w (PostN c w r) := by
 have hlt := hps.lt
 have HS1 := hid (Sta.start hps)
 clear hps
 go_enter Tryz.func134, Tryz.ntmps134
 have HS2 := hid (HS1.out.alloc (.cells #[.string ⟨#[]⟩, .string ⟨#[]⟩, .int .u64 0, .int .i64 0, .int .i64 0, .slice none 0 0] 26))
 clear HS1
 go_wp2_with fail
 refine cmo (deep_calls c hc _ ts d HS2.out.ps) ?_
 rintro e9 w1 ⟨hpt, hkt, hd⟩
 unfold deepF at hd
 rw [if_neg (by omega)] at hd
 subst hd
 have HS3 := hid (HS2.out.call hkt hpt)
 clear HS2
 have hz1 := hkt.size_le
 simp only [World.size_alloc] at hz1
 clear hkt hpt
 go_wp2_with fail
 refine cmo (now_gives c hc _ ts HS3.out.ps) ?_
 rintro e9 w2 ⟨rfl, hov⟩
 have HS4 := hid (HS3.out.isOv hov)
 clear HS3
 have hz2 := hov.size_le
 clear hov
 rw [HT.out, show t.val = .agg #[.int .i64 t.kind, .string t.text, .int .u64 t.num, .int .i64 t.line, .int .i64 t.col] from rfl]
 go_wp2_with fail
 have HS5 : Hid (Sta c w ((w2.alloc (.cells #[.int .i64 t.kind, .string t.text, .int .u64 t.num, .int .i64 t.line, .int .i64 t.col] 60)).alloc (.cells #[.string ⟨#[]⟩, .string t.text, .int .u64 0, .int .i64 t.line, .int .i64 t.col, .slice none 0 0] 26)) ts [(w2.heap.size + 1, (.cells #[.string ⟨#[]⟩, .string t.text, .int .u64 0, .int .i64 t.line, .int .i64 t.col, .slice none 0 0] 26)), (w2.heap.size, (.cells #[.int .i64 t.kind, .string t.text, .int .u64 t.num, .int .i64 t.line, .int .i64 t.col] 60)), (w.heap.size, (.cells #[.string ⟨#[]⟩, .string ⟨#[]⟩, .int .u64 0, .int .i64 0, .int .i64 0, .slice none 0 0] 26))] []) := hid (by have h9 := (HS4.out.alloc (.cells #[.int .i64 t.kind, .string t.text, .int .u64 t.num, .int .i64 t.line, .int .i64 t.col] 60)).alloc (.cells #[.string ⟨#[]⟩, .string t.text, .int .u64 0, .int .i64 t.line, .int .i64 t.col, .slice none 0 0] 26); rw [World.size_alloc] at h9; exact h9)
 clear HS4
 refine cmo (take_calls c hc _ (ts) ⟨#[33]⟩ HS5.out.ps) ?_
 rintro e9 w3 ⟨rfl, hpt, hkt⟩
 rw [b0] at hpt ⊢
 have hpt2 : PS c w3 (ts) := hpt
 have HS6 := hid (HS5.out.call hkt hpt2)
 clear HS5
 clear hpt hkt hpt2
 go_wp2_with fail
 refine cmo (take_calls c hc _ (ts) ⟨#[126]⟩ HS6.out.ps) ?_
 rintro e9 w4 ⟨rfl, hpt, hkt⟩
 rw [b1] at hpt ⊢
 have hpt2 : PS c w4 (ts) := hpt
 have HS7 := hid (HS6.out.call hkt hpt2)
 clear HS6
 clear hpt hkt hpt2
 go_wp2_with fail
 refine cmo (take_calls c hc _ (ts) ⟨#[45]⟩ HS7.out.ps) ?_
 rintro e9 w5 ⟨rfl, hpt, hkt⟩
 rw [b2] at hpt ⊢
 have hpt2 : PS c w5 (ts) := hpt
 have HS8 := hid (HS7.out.call hkt hpt2)
 clear HS7
 clear hpt hkt hpt2
 have hz5 : w2.heap.size + 2 ≤ w5.heap.size := lt_of_heap HS8.out.h0
 obtain ⟨n0, n1, n2, n3, n4, n5, nf⟩ := cells6 HS8.out.h0
 obtain ⟨t0, t1, t2, t3, t4, tf⟩ := cells5 HS8.out.h1
 obtain ⟨r0, r1, r2, r3, r4, r5, rf⟩ := cells6 HS8.out.h2
 go_wp2_with fail
 refine cmo (is_gives c hc _ (ts) ⟨#[116, 114, 117, 101]⟩ HS8.out.ps) ?_
 rintro e9 w6 ⟨rfl, hov⟩
 rw [b4]
 have HS9 := hid (HS8.out.isOv hov)
 clear HS8
 clear hov
 have hz6 : w2.heap.size + 2 ≤ w6.heap.size := lt_of_heap HS9.out.h0
 obtain ⟨n0, n1, n2, n3, n4, n5, nf⟩ := cells6 HS9.out.h0
 obtain ⟨t0, t1, t2, t3, t4, tf⟩ := cells5 HS9.out.h1
 obtain ⟨r0, r1, r2, r3, r4, r5, rf⟩ := cells6 HS9.out.h2
 go_wp2_with fail
 refine cmo (is_gives c hc _ (ts) ⟨#[102, 97, 108, 115, 101]⟩ HS9.out.ps) ?_
 rintro e9 w7 ⟨rfl, hov⟩
 rw [b5]
 have HS10 := hid (HS9.out.isOv hov)
 clear HS9
 clear hov
 have hz7 : w2.heap.size + 2 ≤ w7.heap.size := lt_of_heap HS10.out.h0
 obtain ⟨n0, n1, n2, n3, n4, n5, nf⟩ := cells6 HS10.out.h0
 obtain ⟨t0, t1, t2, t3, t4, tf⟩ := cells5 HS10.out.h1
 obtain ⟨r0, r1, r2, r3, r4, r5, rf⟩ := cells6 HS10.out.h2
 go_wp2_with fail
 refine cmo (named_gives c hc _ (ts) HS10.out.ps) ?_
 rintro e9 w8 ⟨rfl, hov⟩
 rw [b6]
 have HS11 := hid (HS10.out.isOv hov)
 clear HS10
 clear hov
 have hz8 : w2.heap.size + 2 ≤ w8.heap.size := lt_of_heap HS11.out.h0
 obtain ⟨n0, n1, n2, n3, n4, n5, nf⟩ := cells6 HS11.out.h0
 obtain ⟨t0, t1, t2, t3, t4, tf⟩ := cells5 HS11.out.h1
 obtain ⟨r0, r1, r2, r3, r4, r5, rf⟩ := cells6 HS11.out.h2
 go_wp2_with fail
 refine cmo (name_calls c hc _ ts HS11.out.ps) ?_
 rintro e9 w9 ⟨hkt, hpt⟩
 rw [show nameF ts = PR.ok (leafN ⟨#[110, 97, 109, 101]⟩ (nowT ts)) ts.tail from by unfold nameF; rw [if_pos b6]] at hpt
 obtain ⟨rfl, hlk, hpt⟩ := hpt
 have HS12 := hid (HS11.out.call hkt hpt)
 clear HS11
 clear hkt hpt
 have hz9 : w2.heap.size + 2 ≤ w9.heap.size := lt_of_heap HS12.out.h0
 go_wp2_with fail
 refine cmo (IH.index _ _ d _ r HB.out HS12.out.ps h0 (by omega) hlk) ?_
 rintro e9 w10 ⟨hkp, hp⟩
 cases r with
 | bad l k er =>
  subst hp
  exact ⟨rfl, HS12.out.kp.trans hkp, rfl⟩
 | ok n tsr =>
  obtain ⟨hpt, A, cap, rfl, hR⟩ := hp
  have HS13 := hid (HS12.out.got hkp hpt (Nat.le_refl _) hR)
  clear HS12
  clear hkp hpt hR HB
  have hz10 : w2.heap.size + 2 ≤ w10.heap.size := lt_of_heap HS13.out.h0
  unfold nodeV
  obtain ⟨n0, n1, n2, n3, n4, n5, nf⟩ := cells6 HS13.out.h0
  obtain ⟨t0, t1, t2, t3, t4, tf⟩ := cells5 HS13.out.h1
  obtain ⟨r0, r1, r2, r3, r4, r5, rf⟩ := cells6 HS13.out.h2
  go_wp2_with fail
  exact ret_sta hc (n := n) (A := A) (cap := cap) (base := w9.heap.size) Tryz.results134 (by rfl) (HS13.out.swap.drop.swap) (by omega) (by omega) (by simp <;> omega)
set_option maxRecDepth 20000 in
set_option maxHeartbeats 400000 in
theorem operand_none (c : PC) (hc : c.Ok) (g : Nat) (IH : ExprsOk c g) (w : World) (d : Int) (ts : List Tok) (r : PR Node) (t : Tok) (HT : Hid (nowT ts = t)) (hps : PS c w ts) (h0 : 0 ≤ d) (h60 : ¬ 60 < d) (b0 : isF ts ⟨#[33]⟩ = false) (b1 : isF ts ⟨#[126]⟩ = false) (b2 : isF ts ⟨#[45]⟩ = false) (b3 : (t.kind == 1) = false) (b4 : isF ts ⟨#[116, 114, 117, 101]⟩ = false) (b5 : isF ts ⟨#[102, 97, 108, 115, 101]⟩ = false) (b6 : namedF ts = false) (b7 : isF ts ⟨#[40]⟩ = false) (HB : Hid (some (badAt ts 30) = some r)) : Calls Tryz.prog 134 #[.pointer (some ⟨c.p, 0, none⟩), .int .i64 d] w (PostN c w r) := by
 have hlt := hps.lt
 have HS1 := hid (Sta.start hps)
 clear hps
 go_enter Tryz.func134, Tryz.ntmps134
 have HS2 := hid (HS1.out.alloc (.cells #[.string ⟨#[]⟩, .string ⟨#[]⟩, .int .u64 0, .int .i64 0, .int .i64 0, .slice none 0 0] 26))
 clear HS1
 go_wp2_with fail
 refine cmo (deep_calls c hc _ ts d HS2.out.ps) ?_
 rintro e9 w1 ⟨hpt, hkt, hd⟩
 unfold deepF at hd
 rw [if_neg (by omega)] at hd
 subst hd
 have HS3 := hid (HS2.out.call hkt hpt)
 clear HS2
 have hz1 := hkt.size_le
 simp only [World.size_alloc] at hz1
 clear hkt hpt
 go_wp2_with fail
 refine cmo (now_gives c hc _ ts HS3.out.ps) ?_
 rintro e9 w2 ⟨rfl, hov⟩
 have HS4 := hid (HS3.out.isOv hov)
 clear HS3
 have hz2 := hov.size_le
 clear hov
 rw [HT.out, show t.val = .agg #[.int .i64 t.kind, .string t.text, .int .u64 t.num, .int .i64 t.line, .int .i64 t.col] from rfl]
 go_wp2_with fail
 have HS5 : Hid (Sta c w ((w2.alloc (.cells #[.int .i64 t.kind, .string t.text, .int .u64 t.num, .int .i64 t.line, .int .i64 t.col] 60)).alloc (.cells #[.string ⟨#[]⟩, .string t.text, .int .u64 0, .int .i64 t.line, .int .i64 t.col, .slice none 0 0] 26)) ts [(w2.heap.size + 1, (.cells #[.string ⟨#[]⟩, .string t.text, .int .u64 0, .int .i64 t.line, .int .i64 t.col, .slice none 0 0] 26)), (w2.heap.size, (.cells #[.int .i64 t.kind, .string t.text, .int .u64 t.num, .int .i64 t.line, .int .i64 t.col] 60)), (w.heap.size, (.cells #[.string ⟨#[]⟩, .string ⟨#[]⟩, .int .u64 0, .int .i64 0, .int .i64 0, .slice none 0 0] 26))] []) := hid (by have h9 := (HS4.out.alloc (.cells #[.int .i64 t.kind, .string t.text, .int .u64 t.num, .int .i64 t.line, .int .i64 t.col] 60)).alloc (.cells #[.string ⟨#[]⟩, .string t.text, .int .u64 0, .int .i64 t.line, .int .i64 t.col, .slice none 0 0] 26); rw [World.size_alloc] at h9; exact h9)
 clear HS4
 refine cmo (take_calls c hc _ (ts) ⟨#[33]⟩ HS5.out.ps) ?_
 rintro e9 w3 ⟨rfl, hpt, hkt⟩
 rw [b0] at hpt ⊢
 have hpt2 : PS c w3 (ts) := hpt
 have HS6 := hid (HS5.out.call hkt hpt2)
 clear HS5
 clear hpt hkt hpt2
 go_wp2_with fail
 refine cmo (take_calls c hc _ (ts) ⟨#[126]⟩ HS6.out.ps) ?_
 rintro e9 w4 ⟨rfl, hpt, hkt⟩
 rw [b1] at hpt ⊢
 have hpt2 : PS c w4 (ts) := hpt
 have HS7 := hid (HS6.out.call hkt hpt2)
 clear HS6
 clear hpt hkt hpt2
 go_wp2_with fail
 refine cmo (take_calls c hc _ (ts) ⟨#[45]⟩ HS7.out.ps) ?_
 rintro e9 w5 ⟨rfl, hpt, hkt⟩
 rw [b2] at hpt ⊢
 have hpt2 : PS c w5 (ts) := hpt
 have HS8 := hid (HS7.out.call hkt hpt2)
 clear HS7
 clear hpt hkt hpt2
 have hz5 : w2.heap.size + 2 ≤ w5.heap.size := lt_of_heap HS8.out.h0
 obtain ⟨n0, n1, n2, n3, n4, n5, nf⟩ := cells6 HS8.out.h0
 obtain ⟨t0, t1, t2, t3, t4, tf⟩ := cells5 HS8.out.h1
 obtain ⟨r0, r1, r2, r3, r4, r5, rf⟩ := cells6 HS8.out.h2
 go_wp2_with fail
 refine cmo (is_gives c hc _ (ts) ⟨#[116, 114, 117, 101]⟩ HS8.out.ps) ?_
 rintro e9 w6 ⟨rfl, hov⟩
 rw [b4]
 have HS9 := hid (HS8.out.isOv hov)
 clear HS8
 clear hov
 have hz6 : w2.heap.size + 2 ≤ w6.heap.size := lt_of_heap HS9.out.h0
 obtain ⟨n0, n1, n2, n3, n4, n5, nf⟩ := cells6 HS9.out.h0
 obtain ⟨t0, t1, t2, t3, t4, tf⟩ := cells5 HS9.out.h1
 obtain ⟨r0, r1, r2, r3, r4, r5, rf⟩ := cells6 HS9.out.h2
 go_wp2_with fail
 refine cmo (is_gives c hc _ (ts) ⟨#[102, 97, 108, 115, 101]⟩ HS9.out.ps) ?_
 rintro e9 w7 ⟨rfl, hov⟩
 rw [b5]
 have HS10 := hid (HS9.out.isOv hov)
 clear HS9
 clear hov
 have hz7 : w2.heap.size + 2 ≤ w7.heap.size := lt_of_heap HS10.out.h0
 obtain ⟨n0, n1, n2, n3, n4, n5, nf⟩ := cells6 HS10.out.h0
 obtain ⟨t0, t1, t2, t3, t4, tf⟩ := cells5 HS10.out.h1
 obtain ⟨r0, r1, r2, r3, r4, r5, rf⟩ := cells6 HS10.out.h2
 go_wp2_with fail
 refine cmo (named_gives c hc _ (ts) HS10.out.ps) ?_
 rintro e9 w8 ⟨rfl, hov⟩
 rw [b6]
 have HS11 := hid (HS10.out.isOv hov)
 clear HS10
 clear hov
 have hz8 : w2.heap.size + 2 ≤ w8.heap.size := lt_of_heap HS11.out.h0
 obtain ⟨n0, n1, n2, n3, n4, n5, nf⟩ := cells6 HS11.out.h0
 obtain ⟨t0, t1, t2, t3, t4, tf⟩ := cells5 HS11.out.h1
 obtain ⟨r0, r1, r2, r3, r4, r5, rf⟩ := cells6 HS11.out.h2
 go_wp2_with fail
 refine cmo (take_calls c hc _ (ts) ⟨#[40]⟩ HS11.out.ps) ?_
 rintro e9 w9 ⟨rfl, hpt, hkt⟩
 rw [b7] at hpt ⊢
 have hpt2 : PS c w9 (ts) := hpt
 have HS12 := hid (HS11.out.call hkt hpt2)
 clear HS11
 clear hpt hkt hpt2
 have hz9 : w2.heap.size + 2 ≤ w9.heap.size := lt_of_heap HS12.out.h0
 obtain ⟨n0, n1, n2, n3, n4, n5, nf⟩ := cells6 HS12.out.h0
 obtain ⟨t0, t1, t2, t3, t4, tf⟩ := cells5 HS12.out.h1
 obtain ⟨r0, r1, r2, r3, r4, r5, rf⟩ := cells6 HS12.out.h2
 go_wp2_with fail
 refine cmo (give_calls c hc _ ts 30 HS12.out.ps) ?_
 rintro e9 w99 ⟨rfl, hpt, hkp⟩
 rw [(Option.some.inj HB.out).symm]
 exact ⟨rfl, HS12.out.kp.trans hkp, rfl⟩
end Go.Proofs.YtdimhoilfopndaaGreatDoor
end
section
namespace Go.Proofs.YtdimhoilfopndaaGreatDoor
open Go.RowKit Go.Proofs.YtdimhoilfopndaaGreatDoorW.PrintWords
theorem field_text (n : Node) : ∀ (v : Value) (W : World), (Instr.field 26 (.agg #[.string n.kind, .string n.text, .int .u64 n.num, .int .i64 n.line, .int .i64 n.col, v]) 1).run Tryz.prog W = .ok (.string n.text) W := fun _ _ => by kernel_rfl
set_option maxRecDepth 20000 in
set_option maxHeartbeats 400000 in
theorem operand_paren (c : PC) (hc : c.Ok) (g : Nat) (IH : ExprsOk c g) (w : World) (d : Int) (ts : List Tok) (r : PR Node) (t : Tok) (HT : Hid (nowT ts = t)) (hps : PS c w ts) (h0 : 0 ≤ d) (h60 : ¬ 60 < d) (b0 : isF ts ⟨#[33]⟩ = false) (b1 : isF ts ⟨#[126]⟩ = false) (b2 : isF ts ⟨#[45]⟩ = false) (b3 : (t.kind == 1) = false) (b4 : isF ts ⟨#[116, 114, 117, 101]⟩ = false) (b5 : isF ts ⟨#[102, 97, 108, 115, 101]⟩ = false) (b6 : namedF ts = false) (b7 : isF ts ⟨#[40]⟩ = true) (b8 : isTypeF ts.tail = false) (HB : Hid (bnd (exprF g (d + 1) ts.tail) (fun k r => bnd (some (needF r ⟨#[41]⟩)) fun _ r2 => some (.ok k r2)) = some r)) : Calls Tryz.prog 134 #[.pointer (some ⟨c.p, 0, none⟩), .int .i64 d] w (PostN c w r) := by
 have hlt := hps.lt
 have HS1 := hid (Sta.start hps)
 clear hps
 go_enter Tryz.func134, Tryz.ntmps134
 have HS2 := hid (HS1.out.alloc (.cells #[.string ⟨#[]⟩, .string ⟨#[]⟩, .int .u64 0, .int .i64 0, .int .i64 0, .slice none 0 0] 26))
 clear HS1
 go_wp2_with fail
 refine cmo (deep_calls c hc _ ts d HS2.out.ps) ?_
 rintro e9 w1 ⟨hpt, hkt, hd⟩
 unfold deepF at hd
 rw [if_neg (by omega)] at hd
 subst hd
 have HS3 := hid (HS2.out.call hkt hpt)
 clear HS2
 have hz1 := hkt.size_le
 simp only [World.size_alloc] at hz1
 clear hkt hpt
 go_wp2_with fail
 refine cmo (now_gives c hc _ ts HS3.out.ps) ?_
 rintro e9 w2 ⟨rfl, hov⟩
 have HS4 := hid (HS3.out.isOv hov)
 clear HS3
 have hz2 := hov.size_le
 clear hov
 rw [HT.out, show t.val = .agg #[.int .i64 t.kind, .string t.text, .int .u64 t.num, .int .i64 t.line, .int .i64 t.col] from rfl]
 go_wp2_with fail
 have HS5 : Hid (Sta c w ((w2.alloc (.cells #[.int .i64 t.kind, .string t.text, .int .u64 t.num, .int .i64 t.line, .int .i64 t.col] 60)).alloc (.cells #[.string ⟨#[]⟩, .string t.text, .int .u64 0, .int .i64 t.line, .int .i64 t.col, .slice none 0 0] 26)) ts [(w2.heap.size + 1, (.cells #[.string ⟨#[]⟩, .string t.text, .int .u64 0, .int .i64 t.line, .int .i64 t.col, .slice none 0 0] 26)), (w2.heap.size, (.cells #[.int .i64 t.kind, .string t.text, .int .u64 t.num, .int .i64 t.line, .int .i64 t.col] 60)), (w.heap.size, (.cells #[.string ⟨#[]⟩, .string ⟨#[]⟩, .int .u64 0, .int .i64 0, .int .i64 0, .slice none 0 0] 26))] []) := hid (by have h9 := (HS4.out.alloc (.cells #[.int .i64 t.kind, .string t.text, .int .u64 t.num, .int .i64 t.line, .int .i64 t.col] 60)).alloc (.cells #[.string ⟨#[]⟩, .string t.text, .int .u64 0, .int .i64 t.line, .int .i64 t.col, .slice none 0 0] 26); rw [World.size_alloc] at h9; exact h9)
 clear HS4
 refine cmo (take_calls c hc _ (ts) ⟨#[33]⟩ HS5.out.ps) ?_
 rintro e9 w3 ⟨rfl, hpt, hkt⟩
 rw [b0] at hpt ⊢
 have hpt2 : PS c w3 (ts) := hpt
 have HS6 := hid (HS5.out.call hkt hpt2)
 clear HS5
 clear hpt hkt hpt2
 go_wp2_with fail
 refine cmo (take_calls c hc _ (ts) ⟨#[126]⟩ HS6.out.ps) ?_
 rintro e9 w4 ⟨rfl, hpt, hkt⟩
 rw [b1] at hpt ⊢
 have hpt2 : PS c w4 (ts) := hpt
 have HS7 := hid (HS6.out.call hkt hpt2)
 clear HS6
 clear hpt hkt hpt2
 go_wp2_with fail
 refine cmo (take_calls c hc _ (ts) ⟨#[45]⟩ HS7.out.ps) ?_
 rintro e9 w5 ⟨rfl, hpt, hkt⟩
 rw [b2] at hpt ⊢
 have hpt2 : PS c w5 (ts) := hpt
 have HS8 := hid (HS7.out.call hkt hpt2)
 clear HS7
 clear hpt hkt hpt2
 have hz5 : w2.heap.size + 2 ≤ w5.heap.size := lt_of_heap HS8.out.h0
 obtain ⟨n0, n1, n2, n3, n4, n5, nf⟩ := cells6 HS8.out.h0
 obtain ⟨t0, t1, t2, t3, t4, tf⟩ := cells5 HS8.out.h1
 obtain ⟨r0, r1, r2, r3, r4, r5, rf⟩ := cells6 HS8.out.h2
 go_wp2_with fail
 refine cmo (is_gives c hc _ (ts) ⟨#[116, 114, 117, 101]⟩ HS8.out.ps) ?_
 rintro e9 w6 ⟨rfl, hov⟩
 rw [b4]
 have HS9 := hid (HS8.out.isOv hov)
 clear HS8
 clear hov
 have hz6 : w2.heap.size + 2 ≤ w6.heap.size := lt_of_heap HS9.out.h0
 obtain ⟨n0, n1, n2, n3, n4, n5, nf⟩ := cells6 HS9.out.h0
 obtain ⟨t0, t1, t2, t3, t4, tf⟩ := cells5 HS9.out.h1
 obtain ⟨r0, r1, r2, r3, r4, r5, rf⟩ := cells6 HS9.out.h2
 go_wp2_with fail
 refine cmo (is_gives c hc _ (ts) ⟨#[102, 97, 108, 115, 101]⟩ HS9.out.ps) ?_
 rintro e9 w7 ⟨rfl, hov⟩
 rw [b5]
 have HS10 := hid (HS9.out.isOv hov)
 clear HS9
 clear hov
 have hz7 : w2.heap.size + 2 ≤ w7.heap.size := lt_of_heap HS10.out.h0
 obtain ⟨n0, n1, n2, n3, n4, n5, nf⟩ := cells6 HS10.out.h0
 obtain ⟨t0, t1, t2, t3, t4, tf⟩ := cells5 HS10.out.h1
 obtain ⟨r0, r1, r2, r3, r4, r5, rf⟩ := cells6 HS10.out.h2
 go_wp2_with fail
 refine cmo (named_gives c hc _ (ts) HS10.out.ps) ?_
 rintro e9 w8 ⟨rfl, hov⟩
 rw [b6]
 have HS11 := hid (HS10.out.isOv hov)
 clear HS10
 clear hov
 have hz8 : w2.heap.size + 2 ≤ w8.heap.size := lt_of_heap HS11.out.h0
 obtain ⟨n0, n1, n2, n3, n4, n5, nf⟩ := cells6 HS11.out.h0
 obtain ⟨t0, t1, t2, t3, t4, tf⟩ := cells5 HS11.out.h1
 obtain ⟨r0, r1, r2, r3, r4, r5, rf⟩ := cells6 HS11.out.h2
 go_wp2_with fail
 refine cmo (take_calls c hc _ (ts) ⟨#[40]⟩ HS11.out.ps) ?_
 rintro e9 w9 ⟨rfl, hpt, hkt⟩
 rw [b7] at hpt ⊢
 have hpt2 : PS c w9 (ts.tail) := hpt
 have HS12 := hid (HS11.out.call hkt hpt2)
 clear HS11
 clear hpt hkt hpt2
 have hz9 : w2.heap.size + 2 ≤ w9.heap.size := lt_of_heap HS12.out.h0
 obtain ⟨n0, n1, n2, n3, n4, n5, nf⟩ := cells6 HS12.out.h0
 obtain ⟨t0, t1, t2, t3, t4, tf⟩ := cells5 HS12.out.h1
 obtain ⟨r0, r1, r2, r3, r4, r5, rf⟩ := cells6 HS12.out.h2
 go_wp2_with fail
 refine cmo (isType_gives c hc _ (ts.tail) HS12.out.ps) ?_
 rintro e9 w10 ⟨rfl, hov⟩
 rw [b8]
 have HS13 := hid (HS12.out.isOv hov)
 clear HS12
 clear hov
 have hz10 : w2.heap.size + 2 ≤ w10.heap.size := lt_of_heap HS13.out.h0
 obtain ⟨n0, n1, n2, n3, n4, n5, nf⟩ := cells6 HS13.out.h0
 obtain ⟨t0, t1, t2, t3, t4, tf⟩ := cells5 HS13.out.h1
 obtain ⟨r0, r1, r2, r3, r4, r5, rf⟩ := cells6 HS13.out.h2
 go_wp2_with fail
 rcases bnd_some HB.out with ⟨l, k, er, he, rfl⟩ | ⟨n, ts2, he, hB9⟩
 ·
  refine cmo (IH.expr _ (d + 1) _ _ he HS13.out.ps (by omega) (by omega)) ?_
  rintro e9 w99 ⟨hkp, rfl⟩
  exact ⟨rfl, HS13.out.kp.trans hkp, rfl⟩
 ·
  have HB2 := hid hB9
  clear hB9
  refine cmo (IH.expr _ (d + 1) _ _ he HS13.out.ps (by omega) (by omega)) ?_
  clear he
  rintro e9 w11 ⟨hkp, hpt, An, capn, rfl, hR⟩
  have HS14 := hid (HS13.out.got hkp hpt (Nat.le_refl _) hR)
  clear HS13
  have hz11 := hkp.size_le
  try simp only [WZ] at hz11
  unfold nodeV
  clear hkp hpt hR HB
  obtain ⟨n0, n1, n2, n3, n4, n5, nf⟩ := cells6 HS14.out.h0
  obtain ⟨t0, t1, t2, t3, t4, tf⟩ := cells5 HS14.out.h1
  obtain ⟨r0, r1, r2, r3, r4, r5, rf⟩ := cells6 HS14.out.h2
  go_wp2_with fail
  have HS15 := hid (HS14.out.set6 hc (by omega) (by simp <;> omega) (.string n.kind) (.string n.text) (.int .u64 n.num) (.int .i64 n.line) (.int .i64 n.col) (.slice An n.kids.length capn))
  clear HS14
  refine cmo (need_calls c hc _ (ts2) ⟨#[41]⟩ HS15.out.ps) ?_
  rintro e9 w12 ⟨hkp, hp9⟩
  rcases bnd_some HB2.out with ⟨l, k, er, he, rfl⟩ | ⟨t2, ts3, he, hB9⟩
  ·
   rw [Option.some.inj he] at hp9
   subst hp9
   exact ⟨rfl, HS15.out.kp.trans hkp, rfl⟩
  ·
   rw [Option.some.inj he] at hp9
   obtain ⟨rfl, hps9⟩ := hp9
   have HB3 := hid hB9
   clear hB9
   have HS16 := hid (HS15.out.call hkp hps9)
   clear HS15
   have hz12 := hkp.size_le
   try simp only [WZ] at hz12
   clear hkp hps9 he HB2
   obtain ⟨n0, n1, n2, n3, n4, n5, nf⟩ := cells6 HS16.out.h0
   obtain ⟨r0, r1, r2, r3, r4, r5, rf⟩ := cells6 HS16.out.h2
   go_wp2_with fail
   rw [(Option.some.inj HB3.out).symm]
   exact ret_sta hc (n := n) (A := An) (cap := capn) (base := w10.heap.size) Tryz.results134 (by rfl) (HS16.out.swap.drop.swap) (by omega) (by omega) (by simp <;> omega)
set_option maxRecDepth 20000 in
set_option maxHeartbeats 400000 in
theorem operand_cast (c : PC) (hc : c.Ok) (g : Nat) (IH : ExprsOk c g) (w : World) (d : Int) (ts : List Tok) (r : PR Node) (t : Tok) (HT : Hid (nowT ts = t)) (hps : PS c w ts) (h0 : 0 ≤ d) (h60 : ¬ 60 < d) (b0 : isF ts ⟨#[33]⟩ = false) (b1 : isF ts ⟨#[126]⟩ = false) (b2 : isF ts ⟨#[45]⟩ = false) (b3 : (t.kind == 1) = false) (b4 : isF ts ⟨#[116, 114, 117, 101]⟩ = false) (b5 : isF ts ⟨#[102, 97, 108, 115, 101]⟩ = false) (b6 : namedF ts = false) (b7 : isF ts ⟨#[40]⟩ = true) (b8 : isTypeF ts.tail = true) (HB : Hid (bnd (some (needF ts.tail.tail ⟨#[41]⟩)) (fun _ r => bnd (operandF g (d + 1) r) fun k r2 => some (.ok ⟨⟨#[99, 97, 115, 116]⟩, (nowT ts.tail).text, 0, t.line, t.col, [k]⟩ r2)) = some r)) : Calls Tryz.prog 134 #[.pointer (some ⟨c.p, 0, none⟩), .int .i64 d] w (PostN c w r) := by
 have hlt := hps.lt
 have HS1 := hid (Sta.start hps)
 clear hps
 go_enter Tryz.func134, Tryz.ntmps134
 have HS2 := hid (HS1.out.alloc (.cells #[.string ⟨#[]⟩, .string ⟨#[]⟩, .int .u64 0, .int .i64 0, .int .i64 0, .slice none 0 0] 26))
 clear HS1
 go_wp2_with fail
 refine cmo (deep_calls c hc _ ts d HS2.out.ps) ?_
 rintro e9 w1 ⟨hpt, hkt, hd⟩
 unfold deepF at hd
 rw [if_neg (by omega)] at hd
 subst hd
 have HS3 := hid (HS2.out.call hkt hpt)
 clear HS2
 have hz1 := hkt.size_le
 simp only [World.size_alloc] at hz1
 clear hkt hpt
 go_wp2_with fail
 refine cmo (now_gives c hc _ ts HS3.out.ps) ?_
 rintro e9 w2 ⟨rfl, hov⟩
 have HS4 := hid (HS3.out.isOv hov)
 clear HS3
 have hz2 := hov.size_le
 clear hov
 rw [HT.out, show t.val = .agg #[.int .i64 t.kind, .string t.text, .int .u64 t.num, .int .i64 t.line, .int .i64 t.col] from rfl]
 go_wp2_with fail
 have HS5 : Hid (Sta c w ((w2.alloc (.cells #[.int .i64 t.kind, .string t.text, .int .u64 t.num, .int .i64 t.line, .int .i64 t.col] 60)).alloc (.cells #[.string ⟨#[]⟩, .string t.text, .int .u64 0, .int .i64 t.line, .int .i64 t.col, .slice none 0 0] 26)) ts [(w2.heap.size + 1, (.cells #[.string ⟨#[]⟩, .string t.text, .int .u64 0, .int .i64 t.line, .int .i64 t.col, .slice none 0 0] 26)), (w2.heap.size, (.cells #[.int .i64 t.kind, .string t.text, .int .u64 t.num, .int .i64 t.line, .int .i64 t.col] 60)), (w.heap.size, (.cells #[.string ⟨#[]⟩, .string ⟨#[]⟩, .int .u64 0, .int .i64 0, .int .i64 0, .slice none 0 0] 26))] []) := hid (by have h9 := (HS4.out.alloc (.cells #[.int .i64 t.kind, .string t.text, .int .u64 t.num, .int .i64 t.line, .int .i64 t.col] 60)).alloc (.cells #[.string ⟨#[]⟩, .string t.text, .int .u64 0, .int .i64 t.line, .int .i64 t.col, .slice none 0 0] 26); rw [World.size_alloc] at h9; exact h9)
 clear HS4
 refine cmo (take_calls c hc _ (ts) ⟨#[33]⟩ HS5.out.ps) ?_
 rintro e9 w3 ⟨rfl, hpt, hkt⟩
 rw [b0] at hpt ⊢
 have hpt2 : PS c w3 (ts) := hpt
 have HS6 := hid (HS5.out.call hkt hpt2)
 clear HS5
 clear hpt hkt hpt2
 go_wp2_with fail
 refine cmo (take_calls c hc _ (ts) ⟨#[126]⟩ HS6.out.ps) ?_
 rintro e9 w4 ⟨rfl, hpt, hkt⟩
 rw [b1] at hpt ⊢
 have hpt2 : PS c w4 (ts) := hpt
 have HS7 := hid (HS6.out.call hkt hpt2)
 clear HS6
 clear hpt hkt hpt2
 go_wp2_with fail
 refine cmo (take_calls c hc _ (ts) ⟨#[45]⟩ HS7.out.ps) ?_
 rintro e9 w5 ⟨rfl, hpt, hkt⟩
 rw [b2] at hpt ⊢
 have hpt2 : PS c w5 (ts) := hpt
 have HS8 := hid (HS7.out.call hkt hpt2)
 clear HS7
 clear hpt hkt hpt2
 have hz5 : w2.heap.size + 2 ≤ w5.heap.size := lt_of_heap HS8.out.h0
 obtain ⟨n0, n1, n2, n3, n4, n5, nf⟩ := cells6 HS8.out.h0
 obtain ⟨t0, t1, t2, t3, t4, tf⟩ := cells5 HS8.out.h1
 obtain ⟨r0, r1, r2, r3, r4, r5, rf⟩ := cells6 HS8.out.h2
 go_wp2_with fail
 refine cmo (is_gives c hc _ (ts) ⟨#[116, 114, 117, 101]⟩ HS8.out.ps) ?_
 rintro e9 w6 ⟨rfl, hov⟩
 rw [b4]
 have HS9 := hid (HS8.out.isOv hov)
 clear HS8
 clear hov
 have hz6 : w2.heap.size + 2 ≤ w6.heap.size := lt_of_heap HS9.out.h0
 obtain ⟨n0, n1, n2, n3, n4, n5, nf⟩ := cells6 HS9.out.h0
 obtain ⟨t0, t1, t2, t3, t4, tf⟩ := cells5 HS9.out.h1
 obtain ⟨r0, r1, r2, r3, r4, r5, rf⟩ := cells6 HS9.out.h2
 go_wp2_with fail
 refine cmo (is_gives c hc _ (ts) ⟨#[102, 97, 108, 115, 101]⟩ HS9.out.ps) ?_
 rintro e9 w7 ⟨rfl, hov⟩
 rw [b5]
 have HS10 := hid (HS9.out.isOv hov)
 clear HS9
 clear hov
 have hz7 : w2.heap.size + 2 ≤ w7.heap.size := lt_of_heap HS10.out.h0
 obtain ⟨n0, n1, n2, n3, n4, n5, nf⟩ := cells6 HS10.out.h0
 obtain ⟨t0, t1, t2, t3, t4, tf⟩ := cells5 HS10.out.h1
 obtain ⟨r0, r1, r2, r3, r4, r5, rf⟩ := cells6 HS10.out.h2
 go_wp2_with fail
 refine cmo (named_gives c hc _ (ts) HS10.out.ps) ?_
 rintro e9 w8 ⟨rfl, hov⟩
 rw [b6]
 have HS11 := hid (HS10.out.isOv hov)
 clear HS10
 clear hov
 have hz8 : w2.heap.size + 2 ≤ w8.heap.size := lt_of_heap HS11.out.h0
 obtain ⟨n0, n1, n2, n3, n4, n5, nf⟩ := cells6 HS11.out.h0
 obtain ⟨t0, t1, t2, t3, t4, tf⟩ := cells5 HS11.out.h1
 obtain ⟨r0, r1, r2, r3, r4, r5, rf⟩ := cells6 HS11.out.h2
 go_wp2_with fail
 refine cmo (take_calls c hc _ (ts) ⟨#[40]⟩ HS11.out.ps) ?_
 rintro e9 w9 ⟨rfl, hpt, hkt⟩
 rw [b7] at hpt ⊢
 have hpt2 : PS c w9 (ts.tail) := hpt
 have HS12 := hid (HS11.out.call hkt hpt2)
 clear HS11
 clear hpt hkt hpt2
 have hz9 : w2.heap.size + 2 ≤ w9.heap.size := lt_of_heap HS12.out.h0
 obtain ⟨n0, n1, n2, n3, n4, n5, nf⟩ := cells6 HS12.out.h0
 obtain ⟨t0, t1, t2, t3, t4, tf⟩ := cells5 HS12.out.h1
 obtain ⟨r0, r1, r2, r3, r4, r5, rf⟩ := cells6 HS12.out.h2
 go_wp2_with fail
 refine cmo (isType_gives c hc _ (ts.tail) HS12.out.ps) ?_
 rintro e9 w10 ⟨rfl, hov⟩
 rw [b8]
 have HS13 := hid (HS12.out.isOv hov)
 clear HS12
 clear hov
 have hz10 : w2.heap.size + 2 ≤ w10.heap.size := lt_of_heap HS13.out.h0
 obtain ⟨n0, n1, n2, n3, n4, n5, nf⟩ := cells6 HS13.out.h0
 obtain ⟨t0, t1, t2, t3, t4, tf⟩ := cells5 HS13.out.h1
 obtain ⟨r0, r1, r2, r3, r4, r5, rf⟩ := cells6 HS13.out.h2
 go_wp2_with fail
 refine cmo (typ_calls c hc _ ts.tail HS13.out.ps) ?_
 rintro e9 w11 ⟨hkt, hpt⟩
 rw [show typF ts.tail = PR.ok (leafN ⟨#[116, 121, 112, 101]⟩ (nowT ts.tail)) ts.tail.tail from by unfold typF; rw [if_pos b8]] at hpt
 obtain ⟨rfl, hlk, hpt⟩ := hpt
 have HS14 := hid (HS13.out.call hkt hpt)
 clear HS13
 clear hkt hpt
 have hz11 : w2.heap.size + 2 ≤ w11.heap.size := lt_of_heap HS14.out.h0
 unfold nodeV
 have hfd := field_text (leafN ⟨#[116, 121, 112, 101]⟩ (nowT ts.tail))
 obtain ⟨n0, n1, n2, n3, n4, n5, nf⟩ := cells6 HS14.out.h0
 obtain ⟨t0, t1, t2, t3, t4, tf⟩ := cells5 HS14.out.h1
 obtain ⟨r0, r1, r2, r3, r4, r5, rf⟩ := cells6 HS14.out.h2
 go_wp2_with fail
 have htx : (leafN ⟨#[116, 121, 112, 101]⟩ (nowT ts.tail)).text = (nowT ts.tail).text := by rfl
 have HS15 := hid ((HS14.out.set hc (by omega) (by simp <;> omega) 0 (.string ⟨#[99, 97, 115, 116]⟩)).set hc (by omega) (by simp <;> omega) 1 (.string (leafN ⟨#[116, 121, 112, 101]⟩ (nowT ts.tail)).text))
 clear HS14
 refine cmo (need_calls c hc _ (ts.tail.tail) ⟨#[41]⟩ HS15.out.ps) ?_
 rintro e9 w12 ⟨hkp, hp9⟩
 rcases bnd_some HB.out with ⟨l, k, er, he, rfl⟩ | ⟨t2, ts3, he, hB9⟩
 ·
  rw [Option.some.inj he] at hp9
  subst hp9
  exact ⟨rfl, HS15.out.kp.trans hkp, rfl⟩
 ·
  rw [Option.some.inj he] at hp9
  obtain ⟨rfl, hps9⟩ := hp9
  have HB2 := hid hB9
  clear hB9
  have HS16 := hid (HS15.out.call hkp hps9)
  clear HS15
  have hz12 := hkp.size_le
  try simp only [WZ] at hz12
  clear hkp hps9 he HB
  have hz12 : w2.heap.size + 2 ≤ w12.heap.size := lt_of_heap HS16.out.h0
  obtain ⟨n0, n1, n2, n3, n4, n5, nf⟩ := cells6 HS16.out.h0
  obtain ⟨r0, r1, r2, r3, r4, r5, rf⟩ := cells6 HS16.out.h2
  go_wp2_with fail
  rcases bnd_some HB2.out with ⟨l, k, er, he, rfl⟩ | ⟨n, ts4, he, hB9⟩
  ·
   refine cmo (IH.operand _ (d + 1) _ _ he HS16.out.ps (by omega) (by omega)) ?_
   rintro e9 w99 ⟨hkp, rfl⟩
   exact ⟨rfl, HS16.out.kp.trans hkp, rfl⟩
  ·
   have HB3 := hid hB9
   clear hB9
   refine cmo (IH.operand _ (d + 1) _ _ he HS16.out.ps (by omega) (by omega)) ?_
   clear he
   rintro e9 w13 ⟨hkp, hpt, An, capn, rfl, hR⟩
   have HS17 := hid (HS16.out.got hkp hpt (Nat.le_refl _) hR)
   clear HS16
   have hz13 := hkp.size_le
   try simp only [WZ] at hz13
   unfold nodeV
   clear hkp hpt hR HB2
   obtain ⟨n0, n1, n2, n3, n4, n5, nf⟩ := cells6 HS17.out.h0
   obtain ⟨r0, r1, r2, r3, r4, r5, rf⟩ := cells6 HS17.out.h2
   go_wp2_with fail
   rw [(Option.some.inj HB3.out).symm]
   exact ret_sta hc (n := ⟨⟨#[99, 97, 115, 116]⟩, (nowT ts.tail).text, 0, t.line, t.col, [n]⟩) (A := some ⟨w13.heap.size, 0, none⟩) (cap := 1) (base := w12.heap.size) Tryz.results134 (by rfl) (((HS17.out.made1 (by omega)).set hc (by omega) (by simp <;> omega) 5 (.slice (some ⟨w13.heap.size, 0, none⟩) 1 1)).swap.drop.swap) (by omega) (by omega) (by simp <;> omega)
set_option maxRecDepth 20000 in
set_option maxHeartbeats 400000 in
theorem operand_step (c : PC) (hc : c.Ok) (g : Nat) (IH : ExprsOk c g) (w : World) (d : Int) (ts : List Tok) (r : PR Node) (h : operandF (g + 1) d ts = some r) (hps : PS c w ts) (h0 : 0 ≤ d) (h1 : d ≤ 61) : Calls Tryz.prog 134 #[.pointer (some ⟨c.p, 0, none⟩), .int .i64 d] w (PostN c w r) := by
 unfold operandF at h
 by_cases h60 : 60 < d
 ·
  rw [if_pos h60] at h
  have HR := hid (Option.some.inj h).symm
  have HPS := hid hps
  have hlt := hps.lt
  clear h hps
  go_enter Tryz.func134, Tryz.ntmps134
  go_wp2_with fail
  refine cmo (deep_calls c hc _ ts d (HPS.out.alloc _)) ?_
  rintro e w1 ⟨hps1, hkp1, hd⟩
  unfold deepF at hd
  rw [if_pos (by omega)] at hd
  subst hd
  exact ⟨rfl, ((Kp.refl c w).alloc _).trans hkp1, by rw [HR.out]; rfl⟩
 ·
  rw [if_neg h60] at h
  cases b0 : isF ts ⟨#[33]⟩
  ·
   cases b1 : isF ts ⟨#[126]⟩
   ·
    cases b2 : isF ts ⟨#[45]⟩
    ·
     cases b3 : ((nowT ts).kind == 1)
     ·
      cases b4 : isF ts ⟨#[116, 114, 117, 101]⟩
      ·
       cases b5 : isF ts ⟨#[102, 97, 108, 115, 101]⟩
       ·
        cases b6 : namedF ts
        ·
         cases b7 : isF ts ⟨#[40]⟩
         ·
          exact operand_none c hc g IH w d ts r _ (hid rfl) hps h0 h60 b0 b1 b2 b3 b4 b5 b6 b7 (hid (by simpa only [b0, b1, b2, b3, b4, b5, b6, b7, Bool.or_true, Bool.true_or, Bool.or_false, Bool.false_or, Bool.or_self, Bool.false_eq_true, ↓reduceIte] using h))
         ·
          cases b8 : isTypeF ts.tail
          ·
           exact operand_paren c hc g IH w d ts r _ (hid rfl) hps h0 h60 b0 b1 b2 b3 b4 b5 b6 b7 b8 (hid (by simpa only [b0, b1, b2, b3, b4, b5, b6, b7, b8, Bool.or_true, Bool.true_or, Bool.or_false, Bool.false_or, Bool.or_self, Bool.false_eq_true, ↓reduceIte] using h))
          ·
           exact operand_cast c hc g IH w d ts r _ (hid rfl) hps h0 h60 b0 b1 b2 b3 b4 b5 b6 b7 b8 (hid (by simpa only [b0, b1, b2, b3, b4, b5, b6, b7, b8, Bool.or_true, Bool.true_or, Bool.or_false, Bool.false_or, Bool.or_self, Bool.false_eq_true, ↓reduceIte] using h))
        ·
         exact operand_named c hc g IH w d ts r _ (hid rfl) hps h0 h60 b0 b1 b2 b3 b4 b5 b6 (hid (by simpa only [b0, b1, b2, b3, b4, b5, b6, Bool.or_true, Bool.true_or, Bool.or_false, Bool.false_or, Bool.or_self, Bool.false_eq_true, ↓reduceIte] using h))
       ·
        exact operand_false c hc g IH w d ts r _ (hid rfl) hps h0 h60 b0 b1 b2 b3 b4 b5 (hid (by simpa only [b0, b1, b2, b3, b4, b5, Bool.or_true, Bool.true_or, Bool.or_false, Bool.false_or, Bool.or_self, Bool.false_eq_true, ↓reduceIte] using h))
      ·
       exact operand_true c hc g IH w d ts r _ (hid rfl) hps h0 h60 b0 b1 b2 b3 b4 (hid (by simpa only [b0, b1, b2, b3, b4, Bool.or_true, Bool.true_or, Bool.or_false, Bool.false_or, Bool.or_self, Bool.false_eq_true, ↓reduceIte] using h))
     ·
      exact operand_num c hc g IH w d ts r _ (hid rfl) hps h0 h60 b0 b1 b2 b3 (hid (by simpa only [b0, b1, b2, b3, Bool.or_true, Bool.true_or, Bool.or_false, Bool.false_or, Bool.or_self, Bool.false_eq_true, ↓reduceIte] using h))
    ·
     exact operand_un2 c hc g IH w d ts r _ (hid rfl) hps h0 h60 b0 b1 b2 (hid (by simpa only [b0, b1, b2, Bool.or_true, Bool.true_or, Bool.or_false, Bool.false_or, Bool.or_self, Bool.false_eq_true, ↓reduceIte] using h))
   ·
    exact operand_un1 c hc g IH w d ts r _ (hid rfl) hps h0 h60 b0 b1 (hid (by simpa only [b0, b1, Bool.or_true, Bool.true_or, Bool.or_false, Bool.false_or, Bool.or_self, Bool.false_eq_true, ↓reduceIte] using h))
  ·
   exact operand_un0 c hc g IH w d ts r _ (hid rfl) hps h0 h60 b0 (hid (by simpa only [b0, Bool.or_true, Bool.true_or, Bool.or_false, Bool.false_or, Bool.or_self, Bool.false_eq_true, ↓reduceIte] using h))
end Go.Proofs.YtdimhoilfopndaaGreatDoor
end
section
namespace Go.Proofs.YtdimhoilfopndaaGreatDoor
open Go
section
variable {P : Program} {ops : Array Oper} {md : Region.Mode} {Q : Exit → Act → World → Prop} {S : World → Prop} {late : Nat → Bool}
def wpAnyK (P : Program) (md : Region.Mode) (ops : Array Oper) (Q : Exit → Act → World → Prop) (S : World → Prop) (late : Nat → Bool) : Nat → Array Bool → Act → World → Prop
 | 0, listed, a, w => Region.ready md ops listed = [] ∧ Q .normal a w
 | fuel + 1, listed, a, w =>
  (Region.ready md ops listed = [] → Q .normal a w) ∧
  ∀ i ∈ Region.ready md ops listed, wpOp P ops Q i (fun a' w' => (late i = false → S w') ∧ wpAnyK P md ops Q S late fuel (listed.setIfInBounds i true) a' w') a w
theorem wpAny_of_K : ∀ (fuel : Nat) (listed : Array Bool) (a : Act) (w : World), wpAnyK P md ops Q S late fuel listed a w → wpAny P md ops Q fuel listed a w
 | 0, _, _, _, h => h
 | fuel + 1, _, _, _, h => ⟨h.1, fun i hi => wpOp_mono (fun a' w' h' => wpAny_of_K fuel _ a' w' h'.2) (h.2 i hi)⟩
def lateWaits (md : Region.Mode) (ops : Array Oper) (late : Nat → Bool) (i : Nat) : Bool :=
 (List.range ops.size).all fun j => !late j || (match ops[j]? with | some oj => oj.after.any fun e => Region.binds md e && e.on == i | none => false)
theorem lateWaits_spec {i j : Nat} {oj : Oper} (h : lateWaits md ops late i = true) (hj : ops[j]? = some oj) (hl : late j = true) : ∃ e ∈ oj.after, Region.binds md e = true ∧ e.on = i := by
 unfold lateWaits at h
 rw [List.all_eq_true] at h
 have hlt : j < ops.size := by
  rcases Nat.lt_or_ge j ops.size with h9 | h9
  · exact h9
  · rw [Array.getElem?_eq_none h9] at hj; cases hj
 have := h j (List.mem_range.mpr hlt)
 rw [hl, hj] at this
 simp only [Bool.not_true, Bool.false_or] at this
 obtain ⟨e, he, hb⟩ := Array.any_eq_true'.1 this
 simp only [Bool.and_eq_true, beq_iff_eq] at hb
 exact ⟨e, he, hb.1, hb.2⟩
theorem wpAnyK_first {i : Nat} {oi : Oper} {v : Value} (hi : ops[i]? = some oi) (hsel : ∀ (j : Nat) (o : Oper) cs b, ops[j]? = some o → o.op ≠ .select cs b)
  (hQ : ∀ c a w, Q (.panic c) (a.put oi.dst v) w → Q (.panic c) a w) (hlate : ∀ j oj, ops[j]? = some oj → late j = true → ∃ e ∈ oj.after, Region.binds md e = true ∧ e.on = i) :
  ∀ (fuel : Nat) (listed : Array Bool) (a : Act) (w : World),
   (∀ j oj, ops[j]? = some oj → j ≠ i → listed.getD j true = false → (∀ e ∈ oj.after, Region.binds md e = true → e.on ≠ i) → oi.apart ops oj = true) →
   i ∈ Region.ready md ops listed → YieldsIf P ops S oi v a → S w →
   wpAnyK P md ops Q S late fuel (listed.setIfInBounds i true) (a.put oi.dst v) w → wpAnyK P md ops Q S late (fuel + 1) listed a w := by
 intro fuel
 induction fuel with
 | zero =>
  intro listed a w _ hr hy hS H
  refine ⟨fun h => (by rw [h] at hr; cases hr), fun j hj => ?_⟩
  by_cases hji : j = i
  · subst hji; exact hy.wpOp hi hS ⟨fun _ => hS, H⟩
  ·
   have := ready_mono hj hji
   rw [H.1] at this
   cases this
 | succ fuel ih =>
  intro listed a w hfree hr hy hS H
  refine ⟨fun h => (by rw [h] at hr; cases hr), fun j hj => ?_⟩
  by_cases hji : j = i
  · subst hji; exact hy.wpOp hi hS ⟨fun _ => hS, H⟩
  ·
   have h1 := H.2 j (ready_mono hj hji)
   obtain ⟨hjun, oj, hoj, hall⟩ := mem_ready.1 hj
   have hnot : ∀ e ∈ oj.after, Region.binds md e = true → e.on ≠ i := fun e he hb heq => by
    have h1 := hall e he hb
    have h0 := (mem_ready.1 hr).1
    rw [heq] at h1
    rcases Nat.lt_or_ge i listed.size with h' | h'
    · simp [h'] at h0 h1; rw [h0] at h1; cases h1
    · simp [Array.getElem?_eq_none h'] at h1
   have hnl : late j = false := by
    cases hl : late j with
    | false => rfl
    | true =>
     obtain ⟨e, he, hb, ho⟩ := hlate j oj hoj hl
     exact absurd ho (hnot e he hb)
   have h2 := wpOp_putIf hoj (hfree j oj hoj hji hjun hnot) (fun cs b => hsel i oi cs b hi) (fun cs b => hsel j oj cs b hoj) hQ hy h1
   have hfree' : ∀ k ok, ops[k]? = some ok → k ≠ i → (listed.setIfInBounds j true).getD k true = false →
     (∀ e ∈ ok.after, Region.binds md e = true → e.on ≠ i) → oi.apart ops ok = true := fun k ok hk hki hun hno => by
    refine hfree k ok hk hki ?_ hno
    by_cases hjk : j = k
    · subst hjk; exact hjun
    · rw [getD_set_ne true hjk] at hun; exact hun
   refine wpOp_mono (fun a' w' h3 => ⟨fun _ => h3.2.1 hnl, ih (listed.setIfInBounds j true) a' w' hfree' (ready_mono hr (Ne.symm hji)) h3.1 (h3.2.1 hnl) ?_⟩) h2
   rw [Array.setIfInBounds_comm _ _ hji]
   exact h3.2.2
theorem wpAnyK_take {i : Nat} {oi : Oper} {v : Value} {fuel : Nat} {listed : Array Bool} {a : Act} {w : World} (hi : ops[i]? = some oi)
  (hs : Region.noSelect ops = true) (hf : Region.free md ops listed i = true) (hr : (Region.ready md ops listed).contains i = true) (hl : lateWaits md ops late i = true)
  (hQ : ∀ c a w, Q (.panic c) (a.put oi.dst v) w → Q (.panic c) a w) (hy : YieldsIf P ops S oi v a) (hS : S w)
  (h : wpAnyK P md ops Q S late fuel (listed.setIfInBounds i true) (a.put oi.dst v) w) : wpAnyK P md ops Q S late (fuel + 1) listed a w :=
 wpAnyK_first hi (Region.noSelect_spec hs) hQ (fun j oj hj hlj => lateWaits_spec hl hj hlj) fuel listed a w (Region.free_spec hi hf) (by simpa using hr) hy hS h
theorem wpAnyK_one {i : Nat} {o : Oper} {fuel : Nat} {listed : Array Bool} {a : Act} {w : World} (hr : Region.ready md ops listed = [i]) (ho : ops[i]? = some o)
  (h : ∀ K' : Act → World → Prop, Shut (∀ a w, (late i = false → S w) → wpAnyK P md ops Q S late fuel (listed.setIfInBounds i true) a w → K' a w) → if Region.wanted o (yielded ops a.tmps) = true then Oper.wp P o a w K' Q else K' (a.put o.dst undef) w) :
  wpAnyK P md ops Q S late (fuel + 1) listed a w := by
 refine ⟨fun h0 => (by rw [hr] at h0; cases h0), fun j hj => ?_⟩
 rw [hr] at hj
 obtain rfl := List.mem_singleton.mp hj
 exact wpOp_step ho (fun K' hK => h K' (fun a w hS hW => hK a w ⟨hS, hW⟩))
theorem wpAnyK_done {listed : Array Bool} {a : Act} {w : World} (hr : Region.ready md ops listed = []) (h : Q .normal a w) : ∀ fuel, wpAnyK P md ops Q S late fuel listed a w
 | 0 => ⟨hr, h⟩
 | _ + 1 => ⟨fun _ => h, by rw [hr]; simp⟩
end
theorem wp_region_K {P : Program} {ops : Array Oper} {Q : Exit → Act → World → Prop} (S : World → Prop) (late : Nat → Bool) {id : Nat} {a : Act} {w : World} (hm : P.follows .mixedOrders = true)
  (h : wpAnyK P .any ops Q S late ops.size (Array.replicate ops.size false) a w.drew) : (Code.region id ops true).wp P Q a w :=
 wp_region_any hm (wpAny_of_K _ _ _ _ h)
end Go.Proofs.YtdimhoilfopndaaGreatDoor
end
section
namespace Go.Proofs.YtdimhoilfopndaaGreatDoor
open Go.RowKit Go.Proofs.YtdimhoilfopndaaGreatDoorW.PrintWords
theorem bin_next {c : PC} {g : Nat} (IH : ExprsOk c g) (w : World) (d : Int) (i : Nat) (ts : List Tok) (r : PR Node) (h : binaryF g d (i + 1) ts = some r) (hps : PS c w ts) (h0 : 0 ≤ d) (h1 : d ≤ 60) (hi : i < 10) : Calls Tryz.prog 123 #[.pointer (some ⟨c.p, 0, none⟩), .int .i64 d, .int .i64 ((i : Int) + 1)] w (PostN c w r) := by
 have := IH.binary w d (i + 1) ts r h hps h0 h1 (by omega)
 push_cast at this
 exact this
abbrev BS (tb nb : Nat) (t : Tok) (N : Node) (A : Option Addr) (cap : Nat) (w' : World) : Prop := w'.cell? ⟨tb, 1, none⟩ = some (.string t.text) ∧ w'.cell? ⟨tb, 3, none⟩ = some (.int .i64 t.line) ∧ w'.cell? ⟨tb, 4, none⟩ = some (.int .i64 t.col) ∧ w'.cell? ⟨nb, 0, none⟩ = some (.string N.kind) ∧ w'.cell? ⟨nb, 1, none⟩ = some (.string N.text) ∧ w'.cell? ⟨nb, 2, none⟩ = some (.int .u64 N.num) ∧ w'.cell? ⟨nb, 3, none⟩ = some (.int .i64 N.line) ∧ w'.cell? ⟨nb, 4, none⟩ = some (.int .i64 N.col) ∧ w'.cell? ⟨nb, 5, none⟩ = some (.slice A N.kids.length cap)
theorem BS_of {tb nb : Nat} {t : Tok} {N : Node} {A : Option Addr} {cap : Nat} {w' : World} (h0 : w'.heap[tb]? = some (.cells #[.int .i64 t.kind, .string t.text, .int .u64 t.num, .int .i64 t.line, .int .i64 t.col] 60)) (h1 : w'.heap[nb]? = some (.cells #[.string N.kind, .string N.text, .int .u64 N.num, .int .i64 N.line, .int .i64 N.col, .slice A N.kids.length cap] 26)) : BS tb nb t N A cap w' := ⟨cell_of_heap h0 1, cell_of_heap h0 3, cell_of_heap h0 4, cell_of_heap h1 0, cell_of_heap h1 1, cell_of_heap h1 2, cell_of_heap h1 3, cell_of_heap h1 4, cell_of_heap h1 5⟩
theorem bnd_some2 {α β : Type} {x : Option (PR α)} {f : α → List Tok → Option (PR β)} {r : PR β} (h : bnd x f = some r) : ∃ r0, x = some r0 ∧ (match r0 with | .bad l k e => r = .bad l k e | .ok a ts => f a ts = some r) := by
 rcases bnd_some h with ⟨l, k, e, h1, h2⟩ | ⟨a, ts, h1, h2⟩
 · exact ⟨_, h1, h2⟩
 · exact ⟨_, h1, h2⟩
set_option maxRecDepth 20000 in
set_option maxHeartbeats 3200000 in
theorem binary_low (c : PC) (hc : c.Ok) (g : Nat) (IH : ∀ k, k ≤ g → ExprsOk c k) (w : World) (d : Int) (i : Nat) (ts : List Tok) (r : PR Node) (h : bnd (binaryF g d (i + 1) ts) (fun n r => moreF g d i n r) = some r) (hps : PS c w ts) (h0 : 0 ≤ d) (h1 : d ≤ 60) (hi : i < 10) : Calls Tryz.prog 123 #[.pointer (some ⟨c.p, 0, none⟩), .int .i64 d, .int .i64 (i : Int)] w (PostN c w r) := by
 have hlt := hps.lt
 obtain ⟨m0, hm0⟩ := hc.ml
 have hib : ((i : Int) == 10) = false := by simp; omega
 have hiw : IntKind.i64.wrap ((i : Int) + 1) = (i : Int) + 1 := IntWalk.i64_in _ (by omega)
 have HIW := hid hiw
 clear hiw
 have HB := hid h
 clear h
 have HS1 := hid (Sta.start hps)
 clear hps
 go_enter Tryz.func123, Tryz.ntmps123
 have HS2 := hid (HS1.out.alloc (.cells #[.string ⟨#[]⟩, .string ⟨#[]⟩, .int .u64 0, .int .i64 0, .int .i64 0, .slice none 0 0] 26))
 clear HS1
 go_wp2_with fail
 rcases bnd_some HB.out with ⟨l, k, er, he, rfl⟩ | ⟨n, ts2, he, hB9⟩
 ·
  refine cmo (bin_next (IH g (Nat.le_refl g)) _ d i _ _ he HS2.out.ps h0 h1 hi) ?_
  rintro e9 w99 ⟨hkp, rfl⟩
  exact ⟨rfl, HS2.out.kp.trans hkp, rfl⟩
 ·
  have HB2 := hid hB9
  clear hB9
  refine cmo (bin_next (IH g (Nat.le_refl g)) _ d i _ _ he HS2.out.ps h0 h1 hi) ?_
  clear he HB
  rintro e9 w1 ⟨hkp, hpt, An, capn, rfl, hR⟩
  have HS3 := hid (HS2.out.got hkp hpt (Nat.le_refl _) hR)
  clear HS2
  have hz1 := hkp.size_le
  try simp only [WZ] at hz1
  unfold nodeV
  clear hkp hpt hR
  go_wp2_with fail
  have HS4 := hid (HS3.out.alloc (.cells #[.string n.kind, .string n.text, .int .u64 n.num, .int .i64 n.line, .int .i64 n.col, .slice An n.kids.length capn] 26))
  clear HS3
  refine cmo (now_gives c hc _ (ts2) HS4.out.ps) ?_
  rintro e9 w2 ⟨rfl, hov⟩
  have HS5 := hid (HS4.out.isOv hov)
  clear HS4
  clear hov
  have hz2 : w1.heap.size < w2.heap.size := lt_of_heap HS5.out.h0
  rw [show (nowT ts2).val = .agg #[.int .i64 (nowT ts2).kind, .string (nowT ts2).text, .int .u64 (nowT ts2).num, .int .i64 (nowT ts2).line, .int .i64 (nowT ts2).col] from rfl]
  go_wp2_with fail
  have HS6 := hid (HS5.out.alloc (.cells #[.int .i64 (nowT ts2).kind, .string (nowT ts2).text, .int .u64 (nowT ts2).num, .int .i64 (nowT ts2).line, .int .i64 (nowT ts2).col] 60))
  clear HS5
  have HST := HS6.out
  go_loopg [8] g (fun q tv wr => ∃ (tb : Nat) (N : Node) (A : Option Addr) (cap base : Nat) (ts3 : List Tok), tv = .pointer (some ⟨tb, 0, none⟩) ∧ q ≤ g ∧ Hid (moreF q d i N ts3 = some r) ∧ w.heap.size < base ∧ base ≤ wr.heap.size ∧ tb ≠ w1.heap.size ∧ tb ≠ w.heap.size ∧ w.heap.size ≤ tb ∧ Hid (Sta c w wr ts3 [(tb, (.cells #[.int .i64 (nowT ts3).kind, .string (nowT ts3).text, .int .u64 (nowT ts3).num, .int .i64 (nowT ts3).line, .int .i64 (nowT ts3).col] 60)), (w1.heap.size, (.cells #[.string N.kind, .string N.text, .int .u64 N.num, .int .i64 N.line, .int .i64 N.col, .slice A N.kids.length cap] 26)), (w.heap.size, (.cells #[.string ⟨#[]⟩, .string ⟨#[]⟩, .int .u64 0, .int .i64 0, .int .i64 0, .slice none 0 0] 26))] [(base, .slice A N.kids.length cap, N.kids)]))
  case atStart => exact ⟨w2.heap.size, n, An, capn, w.heap.size + 1, ts2, rfl, Nat.le_refl _, HB2, by omega, by simp; omega, by omega, by omega, by omega, hid (by simpa using HST)⟩
  case round =>
   obtain ⟨tb, N, A, cap, base, ts3, rfl, hq, HM, hb1, hb2, ht1, ht2, ht3, HS20⟩ := hrel
   clear HST HB2
   generalize hT : nowT ts3 = t at *
   have HT := hid hT
   clear hT
   have HN := hid HS20.out.h1
   obtain ⟨t0, t1, t2, t3, t4, tf⟩ := cells5 HS20.out.h0
   obtain ⟨n0, n1, n2, n3, n4, n5, nf⟩ := cells6 HS20.out.h1
   obtain ⟨r0, r1, r2, r3, r4, r5, rf⟩ := cells6 HS20.out.h2
   cases gk with
   | zero => exact absurd HM.out (by simp [moreF])
   | succ q =>
   have hM := HM.out
   unfold moreF at hM
   rw [HT.out] at hM
   cases hk2 : (t.kind == 2)
   ·
    rw [hk2, Bool.false_and, if_neg (by decide)] at hM
    have HR := hid (Option.some.inj hM).symm
    clear hM HM
    go_wp2_with fail
    rw [HR.out]
    exact ret_sta hc (n := N) (A := A) (cap := cap) (base := base) Tryz.results123 (by rfl) HS20.out.rot (by omega) (by omega) (by simp <;> omega)
   ·
    cases hl : levelB i t.text
    ·
     rw [hk2, hl, Bool.true_and, if_neg (by decide)] at hM
     have HR := hid (Option.some.inj hM).symm
     clear hM HM
     go_wp2_with fail
     refine cmo (level_gives i hi _ t.text m0 (HS20.out.ps.1.cell hm0)) ?_
     rintro e9 w21 ⟨rfl, hov⟩
     rw [hl]
     have HS21 := hid (HS20.out.isOv hov)
     clear HS20 hov
     obtain ⟨n0, n1, n2, n3, n4, n5, nf⟩ := cells6 HS21.out.h1
     obtain ⟨r0, r1, r2, r3, r4, r5, rf⟩ := cells6 HS21.out.h2
     go_wp2_with fail
     rw [HR.out]
     exact ret_sta hc (n := N) (A := A) (cap := cap) (base := base) Tryz.results123 (by rfl) HS21.out.rot (by omega) (by omega) (by simp <;> omega)
    ·
     rw [hk2, hl, Bool.true_and, if_pos rfl] at hM
     have HB3 := hid hM
     clear hM HM
     go_wp2_with fail
     refine cmo (level_gives i hi _ t.text m0 (HS20.out.ps.1.cell hm0)) ?_
     rintro e9 w21 ⟨rfl, hov⟩
     rw [hl]
     have HS21 := hid (HS20.out.isOv hov)
     have hz21 := hov.size_le
     clear HS20 hov
     obtain ⟨j, hp, hj, hsn⟩ := HS21.out.next hc (by rw [HT.out]; intro e; rw [e] at hk2; simp at hk2)
     have HS22 := hid hsn
     obtain ⟨p0, p1, pf⟩ := cells2 hp
     obtain ⟨t0, t1, t2, t3, t4, tf⟩ := cells5 HS21.out.h0
     obtain ⟨n0, n1, n2, n3, n4, n5, nf⟩ := cells6 HS21.out.h1
     obtain ⟨r0, r1, r2, r3, r4, r5, rf⟩ := cells6 HS21.out.h2
     clear hp hsn
     go_wp2_with fail
     have hz22b : w21.heap.size ≤ (w21.setCell ⟨c.p, 1, none⟩ (.int .i64 ((j : Int) + 1))).heap.size := by simp
     generalize w21.setCell ⟨c.p, 1, none⟩ (.int .i64 ((j : Int) + 1)) = w22 at *
     clear p0 p1 pf t0 t1 t2 t3 t4 tf n0 n1 n2 n3 n4 n5 nf r0 r1 r2 r3 r4 r5 rf HS21
     obtain ⟨t0, t1, t2, t3, t4, tf⟩ := cells5 HS22.out.h0
     obtain ⟨n0, n1, n2, n3, n4, n5, nf⟩ := cells6 HS22.out.h1
     have hz22 : w1.heap.size < w22.heap.size := lt_of_heap HS22.out.h1
     have hiw := HIW.out
     obtain ⟨r0, he, hr0⟩ := bnd_some2 HB3.out
     have HR0 := hid hr0
     clear hr0 HB3
     have hS0 : BS tb w1.heap.size t N A cap w22.drew := BS_of HS22.out.drew.h0 HS22.out.drew.h1
     refine wp_region_K (fun w' => BS tb w1.heap.size t N A cap w') (fun j => j == 14) (by kernel_rfl) ?_
     refine wpAnyK_take (i := 0) (v := ?_) rfl (by kernel_rfl) (by kernel_rfl) (by kernel_rfl) (by kernel_rfl) (fun _ _ _ h => h) (Or.inl ⟨by rfl, ?_⟩) hS0 ?_
     rotate_left
     · intro w9 hSw; (try dsimp only at hSw); go_simp; (try with_reducible rfl)
     try simp only [Act.put, List.setIfInBounds_toArray, List.set_cons_zero, List.set_cons_succ]
     refine wpAnyK_take (i := 1) (v := ?_) rfl (by kernel_rfl) (by kernel_rfl) (by kernel_rfl) (by kernel_rfl) (fun _ _ _ h => h) (Or.inl ⟨by rfl, ?_⟩) hS0 ?_
     rotate_left
     · intro w9 hSw; (try dsimp only at hSw); go_simp; (try with_reducible rfl)
     try simp only [Act.put, List.setIfInBounds_toArray, List.set_cons_zero, List.set_cons_succ]
     refine wpAnyK_take (i := 2) (v := ?_) rfl (by kernel_rfl) (by kernel_rfl) (by kernel_rfl) (by kernel_rfl) (fun _ _ _ h => h) (Or.inl ⟨by rfl, ?_⟩) hS0 ?_
     rotate_left
     · intro w9 hSw; (try dsimp only at hSw); go_simp; (try with_reducible rfl)
     try simp only [Act.put, List.setIfInBounds_toArray, List.set_cons_zero, List.set_cons_succ]
     refine wpAnyK_take (i := 3) (v := ?_) rfl (by kernel_rfl) (by kernel_rfl) (by kernel_rfl) (by kernel_rfl) (fun _ _ _ h => h) (Or.inl ⟨by rfl, ?_⟩) hS0 ?_
     rotate_left
     · intro w9 hSw; (try dsimp only at hSw); go_simp; (try with_reducible rfl)
     try simp only [Act.put, List.setIfInBounds_toArray, List.set_cons_zero, List.set_cons_succ]
     refine wpAnyK_take (i := 4) (v := ?_) rfl (by kernel_rfl) (by kernel_rfl) (by kernel_rfl) (by kernel_rfl) (fun _ _ _ h => h) (Or.inl ⟨by rfl, ?_⟩) hS0 ?_
     rotate_left
     · intro w9 hSw; (try dsimp only at hSw); go_simp; (try with_reducible rfl)
     try simp only [Act.put, List.setIfInBounds_toArray, List.set_cons_zero, List.set_cons_succ]
     refine wpAnyK_take (i := 5) (v := ?_) rfl (by kernel_rfl) (by kernel_rfl) (by kernel_rfl) (by kernel_rfl) (fun _ _ _ h => h) (Or.inl ⟨by rfl, ?_⟩) hS0 ?_
     rotate_left
     · intro w9 hSw; (try dsimp only at hSw); go_simp; (try with_reducible rfl)
     try simp only [Act.put, List.setIfInBounds_toArray, List.set_cons_zero, List.set_cons_succ]
     refine wpAnyK_take (i := 6) (v := ?_) rfl (by kernel_rfl) (by kernel_rfl) (by kernel_rfl) (by kernel_rfl) (fun _ _ _ h => h) (Or.inl ⟨by rfl, ?_⟩) hS0 ?_
     rotate_left
     · intro w9 hSw; (try dsimp only at hSw); go_simp; (try with_reducible rfl)
     try simp only [Act.put, List.setIfInBounds_toArray, List.set_cons_zero, List.set_cons_succ]
     refine wpAnyK_take (i := 7) (v := ?_) rfl (by kernel_rfl) (by kernel_rfl) (by kernel_rfl) (by kernel_rfl) (fun _ _ _ h => h) (Or.inl ⟨by rfl, ?_⟩) hS0 ?_
     rotate_left
     · intro w9 hSw; (try dsimp only at hSw); go_simp; (try with_reducible rfl)
     try simp only [Act.put, List.setIfInBounds_toArray, List.set_cons_zero, List.set_cons_succ]
     refine wpAnyK_take (i := 8) (v := ?_) rfl (by kernel_rfl) (by kernel_rfl) (by kernel_rfl) (by kernel_rfl) (fun _ _ _ h => h) (Or.inl ⟨by rfl, ?_⟩) hS0 ?_
     rotate_left
     · intro w9 hSw; (try dsimp only at hSw); go_simp; (try with_reducible rfl)
     try simp only [Act.put, List.setIfInBounds_toArray, List.set_cons_zero, List.set_cons_succ]
     refine wpAnyK_take (i := 9) (v := ?_) rfl (by kernel_rfl) (by kernel_rfl) (by kernel_rfl) (by kernel_rfl) (fun _ _ _ h => h) (Or.inl ⟨by rfl, ?_⟩) hS0 ?_
     rotate_left
     · intro w9 hSw; (try dsimp only at hSw); go_simp; (try with_reducible rfl)
     try simp only [Act.put, List.setIfInBounds_toArray, List.set_cons_zero, List.set_cons_succ]
     refine wpAnyK_take (i := 10) (v := ?_) rfl (by kernel_rfl) (by kernel_rfl) (by kernel_rfl) (by kernel_rfl) (fun _ _ _ h => h) (Or.inl ⟨by rfl, ?_⟩) hS0 ?_
     rotate_left
     · intro w9 hSw; (try dsimp only at hSw); go_simp; (try with_reducible rfl)
     try simp only [Act.put, List.setIfInBounds_toArray, List.set_cons_zero, List.set_cons_succ]
     refine wpAnyK_one (i := 11) (by kernel_rfl) rfl (fun K hK => ?_)
     go_simp
     refine cmo (bin_next (IH q (by omega)) _ d i _ r0 he HS22.out.drew.ps h0 h1 hi) ?_
     rintro e9 w23 ⟨hkp, hp⟩
     rcases r0 with ⟨m, ts4⟩ | ⟨l, k, er⟩
     rotate_left
     ·
      have hr9 : r = .bad l k er := HR0.out
      have hp9 : e9 = wrongE l k er := hp
      subst hp9
      subst hr9
      exact ⟨rfl, (HS22.out.drew.kp).trans hkp, rfl⟩
     obtain ⟨hpt, Am, capm, rfl, hR⟩ := hp
     unfold nodeV
     have HR1 : Hid (moreF q d i ⟨⟨#[98, 105, 110, 97, 114, 121]⟩, t.text, 0, t.line, t.col, [N, m]⟩ ts4 = some r) := hid HR0.out
     have K9 := hid (HS22.out.drew.got hkp hpt (Nat.le_refl _) hR)
     have hz23 : w22.heap.size ≤ w23.heap.size := hkp.size_le
     clear hkp hpt hR t0 t1 t2 t3 t4 tf n0 n1 n2 n3 n4 n5 nf hS0 he HS22 HR0
     refine hK.out _ _ (fun _ => BS_of K9.out.h0 K9.out.h1) ?_
     clear hK K
     refine wpAnyK_one (i := 12) (by kernel_rfl) rfl (fun K hK => ?_)
     go_simp
     have K10 := hid (K9.out.made2 (by have h9 : w22.drew.heap.size = w22.heap.size := rfl; omega) (by have h9 : w22.drew.heap.size = w22.heap.size := rfl; omega))
     refine hK.out _ _ (fun _ => BS_of K10.out.h0 K10.out.h1) ?_
     clear hK K
     refine wpAnyK_one (i := 13) (by kernel_rfl) rfl (fun K hK => ?_)
     go_simp
     refine hK.out _ _ (fun _ => BS_of K10.out.h0 K10.out.h1) ?_
     clear hK K
     obtain ⟨n0, n1, n2, n3, n4, n5, nf⟩ := cells6 K9.out.h1
     refine wpAnyK_one (i := 14) (by kernel_rfl) rfl (fun K hK => ?_)
     go_simp
     go_wp2_with fail
     refine hK.out _ _ (fun h => absurd h (by decide)) ?_
     clear hK K
     refine wpAnyK_done (by kernel_rfl) ?_ _
     have K11 := (K9.out.swap.set6 hc (by omega) (by simp <;> omega) (.string ⟨#[98, 105, 110, 97, 114, 121]⟩) (.string t.text) (.int .u64 0) (.int .i64 t.line) (.int .i64 t.col) (.slice (some ⟨w23.heap.size, 0, none⟩) 2 2)).made2 (by have h9 : w22.drew.heap.size = w22.heap.size := rfl; omega) (by have h9 : w22.drew.heap.size = w22.heap.size := rfl; simp only [World.size_setCell]; omega)
     simp only [World.size_setCell] at K11
     have hz24 : w23.heap.size + 1 = (((((((w23.setCell ⟨w1.heap.size, 0, none⟩ (.string ⟨#[98, 105, 110, 97, 114, 121]⟩)).setCell ⟨w1.heap.size, 1, none⟩ (.string t.text)).setCell ⟨w1.heap.size, 2, none⟩ (.int .u64 0)).setCell ⟨w1.heap.size, 3, none⟩ (.int .i64 t.line)).setCell ⟨w1.heap.size, 4, none⟩ (.int .i64 t.col)).setCell ⟨w1.heap.size, 5, none⟩ (.slice (some ⟨w23.heap.size, 0, none⟩) 2 2)).alloc (.cells #[.string N.kind, .string N.text, .int .u64 N.num, .int .i64 N.line, .int .i64 N.col, .slice A N.kids.length cap, .string m.kind, .string m.text, .int .u64 m.num, .int .i64 m.line, .int .i64 m.col, .slice Am m.kids.length capm] 26)).heap.size := by simp only [WZ]
     revert K11 hz24
     generalize ((((((w23.setCell ⟨w1.heap.size, 0, none⟩ (.string ⟨#[98, 105, 110, 97, 114, 121]⟩)).setCell ⟨w1.heap.size, 1, none⟩ (.string t.text)).setCell ⟨w1.heap.size, 2, none⟩ (.int .u64 0)).setCell ⟨w1.heap.size, 3, none⟩ (.int .i64 t.line)).setCell ⟨w1.heap.size, 4, none⟩ (.int .i64 t.col)).setCell ⟨w1.heap.size, 5, none⟩ (.slice (some ⟨w23.heap.size, 0, none⟩) 2 2)).alloc (.cells #[.string N.kind, .string N.text, .int .u64 N.num, .int .i64 N.line, .int .i64 N.col, .slice A N.kids.length cap, .string m.kind, .string m.text, .int .u64 m.num, .int .i64 m.line, .int .i64 m.col, .slice Am m.kids.length capm] 26) = w24
     intro K11 hz24
     have K12 := hid K11
     have htbl : tb < w24.heap.size := lt_of_heap K12.out.h1
     have hnbl : w1.heap.size < w24.heap.size := lt_of_heap K12.out.h0
     have hrbl : w.heap.size < w24.heap.size := lt_of_heap K12.out.h2
     clear K11 K9 K10 n0 n1 n2 n3 n4 n5 nf
     obtain ⟨t0, t1, t2, t3, t4, tf⟩ := cells5 K12.out.h1
     go_wp2_with fail
     refine cmo (now_gives c hc _ ts4 (K12.out.ps.alloc _)) ?_
     rintro e9 w25 ⟨rfl, hov⟩
     have K13 := hid ((K12.out.alloc (.cells #[.int .i64 t.kind, .string t.text, .int .u64 t.num, .int .i64 t.line, .int .i64 t.col] 60)).isOv hov)
     have hz25 : w24.heap.size < w25.heap.size := lt_of_heap K13.out.h0
     clear K12 hov t0 t1 t2 t3 t4 tf
     rw [show (nowT ts4).val = .agg #[.int .i64 (nowT ts4).kind, .string (nowT ts4).text, .int .u64 (nowT ts4).num, .int .i64 (nowT ts4).line, .int .i64 (nowT ts4).col] from rfl]
     obtain ⟨t0, t1, t2, t3, t4, tf⟩ := cells5 K13.out.h0
     go_wp2_with fail
     go_roundg q
     case rel => exact ⟨w24.heap.size, ⟨⟨#[98, 105, 110, 97, 114, 121]⟩, t.text, 0, t.line, t.col, [N, m]⟩, some ⟨w23.heap.size, 0, none⟩, 2, base, ts4, rfl, by omega, HR1, by omega, by simp only [World.size_setCell]; omega, by omega, by omega, by omega, hid ((K13.out.set5 hc (by omega) (by simp <;> omega) _ _ _ _ _).sub (by simp +contextual) (fun _ h => h))⟩
     case measure => omega
end Go.Proofs.YtdimhoilfopndaaGreatDoor
end
section
namespace Go.Proofs.YtdimhoilfopndaaGreatDoor
open Go.RowKit Go.Proofs.YtdimhoilfopndaaGreatDoorW.PrintWords
set_option maxRecDepth 20000 in
set_option maxHeartbeats 400000 in
theorem binary_ten (c : PC) (hc : c.Ok) (g : Nat) (IH : ExprsOk c g) (w : World) (d : Int) (ts : List Tok) (r : PR Node) (h : operandF g d ts = some r) (hps : PS c w ts) (h0 : 0 ≤ d) (h1 : d ≤ 60) : Calls Tryz.prog 123 #[.pointer (some ⟨c.p, 0, none⟩), .int .i64 d, .int .i64 10] w (PostN c w r) := by
 have hlt := hps.lt
 have HB := hid h
 clear h
 have HS1 := hid (Sta.start hps)
 clear hps
 go_enter Tryz.func123, Tryz.ntmps123
 have HS2 := hid (HS1.out.alloc (.cells #[.string ⟨#[]⟩, .string ⟨#[]⟩, .int .u64 0, .int .i64 0, .int .i64 0, .slice none 0 0] 26))
 clear HS1
 go_wp2_with fail
 refine cmo (IH.operand _ d _ r HB.out HS2.out.ps h0 (by omega)) ?_
 rintro e9 w1 ⟨hkp, hp⟩
 cases r with
 | bad l k er =>
  subst hp
  exact ⟨rfl, HS2.out.kp.trans hkp, rfl⟩
 | ok n tsr =>
  obtain ⟨hpt, A, cap, rfl, hR⟩ := hp
  have HS3 := hid (HS2.out.got hkp hpt (Nat.le_refl _) hR)
  clear HS2
  clear hkp hpt hR HB
  unfold nodeV
  obtain ⟨r0, r1, r2, r3, r4, r5, rf⟩ := cells6 HS3.out.h0
  go_wp2_with fail
  exact ret_sta hc (n := n) (A := A) (cap := cap) (base := w.heap.size + 1) Tryz.results123 (by rfl) (by simpa using HS3.out) (by omega) (by omega) (by simp <;> omega)
theorem binary_step (c : PC) (hc : c.Ok) (g : Nat) (IH : ∀ k, k ≤ g → ExprsOk c k) (w : World) (d : Int) (i : Nat) (ts : List Tok) (r : PR Node) (h : binaryF (g + 1) d i ts = some r) (hps : PS c w ts) (h0 : 0 ≤ d) (h1 : d ≤ 60) (hi : i ≤ 10) : Calls Tryz.prog 123 #[.pointer (some ⟨c.p, 0, none⟩), .int .i64 d, .int .i64 (i : Int)] w (PostN c w r) := by
 unfold binaryF at h
 by_cases h10 : i = 10
 ·
  subst h10
  rw [if_pos rfl] at h
  exact binary_ten c hc g (IH g (Nat.le_refl g)) w d ts r h hps h0 h1
 ·
  rw [if_neg h10] at h
  exact binary_low c hc g IH w d i ts r h hps h0 h1 (by omega)
theorem exprs_ok (c : PC) (hc : c.Ok) : ∀ g, ExprsOk c g := by
 intro g
 induction g using Nat.strongRecOn with
 | _ g ih =>
  cases g with
  | zero => exact ⟨fun w d ts r h => by simp [exprF] at h, fun w d i ts r h => by simp [binaryF] at h, fun w d ts r h => by simp [operandF] at h, fun w x d ts r h => by simp [indexF] at h⟩
  | succ g =>
   have IH : ∀ k, k ≤ g → ExprsOk c k := fun k hk => ih k (by omega)
   have I := IH g (Nat.le_refl g)
   exact ⟨fun w d ts r h hps h0 h1 => expr_step c hc g I w d ts r h hps h0 h1, fun w d i ts r h hps h0 h1 hi => binary_step c hc g IH w d i ts r h hps h0 h1 hi,
    fun w d ts r h hps h0 h1 => operand_step c hc g I w d ts r h hps h0 h1, fun w x d ts r h hps h0 h1 hx => index_step c hc g I w x d ts r h hps h0 h1 hx⟩
end Go.Proofs.YtdimhoilfopndaaGreatDoor
end
section
namespace Go.Proofs.YtdimhoilfopndaaGreatDoor
open Go.RowKit Go.Proofs.YtdimhoilfopndaaGreatDoorW.PrintWords
section
variable {P : Program} {ops : Array Oper} {rest : List Oper} {o : Oper} {a : Act} {Q : Exit → Act → World → Prop} {W : World}
theorem gate_app {xs : Array Operand} {tys : Array TypeId} (_ho : o.op = .call { callee := .builtin .append, args := xs, argTypes := tys }) (h : wpList P ops Q (o :: rest) a W) : wpList P ops Q (o :: rest) a W := h
end
theorem node_info : (Tryz.prog.info? 26).map (fun i => (i.zero, i.size, i.bytes)) = some (some (.agg #[.string ⟨#[]⟩, .string ⟨#[]⟩, .int .u64 0, .int .i64 0, .int .i64 0, .slice none 0 0]), 6, 80) := by kernel_rfl
section
variable {c : PC} {w W w1 : World} {ts : List Tok} {hs : List (Nat × Obj)} {rs : List (Nat × Value × List Node)} {b1 bl : Nat} {u v v1 : Value} {n : Node} {xs : List Node}
theorem app_M (h : Sta c w W ts hs ((b1, u, n.kids) :: (bl, v, xs) :: rs)) (hb : bl ≤ b1 := by omega) : kNode.M W bl (fun k => (∀ p ∈ hs, k ≠ p.1) ∧ b1 ≤ k) n [.string n.kind, .string n.text, .int .u64 n.num, .int .i64 n.line, .int .i64 n.col, u] :=
 M_nodeP (Kd.R_lower (Kd.R_mono (Kd.R_bound h.r0) (fun k hk => ⟨hk.1, hk.2.1⟩)) hb)
theorem app_ne (h : Sta c w W ts hs ((b1, u, n.kids) :: (bl, v, xs) :: rs)) (hv : ∀ k, v.ownBlock = some k → k < b1) : ∀ k, ((∀ p ∈ hs, k ≠ p.1) ∧ b1 ≤ k) → (∀ p ∈ hs, k ≠ p.1) ∧ some k ≠ v.ownBlock :=
 fun k hk => ⟨hk.1, fun e => by have := hv k e.symm; omega⟩
theorem app_fresh (h : Sta c w W ts hs rs) : ∀ k, W.heap.size ≤ k → ∀ p ∈ hs, k ≠ p.1 := fun k hk p hp => by have := h.heldLt p hp; omega
theorem Sta.appended (hc : c.Ok) (h : Sta c w W ts hs [(b1, u, n.kids), (bl, v, xs)]) (hbl : w.heap.size ≤ bl) (hg : W.grownBy w1 v.ownBlock) (hR : kNode.R 26 w1 bl (fun k => ∀ p ∈ hs, k ≠ p.1) v1 (xs ++ [n])) : Sta c w w1 ts hs [(bl, v1, xs ++ [n])] := by
 have hlt := h.lt
 have hown : ∀ b, v.ownBlock = some b → bl ≤ b := Kd.R_base h.r1
 refine ⟨h.ps.grown hc hg (fun b hb => by have := hown b hb; omega), h.kp.grown hg (fun b hb => by have := hown b hb; omega), h.lt, fun p hp => ⟨?_, (h.held p hp).2⟩, fun q hq => ?_⟩
 ·
  rw [hg.block p.1 (h.heldLt p hp) (fun e => h.r1.1 p.1 e.symm p hp rfl)]
  exact (h.held p hp).1
 ·
  obtain rfl := List.mem_singleton.mp hq
  exact ⟨hR, by show c.p < bl; omega⟩
end
def PostL (c : PC) (w : World) (r : PR (List Node)) (e : Ending) (w' : World) : Prop :=
 Kp c w w' ∧ (match r with
  | .ok l ts => PS c w' ts ∧ ∃ v, e = .returned v ∧ kNode.R 26 w' w.heap.size (fun _ => True) v l
  | .bad l k er => e = wrongE l k er)
end Go.Proofs.YtdimhoilfopndaaGreatDoor
end
section
namespace Go.Proofs.YtdimhoilfopndaaGreatDoor
open Go.RowKit Go.Proofs.YtdimhoilfopndaaGreatDoorW.PrintWords
set_option maxRecDepth 20000 in
set_option maxHeartbeats 400000 in
theorem list_clo (c : PC) (hc : c.Ok) (w : World) (bp bd : Nat) (hs0 : List (Nat × Obj)) (one : List Tok → Option (PR Node)) (g : Nat) (hg : g ≤ 1000000000) (hone : ∀ W ts r, one ts = some r → PS c W ts → (∀ p ∈ hs0, W.heap[p.1]? = some p.2) → Calls Tryz.prog 133 #[.pointer (some ⟨bp, 0, none⟩), .pointer (some ⟨bd, 0, none⟩)] W (PostN c W r)) (ts : List Tok) (r : PR (List Node)) (h : listsF one g ts = some r) (hps : PS c w ts) (hheld : ∀ p ∈ hs0, w.heap[p.1]? = some p.2 ∧ p.1 ≠ c.p) : Calls Tryz.prog 59 #[.pointer (some ⟨c.p, 0, none⟩), .func (.func 133) #[] #[.pointer (some ⟨bp, 0, none⟩), .pointer (some ⟨bd, 0, none⟩)]] w (PostL c w r) := by
 have hlt := hps.lt
 have HB := hid h
 clear h
 unfold listsF at HB
 have HS0 : Hid (Sta c w w ts hs0 [(w.heap.size, .slice none 0 0, [])]) := hid ⟨hps, Kp.refl c w, hlt, hheld, fun q hq => by obtain rfl := List.mem_singleton.mp hq; exact ⟨Kd.R_nil _ _ _ _ _, hlt⟩⟩
 clear hps hheld
 go_enter Tryz.func59, Tryz.ntmps59
 go_wp2_with fail
 refine cmo (take_calls c hc _ ts ⟨#[41]⟩ HS0.out.ps) ?_
 rintro e9 w1 ⟨rfl, hpt, hkt⟩
 cases hb : isF ts ⟨#[41]⟩
 ·
  have HB2 : Hid (listF one g [] ts = some r) := hid (by have h9 := HB.out; rw [hb] at h9; exact h9)
  have hpt2 : PS c w1 ts := by rw [hb] at hpt; exact hpt
  have HS1 := hid (HS0.out.call hkt hpt2)
  clear HS0 hpt hkt hpt2 HB
  go_wp2_with fail
  go_loopg [5] g (fun q lv wr => ∃ (l : List Node) (ts2 : List Tok), q + l.length = g ∧ Hid (listF one q l ts2 = some r) ∧ Hid (Sta c w wr ts2 hs0 [(w.heap.size, lv, l)]))
  case atStart => exact ⟨[], ts, rfl, HB2, HS1⟩
  case round =>
   obtain ⟨l, ts2, hq, HL, HS2⟩ := hrel
   clear HB2 HS1
   cases gk with
   | zero => exact absurd HL.out (by simp [listF])
   | succ q =>
   have HL2 : Hid (bnd (one ts2) (fun n r' => if isF r' ⟨#[41]⟩ then some (.ok (l ++ [n]) r'.tail) else if isF r' ⟨#[44]⟩ then listF one q (l ++ [n]) r'.tail else some (badAt r' 30)) = some r) := hid HL.out
   clear HL
   obtain ⟨A, cp, rfl⟩ := Kd.R_slice HS2.out.r0
   have HVB := Kd.R_lt HS2.out.r0
   have hzr := HS2.out.size
   go_wp2_with fail
   rcases bnd_some HL2.out with ⟨l9, k9, er, he, rfl⟩ | ⟨n, ts3, he, hB9⟩
   ·
    refine cmo (hone _ ts2 _ he HS2.out.ps (fun p hp => (HS2.out.held p hp).1)) ?_
    rintro e9 w99 ⟨hkp, rfl⟩
    exact ⟨rfl, HS2.out.kp.trans hkp, rfl⟩
   have HL3 := hid hB9
   clear hB9 HL2
   refine cmo (hone _ ts2 _ he HS2.out.ps (fun p hp => (HS2.out.held p hp).1)) ?_
   rintro e9 w3 ⟨hkp, hpt, An, capn, rfl, hR⟩
   have HS3 := (HS2.out.got hkp hpt (Nat.le_refl _) hR)
   have hz3 : wr.heap.size ≤ w3.heap.size := hkp.size_le
   unfold nodeV
   clear hkp hpt hR HS2 he
   go_wp2_with ((with_reducible refine gate_app (xs := #[.tmp 8, .tmp 11]) rfl ?_); at_builtin; go_loud (refine Kd.R_append kNode (w0 := w3) (W := w3) w.heap.size rfl (.tmp 8) (.tmp 11) 24 26 (.agg #[.string ⟨#[]⟩, .string ⟨#[]⟩, .int .u64 0, .int .i64 0, .int .i64 0, .slice none 0 0]) 80 rfl Tryz.underlying24 node_info rfl (by decide) (by decide) (.slice A l.length cp) l n [.string n.kind, .string n.text, .int .u64 n.num, .int .i64 n.line, .int .i64 n.col, (.slice An n.kids.length capn)] _ _ rfl rfl (app_M HS3) (app_ne HS3 HVB) (app_fresh HS3) HS3.r1 (Below.refl _ _) ?aS ?aL ?_; (case aS => omega); (case aL => omega); intro v9 w9 hR9 _ hg9 _; have HS4 := hid (Sta.appended hc HS3 (by omega) hg9 hR9); clear hR9 hg9))
   refine cmo (take_calls c hc _ ts3 ⟨#[41]⟩ HS4.out.ps) ?_
   rintro e9 w10 ⟨rfl, hpt, hkt⟩
   cases hb3 : isF ts3 ⟨#[41]⟩
   ·
    have hpt2 : PS c w10 ts3 := by rw [hb3] at hpt; exact hpt
    have HS5 := hid (HS4.out.call hkt hpt2)
    have HL4 : Hid ((if isF ts3 ⟨#[44]⟩ then listF one q (l ++ [n]) ts3.tail else some (badAt ts3 30)) = some r) := hid (by have h9 := HL3.out; rw [hb3] at h9; exact h9)
    clear HS4 hkt hpt hpt2 HL3
    go_wp2_with fail
    refine cmo (is_gives c hc _ ts3 ⟨#[44]⟩ HS5.out.ps) ?_
    rintro e9 w11 ⟨rfl, hov⟩
    have HS6 := hid (HS5.out.isOv hov)
    clear hov HS5
    cases hb4 : isF ts3 ⟨#[44]⟩
    ·
     have HR : Hid (r = .bad (nowT ts3).line (nowT ts3).col 30) := hid (by have h9 := HL4.out; rw [hb4] at h9; exact (Option.some.inj h9).symm)
     go_wp2_with fail
     refine cmo (give_calls c hc _ ts3 30 HS6.out.ps) ?_
     rintro e9 w99 ⟨rfl, hpt, hkp⟩
     rw [HR.out]
     exact ⟨rfl, HS6.out.kp.trans hkp, rfl⟩
    ·
     have HL5 : Hid (listF one q (l ++ [n]) ts3.tail = some r) := hid (by have h9 := HL4.out; rw [hb4] at h9; exact h9)
     obtain ⟨j, hp, hj, hsn⟩ := HS6.out.next hc (isF_kind hb4)
     have HS7 := hid hsn
     obtain ⟨p0, p1, pf⟩ := cells2 hp
     clear hp hsn HL4
     go_wp2_with fail
     go_roundg q
     case rel => exact ⟨l ++ [n], ts3.tail, by simp; omega, HL5, HS7⟩
     case measure => omega
   ·
    have hpt2 : PS c w10 ts3.tail := by rw [hb3] at hpt; exact hpt
    have HS5 := hid (HS4.out.call hkt hpt2)
    have HR : Hid (r = .ok (l ++ [n]) ts3.tail) := hid (by have h9 := HL3.out; rw [hb3] at h9; exact (Option.some.inj h9).symm)
    clear HS4 hkt hpt hpt2 HL3
    go_wp2_with fail
    rw [HR.out]
    exact bodyPost_ret (v := v9) (by simp [results, Tryz.results59, go_sem, ↓IntWalk.iteOmega]) rfl ⟨HS5.out.kp, HS5.out.ps, v9, rfl, Kd.R_mono HS5.out.r0 (fun _ _ => trivial)⟩
 ·
  have HR : Hid (r = .ok [] ts.tail) := hid (by have h9 := HB.out; rw [hb] at h9; exact (Option.some.inj h9).symm)
  have hpt2 : PS c w1 ts.tail := by rw [hb] at hpt; exact hpt
  have HS1 := hid (HS0.out.call hkt hpt2)
  clear HS0 hkt hpt hpt2 HB
  go_wp2_with fail
  rw [HR.out]
  exact bodyPost_ret (v := .slice none 0 0) (by simp [results, Tryz.results59, go_sem, ↓IntWalk.iteOmega]) rfl ⟨HS1.out.kp, HS1.out.ps, _, rfl, R_nilN _ _⟩
end Go.Proofs.YtdimhoilfopndaaGreatDoor
end
section
namespace Go.Proofs.YtdimhoilfopndaaGreatDoor
open Go.RowKit Go.Proofs.YtdimhoilfopndaaGreatDoorW.PrintWords
set_option maxRecDepth 20000 in
set_option maxHeartbeats 400000 in
theorem clo_calls (c : PC) (hc : c.Ok) (g : Nat) (bp bd : Nat) (d : Int) (h0 : 0 ≤ d) (h1 : d ≤ 60) (W : World) (ts : List Tok) (r : PR Node) (h : exprF g (d + 1) ts = some r) (hps : PS c W ts) (hbp : W.heap[bp]? = some (.cells #[.pointer (some ⟨c.p, 0, none⟩)] 67 (0, 0))) (hbd : W.heap[bd]? = some (.cells #[.int .i64 d] 3 (0, 0))) : Calls Tryz.prog 133 #[.pointer (some ⟨bp, 0, none⟩), .pointer (some ⟨bd, 0, none⟩)] W (PostN c W r) := by
 have hlt := hps.lt
 have HPS := hid hps
 have H := hid h
 obtain ⟨p0, pf⟩ := cells1 hbp
 obtain ⟨e0, ef⟩ := cells1 hbd
 have n1 := lt_of_heap hbp
 have n2 := lt_of_heap hbd
 clear hps h
 go_enter Tryz.func133, Tryz.ntmps133
 go_wp2_with fail
 have HS1 := hid ((Sta.start HPS.out).alloc (.cells #[.string ⟨#[]⟩, .string ⟨#[]⟩, .int .u64 0, .int .i64 0, .int .i64 0, .slice none 0 0] 26))
 refine cmo ((exprs_ok c hc g).expr _ (d + 1) ts r H.out HS1.out.ps (by omega) (by omega)) ?_
 clear p0 pf e0 ef hbp hbd n1 n2 H HPS
 rintro e9 w1 ⟨hkp, hp⟩
 cases r with
 | bad l k er =>
  subst hp
  exact ⟨rfl, HS1.out.kp.trans hkp, rfl⟩
 | ok n tsr =>
  obtain ⟨hpt, A, cap, rfl, hR⟩ := hp
  have HS2 := hid (HS1.out.got hkp hpt (Nat.le_refl _) hR)
  clear hkp hpt hR HS1
  unfold nodeV
  obtain ⟨r0, r1, r2, r3, r4, r5, rf⟩ := cells6 HS2.out.h0
  go_wp2_with fail
  exact ret_sta hc (n := n) (A := A) (cap := cap) (base := W.heap.size + 1) Tryz.results133 (by rfl) (by simpa using HS2.out) (by omega) (by omega) (by simp <;> omega)
set_option maxRecDepth 20000 in
set_option maxHeartbeats 400000 in
theorem call_calls (c : PC) (hc : c.Ok) (g : Nat) (hg : g ≤ 1000000000) (w : World) (x : Node) (d : Int) (ts : List Tok) (r : PR Node) (h : callF g x d ts = some r) (hps : PS c w ts) (h0 : 0 ≤ d) (h1 : d ≤ 60) : Calls Tryz.prog 121 #[.pointer (some ⟨c.p, 0, none⟩), nodeV x (.slice none 0 0), .int .i64 d] w (PostN c w r) := by
 unfold nodeV
 have hlt := hps.lt
 have HB := hid h
 clear h
 unfold callF at HB
 have HS1 := hid (Sta.start hps)
 clear hps
 go_enter Tryz.func121, Tryz.ntmps121
 go_wp2_with fail
 have HS2 : Hid (Sta c w ((((w.alloc (.cells #[.pointer (some ⟨c.p, 0, none⟩)] 67)).alloc (.cells #[.string x.kind, .string x.text, .int .u64 x.num, .int .i64 x.line, .int .i64 x.col, .slice none 0 0] 26)).alloc (.cells #[.int .i64 d] 3)).alloc (.cells #[.string ⟨#[]⟩, .string ⟨#[]⟩, .int .u64 0, .int .i64 0, .int .i64 0, .slice none 0 0] 26)) ts [(w.heap.size + 1 + 1 + 1, (.cells #[.string ⟨#[]⟩, .string ⟨#[]⟩, .int .u64 0, .int .i64 0, .int .i64 0, .slice none 0 0] 26)), (w.heap.size + 1 + 1, (.cells #[.int .i64 d] 3)), (w.heap.size + 1, (.cells #[.string x.kind, .string x.text, .int .u64 x.num, .int .i64 x.line, .int .i64 x.col, .slice none 0 0] 26)), (w.heap.size, (.cells #[.pointer (some ⟨c.p, 0, none⟩)] 67))] []) := hid (by have h9 := ((((HS1.out.alloc (.cells #[.pointer (some ⟨c.p, 0, none⟩)] 67)).alloc (.cells #[.string x.kind, .string x.text, .int .u64 x.num, .int .i64 x.line, .int .i64 x.col, .slice none 0 0] 26)).alloc (.cells #[.int .i64 d] 3)).alloc (.cells #[.string ⟨#[]⟩, .string ⟨#[]⟩, .int .u64 0, .int .i64 0, .int .i64 0, .slice none 0 0] 26)); simp only [World.size_alloc] at h9; exact h9)
 clear HS1
 refine cmo (need_calls c hc _ (ts) ⟨#[40]⟩ HS2.out.ps) ?_
 rintro e9 w1 ⟨hkp, hp9⟩
 rcases bnd_some HB.out with ⟨l, k, er, he, rfl⟩ | ⟨t1, ts2, he, hB9⟩
 ·
  rw [Option.some.inj he] at hp9
  subst hp9
  exact ⟨rfl, HS2.out.kp.trans hkp, rfl⟩
 ·
  rw [Option.some.inj he] at hp9
  obtain ⟨rfl, hps9⟩ := hp9
  have HB2 := hid hB9
  clear hB9
  have HS3 := hid (HS2.out.call hkp hps9)
  clear HS2
  have hz1 := hkp.size_le
  try simp only [WZ] at hz1
  clear hkp hps9 he HB
  have hzz : w.heap.size + 1 + 1 + 1 < w1.heap.size := lt_of_heap HS3.out.h0
  obtain ⟨p0, pf⟩ := cells1 HS3.out.h3
  obtain ⟨x0, x1, x2, x3, x4, x5, xf⟩ := cells6 HS3.out.h2
  go_wp2_with fail
  have HS4 : Hid (Sta c w (w1.setCell ⟨w.heap.size + 1, 0, none⟩ (.string ⟨#[99, 97, 108, 108]⟩)) ts2 [(w.heap.size + 1, (.cells #[.string ⟨#[99, 97, 108, 108]⟩, .string x.text, .int .u64 x.num, .int .i64 x.line, .int .i64 x.col, .slice none 0 0] 26)), (w.heap.size + 1 + 1 + 1, (.cells #[.string ⟨#[]⟩, .string ⟨#[]⟩, .int .u64 0, .int .i64 0, .int .i64 0, .slice none 0 0] 26)), (w.heap.size + 1 + 1, (.cells #[.int .i64 d] 3)), (w.heap.size, (.cells #[.pointer (some ⟨c.p, 0, none⟩)] 67))] []) := hid (((HS3.out.rot).set hc (by omega) (by simp <;> omega) 0 (.string ⟨#[99, 97, 108, 108]⟩)))
  clear HS3
  have hzw : (w1.setCell ⟨w.heap.size + 1, 0, none⟩ (.string ⟨#[99, 97, 108, 108]⟩)).heap.size = w1.heap.size := World.size_setCell _ _ _
  rcases bnd_some HB2.out with ⟨l, k, er, he, rfl⟩ | ⟨l, ts3, he, hB9⟩
  ·
   refine cmo (list_clo c hc _ (w.heap.size) (w.heap.size + 1 + 1) [(w.heap.size, (.cells #[.pointer (some ⟨c.p, 0, none⟩)] 67)), (w.heap.size + 1 + 1, (.cells #[.int .i64 d] 3))] (exprF g (d + 1)) g hg (fun W ts r h hp hh => clo_calls c hc g _ _ d h0 h1 W ts r h hp (hh (w.heap.size, (.cells #[.pointer (some ⟨c.p, 0, none⟩)] 67)) (by simp)) (hh (w.heap.size + 1 + 1, (.cells #[.int .i64 d] 3)) (by simp))) ts2 _ he HS4.out.ps (fun p hp => (HS4.out.sub (hs' := [(w.heap.size, (.cells #[.pointer (some ⟨c.p, 0, none⟩)] 67)), (w.heap.size + 1 + 1, (.cells #[.int .i64 d] 3))]) (by simp +contextual) (fun _ h => h)).held p hp)) ?_
   rintro e9 w99 ⟨hkp, rfl⟩
   exact ⟨rfl, HS4.out.kp.trans hkp, rfl⟩
  have HB3 := hid hB9
  clear hB9
  refine cmo (list_clo c hc _ (w.heap.size) (w.heap.size + 1 + 1) [(w.heap.size, (.cells #[.pointer (some ⟨c.p, 0, none⟩)] 67)), (w.heap.size + 1 + 1, (.cells #[.int .i64 d] 3))] (exprF g (d + 1)) g hg (fun W ts r h hp hh => clo_calls c hc g _ _ d h0 h1 W ts r h hp (hh (w.heap.size, (.cells #[.pointer (some ⟨c.p, 0, none⟩)] 67)) (by simp)) (hh (w.heap.size + 1 + 1, (.cells #[.int .i64 d] 3)) (by simp))) ts2 _ he HS4.out.ps (fun p hp => (HS4.out.sub (hs' := [(w.heap.size, (.cells #[.pointer (some ⟨c.p, 0, none⟩)] 67)), (w.heap.size + 1 + 1, (.cells #[.int .i64 d] 3))]) (by simp +contextual) (fun _ h => h)).held p hp)) ?_
  clear he HB2 p0 pf x0 x1 x2 x3 x4 x5 xf
  rintro e9 w2 ⟨hkp, hpt, v, rfl, hR⟩
  obtain ⟨A, cap, rfl⟩ := Kd.R_slice hR
  have HS5 := hid (HS4.out.got hkp hpt (Nat.le_refl _) hR)
  clear HS4
  clear hkp hpt hR
  obtain ⟨x0, x1, x2, x3, x4, x5, xf⟩ := cells6 HS5.out.h0
  obtain ⟨r0, r1, r2, r3, r4, r5, rf⟩ := cells6 HS5.out.h1
  go_wp2_with fail
  rw [(Option.some.inj HB3.out).symm]
  exact ret_sta hc (n := ⟨⟨#[99, 97, 108, 108]⟩, x.text, x.num, x.line, x.col, l⟩) (A := A) (cap := cap) (base := (w1.setCell ⟨w.heap.size + 1, 0, none⟩ (.string ⟨#[99, 97, 108, 108]⟩)).heap.size) Tryz.results121 (by rfl) ((HS5.out.set hc (by omega) (by simp <;> omega) 5 (.slice A l.length cap)).swap) (by omega) (by omega) (by simp <;> omega)
end Go.Proofs.YtdimhoilfopndaaGreatDoor
end
section
namespace Go.Proofs.YtdimhoilfopndaaGreatDoor
open Go.RowKit Go.Proofs.YtdimhoilfopndaaGreatDoorW.PrintWords
theorem Sta.nilK {c : PC} {w W : World} {ts : List Tok} {hs : List (Nat × Obj)} {rs : List (Nat × Value × List Node)} (h : Sta c w W ts hs rs) {n : Node} (hn : n.kids = []) (b : Nat) (hb : c.p < b) : Sta c w W ts hs ((b, .slice none 0 0, n.kids) :: rs) := by rw [hn]; exact h.nil b hb
set_option maxRecDepth 20000 in
set_option maxHeartbeats 400000 in
theorem param_calls (c : PC) (hc : c.Ok) (w : World) (ts : List Tok) (r : PR Node) (h : paramF ts = some r) (hps : PS c w ts) : Calls Tryz.prog 60 #[.pointer (some ⟨c.p, 0, none⟩)] w (PostN c w r) := by
 have hlt := hps.lt
 have HB := hid h
 clear h
 unfold paramF at HB
 have HS1 := hid (Sta.start hps)
 clear hps
 go_enter Tryz.func60, Tryz.ntmps60
 have HS2 := hid (HS1.out.alloc (.cells #[.string ⟨#[]⟩, .string ⟨#[]⟩, .int .u64 0, .int .i64 0, .int .i64 0, .slice none 0 0] 26))
 clear HS1
 go_wp2_with fail
 refine cmo (typ_calls c hc _ (ts) HS2.out.ps) ?_
 rintro e9 w1 ⟨hkp, hp9⟩
 rcases bnd_some HB.out with ⟨l, k, er, he, rfl⟩ | ⟨t, ts2, he, hB9⟩
 ·
  rw [Option.some.inj he] at hp9
  subst hp9
  exact ⟨rfl, HS2.out.kp.trans hkp, rfl⟩
 ·
  rw [Option.some.inj he] at hp9
  obtain ⟨rfl, hk_t, hps9⟩ := hp9
  have HK_t := hid hk_t
  clear hk_t
  have HB2 := hid hB9
  clear hB9
  have HS3 := hid (HS2.out.call hkp hps9)
  clear HS2
  have hz1 := hkp.size_le
  try simp only [WZ] at hz1
  unfold nodeV
  clear hkp hps9 he HB
  go_wp2_with fail
  have HS4 := hid (HS3.out.alloc (.cells #[.string t.kind, .string t.text, .int .u64 t.num, .int .i64 t.line, .int .i64 t.col, .slice none 0 0] 26))
  clear HS3
  refine cmo (name_calls c hc _ (ts2) HS4.out.ps) ?_
  rintro e9 w2 ⟨hkp, hp9⟩
  rcases bnd_some HB2.out with ⟨l, k, er, he, rfl⟩ | ⟨n, ts3, he, hB9⟩
  ·
   rw [Option.some.inj he] at hp9
   subst hp9
   exact ⟨rfl, HS4.out.kp.trans hkp, rfl⟩
  ·
   rw [Option.some.inj he] at hp9
   obtain ⟨rfl, hk_n, hps9⟩ := hp9
   have HK_n := hid hk_n
   clear hk_n
   have HB3 := hid hB9
   clear hB9
   have HS5 := hid (HS4.out.call hkp hps9)
   clear HS4
   have hz2 := hkp.size_le
   try simp only [WZ] at hz2
   unfold nodeV
   clear hkp hps9 he HB2
   obtain ⟨t0, t1, t2, t3, t4, t5, tf⟩ := cells6 HS5.out.h0
   obtain ⟨r0, r1, r2, r3, r4, r5, rf⟩ := cells6 HS5.out.h1
   have hzz : w1.heap.size < w2.heap.size := lt_of_heap HS5.out.h0
   go_wp2_with fail
   rw [(Option.some.inj HB3.out).symm]
   trace_state
   exact ret_sta hc (n := ⟨⟨#[112, 97, 114, 97, 109]⟩, n.text, 0, t.line, t.col, [t]⟩) (A := some ⟨w2.heap.size + 1, 0, none⟩) (cap := 1) (base := w1.heap.size) Tryz.results60 (by rfl) (by have h9 := ((HS5.out.alloc (.cells #[.string n.kind, .string n.text, .int .u64 n.num, .int .i64 n.line, .int .i64 n.col, .slice none 0 0] 26)).nilK HK_t.out w1.heap.size (by omega)).made1 (by simp; omega); rw [World.size_alloc] at h9; exact h9.rot) (by omega) (by omega) (by simp <;> omega)
set_option maxRecDepth 20000 in
set_option maxHeartbeats 400000 in
theorem condition_calls (c : PC) (hc : c.Ok) (g : Nat) (w : World) (d : Int) (ts : List Tok) (r : PR Node) (h : condF g d ts = some r) (hps : PS c w ts) (h0 : 0 ≤ d) (h1 : d ≤ 60) : Calls Tryz.prog 105 #[.pointer (some ⟨c.p, 0, none⟩), .int .i64 d] w (PostN c w r) := by
 have hlt := hps.lt
 have HB := hid h
 clear h
 unfold condF at HB
 have HS1 := hid (Sta.start hps)
 clear hps
 go_enter Tryz.func105, Tryz.ntmps105
 have HS2 := hid (HS1.out.alloc (.cells #[.string ⟨#[]⟩, .string ⟨#[]⟩, .int .u64 0, .int .i64 0, .int .i64 0, .slice none 0 0] 26))
 clear HS1
 go_wp2_with fail
 refine cmo (need_calls c hc _ (ts) ⟨#[40]⟩ HS2.out.ps) ?_
 rintro e9 w1 ⟨hkp, hp9⟩
 rcases bnd_some HB.out with ⟨l, k, er, he, rfl⟩ | ⟨t1, ts2, he, hB9⟩
 ·
  rw [Option.some.inj he] at hp9
  subst hp9
  exact ⟨rfl, HS2.out.kp.trans hkp, rfl⟩
 ·
  rw [Option.some.inj he] at hp9
  obtain ⟨rfl, hps9⟩ := hp9
  have HB2 := hid hB9
  clear hB9
  have HS3 := hid (HS2.out.call hkp hps9)
  clear HS2
  have hz1 := hkp.size_le
  try simp only [WZ] at hz1
  clear hkp hps9 he HB
  go_wp2_with fail
  rcases bnd_some HB2.out with ⟨l, k, er, he, rfl⟩ | ⟨n, ts3, he, hB9⟩
  ·
   refine cmo ((exprs_ok c hc g).expr _ d _ _ he HS3.out.ps h0 (by omega)) ?_
   rintro e9 w99 ⟨hkp, rfl⟩
   exact ⟨rfl, HS3.out.kp.trans hkp, rfl⟩
  ·
   have HB3 := hid hB9
   clear hB9
   refine cmo ((exprs_ok c hc g).expr _ d _ _ he HS3.out.ps h0 (by omega)) ?_
   clear he
   rintro e9 w2 ⟨hkp, hpt, An, capn, rfl, hR⟩
   have HS4 := hid (HS3.out.got hkp hpt (Nat.le_refl _) hR)
   clear HS3
   have hz2 := hkp.size_le
   try simp only [WZ] at hz2
   unfold nodeV
   clear hkp hpt hR HB2
   go_wp2_with fail
   have HS5 := hid (HS4.out.alloc (.cells #[.string n.kind, .string n.text, .int .u64 n.num, .int .i64 n.line, .int .i64 n.col, .slice An n.kids.length capn] 26))
   clear HS4
   refine cmo (need_calls c hc _ (ts3) ⟨#[41]⟩ HS5.out.ps) ?_
   rintro e9 w3 ⟨hkp, hp9⟩
   rcases bnd_some HB3.out with ⟨l, k, er, he, rfl⟩ | ⟨t2, ts4, he, hB9⟩
   ·
    rw [Option.some.inj he] at hp9
    subst hp9
    exact ⟨rfl, HS5.out.kp.trans hkp, rfl⟩
   ·
    rw [Option.some.inj he] at hp9
    obtain ⟨rfl, hps9⟩ := hp9
    have HB4 := hid hB9
    clear hB9
    have HS6 := hid (HS5.out.call hkp hps9)
    clear HS5
    have hz3 := hkp.size_le
    try simp only [WZ] at hz3
    clear hkp hps9 he HB3
    have hzz : w2.heap.size < w3.heap.size := lt_of_heap HS6.out.h0
    obtain ⟨n0, n1, n2, n3, n4, n5, nf⟩ := cells6 HS6.out.h0
    obtain ⟨r0, r1, r2, r3, r4, r5, rf⟩ := cells6 HS6.out.h1
    go_wp2_with fail
    rw [(Option.some.inj HB4.out).symm]
    exact ret_sta hc (n := n) (A := An) (cap := capn) (base := w1.heap.size) Tryz.results105 (by rfl) HS6.out.swap (by omega) (by omega) (by simp <;> omega)
end Go.Proofs.YtdimhoilfopndaaGreatDoor
end
section
namespace Go.Proofs.YtdimhoilfopndaaGreatDoor
open Go.RowKit Go.Proofs.YtdimhoilfopndaaGreatDoorW.PrintWords
set_option maxRecDepth 20000 in
set_option maxHeartbeats 400000 in
theorem list_par (c : PC) (hc : c.Ok) (w : World) (hs0 : List (Nat × Obj)) (one : List Tok → Option (PR Node)) (g : Nat) (hg : g ≤ 1000000000) (hone : ∀ W ts r, one ts = some r → PS c W ts → (∀ p ∈ hs0, W.heap[p.1]? = some p.2) → Calls Tryz.prog 60 #[.pointer (some ⟨c.p, 0, none⟩)] W (PostN c W r)) (ts : List Tok) (r : PR (List Node)) (h : listsF one g ts = some r) (hps : PS c w ts) (hheld : ∀ p ∈ hs0, w.heap[p.1]? = some p.2 ∧ p.1 ≠ c.p) : Calls Tryz.prog 59 #[.pointer (some ⟨c.p, 0, none⟩), .func (.func 60) #[.pointer (some ⟨c.p, 0, none⟩)] #[]] w (PostL c w r) := by
 have hlt := hps.lt
 have HB := hid h
 clear h
 unfold listsF at HB
 have HS0 : Hid (Sta c w w ts hs0 [(w.heap.size, .slice none 0 0, [])]) := hid ⟨hps, Kp.refl c w, hlt, hheld, fun q hq => by obtain rfl := List.mem_singleton.mp hq; exact ⟨Kd.R_nil _ _ _ _ _, hlt⟩⟩
 clear hps hheld
 go_enter Tryz.func59, Tryz.ntmps59
 go_wp2_with fail
 refine cmo (take_calls c hc _ ts ⟨#[41]⟩ HS0.out.ps) ?_
 rintro e9 w1 ⟨rfl, hpt, hkt⟩
 cases hb : isF ts ⟨#[41]⟩
 ·
  have HB2 : Hid (listF one g [] ts = some r) := hid (by have h9 := HB.out; rw [hb] at h9; exact h9)
  have hpt2 : PS c w1 ts := by rw [hb] at hpt; exact hpt
  have HS1 := hid (HS0.out.call hkt hpt2)
  clear HS0 hpt hkt hpt2 HB
  go_wp2_with fail
  go_loopg [5] g (fun q lv wr => ∃ (l : List Node) (ts2 : List Tok), q + l.length = g ∧ Hid (listF one q l ts2 = some r) ∧ Hid (Sta c w wr ts2 hs0 [(w.heap.size, lv, l)]))
  case atStart => exact ⟨[], ts, rfl, HB2, HS1⟩
  case round =>
   obtain ⟨l, ts2, hq, HL, HS2⟩ := hrel
   clear HB2 HS1
   cases gk with
   | zero => exact absurd HL.out (by simp [listF])
   | succ q =>
   have HL2 : Hid (bnd (one ts2) (fun n r' => if isF r' ⟨#[41]⟩ then some (.ok (l ++ [n]) r'.tail) else if isF r' ⟨#[44]⟩ then listF one q (l ++ [n]) r'.tail else some (badAt r' 30)) = some r) := hid HL.out
   clear HL
   obtain ⟨A, cp, rfl⟩ := Kd.R_slice HS2.out.r0
   have HVB := Kd.R_lt HS2.out.r0
   have hzr := HS2.out.size
   go_wp2_with fail
   rcases bnd_some HL2.out with ⟨l9, k9, er, he, rfl⟩ | ⟨n, ts3, he, hB9⟩
   ·
    refine cmo (hone _ ts2 _ he HS2.out.ps (fun p hp => (HS2.out.held p hp).1)) ?_
    rintro e9 w99 ⟨hkp, rfl⟩
    exact ⟨rfl, HS2.out.kp.trans hkp, rfl⟩
   have HL3 := hid hB9
   clear hB9 HL2
   refine cmo (hone _ ts2 _ he HS2.out.ps (fun p hp => (HS2.out.held p hp).1)) ?_
   rintro e9 w3 ⟨hkp, hpt, An, capn, rfl, hR⟩
   have HS3 := (HS2.out.got hkp hpt (Nat.le_refl _) hR)
   have hz3 : wr.heap.size ≤ w3.heap.size := hkp.size_le
   unfold nodeV
   clear hkp hpt hR HS2 he
   go_wp2_with ((with_reducible refine gate_app (xs := #[.tmp 8, .tmp 11]) rfl ?_); at_builtin; go_loud (refine Kd.R_append kNode (w0 := w3) (W := w3) w.heap.size rfl (.tmp 8) (.tmp 11) 24 26 (.agg #[.string ⟨#[]⟩, .string ⟨#[]⟩, .int .u64 0, .int .i64 0, .int .i64 0, .slice none 0 0]) 80 rfl Tryz.underlying24 node_info rfl (by decide) (by decide) (.slice A l.length cp) l n [.string n.kind, .string n.text, .int .u64 n.num, .int .i64 n.line, .int .i64 n.col, (.slice An n.kids.length capn)] _ _ rfl rfl (app_M HS3) (app_ne HS3 HVB) (app_fresh HS3) HS3.r1 (Below.refl _ _) ?aS ?aL ?_; (case aS => omega); (case aL => omega); intro v9 w9 hR9 _ hg9 _; have HS4 := hid (Sta.appended hc HS3 (by omega) hg9 hR9); clear hR9 hg9))
   refine cmo (take_calls c hc _ ts3 ⟨#[41]⟩ HS4.out.ps) ?_
   rintro e9 w10 ⟨rfl, hpt, hkt⟩
   cases hb3 : isF ts3 ⟨#[41]⟩
   ·
    have hpt2 : PS c w10 ts3 := by rw [hb3] at hpt; exact hpt
    have HS5 := hid (HS4.out.call hkt hpt2)
    have HL4 : Hid ((if isF ts3 ⟨#[44]⟩ then listF one q (l ++ [n]) ts3.tail else some (badAt ts3 30)) = some r) := hid (by have h9 := HL3.out; rw [hb3] at h9; exact h9)
    clear HS4 hkt hpt hpt2 HL3
    go_wp2_with fail
    refine cmo (is_gives c hc _ ts3 ⟨#[44]⟩ HS5.out.ps) ?_
    rintro e9 w11 ⟨rfl, hov⟩
    have HS6 := hid (HS5.out.isOv hov)
    clear hov HS5
    cases hb4 : isF ts3 ⟨#[44]⟩
    ·
     have HR : Hid (r = .bad (nowT ts3).line (nowT ts3).col 30) := hid (by have h9 := HL4.out; rw [hb4] at h9; exact (Option.some.inj h9).symm)
     go_wp2_with fail
     refine cmo (give_calls c hc _ ts3 30 HS6.out.ps) ?_
     rintro e9 w99 ⟨rfl, hpt, hkp⟩
     rw [HR.out]
     exact ⟨rfl, HS6.out.kp.trans hkp, rfl⟩
    ·
     have HL5 : Hid (listF one q (l ++ [n]) ts3.tail = some r) := hid (by have h9 := HL4.out; rw [hb4] at h9; exact h9)
     obtain ⟨j, hp, hj, hsn⟩ := HS6.out.next hc (isF_kind hb4)
     have HS7 := hid hsn
     obtain ⟨p0, p1, pf⟩ := cells2 hp
     clear hp hsn HL4
     go_wp2_with fail
     go_roundg q
     case rel => exact ⟨l ++ [n], ts3.tail, by simp; omega, HL5, HS7⟩
     case measure => omega
   ·
    have hpt2 : PS c w10 ts3.tail := by rw [hb3] at hpt; exact hpt
    have HS5 := hid (HS4.out.call hkt hpt2)
    have HR : Hid (r = .ok (l ++ [n]) ts3.tail) := hid (by have h9 := HL3.out; rw [hb3] at h9; exact (Option.some.inj h9).symm)
    clear HS4 hkt hpt hpt2 HL3
    go_wp2_with fail
    rw [HR.out]
    exact bodyPost_ret (v := v9) (by simp [results, Tryz.results59, go_sem, ↓IntWalk.iteOmega]) rfl ⟨HS5.out.kp, HS5.out.ps, v9, rfl, Kd.R_mono HS5.out.r0 (fun _ _ => trivial)⟩
 ·
  have HR : Hid (r = .ok [] ts.tail) := hid (by have h9 := HB.out; rw [hb] at h9; exact (Option.some.inj h9).symm)
  have hpt2 : PS c w1 ts.tail := by rw [hb] at hpt; exact hpt
  have HS1 := hid (HS0.out.call hkt hpt2)
  clear HS0 hkt hpt hpt2 HB
  go_wp2_with fail
  rw [HR.out]
  exact bodyPost_ret (v := .slice none 0 0) (by simp [results, Tryz.results59, go_sem, ↓IntWalk.iteOmega]) rfl ⟨HS1.out.kp, HS1.out.ps, _, rfl, R_nilN _ _⟩
end Go.Proofs.YtdimhoilfopndaaGreatDoor
end
