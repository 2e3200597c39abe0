/- Texts of one proof, put together: Py Pz PA PB PD PE PF PG. Conditions: as each lemma says. -/
import Derived.Recover
import Derived.Defers
import Derived.Laws.Pointers
import Derived.Test.YtdimhoilfopndaaGreatDoorA10
import Derived.Test.YtdimhoilfopndaaGreatDoorA7
import Derived.Test.YtdimhoilfopndaaGreatDoorA9
set_option linter.unusedVariables false
set_option linter.unusedSimpArgs false
section
namespace Go.Proofs.YtdimhoilfopndaaGreatDoor
open Go.RowKit Go.Proofs.YtdimhoilfopndaaGreatDoorW.PrintWords
theorem PS.setOther {c : PC} {w : World} {ts : List Tok} (h : PS c w ts) {b i : Nat} (hb : c.W.heap.size ≤ b) (hne : b ≠ c.p) (u : Value) : PS c (w.setCell ⟨b, i, none⟩ u) ts := by
 obtain ⟨h1, k, h2, h3, h4⟩ := h
 refine ⟨h1.setCell (p := ⟨b, i, none⟩) hb u, k, h2, h3, ?_⟩
 rw [heap_setCell_ne (fun e => hne e.symm)]; exact h4
abbrev WrS (b : Nat) (l k er : Int) (w' : World) : Prop := w'.cell? ⟨b, 0, none⟩ = some (.int .i64 l) ∧ w'.cell? ⟨b, 1, none⟩ = some (.int .i64 k) ∧ w'.cell? ⟨b, 2, none⟩ = some (.int .i64 er)
theorem wr_cells {W w : World} {l k er : Int} (h : W.heap.size = w.heap.size) : WrS w.heap.size l k er (W.alloc (.cells #[.int .i64 l, .int .i64 k, .int .i64 er] 65)).drew := by
 rw [← h]
 exact ⟨cell_of_heap (heap_alloc_new W _) 0, cell_of_heap (heap_alloc_new W _) 1, cell_of_heap (heap_alloc_new W _) 2⟩
theorem catch_idle (a0 a1 a2 a3 : Value) (w : World) :
  CallsD Tryz.prog 29 #[a0, a1, a2, a3] .returning w fun e u' w' => e = .returned (.tuple #[]) ∧ u' = .returning ∧ w' = w := by
 refine callsD_of_wpS Tryz.func29 rfl fun c₀ cs hu => ?_
 apply wpS_seq
 apply wpS_region
 simp [wpOpsS, go_sem, recoverD, hu, Tryz.ntmps29, Exit.thenS]
 apply wpS_seq
 apply wpS_region
 simp [wpOpsS, go_sem, Exit.thenS]
 refine wpS_cond (t := false) (by simp [Act.eval]) ?_
 simp only [Bool.false_eq_true, if_false]
 refine wpS_of_wp (wp_skip ?_)
 cases c₀
 simp_all [bodyPostS, results, Tryz.results29]
set_option maxRecDepth 20000 in
set_option maxHeartbeats 800000 in
theorem catch_wrong (b0 b1 b2 b3 : Nat) (l k er : Int) (x0 x1 x2 x3 x4 x5 y1 y2 y3 : Value) (older : List PanicEntry) (w0 w : World) (hov : IsOv w0 w) (h0 : w.heap[b0]? = some (.cells #[x0, x1, x2, x3, x4, x5] 26 (0, 0))) (h1 : w.heap[b1]? = some (.cells #[y1] 3 (0, 0))) (h2 : w.heap[b2]? = some (.cells #[y2] 3 (0, 0))) (h3 : w.heap[b3]? = some (.cells #[y3] 27 (0, 0)))
  (g0 : w0.heap.size ≤ b0) (g1 : b0 < b1) (g2 : b1 < b2) (g3 : b2 < b3) :
  CallsD Tryz.prog 29 #[.pointer (some ⟨b0, 0, none⟩), .pointer (some ⟨b1, 0, none⟩), .pointer (some ⟨b2, 0, none⟩), .pointer (some ⟨b3, 0, none⟩)] (.panicking ({ v := .iface 65 (.agg #[.int .i64 l, .int .i64 k, .int .i64 er]), recovered := false } :: older)) w fun e u' w' =>
   e = .returned (.tuple #[]) ∧ u' = .panicking ({ v := .iface 65 (.agg #[.int .i64 l, .int .i64 k, .int .i64 er]), recovered := true } :: older) ∧ IsOv w0 w' ∧ w'.heap[b0]? = some (.cells #[.string ⟨#[]⟩, .string ⟨#[]⟩, .int .u64 0, .int .i64 0, .int .i64 0, .slice none 0 0] 26) ∧ w'.heap[b1]? = some (.cells #[.int .i64 l] 3 (0, 0)) ∧ w'.heap[b2]? = some (.cells #[.int .i64 k] 3 (0, 0)) ∧ w'.heap[b3]? = some (.cells #[.int .i64 er] 27 (0, 0)) := by
 have k0 := lt_of_heap h0
 have k1 := lt_of_heap h1
 have k2 := lt_of_heap h2
 have k3 := lt_of_heap h3
 refine callsD_of_wpS Tryz.func29 rfl fun c₀ cs hu => ?_
 apply wpS_seq
 apply wpS_region
 simp [wpOpsS, go_sem, recoverD, hu, Tryz.ntmps29, Exit.thenS]
 apply wpS_seq
 apply wpS_region
 simp [wpOpsS, go_sem, Exit.thenS]
 refine wpS_cond (t := true) (by simp [Act.eval]) ?_
 simp only [if_true]
 refine wpS_of_wp ?_
 have hex0 : ∀ W : World, (Instr.extract (.tuple #[.agg #[.int .i64 l, .int .i64 k, .int .i64 er], .bool true]) 0).run Tryz.prog W = .ok (.agg #[.int .i64 l, .int .i64 k, .int .i64 er]) W := fun _ => rfl
 have hex1 : ∀ W : World, (Instr.extract (.tuple #[.agg #[.int .i64 l, .int .i64 k, .int .i64 er], .bool true]) 1).run Tryz.prog W = .ok (.bool true) W := fun _ => rfl
 have hta : ∀ W : World, (Instr.typeAssert (.iface 65 (.agg #[.int .i64 l, .int .i64 k, .int .i64 er])) 20 65 true).run Tryz.prog W = .ok (.tuple #[.agg #[.int .i64 l, .int .i64 k, .int .i64 er], .bool true]) W := fun _ => by kernel_rfl
 simp only [← List.toArray_replicate, List.replicate, List.append_toArray, List.setIfInBounds_toArray, List.set_cons_zero, List.set_cons_succ, List.cons_append, List.nil_append]
 obtain ⟨a0, a1, a2, a3, a4, a5, af⟩ := cells6 h0
 obtain ⟨d0, df⟩ := cells1 h1
 obtain ⟨e0, ef⟩ := cells1 h2
 obtain ⟨f0, ff⟩ := cells1 h3
 go_wp2_with fail
 have hS0 : WrS w.heap.size l k er (w.alloc (.cells #[.int .i64 l, .int .i64 k, .int .i64 er] 65)).drew := wr_cells rfl
 refine wp_region_K (fun w' => WrS w.heap.size l k er w') (fun j => false) (by kernel_rfl) ?_
 refine wpAnyK_take (i := 0) (v := ?_) rfl (by kernel_rfl) (by kernel_rfl) (by kernel_rfl) (by kernel_rfl) (fun _ _ _ h => h) (Or.inl ⟨by rfl, ?_⟩) hS0 ?_
 rotate_left
 · intro w9 hSw; (try dsimp only at hSw); go_simp; (try with_reducible rfl)
 try simp only [Act.put, List.setIfInBounds_toArray, List.set_cons_zero, List.set_cons_succ]
 refine wpAnyK_take (i := 1) (v := ?_) rfl (by kernel_rfl) (by kernel_rfl) (by kernel_rfl) (by kernel_rfl) (fun _ _ _ h => h) (Or.inl ⟨by rfl, ?_⟩) hS0 ?_
 rotate_left
 · intro w9 hSw; (try dsimp only at hSw); go_simp; (try with_reducible rfl)
 try simp only [Act.put, List.setIfInBounds_toArray, List.set_cons_zero, List.set_cons_succ]
 refine wpAnyK_take (i := 2) (v := ?_) rfl (by kernel_rfl) (by kernel_rfl) (by kernel_rfl) (by kernel_rfl) (fun _ _ _ h => h) (Or.inl ⟨by rfl, ?_⟩) hS0 ?_
 rotate_left
 · intro w9 hSw; (try dsimp only at hSw); go_simp; (try with_reducible rfl)
 try simp only [Act.put, List.setIfInBounds_toArray, List.set_cons_zero, List.set_cons_succ]
 refine wpAnyK_take (i := 3) (v := ?_) rfl (by kernel_rfl) (by kernel_rfl) (by kernel_rfl) (by kernel_rfl) (fun _ _ _ h => h) (Or.inl ⟨by rfl, ?_⟩) hS0 ?_
 rotate_left
 · intro w9 hSw; (try dsimp only at hSw); go_simp; (try with_reducible rfl)
 try simp only [Act.put, List.setIfInBounds_toArray, List.set_cons_zero, List.set_cons_succ]
 refine wpAnyK_take (i := 4) (v := ?_) rfl (by kernel_rfl) (by kernel_rfl) (by kernel_rfl) (by kernel_rfl) (fun _ _ _ h => h) (Or.inl ⟨by rfl, ?_⟩) hS0 ?_
 rotate_left
 · intro w9 hSw; (try dsimp only at hSw); go_simp; (try with_reducible rfl)
 try simp only [Act.put, List.setIfInBounds_toArray, List.set_cons_zero, List.set_cons_succ]
 refine wpAnyK_take (i := 5) (v := ?_) rfl (by kernel_rfl) (by kernel_rfl) (by kernel_rfl) (by kernel_rfl) (fun _ _ _ h => h) (Or.inl ⟨by rfl, ?_⟩) hS0 ?_
 rotate_left
 · intro w9 hSw; (try dsimp only at hSw); go_simp; (try with_reducible rfl)
 try simp only [Act.put, List.setIfInBounds_toArray, List.set_cons_zero, List.set_cons_succ]
 refine wpAnyK_take (i := 6) (v := ?_) rfl (by kernel_rfl) (by kernel_rfl) (by kernel_rfl) (by kernel_rfl) (fun _ _ _ h => h) (Or.inl ⟨by rfl, ?_⟩) hS0 ?_
 rotate_left
 · intro w9 hSw; (try dsimp only at hSw); go_simp; (try with_reducible rfl)
 try simp only [Act.put, List.setIfInBounds_toArray, List.set_cons_zero, List.set_cons_succ]
 refine wpAnyK_one (i := 7) (by kernel_rfl) rfl (fun K hK => ?_)
 go_simp
 go_wp2_with fail
 refine hK.out _ _ (fun _ => wr_cells (by simp only [World.size_setCell])) ?_
 clear hK K
 refine wpAnyK_one (i := 8) (by kernel_rfl) rfl (fun K hK => ?_)
 go_simp
 go_wp2_with fail
 refine hK.out _ _ (fun _ => wr_cells (by simp only [World.size_setCell])) ?_
 clear hK K
 refine wpAnyK_one (i := 9) (by kernel_rfl) rfl (fun K hK => ?_)
 go_simp
 go_wp2_with fail
 refine hK.out _ _ (fun _ => wr_cells (by simp only [World.size_setCell])) ?_
 clear hK K
 refine wpAnyK_one (i := 10) (by kernel_rfl) rfl (fun K hK => ?_)
 go_simp
 go_wp2_with fail
 refine hK.out _ _ (fun _ => wr_cells (by simp only [World.size_setCell])) ?_
 clear hK K
 refine wpAnyK_done (by kernel_rfl) ?_ _
 refine ⟨rfl, _, rfl, .tuple #[], by simp [results, Tryz.results29], rfl, rfl, ?_, ?_, ?_, ?_, ?_⟩
 · repeat (first | with_reducible exact hov | with_reducible apply IsOv.drew | with_reducible apply IsOv.alloc | with_reducible refine IsOv.setCell ?_ (by dsimp only; omega) _)
 · exact hs_drew (hs_alloc (hs_far (hs_far (hs_far (heap_set6 h0 _ _ _ _ _ _) (by omega) _) (by omega) _) (by omega) _) _)
 · exact hs_drew (hs_alloc (hs_far (hs_far (hs_set (hs_far (hs_far (hs_far (hs_far (hs_far (hs_far h1 (by omega) _) (by omega) _) (by omega) _) (by omega) _) (by omega) _) (by omega) _) _) (by omega) _) (by omega) _) _)
 · exact hs_drew (hs_alloc (hs_far (hs_set (hs_far (hs_far (hs_far (hs_far (hs_far (hs_far (hs_far h2 (by omega) _) (by omega) _) (by omega) _) (by omega) _) (by omega) _) (by omega) _) (by omega) _) _) (by omega) _) _)
 · exact hs_drew (hs_alloc (hs_set (hs_far (hs_far (hs_far (hs_far (hs_far (hs_far (hs_far (hs_far h3 (by omega) _) (by omega) _) (by omega) _) (by omega) _) (by omega) _) (by omega) _) (by omega) _) (by omega) _) _) _)
end Go.Proofs.YtdimhoilfopndaaGreatDoor
end
section
namespace Go.Proofs.YtdimhoilfopndaaGreatDoor
open Go.RowKit Go.Proofs.YtdimhoilfopndaaGreatDoorW.PrintWords
section
variable {c : PC} {w W w1 : World} {ts : List Tok} {hs : List (Nat × Obj)} {rs : List (Nat × Value × List Node)} {b1 bl g cap : Nat} {u v v1 : Value} {ks ys xs : List Node} {n : Node}
theorem Sta.plt (h : Sta c w W ts hs rs) : c.p < W.heap.size := h.ps.lt
theorem Sta.re (h : Sta c w W ts hs rs) : Sta c W W ts hs rs := ⟨h.ps, Kp.refl c W, h.plt, h.held, h.rows⟩
theorem Sta.setR {b : Nat} {cs : Array Value} {T : TypeId} (h : Sta c w W ts ((b, .cells cs T) :: hs) rs) (hb : c.W.heap.size ≤ b) (hne : b ≠ c.p) (hh : ∀ p ∈ hs, p.1 ≠ b) (i : Nat) (v : Value) : Sta c (W.setCell ⟨b, i, none⟩ v) (W.setCell ⟨b, i, none⟩ v) ts ((b, .cells (cs.setIfInBounds i v) T) :: hs) rs := by
 have hps := h.ps.setOther (i := i) hb hne v
 refine ⟨hps, Kp.refl c _, hps.lt, fun p hp => ?_, fun q hq => ⟨Kd.R_mono (R_setP (h.rows q hq).1 (fun k hk => hk _ (List.mem_cons_self ..)) v) (fun k hk p hp => ?_), (h.rows q hq).2⟩⟩
 ·
  rcases List.mem_cons.mp hp with rfl | hp
  · exact ⟨hs_set h.h0 v, hne⟩
  ·
   have := h.held p (List.mem_cons_of_mem _ hp)
   exact ⟨hs_far this.1 (hh p hp) v, this.2⟩
 ·
  rcases List.mem_cons.mp hp with rfl | hp
  · exact hk (b, .cells cs T) (List.mem_cons_self ..)
  · exact hk p (List.mem_cons_of_mem _ hp)
theorem Sta.setR6 {b : Nat} {x0 x1 x2 x3 x4 x5 : Value} {T : TypeId} (h : Sta c w W ts ((b, .cells #[x0, x1, x2, x3, x4, x5] T) :: hs) rs) (hb : c.W.heap.size ≤ b) (hne : b ≠ c.p) (hh : ∀ p ∈ hs, p.1 ≠ b) (a0 a1 a2 a3 a4 a5 : Value) :
  Sta c ((((((W.setCell ⟨b, 0, none⟩ a0).setCell ⟨b, 1, none⟩ a1).setCell ⟨b, 2, none⟩ a2).setCell ⟨b, 3, none⟩ a3).setCell ⟨b, 4, none⟩ a4).setCell ⟨b, 5, none⟩ a5) ((((((W.setCell ⟨b, 0, none⟩ a0).setCell ⟨b, 1, none⟩ a1).setCell ⟨b, 2, none⟩ a2).setCell ⟨b, 3, none⟩ a3).setCell ⟨b, 4, none⟩ a4).setCell ⟨b, 5, none⟩ a5) ts ((b, .cells #[a0, a1, a2, a3, a4, a5] T) :: hs) rs :=
 ((((((h.setR hb hne hh 0 a0).setR hb hne hh 1 a1).setR hb hne hh 2 a2).setR hb hne hh 3 a3).setR hb hne hh 4 a4).setR hb hne hh 5 a5).as rfl
theorem Sta.app3 (hc : c.Ok) (h : Sta c w W ts hs [(b1, u, ks), (bl, v, xs)]) (hv : ∀ k, v.ownBlock = some k → k < b1) (hg : W.grownBy w1 v.ownBlock) (hR : kNode.R 26 w1 bl (fun k => ∀ p ∈ hs, k ≠ p.1) v1 (xs ++ ys)) (hat : v1.ownBlock = v.ownBlock ∨ ∃ b, v1.ownBlock = some b ∧ W.heap.size ≤ b) :
  Sta c w1 w1 ts hs [(bl, v1, xs ++ ys)] ∧ kNode.R 26 w1 b1 (fun k => (∀ p ∈ hs, k ≠ p.1) ∧ some k ≠ v1.ownBlock) u ks := by
 have hp := (h.rows (bl, v, xs) (by simp)).2
 have hown : ∀ b, v.ownBlock = some b → bl ≤ b := Kd.R_base h.r1
 have hps := h.ps.grown hc hg (fun b hb => by have := hown b hb; omega)
 refine ⟨⟨hps, Kp.refl c _, hps.lt, fun p hp => ⟨?_, (h.held p hp).2⟩, fun q hq => ?_⟩, ?_⟩
 ·
  rw [hg.block p.1 (h.heldLt p hp) (fun e => h.r1.1 p.1 e.symm p hp rfl)]
  exact (h.held p hp).1
 ·
  obtain rfl := List.mem_singleton.mp hq
  exact ⟨hR, hp⟩
 ·
  refine Kd.R_mono (Kd.R_grown (Kd.R_bound h.r0) hg (fun k hk e => by have := hv k e.symm; have := hk.2.1; omega)) (fun k hk => ⟨hk.1, fun e => ?_⟩)
  rcases hat with h9 | ⟨b, h9, h8⟩
  · have := hv k (by rw [← h9]; exact e.symm); have := hk.2.1; omega
  ·
   have e2 : k = b := by rw [h9] at e; exact Option.some.inj e
   have := hk.2.2.1; omega
theorem last_cells (h : Sta c w W ts hs [(bl, .slice (some ⟨g, 0, none⟩) (xs.length + 1) cap, xs ++ [zNode])]) : ∃ v5, W.cell? ⟨g, xs.length * 6, none⟩ = some (.string ⟨#[]⟩) ∧ W.cell? ⟨g, xs.length * 6 + 1, none⟩ = some (.string ⟨#[]⟩) ∧ W.cell? ⟨g, xs.length * 6 + 2, none⟩ = some (.int .u64 0) ∧ W.cell? ⟨g, xs.length * 6 + 3, none⟩ = some (.int .i64 0) ∧ W.cell? ⟨g, xs.length * 6 + 4, none⟩ = some (.int .i64 0) ∧ W.cell? ⟨g, xs.length * 6 + 5, none⟩ = some v5 ∧ (∀ i, W.frozen? ⟨g, i, none⟩ = false) ∧ c.p < g ∧ (∀ p ∈ hs, p.1 ≠ g) ∧ g < W.heap.size := by
 have hr := h.r0
 obtain ⟨cs, h1, h2, h3, h4⟩ := Kd.R_elem hr zNode (xs.length : Int) (by omega) (by omega)
 have hz : (xs ++ [zNode]).getD ((xs.length : Int)).toNat zNode = zNode := by
  rw [Int.toNat_natCast, List.getD_eq_getElem?_getD, List.getElem?_append_right (Nat.le_refl _)]; simp
 rw [hz] at h2
 obtain ⟨v5, rfl, _⟩ := kNode_openM h2
 obtain ⟨cells, hcl⟩ := Kd.R_typed hr g (by simp [Value.ownBlock])
 have hb := Kd.R_base hr g (by simp [Value.ownBlock])
 have hp := (h.rows _ (List.mem_cons_self ..)).2
 exact ⟨v5, h3 0 _ rfl, h3 1 _ rfl, h3 2 _ rfl, h3 3 _ rfl, h3 4 _ rfl, h3 5 _ rfl, frozen_of_heap hcl, Nat.lt_of_lt_of_le hp hb, fun p hp e => hr.1 g (by simp [Value.ownBlock]) p hp e.symm, lt_of_heap hcl⟩
theorem Sta.last (hc : c.Ok) (h : Sta c w W ts hs [(bl, .slice (some ⟨g, 0, none⟩) (xs.length + 1) cap, xs ++ [zNode])]) (hU : kNode.R 26 W b1 (fun k => (∀ p ∈ hs, k ≠ p.1) ∧ some k ≠ (Value.slice (some ⟨g, 0, none⟩) (xs.length + 1) cap).ownBlock) u n.kids) (hb : bl ≤ b1) :
  Sta c ((((((W.setCell ⟨g, xs.length * 6, none⟩ (.string n.kind)).setCell ⟨g, xs.length * 6 + 1, none⟩ (.string n.text)).setCell ⟨g, xs.length * 6 + 2, none⟩ (.int .u64 n.num)).setCell ⟨g, xs.length * 6 + 3, none⟩ (.int .i64 n.line)).setCell ⟨g, xs.length * 6 + 4, none⟩ (.int .i64 n.col)).setCell ⟨g, xs.length * 6 + 5, none⟩ u) ((((((W.setCell ⟨g, xs.length * 6, none⟩ (.string n.kind)).setCell ⟨g, xs.length * 6 + 1, none⟩ (.string n.text)).setCell ⟨g, xs.length * 6 + 2, none⟩ (.int .u64 n.num)).setCell ⟨g, xs.length * 6 + 3, none⟩ (.int .i64 n.line)).setCell ⟨g, xs.length * 6 + 4, none⟩ (.int .i64 n.col)).setCell ⟨g, xs.length * 6 + 5, none⟩ u) ts hs [(bl, .slice (some ⟨g, 0, none⟩) (xs.length + 1) cap, xs ++ [n])] := by
 have hr := h.r0
 obtain ⟨cs, h1, h2, h3, h4⟩ := Kd.R_elem hr zNode (xs.length : Int) (by omega) (by omega)
 obtain ⟨v5, _, _, _, _, _, _, _, hpg, hpn, _⟩ := last_cells h
 have hp9 := (h.rows _ (List.mem_cons_self ..)).2
 obtain ⟨h5, h6⟩ := Kd.R_seg (okp := fun k => (∀ p ∈ hs, k ≠ p.1) ∧ some k ≠ (Value.slice (some ⟨g, 0, none⟩) (xs.length + 1) cap).ownBlock) (j := 0) (seg := [.string n.kind, .string n.text, .int .u64 n.num, .int .i64 n.line, .int .i64 n.col, u]) (x' := n) hr (xs.length : Int) (by omega) (by omega) h1 h3 (Nat.le_refl 6) (by
  have hl : cs.length = 6 := h1
  rw [List.take_zero, List.nil_append, List.drop_eq_nil_of_le (by simp [hl]), List.append_nil]
  exact M_nodeP (Kd.R_lower hU hb)) (fun k hk => ⟨hk.1, fun e => hk.2 (by rw [e]; simp [Value.ownBlock])⟩)
 have h7 : (xs ++ [zNode]).set ((xs.length : Int)).toNat n = xs ++ [n] := by simp
 rw [h7] at h5
 have hg : c.W.heap.size ≤ g := by have := hc.hp; omega
 have hgp : g ≠ c.p := by omega
 have hps : PS c ((((((W.setCell ⟨g, xs.length * 6, none⟩ (.string n.kind)).setCell ⟨g, xs.length * 6 + 1, none⟩ (.string n.text)).setCell ⟨g, xs.length * 6 + 2, none⟩ (.int .u64 n.num)).setCell ⟨g, xs.length * 6 + 3, none⟩ (.int .i64 n.line)).setCell ⟨g, xs.length * 6 + 4, none⟩ (.int .i64 n.col)).setCell ⟨g, xs.length * 6 + 5, none⟩ u) ts := (((((h.ps.setOther hg hgp _).setOther hg hgp _).setOther hg hgp _).setOther hg hgp _).setOther hg hgp _).setOther hg hgp _
 refine ⟨hps, Kp.refl c _, hps.lt, fun p hp => ⟨?_, (h.held p hp).2⟩, fun q hq => ?_⟩
 ·
  have hne := hpn p hp
  exact hs_far (hs_far (hs_far (hs_far (hs_far (hs_far (h.held p hp).1 hne _) hne _) hne _) hne _) hne _) hne _
 ·
  obtain rfl := List.mem_singleton.mp hq
  exact ⟨h5, hp9⟩
end
theorem zero_row {W : World} {zb : Nat} (h : W.heap[zb]? = some (.cells #[.string ⟨#[]⟩, .string ⟨#[]⟩, .int .u64 0, .int .i64 0, .int .i64 0, .slice none 0 0] 26)) : ReadsRow (fun (x : Node) cs => x = zNode ∧ cs = [.string ⟨#[]⟩, .string ⟨#[]⟩, .int .u64 0, .int .i64 0, .int .i64 0, .slice none 0 0]) kNode.sz W (some ⟨zb, 0, none⟩) 1 [zNode] := by
 refine ⟨rfl, by omega, fun _ => ⟨_, rfl, fun j p hj => ?_⟩⟩
 match j, hj with
 | 0, hj =>
  obtain rfl := (Option.some.inj hj).symm
  refine ⟨_, rfl, ⟨rfl, rfl⟩, fun i u hu => ?_⟩
  rw [add_plain, Nat.zero_mul, Nat.zero_add]
  have h9 := cell_of_heap h i
  have h8 : (#[.string ⟨#[]⟩, .string ⟨#[]⟩, .int .u64 0, .int .i64 0, .int .i64 0, .slice none 0 0] : Array Value)[i]? = some u := by simpa using hu
  rw [h8] at h9
  simpa using h9
 | j + 1, hj => simp at hj
theorem zero_M {W : World} {bl : Nat} (x : Node) (cs : List Value) (h : x = zNode ∧ cs = [.string ⟨#[]⟩, .string ⟨#[]⟩, .int .u64 0, .int .i64 0, .int .i64 0, .slice none 0 0]) : kNode.M W bl (fun _ => False) x cs := by
 obtain ⟨rfl, rfl⟩ := h
 exact kNode_mkM W bl _ zNode (Kd.R_nil _ _ _ _ _)
theorem results4 {tmps : Array Value} {W : World} {b0 b1 b2 b3 : Nat} {x0 x1 x2 x3 x4 x5 : Value} {a b d : Int} (t2 : tmps.getD 2 undef = .pointer (some ⟨b0, 0, none⟩)) (t3 : tmps.getD 3 undef = .pointer (some ⟨b1, 0, none⟩)) (t4 : tmps.getD 4 undef = .pointer (some ⟨b2, 0, none⟩)) (t5 : tmps.getD 5 undef = .pointer (some ⟨b3, 0, none⟩))
  (h0 : W.heap[b0]? = some (.cells #[x0, x1, x2, x3, x4, x5] 26 (0, 0))) (h1 : W.heap[b1]? = some (.cells #[.int .i64 a] 3 (0, 0))) (h2 : W.heap[b2]? = some (.cells #[.int .i64 b] 3 (0, 0))) (h3 : W.heap[b3]? = some (.cells #[.int .i64 d] 27 (0, 0))) : (results Tryz.f19 tmps).run Tryz.prog W = .ok (.tuple #[.agg #[x0, x1, x2, x3, x4, x5], .int .i64 a, .int .i64 b, .int .i64 d]) W := by
 have c0 : W.cell? ⟨b0, 0, none⟩ = some x0 := cell_of_heap h0 0
 have c1 : W.cell? ⟨b0, 1, none⟩ = some x1 := cell_of_heap h0 1
 have c2 : W.cell? ⟨b0, 2, none⟩ = some x2 := cell_of_heap h0 2
 have c3 : W.cell? ⟨b0, 3, none⟩ = some x3 := cell_of_heap h0 3
 have c4 : W.cell? ⟨b0, 4, none⟩ = some x4 := cell_of_heap h0 4
 have c5 : W.cell? ⟨b0, 5, none⟩ = some x5 := cell_of_heap h0 5
 have l1 : W.cell? ⟨b1, 0, none⟩ = some (.int .i64 a) := cell_of_heap h1 0
 have l2 : W.cell? ⟨b2, 0, none⟩ = some (.int .i64 b) := cell_of_heap h2 0
 have l3 : W.cell? ⟨b3, 0, none⟩ = some (.int .i64 d) := cell_of_heap h3 0
 simp only [Array.getD_eq_getD_getElem?] at t2 t3 t4 t5
 simp [results, Tryz.results19, t2, t3, t4, t5, c0, c1, c2, c3, c4, c5, l1, l2, l3, asAddr, go_sem]
theorem results_put (tmps : Array Value) (k : Nat) (v : Value) (hk : (k == 2 || k == 3 || k == 4 || k == 5) = false) : results Tryz.f19 (tmps.setIfInBounds k v) = results Tryz.f19 tmps := by
 simp only [Bool.or_eq_false_iff, beq_eq_false_iff_ne] at hk
 simp only [results, Tryz.results19]
 simp [Array.getElem?_setIfInBounds, hk]
theorem leaves_put {tmps : Array Value} {k : Nat} {v : Value} {R : Ending → World → Prop} (hk : (k == 2 || k == 3 || k == 4 || k == 5) = false) : ∀ {ds : List Deferred} {u : FrameMode} {w : World}, Leaves Tryz.prog Tryz.f19 (tmps.setIfInBounds k v) R ds u w → Leaves Tryz.prog Tryz.f19 tmps R ds u w
 | [], .returning, w, h => by simp only [Leaves] at h ⊢; rwa [results_put tmps k v hk] at h
 | [], .panicking chain, w, h => h
 | [], .run, w, h => h
 | d :: ds, u, w, h => by
  obtain ⟨h1, fv, cap, f, args, h2, h3, h4⟩ := h
  refine ⟨h1, fv, cap, f, args, h2, h3, h4.mono fun e u' w' h5 => ?_⟩
  cases e with
  | returned v9 => exact leaves_put hk h5
  | panicked ch => exact leaves_put hk h5
  | outgrown => exact h5
section
variable {P : Program} {ops : Array Oper} {md : Region.Mode} {Q : Exit → Act → World → Prop} {S : World → Prop} {late : Nat → Bool}
theorem wpAnyK_of_any : ∀ (fuel : Nat) (listed : Array Bool) (a : Act) (w : World), (∀ i, listed.getD i true = false → late i = true) → wpAny P md ops Q fuel listed a w → wpAnyK P md ops Q S late fuel listed a w
 | 0, _, _, _, _, h => h
 | fuel + 1, listed, a, w, hl, h => ⟨h.1, fun i hi => wpOp_mono (fun a' w' h' => ⟨fun he => absurd he (by rw [hl i (mem_ready.1 hi).1]; decide), wpAnyK_of_any fuel _ a' w' (fun j hj => hl j (by
   by_cases hij : i = j
   · subst hij; exact (mem_ready.1 hi).1
   · rwa [getD_set_ne true hij] at hj)) h'⟩) (h.2 i hi)⟩
theorem wpAnyK_free {fuel : Nat} {listed : Array Bool} {a : Act} {w : World} (hs : listed.size = ops.size) (hl : ((List.range ops.size).all fun i => listed.getD i true || late i) = true) (h : wpAnyK P md ops Q (fun _ => True) (fun _ => false) fuel listed a w) : wpAnyK P md ops Q S late fuel listed a w :=
 wpAnyK_of_any fuel listed a w (fun i hi => by
  rcases Nat.lt_or_ge i ops.size with h9 | h9
  ·
   have := List.all_eq_true.mp hl i (List.mem_range.mpr h9)
   rwa [hi, Bool.false_or] at this
  ·
   rw [Array.getD_eq_getD_getElem?, Array.getElem?_eq_none (by omega)] at hi
   cases hi) (wpAny_of_K _ _ _ _ h)
end
theorem row_swap {W : World} {b1 : Nat} {x y : Nat × Obj} {hs : List (Nat × Obj)} {X : Nat → Prop} {u : Value} {ks : List Node} (h : kNode.R 26 W b1 (fun k => (∀ p ∈ x :: y :: hs, k ≠ p.1) ∧ X k) u ks) : kNode.R 26 W b1 (fun k => (∀ p ∈ y :: x :: hs, k ≠ p.1) ∧ X k) u ks :=
 Kd.R_mono h fun k hk => ⟨fun p hp => hk.1 p (by
  rcases List.mem_cons.mp hp with rfl | hp
  · exact List.mem_cons_of_mem _ (List.mem_cons_self ..)
  ·
   rcases List.mem_cons.mp hp with rfl | hp
   · exact List.mem_cons_self ..
   · exact List.mem_cons_of_mem _ (List.mem_cons_of_mem _ hp)), hk.2⟩
theorem row_set {W : World} {b1 b : Nat} {o : Obj} {o' : Obj} {hs : List (Nat × Obj)} {X : Nat → Prop} {u : Value} {ks : List Node} (h : kNode.R 26 W b1 (fun k => (∀ p ∈ (b, o) :: hs, k ≠ p.1) ∧ X k) u ks) (i : Nat) (v : Value) : kNode.R 26 (W.setCell ⟨b, i, none⟩ v) b1 (fun k => (∀ p ∈ (b, o') :: hs, k ≠ p.1) ∧ X k) u ks :=
 Kd.R_mono (R_setP h (fun k hk => hk.1 _ (List.mem_cons_self ..)) v) fun k hk => ⟨fun p hp => by
  rcases List.mem_cons.mp hp with rfl | hp
  · exact hk.1 (b, o) (List.mem_cons_self ..)
  · exact hk.1 p (List.mem_cons_of_mem _ hp), hk.2⟩
theorem IsOv.kp {c : PC} {a w w' : World} (h : IsOv a w) (hk : Kp c w w') (hp : a.heap.size ≤ c.p) : IsOv a w' :=
 IsOv.grown (v := .slice (some ⟨c.p, 0, none⟩) 0 0) h hk (fun b hb => by
  have e : some c.p = some b := hb
  have := Option.some.inj e; omega)
end Go.Proofs.YtdimhoilfopndaaGreatDoor
end
section
namespace Go.Proofs.YtdimhoilfopndaaGreatDoor
open Go.RowKit Go.Proofs.YtdimhoilfopndaaGreatDoorW.PrintWords
structure ToksAt (w : World) (g cap : Nat) (toks : List Tok) : Prop where
 hcap : toks.length ≤ cap
 hlen : toks.length ≤ 100000
 cells : ∀ i, i < toks.length → ∀ j u, ((toks.getD i default).cells)[j]? = some u → w.cell? ⟨g, i * 5 + j, none⟩ = some u
 ends : ∀ i, i < toks.length → (toks.getD i default).kind ≠ 3 → i + 1 < toks.length
 laid : LaidX w
 ml : ∃ m : Int, w.cell? ⟨3, 0, none⟩ = some (.int .i64 m)
 ne : 0 < toks.length
def PostP (w : World) (r : PR Node) (e : Ending) (w' : World) : Prop :=
 IsOv w w' ∧ (match r with
  | .ok n _ => ∃ A cap, e = .returned (.tuple #[nodeV n (.slice A n.kids.length cap), .int .i64 0, .int .i64 0, .int .i64 0]) ∧ kNode.R 26 w' w.heap.size (fun _ => True) (.slice A n.kids.length cap) n.kids
  | .bad l k er => e = .returned (.tuple #[nodeV zNode (.slice none 0 0), .int .i64 l, .int .i64 k, .int .i64 er]))
set_option maxRecDepth 20000 in
set_option maxHeartbeats 1600000 in
theorem Parse_calls (gf : Nat) (hgf : gf ≤ 1000000000) (w : World) (g cap : Nat) (toks : List Tok) (r : PR Node) (h : parseF gf toks = some r) (ht : ToksAt w g cap toks) : Calls Tryz.prog 19 #[.slice (some ⟨g, 0, none⟩) toks.length cap] w (PostP w r) := by
 have hmf : ∀ (fn : Fn) (first cap : Array Value) (w : World), (Instr.makeFunc fn first cap).run Tryz.prog w = .ok (.func fn first cap) w := fun _ _ _ _ => rfl
 obtain ⟨c, hcd⟩ : ∃ c : PC, c = ⟨w, w.heap.size + 1 + 1 + 1 + 1, g, cap, toks⟩ := ⟨_, rfl⟩
 have hcp : c.p = w.heap.size + 1 + 1 + 1 + 1 := by rw [hcd]
 have hcW : c.W = w := by rw [hcd]
 have hcg : c.g = g := by rw [hcd]
 have hcc : c.cap = cap := by rw [hcd]
 have hct : c.toks = toks := by rw [hcd]
 have hc : c.Ok := by rw [hcd]; exact ⟨by dsimp only; omega, ht.hcap, ht.hlen, ht.cells, ht.ends, ht.laid, ht.ml⟩
 have HH := hid h
 go_enter_defers Tryz.func19, Tryz.ntmps19
 go_wp2_with fail
 have HS0 : Hid (Sta c (((((w.alloc (.cells #[.string ⟨#[]⟩, .string ⟨#[]⟩, .int .u64 0, .int .i64 0, .int .i64 0, .slice none 0 0] 26)).alloc (.cells #[.int .i64 0] 3)).alloc (.cells #[.int .i64 0] 3)).alloc (.cells #[.int .i64 0] 27)).alloc (.cells #[.slice (some ⟨g, 0, none⟩) toks.length cap, .int .i64 0] 69)) (((((w.alloc (.cells #[.string ⟨#[]⟩, .string ⟨#[]⟩, .int .u64 0, .int .i64 0, .int .i64 0, .slice none 0 0] 26)).alloc (.cells #[.int .i64 0] 3)).alloc (.cells #[.int .i64 0] 3)).alloc (.cells #[.int .i64 0] 27)).alloc (.cells #[.slice (some ⟨g, 0, none⟩) toks.length cap, .int .i64 0] 69)) toks [(w.heap.size, (.cells #[.string ⟨#[]⟩, .string ⟨#[]⟩, .int .u64 0, .int .i64 0, .int .i64 0, .slice none 0 0] 26)), (w.heap.size + 1, (.cells #[.int .i64 0] 3)), (w.heap.size + 1 + 1, (.cells #[.int .i64 0] 3)), (w.heap.size + 1 + 1 + 1, (.cells #[.int .i64 0] 27))] []) := by
  have a0 := heap_alloc_new w (.cells #[.string ⟨#[]⟩, .string ⟨#[]⟩, .int .u64 0, .int .i64 0, .int .i64 0, .slice none 0 0] 26)
  have a1 := heap_alloc_new (w.alloc (.cells #[.string ⟨#[]⟩, .string ⟨#[]⟩, .int .u64 0, .int .i64 0, .int .i64 0, .slice none 0 0] 26)) (.cells #[.int .i64 0] 3)
  have a2 := heap_alloc_new ((w.alloc (.cells #[.string ⟨#[]⟩, .string ⟨#[]⟩, .int .u64 0, .int .i64 0, .int .i64 0, .slice none 0 0] 26)).alloc (.cells #[.int .i64 0] 3)) (.cells #[.int .i64 0] 3)
  have a3 := heap_alloc_new (((w.alloc (.cells #[.string ⟨#[]⟩, .string ⟨#[]⟩, .int .u64 0, .int .i64 0, .int .i64 0, .slice none 0 0] 26)).alloc (.cells #[.int .i64 0] 3)).alloc (.cells #[.int .i64 0] 3)) (.cells #[.int .i64 0] 27)
  have a4 := heap_alloc_new ((((w.alloc (.cells #[.string ⟨#[]⟩, .string ⟨#[]⟩, .int .u64 0, .int .i64 0, .int .i64 0, .slice none 0 0] 26)).alloc (.cells #[.int .i64 0] 3)).alloc (.cells #[.int .i64 0] 3)).alloc (.cells #[.int .i64 0] 27)) (.cells #[.slice (some ⟨g, 0, none⟩) toks.length cap, .int .i64 0] 69)
  simp only [World.size_alloc] at a1 a2 a3 a4
  have hps : PS c (((((w.alloc (.cells #[.string ⟨#[]⟩, .string ⟨#[]⟩, .int .u64 0, .int .i64 0, .int .i64 0, .slice none 0 0] 26)).alloc (.cells #[.int .i64 0] 3)).alloc (.cells #[.int .i64 0] 3)).alloc (.cells #[.int .i64 0] 27)).alloc (.cells #[.slice (some ⟨g, 0, none⟩) toks.length cap, .int .i64 0] 69)) toks := by
   refine ⟨by rw [hcW]; exact (by repeat (first | with_reducible exact IsOv.refl _ | with_reducible apply IsOv.dr | with_reducible apply IsOv.drewN | with_reducible apply IsOv.drew | with_reducible apply IsOv.alloc | with_reducible apply IsOv.ov)), 0, by rw [hct]; exact ht.ne, by rw [hct]; rfl, ?_⟩
   rw [hcp, hcg, hcc, hct]
   exact a4
  refine hid ⟨hps, Kp.refl c _, hps.lt, fun p hp => ?_, fun q hq => by cases hq⟩
  simp only [List.mem_cons, List.not_mem_nil, or_false] at hp
  rcases hp with rfl | rfl | rfl | rfl
  · exact ⟨hs_alloc (hs_alloc (hs_alloc (hs_alloc a0 _) _) _) _, by rw [hcp]; dsimp only; omega⟩
  · exact ⟨hs_alloc (hs_alloc (hs_alloc a1 _) _) _, by rw [hcp]; dsimp only; omega⟩
  · exact ⟨hs_alloc (hs_alloc a2 _) _, by rw [hcp]; dsimp only; omega⟩
  · exact ⟨hs_alloc a3 _, by rw [hcp]; dsimp only; omega⟩
 rw [← hcp]
 refine cmo (now_gives c hc _ toks HS0.out.ps) ?_
 rintro e9 w1 ⟨rfl, hov⟩
 have HS1 := hid (HS0.out.isOv hov)
 have hz1 := hov.size_le
 simp only [World.size_alloc] at hz1
 clear HS0 hov
 generalize hT : nowT toks = t at *
 rw [show t.val = .agg #[.int .i64 t.kind, .string t.text, .int .u64 t.num, .int .i64 t.line, .int .i64 t.col] from rfl]
 have HT := hid hT
 clear hT h
 obtain ⟨n0, n1, n2, n3, n4, n5, nf⟩ := cells6 HS1.out.h0
 go_wp2_with fail
 try rw [← hcp]
 have HST := (HS1.out.alloc (.cells #[.int .i64 t.kind, .string t.text, .int .u64 t.num, .int .i64 t.line, .int .i64 t.col] 60)).drop.setR6 (by rw [hcW]; exact Nat.le_refl _) (by rw [hcp]; omega) (by simp <;> omega) (.string ⟨#[112, 114, 111, 103, 114, 97, 109]⟩) (.string ⟨#[]⟩) (.int .u64 0) (.int .i64 t.line) (.int .i64 t.col) (.slice none 0 0)
 go_loopg [] gf (fun q wr => ∃ (l : List Node) (A : Option Addr) (cp : Nat) (ts3 : List Tok), q + l.length ≤ gf ∧ Hid (itemsF q t.line t.col l ts3 = some r) ∧ Hid (Sta c wr wr ts3 [(w.heap.size, .cells #[.string ⟨#[112, 114, 111, 103, 114, 97, 109]⟩, .string ⟨#[]⟩, .int .u64 0, .int .i64 t.line, .int .i64 t.col, .slice A l.length cp] 26), (w.heap.size + 1, (.cells #[.int .i64 0] 3)), (w.heap.size + 1 + 1, (.cells #[.int .i64 0] 3)), (w.heap.size + 1 + 1 + 1, (.cells #[.int .i64 0] 27))] [(c.p + 1, .slice A l.length cp, l)]))
 case atStart => exact ⟨[], none, 0, toks, by simp, hid (by have h9 := HH.out; unfold parseF at h9; rw [HT.out] at h9; exact h9), hid (HST.nil (c.p + 1) (by omega))⟩
 case round =>
  obtain ⟨l, A, cp, ts3, hq, HL, HS20⟩ := hrel
  clear HST HH HS1 n0 n1 n2 n3 n4 n5 nf hz1
  have hlt3 := HS20.out.plt
  cases gk with
  | zero => exact absurd HL.out (by simp [itemsF])
  | succ q =>
   have HL2 : Hid ((if (nowT ts3).kind == 3 then some (.ok ⟨⟨#[112, 114, 111, 103, 114, 97, 109]⟩, ⟨#[]⟩, 0, t.line, t.col, l⟩ ts3) else bnd (itemF q ts3) fun n r => itemsF q t.line t.col (l ++ [n]) r) = some r) := hid HL.out
   clear HL
   go_wp2_with fail
   try rw [← hcp]
   refine cmo (now_gives c hc _ ts3 HS20.out.ps) ?_
   rintro e9 w21 ⟨rfl, hov⟩
   have hz21 := hov.size_le
   have HS21 := hid (HS20.out.isOv hov).re
   clear HS20 hov
   have hfd := field_kind (nowT ts3)
   rw [show (nowT ts3).val = .agg #[.int .i64 (nowT ts3).kind, .string (nowT ts3).text, .int .u64 (nowT ts3).num, .int .i64 (nowT ts3).line, .int .i64 (nowT ts3).col] from rfl]
   obtain ⟨n0, n1, n2, n3, n4, n5, nf⟩ := cells6 HS21.out.h0
   cases hk : ((nowT ts3).kind == 3)
   ·
    have HL3 : Hid (bnd (itemF q ts3) (fun n r => itemsF q t.line t.col (l ++ [n]) r) = some r) := hid (by have h9 := HL2.out; rw [hk, if_neg (by decide)] at h9; exact h9)
    have hk2 : ((nowT ts3).kind != 3) = true := by simpa using hk
    clear HL2
    go_wp2_with fail
    obtain ⟨r0, he, hr0⟩ := bnd_some2 HL3.out
    have HR0 := hid hr0
    clear hr0 HL3 hfd
    have HD := hid HS21.out.drew.re
    have hd0 : w21.drew.heap.size = w21.heap.size := rfl
    have hS0 : (fun w' : World => w'.cell? ⟨w.heap.size, 5, none⟩ = some (.slice A l.length cp)) w21.drew := cell_of_heap HD.out.h0 5
    refine wp_region_K (fun w' => w'.cell? ⟨w.heap.size, 5, none⟩ = some (.slice A l.length cp)) (fun j => decide (6 ≤ j)) (by kernel_rfl) ?_
    refine wpAnyK_take (i := 0) (v := ?_) rfl (by kernel_rfl) (by kernel_rfl) (by kernel_rfl) (by kernel_rfl) (fun _ _ _ h => leaves_put (by decide) h) (Or.inl ⟨by rfl, ?_⟩) hS0 ?_
    rotate_left
    · intro w9 hSw; (try dsimp only at hSw); go_simp; (try with_reducible rfl)
    try simp only [Act.put, List.setIfInBounds_toArray, List.set_cons_zero, List.set_cons_succ]
    refine wpAnyK_take (i := 1) (v := ?_) rfl (by kernel_rfl) (by kernel_rfl) (by kernel_rfl) (by kernel_rfl) (fun _ _ _ h => leaves_put (by decide) h) (Or.inl ⟨by rfl, ?_⟩) hS0 ?_
    rotate_left
    · intro w9 hSw; (try dsimp only at hSw); go_simp; (try with_reducible rfl)
    try simp only [Act.put, List.setIfInBounds_toArray, List.set_cons_zero, List.set_cons_succ]
    refine wpAnyK_take (i := 2) (v := ?_) rfl (by kernel_rfl) (by kernel_rfl) (by kernel_rfl) (by kernel_rfl) (fun _ _ _ h => leaves_put (by decide) h) (Or.inl ⟨by rfl, ?_⟩) hS0 ?_
    rotate_left
    · intro w9 hSw; (try dsimp only at hSw); go_simp; (try with_reducible rfl)
    try simp only [Act.put, List.setIfInBounds_toArray, List.set_cons_zero, List.set_cons_succ]
    refine wpAnyK_take (i := 4) (v := ?_) rfl (by kernel_rfl) (by kernel_rfl) (by kernel_rfl) (by kernel_rfl) (fun _ _ _ h => leaves_put (by decide) h) (Or.inl ⟨by rfl, ?_⟩) hS0 ?_
    rotate_left
    · intro w9 hSw; (try dsimp only at hSw); go_simp; (try with_reducible rfl)
    try simp only [Act.put, List.setIfInBounds_toArray, List.set_cons_zero, List.set_cons_succ]
    clear n0 n1 n2 n3 n4 n5 nf
    refine wpAnyK_two (i := 3) (j := 5) (by kernel_rfl) rfl rfl (fun K hK => ?_) (fun K hK => ?_)
    ·
     go_simp
     try rw [← hcp]
     refine cmo (item_calls c hc q (by omega) _ ts3 r0 he HD.out.ps) ?_
     rintro e9 w30 ⟨hkp, hp⟩
     rcases r0 with ⟨u, ts6⟩ | ⟨l9, k9, er⟩
     rotate_left
     ·
      have hr9 : r = .bad l9 k9 er := HR0.out
      have hp9 : e9 = wrongE l9 k9 er := hp
      subst hp9
      have hov9 : IsOv w w30 := by have h9 := HD.out.ps.1; rw [hcW] at h9; exact IsOv.kp h9 hkp (by rw [hcp]; omega)
      have HF := And.intro (hkp.heap HD.out.h0 (by rw [hcp]; omega)) (And.intro (hkp.heap HD.out.h1 (by rw [hcp]; omega)) (And.intro (hkp.heap HD.out.h2 (by rw [hcp]; omega)) (hkp.heap HD.out.h3 (by rw [hcp]; omega))))
      refine leaves_cons (f := 29) (args := #[.pointer (some ⟨w.heap.size, 0, none⟩), .pointer (some ⟨w.heap.size + 1, 0, none⟩), .pointer (some ⟨w.heap.size + 1 + 1, 0, none⟩), .pointer (some ⟨w.heap.size + 1 + 1 + 1, 0, none⟩)]) (by simp) (by simp [go_sem]) ?_
      refine (catch_wrong _ _ _ _ l9 k9 er _ _ _ _ _ _ _ _ _ [] w w30 hov9 HF.1 HF.2.1 HF.2.2.1 HF.2.2.2 (Nat.le_refl _) (by omega) (by omega) (by omega)).mono ?_
      rintro e u' w'' ⟨rfl, rfl, hov8, f0, f1, f2, f3⟩
      refine ⟨_, results4 rfl rfl rfl rfl f0 f1 f2 f3, ?_⟩
      rw [hr9]
      exact ⟨hov8, rfl⟩
     obtain ⟨hpt, Au, capu, rfl, hR⟩ := hp
     have HB6 : Hid (itemsF q t.line t.col (l ++ [u]) ts6 = some r) := hid HR0.out
     have HVB : ∀ k, (Value.slice A l.length cp).ownBlock = some k → k < w21.drew.heap.size := Kd.R_lt HD.out.r0
     have HST := HD.out.got hkp hpt (Nat.le_refl _) hR
     have hz30 : w21.drew.heap.size ≤ w30.heap.size := hkp.size_le
     unfold nodeV
     clear hkp hpt hR he
     refine hK.out _ _ (fun _ => cell_of_heap HST.h0 5) ?_
     clear hK K
     have HSZ := HST.alloc (.cells #[.string ⟨#[]⟩, .string ⟨#[]⟩, .int .u64 0, .int .i64 0, .int .i64 0, .slice none 0 0] 26)
     refine wpAnyK_one (i := 5) (by kernel_rfl) rfl (fun K hK => ?_)
     go_simp
     refine hK.out _ _ (fun _ => cell_of_heap HSZ.h1 5) ?_
     clear hK K
     refine wpAnyK_law (i := 6) (by kernel_rfl) rfl (fun K hK => ?_)
     refine Kd.R_append_rows kNode (w0 := w30.alloc (.cells #[.string ⟨#[]⟩, .string ⟨#[]⟩, .int .u64 0, .int .i64 0, .int .i64 0, .slice none 0 0] 26)) (W := w30.alloc (.cells #[.string ⟨#[]⟩, .string ⟨#[]⟩, .int .u64 0, .int .i64 0, .int .i64 0, .slice none 0 0] 26)) (c.p + 1) rfl (.tmp 24) (.tmp 28) 24 26 (.agg #[.string ⟨#[]⟩, .string ⟨#[]⟩, .int .u64 0, .int .i64 0, .int .i64 0, .slice none 0 0]) 80 rfl Tryz.underlying24 node_info rfl (by decide) (by decide) (.slice A l.length cp) l [zNode] (some ⟨w30.heap.size, 0, none⟩) 1 1 _ _ rfl rfl HSZ.r1 (zero_row HSZ.h0) zero_M (fun _ h => h.elim) (app_fresh HSZ) (Below.refl _ _) ?aS ?aL ?_
     case aS => have := HSZ.plt; omega
     case aL => omega
     intro v9 w9 hR9 _ hg9 hat
     obtain ⟨HA9, HU9⟩ := Sta.app3 hc HSZ HVB hg9 hR9 hat
     have hz9 : (w30.alloc (.cells #[.string ⟨#[]⟩, .string ⟨#[]⟩, .int .u64 0, .int .i64 0, .int .i64 0, .slice none 0 0] 26)).heap.size ≤ w9.heap.size := hg9.size
     clear hR9 hg9 hat
     refine wpList_nil (hK.out _ _ (fun h => absurd h (by decide)) ?_)
     clear hK K
     try dsimp only [Act.put]
     try simp only [List.setIfInBounds_toArray, List.set_cons_zero, List.set_cons_succ]
     obtain ⟨g9, cap9, rfl, hg91, hg92⟩ := Kd.R_form HA9.r0 (by simp)
     have hl9 : (l ++ [zNode]).length = l.length + 1 := by simp
     rw [hl9] at HA9 HU9 ⊢
     obtain ⟨v5, m0, m1, m2, m3, m4, m5, mf, hpg, hgn, hgl⟩ := last_cells HA9
     have hng : w.heap.size ≠ g9 := by omega
     obtain ⟨n0, n1, n2, n3, n4, n5, nf⟩ := cells6 HA9.h1
     have hb0 : (0 : Int) ≤ (l.length : Int) := by omega
     have hb1 : (l.length : Int) < (l.length : Int) + 1 := by omega
     refine wpAnyK_free (by rfl) (by kernel_rfl) ?_
     refine wpAnyK_take (i := 7) (v := ?_) rfl (by kernel_rfl) (by kernel_rfl) (by kernel_rfl) (by kernel_rfl) (fun _ _ _ h => leaves_put (by decide) h) (Or.inl ⟨by rfl, ?_⟩) trivial ?_
     rotate_left
     · intro w9 hSw; (try dsimp only at hSw); go_simp; (try with_reducible rfl)
     try simp only [Act.put, List.setIfInBounds_toArray, List.set_cons_zero, List.set_cons_succ]
     refine wpAnyK_take (i := 9) (v := ?_) rfl (by kernel_rfl) (by kernel_rfl) (by kernel_rfl) (by kernel_rfl) (fun _ _ _ h => leaves_put (by decide) h) (Or.inl ⟨by rfl, ?_⟩) trivial ?_
     rotate_left
     · intro w9 hSw; (try dsimp only at hSw); go_simp; (try with_reducible rfl)
     try simp only [Act.put, List.setIfInBounds_toArray, List.set_cons_zero, List.set_cons_succ]
     refine wpAnyK_two (i := 8) (j := 10) (by kernel_rfl) rfl rfl (fun K hK => ?_) (fun K hK => ?_)
     ·
      go_simp
      try go_wp2_with fail
      refine hK.out _ _ (fun _ => trivial) ?_
      clear hK K
      refine wpAnyK_one (i := 10) (by kernel_rfl) rfl (fun K hK => ?_)
      go_simp
      try go_wp2_with fail
      refine hK.out _ _ (fun _ => trivial) ?_
      clear hK K
      refine wpAnyK_done (by kernel_rfl) ?_ _
      have HE := (Sta.last hc HA9 HU9 (by have := HD.out.plt; omega)).drop.setR (by rw [hcW]; exact Nat.le_refl _) (by rw [hcp]; omega) (by simp <;> omega) 5 (.slice (some ⟨g9, 0, none⟩) (l.length + 1) cap9)
      try go_wp2_with fail
      try rw [← hcp]
      go_roundg q
      case rel => exact ⟨l ++ [u], some ⟨g9, 0, none⟩, cap9, ts6, by simp; omega, HB6, hid (by rw [show (l ++ [u]).length = l.length + 1 by simp]; exact HE)⟩
      case measure => omega
     ·
      go_simp
      try go_wp2_with fail
      refine hK.out _ _ (fun _ => trivial) ?_
      clear hK K
      refine wpAnyK_one (i := 8) (by kernel_rfl) rfl (fun K hK => ?_)
      go_simp
      try go_wp2_with fail
      refine hK.out _ _ (fun _ => trivial) ?_
      clear hK K
      refine wpAnyK_done (by kernel_rfl) ?_ _
      have HE0 := HA9.swap.setR (by rw [hcW]; exact Nat.le_refl _) (by rw [hcp]; omega) (by simp <;> omega) 5 (.slice (some ⟨g9, 0, none⟩) (l.length + 1) cap9)
      have HE := (Sta.last hc HE0 (row_set (row_swap HU9) 5 (.slice (some ⟨g9, 0, none⟩) (l.length + 1) cap9)) (by have := HD.out.plt; omega)).swap.drop
      try go_wp2_with fail
      try rw [← hcp]
      go_roundg q
      case rel => exact ⟨l ++ [u], some ⟨g9, 0, none⟩, cap9, ts6, by simp; omega, HB6, hid (by rw [show (l ++ [u]).length = l.length + 1 by simp]; exact HE)⟩
      case measure => omega
    ·
     go_simp
     have HDZ := (HS21.out.alloc (.cells #[.string ⟨#[]⟩, .string ⟨#[]⟩, .int .u64 0, .int .i64 0, .int .i64 0, .slice none 0 0] 26)).drew.re
     refine hK.out _ _ (fun _ => cell_of_heap HDZ.h1 5) ?_
     clear hK K
     refine wpAnyK_one (i := 3) (by kernel_rfl) rfl (fun K hK => ?_)
     go_simp
     try rw [← hcp]
     refine cmo (item_calls c hc q (by omega) _ ts3 r0 he HDZ.ps) ?_
     rintro e9 w30 ⟨hkp, hp⟩
     rcases r0 with ⟨u, ts6⟩ | ⟨l9, k9, er⟩
     rotate_left
     ·
      have hr9 : r = .bad l9 k9 er := HR0.out
      have hp9 : e9 = wrongE l9 k9 er := hp
      subst hp9
      have hov9 : IsOv w w30 := by have h9 := HDZ.ps.1; rw [hcW] at h9; exact IsOv.kp h9 hkp (by rw [hcp]; omega)
      have HF := And.intro (hkp.heap HDZ.h1 (by rw [hcp]; omega)) (And.intro (hkp.heap HDZ.h2 (by rw [hcp]; omega)) (And.intro (hkp.heap HDZ.h3 (by rw [hcp]; omega)) (hkp.heap (HDZ.held _ (List.mem_cons_of_mem _ (List.mem_cons_of_mem _ (List.mem_cons_of_mem _ (List.mem_cons_of_mem _ (List.mem_cons_self ..)))))).1 (by rw [hcp]; omega))))
      refine leaves_cons (f := 29) (args := #[.pointer (some ⟨w.heap.size, 0, none⟩), .pointer (some ⟨w.heap.size + 1, 0, none⟩), .pointer (some ⟨w.heap.size + 1 + 1, 0, none⟩), .pointer (some ⟨w.heap.size + 1 + 1 + 1, 0, none⟩)]) (by simp) (by simp [go_sem]) ?_
      refine (catch_wrong _ _ _ _ l9 k9 er _ _ _ _ _ _ _ _ _ [] w w30 hov9 HF.1 HF.2.1 HF.2.2.1 HF.2.2.2 (Nat.le_refl _) (by omega) (by omega) (by omega)).mono ?_
      rintro e u' w'' ⟨rfl, rfl, hov8, f0, f1, f2, f3⟩
      refine ⟨_, results4 rfl rfl rfl rfl f0 f1 f2 f3, ?_⟩
      rw [hr9]
      exact ⟨hov8, rfl⟩
     obtain ⟨hpt, Au, capu, rfl, hR⟩ := hp
     have HB6 : Hid (itemsF q t.line t.col (l ++ [u]) ts6 = some r) := hid HR0.out
     have HVB : ∀ k, (Value.slice A l.length cp).ownBlock = some k → k < (w21.alloc (.cells #[.string ⟨#[]⟩, .string ⟨#[]⟩, .int .u64 0, .int .i64 0, .int .i64 0, .slice none 0 0] 26)).drew.heap.size := Kd.R_lt HDZ.r0
     have HST := HDZ.got hkp hpt (Nat.le_refl _) hR
     have hz30 : (w21.alloc (.cells #[.string ⟨#[]⟩, .string ⟨#[]⟩, .int .u64 0, .int .i64 0, .int .i64 0, .slice none 0 0] 26)).drew.heap.size ≤ w30.heap.size := hkp.size_le
     unfold nodeV
     clear hkp hpt hR he
     refine hK.out _ _ (fun _ => cell_of_heap HST.h1 5) ?_
     clear hK K
     refine wpAnyK_law (i := 6) (by kernel_rfl) rfl (fun K hK => ?_)
     refine Kd.R_append_rows kNode (w0 := w30) (W := w30) (c.p + 1) rfl (.tmp 24) (.tmp 28) 24 26 (.agg #[.string ⟨#[]⟩, .string ⟨#[]⟩, .int .u64 0, .int .i64 0, .int .i64 0, .slice none 0 0]) 80 rfl Tryz.underlying24 node_info rfl (by decide) (by decide) (.slice A l.length cp) l [zNode] (some ⟨w21.heap.size, 0, none⟩) 1 1 _ _ rfl rfl HST.r1 (zero_row HST.h0) zero_M (fun _ h => h.elim) (app_fresh HST) (Below.refl _ _) ?aS ?aL ?_
     case aS => have := HST.plt; omega
     case aL => omega
     intro v9 w9 hR9 _ hg9 hat
     obtain ⟨HA9, HU9⟩ := Sta.app3 hc HST HVB hg9 hR9 hat
     have hz9 : (w30).heap.size ≤ w9.heap.size := hg9.size
     clear hR9 hg9 hat
     refine wpList_nil (hK.out _ _ (fun h => absurd h (by decide)) ?_)
     clear hK K
     try dsimp only [Act.put]
     try simp only [List.setIfInBounds_toArray, List.set_cons_zero, List.set_cons_succ]
     obtain ⟨g9, cap9, rfl, hg91, hg92⟩ := Kd.R_form HA9.r0 (by simp)
     have hl9 : (l ++ [zNode]).length = l.length + 1 := by simp
     rw [hl9] at HA9 HU9 ⊢
     obtain ⟨v5, m0, m1, m2, m3, m4, m5, mf, hpg, hgn, hgl⟩ := last_cells HA9
     have hng : w.heap.size ≠ g9 := by omega
     obtain ⟨n0, n1, n2, n3, n4, n5, nf⟩ := cells6 HA9.h1
     have hb0 : (0 : Int) ≤ (l.length : Int) := by omega
     have hb1 : (l.length : Int) < (l.length : Int) + 1 := by omega
     refine wpAnyK_free (by rfl) (by kernel_rfl) ?_
     refine wpAnyK_take (i := 7) (v := ?_) rfl (by kernel_rfl) (by kernel_rfl) (by kernel_rfl) (by kernel_rfl) (fun _ _ _ h => leaves_put (by decide) h) (Or.inl ⟨by rfl, ?_⟩) trivial ?_
     rotate_left
     · intro w9 hSw; (try dsimp only at hSw); go_simp; (try with_reducible rfl)
     try simp only [Act.put, List.setIfInBounds_toArray, List.set_cons_zero, List.set_cons_succ]
     refine wpAnyK_take (i := 9) (v := ?_) rfl (by kernel_rfl) (by kernel_rfl) (by kernel_rfl) (by kernel_rfl) (fun _ _ _ h => leaves_put (by decide) h) (Or.inl ⟨by rfl, ?_⟩) trivial ?_
     rotate_left
     · intro w9 hSw; (try dsimp only at hSw); go_simp; (try with_reducible rfl)
     try simp only [Act.put, List.setIfInBounds_toArray, List.set_cons_zero, List.set_cons_succ]
     refine wpAnyK_two (i := 8) (j := 10) (by kernel_rfl) rfl rfl (fun K hK => ?_) (fun K hK => ?_)
     ·
      go_simp
      try go_wp2_with fail
      refine hK.out _ _ (fun _ => trivial) ?_
      clear hK K
      refine wpAnyK_one (i := 10) (by kernel_rfl) rfl (fun K hK => ?_)
      go_simp
      try go_wp2_with fail
      refine hK.out _ _ (fun _ => trivial) ?_
      clear hK K
      refine wpAnyK_done (by kernel_rfl) ?_ _
      have HE := (Sta.last hc HA9 HU9 (by have := HDZ.plt; omega)).drop.setR (by rw [hcW]; exact Nat.le_refl _) (by rw [hcp]; omega) (by simp <;> omega) 5 (.slice (some ⟨g9, 0, none⟩) (l.length + 1) cap9)
      try go_wp2_with fail
      try rw [← hcp]
      go_roundg q
      case rel => exact ⟨l ++ [u], some ⟨g9, 0, none⟩, cap9, ts6, by simp; omega, HB6, hid (by rw [show (l ++ [u]).length = l.length + 1 by simp]; exact HE)⟩
      case measure => omega
     ·
      go_simp
      try go_wp2_with fail
      refine hK.out _ _ (fun _ => trivial) ?_
      clear hK K
      refine wpAnyK_one (i := 8) (by kernel_rfl) rfl (fun K hK => ?_)
      go_simp
      try go_wp2_with fail
      refine hK.out _ _ (fun _ => trivial) ?_
      clear hK K
      refine wpAnyK_done (by kernel_rfl) ?_ _
      have HE0 := HA9.swap.setR (by rw [hcW]; exact Nat.le_refl _) (by rw [hcp]; omega) (by simp <;> omega) 5 (.slice (some ⟨g9, 0, none⟩) (l.length + 1) cap9)
      have HE := (Sta.last hc HE0 (row_set (row_swap HU9) 5 (.slice (some ⟨g9, 0, none⟩) (l.length + 1) cap9)) (by have := HDZ.plt; omega)).swap.drop
      try go_wp2_with fail
      try rw [← hcp]
      go_roundg q
      case rel => exact ⟨l ++ [u], some ⟨g9, 0, none⟩, cap9, ts6, by simp; omega, HB6, hid (by rw [show (l ++ [u]).length = l.length + 1 by simp]; exact HE)⟩
      case measure => omega
   ·
    have HR : Hid (r = .ok ⟨⟨#[112, 114, 111, 103, 114, 97, 109]⟩, ⟨#[]⟩, 0, t.line, t.col, l⟩ ts3) := hid (by have h9 := HL2.out; rw [hk, if_pos rfl] at h9; exact (Option.some.inj h9).symm)
    have hk2 : ((nowT ts3).kind != 3) = false := by simpa using hk
    clear HL2
    obtain ⟨e0, ef⟩ := cells1 HS21.out.h1
    obtain ⟨f0, ff⟩ := cells1 HS21.out.h2
    obtain ⟨k0, kf⟩ := cells1 HS21.out.h3
    go_wp2_with fail
    have E1 := HS21.out.setR6 (by rw [hcW]; exact Nat.le_refl _) (by rw [hcp]; omega) (by simp <;> omega) (.string ⟨#[112, 114, 111, 103, 114, 97, 109]⟩) (.string ⟨#[]⟩) (.int .u64 0) (.int .i64 t.line) (.int .i64 t.col) (.slice A l.length cp)
    have E2 := E1.swap.setR (by rw [hcW]; omega) (by rw [hcp]; omega) (by simp <;> omega) 0 (.int .i64 0)
    have E3 := E2.rot.setR (by rw [hcW]; omega) (by rw [hcp]; omega) (by simp <;> omega) 0 (.int .i64 0)
    have E4 := E3.rot4.setR (by rw [hcW]; omega) (by rw [hcp]; omega) (by simp <;> omega) 0 (.int .i64 0)
    refine leaves_cons (f := 29) (args := #[.pointer (some ⟨w.heap.size, 0, none⟩), .pointer (some ⟨w.heap.size + 1, 0, none⟩), .pointer (some ⟨w.heap.size + 1 + 1, 0, none⟩), .pointer (some ⟨w.heap.size + 1 + 1 + 1, 0, none⟩)]) (by simp) (by simp [go_sem]) ?_
    refine (catch_idle _ _ _ _ _).mono ?_
    rintro e u' w'' ⟨rfl, rfl, rfl⟩
    refine ⟨_, results4 rfl rfl rfl rfl E4.h3 E4.h2 E4.h1 E4.h0, ?_⟩
    rw [HR.out]
    exact ⟨by have h9 := E4.ps.1; rw [hcW] at h9; exact h9, A, cp, rfl, Kd.R_mono (Kd.R_lower E4.r0 (by rw [hcp]; omega)) (fun _ _ => trivial)⟩
end Go.Proofs.YtdimhoilfopndaaGreatDoor
end
section
namespace Go.Proofs.YtdimhoilfopndaaGreatDoor
open Go.RowKit Go.Proofs.YtdimhoilfopndaaGreatDoorW.PrintWords
theorem lexF_toks (src : ByteArray) : ∀ (f a : Nat) (r : LexA), a ≤ src.size → lexF f src a = some r → r.err = 0 → 0 < r.toks.length ∧ r.toks.length + a ≤ src.size + 1 ∧ ∀ i, i < r.toks.length → (r.toks.getD i default).kind ≠ 3 → i + 1 < r.toks.length := by
 intro f
 induction f with
 | zero => intro a r _ h; simp [lexF] at h
 | succ f ih =>
  intro a r ha h he
  simp only [lexF] at h
  obtain ⟨b, hb, h1, h2⟩ := skipF_some src (src.size + 1) a ha (by omega)
  rw [hb] at h
  simp only at h
  split at h
  ·
   rename_i h0
   split at h
   ·
    rename_i hk
    obtain rfl := (Option.some.inj h).symm
    refine ⟨by simp, by simp; omega, fun i hi hn => ?_⟩
    have : i = 0 := by simpa using hi
    subst this
    exact absurd hk hn
   ·
    rename_i hk
    obtain ⟨r2, hr2, rfl⟩ := Option.map_eq_some_iff.mp h
    obtain ⟨hs1, hs2⟩ := nextF_size h2 h0 hk
    have he2 : r2.err = 0 := by
     unfold LexA.cons at he
     split at he
     · assumption
     · exact he
    obtain ⟨i1, i2, i3⟩ := ih _ r2 hs2 hr2 he2
    have hc : (LexA.cons (nextF src b).1 r2).toks = (nextF src b).1 :: r2.toks := by unfold LexA.cons; rw [if_pos he2]
    rw [hc]
    refine ⟨by simp, by simp; omega, fun i hi hn => ?_⟩
    cases i with
    | zero => simp; omega
    | succ i =>
     have hi2 : i < r2.toks.length := by simpa using hi
     have := i3 i hi2 (by simpa using hn)
     simp; omega
  ·
   rename_i h0
   obtain rfl := (Option.some.inj h).symm
   exact absurd he h0
theorem lexR_toks (src : ByteArray) (h : (lexR src).err = 0) : 0 < (lexR src).toks.length ∧ (lexR src).toks.length ≤ src.size + 1 ∧ src.size ≤ 65536 ∧ ∀ i, i < (lexR src).toks.length → ((lexR src).toks.getD i default).kind ≠ 3 → i + 1 < (lexR src).toks.length := by
 by_cases hs : 65536 < src.size
 ·
  unfold lexR at h
  rw [if_pos hs] at h
  exact absurd h (by decide)
 ·
  obtain ⟨r, hr⟩ := lexF_some src (src.size + 1) 0 (Nat.zero_le _) (by omega)
  have hlr : lexR src = r := by unfold lexR; rw [if_neg hs, hr]; rfl
  rw [hlr] at h ⊢
  obtain ⟨h1, h2, h3⟩ := lexF_toks src _ 0 r (Nat.zero_le _) hr h
  exact ⟨h1, by omega, by omega, h3⟩
theorem flat_cell : ∀ (ts : List Tok) (i k : Nat) (h : i < ts.length), k < 5 → (ts.flatMap Tok.cells)[i * 5 + k]? = (ts[i].cells)[k]?
 | t :: ts, 0, k, _, hk => by
  rw [List.flatMap_cons, Nat.zero_mul, Nat.zero_add, List.getElem?_append_left (by simpa [Tok.cells] using hk)]; rfl
 | t :: ts, i + 1, k, h, hk => by
  rw [List.flatMap_cons, List.getElem?_append_right (by simp [Tok.cells]; omega)]
  have := flat_cell ts i k (by simpa using h) hk
  simp only [List.getElem_cons_succ]
  rw [← this]
  congr 1
  simp [Tok.cells]; omega
theorem toksAt_of {w : World} {base : Nat} {v : Value} {src : ByteArray} (he : (lexR src).err = 0) (ho : w.ownsRow base 60 5 v (lexR src).toks.length ((lexR src).toks.flatMap Tok.cells)) (hL : LaidX w) (hm : ∃ m : Int, w.cell? ⟨3, 0, none⟩ = some (.int .i64 m)) :
  ∃ g cap, v = .slice (some ⟨g, 0, none⟩) (lexR src).toks.length cap ∧ ToksAt w g cap (lexR src).toks := by
 obtain ⟨h1, h2, h3, h4⟩ := lexR_toks src he
 have hoo := ho
 obtain ⟨hx, hy⟩ := ho
 rcases hy with ⟨hv, hn⟩ | ⟨g, cap, cur, rfl, hb, hh, hnc, hcm, hcs, ht⟩
 · omega
 ·
  refine ⟨g, cap, rfl, hnc, by omega, fun i hi j u hu => ?_, h4, hL, hm, h1⟩
  have hj : j < 5 := by
   obtain ⟨hl, _⟩ := List.getElem?_eq_some_iff.1 hu
   exact hl
  have hf := flat_cell (lexR src).toks i j hi hj
  have hu2 : ((lexR src).toks[i]).cells[j]? = some u := by rwa [List.getD_eq_getElem?_getD, List.getElem?_eq_getElem hi] at hu
  rw [hu2] at hf
  have := hoo.cells (g := g) rfl _ u hf
  rwa [add_plain] at this
def PostR (w : World) (a : ReadA) (e : Ending) (w' : World) : Prop :=
 IsOv w w' ∧ ∃ A cap, e = .returned (.tuple #[nodeV a.node (.slice A a.node.kids.length cap), .int .i64 a.line, .int .i64 a.col, .int .i64 a.err]) ∧ kNode.R 26 w' w.heap.size (fun _ => True) (.slice A a.node.kids.length cap) a.node.kids
theorem resultsR {tmps : Array Value} {W : World} {b0 : Nat} {x0 x1 x2 x3 x4 x5 y z u : Value} (t2 : tmps.getD 2 undef = .pointer (some ⟨b0, 0, none⟩)) (t3 : tmps.getD 3 undef = y) (t4 : tmps.getD 4 undef = z) (t5 : tmps.getD 5 undef = u)
  (h0 : W.heap[b0]? = some (.cells #[x0, x1, x2, x3, x4, x5] 26 (0, 0))) : (results Tryz.f8 tmps).run Tryz.prog W = .ok (.tuple #[.agg #[x0, x1, x2, x3, x4, x5], y, z, u]) W := by
 have c0 : W.cell? ⟨b0, 0, none⟩ = some x0 := cell_of_heap h0 0
 have c1 : W.cell? ⟨b0, 1, none⟩ = some x1 := cell_of_heap h0 1
 have c2 : W.cell? ⟨b0, 2, none⟩ = some x2 := cell_of_heap h0 2
 have c3 : W.cell? ⟨b0, 3, none⟩ = some x3 := cell_of_heap h0 3
 have c4 : W.cell? ⟨b0, 4, none⟩ = some x4 := cell_of_heap h0 4
 have c5 : W.cell? ⟨b0, 5, none⟩ = some x5 := cell_of_heap h0 5
 simp only [Array.getD_eq_getD_getElem?] at t2 t3 t4 t5
 simp [results, Tryz.results8, t2, t3, t4, t5, c0, c1, c2, c3, c4, c5, asAddr, go_sem]
set_option maxRecDepth 20000 in
set_option maxHeartbeats 800000 in
theorem Read_calls (gf : Nat) (hgf : gf ≤ 1000000000) (w : World) (src : ByteArray) (a : ReadA) (h : readF gf src = some a) (hL : LaidX w) (hm : ∃ m : Int, w.cell? ⟨3, 0, none⟩ = some (.int .i64 m)) : Calls Tryz.prog 8 #[.string src] w (PostR w a) := by
 have HH := hid h
 have HL := hid hL
 have HM := hid hm
 clear h hL hm
 go_enter Tryz.func8, Tryz.ntmps8
 go_wp2_with fail
 refine cmo (Lex_calls _ src (HL.out.of_isOv (by repeat (first | with_reducible exact IsOv.refl _ | with_reducible apply IsOv.dr | with_reducible apply IsOv.drewN | with_reducible apply IsOv.drew | with_reducible apply IsOv.alloc | with_reducible apply IsOv.ov)))) ?_
 rintro e9 w1 ⟨v, rfl, hov, hrow⟩
 have HR := hid hrow
 have HOV := hid (((IsOv.refl w).alloc (.cells #[.string ⟨#[]⟩, .string ⟨#[]⟩, .int .u64 0, .int .i64 0, .int .i64 0, .slice none 0 0] 26)).trans hov)
 have hr1 := hov.heap (heap_alloc_new w (.cells #[.string ⟨#[]⟩, .string ⟨#[]⟩, .int .u64 0, .int .i64 0, .int .i64 0, .slice none 0 0] 26))
 have hz1 := hov.size_le
 simp only [World.size_alloc] at hz1
 clear hov hrow
 obtain ⟨r0, r1, r2, r3, r4, r5, rf⟩ := cells6 hr1
 cases he : ((lexR src).err == 0)
 ·
  have hne : (lexR src).err ≠ 0 := by simpa using he
  have he2 : ((lexR src).err != 0) = true := by simpa using he
  have HA : Hid (a = ⟨zNode, (lexR src).line, (lexR src).col, (lexR src).err⟩) := hid (by have h9 := HH.out; unfold readF at h9; rw [if_pos hne] at h9; exact (Option.some.inj h9).symm)
  go_wp2_with fail
  rw [HA.out]
  refine bodyPost_ret (v := .tuple #[.agg #[.string ⟨#[]⟩, .string ⟨#[]⟩, .int .u64 0, .int .i64 0, .int .i64 0, .slice none 0 0], .int .i64 (lexR src).line, .int .i64 (lexR src).col, .int .i64 (lexR src).err]) (resultsR rfl rfl rfl rfl (heap_set6 hr1 _ _ _ _ _ _)) rfl ⟨?_, none, 0, rfl, R_nilN _ _⟩
  repeat (first | with_reducible exact HOV.out | with_reducible apply IsOv.drew | with_reducible apply IsOv.alloc | with_reducible refine IsOv.setCell ?_ (by dsimp only; omega) _)
 ·
  have h0 : (lexR src).err = 0 := by simpa using he
  have he2 : ((lexR src).err != 0) = false := by simpa using he
  obtain ⟨g, cap, rfl, ht⟩ := toksAt_of h0 HR.out (HL.out.of_isOv HOV.out) (by obtain ⟨m, h9⟩ := HM.out; exact ⟨m, HOV.out.cell h9⟩)
  have HT := hid ht
  clear ht
  go_wp2_with fail
  have hp : ∃ r, parseF gf (lexR src).toks = some r ∧ a = (match r with | .ok n _ => ⟨n, 0, 0, 0⟩ | .bad l k e => ⟨zNode, l, k, e⟩) := by
   have h9 := HH.out
   unfold readF at h9
   rw [if_neg (by simp [h0])] at h9
   cases hq : parseF gf (lexR src).toks with
   | none => rw [hq] at h9; cases h9
   | some r => rw [hq] at h9; cases r <;> exact ⟨_, rfl, (Option.some.inj h9).symm⟩
  obtain ⟨r, hr, ha⟩ := hp
  have HA := hid ha
  clear ha
  refine cmo (Parse_calls gf hgf w1 g cap _ r hr HT.out) ?_
  rintro e9 w2 ⟨hov2, hp⟩
  have hr2 := hov2.heap hr1
  have hz2 := hov2.size_le
  have HOV2 := hid (HOV.out.trans hov2)
  clear hov2 r0 r1 r2 r3 r4 r5 rf
  obtain ⟨r0, r1, r2, r3, r4, r5, rf⟩ := cells6 hr2
  rcases r with ⟨n, tsr⟩ | ⟨l, k, er⟩
  ·
   obtain ⟨A, cp, rfl, hR⟩ := hp
   have HRR := hid hR
   clear hR
   unfold nodeV
   go_wp2_with fail
   rw [HA.out]
   refine bodyPost_ret (v := .tuple #[.agg #[.string n.kind, .string n.text, .int .u64 n.num, .int .i64 n.line, .int .i64 n.col, .slice A n.kids.length cp], .int .i64 0, .int .i64 0, .int .i64 0]) (resultsR rfl rfl rfl rfl (heap_set6 hr2 _ _ _ _ _ _)) rfl ⟨?_, A, cp, rfl, Kd.R_lower (R_set6 HRR.out (by omega) _ _ _ _ _ _) (by omega)⟩
   repeat (first | with_reducible exact HOV2.out | with_reducible apply IsOv.drew | with_reducible apply IsOv.alloc | with_reducible refine IsOv.setCell ?_ (by dsimp only; omega) _)
  ·
   obtain rfl := hp
   unfold nodeV
   go_wp2_with fail
   rw [HA.out]
   refine bodyPost_ret (v := .tuple #[.agg #[.string ⟨#[]⟩, .string ⟨#[]⟩, .int .u64 0, .int .i64 0, .int .i64 0, .slice none 0 0], .int .i64 l, .int .i64 k, .int .i64 er]) (resultsR rfl rfl rfl rfl (heap_set6 hr2 _ _ _ _ _ _)) rfl ⟨?_, none, 0, rfl, R_nilN _ _⟩
   repeat (first | with_reducible exact HOV2.out | with_reducible apply IsOv.drew | with_reducible apply IsOv.alloc | with_reducible refine IsOv.setCell ?_ (by dsimp only; omega) _)
end Go.Proofs.YtdimhoilfopndaaGreatDoor
end
section
namespace Go.Proofs.YtdimhoilfopndaaGreatDoor
open Go.RowKit Go.Proofs.YtdimhoilfopndaaGreatDoorW.PrintWords
structure SC where
 W : World
 p : Nat
structure SS (c : SC) (W : World) (xs : List ByteArray) (hs : List (Nat × Obj)) : Prop where
 ov : IsOv c.W W
 hp : c.W.heap.size ≤ c.p
 st : ∃ v, W.heap[c.p]? = some (.cells #[v] 53 (0, 0)) ∧ Kd.string.R 9 W (c.p + 1) (fun k => ∀ p ∈ hs, k ≠ p.1) v xs
 held : ∀ p ∈ hs, W.heap[p.1]? = some p.2 ∧ p.1 ≠ c.p
section
variable {c : SC} {W W' : World} {xs : List ByteArray} {hs : List (Nat × Obj)}
theorem SS.isOv (h : SS c W xs hs) (hb : IsOv W W') : SS c W' xs hs := by
 obtain ⟨v, h1, h2⟩ := h.st
 exact ⟨h.ov.trans hb, h.hp, ⟨v, hb.heap h1, Kd.R_below h2 hb.below⟩, fun p hp => ⟨hb.heap (h.held p hp).1, (h.held p hp).2⟩⟩
theorem SS.lt (h : SS c W xs hs) : c.p < W.heap.size := by obtain ⟨v, h1, _⟩ := h.st; exact lt_of_heap h1
theorem SS.heldLt (h : SS c W xs hs) : ∀ p ∈ hs, p.1 < W.heap.size := fun p hp => lt_of_heap (h.held p hp).1
theorem SS.alloc (h : SS c W xs hs) (o : Obj) : SS c (W.alloc o) xs ((W.heap.size, o) :: hs) := by
 have h2 := h.isOv ((IsOv.refl W).alloc o)
 obtain ⟨v, h3, h4⟩ := h.st
 refine ⟨h2.ov, h.hp, ⟨v, ((IsOv.refl W).alloc o).heap h3, Kd.R_mono (Kd.R_below (Kd.R_bound h4) ((IsOv.refl W).alloc o).below) fun k hk p hp => ?_⟩, fun p hp => ?_⟩
 ·
  rcases List.mem_cons.mp hp with rfl | hp
  · have := hk.2.2.1; show k ≠ W.heap.size; omega
  · exact hk.1 p hp
 ·
  rcases List.mem_cons.mp hp with rfl | hp
  · exact ⟨heap_alloc_new W o, by have := h.lt; show W.heap.size ≠ c.p; omega⟩
  · exact h2.held p hp
theorem SS.sub (h : SS c W xs hs) {hs' : List (Nat × Obj)} (h1 : ∀ p ∈ hs', p ∈ hs) : SS c W xs hs' := by
 obtain ⟨v, h3, h4⟩ := h.st
 exact ⟨h.ov, h.hp, ⟨v, h3, Kd.R_mono h4 fun k hk p hp => hk p (h1 p hp)⟩, fun p hp => h.held p (h1 p hp)⟩
theorem SS.drop {p : Nat × Obj} (h : SS c W xs (p :: hs)) : SS c W xs hs := h.sub (by simp +contextual)
theorem SS.h0 {b : Nat} {o : Obj} (h : SS c W xs ((b, o) :: hs)) : W.heap[b]? = some o := (h.held (b, o) (by simp)).1
theorem SS.h1 {p : Nat × Obj} {b : Nat} {o : Obj} (h : SS c W xs (p :: (b, o) :: hs)) : W.heap[b]? = some o := (h.held (b, o) (by simp)).1
theorem SS.h2 {p q : Nat × Obj} {b : Nat} {o : Obj} (h : SS c W xs (p :: q :: (b, o) :: hs)) : W.heap[b]? = some o := (h.held (b, o) (by simp)).1
end
def oddE : Ending := .panicked [{ v := .iface 47 (.agg #[]), recovered := false }]
def PostS (c : SC) (xs : List ByteArray) (r : Out) (hs : List (Nat × Obj)) (e : Ending) (w' : World) : Prop :=
 match r with
 | some ys => e = .returned (.tuple #[]) ∧ SS c w' (xs ++ ys) hs
 | none => e = oddE ∧ IsOv c.W w'
theorem strs_info : (Tryz.prog.info? 9).map (fun i => (i.zero, i.size, i.bytes)) = some (some (.string ⟨#[]⟩), 1, 16) := by kernel_rfl
abbrev RS9 (W : World) (b : Nat) (ys : List ByteArray) : Prop := ReadsRow (fun (x : ByteArray) cs => cs = [.string x]) Kd.string.sz W (some ⟨b, 0, none⟩) ys.length ys
theorem strs_read {W : World} {b : Nat} {ys : List ByteArray} (hl : ys.length ≤ 1000) (h : W.heap[b]? = some (.cells (ys.map Value.string).toArray 9 (0, 0))) : RS9 W b ys := by
 refine ⟨rfl, by omega, fun _ => ⟨_, rfl, fun j p hj => ⟨[.string p], rfl, rfl, fun i u hu => ?_⟩⟩⟩
 match i, hu with
 | 0, hu =>
  rw [add_plain]
  have h9 := cell_of_heap h (j * 1 + 0)
  rw [Nat.mul_one, Nat.add_zero] at h9
  have e : Kd.string.sz = 1 := rfl
  rw [e, Nat.mul_one, Nat.add_zero]
  rw [h9]
  simp only [List.getElem?_toArray, List.getElem?_map, hj, Option.map_some]
  exact hu
 | i + 1, hu => simp at hu
set_option maxRecDepth 20000 in
theorem must_calls (b : Bool) (w : World) : Calls Tryz.prog 32 #[.bool b] w fun e w' => w' = w ∧ e = (if b then .returned (.tuple #[]) else oddE) := by
 cases b
 ·
  go_enter Tryz.func32, Tryz.ntmps32
  go_wp2_with fail
  exact ⟨rfl, rfl, rfl⟩
 ·
  go_enter Tryz.func32, Tryz.ntmps32
  go_wp2_with fail
  exact bodyPost_end (v := .tuple #[]) (by simp [results, Tryz.results32]) rfl ⟨rfl, rfl⟩
set_option maxRecDepth 20000 in
set_option maxHeartbeats 400000 in
theorem put_calls (c : SC) (w : World) (xs ys : List ByteArray) (hs : List (Nat × Obj)) (b m : Nat) (hr : RS9 w b ys) (h : SS c w xs hs) (hl : xs.length + ys.length ≤ 1000000000) : Calls Tryz.prog 35 #[.pointer (some ⟨c.p, 0, none⟩), .slice (some ⟨b, 0, none⟩) ys.length m] w (PostS c xs (some ys) hs) := by
 have HS0 := hid h
 have hlt := h.lt
 obtain ⟨v, hp, hv⟩ := h.st
 have HV := hid hv
 have HVB := Kd.R_base hv
 have HVL := Kd.R_lt hv
 obtain ⟨A0, c0, rfl⟩ := Kd.R_slice hv
 clear hv h
 obtain ⟨p0, pf⟩ := cells1 hp
 go_enter Tryz.func35, Tryz.ntmps35
 go_wp2_with ((with_reducible refine gate_app (xs := #[.tmp 8, .tmp 9]) rfl ?_); at_builtin; go_loud (refine Kd.R_append_rows Kd.string (w0 := w) (W := w) (c.p + 1) rfl (.tmp 8) (.tmp 9) 51 9 (.string ⟨#[]⟩) 16 rfl Tryz.underlying51 strs_info rfl (by decide) (by decide) (.slice A0 xs.length c0) xs ys (some ⟨b, 0, none⟩) ys.length m _ (fun _ => False) rfl rfl HV.out hr (fun x cs hx => ?aM) (fun _ h => h.elim) (fun k hk p hp => ?aF) (Below.refl _ _) (by omega) (by omega) ?_; (case aM => exact hx); (case aF => have := HS0.out.heldLt p hp; omega); intro v9 w9 hR9 _ hg9 hat; obtain ⟨A9, c9, rfl⟩ := Kd.R_slice hR9; have HR9 := hid hR9; have HG9 := hid hg9; have hp9 := (hg9.block c.p hlt (fun e => by have := HVB c.p e.symm; omega)).trans hp; have q0 : w9.cell? ⟨c.p, 0, none⟩ = some (.slice A0 xs.length c0) := cell_of_heap hp9 0; have qf := frozen_of_heap hp9; clear hR9 hg9 hat))
 refine bodyPost_end (v := .tuple #[]) (by simp [results, Tryz.results35]) rfl ⟨rfl, ?_⟩
 have hown : ∀ k, (Value.slice A0 xs.length c0).ownBlock = some k → c.W.heap.size ≤ k := fun k hk => by have := HVB k hk; have := HS0.out.hp; omega
 refine ⟨(IsOv.grown HS0.out.ov HG9.out hown).setCell (p := ⟨c.p, 0, none⟩) HS0.out.hp _, HS0.out.hp, ⟨_, hs_set hp9 _, ?_⟩, fun p hp2 => ?_⟩
 ·
  rw [← List.length_append]
  exact Kd.R_mono (Kd.R_far (p := ⟨c.p, 0, none⟩) (Kd.R_bound HR9.out) (fun k hk e => by have := hk.2.1; have e2 : k = c.p := e; omega) _) (fun k hk => hk.1)
 ·
  have h2 := HS0.out.held p hp2
  refine ⟨hs_far ((HG9.out.block p.1 (HS0.out.heldLt p hp2) (fun e => HV.out.1 p.1 e.symm p hp2 rfl)).trans h2.1) h2.2 _, h2.2⟩
end Go.Proofs.YtdimhoilfopndaaGreatDoor
end
section
namespace Go.Proofs.YtdimhoilfopndaaGreatDoor
open Go.RowKit Go.Proofs.YtdimhoilfopndaaGreatDoorW.PrintWords
theorem etl : (⟨#[]⟩ : ByteArray).toList = [] := by rw [Lib.toList_data]
set_option maxRecDepth 20000 in
set_option maxHeartbeats 1600000 in
theorem plain_calls (n : Node) (A : Option Addr) (cap : Nat) (kind : ByteArray) (kd : Int) (t u : Bool) (w : World) : Calls Tryz.prog 21 #[nodeV n (.slice A n.kids.length cap), .string kind, .int .i64 kd, .bool t, .bool u] w fun e w' => IsOv w w' ∧ e = (if plainB n kind kd t u then .returned (.tuple #[]) else oddE) := by
 unfold nodeV
 have hkl : 0 ≤ (n.kids.length : Int) := by omega
 cases b1 : (n.kind.toList == kind.toList)
 ·
  have HV : plainB n kind kd t u = false := by simp only [plainB, eqB, ← txt_eq, etl, b1, Bool.true_and, Bool.false_and, Bool.and_true, Bool.and_false, Bool.true_or, Bool.false_or, Bool.or_true, Bool.or_false]
  rw [HV]
  clear HV
  go_enter Tryz.func21, Tryz.ntmps21
  go_wp2_with fail
  refine cmo (must_calls false _) ?_
  rintro e9 w9 ⟨rfl, rfl⟩
  exact ⟨rfl, (IsOv.refl w).alloc _, rfl⟩
 ·
  cases b2 : ((n.kids.length : Int) == kd)
  ·
   have HV : plainB n kind kd t u = false := by simp only [plainB, eqB, ← txt_eq, etl, b1, b2, Bool.true_and, Bool.false_and, Bool.and_true, Bool.and_false, Bool.true_or, Bool.false_or, Bool.or_true, Bool.or_false]
   rw [HV]
   clear HV
   go_enter Tryz.func21, Tryz.ntmps21
   go_wp2_with fail
   refine cmo (must_calls false _) ?_
   rintro e9 w9 ⟨rfl, rfl⟩
   exact ⟨rfl, (IsOv.refl w).alloc _, rfl⟩
  ·
   cases t
   ·
    cases b3 : n.text.toList.isEmpty
    ·
     have b3b : (n.text.toList == []) = false := by rw [← b3]; cases n.text.toList <;> rfl
     have b3c : (n.text.data.toList == []) = false := by rw [← Lib.toList_data]; exact b3b
     have HV : plainB n kind kd false u = false := by simp only [plainB, eqB, ← txt_eq, etl, b1, b2, b3c, Bool.true_and, Bool.false_and, Bool.and_true, Bool.and_false, Bool.true_or, Bool.false_or, Bool.or_true, Bool.or_false]
     rw [HV]
     clear HV
     go_enter Tryz.func21, Tryz.ntmps21
     go_wp2_with fail
     refine cmo (must_calls false _) ?_
     rintro e9 w9 ⟨rfl, rfl⟩
     exact ⟨rfl, (IsOv.refl w).alloc _, rfl⟩
    ·
     have b3b : (n.text.toList == []) = true := by rw [← b3]; cases n.text.toList <;> rfl
     have b3c : (n.text.data.toList == []) = true := by rw [← Lib.toList_data]; exact b3b
     cases u
     ·
      cases b4 : (n.num == 0)
      ·
       have HV : plainB n kind kd false false = false := by simp only [plainB, eqB, ← txt_eq, etl, b1, b2, b3c, b4, Bool.true_and, Bool.false_and, Bool.and_true, Bool.and_false, Bool.true_or, Bool.false_or, Bool.or_true, Bool.or_false]
       rw [HV]
       clear HV
       go_enter Tryz.func21, Tryz.ntmps21
       go_wp2_with fail
       refine cmo (must_calls false _) ?_
       rintro e9 w9 ⟨rfl, rfl⟩
       exact ⟨rfl, (IsOv.refl w).alloc _, rfl⟩
      ·
       have HV : plainB n kind kd false false = true := by simp only [plainB, eqB, ← txt_eq, etl, b1, b2, b3c, b4, Bool.true_and, Bool.false_and, Bool.and_true, Bool.and_false, Bool.true_or, Bool.false_or, Bool.or_true, Bool.or_false]
       rw [HV]
       clear HV
       go_enter Tryz.func21, Tryz.ntmps21
       go_wp2_with fail
       refine cmo (must_calls true _) ?_
       rintro e9 w9 ⟨rfl, rfl⟩
       go_wp2_with fail
       exact bodyPost_end (v := .tuple #[]) (by simp [results, Tryz.results21]) rfl ⟨(IsOv.refl w).alloc _, rfl⟩
     ·
      have HV : plainB n kind kd false true = true := by simp only [plainB, eqB, ← txt_eq, etl, b1, b2, b3c, Bool.true_and, Bool.false_and, Bool.and_true, Bool.and_false, Bool.true_or, Bool.false_or, Bool.or_true, Bool.or_false]
      rw [HV]
      clear HV
      go_enter Tryz.func21, Tryz.ntmps21
      go_wp2_with fail
      refine cmo (must_calls true _) ?_
      rintro e9 w9 ⟨rfl, rfl⟩
      go_wp2_with fail
      exact bodyPost_end (v := .tuple #[]) (by simp [results, Tryz.results21]) rfl ⟨(IsOv.refl w).alloc _, rfl⟩
   ·
    cases u
    ·
     cases b4 : (n.num == 0)
     ·
      have HV : plainB n kind kd true false = false := by simp only [plainB, eqB, ← txt_eq, etl, b1, b2, b4, Bool.true_and, Bool.false_and, Bool.and_true, Bool.and_false, Bool.true_or, Bool.false_or, Bool.or_true, Bool.or_false]
      rw [HV]
      clear HV
      go_enter Tryz.func21, Tryz.ntmps21
      go_wp2_with fail
      refine cmo (must_calls false _) ?_
      rintro e9 w9 ⟨rfl, rfl⟩
      exact ⟨rfl, (IsOv.refl w).alloc _, rfl⟩
     ·
      have HV : plainB n kind kd true false = true := by simp only [plainB, eqB, ← txt_eq, etl, b1, b2, b4, Bool.true_and, Bool.false_and, Bool.and_true, Bool.and_false, Bool.true_or, Bool.false_or, Bool.or_true, Bool.or_false]
      rw [HV]
      clear HV
      go_enter Tryz.func21, Tryz.ntmps21
      go_wp2_with fail
      refine cmo (must_calls true _) ?_
      rintro e9 w9 ⟨rfl, rfl⟩
      go_wp2_with fail
      exact bodyPost_end (v := .tuple #[]) (by simp [results, Tryz.results21]) rfl ⟨(IsOv.refl w).alloc _, rfl⟩
    ·
     have HV : plainB n kind kd true true = true := by simp only [plainB, eqB, ← txt_eq, etl, b1, b2, Bool.true_and, Bool.false_and, Bool.and_true, Bool.and_false, Bool.true_or, Bool.false_or, Bool.or_true, Bool.or_false]
     rw [HV]
     clear HV
     go_enter Tryz.func21, Tryz.ntmps21
     go_wp2_with fail
     refine cmo (must_calls true _) ?_
     rintro e9 w9 ⟨rfl, rfl⟩
     go_wp2_with fail
     exact bodyPost_end (v := .tuple #[]) (by simp [results, Tryz.results21]) rfl ⟨(IsOv.refl w).alloc _, rfl⟩
theorem first_tok {w : World} {base : Nat} {v : Value} {ts : List Tok} (h : w.ownsRow base 60 5 v ts.length (ts.flatMap Tok.cells)) : ∃ A c, v = .slice A ts.length c ∧ (0 < ts.length → ∃ g, A = some ⟨g, 0, none⟩ ∧ w.cell? ⟨g, 0, none⟩ = some (.int .i64 (nowT ts).kind) ∧ w.cell? ⟨g, 1, none⟩ = some (.string (nowT ts).text)) := by
 have hoo := h
 obtain ⟨hx, hy⟩ := h
 rcases hy with ⟨hv, hn⟩ | ⟨g, cap, cur, rfl, hb, hh, hnc, hcm, hcs, ht⟩
 · exact ⟨none, 0, by rw [hv, hn], fun h9 => by omega⟩
 ·
  refine ⟨_, _, rfl, fun h9 => ⟨g, rfl, ?_, ?_⟩⟩
  ·
   cases ts with
   | nil => simp at h9
   | cons t ts => have := hoo.cells (g := g) rfl 0 (.int .i64 t.kind) (by simp [Tok.cells]); rwa [add_plain] at this
  ·
   cases ts with
   | nil => simp at h9
   | cons t ts => have := hoo.cells (g := g) rfl 1 (.string t.text) (by simp [Tok.cells]); rwa [add_plain] at this
set_option maxRecDepth 20000 in
set_option maxHeartbeats 400000 in
theorem given_calls (s : ByteArray) (w : World) (hL : LaidX w) : Gives Tryz.prog 65 #[.string s] w (.bool (givenB s)) := by
 unfold Gives
 have HL := hid hL
 clear hL
 cases e0 : ((lexR s).err == 0)
 ·
  have GV : givenB s = false := by simp only [givenB, eqB, e0, Bool.true_and, Bool.false_and]
  rw [GV]
  clear GV
  go_enter Tryz.func65, Tryz.ntmps65
  go_wp2_with fail
  refine cmo (Lex_calls _ s HL.out) ?_
  rintro e9 w1 ⟨v, rfl, hov, hrow⟩
  obtain ⟨A, cp, rfl, hf⟩ := first_tok hrow
  have HOV := hid hov
  clear hov hrow
  clear hf
  go_wp2_with fail
  exact bodyPost_ret (v := .bool false) (by simp [results, Tryz.results65, go_sem, ↓IntWalk.iteOmega]) rfl ⟨rfl, HOV.out⟩
 ·
  cases l2n : ((lexR s).toks.length == 2)
  ·
   have l2 : (((lexR s).toks.length : Int) == 2) = false := by simp only [beq_iff_eq, beq_eq_false_iff_ne] at l2n ⊢; omega
   have GV : givenB s = false := by simp only [givenB, eqB, e0, l2n, Bool.true_and, Bool.false_and]
   rw [GV]
   clear GV
   go_enter Tryz.func65, Tryz.ntmps65
   go_wp2_with fail
   refine cmo (Lex_calls _ s HL.out) ?_
   rintro e9 w1 ⟨v, rfl, hov, hrow⟩
   obtain ⟨A, cp, rfl, hf⟩ := first_tok hrow
   have HOV := hid hov
   clear hov hrow
   clear hf
   go_wp2_with fail
   exact bodyPost_ret (v := .bool false) (by simp [results, Tryz.results65, go_sem, ↓IntWalk.iteOmega]) rfl ⟨rfl, HOV.out⟩
  ·
   have l2 : (((lexR s).toks.length : Int) == 2) = true := by simp only [beq_iff_eq, beq_eq_false_iff_ne] at l2n ⊢; omega
   cases k0 : ((nowT (lexR s).toks).kind == 0)
   ·
    have GV : givenB s = false := by simp only [givenB, eqB, e0, l2n, k0, Bool.true_and, Bool.false_and]
    rw [GV]
    clear GV
    go_enter Tryz.func65, Tryz.ntmps65
    go_wp2_with fail
    refine cmo (Lex_calls _ s HL.out) ?_
    rintro e9 w1 ⟨v, rfl, hov, hrow⟩
    obtain ⟨A, cp, rfl, hf⟩ := first_tok hrow
    have HOV := hid hov
    clear hov hrow
    have hl2 : (lexR s).toks.length = 2 := by simpa using l2n
    obtain ⟨g, rfl, g0, g1⟩ := hf (by omega)
    rw [hl2]
    clear l2 hl2 hf
    go_wp2_with fail
    exact bodyPost_ret (v := .bool false) (by simp [results, Tryz.results65, go_sem, ↓IntWalk.iteOmega]) rfl ⟨rfl, HOV.out⟩
   ·
    cases tx : ((nowT (lexR s).toks).text.toList == s.toList)
    ·
     have txd : ((nowT (lexR s).toks).text.data.toList == s.data.toList) = false := by rw [← txt_eq]; exact tx
     have GV : givenB s = false := by simp only [givenB, eqB, e0, l2n, k0, txd, Bool.true_and, Bool.false_and]
     rw [GV]
     clear GV
     go_enter Tryz.func65, Tryz.ntmps65
     go_wp2_with fail
     refine cmo (Lex_calls _ s HL.out) ?_
     rintro e9 w1 ⟨v, rfl, hov, hrow⟩
     obtain ⟨A, cp, rfl, hf⟩ := first_tok hrow
     have HOV := hid hov
     clear hov hrow
     have hl2 : (lexR s).toks.length = 2 := by simpa using l2n
     obtain ⟨g, rfl, g0, g1⟩ := hf (by omega)
     rw [hl2]
     clear l2 hl2 hf
     go_wp2_with fail
     exact bodyPost_ret (v := .bool false) (by simp [results, Tryz.results65, go_sem, ↓IntWalk.iteOmega]) rfl ⟨rfl, HOV.out⟩
    ·
     have txd : ((nowT (lexR s).toks).text.data.toList == s.data.toList) = true := by rw [← txt_eq]; exact tx
     have GV : givenB s = (!kwB s.data.toList) := by simp only [givenB, eqB, e0, l2n, k0, txd, Bool.true_and, Bool.false_and]
     rw [GV]
     clear GV
     go_enter Tryz.func65, Tryz.ntmps65
     go_wp2_with fail
     refine cmo (Lex_calls _ s HL.out) ?_
     rintro e9 w1 ⟨v, rfl, hov, hrow⟩
     obtain ⟨A, cp, rfl, hf⟩ := first_tok hrow
     have HOV := hid hov
     clear hov hrow
     have hl2 : (lexR s).toks.length = 2 := by simpa using l2n
     obtain ⟨g, rfl, g0, g1⟩ := hf (by omega)
     rw [hl2]
     clear l2 hl2 hf
     go_wp2_with fail
     refine cmo (Keyword_says s _ (HL.out.of_isOv HOV.out)) ?_
     rintro e9 w2 ⟨rfl, hdr⟩
     have HOV2 := hid hdr.isOv
     clear hdr
     go_wp2_with fail
     exact bodyPost_ret (v := .bool (!kwB s.data.toList)) (by simp [results, Tryz.results65, go_sem, ↓IntWalk.iteOmega]) rfl ⟨rfl, HOV.out.trans HOV2.out⟩
end Go.Proofs.YtdimhoilfopndaaGreatDoor
end
section
namespace Go.Proofs.YtdimhoilfopndaaGreatDoor
open Go.RowKit Go.Proofs.YtdimhoilfopndaaGreatDoorW.PrintWords
theorem sq_ss (a b : List ByteArray) : sq (some a) (some b) = some (a ++ b) := rfl
theorem sq_n (b : Out) : sq none b = none := rfl
theorem sq_sn (a : List ByteArray) : sq (some a) none = none := rfl
theorem SQ0 : (∀ a b : List ByteArray, sq (some a) (some b) = some (a ++ b)) ∧ (∀ b : Out, sq none b = none) ∧ (∀ a : List ByteArray, sq (some a) none = none) ∧ ((false = true) = False) ∧ (∀ b, (b && true) = b) ∧ (∀ b, (true && b) = b) ∧ (∀ b, (b && false) = false) ∧ (∀ b, (false && b) = false) ∧ (∀ b, (b || true) = true) ∧ (∀ b, (true || b) = true) ∧ (∀ b, (b || false) = b) ∧ ∀ b, (false || b) = b := ⟨fun _ _ => rfl, fun _ => rfl, fun _ => rfl, by simp, by simp, by simp, by simp, by simp, by simp, by simp, by simp, by simp⟩
abbrev Tr (W : World) (v : Value) (ks : List Node) : Prop := kNode.R 26 W 0 (fun _ => True) v ks
theorem kid_at {W W' : World} {n : Node} {A : Option Addr} {cap : Nat} (h : Tr W (.slice A n.kids.length cap) n.kids) (hov : IsOv W W') (i : Nat) (hi : i < n.kids.length) : ∃ g Ai ci, A = some ⟨g, 0, none⟩ ∧ g < W.heap.size ∧ W'.cell? ⟨g, i * 6, none⟩ = some (.string (kidN n i).kind) ∧ W'.cell? ⟨g, i * 6 + 1, none⟩ = some (.string (kidN n i).text) ∧ W'.cell? ⟨g, i * 6 + 2, none⟩ = some (.int .u64 (kidN n i).num) ∧ W'.cell? ⟨g, i * 6 + 3, none⟩ = some (.int .i64 (kidN n i).line) ∧ W'.cell? ⟨g, i * 6 + 4, none⟩ = some (.int .i64 (kidN n i).col) ∧ W'.cell? ⟨g, i * 6 + 5, none⟩ = some (.slice Ai (kidN n i).kids.length ci) ∧ Tr W (.slice Ai (kidN n i).kids.length ci) (kidN n i).kids := by
 obtain ⟨g, c9, he, hg1, hg2⟩ := Kd.R_form h (by omega)
 injection he with ha hn hc
 subst ha
 subst hc
 obtain ⟨cs, h1, h2, h3, h4⟩ := Kd.R_elem h zNode (i : Int) (by omega) (by omega)
 obtain ⟨v5, rfl, h5⟩ := kNode_openM h2
 obtain ⟨Ai, ci, rfl⟩ := Kd.R_slice h5
 refine ⟨g, Ai, ci, rfl, hg2.1, hov.cell (h3 0 _ rfl), hov.cell (h3 1 _ rfl), hov.cell (h3 2 _ rfl), hov.cell (h3 3 _ rfl), hov.cell (h3 4 _ rfl), hov.cell (h3 5 _ rfl), Kd.R_mono h5 (fun _ _ => trivial)⟩
set_option maxRecDepth 20000 in
set_option maxHeartbeats 400000 in
theorem name_shows (c : SC) (hL : LaidX c.W) (w : World) (xs : List ByteArray) (hs : List (Nat × Obj)) (n : Node) (A : Option Addr) (cap : Nat) (h : SS c w xs hs) (hl : xs.length + 1 ≤ 1000000000) : Calls Tryz.prog 34 #[.pointer (some ⟨c.p, 0, none⟩), nodeV n (.slice A n.kids.length cap)] w (PostS c xs (nameS n) hs) := by
 have HL := hid hL
 clear hL
 obtain ⟨r, hr⟩ : ∃ r, r = nameS n := ⟨_, rfl⟩
 rw [← hr]
 have HR0 := hid hr
 clear hr
 unfold nameS at HR0
 unfold nodeV
 have hlt := h.lt
 have HS0 := hid h
 clear h
 go_enter Tryz.func34, Tryz.ntmps34
 have HS1 := hid (HS0.out.alloc (.cells #[.string n.kind, .string n.text, .int .u64 n.num, .int .i64 n.line, .int .i64 n.col, .slice A n.kids.length cap] 26))
 go_wp2_with fail
 cases gb : givenB n.text
 ·
  refine cmo (given_calls n.text _ (HL.out.of_isOv HS1.out.ov)) ?_
  rintro e9 w1 ⟨rfl, hov⟩
  rw [gb]
  have HS2 := hid (HS1.out.isOv hov)
  clear HS1
  clear hov
  go_wp2_with fail
  refine cmo (must_calls false _) ?_
  rintro e9 w99 ⟨hw9, rfl⟩
  obtain rfl := hw9.symm
  clear hw9
  obtain rfl : r = none := by rw [HR0.out, gb]; rfl
  exact ⟨rfl, rfl, HS2.out.ov⟩
 ·
  refine cmo (given_calls n.text _ (HL.out.of_isOv HS1.out.ov)) ?_
  rintro e9 w1 ⟨rfl, hov⟩
  rw [gb]
  have HS2 := hid (HS1.out.isOv hov)
  clear HS1
  clear hov
  go_wp2_with fail
  refine cmo (must_calls true _) ?_
  rintro e9 w99 ⟨hw9, rfl⟩
  obtain rfl := hw9.symm
  clear hw9
  have hzb : w.heap.size < w1.heap.size := lt_of_heap HS2.out.h0
  obtain ⟨n0, n1, n2, n3, n4, n5, nf⟩ := cells6 HS2.out.h0
  go_wp2_with fail
  refine cmo (put_calls c _ (xs) [n.text] _ _ 1 (strs_read (by simp) (heap_alloc_new _ _)) (HS2.out.alloc _) (by simp only [List.length_append, List.length_cons, List.length_nil] at *; omega)) ?_
  rintro e9 w2 ⟨rfl, hss⟩
  have HS3 := hid (hss.drop)
  clear HS2
  clear hss
  go_wp2_with fail
  have HR1 : Hid (r = some [n.text]) := hid (by rw [HR0.out, gb]; rfl)
  have hys := HR1.out
  try simp only [SQ0, ↓reduceIte] at hys
  subst hys
  exact bodyPost_end (v := .tuple #[]) (by simp [results, Tryz.results34]) rfl ⟨rfl, by have h9 := HS3.out.drop; simpa only [List.append_assoc, List.append_nil, List.nil_append, List.cons_append] using h9⟩
end Go.Proofs.YtdimhoilfopndaaGreatDoor
end
section
namespace Go.Proofs.YtdimhoilfopndaaGreatDoor
open Go.RowKit Go.Proofs.YtdimhoilfopndaaGreatDoorW.PrintWords
set_option maxRecDepth 20000 in
set_option maxHeartbeats 400000 in
theorem typ_shows (c : SC) (w : World) (xs : List ByteArray) (hs : List (Nat × Obj)) (n : Node) (A : Option Addr) (cap : Nat) (vo : Bool) (h : SS c w xs hs) (hl : xs.length + 1 ≤ 1000000000) : Calls Tryz.prog 33 #[.pointer (some ⟨c.p, 0, none⟩), nodeV n (.slice A n.kids.length cap), .bool vo] w (PostS c xs (typS n vo) hs) := by
 obtain ⟨r, hr⟩ : ∃ r, r = typS n vo := ⟨_, rfl⟩
 rw [← hr]
 have HR0 := hid hr
 clear hr
 unfold typS at HR0
 unfold nodeV
 have hlt := h.lt
 have HS0 := hid h
 clear h
 go_enter Tryz.func33, Tryz.ntmps33
 have HS1 := hid (HS0.out.alloc (.cells #[.string n.kind, .string n.text, .int .u64 n.num, .int .i64 n.line, .int .i64 n.col, .slice A n.kids.length cap] 26))
 go_wp2_with fail
 cases bp : plainB n ⟨#[116, 121, 112, 101]⟩ 0 true false
 ·
  refine cmo (plain_calls _ _ _ _ _ _ _ _) ?_
  rintro e9 w1 ⟨hov, rfl⟩
  rw [bp]
  have HS2 := hid (HS1.out.isOv hov)
  clear HS1
  clear hov
  simp only [Bool.false_eq_true, ↓reduceIte]
  obtain rfl : r = none := by rw [HR0.out]; simp only [bp, SQ0, ↓reduceIte]
  exact ⟨rfl, rfl, HS2.out.ov⟩
 ·
  refine cmo (plain_calls _ _ _ _ _ _ _ _) ?_
  rintro e9 w1 ⟨hov, rfl⟩
  rw [bp]
  have HS2 := hid (HS1.out.isOv hov)
  clear HS1
  clear hov
  have hzb1 : w.heap.size < w1.heap.size := lt_of_heap HS2.out.h0
  obtain ⟨n0, n1, n2, n3, n4, n5, nf⟩ := cells6 HS2.out.h0
  go_wp2_with fail
  refine cmo (typed_gives n.text _) ?_
  rintro e9 w2 ⟨rfl, hov⟩
  have HS3 := hid (HS2.out.isOv hov)
  clear HS2
  clear hov
  have hzb2 : w.heap.size < w2.heap.size := lt_of_heap HS3.out.h0
  obtain ⟨n0, n1, n2, n3, n4, n5, nf⟩ := cells6 HS3.out.h0
  cases bt : typedB n.text
  ·
   cases vo
   ·
    go_wp2_with fail
    refine cmo (must_calls false _) ?_
    rintro e9 w99 ⟨hw9, rfl⟩
    obtain rfl := hw9.symm
    clear hw9
    obtain rfl : r = none := by rw [HR0.out]; simp only [bp, bt, SQ0, ↓reduceIte]
    exact ⟨rfl, rfl, HS3.out.ov⟩
   ·
    cases bw : (n.text.toList == [118, 111, 105, 100])
    ·
     have bwd : eqB n.text ⟨#[118, 111, 105, 100]⟩ = false := by rw [Lib.toList_data] at bw; exact bw
     go_wp2_with fail
     refine cmo (must_calls false _) ?_
     rintro e9 w99 ⟨hw9, rfl⟩
     obtain rfl := hw9.symm
     clear hw9
     obtain rfl : r = none := by rw [HR0.out]; simp only [bp, bt, bwd, SQ0, ↓reduceIte]
     exact ⟨rfl, rfl, HS3.out.ov⟩
    ·
     have bwd : eqB n.text ⟨#[118, 111, 105, 100]⟩ = true := by rw [Lib.toList_data] at bw; exact bw
     go_wp2_with fail
     refine cmo (must_calls true _) ?_
     rintro e9 w99 ⟨hw9, rfl⟩
     obtain rfl := hw9.symm
     clear hw9
     go_wp2_with fail
     refine cmo (put_calls c _ (xs) [n.text] _ _ 1 (strs_read (by simp) (heap_alloc_new _ _)) (HS3.out.alloc _) (by simp only [List.length_append, List.length_cons, List.length_nil] at *; omega)) ?_
     rintro e9 w3 ⟨rfl, hss⟩
     have HS4 := hid (hss.drop)
     clear HS3
     clear hss
     go_wp2_with fail
     have HR1 : Hid (r = some [n.text]) := hid (by rw [HR0.out]; simp only [bp, bt, bwd, SQ0, ↓reduceIte])
     have hys := HR1.out
     try simp only [SQ0, ↓reduceIte] at hys
     subst hys
     exact bodyPost_end (v := .tuple #[]) (by simp [results, Tryz.results33]) rfl ⟨rfl, by have h9 := HS4.out.drop; simpa only [List.append_assoc, List.append_nil, List.nil_append, List.cons_append] using h9⟩
  ·
   go_wp2_with fail
   refine cmo (must_calls true _) ?_
   rintro e9 w99 ⟨hw9, rfl⟩
   obtain rfl := hw9.symm
   clear hw9
   go_wp2_with fail
   refine cmo (put_calls c _ (xs) [n.text] _ _ 1 (strs_read (by simp) (heap_alloc_new _ _)) (HS3.out.alloc _) (by simp only [List.length_append, List.length_cons, List.length_nil] at *; omega)) ?_
   rintro e9 w3 ⟨rfl, hss⟩
   have HS4 := hid (hss.drop)
   clear HS3
   clear hss
   go_wp2_with fail
   have HR1 : Hid (r = some [n.text]) := hid (by rw [HR0.out]; simp only [bp, bt, SQ0, ↓reduceIte])
   have hys := HR1.out
   try simp only [SQ0, ↓reduceIte] at hys
   subst hys
   exact bodyPost_end (v := .tuple #[]) (by simp [results, Tryz.results33]) rfl ⟨rfl, by have h9 := HS4.out.drop; simpa only [List.append_assoc, List.append_nil, List.nil_append, List.cons_append] using h9⟩
set_option maxRecDepth 20000 in
set_option maxHeartbeats 400000 in
theorem binding_gives (op : ByteArray) (w : World) (m : Int) (hm : w.cell? ⟨3, 0, none⟩ = some (.int .i64 m)) : Gives Tryz.prog 112 #[.string op] w (.bool (bindingB op)) := by
 unfold Gives
 have HM := hid hm
 clear hm
 obtain ⟨q, hq⟩ : ∃ q, q = bindingB op := ⟨_, rfl⟩
 rw [← hq]
 have HQ := hid hq
 clear hq
 unfold bindingB at HQ
 cases he : op.toList.isEmpty
 ·
  have heb : (op.toList == []) = false := by rw [← he]; cases op.toList <;> rfl
  have hed : eqB op ⟨#[]⟩ = false := by unfold eqB; rw [← Lib.toList_data]; exact heb
  have hen : (op.toList != []) = true := by simp only [bne, heb]; rfl
  have HQ2 : Hid (q = (List.range 10).any fun i => levelB i op) := hid (by rw [HQ.out, hed]; rfl)
  clear HQ
  go_enter Tryz.func112, Tryz.ntmps112
  go_wp2_with fail
  go_loopg [4] 11 (fun g b wr => ∃ k : Nat, b = .int .i64 (k : Int) ∧ k + g = 11 ∧ k ≤ 10 ∧ (∀ j, j < k → levelB j op = false) ∧ IsOv w wr)
  case atStart => exact ⟨0, rfl, rfl, by omega, fun j hj => by omega, IsOv.refl w⟩
  case round =>
   obtain ⟨k, rfl, hk, hk2, hall, hov⟩ := hrel
   have HALL := hid hall
   have HOV := hid hov
   clear hall hov
   by_cases hk10 : k < 10
   ·
    have hlt : (k : Int) < 10 := by omega
    have hltb : decide ((k : Int) < 10) = true := decide_eq_true hlt
    go_wp2_with fail
    refine cmo (level_gives k hk10 _ op m (HOV.out.cell HM.out)) ?_
    rintro e9 w1 ⟨rfl, hov1⟩
    cases hl : levelB k op
    ·
     have HOV1 := hid (HOV.out.trans hov1)
     clear hov1 HOV
     have hiw : IntKind.i64.wrap ((k : Int) + 1) = (k : Int) + 1 := IntWalk.i64_in _ (by omega)
     go_wp2_with fail
     go_roundg (gk - 1)
     case rel => exact ⟨k + 1, by push_cast; rfl, by omega, by omega, fun j hj => (by
      rcases Nat.lt_succ_iff_lt_or_eq.mp hj with h9 | rfl
      · exact HALL.out j h9
      · exact hl), HOV1.out⟩
     case measure => omega
    ·
     have hq2 : q = true := by rw [HQ2.out, List.any_eq_true]; exact ⟨k, List.mem_range.mpr hk10, hl⟩
     go_wp2_with fail
     exact bodyPost_ret (v := .bool true) (by simp [results, Tryz.results112, go_sem, ↓IntWalk.iteOmega]) rfl ⟨by simp only [hq2], HOV.out.trans hov1⟩
   ·
    have hge : ¬ (k : Int) < 10 := by omega
    have hltb : decide ((k : Int) < 10) = false := decide_eq_false hge
    have hq2 : q = false := by
     rw [HQ2.out, List.any_eq_false]
     intro j hj
     rw [HALL.out j (by have := List.mem_range.mp hj; omega)]
     decide
    go_wp2_with fail
    exact bodyPost_ret (v := .bool false) (by simp [results, Tryz.results112, go_sem, ↓IntWalk.iteOmega]) rfl ⟨by simp only [hq2], HOV.out⟩
 ·
  have heb : (op.toList == []) = true := by rw [← he]; cases op.toList <;> rfl
  have hed : eqB op ⟨#[]⟩ = true := by unfold eqB; rw [← Lib.toList_data]; exact heb
  have hen : (op.toList != []) = false := by simp only [bne, heb]; rfl
  have hq2 : q = false := by rw [HQ.out, hed]; rfl
  rw [hq2]
  go_enter Tryz.func112, Tryz.ntmps112
  go_wp2_with fail
  go_loopg [4] 11 (fun g b wr => ∃ k : Nat, b = .int .i64 (k : Int) ∧ k + g = 11 ∧ k ≤ 10 ∧ wr = w)
  case atStart => exact ⟨0, rfl, rfl, by omega, rfl⟩
  case round =>
   obtain ⟨k, rfl, hk, hk2, rfl⟩ := hrel
   by_cases hk10 : k < 10
   ·
    have hlt : (k : Int) < 10 := by omega
    have hltb : decide ((k : Int) < 10) = true := decide_eq_true hlt
    have hiw : IntKind.i64.wrap ((k : Int) + 1) = (k : Int) + 1 := IntWalk.i64_in _ (by omega)
    go_wp2_with fail
    go_roundg (gk - 1)
    case rel => exact ⟨k + 1, by push_cast; rfl, by omega, by omega, rfl⟩
    case measure => omega
   ·
    have hge : ¬ (k : Int) < 10 := by omega
    have hltb : decide ((k : Int) < 10) = false := decide_eq_false hge
    go_wp2_with fail
    exact bodyPost_ret (v := .bool false) (by simp [results, Tryz.results112, go_sem, ↓IntWalk.iteOmega]) rfl ⟨rfl, IsOv.refl _⟩
end Go.Proofs.YtdimhoilfopndaaGreatDoor
end
