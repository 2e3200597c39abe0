/- Layer 22's word line: what it answers and where it turns the setup and the words that were there. Conditions: the text takes at most 65536 bytes; the two blocks lie behind a world in which the variables lie as the program lays them. -/
import Derived.Test.YtaibjaienhnckaaDoorVb
set_option linter.unusedVariables false
set_option linter.unusedSimpArgs false
namespace Go.Proofs.YtaibjaienhnckaaDoor
open Go.RowKit
theorem IsOv.setCellB {W w : World} (h : IsOv W w) {b : Nat} (hb : W.heap.size ≤ b) (i : Nat) (v : Value) : IsOv W (w.setCell ⟨b, i, none⟩ v) := h.setCell (p := ⟨b, i, none⟩) hb v
theorem int_zero (w : World) : (zeroValue 3).run Tryd.prog w = .ok (.int .i64 0) w := by kernel_rfl
theorem line_twice (W w : World) (s : ByteArray) (pc pm : Nat) (c : Cfg) (es : Array MapEntry) (clk : Nat) (seen : List (List UInt8)) (hW : IsOv W w) (hL : LaidV W) (hpc : W.heap.size ≤ pc) (hpm : W.heap.size ≤ pm) (hne : pc ≠ pm) (hc : w.heap[pc]? = some (.cells c.cells 24)) (hm : w.heap[pm]? = some (.map es clk)) (hk : keysAre es.toList seen) (hs : s.size ≤ 65536) (hx : seen.contains (Lib.cut s.data.toList [32]).1 = true) : Calls Tryd.prog 17 #[.pointer (some ⟨pc, 0, none⟩), .string s, .map (some pm)] w fun e w' => e = .returned (.int .i64 (lineF c s.data.toList seen).1) ∧ IsOv W w' ∧ w'.heap[pc]? = some (.cells (lineF c s.data.toList seen).2.cells 24) ∧ ∃ es' clk' seen', w'.heap[pm]? = some (.map es' clk') ∧ keysAre es'.toList seen' ∧ ((lineF c s.data.toList seen).1 = 0 → seen' = seen ++ [(Lib.cut s.data.toList [32]).1]) := by
  have hlF : lineF c s.data.toList seen = (220, c) := by unfold lineF lineG; rw [if_pos hx]
  rw [hlF]
  go_enter Tryd.func17, Tryd.ntmps17
  go_wp2_with fail
  refine (cut_gives s w (hL.of_isOv hW) hs).mono ?_
  rintro e w1 ⟨rfl, hov1⟩
  generalize (Lib.cut s.data.toList [32]).1 = word at *
  generalize (Lib.cut s.data.toList [32]).2.1 = rest at *
  generalize (Lib.cut s.data.toList [32]).2.2 = num at *
  have hm1 := hov1.heap hm
  have hc1 := hov1.heap hc
  obtain ⟨j, v, hf⟩ := (findNow_keys es.toList seen ⟨word.toArray⟩ 0 hk).2 hx
  have hlk := run_lookup_str (P := Tryd.prog) Tryd.underlying41 Tryd.underlying9 (s := ⟨word.toArray⟩) hm1 hf
  have HF := Lib.hid hf
  have HM := Lib.hid hm1
  have HC := Lib.hid hc1
  clear hf hm1 hc1 hm hc hx hlF
  go_wp2_with fail
  exact bodyPost_ret (v := .int .i64 220) (by simp [results, Tryd.results17, go_sem, ↓IntWalk.iteOmega]) rfl ⟨rfl, hW.trans hov1, HC.out, es, clk, seen, HM.out, hk, fun h => by cases h⟩
set_option maxRecDepth 20000 in
theorem line_once (W w : World) (s : ByteArray) (pc pm : Nat) (c : Cfg) (es : Array MapEntry) (clk : Nat) (seen : List (List UInt8)) (hW : IsOv W w) (hL : LaidV W) (hpc : W.heap.size ≤ pc) (hpm : W.heap.size ≤ pm) (hne : pc ≠ pm) (hc : w.heap[pc]? = some (.cells c.cells 24)) (hm : w.heap[pm]? = some (.map es clk)) (hk : keysAre es.toList seen) (hs : s.size ≤ 65536) (hx : seen.contains (Lib.cut s.data.toList [32]).1 = false) (ht : ((Lib.cut s.data.toList [32]).1 == turnedW && !(Lib.cut s.data.toList [32]).2.2) = true) : Calls Tryd.prog 17 #[.pointer (some ⟨pc, 0, none⟩), .string s, .map (some pm)] w fun e w' => e = .returned (.int .i64 (lineF c s.data.toList seen).1) ∧ IsOv W w' ∧ w'.heap[pc]? = some (.cells (lineF c s.data.toList seen).2.cells 24) ∧ ∃ es' clk' seen', w'.heap[pm]? = some (.map es' clk') ∧ keysAre es'.toList seen' ∧ ((lineF c s.data.toList seen).1 = 0 → seen' = seen ++ [(Lib.cut s.data.toList [32]).1]) := by
  have hlF : lineF c s.data.toList seen = (0, { c with t := true }) := by unfold lineF lineG; rw [hx, if_neg Bool.false_ne_true, if_pos ht]
  rw [hlF]
  go_enter Tryd.func17, Tryd.ntmps17
  go_wp2_with fail
  refine (cut_gives s w (hL.of_isOv hW) hs).mono ?_
  rintro e w1 ⟨rfl, hov1⟩
  simp only [Bool.and_eq_true, beq_iff_eq, Bool.not_eq_true'] at ht
  obtain ⟨ht1, ht2⟩ := ht
  rw [ht1] at hx ⊢
  rw [ht2]
  generalize (Lib.cut s.data.toList [32]).2.1 = rest at *
  have hwb : (⟨turnedW.toArray⟩ : ByteArray) = ⟨#[116, 117, 114, 110, 101, 100]⟩ := rfl
  rw [hwb]
  have hm1 := hov1.heap hm
  have hc1 := hov1.heap hc
  have hf := (findNow_keys es.toList seen ⟨#[116, 117, 114, 110, 101, 100]⟩ 0 hk).1 hx
  have hlk := run_lookup_str_none (P := Tryd.prog) Tryd.underlying41 Tryd.underlying9 (s := ⟨#[116, 117, 114, 110, 101, 100]⟩) hm1 hf (int_zero w1)
  have hup := run_mapUpdate_put (P := Tryd.prog) Tryd.underlying41 Tryd.underlying9 (s := ⟨#[116, 117, 114, 110, 101, 100]⟩) (.int .i64 1) hm1 hf
  have hov2 : IsOv W (w1.put pm (.map (es.push ⟨.string ⟨#[116, 117, 114, 110, 101, 100]⟩, .int .i64 1, clk⟩) (clk + 1))) := (hW.trans hov1).put hpm _
  have hc2 : (w1.put pm (.map (es.push ⟨.string ⟨#[116, 117, 114, 110, 101, 100]⟩, .int .i64 1, clk⟩) (clk + 1))).heap[pc]? = some (.cells c.cells 24) := by rw [World.heap_put_ne _ _ _ _ hne]; exact hc1
  have hm2 := World.heap_put_self w1 pm (.map (es.push ⟨.string ⟨#[116, 117, 114, 110, 101, 100]⟩, .int .i64 1, clk⟩) (clk + 1)) (lt_of_heap hm1)
  have hk2 := keysAre_push hk ⟨#[116, 117, 114, 110, 101, 100]⟩ (.int .i64 1) clk
  generalize w1.put pm (.map (es.push ⟨.string ⟨#[116, 117, 114, 110, 101, 100]⟩, .int .i64 1, clk⟩) (clk + 1)) = w2 at *
  have fc := cell_of_heap hc2 6
  have ff := frozen_of_heap hc2 6
  have hc3 : (w2.setCell ⟨pc, 6, none⟩ (.bool true)).heap[pc]? = some (.cells ({ c with t := true } : Cfg).cells 24) := heap_setCell_self hc2 _
  have hm3 : (w2.setCell ⟨pc, 6, none⟩ (.bool true)).heap[pm]? = _ := (heap_setCell_ne (Ne.symm hne) _).trans hm2
  have fc2 : w2.cell? ⟨pc, 6, none⟩ = some (.bool c.t) := fc
  have HF := Lib.hid hf
  have HM := Lib.hid hm3
  have HC := Lib.hid hc3
  have HO := Lib.hid (IsOv.setCellB hov2 hpc 6 (.bool true))
  have HT := Lib.hid ht1
  have HK := Lib.hid hk2
  clear hf hm1 hc1 hm hc hx hlF hm2 hc2 hm3 hc3 fc hov2 hk2 ht1 ht2 hwb
  go_wp2_with fail
  exact bodyPost_ret (v := .int .i64 0) (by simp [results, Tryd.results17, go_sem, ↓IntWalk.iteOmega]) rfl ⟨rfl, HO.out, HC.out, _, _, _, HM.out, HK.out, fun _ => by rw [HT.out]; rfl⟩
end Go.Proofs.YtaibjaienhnckaaDoor
