/- Layer 22's word line, all ways. Conditions: the text takes at most 65536 bytes; the two blocks lie behind a world in which the variables lie as the program lays them. -/
import Derived.Test.YtaibjaienhnckaaDoorVd
set_option linter.unusedVariables false
set_option linter.unusedSimpArgs false
namespace Go.Proofs.YtaibjaienhnckaaDoor
open Go.RowKit
attribute [local go_sem ↓] load_en
theorem ents_not_turned : ∀ k, k < 6 → ((entL.getD k ([], 0, 0)).1 == turnedW) = false := by decide
set_option maxRecDepth 20000 in
set_option maxHeartbeats 2000000 in
theorem line_odd (W w : World) (s : ByteArray) (pc pm : Nat) (c : Cfg) (es : Array MapEntry) (clk : Nat) (seen : List (List UInt8)) (hW : IsOv W w) (hL : LaidV W) (hpc : W.heap.size ≤ pc) (hpm : W.heap.size ≤ pm) (hne : pc ≠ pm) (hc : w.heap[pc]? = some (.cells c.cells 24)) (hm : w.heap[pm]? = some (.map es clk)) (hk : keysAre es.toList seen) (hs : s.size ≤ 65536) (hx : seen.contains (Lib.cut s.data.toList [32]).1 = false) (ht : ((Lib.cut s.data.toList [32]).1 == turnedW) = true) (hn : (Lib.cut s.data.toList [32]).2.2 = true) : Calls Tryd.prog 17 #[.pointer (some ⟨pc, 0, none⟩), .string s, .map (some pm)] w fun e w' => e = .returned (.int .i64 (lineF c s.data.toList seen).1) ∧ IsOv W w' ∧ w'.heap[pc]? = some (.cells (lineF c s.data.toList seen).2.cells 24) ∧ ∃ es' clk' seen', w'.heap[pm]? = some (.map es' clk') ∧ keysAre es'.toList seen' ∧ ((lineF c s.data.toList seen).1 = 0 → seen' = seen ++ [(Lib.cut s.data.toList [32]).1]) := by
  go_enter Tryd.func17, Tryd.ntmps17
  go_wp2_with fail
  refine (cut_gives s w (hL.of_isOv hW) hs).mono ?_
  rintro e w1 ⟨rfl, hov1⟩
  have hrz : (Lib.cut s.data.toList [32]).2.1.length ≤ 65536 := cut_len s hs
  have hlg : lineF c s.data.toList seen = lineG c (Lib.cut s.data.toList [32]).1 (Lib.cut s.data.toList [32]).2.1 (Lib.cut s.data.toList [32]).2.2 seen := rfl
  generalize hwd : (Lib.cut s.data.toList [32]).1 = word at *
  have HT := Lib.hid hwd
  clear hwd
  generalize (Lib.cut s.data.toList [32]).2.1 = rest at *
  generalize (Lib.cut s.data.toList [32]).2.2 = num at *
  have hm1 := hov1.heap hm
  have hc1 := hov1.heap hc
  have hf := (findNow_keys es.toList seen ⟨word.toArray⟩ 0 hk).1 hx
  have hlk := run_lookup_str_none (P := Tryd.prog) Tryd.underlying41 Tryd.underlying9 (s := ⟨word.toArray⟩) hm1 hf (int_zero w1)
  have hup := run_mapUpdate_put (P := Tryd.prog) Tryd.underlying41 Tryd.underlying9 (s := ⟨word.toArray⟩) (.int .i64 1) hm1 hf
  have hov2 : IsOv W (w1.put pm (.map (es.push ⟨.string ⟨word.toArray⟩, .int .i64 1, clk⟩) (clk + 1))) := (hW.trans hov1).put hpm _
  have hc2 : (w1.put pm (.map (es.push ⟨.string ⟨word.toArray⟩, .int .i64 1, clk⟩) (clk + 1))).heap[pc]? = some (.cells c.cells 24) := by rw [World.heap_put_ne _ _ _ _ hne]; exact hc1
  have hm2 := World.heap_put_self w1 pm (.map (es.push ⟨.string ⟨word.toArray⟩, .int .i64 1, clk⟩) (clk + 1)) (lt_of_heap hm1)
  have hk2 := keysAre_push hk ⟨word.toArray⟩ (.int .i64 1) clk
  generalize w1.put pm (.map (es.push ⟨.string ⟨word.toArray⟩, .int .i64 1, clk⟩) (clk + 1)) = w2 at *
  have hL2 : LaidV w2 := hL.of_isOv hov2
  generalize hwb : (⟨word.toArray⟩ : ByteArray) = wb at *
  have HWB := Lib.hid hwb
  have HF := Lib.hid hf
  have HM2 := Lib.hid hm2
  have HC2 := Lib.hid hc2
  have HK := Lib.hid hk2
  have HX := Lib.hid hx
  have HG := Lib.hid hlg
  clear hf hm1 hc1 hm hc hx hm2 hc2 hk2 hwb hlg
  have htl : wb.toList = word := by rw [← HWB.out, ByteArray.toList_eq]
  have htw : (wb.toList == [116, 117, 114, 110, 101, 100]) = true := by rw [htl]; exact ht
  have HTL := Lib.hid htl
  have HTW := Lib.hid (eq_of_beq ht)
  subst hn
  clear htl ht
  generalize (⟨rest.toArray⟩ : ByteArray) = rb at *
  go_wp2_with fail
  go_loopw [42] (fun i wr => ∃ k : Nat, i = .int .i64 (k : Int) ∧ k ≤ 6 ∧ IsOv w2 wr) (fun i wr => (6 - intOf i).toNat)
  case atStart => exact ⟨0, rfl, Nat.zero_le _, by repeat (first | with_reducible exact IsOv.refl _ | with_reducible apply IsOv.dr | with_reducible apply IsOv.drewN | with_reducible apply IsOv.drew | with_reducible apply IsOv.alloc | with_reducible apply IsOv.ov)⟩
  case round =>
    obtain ⟨k, rfl, hk6, hov⟩ := hrel
    by_cases hlt : k < 6
    · have hix := ent_index k hlt
      have hlt2 : (k : Int) < 6 := by omega
      have hew : (entWd k).toList = (entL.getD k ([], 0, 0)).1 := by rw [ByteArray.toList_eq]; rfl
      have hcmp : ((entWd k).toList == wb.toList) = false := by rw [hew, HTL.out, HTW.out]; exact ents_not_turned k hlt
      clear hew
      go_wp2_with fail
      go_roundw
      case rel => exact ⟨k + 1, by go_num, by omega, hov.trans (by repeat (first | with_reducible exact IsOv.refl _ | (with_reducible refine IsOv.setCell ?_ ?_ _; rotate_left; (first | exact Nat.le_refl _ | exact Nat.le_succ _)) | with_reducible apply IsOv.dr | with_reducible apply IsOv.drewN | with_reducible apply IsOv.drew | with_reducible apply IsOv.alloc | with_reducible apply IsOv.ov))⟩
      case measure => simp [intOf]; omega
    · obtain rfl : k = 6 := by omega
      have HLF : Hid (lineF c s.data.toList seen = (220, c)) := Lib.hid (HG.out.trans (by
        unfold lineG
        rw [HX.out, if_neg Bool.false_ne_true, HTW.out]; rfl))
      go_wp2_with fail
      exact bodyPost_ret (v := .int .i64 220) (by simp [results, Tryd.results17, go_sem, ↓IntWalk.iteOmega]) rfl ⟨by rw [HLF.out], hov2.trans (hov.trans (by repeat (first | with_reducible exact IsOv.refl _ | with_reducible apply IsOv.dr | with_reducible apply IsOv.drewN | with_reducible apply IsOv.drew | with_reducible apply IsOv.alloc | with_reducible apply IsOv.ov))), by rw [HLF.out]; exact (hov.trans (by repeat (first | with_reducible exact IsOv.refl _ | with_reducible apply IsOv.dr | with_reducible apply IsOv.drewN | with_reducible apply IsOv.drew | with_reducible apply IsOv.alloc | with_reducible apply IsOv.ov))).heap HC2.out, _, _, _, (hov.trans (by repeat (first | with_reducible exact IsOv.refl _ | with_reducible apply IsOv.dr | with_reducible apply IsOv.drewN | with_reducible apply IsOv.drew | with_reducible apply IsOv.alloc | with_reducible apply IsOv.ov))).heap HM2.out, HK.out, fun h => by rw [HLF.out] at h; exact absurd h (show ¬ (220 : Int) = 0 by decide)⟩
theorem line_calls (W w : World) (s : ByteArray) (pc pm : Nat) (c : Cfg) (es : Array MapEntry) (clk : Nat) (seen : List (List UInt8)) (hW : IsOv W w) (hL : LaidV W) (hpc : W.heap.size ≤ pc) (hpm : W.heap.size ≤ pm) (hne : pc ≠ pm) (hc : w.heap[pc]? = some (.cells c.cells 24)) (hm : w.heap[pm]? = some (.map es clk)) (hk : keysAre es.toList seen) (hs : s.size ≤ 65536) : Calls Tryd.prog 17 #[.pointer (some ⟨pc, 0, none⟩), .string s, .map (some pm)] w fun e w' => e = .returned (.int .i64 (lineF c s.data.toList seen).1) ∧ IsOv W w' ∧ w'.heap[pc]? = some (.cells (lineF c s.data.toList seen).2.cells 24) ∧ ∃ es' clk' seen', w'.heap[pm]? = some (.map es' clk') ∧ keysAre es'.toList seen' ∧ ((lineF c s.data.toList seen).1 = 0 → seen' = seen ++ [(Lib.cut s.data.toList [32]).1]) := by
  cases hx : seen.contains (Lib.cut s.data.toList [32]).1
  · cases ht : ((Lib.cut s.data.toList [32]).1 == turnedW)
    · exact line_rest W w s pc pm c es clk seen hW hL hpc hpm hne hc hm hk hs hx ht
    · cases hn : (Lib.cut s.data.toList [32]).2.2
      · exact line_once W w s pc pm c es clk seen hW hL hpc hpm hne hc hm hk hs hx (by rw [ht, hn]; rfl)
      · exact line_odd W w s pc pm c es clk seen hW hL hpc hpm hne hc hm hk hs hx ht hn
  · exact line_twice W w s pc pm c es clk seen hW hL hpc hpm hne hc hm hk hs hx
end Go.Proofs.YtaibjaienhnckaaDoor
