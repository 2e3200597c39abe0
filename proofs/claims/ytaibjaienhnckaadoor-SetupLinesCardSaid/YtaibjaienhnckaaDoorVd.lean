/- Layer 22's word line where its first word was not there yet: the numbers, one by one. Conditions: the text takes at most 65536 bytes; the two blocks lie behind a world in which the variables lie as the program lays them. -/
import Derived.Test.YtaibjaienhnckaaDoorVc
set_option linter.unusedVariables false
set_option linter.unusedSimpArgs false
namespace Go.Proofs.YtaibjaienhnckaaDoor
open Go.RowKit
theorem cut_len (s : ByteArray) (hs : s.size ≤ 65536) : (Lib.cut s.data.toList [32]).2.1.length ≤ 65536 := by
  have hz : s.size = s.data.toList.length := Array.length_toList.symm
  unfold Lib.cut
  split
  · simp; omega
  · simp
/-- Entry number k. -/
def entWd (k : Nat) : ByteArray := ⟨(entL.getD k ([], 0, 0)).1.toArray⟩
def entLo (k : Nat) : Int := (entL.getD k ([], 0, 0)).2.1
def entHi (k : Nat) : Int := (entL.getD k ([], 0, 0)).2.2
theorem ent_index (k : Nat) (h : k < 6) (w : World) : (Instr.index 61 (.agg entCells) (.int .i64 (k : Int))).run Tryd.prog w = .ok (.agg #[.string (entWd k), .int .i64 (entLo k), .int .i64 (entHi k)]) w :=
  match k, h with
  | 0, _ => by kernel_rfl
  | 1, _ => by kernel_rfl
  | 2, _ => by kernel_rfl
  | 3, _ => by kernel_rfl
  | 4, _ => by kernel_rfl
  | 5, _ => by kernel_rfl
  | n + 6, h => absurd h (by omega)
theorem numP_index (k : Nat) (h : k < 6) (b : Nat) (w : World) : (Instr.index 54 (.agg #[.pointer (some ⟨b, 0, none⟩), .pointer (some ⟨b, 1, none⟩), .pointer (some ⟨b, 2, none⟩), .pointer (some ⟨b, 3, none⟩), .pointer (some ⟨b, 4, none⟩), .pointer (some ⟨b, 5, none⟩)]) (.int .i64 (k : Int))).run Tryd.prog w = .ok (.pointer (some ⟨b, k, none⟩)) w :=
  match k, h with
  | 0, _ => numP_index0 b w
  | 1, _ => numP_index1 b w
  | 2, _ => numP_index2 b w
  | 3, _ => numP_index3 b w
  | 4, _ => numP_index4 b w
  | 5, _ => numP_index5 b w
  | n + 6, h => absurd h (by omega)
theorem load_en {W : World} (h : LaidV W) (A : Act) (dst : Option Tmp) (rt : TypeId) (pos : String) (after : Array Edge) (gd : Option (Nat × Bool)) :
    (execOp A.eval ⟨dst, .load 61 (.global 0), rt, pos, after, gd⟩).run Tryd.prog W = .ok (.value (.agg entCells)) W :=
  run_load_table h.en Tryd.underlying61 rfl (by kernel_rfl) A dst rt pos after gd
attribute [local go_sem ↓] load_en
theorem entIdx_none {word : List UInt8} (h : ∀ j, j < 6 → ((entL.getD j ([], 0, 0)).1 == word) = false) : entIdx word = none := by
  have h0 := h 0 (by decide); have h1 := h 1 (by decide); have h2 := h 2 (by decide); have h3 := h 3 (by decide); have h4 := h 4 (by decide); have h5 := h 5 (by decide)
  unfold entIdx
  split
  · rename_i e; exact absurd (eq_of_beq e).symm (ne_of_beq_false h0)
  split
  · rename_i e; exact absurd (eq_of_beq e).symm (ne_of_beq_false h1)
  split
  · rename_i e; exact absurd (eq_of_beq e).symm (ne_of_beq_false h2)
  split
  · rename_i e; exact absurd (eq_of_beq e).symm (ne_of_beq_false h3)
  split
  · rename_i e; exact absurd (eq_of_beq e).symm (ne_of_beq_false h4)
  split
  · rename_i e; exact absurd (eq_of_beq e).symm (ne_of_beq_false h5)
  rfl
theorem lineG_none {c : Cfg} {word rest : List UInt8} {num : Bool} {seen : List (List UInt8)} (h1 : seen.contains word = false) (h2 : (word == turnedW) = false) (h3 : entIdx word = none) : lineG c word rest num seen = (220, c) := by
  unfold lineG
  rw [h1, if_neg Bool.false_ne_true, h2, h3]; rfl
theorem lineG_some {c : Cfg} {word rest : List UInt8} {num : Bool} {seen : List (List UInt8)} {i : Nat} (h1 : seen.contains word = false) (h2 : (word == turnedW) = false) (h3 : entIdx word = some i) :
    lineG c word rest num seen = (if digitsOk rest && num then
        (match atoiP rest with
          | none => ((221 : Int), c)
          | some v => if v < (entL.getD i ([], 0, 0)).2.1 ∨ (entL.getD i ([], 0, 0)).2.2 < v then (221, c) else (0, c.set i v))
      else (220, c)) := by
  unfold lineG
  rw [h1, if_neg Bool.false_ne_true, h2, h3]; rfl
theorem digits_no1 {rest : List UInt8} (h : ¬ Lib.trimS rest digL = []) : digitsOk rest = false := by
  unfold digitsOk
  have : (Lib.trimS rest digL).isEmpty = false := by cases hx : Lib.trimS rest digL with | nil => exact absurd hx h | cons _ _ => rfl
  rw [this]; rfl
theorem digits_no2 {rest : List UInt8} (h : rest = []) : digitsOk rest = false := by
  subst h; rfl
theorem digits_no3 {rest : List UInt8} (h : ¬ rest = [48]) (h2 : rest.headD 0 = 48) : digitsOk rest = false := by
  unfold digitsOk
  have e1 : (rest == [48]) = false := by rw [beq_eq_false_iff_ne]; exact h
  have e2 : (rest.headD 0 == 48) = true := by rw [h2]; rfl
  rw [e1, e2]; simp
theorem digits_yes1 {rest : List UInt8} (h : rest = [48]) : digitsOk rest = true := by subst h; decide
theorem digits_yes2 {rest : List UInt8} (h1 : Lib.trimS rest digL = []) (h2 : ¬ rest = []) (h3 : ¬ rest.headD 0 = 48) : digitsOk rest = true := by
  unfold digitsOk
  have e2 : (rest.headD 0 == 48) = false := by rw [beq_eq_false_iff_ne]; exact h3
  have e3 : rest.isEmpty = false := by cases rest with | nil => exact absurd rfl h2 | cons _ _ => rfl
  rw [h1, e2, e3]; simp
theorem Cfg.cell_some (c : Cfg) {k : Nat} (h : k < 6) : ∃ v, c.cells[k]? = some v :=
  ⟨_, Array.getElem?_eq_getElem (show k < c.cells.size by show k < 7; omega)⟩
theorem Cfg.set_cells (c : Cfg) {k : Nat} (h : k < 6) (v : Int) : c.cells.setIfInBounds k (.int .i64 v) = (c.set k v).cells :=
  match k, h with
  | 0, _ => rfl
  | 1, _ => rfl
  | 2, _ => rfl
  | 3, _ => rfl
  | 4, _ => rfl
  | 5, _ => rfl
  | n + 6, h => absurd h (by omega)
theorem entIdx_ents : ∀ k, k < 6 → entIdx (entL.getD k ([], 0, 0)).1 = some k := by decide
theorem entIdx_some {word : List UInt8} {k : Nat} (hk : k < 6) (h : ∀ j, j < k → ((entL.getD j ([], 0, 0)).1 == word) = false) (hc : ((entL.getD k ([], 0, 0)).1 == word) = true) : entIdx word = some k := by
  rw [← eq_of_beq hc]; exact entIdx_ents k hk
set_option maxRecDepth 20000 in
set_option maxHeartbeats 8000000 in
theorem line_rest (W w : World) (s : ByteArray) (pc pm : Nat) (c : Cfg) (es : Array MapEntry) (clk : Nat) (seen : List (List UInt8)) (hW : IsOv W w) (hL : LaidV W) (hpc : W.heap.size ≤ pc) (hpm : W.heap.size ≤ pm) (hne : pc ≠ pm) (hc : w.heap[pc]? = some (.cells c.cells 24)) (hm : w.heap[pm]? = some (.map es clk)) (hk : keysAre es.toList seen) (hs : s.size ≤ 65536) (hx : seen.contains (Lib.cut s.data.toList [32]).1 = false) (ht : ((Lib.cut s.data.toList [32]).1 == turnedW) = false) : Calls Tryd.prog 17 #[.pointer (some ⟨pc, 0, none⟩), .string s, .map (some pm)] w fun e w' => e = .returned (.int .i64 (lineF c s.data.toList seen).1) ∧ IsOv W w' ∧ w'.heap[pc]? = some (.cells (lineF c s.data.toList seen).2.cells 24) ∧ ∃ es' clk' seen', w'.heap[pm]? = some (.map es' clk') ∧ keysAre es'.toList seen' ∧ ((lineF c s.data.toList seen).1 = 0 → seen' = seen ++ [(Lib.cut s.data.toList [32]).1]) := by
  go_enter Tryd.func17, Tryd.ntmps17
  go_wp2_with fail
  refine (cut_gives s w (hL.of_isOv hW) hs).mono ?_
  rintro e w1 ⟨rfl, hov1⟩
  have hrz : (Lib.cut s.data.toList [32]).2.1.length ≤ 65536 := cut_len s hs
  have hlg : lineF c s.data.toList seen = lineG c (Lib.cut s.data.toList [32]).1 (Lib.cut s.data.toList [32]).2.1 (Lib.cut s.data.toList [32]).2.2 seen := rfl
  generalize hwd : (Lib.cut s.data.toList [32]).1 = word at *
  have HT := Lib.hid hwd
  clear hwd
  generalize (Lib.cut s.data.toList [32]).2.1 = rest at *
  generalize (Lib.cut s.data.toList [32]).2.2 = num at *
  have hm1 := hov1.heap hm
  have hc1 := hov1.heap hc
  have hf := (findNow_keys es.toList seen ⟨word.toArray⟩ 0 hk).1 hx
  have hlk := run_lookup_str_none (P := Tryd.prog) Tryd.underlying41 Tryd.underlying9 (s := ⟨word.toArray⟩) hm1 hf (int_zero w1)
  have hup := run_mapUpdate_put (P := Tryd.prog) Tryd.underlying41 Tryd.underlying9 (s := ⟨word.toArray⟩) (.int .i64 1) hm1 hf
  have hov2 : IsOv W (w1.put pm (.map (es.push ⟨.string ⟨word.toArray⟩, .int .i64 1, clk⟩) (clk + 1))) := (hW.trans hov1).put hpm _
  have hc2 : (w1.put pm (.map (es.push ⟨.string ⟨word.toArray⟩, .int .i64 1, clk⟩) (clk + 1))).heap[pc]? = some (.cells c.cells 24) := by rw [World.heap_put_ne _ _ _ _ hne]; exact hc1
  have hm2 := World.heap_put_self w1 pm (.map (es.push ⟨.string ⟨word.toArray⟩, .int .i64 1, clk⟩) (clk + 1)) (lt_of_heap hm1)
  have hk2 := keysAre_push hk ⟨word.toArray⟩ (.int .i64 1) clk
  generalize w1.put pm (.map (es.push ⟨.string ⟨word.toArray⟩, .int .i64 1, clk⟩) (clk + 1)) = w2 at *
  have hL2 : LaidV w2 := hL.of_isOv hov2
  generalize hwb : (⟨word.toArray⟩ : ByteArray) = wb at *
  have HWB := Lib.hid hwb
  have HF := Lib.hid hf
  have HM2 := Lib.hid hm2
  have HC2 := Lib.hid hc2
  have HK := Lib.hid hk2
  have HX := Lib.hid hx
  have HG := Lib.hid hlg
  clear hf hm1 hc1 hm hc hx hm2 hc2 hk2 hwb hlg
  have htl : wb.toList = word := by rw [← HWB.out, ByteArray.toList_eq]
  have htw : (wb.toList == [116, 117, 114, 110, 101, 100]) = false := by rw [htl]; exact ht
  have HTL := Lib.hid htl
  have HTW := Lib.hid ht
  clear htl ht
  have hrb : (⟨rest.toArray⟩ : ByteArray).data.toList = rest := rfl
  generalize hrbe : (⟨rest.toArray⟩ : ByteArray) = rb at *
  have HR := Lib.hid hrb
  have hrs : rb.size ≤ 65536 := by rw [show rb.size = rb.data.toList.length from Array.length_toList.symm, hrb]; exact hrz
  clear hrb hrbe hrz
  go_wp2_with fail
  go_loopw [42] (fun i wr => ∃ k : Nat, i = .int .i64 (k : Int) ∧ k ≤ 6 ∧ Hid (∀ j, j < k → ((entL.getD j ([], 0, 0)).1 == word) = false) ∧ IsOv w2 wr) (fun i wr => (6 - intOf i).toNat)
  case atStart => exact ⟨0, rfl, Nat.zero_le _, fun j hj => absurd hj (Nat.not_lt_zero _), by repeat (first | with_reducible exact IsOv.refl _ | with_reducible apply IsOv.dr | with_reducible apply IsOv.drewN | with_reducible apply IsOv.drew | with_reducible apply IsOv.alloc | with_reducible apply IsOv.ov)⟩
  case round =>
    obtain ⟨k, rfl, hk6, hall, hov⟩ := hrel
    by_cases hlt : k < 6
    · have hix := ent_index k hlt
      have hlt2 : (k : Int) < 6 := by omega
      have hew : (entWd k).toList = (entL.getD k ([], 0, 0)).1 := by rw [ByteArray.toList_eq]; rfl
      cases hc : ((entL.getD k ([], 0, 0)).1 == word)
      · have hcmp : ((entWd k).toList == wb.toList) = false := by rw [hew, HTL.out]; exact hc
        have H2 : Hid (∀ j, j < k + 1 → ((entL.getD j ([], 0, 0)).1 == word) = false) := Lib.hid fun j hj => by
          rcases Nat.lt_or_ge j k with h1 | h1
          · exact hall.out j h1
          · have : j = k := by omega
            subst this; exact hc
        clear hc hall hew
        go_wp2_with fail
        go_roundw
        case rel => exact ⟨k + 1, by go_num, by omega, H2, hov.trans (by repeat (first | with_reducible exact IsOv.refl _ | (with_reducible refine IsOv.setCell ?_ ?_ _; rotate_left; (first | exact Nat.le_refl _ | exact Nat.le_succ _)) | with_reducible apply IsOv.dr | with_reducible apply IsOv.drewN | with_reducible apply IsOv.drew | with_reducible apply IsOv.alloc | with_reducible apply IsOv.ov))⟩
        case measure => simp [intOf]; omega
      · have hcmp : ((entWd k).toList == wb.toList) = true := by rw [hew, HTL.out]; exact hc
        have HE := Lib.hid (entIdx_some hlt hall.out hc)
        clear hc hall hew
        go_wp2_with fail
        refine (atoi_calls rb _ (hL2.of_isOv (hov.alloc _)) hrs).mono ?_
        rintro e w3 ⟨⟨n, ev, rfl, hat⟩, hov3⟩
        have g1 : w3.cell? ⟨wr.heap.size, 1, none⟩ = some (.int .i64 (entLo k)) := hov3.cell (by rw [World.cell_alloc_cells, if_neg (Nat.lt_irrefl _), if_pos rfl]; rfl)
        have g2 : w3.cell? ⟨wr.heap.size, 2, none⟩ = some (.int .i64 (entHi k)) := hov3.cell (by rw [World.cell_alloc_cells, if_neg (Nat.lt_irrefl _), if_pos rfl]; rfl)
        have hov4 : IsOv w2 w3 := (hov.alloc _).trans hov3
        have hL3 := hL2.of_isOv hov4
        have HA := Lib.hid hat
        clear hov hov3 hat
        go_wp2_with fail
        refine (trim_gives rb w3 hrs).mono ?_
        rintro e w4 ⟨rfl, hov5⟩
        have htz : (⟨(Lib.trimS rb.data.toList digL).toArray⟩ : ByteArray).toList = Lib.trimS rest digL := by rw [ByteArray.toList_eq, HR.out]
        generalize (⟨(Lib.trimS rb.data.toList digL).toArray⟩ : ByteArray) = tb at *
        have g1 := hov5.cell g1
        have g2 := hov5.cell g2
        have hov6 : IsOv w2 w4 := hov4.trans hov5
        have hL4 := hL2.of_isOv hov6
        have HTZ := Lib.hid htz
        clear hov4 hov5 htz hL3
        have hrl : rb.toList = rest := by rw [ByteArray.toList_eq, HR.out]
        have HRL := Lib.hid hrl
        have HGS := Lib.hid (HG.out.trans (lineG_some (rest := rest) (num := num) HX.out HTW.out HE.out))
        have hlo : (entL.getD k ([], 0, 0)).2.1 = entLo k := rfl
        have hhi : (entL.getD k ([], 0, 0)).2.2 = entHi k := rfl
        rw [hlo, hhi] at HGS
        by_cases c1 : tb.toList = []
        · have c1b : (tb.toList == []) = true := by simpa using c1
          by_cases c2 : rb.toList = []
          · have c2b : (rb.toList == []) = true := by simpa using c2
            have HLF : Hid (lineF c s.data.toList seen = (220, c)) := Lib.hid (HGS.out.trans (by rw [digits_no2 (by rw [← hrl]; exact c2)]; rfl))
            clear c1 c2 hrl
            go_wp2_with fail
            exact bodyPost_ret (v := .int .i64 220) (by simp [results, Tryd.results17, go_sem, ↓IntWalk.iteOmega]) rfl ⟨by rw [HLF.out], hov2.trans (hov6.trans (by repeat (first | with_reducible exact IsOv.refl _ | with_reducible apply IsOv.dr | with_reducible apply IsOv.drewN | with_reducible apply IsOv.drew | with_reducible apply IsOv.alloc | with_reducible apply IsOv.ov))), by rw [HLF.out]; exact (hov6.trans (by repeat (first | with_reducible exact IsOv.refl _ | with_reducible apply IsOv.dr | with_reducible apply IsOv.drewN | with_reducible apply IsOv.drew | with_reducible apply IsOv.alloc | with_reducible apply IsOv.ov))).heap HC2.out, _, _, _, (hov6.trans (by repeat (first | with_reducible exact IsOv.refl _ | with_reducible apply IsOv.dr | with_reducible apply IsOv.drewN | with_reducible apply IsOv.drew | with_reducible apply IsOv.alloc | with_reducible apply IsOv.ov))).heap HM2.out, HK.out, fun h => by rw [HLF.out] at h; exact absurd h (show ¬ (220 : Int) = 0 by decide)⟩
          · have c2b : (rb.toList == []) = false := by simpa using c2
            by_cases c3 : rb.toList = [48]
            · have c3b : (rb.toList == [48]) = true := by simpa using c3
              have hd : digitsOk rest = true := digits_yes1 (by rw [← hrl]; exact c3)
              clear c1 hrl
              cases num
              · have HLF : Hid (lineF c s.data.toList seen = (220, c)) := Lib.hid (HGS.out.trans (by rw [hd]; rfl))
                clear hd
                go_wp2_with fail
                exact bodyPost_ret (v := .int .i64 220) (by simp [results, Tryd.results17, go_sem, ↓IntWalk.iteOmega]) rfl ⟨by rw [HLF.out], hov2.trans (hov6.trans (by repeat (first | with_reducible exact IsOv.refl _ | with_reducible apply IsOv.dr | with_reducible apply IsOv.drewN | with_reducible apply IsOv.drew | with_reducible apply IsOv.alloc | with_reducible apply IsOv.ov))), by rw [HLF.out]; exact (hov6.trans (by repeat (first | with_reducible exact IsOv.refl _ | with_reducible apply IsOv.dr | with_reducible apply IsOv.drewN | with_reducible apply IsOv.drew | with_reducible apply IsOv.alloc | with_reducible apply IsOv.ov))).heap HC2.out, _, _, _, (hov6.trans (by repeat (first | with_reducible exact IsOv.refl _ | with_reducible apply IsOv.dr | with_reducible apply IsOv.drewN | with_reducible apply IsOv.drew | with_reducible apply IsOv.alloc | with_reducible apply IsOv.ov))).heap HM2.out, HK.out, fun h => by rw [HLF.out] at h; exact absurd h (show ¬ (220 : Int) = 0 by decide)⟩
              · rcases HA.out with ⟨v, hv, rfl, rfl⟩ | ⟨hv, te, p, rfl⟩
                · by_cases d1 : n < entLo k
                  · have HLF : Hid (lineF c s.data.toList seen = (221, c)) := Lib.hid (HGS.out.trans (by rw [hd, ← HR.out, hv]; show (if n < entLo k ∨ entHi k < n then ((221 : Int), c) else (0, c.set k n)) = _; exact if_pos (Or.inl d1)))
                    clear hd hv
                    go_wp2_with fail
                    exact bodyPost_ret (v := .int .i64 221) (by simp [results, Tryd.results17, go_sem, ↓IntWalk.iteOmega]) rfl ⟨by rw [HLF.out], hov2.trans (hov6.trans (by repeat (first | with_reducible exact IsOv.refl _ | with_reducible apply IsOv.dr | with_reducible apply IsOv.drewN | with_reducible apply IsOv.drew | with_reducible apply IsOv.alloc | with_reducible apply IsOv.ov))), by rw [HLF.out]; exact (hov6.trans (by repeat (first | with_reducible exact IsOv.refl _ | with_reducible apply IsOv.dr | with_reducible apply IsOv.drewN | with_reducible apply IsOv.drew | with_reducible apply IsOv.alloc | with_reducible apply IsOv.ov))).heap HC2.out, _, _, _, (hov6.trans (by repeat (first | with_reducible exact IsOv.refl _ | with_reducible apply IsOv.dr | with_reducible apply IsOv.drewN | with_reducible apply IsOv.drew | with_reducible apply IsOv.alloc | with_reducible apply IsOv.ov))).heap HM2.out, HK.out, fun h => by rw [HLF.out] at h; exact absurd h (show ¬ (221 : Int) = 0 by decide)⟩
                  · by_cases d2 : entHi k < n
                    · have HLF : Hid (lineF c s.data.toList seen = (221, c)) := Lib.hid (HGS.out.trans (by rw [hd, ← HR.out, hv]; show (if n < entLo k ∨ entHi k < n then ((221 : Int), c) else (0, c.set k n)) = _; exact if_pos (Or.inr d2)))
                      clear hd hv
                      go_wp2_with fail
                      exact bodyPost_ret (v := .int .i64 221) (by simp [results, Tryd.results17, go_sem, ↓IntWalk.iteOmega]) rfl ⟨by rw [HLF.out], hov2.trans (hov6.trans (by repeat (first | with_reducible exact IsOv.refl _ | with_reducible apply IsOv.dr | with_reducible apply IsOv.drewN | with_reducible apply IsOv.drew | with_reducible apply IsOv.alloc | with_reducible apply IsOv.ov))), by rw [HLF.out]; exact (hov6.trans (by repeat (first | with_reducible exact IsOv.refl _ | with_reducible apply IsOv.dr | with_reducible apply IsOv.drewN | with_reducible apply IsOv.drew | with_reducible apply IsOv.alloc | with_reducible apply IsOv.ov))).heap HC2.out, _, _, _, (hov6.trans (by repeat (first | with_reducible exact IsOv.refl _ | with_reducible apply IsOv.dr | with_reducible apply IsOv.drewN | with_reducible apply IsOv.drew | with_reducible apply IsOv.alloc | with_reducible apply IsOv.ov))).heap HM2.out, HK.out, fun h => by rw [HLF.out] at h; exact absurd h (show ¬ (221 : Int) = 0 by decide)⟩
                    · have HLF : Hid (lineF c s.data.toList seen = (0, c.set k n)) := Lib.hid (HGS.out.trans (by rw [hd, ← HR.out, hv]; show (if n < entLo k ∨ entHi k < n then ((221 : Int), c) else (0, c.set k n)) = _; exact if_neg (fun h : n < entLo k ∨ entHi k < n => h.elim d1 d2)))
                      have hnx := numP_index k hlt pc
                      have HC4 := Lib.hid (hov6.heap HC2.out)
                      have HM4 := Lib.hid (hov6.heap HM2.out)
                      clear hd hv
                      go_wp2_with fail
                      refine (numbers_gives _ pc).mono ?_
                      rintro e w5 ⟨rfl, hov7⟩
                      unfold numP
                      have hc5 : w5.heap[pc]? = some (.cells c.cells 24) := hov7.heap HC4.out
                      have hm5 := hov7.heap HM4.out
                      obtain ⟨cv, hcv⟩ := Cfg.cell_some c hlt
                      have fc : w5.cell? ⟨pc, k, none⟩ = some cv := (cell_of_heap hc5 k).trans hcv
                      have ff := frozen_of_heap hc5 k
                      have HC6 : Hid ((w5.setCell ⟨pc, k, none⟩ (.int .i64 n)).heap[pc]? = some (.cells (c.set k n).cells 24)) := Lib.hid (by rw [← Cfg.set_cells c hlt n]; exact heap_setCell_self hc5 _)
                      have HM6 := Lib.hid ((heap_setCell_ne (w := w5) (b := pc) (i := k) (Ne.symm hne) (.int .i64 n)).trans hm5)
                      have HO6 := Lib.hid (IsOv.setCellB (hov2.trans (hov6.trans hov7)) hpc k (.int .i64 n))
                      clear hc5 hm5 hcv hov7
                      go_wp2_with fail
                      exact bodyPost_ret (v := .int .i64 0) (by simp [results, Tryd.results17, go_sem, ↓IntWalk.iteOmega]) rfl ⟨by rw [HLF.out], HO6.out, by rw [HLF.out]; exact HC6.out, _, _, _, HM6.out, HK.out, fun _ => by rw [HT.out, ← HWB.out]⟩
                · have HLF : Hid (lineF c s.data.toList seen = (221, c)) := Lib.hid (HGS.out.trans (by rw [hd, ← HR.out, hv]; rfl))
                  clear hd hv
                  go_wp2_with fail
                  exact bodyPost_ret (v := .int .i64 221) (by simp [results, Tryd.results17, go_sem, ↓IntWalk.iteOmega]) rfl ⟨by rw [HLF.out], hov2.trans (hov6.trans (by repeat (first | with_reducible exact IsOv.refl _ | with_reducible apply IsOv.dr | with_reducible apply IsOv.drewN | with_reducible apply IsOv.drew | with_reducible apply IsOv.alloc | with_reducible apply IsOv.ov))), by rw [HLF.out]; exact (hov6.trans (by repeat (first | with_reducible exact IsOv.refl _ | with_reducible apply IsOv.dr | with_reducible apply IsOv.drewN | with_reducible apply IsOv.drew | with_reducible apply IsOv.alloc | with_reducible apply IsOv.ov))).heap HC2.out, _, _, _, (hov6.trans (by repeat (first | with_reducible exact IsOv.refl _ | with_reducible apply IsOv.dr | with_reducible apply IsOv.drewN | with_reducible apply IsOv.drew | with_reducible apply IsOv.alloc | with_reducible apply IsOv.ov))).heap HM2.out, HK.out, fun h => by rw [HLF.out] at h; exact absurd h (show ¬ (221 : Int) = 0 by decide)⟩
            · have c3b : (rb.toList == [48]) = false := by simpa using c3
              have hz0 : 0 < rb.size := by
                rcases Nat.eq_zero_or_pos rb.size with h5 | h5
                · exact absurd (List.eq_nil_of_length_eq_zero (by rw [ByteArray.toList_eq, Array.length_toList]; exact h5)) c2
                · exact h5
              have hhd : rest.headD 0 = rb[0]'hz0 := by
                rw [← HR.out]
                have : rb.data.toList ≠ [] := by rw [← ByteArray.toList_eq]; exact c2
                rw [ByteArray.getElem_eq_getElem_data]
                cases hx : rb.data.toList with
                | nil => exact absurd hx this
                | cons d r => simp [← Array.getElem_toList, hx]
              by_cases c4 : ((rb[0]'hz0).toNat : Int) = 48
              · have c4b : (((rb[0]'hz0).toNat : Int) == 48) = true := by simpa using c4
                have HLF : Hid (lineF c s.data.toList seen = (220, c)) := Lib.hid (HGS.out.trans (by rw [digits_no3 (by rw [← hrl]; exact c3) (by rw [hhd]; exact UInt8.toNat_inj.1 (by simpa using (Int.ofNat.inj c4)))]; rfl))
                clear c1 c2 c3 hrl hhd
                go_wp2_with fail
                exact bodyPost_ret (v := .int .i64 220) (by simp [results, Tryd.results17, go_sem, ↓IntWalk.iteOmega]) rfl ⟨by rw [HLF.out], hov2.trans (hov6.trans (by repeat (first | with_reducible exact IsOv.refl _ | with_reducible apply IsOv.dr | with_reducible apply IsOv.drewN | with_reducible apply IsOv.drew | with_reducible apply IsOv.alloc | with_reducible apply IsOv.ov))), by rw [HLF.out]; exact (hov6.trans (by repeat (first | with_reducible exact IsOv.refl _ | with_reducible apply IsOv.dr | with_reducible apply IsOv.drewN | with_reducible apply IsOv.drew | with_reducible apply IsOv.alloc | with_reducible apply IsOv.ov))).heap HC2.out, _, _, _, (hov6.trans (by repeat (first | with_reducible exact IsOv.refl _ | with_reducible apply IsOv.dr | with_reducible apply IsOv.drewN | with_reducible apply IsOv.drew | with_reducible apply IsOv.alloc | with_reducible apply IsOv.ov))).heap HM2.out, HK.out, fun h => by rw [HLF.out] at h; exact absurd h (show ¬ (220 : Int) = 0 by decide)⟩
              · have c4b : (((rb[0]'hz0).toNat : Int) == 48) = false := by simpa using c4
                have c4n : (((rb[0]'hz0).toNat : Int) != 48) = true := by simpa using c4
                have hd : digitsOk rest = true := digits_yes2 (by rw [← HTZ.out]; exact c1) (by rw [← hrl]; exact c2) (fun e => c4 (by rw [hhd] at e; rw [e]; rfl))
                clear c1 c2 c3 hrl hhd
                cases num
                · have HLF : Hid (lineF c s.data.toList seen = (220, c)) := Lib.hid (HGS.out.trans (by rw [hd]; rfl))
                  clear hd
                  go_wp2_with fail
                  exact bodyPost_ret (v := .int .i64 220) (by simp [results, Tryd.results17, go_sem, ↓IntWalk.iteOmega]) rfl ⟨by rw [HLF.out], hov2.trans (hov6.trans (by repeat (first | with_reducible exact IsOv.refl _ | with_reducible apply IsOv.dr | with_reducible apply IsOv.drewN | with_reducible apply IsOv.drew | with_reducible apply IsOv.alloc | with_reducible apply IsOv.ov))), by rw [HLF.out]; exact (hov6.trans (by repeat (first | with_reducible exact IsOv.refl _ | with_reducible apply IsOv.dr | with_reducible apply IsOv.drewN | with_reducible apply IsOv.drew | with_reducible apply IsOv.alloc | with_reducible apply IsOv.ov))).heap HC2.out, _, _, _, (hov6.trans (by repeat (first | with_reducible exact IsOv.refl _ | with_reducible apply IsOv.dr | with_reducible apply IsOv.drewN | with_reducible apply IsOv.drew | with_reducible apply IsOv.alloc | with_reducible apply IsOv.ov))).heap HM2.out, HK.out, fun h => by rw [HLF.out] at h; exact absurd h (show ¬ (220 : Int) = 0 by decide)⟩
                · rcases HA.out with ⟨v, hv, rfl, rfl⟩ | ⟨hv, te, p, rfl⟩
                  · by_cases d1 : n < entLo k
                    · have HLF : Hid (lineF c s.data.toList seen = (221, c)) := Lib.hid (HGS.out.trans (by rw [hd, ← HR.out, hv]; show (if n < entLo k ∨ entHi k < n then ((221 : Int), c) else (0, c.set k n)) = _; exact if_pos (Or.inl d1)))
                      clear hd hv
                      go_wp2_with fail
                      exact bodyPost_ret (v := .int .i64 221) (by simp [results, Tryd.results17, go_sem, ↓IntWalk.iteOmega]) rfl ⟨by rw [HLF.out], hov2.trans (hov6.trans (by repeat (first | with_reducible exact IsOv.refl _ | with_reducible apply IsOv.dr | with_reducible apply IsOv.drewN | with_reducible apply IsOv.drew | with_reducible apply IsOv.alloc | with_reducible apply IsOv.ov))), by rw [HLF.out]; exact (hov6.trans (by repeat (first | with_reducible exact IsOv.refl _ | with_reducible apply IsOv.dr | with_reducible apply IsOv.drewN | with_reducible apply IsOv.drew | with_reducible apply IsOv.alloc | with_reducible apply IsOv.ov))).heap HC2.out, _, _, _, (hov6.trans (by repeat (first | with_reducible exact IsOv.refl _ | with_reducible apply IsOv.dr | with_reducible apply IsOv.drewN | with_reducible apply IsOv.drew | with_reducible apply IsOv.alloc | with_reducible apply IsOv.ov))).heap HM2.out, HK.out, fun h => by rw [HLF.out] at h; exact absurd h (show ¬ (221 : Int) = 0 by decide)⟩
                    · by_cases d2 : entHi k < n
                      · have HLF : Hid (lineF c s.data.toList seen = (221, c)) := Lib.hid (HGS.out.trans (by rw [hd, ← HR.out, hv]; show (if n < entLo k ∨ entHi k < n then ((221 : Int), c) else (0, c.set k n)) = _; exact if_pos (Or.inr d2)))
                        clear hd hv
                        go_wp2_with fail
                        exact bodyPost_ret (v := .int .i64 221) (by simp [results, Tryd.results17, go_sem, ↓IntWalk.iteOmega]) rfl ⟨by rw [HLF.out], hov2.trans (hov6.trans (by repeat (first | with_reducible exact IsOv.refl _ | with_reducible apply IsOv.dr | with_reducible apply IsOv.drewN | with_reducible apply IsOv.drew | with_reducible apply IsOv.alloc | with_reducible apply IsOv.ov))), by rw [HLF.out]; exact (hov6.trans (by repeat (first | with_reducible exact IsOv.refl _ | with_reducible apply IsOv.dr | with_reducible apply IsOv.drewN | with_reducible apply IsOv.drew | with_reducible apply IsOv.alloc | with_reducible apply IsOv.ov))).heap HC2.out, _, _, _, (hov6.trans (by repeat (first | with_reducible exact IsOv.refl _ | with_reducible apply IsOv.dr | with_reducible apply IsOv.drewN | with_reducible apply IsOv.drew | with_reducible apply IsOv.alloc | with_reducible apply IsOv.ov))).heap HM2.out, HK.out, fun h => by rw [HLF.out] at h; exact absurd h (show ¬ (221 : Int) = 0 by decide)⟩
                      · have HLF : Hid (lineF c s.data.toList seen = (0, c.set k n)) := Lib.hid (HGS.out.trans (by rw [hd, ← HR.out, hv]; show (if n < entLo k ∨ entHi k < n then ((221 : Int), c) else (0, c.set k n)) = _; exact if_neg (fun h : n < entLo k ∨ entHi k < n => h.elim d1 d2)))
                        have hnx := numP_index k hlt pc
                        have HC4 := Lib.hid (hov6.heap HC2.out)
                        have HM4 := Lib.hid (hov6.heap HM2.out)
                        clear hd hv
                        go_wp2_with fail
                        refine (numbers_gives _ pc).mono ?_
                        rintro e w5 ⟨rfl, hov7⟩
                        unfold numP
                        have hc5 : w5.heap[pc]? = some (.cells c.cells 24) := hov7.heap HC4.out
                        have hm5 := hov7.heap HM4.out
                        obtain ⟨cv, hcv⟩ := Cfg.cell_some c hlt
                        have fc : w5.cell? ⟨pc, k, none⟩ = some cv := (cell_of_heap hc5 k).trans hcv
                        have ff := frozen_of_heap hc5 k
                        have HC6 : Hid ((w5.setCell ⟨pc, k, none⟩ (.int .i64 n)).heap[pc]? = some (.cells (c.set k n).cells 24)) := Lib.hid (by rw [← Cfg.set_cells c hlt n]; exact heap_setCell_self hc5 _)
                        have HM6 := Lib.hid ((heap_setCell_ne (w := w5) (b := pc) (i := k) (Ne.symm hne) (.int .i64 n)).trans hm5)
                        have HO6 := Lib.hid (IsOv.setCellB (hov2.trans (hov6.trans hov7)) hpc k (.int .i64 n))
                        clear hc5 hm5 hcv hov7
                        go_wp2_with fail
                        exact bodyPost_ret (v := .int .i64 0) (by simp [results, Tryd.results17, go_sem, ↓IntWalk.iteOmega]) rfl ⟨by rw [HLF.out], HO6.out, by rw [HLF.out]; exact HC6.out, _, _, _, HM6.out, HK.out, fun _ => by rw [HT.out, ← HWB.out]⟩
                  · have HLF : Hid (lineF c s.data.toList seen = (221, c)) := Lib.hid (HGS.out.trans (by rw [hd, ← HR.out, hv]; rfl))
                    clear hd hv
                    go_wp2_with fail
                    exact bodyPost_ret (v := .int .i64 221) (by simp [results, Tryd.results17, go_sem, ↓IntWalk.iteOmega]) rfl ⟨by rw [HLF.out], hov2.trans (hov6.trans (by repeat (first | with_reducible exact IsOv.refl _ | with_reducible apply IsOv.dr | with_reducible apply IsOv.drewN | with_reducible apply IsOv.drew | with_reducible apply IsOv.alloc | with_reducible apply IsOv.ov))), by rw [HLF.out]; exact (hov6.trans (by repeat (first | with_reducible exact IsOv.refl _ | with_reducible apply IsOv.dr | with_reducible apply IsOv.drewN | with_reducible apply IsOv.drew | with_reducible apply IsOv.alloc | with_reducible apply IsOv.ov))).heap HC2.out, _, _, _, (hov6.trans (by repeat (first | with_reducible exact IsOv.refl _ | with_reducible apply IsOv.dr | with_reducible apply IsOv.drewN | with_reducible apply IsOv.drew | with_reducible apply IsOv.alloc | with_reducible apply IsOv.ov))).heap HM2.out, HK.out, fun h => by rw [HLF.out] at h; exact absurd h (show ¬ (221 : Int) = 0 by decide)⟩
        · have c1b : (tb.toList == []) = false := by simpa using c1
          have HLF : Hid (lineF c s.data.toList seen = (220, c)) := Lib.hid (HGS.out.trans (by rw [digits_no1 (by rw [← HTZ.out]; exact c1)]; rfl))
          clear c1 hrl
          go_wp2_with fail
          exact bodyPost_ret (v := .int .i64 220) (by simp [results, Tryd.results17, go_sem, ↓IntWalk.iteOmega]) rfl ⟨by rw [HLF.out], hov2.trans (hov6.trans (by repeat (first | with_reducible exact IsOv.refl _ | with_reducible apply IsOv.dr | with_reducible apply IsOv.drewN | with_reducible apply IsOv.drew | with_reducible apply IsOv.alloc | with_reducible apply IsOv.ov))), by rw [HLF.out]; exact (hov6.trans (by repeat (first | with_reducible exact IsOv.refl _ | with_reducible apply IsOv.dr | with_reducible apply IsOv.drewN | with_reducible apply IsOv.drew | with_reducible apply IsOv.alloc | with_reducible apply IsOv.ov))).heap HC2.out, _, _, _, (hov6.trans (by repeat (first | with_reducible exact IsOv.refl _ | with_reducible apply IsOv.dr | with_reducible apply IsOv.drewN | with_reducible apply IsOv.drew | with_reducible apply IsOv.alloc | with_reducible apply IsOv.ov))).heap HM2.out, HK.out, fun h => by rw [HLF.out] at h; exact absurd h (show ¬ (220 : Int) = 0 by decide)⟩
    · obtain rfl : k = 6 := by omega
      have HE := Lib.hid (entIdx_none hall.out)
      clear hall
      have hlF : lineF c s.data.toList seen = (220, c) := HG.out.trans (lineG_none HX.out HTW.out HE.out)
      have HLF := Lib.hid hlF
      clear hlF
      go_wp2_with fail
      exact bodyPost_ret (v := .int .i64 220) (by simp [results, Tryd.results17, go_sem, ↓IntWalk.iteOmega]) rfl ⟨by rw [HLF.out], hov2.trans (hov.trans (by repeat (first | with_reducible exact IsOv.refl _ | with_reducible apply IsOv.dr | with_reducible apply IsOv.drewN | with_reducible apply IsOv.drew | with_reducible apply IsOv.alloc | with_reducible apply IsOv.ov))), by rw [HLF.out]; exact (hov.trans (by repeat (first | with_reducible exact IsOv.refl _ | with_reducible apply IsOv.dr | with_reducible apply IsOv.drewN | with_reducible apply IsOv.drew | with_reducible apply IsOv.alloc | with_reducible apply IsOv.ov))).heap HC2.out, _, _, _, (hov.trans (by repeat (first | with_reducible exact IsOv.refl _ | with_reducible apply IsOv.dr | with_reducible apply IsOv.drewN | with_reducible apply IsOv.drew | with_reducible apply IsOv.alloc | with_reducible apply IsOv.ov))).heap HM2.out, HK.out, fun h => by rw [HLF.out] at h; cases h⟩
end Go.Proofs.YtaibjaienhnckaaDoor
