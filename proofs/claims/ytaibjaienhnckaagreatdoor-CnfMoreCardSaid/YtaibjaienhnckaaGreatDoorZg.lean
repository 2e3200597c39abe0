/- cnf.Clean, as a plain function. Conditions: the clause is nil or lies in a block's first cells; its literals are within 1048576 of 0; at most 1000 literals. -/
import Derived.Test.YtaibjaienhnckaaGreatDoorZe
set_option linter.unusedVariables false
set_option linter.unusedSimpArgs false
namespace Go.Proofs.YtaibjaienhnckaaGreatDoor
open Go.RowKit Go.Proofs.YtaibjaienhnckaaGreatDoorW.PrintWords Go.Proofs.YtaibjaienhnckaaGreatDoorW.PrintLast Go.Proofs.YtaibjaienhnckaaGreatDoorW.PrintMore Go.Proofs.YtaibjaienhnckaaGreatDoor.PCnfFollows
/-- Whether a literal other than 0 stands there against its negation, from a place on. -/
def clashF (d : List Int) : List Int → Bool
  | [] => false
  | n :: r => if n ≠ 0 ∧ -n ∈ d then true else clashF d r
/-- Sorted, each literal once. -/
def tidyF (c : List Int) : List Int := Lib.compact (c.mergeSort fun x y => decide (x ≤ y))
/-- A clause without literals twice, rising; none: it always holds. -/
def cleanF (c : List Int) : Option (List Int) := if clashF (tidyF c) (tidyF c) then none else some (tidyF c)
/-- A slice of numbers that is nil or lies at a block's start. -/
def rowAt (w : World) (v : Value) (c : List Int) : Prop := (v = .slice none 0 0 ∧ c = []) ∨ ∃ g cap, v = .slice (some ⟨g, 0, none⟩) c.length cap ∧ c.length ≤ cap ∧ ∀ j, j < c.length → w.cell? ⟨g, 0 + j, none⟩ = some (.int .i64 (c.getD j 0))
theorem rowAt_own {w : World} {base : Nat} {v : Value} {c : List Int} (h : w.ownsRow base 3 1 v c.length (c.map (Value.int .i64))) : rowAt w v c := by
  rcases h.2 with ⟨h1, h2⟩ | ⟨g, cap, cur, h1, _, h3, h4, _, _, h6⟩
  · exact .inl ⟨h1, List.eq_nil_of_length_eq_zero h2⟩
  · refine .inr ⟨g, cap, h1, h4, fun j hj => ?_⟩
    rw [cell_of_heap h3, Nat.zero_add]
    have h7 : (cur.toList.take (c.length * 1))[j]? = (c.map (Value.int .i64))[j]? := by rw [h6]
    rw [List.getElem?_take, if_pos (by omega), List.getElem?_map, Array.getElem?_toList] at h7
    rw [h7]
    simp [List.getD, hj]
theorem own_compacted {w : World} {base g cap q : Nat} {cur : Array Value} {ss ts : List Int} (hbase : base ≤ g) (hb : w.heap[g]? = some (.cells cur 3 (0, 0))) (h1 : ss.length ≤ cap) (h2 : cap ≤ maxLen) (h3 : cur.size = cap * 1) (hts : ts.length ≤ ss.length) :
    (((w.drewN q).setCells g 0 ((ts ++ List.replicate (ss.length - ts.length) 0).map (Value.int .i64)))).ownsRow base 3 1 (.slice (some ⟨g, 0, none⟩) ts.length cap) ts.length (ts.map (Value.int .i64)) := by
  obtain ⟨cur', h4, h5, h6⟩ := setCells_row ((ts ++ List.replicate (ss.length - ts.length) 0).map (Value.int .i64)) 0 (w.drewN q) cur hb (by simp; omega)
  refine ⟨by simp, .inr ⟨g, cap, cur', rfl, hbase, h4, by omega, h2, by omega, ?_⟩⟩
  rw [h6, List.take_zero, List.nil_append, List.map_append, List.append_assoc, Nat.mul_one]
  exact List.take_left' (by simp)
theorem compact_mem {l : List Int} {x : Int} (h : x ∈ Lib.compact l) : x ∈ l := by
  unfold Lib.compact Lib.compactUpTo at h
  obtain ⟨j, hj, rfl⟩ := List.mem_map.1 h
  have hj2 := List.mem_range.1 (List.mem_filter.1 hj).1
  have h2 : l.toArray[j]! = l[j] := by simp [hj2]
  rw [h2]
  exact List.getElem_mem hj2
theorem IsOv.compacted {W w : World} (h : IsOv W w) {g q : Nat} (hg : W.heap.size ≤ g) (vs : List Value) : IsOv W ((w.drewN q).setCells g 0 vs) := by
  have hb := h.below
  obtain ⟨h1, h2, h3, h4⟩ := setCells_same g vs 0 (w.drewN q)
  exact IsOv.of_below ⟨h1.trans hb.os, h2.trans hb.tape, h3.trans hb.output, by rw [h4]; exact hb.size, fun k hk => (setCells_far vs 0 k (by omega)).trans (hb.block k hk)⟩
set_option maxRecDepth 20000 in
set_option maxHeartbeats 1000000 in
theorem Clean_calls (w : World) (v : Value) (c : List Int) (h : rowAt w v c) (hlen : c.length ≤ 1000) (hsm : small c) :
    Calls Tryz.prog 27 #[v] w fun e w' => ∃ v' : Value, e = .returned (.tuple #[v', .bool (cleanF c).isSome]) ∧ Kd.R (Kd.int .i64) 3 w' w.heap.size (fun _ => True) v' ((cleanF c).getD []) ∧ Below w.heap.size w w' := by
  have HSM := Lib.hid hsm
  clear hsm
  go_enter Tryz.func27, Tryz.ntmps27
  rcases h with ⟨rfl, rfl⟩ | ⟨g0, cap0, rfl, hcap0, hc0⟩
  · go_wp2_with fail
    refine Calls.mono (Tryz.slices_Clone_int_nil 0 0 _) ?_
    rintro e w9 ⟨rfl, rfl⟩
    go_wp2_with fail
    refine Calls.mono (Tryz.slices_Sort_int_none none 0 _) ?_
    rintro e w9 ⟨rfl, rfl⟩
    go_wp2_with fail
    refine Calls.mono (Tryz.slices_Compact_int_empty none 0 _) ?_
    rintro e w9 ⟨rfl, rfl⟩
    go_wp2_with fail
    go_loopw [14] (fun iv w' => iv = .int .i64 0 ∧ w' = w9) (fun iv w' => 0)
    case atStart => exact ⟨rfl, rfl⟩
    case round =>
      obtain ⟨rfl, rfl⟩ := hrel
      go_wp2_with fail
      have hc : cleanF [] = some [] := by unfold cleanF tidyF; rw [List.mergeSort_nil]; rfl
      exact bodyPost_ret (v := .tuple #[.slice none 0 0, .bool true]) (by simp [results, Tryz.results27, go_sem, ↓IntWalk.iteOmega]) rfl ⟨_, by rw [hc]; rfl, by rw [hc]; exact Kd.R_nil _ _ _ _ _, (IsOv.refl _).below⟩
  · have HC0 := Lib.hid hc0
    clear hc0
    go_wp2_with fail
    refine Calls.mono (Tryz.slices_Clone_int g0 0 c.length cap0 c _ (Nat.le_refl _) (by omega) HC0.out) ?_
    rintro e w1 ⟨v1, rfl, hown, hne, hb1⟩
    rw [List.take_length] at hown
    rcases hown.2 with ⟨hv0, _⟩ | ⟨g, cap, cur, rfl, hbase, hb9, h1, h2, h3, h4⟩
    · exact absurd hv0 hne
    have hH := holds_of_blockI (ss := c) hb9 (by simpa using h4)
    have HH := Lib.hid hH
    have HB9 := Lib.hid hb9
    have HH1 := Lib.hid h1
    have HH3 := Lib.hid h3
    have hglt := lt_of_heap hb9
    have hov1 := IsOv.of_below hb1
    clear hown hne hH hb9 h1 h3 h4 hb1
    go_wp2_with fail
    refine Calls.mono (Tryz.slices_Sort_int g 0 cap c _ HH.out hglt (by omega)) ?_
    rintro e w2 ⟨rfl, nn, os, hw2⟩
    have hb2 : w2.heap[g]? = some (.cells (Go.Sort.putCells (Value.int .i64) 0 (c.mergeSort fun x y => decide (x ≤ y)).toArray cur) 3 (0, 0)) := by rw [hw2]; exact heap_sortedI _ HB9.out
    have hgb : World.grownBy w1 w2 (some g) := by rw [hw2]; exact grownBy_sortedI _
    have hov2 : IsOv w w2 := IsOv.grown (v := .slice (some ⟨g, 0, none⟩) 0 0) hov1 hgb (fun b hb => by simp [Value.ownBlock] at hb; subst hb; exact hbase)
    have hsl : (c.mergeSort fun x y => decide (x ≤ y)).length = c.length := List.length_mergeSort ..
    have ho2 : w2.ownsRow w.heap.size 3 1 (.slice (some ⟨g, 0, none⟩) (c.mergeSort fun x y => decide (x ≤ y)).length cap) (c.mergeSort fun x y => decide (x ≤ y)).length ((c.mergeSort fun x y => decide (x ≤ y)).map (Value.int .i64)) := by
      rw [hw2, hsl]
      exact ownsRow_sortedI (by rw [List.length_mergeSort]) hbase HB9.out HH1.out h2 HH3.out
    have hms : ∀ x ∈ (c.mergeSort fun x y => decide (x ≤ y)), x ∈ c := fun x hx => (List.mergeSort_perm c _).mem_iff.1 hx
    have HB2 := Lib.hid hb2
    have HSL := Lib.hid hsl
    have HO2 := Lib.hid ho2
    have HMS := Lib.hid hms
    have HT : Hid (Lib.compact (c.mergeSort fun x y => decide (x ≤ y)) = tidyF c) := Lib.hid rfl
    clear hw2 hb2 hgb hsl ho2 hms HH HB9 hov1
    generalize (c.mergeSort fun x y => decide (x ≤ y)) = S at *
    go_wp2_with fail
    obtain ⟨cap', hrow⟩ : ∃ cap', _ := ⟨cap, rowAt_own HO2.out⟩
    rcases hrow with ⟨h8, _⟩ | ⟨g8, cap8, h8, hcap8, hcells⟩
    · cases h8
    cases h8
    refine Calls.mono (Tryz.slices_Compact_int_cells g 0 c.length cap S _ (by rw [HSL.out]; exact Nat.le_refl _) (by omega) (by rw [← HSL.out]; exact hcap8) hcells (fun j _ => frozen_of_heap HB2.out _)) ?_
    rintro e w3 ⟨rfl, q, hw3⟩
    rw [List.take_of_length_le (by rw [HSL.out]; exact Nat.le_refl _), HT.out] at hw3
    rw [List.take_of_length_le (by rw [HSL.out]; exact Nat.le_refl _), HT.out]
    have hdl : (tidyF c).length ≤ S.length := by rw [← HT.out]; exact Lib.compact_length_le S
    have ho3 : w3.ownsRow w.heap.size 3 1 (.slice (some ⟨g, 0, none⟩) (tidyF c).length cap) (tidyF c).length ((tidyF c).map (Value.int .i64)) := by
      rw [hw3, ← HSL.out]
      rcases HO2.out.2 with ⟨h9, _⟩ | ⟨g9, cap9, cur9, h9, hbase9, hb9, h11, h12, h13, h14⟩
      · cases h9
      cases h9
      exact own_compacted hbase hb9 h11 h12 h13 hdl
    have hov3 : IsOv w w3 := by rw [hw3]; exact IsOv.compacted hov2 hbase _
    have hsd : small (tidyF c) := fun x hx => HSM.out x (HMS.out x (compact_mem (by rw [HT.out]; exact hx)))
    have HCF : Hid (cleanF c = if clashF (tidyF c) (tidyF c) then none else some (tidyF c)) := Lib.hid rfl
    have hdl2 : (tidyF c).length ≤ 1000 := by have := HSL.out; omega
    have HO3 := Lib.hid ho3
    have HSD := Lib.hid hsd
    clear hw3 hdl ho3 hsd hcells HMS HO2 HB2 HT hov2 HSL
    generalize tidyF c = d at *
    obtain ⟨h8, _⟩ | ⟨g8, cap8, h8, hcap9, hcells⟩ := rowAt_own HO3.out
    · cases h8
    cases h8
    have HCE := Lib.hid hcells
    clear hcells
    go_wp2_with fail
    go_loopw [14] (fun iv w' => ∃ i : Nat, iv = .int .i64 (i : Int) ∧ i ≤ d.length ∧ w' = w3 ∧ Hid (clashF d (d.drop i) = clashF d d)) (fun iv w' => (d.length - intOf iv).toNat)
    case atStart => exact ⟨0, rfl, Nat.zero_le _, rfl, Lib.hid rfl⟩
    case round =>
      obtain ⟨i, rfl, hi, rfl, hF⟩ := hrel
      by_cases hin : i < d.length
      · have hb := HSD.out _ (rd_mem hin)
        have hd := rd_drop hin
        rw [hd] at hF
        have hx : wr.cell? ⟨g, i, none⟩ = some (.int .i64 (rd d i)) := by
          have h9 := HCE.out i hin
          rw [Nat.zero_add] at h9
          rw [h9]
          simp [rd]
        clear hd
        generalize rd d (i : Int) = n at *
        by_cases hn : n = 0
        · subst hn
          have HN : Hid (clashF d (d.drop (i + 1)) = clashF d d) := Lib.hid (by rw [← hF.out]; conv => rhs; unfold clashF; rw [if_neg (by simp)])
          clear hF
          go_wp2_with fail
          go_roundw
          case rel => exact ⟨i + 1, by go_num, by omega, trivial, HN⟩
          case measure => simp [intOf]; omega
        · go_wp2_with fail
          refine Calls.mono (Tryz.slices_Contains_int g 0 d.length cap d (-n) _ (Nat.le_refl _) (by omega) HCE.out) ?_
          rintro e w5 ⟨rfl, rfl⟩
          rw [List.take_length]
          by_cases hmem : -n ∈ d
          · have HV : Hid (cleanF c = none) := Lib.hid (by
              have h9 : clashF d (n :: d.drop (i + 1)) = true := by simp only [clashF]; rw [if_pos ⟨hn, hmem⟩]
              rw [HCF.out, ← hF.out, h9, if_pos rfl])
            have hct : d.contains (-n) = true := List.contains_iff_mem.2 hmem
            clear hF HCF
            rw [hct]
            go_wp2_with fail
            exact bodyPost_ret (v := .tuple #[.slice none 0 0, .bool false]) (by simp [results, Tryz.results27, go_sem, ↓IntWalk.iteOmega]) rfl ⟨_, by rw [HV.out]; rfl, by rw [HV.out]; exact Kd.R_nil _ _ _ _ _, hov3.below⟩
          · have HN : Hid (clashF d (d.drop (i + 1)) = clashF d d) := Lib.hid (by rw [← hF.out]; conv => rhs; unfold clashF; rw [if_neg (by simp [hmem])])
            have hct : d.contains (-n) = false := by simpa using hmem
            clear hF
            rw [hct]
            go_wp2_with fail
            go_roundw
            case rel => exact ⟨i + 1, by go_num, by omega, trivial, HN⟩
            case measure => simp [intOf]; omega
      · obtain rfl : i = d.length := by omega
        have HV : Hid (cleanF c = some d) := Lib.hid (by
          rw [HCF.out, ← hF.out, List.drop_length]
          rfl)
        clear hF HCF
        go_wp2_with fail
        exact bodyPost_ret (v := .tuple #[.slice (some ⟨g, 0, none⟩) d.length cap, .bool true]) (by simp [results, Tryz.results27, go_sem, ↓IntWalk.iteOmega]) rfl ⟨_, by rw [HV.out]; rfl, by rw [HV.out]; exact Kd.R_of_own (enc := Value.int .i64) HO3.out (fun _ _ => trivial), hov3.below⟩

end Go.Proofs.YtaibjaienhnckaaGreatDoor
