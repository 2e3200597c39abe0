/- Layer 6: CnfImplies answers true. Conditions: the listed variables lie as the program lays them; the arguments read as lists. -/
import Derived.Test.YtaibjaienhnckaaGreatDoorZy
set_option linter.unusedVariables false
set_option linter.unusedSimpArgs false
namespace Go.Proofs.YtaibjaienhnckaaGreatDoor
open Go.RowKit Go.Proofs.YtaibjaienhnckaaGreatDoorW.PrintWords Go.Proofs.YtaibjaienhnckaaGreatDoorW.PrintLast Go.Proofs.YtaibjaienhnckaaGreatDoorW.PrintMore Go.Proofs.YtaibjaienhnckaaGreatDoor.PCnfFollows
theorem resolve_pos {a b c : List Int} {v : Int} (h : resolveF a b v = some c) : 0 < v ∧ c.length ≤ a.length + b.length := by
  unfold resolveF at h
  split at h
  · rename_i hh
    refine ⟨hh.2.2.1, ?_⟩
    rw [clean_some h]
    refine Nat.le_trans (tidy_len _) (Nat.le_trans (List.length_filter_le _ _) ?_)
    rw [List.length_append]; exact Nat.le_refl _
  · cases h
set_option maxRecDepth 20000 in
set_option maxHeartbeats 2000000 in
theorem CnfImplies_gives (w : World) (A0 A1 : Option Addr) (c0 c1 : Nat) (la lb : List Int) (v : Int) (hl : Kd.C (Kd.int .i64) w A0 la.length la) (hs : Kd.C (Kd.int .i64) w A1 lb.length lb) (hc0 : la.length ≤ c0) (hc1 : lb.length ≤ c1) (hz0 : la.length ≤ 9223372036854775807) (hz1 : lb.length ≤ 9223372036854775807) (hv0 : -9223372036854775808 ≤ v) (hv1 : v ≤ 9223372036854775807) (hZ : LaidZ w) :
    Gives Tryz.prog 4 #[.slice A0 la.length c0, .slice A1 lb.length c1, .int .i64 v] w (.bool true) := by
  unfold Gives
  have HL := Lib.hid hl
  have HS := Lib.hid hs
  have HC0 := Lib.hid hc0
  have HC1 := Lib.hid hc1
  have hov0 := IsOv.refl w
  clear hl hs hc0 hc1
  go_enter Tryz.func4, Tryz.ntmps4
  by_cases h20 : 20 < la.length
  · have h20b : decide ((20 : Int) < (la.length : Int)) = true := decide_eq_true (by omega)
    go_wp2_with fail
    refine Calls.mono (awake_gives _ (hZ.of_isOv hov0)) ?_
    rintro e wz ⟨rfl, hovz⟩
    go_wp2_with fail
    exact bodyPost_ret (v := .bool true) (by simp [results, Tryz.results4, go_sem, ↓IntWalk.iteOmega]) rfl ⟨rfl, hov0.trans hovz⟩
  · have h20b : decide ((20 : Int) < (la.length : Int)) = false := decide_eq_false (by omega)
    by_cases h21 : 20 < lb.length
    · have h21b : decide ((20 : Int) < (lb.length : Int)) = true := decide_eq_true (by omega)
      go_wp2_with fail
      refine Calls.mono (awake_gives _ (hZ.of_isOv hov0)) ?_
      rintro e wz ⟨rfl, hovz⟩
      go_wp2_with fail
      exact bodyPost_ret (v := .bool true) (by simp [results, Tryz.results4, go_sem, ↓IntWalk.iteOmega]) rfl ⟨rfl, hov0.trans hovz⟩
    · have h21b : decide ((20 : Int) < (lb.length : Int)) = false := decide_eq_false (by omega)
      obtain ⟨r2, he2, hb2⟩ := check_ends [la, lb] (by simp) (fun c hc => by
        simp only [List.mem_cons, List.mem_nil_iff, or_false] at hc
        rcases hc with rfl | rfl <;> omega)
      obtain ⟨k2, hk2⟩ := he2.out
      have HK2 := Lib.hid hk2
      have HB2 := Lib.hid hb2
      clear he2 hk2 hb2
      go_wp2_with fail
      have hov1 : IsOv w (w.alloc (.cells #[.slice A0 la.length c0, .slice A1 lb.length c1] 23)) := hov0.alloc _
      have hc1 : (w.alloc (.cells #[.slice A0 la.length c0, .slice A1 lb.length c1] 23)).heap[w.heap.size]? = some (.cells #[.slice A0 la.length c0, .slice A1 lb.length c1] 23) := heap_alloc_new w _
      have hC1 := pair_C (a := la) (b := lb) HC0.out HC1.out (Kd.C_below HL.out hov1.below) (Kd.C_below HS.out hov1.below) (cell_of_heap hc1 0) (cell_of_heap hc1 1)
      generalize (w.alloc (.cells #[.slice A0 la.length c0, .slice A1 lb.length c1] 23)) = w1 at *
      have HC1x := Lib.hid hC1
      clear hc1 hC1
      refine Calls.mono (skuaref06_Check.calls k2 (some ⟨w.heap.size, 0, none⟩) 2 [la, lb] r2 w1 HC1x.out (Nat.le_refl _) HK2.out) ?_
      rintro e w2 ⟨rfl, hd2⟩
      have hov2 := hov1.trans (Drawn0.ov hd2)
      clear hd2 hov1 HC1x
      by_cases hr2 : r2 = 0
      · subst hr2
        have HSM := Lib.hid (HB2.out rfl)
        obtain ⟨r3, he3⟩ := most_ends [la, lb] (by simp) (fun c hc => by
          simp only [List.mem_cons, List.mem_nil_iff, or_false] at hc
          rcases hc with rfl | rfl <;> omega) HSM.out
        obtain ⟨k3, hk3⟩ := he3.out
        have HK3 := Lib.hid hk3
        clear he3 hk3
        go_wp2_with fail
        have hov3 : IsOv w (w2.alloc (.cells #[.slice A0 la.length c0, .slice A1 lb.length c1] 23)) := hov2.alloc _
        have hc3 : (w2.alloc (.cells #[.slice A0 la.length c0, .slice A1 lb.length c1] 23)).heap[w2.heap.size]? = some (.cells #[.slice A0 la.length c0, .slice A1 lb.length c1] 23) := heap_alloc_new w2 _
        have hC3 := pair_C (a := la) (b := lb) HC0.out HC1.out (Kd.C_below HL.out hov3.below) (Kd.C_below HS.out hov3.below) (cell_of_heap hc3 0) (cell_of_heap hc3 1)
        generalize (w2.alloc (.cells #[.slice A0 la.length c0, .slice A1 lb.length c1] 23)) = w3 at *
        have HC3x := Lib.hid hC3
        clear hc3 hC3
        refine Calls.mono (skuaref06_Most.calls k3 (some ⟨w2.heap.size, 0, none⟩) 2 [la, lb] r3 w3 HC3x.out (Nat.le_refl _) HK3.out) ?_
        rintro e w4 ⟨rfl, hd4⟩
        have hov4 := hov3.trans (Drawn0.ov hd4)
        clear hd4 hov3 hov2 HC3x
        by_cases h10 : r3 > 10
        · have h10b : decide ((10 : Int) < r3) = true := decide_eq_true (by omega)
          go_wp2_with fail
          refine Calls.mono (awake_gives _ (hZ.of_isOv hov4)) ?_
          rintro e wz ⟨rfl, hovz⟩
          go_wp2_with fail
          exact bodyPost_ret (v := .bool true) (by simp [results, Tryz.results4, go_sem, ↓IntWalk.iteOmega]) rfl ⟨rfl, hov4.trans hovz⟩
        · have h10b : decide ((10 : Int) < r3) = false := decide_eq_false (by omega)
          go_wp2_with fail
          refine Calls.mono (mine_C w4 A0 c0 la (Kd.C_below HL.out hov4.below) HC0.out (by omega)) ?_
          rintro e w5 ⟨v5, rfl, hR5, hov54⟩
          have hov5 := hov4.trans hov54
          have hrow5 := rowAt_own (Kd.own_of_R (enc := Value.int .i64) hR5)
          have HROW5 := Lib.hid hrow5
          clear hR5 hov54 hov4 hrow5
          go_wp2_with fail
          refine Calls.mono (mine_C w5 A1 c1 lb (Kd.C_below HS.out hov5.below) HC1.out (by omega)) ?_
          rintro e w6 ⟨v6, rfl, hR6, hov65⟩
          have hov6 := hov5.trans hov65
          have HROW6 := Lib.hid (rowAt_own (Kd.own_of_R (enc := Value.int .i64) hR6))
          have HROW56 := Lib.hid (rowAt_isOv HROW5.out hov65)
          clear hR6 hov65 hov5 HROW5
          go_wp2_with fail
          refine Calls.mono (Resolve_calls w6 v5 v6 la lb v HROW56.out HROW6.out (by omega) (by omega) (small_of (HSM.out la (by simp))) (small_of (HSM.out lb (by simp))) hv0 hv1) ?_
          rintro e w7 ⟨vc, rfl, hRc, hb7⟩
          have hov7 := hov6.trans (IsOv.of_below hb7)
          clear hb7 hov6 HROW56 HROW6
          cases hres : resolveF la lb v with
          | none =>
            rw [hres] at hRc
            have hSo : (none : Option (List Int)).isSome = false := rfl
            clear hRc
            go_wp2_with fail
            refine Calls.mono (awake_gives _ (hZ.of_isOv hov7)) ?_
            rintro e wz ⟨rfl, hovz⟩
            have hov8 := hov7.trans hovz
            clear hovz
            go_wp2_with fail
            refine Calls.mono (awake_gives _ (hZ.of_isOv hov8)) ?_
            rintro e wz ⟨rfl, hovz⟩
            go_wp2_with fail
            exact bodyPost_ret (v := .bool true) (by simp [results, Tryz.results4, go_sem, ↓IntWalk.iteOmega]) rfl ⟨rfl, hov8.trans hovz⟩
          | some cc =>
            rw [hres] at hRc
            obtain ⟨hvp, hcl⟩ := resolve_pos hres
            have HRES := Lib.hid hres
            have hRc2 : Kd.R (Kd.int .i64) 3 w7 w6.heap.size (fun _ => True) vc cc := hRc
            obtain ⟨Ac, cc9, rfl, hcc, hCc⟩ := Kd.R_reads hRc2
            have HCC := Lib.hid hCc
            clear hRc hRc2 hCc hres
            go_wp2_with fail
            refine Calls.mono (awake_gives _ (hZ.of_isOv hov7)) ?_
            rintro e wz ⟨rfl, hovz⟩
            have hov8 := hov7.trans hovz
            have HC8 := Lib.hid (Kd.C_below HCC.out hovz.below)
            clear hovz hov7 HCC
            go_wp2_with fail
            obtain ⟨w8, hw8⟩ : ∃ u, u = wz := ⟨_, rfl⟩
            subst wz
            have hov98 : IsOv w8 (w8.alloc (.cells #[.slice A0 la.length c0, .slice A1 lb.length c1] 23)) := (IsOv.refl w8).alloc _
            have hov9 : IsOv w (w8.alloc (.cells #[.slice A0 la.length c0, .slice A1 lb.length c1] 23)) := hov8.alloc _
            have hc9 : (w8.alloc (.cells #[.slice A0 la.length c0, .slice A1 lb.length c1] 23)).heap[w8.heap.size]? = some (.cells #[.slice A0 la.length c0, .slice A1 lb.length c1] 23) := heap_alloc_new w8 _
            have hC9 := pair_C (a := la) (b := lb) HC0.out HC1.out (Kd.C_below HL.out hov9.below) (Kd.C_below HS.out hov9.below) (cell_of_heap hc9 0) (cell_of_heap hc9 1)
            generalize (w8.alloc (.cells #[.slice A0 la.length c0, .slice A1 lb.length c1] 23)) = w9 at *
            have HC9x := Lib.hid hC9
            clear hc9 hC9
            have HCC9 := Lib.hid (Kd.C_below HC8.out hov98.below)
            obtain ⟨M, heM, hMl, hM⟩ := models_ends [la, lb] (by simp) (fun c hc => by
              simp only [List.mem_cons, List.mem_nil_iff, or_false] at hc
              rcases hc with rfl | rfl <;> omega)
            obtain ⟨kM, hkM⟩ := heM.out
            have HKM := Lib.hid hkM
            have HM := Lib.hid hM
            clear heM hkM hM hov98 HC8 hov8
            refine Calls.mono (skuaref06_Models.calls kM (some ⟨w8.heap.size, 0, none⟩) 2 [la, lb] 10 M w9 HC9x.out (Nat.le_refl _) HKM.out) ?_
            rintro e w16 ⟨vM, rfl, hSM, hb16⟩
            obtain ⟨AM, cM, rfl, hcM, hCM⟩ := Kd.R_reads (Kd.S_R hSM)
            have HM16 := Lib.hid hCM
            have HC16 := Lib.hid (Kd.C_below HCC9.out hb16)
            have hov16 := hov9.trans (IsOv.of_below hb16)
            clear hSM hb16 hCM hov9 HC9x HCC9
            go_wp2_with fail
            go_loopw [10] (fun iv wr => ∃ (i : Nat), iv = .int .i64 (i : Int) ∧ i ≤ M.length ∧ IsOv w16 wr) (fun iv wr => (M.length - intOf iv).toNat)
            case atStart => exact ⟨0, rfl, Nat.zero_le _, IsOv.refl _⟩
            case round =>
              obtain ⟨i, rfl, hi, hov⟩ := hrel
              by_cases hin : i < M.length
              · have hov1a : IsOv w16 (wr.alloc (.cells #[.slice Ac cc.length cc9] 23)) := hov.alloc _
                obtain ⟨ad, A9, c9, rfl, hx, hc9, hC9⟩ := at_L1 HM16.out (i : Int) (by omega) (by omega)
                have hxc : (wr.alloc (.cells #[.slice Ac cc.length cc9] 23)).cell? (ad.add i) = some (Value.slice A9 (rd_L1 M i).length c9) := hov1a.cell hx
                have hxc0 : wr.cell? (ad.add i) = some (Value.slice A9 (rd_L1 M i).length c9) := hov.cell hx
                have hC1 := one_C hcc (Kd.C_below HC16.out hov1a.below) (cell_of_heap (heap_alloc_new wr (.cells #[.slice Ac cc.length cc9] 23)) 0)
                have hC2 := Kd.C_below hC9 hov1a.below
                have hmm := rdL_mem hin
                have hml := (HM.out _ hmm).1
                have hall := implies_law HRES.out (HM.out _ hmm)
                clear hx hmm hC9
                generalize rd_L1 M (i : Int) = m at *
                have he := holds_ends [cc] m (by simp) (fun c hc => by rw [List.mem_singleton.1 hc]; omega) hml
                rw [hall] at he
                obtain ⟨kH, hkH⟩ := he.out
                have HKH := Lib.hid hkH
                have HCA := Lib.hid hC1
                have HCB := Lib.hid hC2
                clear he hkH hall hC1 hC2
                have hp1 : (0 : Int) ≤ (i : Int) := by omega
                have hp2 : (i : Int) < (M.length : Int) := by omega
                go_wp2_with fail
                refine Calls.mono (skuaref06_Holds.calls kH (some ⟨wr.heap.size, 0, none⟩) 1 [cc] A9 c9 m true _ HCA.out (Nat.le_refl _) HCB.out hc9 HKH.out) ?_
                rintro e w17 ⟨rfl, hd17⟩
                have hov17 := hov1a.trans (Drawn0.ov hd17)
                clear hd17 hov1a hov HCA HCB hxc hxc0
                go_wp2_with fail
                go_roundw
                case rel => exact ⟨i + 1, by go_num, by omega, hov17⟩
                case measure => simp [intOf]; omega
              · obtain rfl : i = M.length := by omega
                obtain ⟨hn1, hn2⟩ := implies_none HRES.out
                have hd1 := has_C wr Ac cc9 cc v (Kd.C_below HC16.out hov.below) hcc (by omega)
                have hov17 := hov16.trans hov
                rw [decide_eq_false hn1] at hd1
                have HD1 := Lib.hid hd1
                have hng : wrap64 (-v) = -v := IntWalk.wrap64_in _ (by omega)
                clear hd1
                go_wp2_with fail
                refine Calls.mono HD1.out ?_
                rintro e w18 ⟨rfl, hd18⟩
                have hov18 := Drawn0.ov hd18
                have hd2 := has_C w18 Ac cc9 cc (-v) (Kd.C_below HC16.out (hov.trans hov18).below) hcc (by omega)
                rw [decide_eq_false hn2] at hd2
                have HD2 := Lib.hid hd2
                clear hd2
                go_wp2_with fail
                refine Calls.mono HD2.out ?_
                rintro e w19 ⟨rfl, hd19⟩
                go_wp2_with fail
                exact bodyPost_ret (v := .bool true) (by simp [results, Tryz.results4, go_sem, ↓IntWalk.iteOmega]) rfl ⟨rfl, hov17.trans (hov18.trans (Drawn0.ov hd19))⟩
      · have hr2b : (r2 != 0) = true := by simpa using hr2
        go_wp2_with fail
        refine Calls.mono (awake_gives _ (hZ.of_isOv hov2)) ?_
        rintro e wz ⟨rfl, hovz⟩
        go_wp2_with fail
        exact bodyPost_ret (v := .bool true) (by simp [results, Tryz.results4, go_sem, ↓IntWalk.iteOmega]) rfl ⟨rfl, hov2.trans hovz⟩
end Go.Proofs.YtaibjaienhnckaaGreatDoor
