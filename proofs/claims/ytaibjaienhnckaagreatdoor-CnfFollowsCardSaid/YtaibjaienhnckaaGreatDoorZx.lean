/- Layer 6: CnfFollows answers true. Conditions: the listed variables lie as the program lays them; the arguments read as lists. -/
import Derived.Test.YtaibjaienhnckaaGreatDoorZy
set_option linter.unusedVariables false
set_option linter.unusedSimpArgs false
namespace Go.Proofs.YtaibjaienhnckaaGreatDoor
open Go.RowKit Go.Proofs.YtaibjaienhnckaaGreatDoorW.PrintWords Go.Proofs.YtaibjaienhnckaaGreatDoorW.PrintLast Go.Proofs.YtaibjaienhnckaaGreatDoorW.PrintMore Go.Proofs.YtaibjaienhnckaaGreatDoor.PCnfFollows
set_option maxRecDepth 20000 in
set_option maxHeartbeats 2000000 in
theorem CnfFollows_gives (w : World) (A0 A1 : Option Addr) (c0 c1 : Nat) (l : List (List Int)) (is : List Int) (hl : Kd.C (Kd.slice 3 (Kd.int .i64)) w A0 l.length l) (hs : Kd.C (Kd.int .i64) w A1 is.length is) (hc0 : l.length ≤ c0) (hc1 : is.length ≤ c1) (hz1 : is.length ≤ 9223372036854775807) (hZ : LaidZ w) :
    Gives Tryz.prog 3 #[.slice A0 l.length c0, .slice A1 is.length c1] w (.bool true) := by
  unfold Gives
  have HL := Lib.hid hl
  have HS := Lib.hid hs
  have HC0 := Lib.hid hc0
  have HC1 := Lib.hid hc1
  clear hl hs hc0 hc1
  obtain ⟨b1, he1, hb1⟩ := few_ends l
  obtain ⟨k1, hk1⟩ := he1.out
  have HK1 := Lib.hid hk1
  have HB1 := Lib.hid hb1
  clear he1 hk1 hb1
  go_enter Tryz.func3, Tryz.ntmps3
  go_wp2_with fail
  refine Calls.mono (skualaw06_few.calls k1 A0 c0 l b1 w HL.out HC0.out HK1.out) ?_
  rintro e w1 ⟨rfl, hd1⟩
  have hov1 := Drawn0.ov hd1
  clear hd1
  cases b1
  · go_wp2_with fail
    refine Calls.mono (awake_gives _ (hZ.of_isOv hov1)) ?_
    rintro e wz ⟨rfl, hovz⟩
    go_wp2_with fail
    exact bodyPost_ret (v := .bool true) (by simp [results, Tryz.results3, go_sem, ↓IntWalk.iteOmega]) rfl ⟨rfl, hov1.trans hovz⟩
  · obtain ⟨hll, hcl⟩ := HB1.out rfl
    have HCL := Lib.hid hcl
    clear hcl
    by_cases h40 : 40 < is.length
    · have h40b : decide ((40 : Int) < (is.length : Int)) = true := decide_eq_true (by omega)
      go_wp2_with fail
      refine Calls.mono (awake_gives _ (hZ.of_isOv hov1)) ?_
      rintro e wz ⟨rfl, hovz⟩
      go_wp2_with fail
      exact bodyPost_ret (v := .bool true) (by simp [results, Tryz.results3, go_sem, ↓IntWalk.iteOmega]) rfl ⟨rfl, hov1.trans hovz⟩
    · have h40b : decide ((40 : Int) < (is.length : Int)) = false := decide_eq_false (by omega)
      obtain ⟨r2, he2, hb2⟩ := check_ends l (by omega) (fun c hc => by have := HCL.out c hc; omega)
      obtain ⟨k2, hk2⟩ := he2.out
      have HK2 := Lib.hid hk2
      have HB2 := Lib.hid hb2
      clear he2 hk2 hb2
      go_wp2_with fail
      refine Calls.mono (skuaref06_Check.calls k2 A0 c0 l r2 w1 (Kd.C_below HL.out hov1.below) HC0.out HK2.out) ?_
      rintro e w2 ⟨rfl, hd2⟩
      have hov2 := hov1.trans (Drawn0.ov hd2)
      clear hd2 hov1
      by_cases hr2 : r2 = 0
      · subst hr2
        have HSM := Lib.hid (HB2.out rfl)
        obtain ⟨r3, he3, hb3⟩ := check_ends [is] (by simp) (fun c hc => by rw [List.mem_singleton.1 hc]; omega)
        obtain ⟨k3, hk3⟩ := he3.out
        have HK3 := Lib.hid hk3
        have HB3 := Lib.hid hb3
        clear he3 hk3 hb3
        go_wp2_with fail
        have hov3 : IsOv w (w2.alloc (.cells #[.slice A1 is.length c1] 23)) := hov2.alloc _
        have hC3 := one_C (A := A1) HC1.out (Kd.C_below HS.out hov3.below) (cell_of_heap (heap_alloc_new w2 (.cells #[.slice A1 is.length c1] 23)) 0)
        generalize w2.alloc (.cells #[.slice A1 is.length c1] 23) = w3 at *
        refine Calls.mono (skuaref06_Check.calls k3 (some ⟨w2.heap.size, 0, none⟩) 1 [is] r3 w3 hC3 (Nat.le_refl _) HK3.out) ?_
        rintro e w4 ⟨rfl, hd4⟩
        have hov4 := hov3.trans (Drawn0.ov hd4)
        clear hd4 hC3 hov3 hov2
        by_cases hr3 : r3 = 0
        · subst hr3
          have HSI := Lib.hid (HB3.out rfl is (by simp))
          go_wp2_with fail
          refine Calls.mono (copied_C w4 A0 c0 l (Kd.C_below HL.out hov4.below) HC0.out (by omega) (fun c hc => by have := HCL.out c hc; omega)) ?_
          rintro e w5 ⟨v5, rfl, hR5, hov54⟩
          have hov5 := hov4.trans hov54
          obtain ⟨A5, c5, rfl⟩ := Kd.R_slice hR5
          obtain ⟨_, inner, ho5, hr5⟩ := hR5
          have HO5 := Lib.hid ho5
          have HR5 := Lib.hid hr5
          have hz5 := hov54.size_le
          have BL5 := Lib.hid hov54.below
          have hov4b := Lib.hid hov4
          clear ho5 hr5 hov54
          go_wp2_with ((with_reducible refine gate_builtin (b := .append) (xs := #[.tmp 33, .tmp 35]) rfl ?_); (refine gate_guard (by rfl) ?_; dsimp only); at_builtin; go_loud (refine print_append_cells (w0 := w4) w4.heap.size rfl (.tmp 33) (.tmp 35) 22 23 (.slice none 0 0) 1 24 rfl Tryz.underlying22 info23 rfl (by decide) (by decide) (.slice A5 l.length c5) l.length inner [.slice A1 is.length c1] rfl rfl rfl ?aU ?aO ?aB ?aS ?aL ?_; (case aU => (intro u hu; rw [List.mem_singleton.1 hu]; rfl)); (case aO => exact HO5.out); (case aB => exact BL5.out); (case aS => exact hz5); (case aL => omega); intro v7 w7 ho7 hb7 hg7 hat7))
          obtain ⟨A7, c7, rfl, hc7, hC7⟩ := C_more HR5.out hg7 ho7 (Kd.C_below HS.out (hov4b.out.trans (IsOv.of_below hb7)).below) HC1.out
          have hov7 : IsOv w w7 := hov4b.out.trans (IsOv.of_below hb7)
          clear ho7 hb7 hg7 hat7 HO5 HR5
          obtain ⟨r9, he9⟩ := most_ends (l ++ [is]) (by simp; omega) (fun c hc => by
            rcases List.mem_append.1 hc with hc | hc
            · have := HCL.out c hc; omega
            · rw [List.mem_singleton.1 hc]; omega) (fun c hc => by
            rcases List.mem_append.1 hc with hc | hc
            · exact HSM.out c hc
            · rw [List.mem_singleton.1 hc]; exact HSI.out)
          obtain ⟨k9, hk9⟩ := he9.out
          have HK9 := Lib.hid hk9
          have HC7 := Lib.hid hC7
          have hln : (l ++ [is]).length = l.length + 1 := by simp
          have HLN := Lib.hid hln
          clear he9 hk9 hC7 hln
          refine Calls.mono (skuaref06_Most.calls k9 A7 c7 (l ++ [is]) r9 w7 HC7.out hc7 HK9.out) ?_
          rintro e w9 ⟨rfl, hd9⟩
          have hov9 := hov7.trans (Drawn0.ov hd9)
          clear hd9 hov7 HC7
          by_cases h10 : r9 > 10
          · have h10b : decide ((10 : Int) < r9) = true := decide_eq_true (by omega)
            go_wp2_with fail
            refine Calls.mono (awake_gives _ (hZ.of_isOv hov9)) ?_
            rintro e wz ⟨rfl, hovz⟩
            go_wp2_with fail
            exact bodyPost_ret (v := .bool true) (by simp [results, Tryz.results3, go_sem, ↓IntWalk.iteOmega]) rfl ⟨rfl, hov9.trans hovz⟩
          · have h10b : decide ((10 : Int) < r9) = false := decide_eq_false (by omega)
            obtain ⟨g, r, hg⟩ := start_ends l is
            have hsh := start_short HSM.out hll HCL.out HSI.out (Nat.le_refl _) hg
            have HG := Lib.hid hg
            have HSH := Lib.hid hsh
            clear hg hsh
            go_wp2_with fail
            refine Calls.mono (copied_C w9 A0 c0 l (Kd.C_below HL.out hov9.below) HC0.out (by omega) (fun c hc => by have := HCL.out c hc; omega)) ?_
            rintro e w10 ⟨v10, rfl, hR10, hov10⟩
            obtain ⟨A10, c10, rfl, hc10, hC10⟩ := Kd.R_reads hR10
            have hov10w := hov9.trans hov10
            have HC10 := Lib.hid hC10
            clear hR10 hC10 hov10 hov9
            go_wp2_with fail
            refine Calls.mono (mine_C w10 A1 c1 is (Kd.C_below HS.out hov10w.below) HC1.out (by omega)) ?_
            rintro e w11 ⟨v11, rfl, hR11, hov11⟩
            obtain ⟨A11, c11, rfl, hc11, hC11⟩ := Kd.R_reads hR11
            have hov11w := hov10w.trans hov11
            have HC11 := Lib.hid (Kd.C_below HC10.out hov11.below)
            have HI11 := Lib.hid hC11
            clear hR11 hC11 hov11 hov10w HC10
            go_wp2_with fail
            refine Calls.mono (Spread_calls w11 A10 A11 c10 c11 l is HC11.out HI11.out hc10 hc11 (by omega) (by omega) (smallAll_of HCL.out HSM.out) (small_of HSI.out) g r HG.out (by have := HSH.out.1; omega)) ?_
            rintro e w12 ⟨va, rfl, hRa, hb12⟩
            have hal : (sortedF r).length ≤ 1000 := by have := HSH.out.1; omega
            generalize hsr : sortedF r = al at *
            have HSR := Lib.hid hsr
            obtain ⟨Aa, ca, rfl, hca, hCa⟩ := Kd.R_reads hRa
            have hov12 := hov11w.trans (IsOv.of_below hb12)
            have HA12 := Lib.hid hCa
            clear hsr hRa hCa hb12 hov11w HC11 HI11
            go_wp2_with fail
            refine Calls.mono (copied_C w12 A0 c0 l (Kd.C_below HL.out hov12.below) HC0.out (by omega) (fun c hc => by have := HCL.out c hc; omega)) ?_
            rintro e w13 ⟨v13, rfl, hR13, hov13⟩
            have HR13 := Lib.hid hR13
            have HB13 := Lib.hid hov13.below
            clear hR13 hov13
            go_wp2_with fail
            go_loopw [7, 8] (fun vv iv wr => ∃ (i : Nat), iv = .int .i64 (i : Int) ∧ i ≤ is.length ∧ Hid (Kd.R (Kd.slice 3 (Kd.int .i64)) 23 wr w12.heap.size (fun _ => True) vv (l ++ (is.take i).map fun x => [x])) ∧ Hid (Below w12.heap.size w12 wr)) (fun vv iv wr => (is.length - intOf iv).toNat)
            case atStart => exact ⟨0, rfl, Nat.zero_le _, Lib.hid (by simpa using HR13.out), HB13⟩
            case round =>
              clear HR13 HB13
              obtain ⟨i, rfl, hi, hR, hB⟩ := hrel
              by_cases hin : i < is.length
              · obtain ⟨ad, rfl, hx⟩ := Kd.at_int (Kd.C_below HS.out (hov12.trans (IsOv.of_below hB.out)).below) (i : Int) (by omega) (by omega)
                have hxc : wr.cell? (ad.add i) = some (.int .i64 (rd is i)) := hx
                have htk : (l ++ (is.take (i + 1)).map fun x => [x]) = (l ++ (is.take i).map fun x => [x]) ++ [[rd is i]] := by
                  have h9 : is.take (i + 1) = is.take i ++ [rd is i] := by
                    rw [List.take_add_one]
                    unfold rd
                    simp [List.getD, List.getElem?_eq_getElem hin]
                  rw [h9, List.map_append, List.append_assoc]
                  rfl
                have HTK := Lib.hid htk
                have hlen9 : (l ++ (is.take i).map fun x => [x]).length ≤ 1000 := by simp; omega
                have hbz := hB.out.size
                have hlt := Kd.R_lt hR.out
                have HLT := Lib.hid hlt
                clear hx htk hlt
                generalize rd is (i : Int) = x at *
                go_wp2_with ((with_reducible refine gate_builtin (b := .append) (xs := #[.tmp 57, .tmp 63]) rfl ?_); at_builtin; go_loud (refine Kd.R_append (Kd.slice 3 (Kd.int .i64)) (w0 := w12) (W := wr.alloc (.cells #[.int .i64 x] 3)) w12.heap.size rfl (.tmp 57) (.tmp 63) 22 23 (.slice none 0 0) 24 rfl Tryz.underlying22 info23 rfl (by decide) (by omega) u7 (l ++ (is.take i).map fun x => [x]) [x] [.slice (some ⟨wr.heap.size, 0, none⟩) 1 1] (fun _ => True) (fun k => k = wr.heap.size) rfl ?aX ?aP ?aK (fun _ _ => trivial) ?aO ?aB ?aS ?aL ?_; (case aX => (simp; rfl)); (case aP => exact M_one x hbz); (case aK => exact (fun k hk => ⟨trivial, fun e9 => by subst hk; exact absurd (HLT.out _ e9.symm) (Nat.lt_irrefl _)⟩)); (case aO => exact Kd.R_below hR.out (below_alloc (Below.refl _ _) _)); (case aB => exact below_alloc hB.out _); (case aS => (simp; omega)); (case aL => omega); intro v1 w14 ho14 hb14 hg14 hat14))
                rw [← HTK.out] at ho14
                have HO14 := Lib.hid ho14
                have HB14 := Lib.hid hb14
                clear ho14 hb14 hg14 hat14 hR hB HLT
                go_wp2_with fail
                go_roundw
                case rel => exact ⟨i + 1, by go_num, by omega, HO14, HB14⟩
                case measure => simp [intOf]; omega
              · obtain rfl : i = is.length := by omega
                have hR2 := hR.out
                rw [List.take_of_length_le (Nat.le_refl _)] at hR2
                obtain ⟨A15, c15, rfl, hc15, hC15⟩ := Kd.R_reads hR2
                have hll15 : (l ++ is.map fun x => [x]).length ≤ 1000 := by simp; omega
                obtain ⟨M, heM, hMl, hM⟩ := models_ends (l ++ is.map fun x => [x]) hll15 (fun c hc => by
                  rcases List.mem_append.1 hc with hc | hc
                  · have := HCL.out c hc; omega
                  · obtain ⟨y, _, rfl⟩ := List.mem_map.1 hc; simp)
                obtain ⟨kM, hkM⟩ := heM.out
                have HKM := Lib.hid hkM
                obtain ⟨hF, hE⟩ := follows_law hM HG.out
                rw [HSR.out] at hF
                have HF := Lib.hid hF
                have HE := Lib.hid hE
                have HM := Lib.hid hM
                have HC15 := Lib.hid hC15
                have hov15 := hov12.trans (IsOv.of_below hB.out)
                have HA15 := Lib.hid (Kd.C_below HA12.out hB.out)
                clear hR hR2 hC15 heM hkM hF hE hM hB hov12 HA12
                generalize (l ++ is.map fun x => [x]) = lw at *
                go_wp2_with fail
                refine Calls.mono (skuaref06_Models.calls kM A15 c15 lw 10 M wr HC15.out hc15 HKM.out) ?_
                rintro e w16 ⟨vM, rfl, hSM, hb16⟩
                obtain ⟨AM, cM, rfl, hcM, hCM⟩ := Kd.R_reads (Kd.S_R hSM)
                have HM16 := Lib.hid hCM
                have HA16 := Lib.hid (Kd.C_below HA15.out hb16)
                have hov16 := hov15.trans (IsOv.of_below hb16)
                clear hSM hb16 hCM hov15 HA15 HC15
                go_wp2_with fail
                go_loopw [10] (fun iv wr => ∃ (i : Nat), iv = .int .i64 (i : Int) ∧ i ≤ M.length ∧ IsOv w16 wr) (fun iv wr => (M.length - intOf iv).toNat)
                case atStart => exact ⟨0, rfl, Nat.zero_le _, IsOv.refl _⟩
                case round =>
                  obtain ⟨i, rfl, hi, hov⟩ := hrel
                  by_cases hin : i < M.length
                  · obtain ⟨ad, A9, c9, rfl, hx, hc9, hC9⟩ := at_L1 HM16.out (i : Int) (by omega) (by omega)
                    have hmm := rdL_mem hin
                    have hxc : w16.cell? (ad.add i) = some (Value.slice A9 (rd_L1 M i).length c9) := hx
                    have hFm := HF.out _ hmm
                    have hml := (HM.out _ hmm).1
                    clear hx hmm
                    generalize rd_L1 M (i : Int) = m at *
                    have HX := Lib.hid hxc
                    have HC9 := Lib.hid hC9
                    have HFM := Lib.hid hFm
                    clear hxc hC9 hFm
                    obtain ⟨wo, hwo⟩ : ∃ u, u = wr := ⟨_, rfl⟩
                    subst wr
                    go_wp2_with fail
                    go_loopw [11] (fun kv wr => ∃ (k : Nat), kv = .int .i64 (k : Int) ∧ k ≤ al.length ∧ IsOv w16 wr) (fun kv wr => (al.length - intOf kv).toNat)
                    case atStart => exact ⟨0, rfl, Nat.zero_le _, hov⟩
                    case round =>
                      clear hov
                      obtain ⟨k, rfl, hk, hov⟩ := hrel
                      by_cases hkn : k < al.length
                      · obtain ⟨ad2, rfl, hx2⟩ := Kd.at_int HA16.out (k : Int) (by omega) (by omega)
                        have hin2 := HFM.out _ (rd_mem hkn)
                        have hxc2 : wr.cell? (ad2.add k) = some (.int .i64 (rd al k)) := hov.cell hx2
                        have hxc1 : wr.cell? (ad.add i) = some (Value.slice A9 m.length c9) := hov.cell HX.out
                        have hdec : decide (rd al (k : Int) ∈ m) = true := decide_eq_true hin2
                        clear hx2 hin2
                        generalize rd al (k : Int) = x at *
                        have HDEC := Lib.hid hdec
                        have hp1 : (0 : Int) ≤ (i : Int) := by omega
                        have hp2 : (i : Int) < (M.length : Int) := by omega
                        have hp3 : (0 : Int) ≤ (k : Int) := by omega
                        have hp4 : (k : Int) < (al.length : Int) := by omega
                        clear hdec
                        go_wp2_with fail
                        go_quiet ((go_at_call 14; refine (has_C _ A9 c9 m x ?_ hc9 (by omega)).mono ?_; (exact Kd.C_drewN (Kd.C_below HC9.out hov.below) _); rintro e w' ⟨rfl, ⟨nd, rfl⟩⟩; rw [HDEC.out]; (first | exact ⟨rfl, _, World.drewN_drewN _ _ _⟩ | exact ⟨rfl, _, Eq.trans (World.drewN_drewN _ _ _) (congrArg (World.drewN _) (Nat.add_assoc _ _ _))⟩)))
                        go_wp2_with fail
                        go_roundw
                        case rel => exact ⟨k + 1, by go_num, by omega, hov.drewN _⟩
                        case measure => simp [intOf]; omega
                      · obtain rfl : k = al.length := by omega
                        go_wp2_with fail
                        go_roundw
                        case rel => exact ⟨i + 1, by go_num, by omega, hov⟩
                        case measure => simp [intOf]; omega
                  · obtain rfl : i = M.length := by omega
                    have hov17 := hov16.trans hov
                    clear hov hov16
                    rcases HE.out with hsome | hnil
                    · rw [hsome]
                      go_wp2_with fail
                      refine Calls.mono (awake_gives _ (hZ.of_isOv hov17)) ?_
                      rintro e wz ⟨rfl, hovz⟩
                      go_wp2_with fail
                      exact bodyPost_ret (v := .bool true) (by simp [results, Tryz.results3, go_sem, ↓IntWalk.iteOmega]) rfl ⟨rfl, hov17.trans hovz⟩
                    · have hM0 : ((M.length : Int) == 0) = true := by rw [hnil]; rfl
                      cases hrs : r.isSome
                      · go_wp2_with fail
                        refine Calls.mono (awake_gives _ (hZ.of_isOv hov17)) ?_
                        rintro e wz ⟨rfl, hovz⟩
                        go_wp2_with fail
                        exact bodyPost_ret (v := .bool true) (by simp [results, Tryz.results3, go_sem, ↓IntWalk.iteOmega]) rfl ⟨rfl, hov17.trans hovz⟩
                      · go_wp2_with fail
                        refine Calls.mono (awake_gives _ (hZ.of_isOv hov17)) ?_
                        rintro e wz ⟨rfl, hovz⟩
                        go_wp2_with fail
                        exact bodyPost_ret (v := .bool true) (by simp [results, Tryz.results3, go_sem, ↓IntWalk.iteOmega]) rfl ⟨rfl, hov17.trans hovz⟩
        · have hr3b : (r3 != 0) = true := by simpa using hr3
          go_wp2_with fail
          refine Calls.mono (awake_gives _ (hZ.of_isOv hov4)) ?_
          rintro e wz ⟨rfl, hovz⟩
          go_wp2_with fail
          exact bodyPost_ret (v := .bool true) (by simp [results, Tryz.results3, go_sem, ↓IntWalk.iteOmega]) rfl ⟨rfl, hov4.trans hovz⟩
      · have hr2b : (r2 != 0) = true := by simpa using hr2
        go_wp2_with fail
        refine Calls.mono (awake_gives _ (hZ.of_isOv hov2)) ?_
        rintro e wz ⟨rfl, hovz⟩
        go_wp2_with fail
        exact bodyPost_ret (v := .bool true) (by simp [results, Tryz.results3, go_sem, ↓IntWalk.iteOmega]) rfl ⟨rfl, hov2.trans hovz⟩
end Go.Proofs.YtaibjaienhnckaaGreatDoor
