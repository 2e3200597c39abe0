/- Layer 6: CnfMore answers true. Conditions: the listed variables lie as the program lays them; the arguments read as lists. -/
import Derived.Test.YtaibjaienhnckaaGreatDoorZy
set_option linter.unusedVariables false
set_option linter.unusedSimpArgs false
namespace Go.Proofs.YtaibjaienhnckaaGreatDoor
open Go.RowKit Go.Proofs.YtaibjaienhnckaaGreatDoorW.PrintWords Go.Proofs.YtaibjaienhnckaaGreatDoorW.PrintLast Go.Proofs.YtaibjaienhnckaaGreatDoorW.PrintMore Go.Proofs.YtaibjaienhnckaaGreatDoor.PCnfFollows
set_option maxRecDepth 20000 in
set_option maxHeartbeats 2000000 in
theorem CnfMore_gives (w : World) (A0 A1 : Option Addr) (c0 c1 : Nat) (l : List (List Int)) (is : List Int) (mr : Int) (hl : Kd.C (Kd.slice 3 (Kd.int .i64)) w A0 l.length l) (hs : Kd.C (Kd.int .i64) w A1 is.length is) (hc0 : l.length ≤ c0) (hc1 : is.length ≤ c1) (hz1 : is.length ≤ 9223372036854775807) (hZ : LaidZ w) :
    Gives Tryz.prog 5 #[.slice A0 l.length c0, .slice A1 is.length c1, .int .i64 mr] w (.bool true) := by
  unfold Gives
  have HL := Lib.hid hl
  have HS := Lib.hid hs
  have HC0 := Lib.hid hc0
  have HC1 := Lib.hid hc1
  clear hl hs hc0 hc1
  obtain ⟨b1, he1, hb1⟩ := few_ends l
  obtain ⟨k1, hk1⟩ := he1.out
  have HK1 := Lib.hid hk1
  have HB1 := Lib.hid hb1
  clear he1 hk1 hb1
  go_enter Tryz.func5, Tryz.ntmps5
  go_wp2_with fail
  refine Calls.mono (skualaw06_few.calls k1 A0 c0 l b1 w HL.out HC0.out HK1.out) ?_
  rintro e w1 ⟨rfl, hd1⟩
  have hov1 := Drawn0.ov hd1
  clear hd1
  cases b1
  · go_wp2_with fail
    refine Calls.mono (awake_gives _ (hZ.of_isOv hov1)) ?_
    rintro e wz ⟨rfl, hovz⟩
    go_wp2_with fail
    exact bodyPost_ret (v := .bool true) (by simp [results, Tryz.results5, go_sem, ↓IntWalk.iteOmega]) rfl ⟨rfl, hov1.trans hovz⟩
  · obtain ⟨hll, hcl⟩ := HB1.out rfl
    have HCL := Lib.hid hcl
    clear hcl
    by_cases h30 : 30 < is.length
    · have h30b : decide ((30 : Int) < (is.length : Int)) = true := decide_eq_true (by omega)
      go_wp2_with fail
      refine Calls.mono (awake_gives _ (hZ.of_isOv hov1)) ?_
      rintro e wz ⟨rfl, hovz⟩
      go_wp2_with fail
      exact bodyPost_ret (v := .bool true) (by simp [results, Tryz.results5, go_sem, ↓IntWalk.iteOmega]) rfl ⟨rfl, hov1.trans hovz⟩
    · have h30b : decide ((30 : Int) < (is.length : Int)) = false := decide_eq_false (by omega)
      obtain ⟨r2, he2, hb2⟩ := check_ends l (by omega) (fun c hc => by have := HCL.out c hc; omega)
      obtain ⟨k2, hk2⟩ := he2.out
      have HK2 := Lib.hid hk2
      have HB2 := Lib.hid hb2
      clear he2 hk2 hb2
      go_wp2_with fail
      refine Calls.mono (skuaref06_Check.calls k2 A0 c0 l r2 w1 (Kd.C_below HL.out hov1.below) HC0.out HK2.out) ?_
      rintro e w2 ⟨rfl, hd2⟩
      have hov2 := hov1.trans (Drawn0.ov hd2)
      clear hd2 hov1
      by_cases hr2 : r2 = 0
      · subst hr2
        have HSM := Lib.hid (HB2.out rfl)
        obtain ⟨r3, he3, hb3⟩ := check_ends [is, [mr]] (by simp) (fun c hc => by
          simp only [List.mem_cons, List.mem_nil_iff, or_false] at hc
          rcases hc with rfl | rfl
          · omega
          · simp)
        obtain ⟨k3, hk3⟩ := he3.out
        have HK3 := Lib.hid hk3
        have HB3 := Lib.hid hb3
        clear he3 hk3 hb3
        go_wp2_with fail
        have hrow3 := (C_of_row (row_lit (xs := [mr]) (heap_alloc_new w2 (.cells #[.int .i64 mr] 3)) rfl) (by simp)).1
        have hov3 : IsOv w ((w2.alloc (.cells #[.int .i64 mr] 3)).alloc (.cells #[.slice A1 is.length c1, .slice (some ⟨w2.heap.size, 0, none⟩) 1 1] 23)) := (hov2.alloc _).alloc _
        have hcl3 : ((w2.alloc (.cells #[.int .i64 mr] 3)).alloc (.cells #[.slice A1 is.length c1, .slice (some ⟨w2.heap.size, 0, none⟩) 1 1] 23)).heap[w2.heap.size + 1]? = some (.cells #[.slice A1 is.length c1, .slice (some ⟨w2.heap.size, 0, none⟩) 1 1] 23) := by
          have := heap_alloc_new (w2.alloc (.cells #[.int .i64 mr] 3)) (.cells #[.slice A1 is.length c1, .slice (some ⟨w2.heap.size, 0, none⟩) 1 1] 23)
          simpa using this
        have hC3 := pair_C (a := is) (b := [mr]) HC1.out (Nat.le_refl _) (Kd.C_below HS.out hov3.below) (Kd.C_below hrow3 ((IsOv.refl _).alloc (.cells #[.slice A1 is.length c1, .slice (some ⟨w2.heap.size, 0, none⟩) 1 1] 23)).below) (cell_of_heap hcl3 0) (cell_of_heap hcl3 1)
        generalize ((w2.alloc (.cells #[.int .i64 mr] 3)).alloc (.cells #[.slice A1 is.length c1, .slice (some ⟨w2.heap.size, 0, none⟩) 1 1] 23)) = w3 at *
        have HC3 := Lib.hid hC3
        clear hC3 hcl3 hrow3
        refine Calls.mono (skuaref06_Check.calls k3 (some ⟨w2.heap.size + 1, 0, none⟩) 2 [is, [mr]] r3 w3 HC3.out (Nat.le_refl _) HK3.out) ?_
        rintro e w4 ⟨rfl, hd4⟩
        have hov4 := hov3.trans (Drawn0.ov hd4)
        clear hd4 HC3 hov3 hov2
        by_cases hr3 : r3 = 0
        · subst hr3
          have HSI := Lib.hid (HB3.out rfl is (by simp))
          have hsm1 := HB3.out rfl [mr] (by simp) mr (by simp)
          have HSI2 : Hid (∀ n ∈ is ++ [mr], n ≠ 0 ∧ -1048576 ≤ n ∧ n ≤ 1048576) := Lib.hid (fun n hn => by
            rcases List.mem_append.1 hn with hn | hn
            · exact HSI.out n hn
            · rw [List.mem_singleton.1 hn]; exact hsm1)
          obtain ⟨g1, q1, hg1⟩ := start_ends l is
          obtain ⟨g2, q2, hg2⟩ := start_ends l (is ++ [mr])
          have hil : is.length ≤ 30 := by omega
          have hil2 : (is ++ [mr]).length ≤ 31 := by simp; omega
          have HSH1 := Lib.hid (start_short HSM.out hll HCL.out HSI.out hil hg1)
          have HSH2 := Lib.hid (start_short HSM.out hll HCL.out HSI2.out hil2 hg2)
          obtain ⟨g3, q3, hg3⟩ := start_ends l (sortedF q1)
          have HSH3 := Lib.hid (start_short HSM.out hll HCL.out HSH1.out.2 HSH1.out.1 hg3)
          have HG1 := Lib.hid hg1
          have HG2 := Lib.hid hg2
          have HG3 := Lib.hid hg3
          clear hg1 hg2 hg3 hsm1
          go_wp2_with fail
          refine Calls.mono (copied_C w4 A0 c0 l (Kd.C_below HL.out hov4.below) HC0.out (by omega) (fun c hc => by have := HCL.out c hc; omega)) ?_
          rintro e w10 ⟨v10, rfl, hR10, hov10⟩
          obtain ⟨A10, c10, rfl, hc10, hC10⟩ := Kd.R_reads hR10
          have hov10w := hov4.trans hov10
          have HC10 := Lib.hid hC10
          clear hR10 hC10 hov10 hov4
          go_wp2_with fail
          refine Calls.mono (mine_C w10 A1 c1 is (Kd.C_below HS.out hov10w.below) HC1.out (by omega)) ?_
          rintro e w11 ⟨v11, rfl, hR11, hov11⟩
          obtain ⟨A11, c11, rfl, hc11, hC11⟩ := Kd.R_reads hR11
          have hov11w := hov10w.trans hov11
          have HC11 := Lib.hid (Kd.C_below HC10.out hov11.below)
          have HI11 := Lib.hid hC11
          clear hR11 hC11 hov11 hov10w HC10
          go_wp2_with fail
          refine Calls.mono (Spread_calls w11 A10 A11 c10 c11 l is HC11.out HI11.out hc10 hc11 (by omega) (by omega) (smallAll_of HCL.out HSM.out) (small_of HSI.out) g1 q1 HG1.out (by have := HSH1.out.1; omega)) ?_
          rintro e w12 ⟨va, rfl, hRa, hb12⟩
          have hov12 := hov11w.trans (IsOv.of_below hb12)
          obtain ⟨Aa, ca, rfl, hca, hCa⟩ := Kd.R_reads hRa
          have HA12 := Lib.hid hCa
          clear hRa hCa hb12 hov11w HC11 HI11
          go_wp2_with fail
          refine Calls.mono (copied_C w12 A0 c0 l (Kd.C_below HL.out hov12.below) HC0.out (by omega) (fun c hc => by have := HCL.out c hc; omega)) ?_
          rintro e w13 ⟨v13, rfl, hR13, hov13⟩
          obtain ⟨A13, c13, rfl, hc13, hC13⟩ := Kd.R_reads hR13
          have hov13w := hov12.trans hov13
          have HC13 := Lib.hid hC13
          have HA13 := Lib.hid (Kd.C_below HA12.out hov13.below)
          have HC13b := Lib.hid HC13.out
          have HA13b := Lib.hid HA13.out
          clear hR13 hC13 hov13 hov12 HA12
          go_wp2_with fail
          refine Calls.mono (mine_C w13 A1 c1 is (Kd.C_below HS.out hov13w.below) HC1.out (by omega)) ?_
          rintro e w14 ⟨v14, rfl, hR14, hov14⟩
          obtain ⟨A14, c14, rfl⟩ := Kd.R_slice hR14
          have hov14w := hov13w.trans hov14
          have HC14 := Lib.hid (Kd.C_below HC13.out hov14.below)
          have HA14 := Lib.hid (Kd.C_below HA13.out hov14.below)
          have HR14 := Lib.hid hR14
          have HB14 := Lib.hid hov14.below
          have hz14 := hov14.size_le
          clear hR14 hov14 HC13 HA13
          go_wp2_with ((with_reducible refine gate_builtin (b := .append) (xs := #[.tmp 48, .tmp 50]) rfl ?_); at_builtin; go_loud (refine Kd.R_append (Kd.int .i64) (w0 := w13) w13.heap.size rfl (.tmp 48) (.tmp 50) 23 3 (.int .i64 0) 8 rfl Tryz.underlying23 info3 rfl (by decide) (by omega) (.slice A14 is.length c14) is mr [.int .i64 mr] (fun _ => True) (fun _ => False) rfl rfl rfl (fun _ hk => hk.elim) (fun _ _ => trivial) ?aO ?aB ?aS ?aL ?_; (case aO => exact HR14.out); (case aB => exact HB14.out); (case aS => exact hz14); (case aL => omega); intro v15 w15 ho15 hb15 hg15 hat15))
          obtain ⟨A15, c15, rfl, hc15, hC15⟩ := Kd.R_reads ho15
          have hb1513 : IsOv w13 w15 := IsOv.of_below hb15
          have hov15 := hov13w.trans hb1513
          have HL15 := Lib.hid (Kd.C_below HC13b.out hb15)
          have HA15 := Lib.hid (Kd.C_below HA13b.out hb15)
          have HI15 := Lib.hid hC15
          clear ho15 hb15 hg15 hat15 hC15 HR14 HB14 hb1513 HC13b HA13b hov13w hov14w HC14 HA14
          go_wp2_with fail
          refine Calls.mono (Spread_calls w15 A13 A15 c13 c15 l (is ++ [mr]) HL15.out HI15.out hc13 hc15 (by omega) (by omega) (smallAll_of HCL.out HSM.out) (small_of HSI2.out) g2 q2 HG2.out (by have := HSH2.out.1; omega)) ?_
          rintro e w16 ⟨vb, rfl, hRb, hb16⟩
          obtain ⟨Ab, cb, rfl, hcb, hCb⟩ := Kd.R_reads hRb
          have hov16 := hov15.trans (IsOv.of_below hb16)
          have HB16 := Lib.hid hCb
          have HA16 := Lib.hid (Kd.C_below HA15.out hb16)
          clear hRb hCb hb16 hov15 HL15 HA15 HI15
          cases q1 with
          | none =>
            have hq2 : q2 = none := by
              cases q2 with
              | none => rfl
              | some ks2 =>
                obtain ⟨ks1, e9, _⟩ := start_more (nz_of HSM.out) (fun x hx => (HSI2.out x hx).1) (fun x hx => List.mem_append_left _ hx) HG1.out HG2.out
                cases e9
            subst hq2
            go_wp2_with fail
            refine Calls.mono (awake_gives _ (hZ.of_isOv hov16)) ?_
            rintro e wz ⟨rfl, hovz⟩
            go_wp2_with fail
            exact bodyPost_ret (v := .bool true) (by simp [results, Tryz.results5, go_sem, ↓IntWalk.iteOmega]) rfl ⟨rfl, hov16.trans hovz⟩
          | some ks1 =>
            obtain ⟨ks3, rfl, heq⟩ := start_again (nz_of HSM.out) (fun x hx => (HSI.out x hx).1) (fun x hx => (HSH1.out.2 x (mem_sortedF.2 hx)).1) HG1.out HG3.out
            have hsub : q2.isSome = true → ∀ x ∈ sortedF (some ks1), x ∈ sortedF q2 := by
              intro hq
              cases q2 with
              | none => cases hq
              | some ks2 =>
                obtain ⟨ks, e9, h9⟩ := start_more (nz_of HSM.out) (fun x hx => (HSI2.out x hx).1) (fun x hx => List.mem_append_left _ hx) HG1.out HG2.out
                cases e9
                exact fun x hx => mem_sortedF.2 (h9 x (mem_sortedF.1 hx))
            have HSUB := Lib.hid hsub
            have HEQ := Lib.hid heq
            have hla : (sortedF (some ks1)).length ≤ 1000 := by have := HSH1.out.1; omega
            have hlb : (sortedF q2).length ≤ 1000 := by have := HSH2.out.1; omega
            generalize hsa : sortedF (some ks1) = sa at *
            generalize hsb : sortedF q2 = sb at *
            have HSA := Lib.hid hsa
            have HSB := Lib.hid hsb
            generalize hfi : q2.isSome = fine at *
            have HFI := Lib.hid hfi
            clear hsub heq hsa hsb hfi
            go_wp2_with fail
            go_loopw [11] (fun iv wr => ∃ (i : Nat), iv = .int .i64 (i : Int) ∧ i ≤ sa.length ∧ IsOv w16 wr) (fun iv wr => (sa.length - intOf iv).toNat)
            case atStart => exact ⟨0, rfl, Nat.zero_le _, IsOv.refl _⟩
            case round =>
              obtain ⟨i, rfl, hi, hov⟩ := hrel
              have tail : True := trivial
              by_cases hin : i < sa.length
              · have hinb : decide ((i : Int) < (sa.length : Int)) = true := decide_eq_true (by omega)
                cases fine
                · have hov18 := hov16.trans hov
                  have HA18 := Lib.hid (Kd.C_below HA16.out hov.below)
                  clear hov hov16 HA16 HB16
                  go_wp2_with fail
                  refine Calls.mono (copied_C wr A0 c0 l (Kd.C_below HL.out hov18.below) HC0.out (by omega) (fun c hc => by have := HCL.out c hc; omega)) ?_
                  rintro e w20 ⟨v20, rfl, hR20, hov20⟩
                  obtain ⟨A20, c20, rfl, hc20, hC20⟩ := Kd.R_reads hR20
                  have hov20w := hov18.trans hov20
                  have HC20 := Lib.hid hC20
                  have HA20 := Lib.hid (Kd.C_below HA18.out hov20.below)
                  clear hR20 hC20 hov20 hov18 HA18
                  go_wp2_with fail
                  refine Calls.mono (Spread_calls w20 A20 _ c20 ca l sa HC20.out HA20.out hc20 hca (by omega) (by omega) (smallAll_of HCL.out HSM.out) (small_of (fun n hn => HSH1.out.2 n hn)) g3 (some ks3) HG3.out (by have := HSH3.out.1; omega)) ?_
                  rintro e w21 ⟨vc, rfl, hRc, hb21⟩
                  rw [HEQ.out] at hRc
                  obtain ⟨Ac, cc9, rfl, hcc, hCc⟩ := Kd.R_reads hRc
                  have hov21 := hov20w.trans (IsOv.of_below hb21)
                  have HA21 := Lib.hid (Kd.C_below HA20.out hb21)
                  have HCC := Lib.hid hCc
                  obtain ⟨kS, hkS⟩ := (same_ends sa (by omega)).out
                  have HKS := Lib.hid hkS
                  clear hRc hCc hb21 hov20w HC20 HA20 hkS
                  go_wp2_with fail
                  refine Calls.mono (awake_gives _ (hZ.of_isOv hov21)) ?_
                  rintro e wz ⟨rfl, hovz⟩
                  go_wp2_with fail
                  refine Calls.mono (skuaref06_Same.calls kS _ ca sa Ac cc9 sa true wz (Kd.C_below HA21.out hovz.below) hca (Kd.C_below HCC.out hovz.below) hcc HKS.out) ?_
                  rintro e w23 ⟨rfl, hd23⟩
                  go_wp2_with fail
                  exact bodyPost_ret (v := .bool true) (by simp [results, Tryz.results5, go_sem, ↓IntWalk.iteOmega]) rfl ⟨rfl, hov21.trans (hovz.trans (Drawn0.ov hd23))⟩
                · obtain ⟨ad2, rfl, hx2⟩ := Kd.at_int HA16.out (i : Int) (by omega) (by omega)
                  have hmem := HSUB.out rfl _ (rd_mem hin)
                  have hxc : wr.cell? (ad2.add i) = some (.int .i64 (rd sa i)) := hov.cell hx2
                  have hd := has_C wr Ab cb sb (rd sa (i : Int)) (Kd.C_below HB16.out hov.below) hcb (by omega)
                  rw [decide_eq_true hmem] at hd
                  have HD := Lib.hid hd
                  clear hx2 hmem hd
                  generalize rd sa (i : Int) = x at *
                  go_wp2_with fail
                  refine Calls.mono HD.out ?_
                  rintro e w17 ⟨rfl, hd17⟩
                  have hov17 := hov.trans (Drawn0.ov hd17)
                  clear hd17 hov hxc
                  go_wp2_with fail
                  go_roundw
                  case rel => exact ⟨i + 1, by go_num, by omega, hov17⟩
                  case measure => simp [intOf]; omega
              · have hinb : decide ((i : Int) < (sa.length : Int)) = false := decide_eq_false (by omega)
                have hov18 := hov16.trans hov
                have HA18 := Lib.hid (Kd.C_below HA16.out hov.below)
                clear hov hov16 HA16 HB16
                go_wp2_with fail
                refine Calls.mono (copied_C wr A0 c0 l (Kd.C_below HL.out hov18.below) HC0.out (by omega) (fun c hc => by have := HCL.out c hc; omega)) ?_
                rintro e w20 ⟨v20, rfl, hR20, hov20⟩
                obtain ⟨A20, c20, rfl, hc20, hC20⟩ := Kd.R_reads hR20
                have hov20w := hov18.trans hov20
                have HC20 := Lib.hid hC20
                have HA20 := Lib.hid (Kd.C_below HA18.out hov20.below)
                clear hR20 hC20 hov20 hov18 HA18
                go_wp2_with fail
                refine Calls.mono (Spread_calls w20 A20 _ c20 ca l sa HC20.out HA20.out hc20 hca (by omega) (by omega) (smallAll_of HCL.out HSM.out) (small_of (fun n hn => HSH1.out.2 n hn)) g3 (some ks3) HG3.out (by have := HSH3.out.1; omega)) ?_
                rintro e w21 ⟨vc, rfl, hRc, hb21⟩
                rw [HEQ.out] at hRc
                obtain ⟨Ac, cc9, rfl, hcc, hCc⟩ := Kd.R_reads hRc
                have hov21 := hov20w.trans (IsOv.of_below hb21)
                have HA21 := Lib.hid (Kd.C_below HA20.out hb21)
                have HCC := Lib.hid hCc
                obtain ⟨kS, hkS⟩ := (same_ends sa (by omega)).out
                have HKS := Lib.hid hkS
                clear hRc hCc hb21 hov20w HC20 HA20 hkS
                go_wp2_with fail
                refine Calls.mono (awake_gives _ (hZ.of_isOv hov21)) ?_
                rintro e wz ⟨rfl, hovz⟩
                go_wp2_with fail
                refine Calls.mono (skuaref06_Same.calls kS _ ca sa Ac cc9 sa true wz (Kd.C_below HA21.out hovz.below) hca (Kd.C_below HCC.out hovz.below) hcc HKS.out) ?_
                rintro e w23 ⟨rfl, hd23⟩
                go_wp2_with fail
                exact bodyPost_ret (v := .bool true) (by simp [results, Tryz.results5, go_sem, ↓IntWalk.iteOmega]) rfl ⟨rfl, hov21.trans (hovz.trans (Drawn0.ov hd23))⟩
        · have hr3b : (r3 != 0) = true := by simpa using hr3
          go_wp2_with fail
          refine Calls.mono (awake_gives _ (hZ.of_isOv hov4)) ?_
          rintro e wz ⟨rfl, hovz⟩
          go_wp2_with fail
          exact bodyPost_ret (v := .bool true) (by simp [results, Tryz.results5, go_sem, ↓IntWalk.iteOmega]) rfl ⟨rfl, hov4.trans hovz⟩
      · have hr2b : (r2 != 0) = true := by simpa using hr2
        go_wp2_with fail
        refine Calls.mono (awake_gives _ (hZ.of_isOv hov2)) ?_
        rintro e wz ⟨rfl, hovz⟩
        go_wp2_with fail
        exact bodyPost_ret (v := .bool true) (by simp [results, Tryz.results5, go_sem, ↓IntWalk.iteOmega]) rfl ⟨rfl, hov2.trans hovz⟩
end Go.Proofs.YtaibjaienhnckaaGreatDoor
