/- cnf.Check, as a plain function. Conditions: at most 1000 clauses of at most 1000 literals. -/
import Derived.Test.YtaibjaienhnckaaGreatDoorZi
set_option linter.unusedVariables false
set_option linter.unusedSimpArgs false
namespace Go.Proofs.YtaibjaienhnckaaGreatDoor
open Go.RowKit Go.Proofs.YtaibjaienhnckaaGreatDoorW.PrintWords Go.Proofs.YtaibjaienhnckaaGreatDoorW.PrintLast Go.Proofs.YtaibjaienhnckaaGreatDoorW.PrintMore Go.Proofs.YtaibjaienhnckaaGreatDoor.PCnfFollows
set_option maxRecDepth 20000 in
set_option maxHeartbeats 400000 in
theorem IndexFunc_calls (w : World) (A : Option Addr) (cap : Nat) (c : List Int) (p : Int → Bool) (hC : Kd.C (Kd.int .i64) w A c.length c) (hcap : c.length ≤ cap) (hlen : c.length ≤ 1000)
    (hF : ∀ n ∈ c, Calls Tryz.prog 41 #[.int .i64 n] w fun e w' => e = .returned (.bool (p n)) ∧ w' = w) :
    Calls Tryz.prog 54 #[.slice A c.length cap, .func (.func 41) #[] #[]] w fun e w' => (∃ k : Int, e = .returned (.int .i64 k) ∧ decide (0 ≤ k) = c.any p ∧ -1 ≤ k ∧ k ≤ 1000) ∧ w' = w := by
  have HC := Lib.hid hC
  have HF := Lib.hid hF
  clear hC hF
  go_enter Tryz.func54, Tryz.ntmps54
  go_wp2_with fail
  go_loopw [8] (fun iv w' => ∃ (i : Nat), iv = .int .i64 (i : Int) ∧ i ≤ c.length ∧ w' = w ∧ Hid ((c.drop i).any p = c.any p)) (fun iv w' => (c.length - intOf iv).toNat)
  case atStart => exact ⟨0, rfl, Nat.zero_le _, rfl, Lib.hid rfl⟩
  case round =>
    obtain ⟨i, rfl, hi, rfl, hp⟩ := hrel
    by_cases hin : i < c.length
    · obtain ⟨ad, rfl, hx⟩ := Kd.at_int HC.out (i : Int) (by omega) (by omega)
      have hd := rd_drop hin
      have hf := HF.out _ (rd_mem hin)
      have hxc : wr.cell? (ad.add i) = some (.int .i64 (rd c i)) := hx
      have hp9 := hp.out
      rw [hd, List.any_cons] at hp9
      clear hx hd hp
      generalize rd c (i : Int) = n at *
      have HFF := Lib.hid hf
      have HP := Lib.hid hp9
      clear hf hp9
      go_wp2_with fail
      refine Calls.mono HFF.out ?_
      rintro e w5 ⟨rfl, rfl⟩
      cases hpn : p n
      · have HP2 : Hid ((c.drop (i + 1)).any p = c.any p) := Lib.hid (by rw [← HP.out, hpn, Bool.false_or])
        clear HP hpn
        go_wp2_with fail
        go_roundw
        case rel => exact ⟨i + 1, by go_num, by omega, trivial, HP2⟩
        case measure => simp [intOf]; omega
      · have HP2 : Hid (c.any p = true) := Lib.hid (by rw [← HP.out, hpn, Bool.true_or])
        clear HP hpn
        go_wp2_with fail
        exact bodyPost_ret (v := .int .i64 (i : Int)) (by simp [results, Tryz.results54, go_sem, ↓IntWalk.iteOmega]) rfl ⟨⟨_, rfl, by rw [HP2.out]; simp, by omega, by omega⟩, rfl⟩
    · obtain rfl : i = c.length := by omega
      have HP2 : Hid (c.any p = false) := Lib.hid (by rw [← hp.out, List.drop_length]; rfl)
      clear hp
      go_wp2_with fail
      exact bodyPost_ret (v := .int .i64 (-1)) (by simp [results, Tryz.results54, go_sem, ↓IntWalk.iteOmega]) rfl ⟨⟨_, rfl, by rw [HP2.out]; simp, by omega, by omega⟩, rfl⟩
set_option maxRecDepth 20000 in
set_option maxHeartbeats 400000 in
theorem ContainsFunc_calls (w : World) (A : Option Addr) (cap : Nat) (c : List Int) (p : Int → Bool) (hC : Kd.C (Kd.int .i64) w A c.length c) (hcap : c.length ≤ cap) (hlen : c.length ≤ 1000)
    (hF : ∀ n ∈ c, Calls Tryz.prog 41 #[.int .i64 n] w fun e w' => e = .returned (.bool (p n)) ∧ w' = w) :
    Calls Tryz.prog 39 #[.slice A c.length cap, .func (.func 41) #[] #[]] w fun e w' => e = .returned (.bool (c.any p)) ∧ w' = w := by
  have HI := Lib.hid (IndexFunc_calls w A cap c p hC hcap hlen hF)
  clear hC hF
  go_enter Tryz.func39, Tryz.ntmps39
  go_wp2_with fail
  refine Calls.mono HI.out ?_
  rintro e w5 ⟨⟨k, rfl, hk, hk1, hk2⟩, rfl⟩
  have HK := Lib.hid hk
  clear hk HI
  go_wp2_with fail
  all_goals exact bodyPost_ret (v := .bool (decide (0 ≤ k))) (by simp [results, Tryz.results39, go_sem, ↓IntWalk.iteOmega]) rfl ⟨by rw [HK.out], rfl⟩
/-- Whether a literal may be. -/
def rightF (n : Int) : Bool := decide (n ≠ 0 ∧ -1048576 ≤ n ∧ n ≤ 1048576)
set_option maxRecDepth 20000 in
set_option maxHeartbeats 400000 in
theorem right_calls (w : World) (n : Int) (h0 : -9223372036854775808 ≤ n) (h1 : n ≤ 9223372036854775807) : Calls Tryz.prog 36 #[.int .i64 n] w fun e w' => e = .returned (.bool (rightF n)) ∧ w' = w := by
  go_enter Tryz.func36, Tryz.ntmps36
  go_wp2_with fail
  · rename_i h
    have hq : rightF n = false := by simp [rightF, h]
    rw [hq]
    exact bodyPost_ret (v := .bool false) (by simp [results, Tryz.results36, go_sem, ↓IntWalk.iteOmega]) rfl ⟨rfl, rfl⟩
  · rename_i h h2
    have hq : rightF n = (n != 0 && decide (n ≤ 1048576)) := by
      rw [Bool.eq_iff_iff]
      simp [rightF, h, h2]
    rw [hq]
    exact bodyPost_ret (v := .bool (n != 0 && decide (n ≤ 1048576))) (by simp [results, Tryz.results36, go_sem, ↓IntWalk.iteOmega]) rfl ⟨rfl, rfl⟩
  · rename_i h h2
    have hq : rightF n = false := by
      unfold rightF
      exact decide_eq_false (by omega)
    rw [hq]
    exact bodyPost_ret (v := .bool false) (by simp [results, Tryz.results36, go_sem, ↓IntWalk.iteOmega]) rfl ⟨rfl, rfl⟩
set_option maxRecDepth 20000 in
set_option maxHeartbeats 400000 in
theorem closure_calls (w : World) (n : Int) (h0 : -9223372036854775808 ≤ n) (h1 : n ≤ 9223372036854775807) : Calls Tryz.prog 41 #[.int .i64 n] w fun e w' => e = .returned (.bool (!rightF n)) ∧ w' = w := by
  go_enter Tryz.func41, Tryz.ntmps41
  go_wp2_with fail
  refine Calls.mono (right_calls w n h0 h1) ?_
  rintro e w5 ⟨rfl, rfl⟩
  go_wp2_with fail
  exact bodyPost_ret (v := .bool (!rightF n)) (by simp [results, Tryz.results41, go_sem, ↓IntWalk.iteOmega]) rfl ⟨rfl, rfl⟩
/-- Whether all literals may be. -/
def checkF : List (List Int) → Bool
  | [] => true
  | c :: l => if c.any (fun n => !rightF n) then false else checkF l
/-- .. as a number. -/
def checkE (l : List (List Int)) : Int := if checkF l then 0 else 60
set_option maxRecDepth 20000 in
set_option maxHeartbeats 400000 in
theorem Check_calls (w : World) (A0 : Option Addr) (c0 : Nat) (l : List (List Int)) (hl : Kd.C (Kd.slice 3 (Kd.int .i64)) w A0 l.length l) (hc0 : l.length ≤ c0) (hll : l.length ≤ 1000) (hcl : ∀ c ∈ l, c.length ≤ 1000 ∧ ∀ n ∈ c, -9223372036854775808 ≤ n ∧ n ≤ 9223372036854775807) :
    Calls Tryz.prog 24 #[.slice A0 l.length c0] w fun e w' => e = .returned (.int .i64 (checkE l)) ∧ w' = w := by
  have HLC := Lib.hid hl
  have HCL := Lib.hid hcl
  clear hl hcl
  go_enter Tryz.func24, Tryz.ntmps24
  go_wp2_with fail
  go_loopw [2, 7] (fun nv iv w' => ∃ (i : Nat), nv = .int .i64 0 ∧ iv = .int .i64 (i : Int) ∧ i ≤ l.length ∧ w' = w ∧ Hid (checkF (l.drop i) = checkF l)) (fun nv iv w' => (l.length - intOf iv).toNat)
  case atStart => exact ⟨0, rfl, rfl, Nat.zero_le _, rfl, Lib.hid rfl⟩
  case round =>
    obtain ⟨i, rfl, rfl, hi, rfl, hF⟩ := hrel
    by_cases hin : i < l.length
    · obtain ⟨ad, A9, c9, rfl, hx, hc9, hC9⟩ := at_L1 HLC.out (i : Int) (by omega) (by omega)
      have hd := rdL_drop hin
      have hb := HCL.out _ (rdL_mem hin)
      have hxc : _ = some (Value.slice A9 (rd_L1 l i).length c9) := hx
      rw [Int.toNat_natCast] at hxc
      rw [hd] at hF
      clear hx hd
      generalize rd_L1 l (i : Int) = c at *
      have HB := Lib.hid hb
      have HC9 := Lib.hid hC9
      clear hb hC9
      go_wp2_with fail
      refine Calls.mono (ContainsFunc_calls wr A9 c9 c (fun n => !rightF n) HC9.out hc9 HB.out.1 (fun n hn => closure_calls wr n (HB.out.2 n hn).1 (HB.out.2 n hn).2)) ?_
      rintro e w5 ⟨rfl, rfl⟩
      cases hq : c.any (fun n => !rightF n)
      · have HN : Hid (checkF (l.drop (i + 1)) = checkF l) := Lib.hid (by rw [← hF.out]; simp only [checkF]; rw [hq]; simp)
        clear hF hq
        go_wp2_with fail
        go_roundw
        case rel => exact ⟨i + 1, rfl, by go_num, by omega, trivial, HN⟩
        case measure => simp [intOf]; omega
      · have HN : Hid (checkE l = 60) := Lib.hid (by
          have h9 : checkF (c :: l.drop (i + 1)) = false := by simp only [checkF]; rw [if_pos hq]
          rw [hF.out] at h9
          unfold checkE
          rw [h9]
          rfl)
        clear hF hq
        go_wp2_with fail
        exact bodyPost_ret (v := .int .i64 60) (by simp [results, Tryz.results24, go_sem, ↓IntWalk.iteOmega]) rfl ⟨by rw [HN.out], rfl⟩
    · obtain rfl : i = l.length := by omega
      have HN : Hid (checkE l = 0) := Lib.hid (by unfold checkE; rw [← hF.out, List.drop_length]; rfl)
      clear hF
      go_wp2_with fail
      exact bodyPost_ret (v := .int .i64 0) (by simp [results, Tryz.results24, go_sem, ↓IntWalk.iteOmega]) rfl ⟨by rw [HN.out], rfl⟩

end Go.Proofs.YtaibjaienhnckaaGreatDoor
