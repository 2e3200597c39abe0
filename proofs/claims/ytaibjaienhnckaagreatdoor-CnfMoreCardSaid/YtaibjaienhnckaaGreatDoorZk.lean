/- cnf.Holds, its parts as plain functions. Conditions: clauses of at most 1000 literals. -/
import Derived.Test.YtaibjaienhnckaaGreatDoorZj
set_option linter.unusedVariables false
set_option linter.unusedSimpArgs false
namespace Go.Proofs.YtaibjaienhnckaaGreatDoor
open Go.RowKit Go.Proofs.YtaibjaienhnckaaGreatDoorW.PrintWords Go.Proofs.YtaibjaienhnckaaGreatDoorW.PrintLast Go.Proofs.YtaibjaienhnckaaGreatDoorW.PrintMore Go.Proofs.YtaibjaienhnckaaGreatDoor.PCnfFollows
set_option maxRecDepth 20000 in
set_option maxHeartbeats 400000 in
theorem IndexFunc2_calls (w : World) (A : Option Addr) (cap : Nat) (c : List Int) (p : Int → Bool) (q : Addr) (hC : Kd.C (Kd.int .i64) w A c.length c) (hcap : c.length ≤ cap) (hlen : c.length ≤ 1000)
    (hF : ∀ n ∈ c, Calls Tryz.prog 40 #[.int .i64 n, .pointer (some q)] w fun e w' => e = .returned (.bool (p n)) ∧ w' = w) :
    Calls Tryz.prog 54 #[.slice A c.length cap, .func (.func 40) #[] #[.pointer (some q)]] w fun e w' => (∃ k : Int, e = .returned (.int .i64 k) ∧ decide (0 ≤ k) = c.any p ∧ -1 ≤ k ∧ k ≤ 1000) ∧ w' = w := by
  have HC := Lib.hid hC
  have HF := Lib.hid hF
  clear hC hF
  go_enter Tryz.func54, Tryz.ntmps54
  go_wp2_with fail
  go_loopw [8] (fun iv w' => ∃ (i : Nat), iv = .int .i64 (i : Int) ∧ i ≤ c.length ∧ w' = w ∧ Hid ((c.drop i).any p = c.any p)) (fun iv w' => (c.length - intOf iv).toNat)
  case atStart => exact ⟨0, rfl, Nat.zero_le _, rfl, Lib.hid rfl⟩
  case round =>
    obtain ⟨i, rfl, hi, rfl, hp⟩ := hrel
    by_cases hin : i < c.length
    · obtain ⟨ad, rfl, hx⟩ := Kd.at_int HC.out (i : Int) (by omega) (by omega)
      have hd := rd_drop hin
      have hf := HF.out _ (rd_mem hin)
      have hxc : wr.cell? (ad.add i) = some (.int .i64 (rd c i)) := hx
      have hp9 := hp.out
      rw [hd, List.any_cons] at hp9
      clear hx hd hp
      generalize rd c (i : Int) = n at *
      have HFF := Lib.hid hf
      have HP := Lib.hid hp9
      clear hf hp9
      go_wp2_with fail
      refine Calls.mono HFF.out ?_
      rintro e w5 ⟨rfl, rfl⟩
      cases hpn : p n
      · have HP2 : Hid ((c.drop (i + 1)).any p = c.any p) := Lib.hid (by rw [← HP.out, hpn, Bool.false_or])
        clear HP hpn
        go_wp2_with fail
        go_roundw
        case rel => exact ⟨i + 1, by go_num, by omega, trivial, HP2⟩
        case measure => simp [intOf]; omega
      · have HP2 : Hid (c.any p = true) := Lib.hid (by rw [← HP.out, hpn, Bool.true_or])
        clear HP hpn
        go_wp2_with fail
        exact bodyPost_ret (v := .int .i64 (i : Int)) (by simp [results, Tryz.results54, go_sem, ↓IntWalk.iteOmega]) rfl ⟨⟨_, rfl, by rw [HP2.out]; simp, by omega, by omega⟩, rfl⟩
    · obtain rfl : i = c.length := by omega
      have HP2 : Hid (c.any p = false) := Lib.hid (by rw [← hp.out, List.drop_length]; rfl)
      clear hp
      go_wp2_with fail
      exact bodyPost_ret (v := .int .i64 (-1)) (by simp [results, Tryz.results54, go_sem, ↓IntWalk.iteOmega]) rfl ⟨⟨_, rfl, by rw [HP2.out]; simp, by omega, by omega⟩, rfl⟩
set_option maxRecDepth 20000 in
set_option maxHeartbeats 400000 in
theorem ContainsFunc2_calls (w : World) (A : Option Addr) (cap : Nat) (c : List Int) (p : Int → Bool) (q : Addr) (hC : Kd.C (Kd.int .i64) w A c.length c) (hcap : c.length ≤ cap) (hlen : c.length ≤ 1000)
    (hF : ∀ n ∈ c, Calls Tryz.prog 40 #[.int .i64 n, .pointer (some q)] w fun e w' => e = .returned (.bool (p n)) ∧ w' = w) :
    Calls Tryz.prog 39 #[.slice A c.length cap, .func (.func 40) #[] #[.pointer (some q)]] w fun e w' => e = .returned (.bool (c.any p)) ∧ w' = w := by
  have HI := Lib.hid (IndexFunc2_calls w A cap c p q hC hcap hlen hF)
  clear hC hF
  go_enter Tryz.func39, Tryz.ntmps39
  go_wp2_with fail
  refine Calls.mono HI.out ?_
  rintro e w5 ⟨⟨k, rfl, hk, hk1, hk2⟩, rfl⟩
  have HK := Lib.hid hk
  clear hk HI
  go_wp2_with fail
  all_goals exact bodyPost_ret (v := .bool (decide (0 ≤ k))) (by simp [results, Tryz.results39, go_sem, ↓IntWalk.iteOmega]) rfl ⟨by rw [HK.out], rfl⟩
set_option maxRecDepth 20000 in
set_option maxHeartbeats 400000 in
theorem inner_calls (w : World) (q : Addr) (v : Value) (is : List Int) (n : Int) (hq : w.cell? q = some v) (h : rowAt w v is) (hl : is.length ≤ 1000) : Calls Tryz.prog 40 #[.int .i64 n, .pointer (some q)] w fun e w' => e = .returned (.bool (is.contains n)) ∧ w' = w := by
  have H := Lib.hid h
  clear h
  go_enter Tryz.func40, Tryz.ntmps40
  go_wp2_with fail
  refine Calls.mono (Contains_row w v is n H.out hl) ?_
  rintro e w5 ⟨rfl, rfl⟩
  go_wp2_with fail
  exact bodyPost_ret (v := .bool (is.contains n)) (by simp [results, Tryz.results40, go_sem, ↓IntWalk.iteOmega]) rfl ⟨rfl, rfl⟩
set_option maxRecDepth 20000 in
set_option maxHeartbeats 400000 in
theorem outer_calls (w : World) (q : Addr) (v : Value) (is : List Int) (A : Option Addr) (cap : Nat) (c : List Int) (hq : w.cell? q = some v) (h : rowAt w v is) (hl : is.length ≤ 1000) (hC : Kd.C (Kd.int .i64) w A c.length c) (hcap : c.length ≤ cap) (hlen : c.length ≤ 1000) : Calls Tryz.prog 38 #[.slice A c.length cap, .pointer (some q)] w fun e w' => e = .returned (.bool (!c.any fun n => is.contains n)) ∧ w' = w := by
  have HI := Lib.hid (ContainsFunc2_calls w A cap c (fun n => is.contains n) q hC hcap hlen (fun n _ => inner_calls w q v is n hq h hl))
  clear h hC
  go_enter Tryz.func38, Tryz.ntmps38
  go_wp2_with fail
  refine Calls.mono HI.out ?_
  rintro e w5 ⟨rfl, rfl⟩
  go_wp2_with fail
  exact bodyPost_ret (v := .bool (!c.any fun n => is.contains n)) (by simp [results, Tryz.results38, go_sem, ↓IntWalk.iteOmega]) rfl ⟨rfl, rfl⟩

end Go.Proofs.YtaibjaienhnckaaGreatDoor
