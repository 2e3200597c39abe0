/- cnf.Holds, as a plain function. Conditions: at most 1000 clauses of at most 1000 literals. -/
import Derived.Test.YtaibjaienhnckaaGreatDoorZk
set_option linter.unusedVariables false
set_option linter.unusedSimpArgs false
namespace Go.Proofs.YtaibjaienhnckaaGreatDoor
open Go.RowKit Go.Proofs.YtaibjaienhnckaaGreatDoorW.PrintWords Go.Proofs.YtaibjaienhnckaaGreatDoorW.PrintLast Go.Proofs.YtaibjaienhnckaaGreatDoorW.PrintMore Go.Proofs.YtaibjaienhnckaaGreatDoor.PCnfFollows
set_option maxRecDepth 20000 in
set_option maxHeartbeats 400000 in
theorem IndexFunc3_calls (w : World) (A : Option Addr) (cap : Nat) (l : List (List Int)) (p : List Int → Bool) (q : Addr) (hC : Kd.C (Kd.slice 3 (Kd.int .i64)) w A l.length l) (hcap : l.length ≤ cap) (hlen : l.length ≤ 1000)
    (hF : ∀ c ∈ l, ∀ A9 c9, c.length ≤ c9 → Kd.C (Kd.int .i64) w A9 c.length c → Calls Tryz.prog 38 #[.slice A9 c.length c9, .pointer (some q)] w fun e w' => e = .returned (.bool (p c)) ∧ w' = w) :
    Calls Tryz.prog 53 #[.slice A l.length cap, .func (.func 38) #[] #[.pointer (some q)]] w fun e w' => (∃ k : Int, e = .returned (.int .i64 k) ∧ decide (0 ≤ k) = l.any p ∧ -1 ≤ k ∧ k ≤ 1000) ∧ w' = w := by
  have HC := Lib.hid hC
  have HF := Lib.hid hF
  clear hC hF
  go_enter Tryz.func53, Tryz.ntmps53
  go_wp2_with fail
  go_loopw [8] (fun iv w' => ∃ (i : Nat), iv = .int .i64 (i : Int) ∧ i ≤ l.length ∧ w' = w ∧ Hid ((l.drop i).any p = l.any p)) (fun iv w' => (l.length - intOf iv).toNat)
  case atStart => exact ⟨0, rfl, Nat.zero_le _, rfl, Lib.hid rfl⟩
  case round =>
    obtain ⟨i, rfl, hi, rfl, hp⟩ := hrel
    by_cases hin : i < l.length
    · obtain ⟨ad, A9, c9, rfl, hx, hc9, hC9⟩ := at_L1 HC.out (i : Int) (by omega) (by omega)
      have hd := rdL_drop hin
      have hf := HF.out _ (rdL_mem hin) A9 c9 hc9 hC9
      have hxc : _ = some (Value.slice A9 (rd_L1 l i).length c9) := hx
      rw [Int.toNat_natCast] at hxc
      have hp9 := hp.out
      rw [hd, List.any_cons] at hp9
      clear hx hd hp hC9
      generalize rd_L1 l (i : Int) = c at *
      have HFF := Lib.hid hf
      have HP := Lib.hid hp9
      clear hf hp9
      go_wp2_with fail
      refine Calls.mono HFF.out ?_
      rintro e w5 ⟨rfl, rfl⟩
      cases hpn : p c
      · have HP2 : Hid ((l.drop (i + 1)).any p = l.any p) := Lib.hid (by rw [← HP.out, hpn, Bool.false_or])
        clear HP hpn
        go_wp2_with fail
        go_roundw
        case rel => exact ⟨i + 1, by go_num, by omega, trivial, HP2⟩
        case measure => simp [intOf]; omega
      · have HP2 : Hid (l.any p = true) := Lib.hid (by rw [← HP.out, hpn, Bool.true_or])
        clear HP hpn
        go_wp2_with fail
        exact bodyPost_ret (v := .int .i64 (i : Int)) (by simp [results, Tryz.results53, go_sem, ↓IntWalk.iteOmega]) rfl ⟨⟨_, rfl, by rw [HP2.out]; simp, by omega, by omega⟩, rfl⟩
    · obtain rfl : i = l.length := by omega
      have HP2 : Hid (l.any p = false) := Lib.hid (by rw [← hp.out, List.drop_length]; rfl)
      clear hp
      go_wp2_with fail
      exact bodyPost_ret (v := .int .i64 (-1)) (by simp [results, Tryz.results53, go_sem, ↓IntWalk.iteOmega]) rfl ⟨⟨_, rfl, by rw [HP2.out]; simp, by omega, by omega⟩, rfl⟩
set_option maxRecDepth 20000 in
set_option maxHeartbeats 400000 in
theorem ContainsFunc3_calls (w : World) (A : Option Addr) (cap : Nat) (l : List (List Int)) (p : List Int → Bool) (q : Addr) (hC : Kd.C (Kd.slice 3 (Kd.int .i64)) w A l.length l) (hcap : l.length ≤ cap) (hlen : l.length ≤ 1000)
    (hF : ∀ c ∈ l, ∀ A9 c9, c.length ≤ c9 → Kd.C (Kd.int .i64) w A9 c.length c → Calls Tryz.prog 38 #[.slice A9 c.length c9, .pointer (some q)] w fun e w' => e = .returned (.bool (p c)) ∧ w' = w) :
    Calls Tryz.prog 37 #[.slice A l.length cap, .func (.func 38) #[] #[.pointer (some q)]] w fun e w' => e = .returned (.bool (l.any p)) ∧ w' = w := by
  have HI := Lib.hid (IndexFunc3_calls w A cap l p q hC hcap hlen hF)
  clear hC hF
  go_enter Tryz.func37, Tryz.ntmps37
  go_wp2_with fail
  refine Calls.mono HI.out ?_
  rintro e w5 ⟨⟨k, rfl, hk, hk1, hk2⟩, rfl⟩
  have HK := Lib.hid hk
  clear hk HI
  go_wp2_with fail
  all_goals exact bodyPost_ret (v := .bool (decide (0 ≤ k))) (by simp [results, Tryz.results37, go_sem, ↓IntWalk.iteOmega]) rfl ⟨by rw [HK.out], rfl⟩
/-- Whether clauses hold where these literals are true. -/
def holdsF (l : List (List Int)) (is : List Int) : Bool := !l.any fun c => !c.any fun n => is.contains n
set_option maxRecDepth 20000 in
set_option maxHeartbeats 400000 in
theorem Holds_calls (w : World) (A : Option Addr) (cap : Nat) (l : List (List Int)) (v : Value) (is : List Int) (hC : Kd.C (Kd.slice 3 (Kd.int .i64)) w A l.length l) (hcap : l.length ≤ cap) (hlen : l.length ≤ 1000) (hcl : ∀ c ∈ l, c.length ≤ 1000) (hv : rowAt w v is) (hl : is.length ≤ 1000) :
    Calls Tryz.prog 23 #[.slice A l.length cap, v] w fun e w' => e = .returned (.bool (holdsF l is)) ∧ IsOv w w' := by
  obtain ⟨A1, c1, rfl⟩ := rowAt_nil hv
  have HC := Lib.hid hC
  have HV := Lib.hid hv
  have HCL := Lib.hid hcl
  clear hC hv hcl
  go_enter Tryz.func23, Tryz.ntmps23
  go_wp2_with fail
  refine Calls.mono (ContainsFunc3_calls _ A cap l (fun c => !c.any fun n => is.contains n) ⟨w.heap.size, 0, none⟩ (Kd.C_alloc HC.out _) hcap hlen (fun c hc A9 c9 hc9 hC9 => outer_calls _ ⟨w.heap.size, 0, none⟩ (.slice A1 is.length c1) is A9 c9 c (by rw [cell_of_heap (heap_alloc_new w _)]; rfl) (rowAt_isOv HV.out ((IsOv.refl w).alloc _)) hl hC9 hc9 (HCL.out c hc))) ?_
  rintro e w5 ⟨rfl, rfl⟩
  go_wp2_with fail
  exact bodyPost_ret (v := .bool (holdsF l is)) (by simp [results, Tryz.results23, go_sem, ↓IntWalk.iteOmega, holdsF]) rfl ⟨rfl, (IsOv.refl w).alloc _⟩

end Go.Proofs.YtaibjaienhnckaaGreatDoor
