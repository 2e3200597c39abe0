/- cnf.open, as a plain function. Conditions: the clause's literals are within 1048576 of 0; the map holds 1 for each of some numbers. -/
import Derived.Test.YtaibjaienhnckaaGreatDoorZb
import Derived.Test.YtaibjaienhnckaaGreatDoorZc
set_option linter.unusedVariables false
set_option linter.unusedSimpArgs false
namespace Go.Proofs.YtaibjaienhnckaaGreatDoor
open Go.RowKit Go.Proofs.YtaibjaienhnckaaGreatDoorW.PrintWords Go.Proofs.YtaibjaienhnckaaGreatDoorW.PrintLast Go.Proofs.YtaibjaienhnckaaGreatDoorW.PrintMore Go.Proofs.YtaibjaienhnckaaGreatDoor.PCnfFollows
/-- The only literal that is open, and how many there are, seen from a place on. -/
def openF (ks : List Int) : List Int → Int → Int → Int × Int
  | [], only, cnt => (only, cnt)
  | n :: c, only, cnt => if n ∈ ks then (0, 3) else if -n ∉ ks ∧ (cnt = 0 ∨ n ≠ only) then openF ks c n (if 2 < cnt + 1 then 2 else cnt + 1) else openF ks c only cnt
/-- Literals that may be. -/
def small (l : List Int) : Prop := ∀ n ∈ l, -1048576 ≤ n ∧ n ≤ 1048576
theorem rd_drop {l : List Int} {i : Nat} (h : i < l.length) : l.drop i = rd l i :: l.drop (i + 1) := by
  rw [List.drop_eq_getElem_cons h]
  unfold rd
  simp [List.getD, h]
theorem rd_mem {l : List Int} {i : Nat} (h : i < l.length) : rd l i ∈ l := by
  unfold rd
  simp [List.getD, h]
set_option maxRecDepth 20000 in
set_option maxHeartbeats 600000 in
theorem open_calls (w : World) (A : Option Addr) (cap : Nat) (c : List Int) (mp : Nat) (es : Array MapEntry) (clk : Nat) (ks : List Int) (hC : Kd.C (Kd.int .i64) w A c.length c) (hcap : c.length ≤ cap) (hlen : c.length ≤ 1000000) (hsm : small c) (hm : w.heap[mp]? = some (.map es clk)) (hks : onesAre es.toList ks) :
    Calls Tryz.prog 25 #[.slice A c.length cap, .map (some mp)] w fun e w' => e = .returned (.tuple #[.int .i64 (openF ks c 0 0).1, .int .i64 (openF ks c 0 0).2]) ∧ w' = w := by
  have hlook := fun n => run_lookup_ones Tryz.underlying47 Tryz.underlying3 (w := w) (by kernel_rfl) hm hks n
  have HC := Lib.hid hC
  have HL := Lib.hid hlook
  have HS := Lib.hid hsm
  have HCAP := Lib.hid hcap
  clear hC hlook hsm hcap
  go_enter Tryz.func25, Tryz.ntmps25
  go_wp2_with fail
  go_loopw [6, 7, 12] (fun ov cv iv w' => ∃ (i : Nat) (only cnt : Int), ov = .int .i64 only ∧ cv = .int .i64 cnt ∧ iv = .int .i64 (i : Int) ∧ i ≤ c.length ∧ 0 ≤ cnt ∧ cnt ≤ 2 ∧ Hid (openF ks (c.drop i) only cnt = openF ks c 0 0) ∧ w' = w) (fun ov cv iv w' => (c.length - intOf iv).toNat)
  case atStart => exact ⟨0, 0, 0, rfl, rfl, rfl, Nat.zero_le _, by decide, by decide, Lib.hid rfl, rfl⟩
  case round =>
    obtain ⟨i, only, cnt, rfl, rfl, rfl, hi, h0, h2, hF, rfl⟩ := hrel
    by_cases hin : i < c.length
    · obtain ⟨ad, rfl, hx⟩ := Kd.at_int HC.out (i : Int) (by omega) (by omega)
      have hb := HS.out _ (rd_mem hin)
      have hd := rd_drop hin
      have hl1 := HL.out (rd c i)
      have hl2 := HL.out (-(rd c i))
      rw [hd] at hF
      have hxc : wr.cell? (ad.add i) = some (.int .i64 (rd c i)) := hx
      clear hx hd
      generalize rd c (i : Int) = n at *
      by_cases hk : n ∈ ks
      · rw [if_pos hk] at hl1
        have HV : Hid (openF ks c 0 0 = (0, 3)) := Lib.hid (by rw [← hF.out]; unfold openF; rw [if_pos hk])
        clear hF hl2
        go_wp2_with fail
        exact bodyPost_ret (v := .tuple #[.int .i64 0, .int .i64 3]) (by simp [results, Tryz.results25, go_sem, ↓IntWalk.iteOmega]) rfl ⟨by rw [HV.out], rfl⟩
      · rw [if_neg hk] at hl1
        by_cases hmn : -n ∈ ks
        · rw [if_pos hmn] at hl2
          have HN : Hid (openF ks (c.drop (i + 1)) only cnt = openF ks c 0 0) := Lib.hid (by rw [← hF.out]; conv => rhs; unfold openF; rw [if_neg hk, if_neg (by simp [hmn])])
          clear hF
          go_wp2_with fail
          go_roundw
          case rel => exact ⟨i + 1, only, cnt, rfl, rfl, by go_num, by omega, h0, h2, HN, trivial⟩
          case measure => simp [intOf]; omega
        · rw [if_neg hmn] at hl2
          by_cases hc0 : cnt = 0
          · have HN : Hid (openF ks (c.drop (i + 1)) n (if 2 < cnt + 1 then 2 else cnt + 1) = openF ks c 0 0) := Lib.hid (by rw [← hF.out]; conv => rhs; unfold openF; rw [if_neg hk, if_pos ⟨hmn, .inl hc0⟩])
            clear hF
            subst hc0
            go_wp2_with fail
            go_roundw
            case rel => exact ⟨i + 1, n, _, rfl, rfl, by go_num, by omega, by first | decide | (split <;> omega), by first | decide | (split <;> omega), HN, trivial⟩
            case measure => simp [intOf]; omega
          · have hc0b : (cnt == 0) = false := by simpa using hc0
            by_cases hno : n = only
            · have HN : Hid (openF ks (c.drop (i + 1)) only cnt = openF ks c 0 0) := Lib.hid (by rw [← hF.out]; conv => rhs; unfold openF; rw [if_neg hk, if_neg (by simp [hmn, hc0, hno])])
              clear hF
              subst hno
              go_wp2_with fail
              go_roundw
              case rel => exact ⟨i + 1, _, cnt, rfl, rfl, by go_num, by omega, h0, h2, HN, trivial⟩
              case measure => simp [intOf]; omega
            · have HN : Hid (openF ks (c.drop (i + 1)) n (if 2 < cnt + 1 then 2 else cnt + 1) = openF ks c 0 0) := Lib.hid (by rw [← hF.out]; conv => rhs; unfold openF; rw [if_neg hk, if_pos ⟨hmn, .inr hno⟩])
              clear hF
              have hnb : (n != only) = true := by simpa using hno
              go_wp2_with fail
              go_roundw
              case rel => exact ⟨i + 1, n, _, rfl, rfl, by go_num, by omega, by first | decide | (split <;> omega), by first | decide | (split <;> omega), HN, trivial⟩
              case measure => simp [intOf]; omega
    · obtain rfl : i = c.length := by omega
      have HV : Hid (openF ks c 0 0 = (only, cnt)) := Lib.hid (by rw [← hF.out, List.drop_length]; rfl)
      clear hF
      go_wp2_with fail
      exact bodyPost_ret (v := .tuple #[.int .i64 only, .int .i64 cnt]) (by simp [results, Tryz.results25, go_sem, ↓IntWalk.iteOmega]) rfl ⟨by rw [HV.out], rfl⟩
end Go.Proofs.YtaibjaienhnckaaGreatDoor
