/- Layer 22's reference: Show of a setup whose numbers aren't negative. Condition: the numbers are from 0 to 2^31. -/
import Derived.Test.YtaibjaienhnckaaDoorUg
set_option linter.unusedVariables false
set_option linter.unusedSimpArgs false
namespace Go.Proofs.YtaibjaienhnckaaDoor
open Go.RowKit
set_option maxRecDepth 20000 in
set_option maxHeartbeats 4000000 in
theorem refShow_gives (w : World) (c : Cfg) (hc : ∀ k, k < 6 → 0 ≤ c.get k ∧ c.get k ≤ 2147483648) : Gives Tryd.prog 12 #[c.val] w (.string ⟨(showF c).toArray⟩) := by
  have hlen := showK_len hc
  have hget := fun k (hk : k < 6) => get_bnd hc hk
  have hstep : ∀ (k u : Nat), c.get k = (u : Int) → ∀ b : ByteArray, b.data.toList = showK c k → (b ++ (wB k ++ ⟨#[32]⟩ ++ ⟨(Lib.decDigits u).toArray⟩ ++ ⟨#[10]⟩)).data.toList = showK c (k + 1) := fun k u hu b hb => showK_step hu hb
  have hend := showF_eq c
  obtain ⟨l0, l1, l2, l3, l4, l5, t⟩ := c
  have HLEN := Lib.hid hlen
  have HGET := Lib.hid hget
  have HSTEP := Lib.hid hstep
  have HEND := Lib.hid hend
  clear hlen hget hstep hend hc
  unfold Gives
  generalize hcv : (Cfg.val ⟨l0, l1, l2, l3, l4, l5, t⟩) = cv
  have hcv2 : cv = .agg #[.int .i64 l0, .int .i64 l1, .int .i64 l2, .int .i64 l3, .int .i64 l4, .int .i64 l5, .bool t] := hcv.symm
  subst hcv2
  clear hcv
  go_enter Tryd.func12, Tryd.ntmps12
  go_wp2_with fail
  go_loopw [3, 4] (fun sv iv wr => ∃ (k : Nat) (b : ByteArray), sv = .string b ∧ iv = .int .i64 (k : Int) ∧ k ≤ 6 ∧ Hid (b.data.toList = showK ⟨l0, l1, l2, l3, l4, l5, t⟩ k) ∧ CB w w.heap.size l0 l1 l2 l3 l4 l5 t wr) (fun sv iv wr => (6 - intOf iv).toNat)
  case atStart =>
    refine ⟨0, ⟨#[]⟩, rfl, rfl, Nat.zero_le _, Lib.hid rfl, (IsOv.refl w).alloc _, ?_, ?_, ?_, ?_, ?_, ?_, ?_⟩ <;> (rw [World.cell_alloc_cells, if_neg (Nat.lt_irrefl _), if_pos rfl]; rfl)
  case round =>
    obtain ⟨k, b, rfl, rfl, hk, hb, hCB⟩ := hrel
    have hbz : b.size ≤ k * 30 := by
      have h3 : b.size = b.data.toList.length := Array.length_toList.symm
      rw [h3, hb.out]
      exact HLEN.out k hk
    by_cases hk6 : k < 6
    · obtain ⟨u, hu, hu2⟩ := HGET.out k hk6
      have HU := Lib.hid hu
      have hN : Hid ((b ++ (wB k ++ ⟨#[32]⟩ ++ ⟨(Lib.decDigits u).toArray⟩ ++ ⟨#[10]⟩)).data.toList = showK ⟨l0, l1, l2, l3, l4, l5, t⟩ (k + 1)) := Lib.hid (HSTEP.out k u hu b hb.out)
      have hwz := wB_size k hk6
      have hdz : (⟨(Lib.decDigits u).toArray⟩ : ByteArray).size ≤ 10 := by
        show (Lib.decDigits u).toArray.size ≤ 10
        rw [List.size_toArray]
        exact decDigits_len 9 u (by omega)
      clear hu hb
      generalize hdg : (⟨(Lib.decDigits u).toArray⟩ : ByteArray) = dg at *
      have HDG := Lib.hid hdg
      clear hdg
      go_wp2_with fail
      have hCB2 := hCB
      obtain ⟨hovw, q0, q1, q2, q3, q4, q5, q6⟩ := hCB
      have hwlt : w.heap.size < wr.heap.size := block_lt_of_cell q0
      have g1 : ¬ 9223372036854775807 < (wB k).size + 1 := by omega
      have g2 : ¬ 9223372036854775807 < (wB k).size + 1 + dg.size := by omega
      have g3 : ¬ 9223372036854775807 < (wB k).size + 1 + dg.size + 1 := by omega
      have g4 : ¬ 9223372036854775807 < b.size + ((wB k).size + 1 + dg.size + 1) := by omega
      go_region_with (first | (go_at_call 25; refine (words_k _ k hk6).mono ?_; rintro e w2 ⟨rfl, ⟨x2, rfl⟩, hck⟩; (have hck2 : wr.drew.cellBehind x2 ⟨wr.heap.size, k, none⟩ = some (.string (wB k)) := hck); have hlt2 : 0 < x2.blocks.size := (by have h9 : wr.drew.heap.size < (wr.drew.ov x2).heap.size := block_lt_of_cell hck; rw [World.size_ov] at h9; exact Nat.lt_of_add_lt_add_left (Nat.lt_of_le_of_lt (Nat.le_of_eq (Nat.add_zero _)) h9))) | (go_at_call 24; refine (get_gives _ ⟨l0, l1, l2, l3, l4, l5, t⟩ k hk6).mono ?_; rintro e w3 ⟨rfl, x3, rfl⟩; rw [HU.out]) | (go_at_call 26; refine (Digits_gives _ u (by omega)).mono ?_; rintro e w4 ⟨rfl, x4, rfl⟩; rw [HDG.out]))
      all_goals clear HLEN HGET HSTEP HEND
      all_goals go_wp2_with fail
      all_goals go_roundw
      all_goals first
        | exact ⟨k + 1, _, rfl, by go_num, by omega, hN, CB_isOv hCB2 (by repeat (first | with_reducible exact IsOv.refl _ | with_reducible apply IsOv.dr | with_reducible apply IsOv.drewN | with_reducible apply IsOv.drew | with_reducible apply IsOv.alloc | with_reducible apply IsOv.ov))⟩
        | (simp [intOf]; omega)
    · obtain rfl : k = 6 := by omega
      have hE := HEND.out
      rw [← hb.out] at hE
      obtain ⟨hovw, q0, q1, q2, q3, q4, q5, q6⟩ := hCB
      have hwlt := block_lt_of_cell q0
      cases t
      · have HV : Hid (showF ⟨l0, l1, l2, l3, l4, l5, false⟩ = b.data.toList) := Lib.hid (by rw [hE]; simp)
        clear hE HLEN HGET HSTEP HEND hb
        go_wp2_with fail
        exact bodyPost_ret (v := .string b) (by simp [results, Tryd.results12, go_sem, ↓IntWalk.iteOmega]) rfl ⟨by rw [HV.out], hovw⟩
      · have HV : Hid (showF ⟨l0, l1, l2, l3, l4, l5, true⟩ = (b ++ ⟨#[116, 117, 114, 110, 101, 100, 10]⟩).data.toList) := Lib.hid (by rw [hE]; simp [ByteArray.data_append, turnedW])
        clear hE HLEN HGET HSTEP HEND hb
        go_wp2_with fail
        exact bodyPost_ret (v := .string (b ++ ⟨#[116, 117, 114, 110, 101, 100, 10]⟩)) (by simp [results, Tryd.results12, go_sem, ↓IntWalk.iteOmega]) rfl ⟨by rw [HV.out], hovw⟩
end Go.Proofs.YtaibjaienhnckaaDoor
