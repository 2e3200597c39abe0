/- Layer 22's reference: Right and number. Condition of number: the text takes at most 65536 bytes. -/
import Derived.Test.YtaibjaienhnckaaDoorUa
set_option linter.unusedVariables false
set_option linter.unusedSimpArgs false
namespace Go.Proofs.YtaibjaienhnckaaDoor
open Go.RowKit
def Cfg.rightB (c : Cfg) : Bool := Go.Proofs.YtaibjaienhnckaaDoor.rightB c.l0 c.l1 c.l2 c.l3 c.l4 c.l5
theorem bounds6 (c : Cfg) (k : Nat) (hk : k < 6) : (rights c.l0 c.l1 c.l2 c.l3 c.l4 c.l5)[k]? = some (rngB (loN k) (hiN k) (c.get k)) := by
  have hk7 : k = 0 ∨ k = 1 ∨ k = 2 ∨ k = 3 ∨ k = 4 ∨ k = 5 := by omega
  rcases hk7 with rfl | rfl | rfl | rfl | rfl | rfl <;> rfl
theorem val_agg (c : Cfg) : c.val = .agg c.cells := rfl
set_option maxHeartbeats 1000000 in
theorem refRight_gives (w : World) (c : Cfg) : Gives Tryd.prog 11 #[c.val] w (.bool c.rightB) := by
  have hb6 := bounds6 c
  obtain ⟨l0, l1, l2, l3, l4, l5, t⟩ := c
  unfold Cfg.val Cfg.cells
  unfold Gives
  go_enter Tryd.func11, Tryd.ntmps11
  go_wp2_with fail
  have hmem : ∀ wr, IsOv (w.alloc (.cells #[.int .i64 l0, .int .i64 l1, .int .i64 l2, .int .i64 l3, .int .i64 l4, .int .i64 l5, .bool t] 24)) wr → wr.cell? ⟨w.heap.size, 0, none⟩ = some (.int .i64 l0) ∧ wr.cell? ⟨w.heap.size, 1, none⟩ = some (.int .i64 l1) ∧ wr.cell? ⟨w.heap.size, 2, none⟩ = some (.int .i64 l2) ∧ wr.cell? ⟨w.heap.size, 3, none⟩ = some (.int .i64 l3) ∧ wr.cell? ⟨w.heap.size, 4, none⟩ = some (.int .i64 l4) ∧ wr.cell? ⟨w.heap.size, 5, none⟩ = some (.int .i64 l5) ∧ wr.cell? ⟨w.heap.size, 6, none⟩ = some (.bool t) := fun wr hw => by
    refine ⟨?_, ?_, ?_, ?_, ?_, ?_, ?_⟩ <;> (refine hw.cell ?_; rw [World.cell_alloc_cells, if_neg (Nat.lt_irrefl _), if_pos rfl]; rfl)
  go_loopw [3] (fun i wr => ∃ k : Nat, i = .int .i64 (k : Int) ∧ k ≤ 6 ∧ Hid (∀ j, j < k → (rights l0 l1 l2 l3 l4 l5)[j]? = some true) ∧ IsOv (w.alloc (.cells #[.int .i64 l0, .int .i64 l1, .int .i64 l2, .int .i64 l3, .int .i64 l4, .int .i64 l5, .bool t] 24)) wr) (fun i wr => (6 - intOf i).toNat)
  case atStart => exact ⟨0, rfl, Nat.zero_le _, fun j hj => absurd hj (Nat.not_lt_zero _), IsOv.refl _⟩
  case round =>
    obtain ⟨k, rfl, hk, hall, hov1⟩ := hrel
    obtain ⟨p0, p1, p2, p3, p4, p5, p6⟩ := hmem wr hov1
    have hov : IsOv w wr := ((IsOv.refl w).alloc _).trans hov1
    have hwz : w.heap.size < wr.heap.size := block_lt_of_cell (a := ⟨w.heap.size, 0, none⟩) p0
    clear hmem
    by_cases hk6 : k < 6
    · by_cases h1 : Cfg.get ⟨l0, l1, l2, l3, l4, l5, t⟩ k < loN k
      · have HV : Hid (Cfg.rightB ⟨l0, l1, l2, l3, l4, l5, t⟩ = false) := Lib.hid (rightB_false (k := k) ((hb6 k hk6).trans (congrArg some (rngB_low h1))))
        clear hall
        go_wp2_with (first | (go_at_call 23; refine (bounds_gives _ k hk6).mono ?_; rintro e w' ⟨rfl, y1, rfl⟩) | (go_at_call 24; refine (get_gives _ ⟨l0, l1, l2, l3, l4, l5, t⟩ k hk6).mono ?_; rintro e w' ⟨rfl, y2, rfl⟩))
        exact bodyPost_ret (v := .bool false) (by simp [results, Tryd.results11, go_sem, ↓IntWalk.iteOmega]) rfl ⟨by rw [HV.out], hov.trans (by repeat (first | with_reducible exact IsOv.refl _ | with_reducible apply IsOv.dr | with_reducible apply IsOv.drewN | with_reducible apply IsOv.drew | with_reducible apply IsOv.alloc | with_reducible apply IsOv.ov))⟩
      · by_cases h2 : hiN k < Cfg.get ⟨l0, l1, l2, l3, l4, l5, t⟩ k
        · have HV : Hid (Cfg.rightB ⟨l0, l1, l2, l3, l4, l5, t⟩ = false) := Lib.hid (rightB_false (k := k) ((hb6 k hk6).trans (congrArg some (rngB_high h2))))
          clear hall
          go_wp2_with (first | (go_at_call 23; refine (bounds_gives _ k hk6).mono ?_; rintro e w' ⟨rfl, y1, rfl⟩) | (go_at_call 24; refine (get_gives _ ⟨l0, l1, l2, l3, l4, l5, t⟩ k hk6).mono ?_; rintro e w' ⟨rfl, y2, rfl⟩))
          exact bodyPost_ret (v := .bool false) (by simp [results, Tryd.results11, go_sem, ↓IntWalk.iteOmega]) rfl ⟨by rw [HV.out], hov.trans (by repeat (first | with_reducible exact IsOv.refl _ | with_reducible apply IsOv.dr | with_reducible apply IsOv.drewN | with_reducible apply IsOv.drew | with_reducible apply IsOv.alloc | with_reducible apply IsOv.ov))⟩
        · have H2 : Hid (∀ j, j < k + 1 → (rights l0 l1 l2 l3 l4 l5)[j]? = some true) := Lib.hid fun j hj => (by
            rcases Nat.lt_or_ge j k with h5 | h5
            · exact hall.out j h5
            · obtain rfl : j = k := by omega
              exact (hb6 j hk6).trans (congrArg some (rngB_in h1 h2)))
          clear hall
          go_wp2_with (first | (go_at_call 23; refine (bounds_gives _ k hk6).mono ?_; rintro e w' ⟨rfl, y1, rfl⟩) | (go_at_call 24; refine (get_gives _ ⟨l0, l1, l2, l3, l4, l5, t⟩ k hk6).mono ?_; rintro e w' ⟨rfl, y2, rfl⟩))
          go_roundw
          case rel => exact ⟨k + 1, by go_num, by omega, H2, hov1.trans (by repeat (first | with_reducible exact IsOv.refl _ | with_reducible apply IsOv.dr | with_reducible apply IsOv.drewN | with_reducible apply IsOv.drew | with_reducible apply IsOv.alloc | with_reducible apply IsOv.ov))⟩
          case measure => simp [intOf]; omega
    · obtain rfl : k = 6 := by omega
      have HV : Hid (Cfg.rightB ⟨l0, l1, l2, l3, l4, l5, t⟩ = true) := Lib.hid (rightB_true hall.out)
      clear hall
      go_wp2_with fail
      exact bodyPost_ret (v := .bool true) (by simp [results, Tryd.results11, go_sem, ↓IntWalk.iteOmega]) rfl ⟨by rw [HV.out], hov.trans (by repeat (first | with_reducible exact IsOv.refl _ | with_reducible apply IsOv.dr | with_reducible apply IsOv.drewN | with_reducible apply IsOv.drew | with_reducible apply IsOv.alloc | with_reducible apply IsOv.ov))⟩
/-- The number of digits behind v, by the reference; from 100000000000 on digits are not counted. -/
def numG : Int → List UInt8 → Option Int
  | v, [] => some v
  | v, b :: l => if (b.toNat : Int) < 48 then none else if 57 < (b.toNat : Int) then none else numG (if v < 100000000000 then v * 10 + ((b.toNat : Int) - 48) else v) l
def numR (l : List UInt8) : Option Int := if l = [] then none else if 1 < l.length ∧ l.headD 0 = 48 then none else numG 0 l
def numRV (r : Option Int) : Value := .tuple #[.int .i64 (r.getD 0), .bool r.isSome]
theorem list_size0 {s : ByteArray} (h : s.size = 0) : s.data.toList = [] := List.eq_nil_of_length_eq_zero (by rw [Array.length_toList]; exact h)
theorem list_drop {s : ByteArray} {i : Nat} (h : i < s.size) : s.data.toList.drop i = s[i] :: s.data.toList.drop (i + 1) := by
  rw [List.drop_eq_getElem_cons (by rw [Array.length_toList]; exact h)]; rfl
theorem list_head {s : ByteArray} (h : 0 < s.size) : s.data.toList.headD 0 = s[0] := by
  have := list_drop h
  rw [List.drop_zero] at this
  rw [this]; rfl
set_option maxHeartbeats 1000000 in
theorem number_gives (w : World) (s : ByteArray) (hs : s.size ≤ 65536) : Gives Tryd.prog 34 #[.string s] w (numRV (numR s.data.toList)) := by
  have hl : s.data.toList.length = s.size := Array.length_toList
  unfold Gives
  go_enter Tryd.func34, Tryd.ntmps34
  by_cases h0 : s.size = 0
  · have HV : Hid (numR s.data.toList = none) := Lib.hid (by unfold numR; rw [if_pos (list_size0 h0)])
    go_wp2_with fail
    exact bodyPost_ret (v := .tuple #[.int .i64 0, .bool false]) (by simp [results, Tryd.results34, go_sem, ↓IntWalk.iteOmega]) rfl ⟨by rw [HV.out]; rfl, by repeat (first | with_reducible exact IsOv.refl _ | with_reducible apply IsOv.dr | with_reducible apply IsOv.drewN | with_reducible apply IsOv.drew | with_reducible apply IsOv.alloc | with_reducible apply IsOv.ov)⟩
  · have hp : 0 < s.size := Nat.pos_of_ne_zero h0
    have hz : ((s.size : Int) == 0) = false := by rw [beq_eq_false_iff_ne]; omega
    by_cases h1 : 1 < s.size ∧ s[0]'hp = 48
    · have HV : Hid (numR s.data.toList = none) := Lib.hid (by unfold numR; rw [if_neg (by intro h; rw [h] at hl; simp at hl; omega), if_pos ⟨by omega, by rw [list_head (by omega)]; exact h1.2⟩])
      obtain ⟨h1a, h1b⟩ := h1
      have h1c : (((s[0]'hp).toNat : Int) == 48) = true := by rw [h1b]; rfl
      go_wp2_with fail
      exact bodyPost_ret (v := .tuple #[.int .i64 0, .bool false]) (by simp [results, Tryd.results34, go_sem, ↓IntWalk.iteOmega]) rfl ⟨by rw [HV.out]; rfl, by repeat (first | with_reducible exact IsOv.refl _ | with_reducible apply IsOv.dr | with_reducible apply IsOv.drewN | with_reducible apply IsOv.drew | with_reducible apply IsOv.alloc | with_reducible apply IsOv.ov)⟩
    · have HV : Hid (numR s.data.toList = numG 0 s.data.toList) := Lib.hid (by unfold numR; rw [if_neg (by intro h; rw [h] at hl; simp at hl; omega), if_neg (by rw [list_head (by omega)]; intro h; exact h1 ⟨by omega, h.2⟩)])
      have h1c : 1 < s.size → (((s[0]'hp).toNat : Int) == 48) = false := fun h => by
        rw [beq_eq_false_iff_ne]
        intro e
        exact h1 ⟨h, by
          have : (s[0]'hp).toNat = 48 := by omega
          exact UInt8.toNat_inj.1 this⟩
      clear h1
      rw [HV.out]
      clear HV
      by_cases h2 : 1 < s.size
      · have h3 := h1c h2
        clear h1c
        go_wp2_with fail
        go_loopw [4, 5] (fun vv iv wr => ∃ (i : Nat) (v : Int), vv = .int .i64 v ∧ iv = .int .i64 (i : Int) ∧ i ≤ s.size ∧ 0 ≤ v ∧ v ≤ 1000000000010 ∧ Hid (numG v (s.data.toList.drop i) = numG 0 s.data.toList) ∧ IsOv w wr) (fun vv iv wr => (s.size - intOf iv).toNat)
        case atStart => exact ⟨0, 0, rfl, rfl, Nat.zero_le _, Int.le_refl _, by decide, Lib.hid rfl, by repeat (first | with_reducible exact IsOv.refl _ | with_reducible apply IsOv.dr | with_reducible apply IsOv.drewN | with_reducible apply IsOv.drew | with_reducible apply IsOv.alloc | with_reducible apply IsOv.ov)⟩
        case round =>
          obtain ⟨i, v, rfl, rfl, hi, hv0, hv1, hg, hov⟩ := hrel
          clear h3
          by_cases hi2 : i < s.size
          · have hd := list_drop hi2
            have hb := (s[i]'hi2).toNat_lt
            by_cases h4 : ((s[i]'hi2).toNat : Int) < 48
            · have HV : Hid (numG 0 s.data.toList = none) := Lib.hid (by rw [← hg.out, hd]; unfold numG; rw [if_pos h4])
              clear hg hd
              go_wp2_with fail
              exact bodyPost_ret (v := .tuple #[.int .i64 0, .bool false]) (by simp [results, Tryd.results34, go_sem, ↓IntWalk.iteOmega]) rfl ⟨by rw [HV.out]; rfl, hov.trans (by repeat (first | with_reducible exact IsOv.refl _ | with_reducible apply IsOv.dr | with_reducible apply IsOv.drewN | with_reducible apply IsOv.drew | with_reducible apply IsOv.alloc | with_reducible apply IsOv.ov))⟩
            · by_cases h5 : 57 < ((s[i]'hi2).toNat : Int)
              · have HV : Hid (numG 0 s.data.toList = none) := Lib.hid (by rw [← hg.out, hd]; unfold numG; rw [if_neg h4, if_pos h5])
                clear hg hd
                go_wp2_with fail
                exact bodyPost_ret (v := .tuple #[.int .i64 0, .bool false]) (by simp [results, Tryd.results34, go_sem, ↓IntWalk.iteOmega]) rfl ⟨by rw [HV.out]; rfl, hov.trans (by repeat (first | with_reducible exact IsOv.refl _ | with_reducible apply IsOv.dr | with_reducible apply IsOv.drewN | with_reducible apply IsOv.drew | with_reducible apply IsOv.alloc | with_reducible apply IsOv.ov))⟩
              · have HV : Hid (numG (if v < 100000000000 then v * 10 + (((s[i]'hi2).toNat : Int) - 48) else v) (s.data.toList.drop (i + 1)) = numG 0 s.data.toList) := Lib.hid (by rw [← hg.out, hd]; conv => rhs; unfold numG; rw [if_neg h4, if_neg h5])
                clear hg hd
                by_cases h6 : v < 100000000000
                · go_wp2_with fail
                  go_roundw
                  case rel => exact ⟨i + 1, v * 10 + (((s[i]'hi2).toNat : Int) - 48), by go_num, by go_num, by omega, by omega, by omega, Lib.hid (by rw [← HV.out, if_pos h6]), hov.trans (by repeat (first | with_reducible exact IsOv.refl _ | with_reducible apply IsOv.dr | with_reducible apply IsOv.drewN | with_reducible apply IsOv.drew | with_reducible apply IsOv.alloc | with_reducible apply IsOv.ov))⟩
                  case measure => simp [intOf]; omega
                · go_wp2_with fail
                  go_roundw
                  case rel => exact ⟨i + 1, v, by go_num, by go_num, by omega, by omega, by omega, Lib.hid (by rw [← HV.out, if_neg h6]), hov.trans (by repeat (first | with_reducible exact IsOv.refl _ | with_reducible apply IsOv.dr | with_reducible apply IsOv.drewN | with_reducible apply IsOv.drew | with_reducible apply IsOv.alloc | with_reducible apply IsOv.ov))⟩
                  case measure => simp [intOf]; omega
          · obtain rfl : i = s.size := by omega
            have HV : Hid (numG 0 s.data.toList = some v) := Lib.hid (by rw [← hg.out, List.drop_eq_nil_of_le (by omega)]; rfl)
            clear hg
            go_wp2_with fail
            exact bodyPost_ret (v := .tuple #[.int .i64 v, .bool true]) (by simp [results, Tryd.results34, go_sem, ↓IntWalk.iteOmega]) rfl ⟨by rw [HV.out]; rfl, hov.trans (by repeat (first | with_reducible exact IsOv.refl _ | with_reducible apply IsOv.dr | with_reducible apply IsOv.drewN | with_reducible apply IsOv.drew | with_reducible apply IsOv.alloc | with_reducible apply IsOv.ov))⟩
      · clear h1c
        go_wp2_with fail
        go_loopw [4, 5] (fun vv iv wr => ∃ (i : Nat) (v : Int), vv = .int .i64 v ∧ iv = .int .i64 (i : Int) ∧ i ≤ s.size ∧ 0 ≤ v ∧ v ≤ 1000000000010 ∧ Hid (numG v (s.data.toList.drop i) = numG 0 s.data.toList) ∧ IsOv w wr) (fun vv iv wr => (s.size - intOf iv).toNat)
        case atStart => exact ⟨0, 0, rfl, rfl, Nat.zero_le _, Int.le_refl _, by decide, Lib.hid rfl, by repeat (first | with_reducible exact IsOv.refl _ | with_reducible apply IsOv.dr | with_reducible apply IsOv.drewN | with_reducible apply IsOv.drew | with_reducible apply IsOv.alloc | with_reducible apply IsOv.ov)⟩
        case round =>
          obtain ⟨i, v, rfl, rfl, hi, hv0, hv1, hg, hov⟩ := hrel
          by_cases hi2 : i < s.size
          · have hd := list_drop hi2
            have hb := (s[i]'hi2).toNat_lt
            by_cases h4 : ((s[i]'hi2).toNat : Int) < 48
            · have HV : Hid (numG 0 s.data.toList = none) := Lib.hid (by rw [← hg.out, hd]; unfold numG; rw [if_pos h4])
              clear hg hd
              go_wp2_with fail
              exact bodyPost_ret (v := .tuple #[.int .i64 0, .bool false]) (by simp [results, Tryd.results34, go_sem, ↓IntWalk.iteOmega]) rfl ⟨by rw [HV.out]; rfl, hov.trans (by repeat (first | with_reducible exact IsOv.refl _ | with_reducible apply IsOv.dr | with_reducible apply IsOv.drewN | with_reducible apply IsOv.drew | with_reducible apply IsOv.alloc | with_reducible apply IsOv.ov))⟩
            · by_cases h5 : 57 < ((s[i]'hi2).toNat : Int)
              · have HV : Hid (numG 0 s.data.toList = none) := Lib.hid (by rw [← hg.out, hd]; unfold numG; rw [if_neg h4, if_pos h5])
                clear hg hd
                go_wp2_with fail
                exact bodyPost_ret (v := .tuple #[.int .i64 0, .bool false]) (by simp [results, Tryd.results34, go_sem, ↓IntWalk.iteOmega]) rfl ⟨by rw [HV.out]; rfl, hov.trans (by repeat (first | with_reducible exact IsOv.refl _ | with_reducible apply IsOv.dr | with_reducible apply IsOv.drewN | with_reducible apply IsOv.drew | with_reducible apply IsOv.alloc | with_reducible apply IsOv.ov))⟩
              · have HV : Hid (numG (if v < 100000000000 then v * 10 + (((s[i]'hi2).toNat : Int) - 48) else v) (s.data.toList.drop (i + 1)) = numG 0 s.data.toList) := Lib.hid (by rw [← hg.out, hd]; conv => rhs; unfold numG; rw [if_neg h4, if_neg h5])
                clear hg hd
                by_cases h6 : v < 100000000000
                · go_wp2_with fail
                  go_roundw
                  case rel => exact ⟨i + 1, v * 10 + (((s[i]'hi2).toNat : Int) - 48), by go_num, by go_num, by omega, by omega, by omega, Lib.hid (by rw [← HV.out, if_pos h6]), hov.trans (by repeat (first | with_reducible exact IsOv.refl _ | with_reducible apply IsOv.dr | with_reducible apply IsOv.drewN | with_reducible apply IsOv.drew | with_reducible apply IsOv.alloc | with_reducible apply IsOv.ov))⟩
                  case measure => simp [intOf]; omega
                · go_wp2_with fail
                  go_roundw
                  case rel => exact ⟨i + 1, v, by go_num, by go_num, by omega, by omega, by omega, Lib.hid (by rw [← HV.out, if_neg h6]), hov.trans (by repeat (first | with_reducible exact IsOv.refl _ | with_reducible apply IsOv.dr | with_reducible apply IsOv.drewN | with_reducible apply IsOv.drew | with_reducible apply IsOv.alloc | with_reducible apply IsOv.ov))⟩
                  case measure => simp [intOf]; omega
          · obtain rfl : i = s.size := by omega
            have HV : Hid (numG 0 s.data.toList = some v) := Lib.hid (by rw [← hg.out, List.drop_eq_nil_of_le (by omega)]; rfl)
            clear hg
            go_wp2_with fail
            exact bodyPost_ret (v := .tuple #[.int .i64 v, .bool true]) (by simp [results, Tryd.results34, go_sem, ↓IntWalk.iteOmega]) rfl ⟨by rw [HV.out]; rfl, hov.trans (by repeat (first | with_reducible exact IsOv.refl _ | with_reducible apply IsOv.dr | with_reducible apply IsOv.drewN | with_reducible apply IsOv.drew | with_reducible apply IsOv.alloc | with_reducible apply IsOv.ov))⟩
end Go.Proofs.YtaibjaienhnckaaDoor
