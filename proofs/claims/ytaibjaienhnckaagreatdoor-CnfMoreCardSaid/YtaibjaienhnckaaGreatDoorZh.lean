/- slices.Grow at a nil slice of numbers, slices.Concat at two slices of numbers. Conditions: 1 to 100000 numbers in all. -/
import Derived.Test.YtaibjaienhnckaaGreatDoorZg
set_option linter.unusedVariables false
set_option linter.unusedSimpArgs false
namespace Go.Proofs.YtaibjaienhnckaaGreatDoor
open Go.RowKit Go.Proofs.YtaibjaienhnckaaGreatDoorW.PrintWords Go.Proofs.YtaibjaienhnckaaGreatDoorW.PrintLast Go.Proofs.YtaibjaienhnckaaGreatDoorW.PrintMore Go.Proofs.YtaibjaienhnckaaGreatDoor.PCnfFollows
/-- An owned row cut to length 0. -/
theorem own_cut0 {w : World} {base g m cap : Nat} {e : TypeId} {xs : List Value} (h : w.ownsRow base e 1 (.slice (some ⟨g, 0, none⟩) m cap) m xs) : w.ownsRow base e 1 (.slice (some ⟨g, 0, none⟩) 0 cap) 0 [] := by
  rcases h.2 with ⟨h1, _⟩ | ⟨g9, cap9, cur, h1, h2, h3, h4, h5, h6, h7⟩
  · cases h1
  · cases h1
    exact ⟨by simp, .inr ⟨g, cap, cur, rfl, h2, h3, Nat.zero_le _, h5, h6, by simp⟩⟩
set_option maxRecDepth 20000 in
set_option maxHeartbeats 1000000 in
theorem Grow_calls (w : World) (n : Nat) (h1 : 1 ≤ n) (hn : n ≤ 100000) :
    Calls Tryz.prog 47 #[.slice none 0 0, .int .i64 (n : Int)] w fun e w' => ∃ v : Value, e = .returned v ∧ Kd.R (Kd.int .i64) 3 w' w.heap.size (fun _ => True) v [] ∧ Below w.heap.size w w' := by
  have HB := Lib.hid (Below.refl w.heap.size w)
  go_enter Tryz.func47, Tryz.ntmps47
  go_wp2_with ((with_reducible refine gate_builtin (b := .append) (xs := #[.tmp 20, .tmp 21]) rfl ?_); at_builtin; go_loud (refine Kd.R_append_zeros (Kd.int .i64) (w0 := w) w.heap.size rfl (.tmp 20) (.tmp 21) 23 3 3 (.int .i64 0) 8 rfl Tryz.underlying23 (k := .i64) Tryz.underlying3 info3 rfl (by decide) (by omega) (.slice none 0 0) [] 0 (n : Int) (fun _ => True) rfl rfl rfl (fun _ _ => trivial) (Kd.R_nil _ _ _ _ _) (by omega) HB.out (Nat.le_refl _) (by simp; omega) ?_; intro v1 w1 ho hb hg hat; have hown := Kd.own_of_R (enc := Value.int .i64) ho; clear ho; obtain ⟨g, cap, rfl⟩ : ∃ g cap, v1 = .slice (some ⟨g, 0, none⟩) ([] ++ List.replicate (n : Int).toNat (0 : Int)).length cap := (by rcases hown.2 with ⟨_, h9⟩ | ⟨g, cap, cur, h9, _⟩; (exfalso; simp at h9; omega); exact ⟨g, cap, h9⟩); have HOW := Lib.hid (own_cut0 hown); have HB1 := Lib.hid hb; clear hown hb hg hat HB))
  exact bodyPost_ret (v := .slice (some ⟨g, 0, none⟩) 0 cap) (by simp [results, Tryz.results47, go_sem, ↓IntWalk.iteOmega]) rfl ⟨_, rfl, Kd.R_of_own (enc := Value.int .i64) (xs := []) HOW.out (fun _ _ => trivial), HB1.out⟩
set_option maxRecDepth 20000 in
set_option maxHeartbeats 1000000 in
theorem Concat_calls (w : World) (A0 : Option Addr) (c0 : Nat) (l : List (List Int)) (hl : Kd.C (Kd.slice 3 (Kd.int .i64)) w A0 l.length l) (hc0 : l.length ≤ c0) (h1 : 1 ≤ l.flatten.length) (hn : l.flatten.length ≤ 100000) (hll : l.length ≤ 1000) :
    Calls Tryz.prog 30 #[.slice A0 l.length c0] w fun e w' => ∃ v : Value, e = .returned v ∧ Kd.R (Kd.int .i64) 3 w' w.heap.size (fun _ => True) v l.flatten ∧ Below w.heap.size w w' := by
  have HLC := Lib.hid hl
  clear hl
  go_enter Tryz.func30, Tryz.ntmps30
  go_wp2_with fail
  go_loopw [3, 11] (fun sv iv w' => ∃ (i m : Nat), sv = .int .i64 (m : Int) ∧ iv = .int .i64 (i : Int) ∧ i ≤ l.length ∧ m + (l.drop i).flatten.length = l.flatten.length ∧ w' = w) (fun sv iv w' => (l.length - intOf iv).toNat)
  case atStart => exact ⟨0, 0, rfl, rfl, Nat.zero_le _, by simp, rfl⟩
  case round =>
    obtain ⟨i, m, rfl, rfl, hi, hm, rfl⟩ := hrel
    by_cases hin : i < l.length
    · obtain ⟨ad, A9, c9, rfl, hx, hc9, hC9⟩ := at_L1 HLC.out (i : Int) (by omega) (by omega)
      have hd := rdL_drop hin
      rw [hd, List.flatten_cons, List.length_append] at hm
      have hxc : _ = some (Value.slice A9 (rd_L1 l i).length c9) := hx
      rw [Int.toNat_natCast] at hxc
      clear hx hd
      generalize rd_L1 l (i : Int) = c at *
      go_wp2_with fail
      go_roundw
      case rel => exact ⟨i + 1, m + c.length, by go_num, by go_num, by omega, by omega, trivial⟩
      case measure => simp [intOf]; omega
    · obtain rfl : i = l.length := by omega
      rw [List.drop_length] at hm
      have hm2 : l.flatten.length = m := by rw [← hm]; rfl
      have HM2 := Lib.hid hm2
      rw [hm2] at h1 hn
      clear hm hm2
      go_wp2_with fail
      refine Calls.mono (Grow_calls _ m h1 hn) ?_
      rintro e w1 ⟨v1, rfl, hr1, hb1⟩
      obtain ⟨A1, cp1, rfl⟩ := Kd.R_slice hr1
      have HR1 := Lib.hid hr1
      have HB1 := Lib.hid hb1
      clear hr1 hb1
      obtain ⟨wr0, hwr0⟩ : ∃ u, u = wr := ⟨_, rfl⟩
      subst hwr0
      go_wp2_with fail
      go_loopw [6, 27] (fun nv iv w' => ∃ (k : Nat) (xs : List Int), iv = .int .i64 (k : Int) ∧ k ≤ l.length ∧ Hid (xs ++ (l.drop k).flatten = l.flatten) ∧ Hid (Kd.R (Kd.int .i64) 3 w' wr0.heap.size (fun _ => True) nv xs) ∧ Hid (Below wr0.heap.size wr0 w')) (fun nv iv w' => (l.length - intOf iv).toNat)
      case atStart => exact ⟨0, [], rfl, Nat.zero_le _, Lib.hid rfl, HR1, HB1⟩
      case round =>
        clear HR1 HB1
        obtain ⟨k, xs, rfl, hk, hxs, HR, HB⟩ := hrel
        by_cases hkn : k < l.length
        · obtain ⟨ad, A9, c9, rfl, hx, hc9, hC9⟩ := at_L1 (Kd.C_below HLC.out HB.out) (k : Int) (by omega) (by omega)
          have hd := rdL_drop hkn
          have hxc : _ = some (Value.slice A9 (rd_L1 l k).length c9) := hx
          rw [Int.toNat_natCast] at hxc
          have hs9 := hxs.out
          rw [hd, List.flatten_cons] at hs9
          clear hx hd hxs
          generalize rd_L1 l (k : Int) = c at *
          have hle : xs.length + c.length ≤ 100000 := by
            have h9 := congrArg List.length hs9
            rw [List.length_append, List.length_append, HM2.out] at h9
            omega
          have HS9 : Hid ((xs ++ c) ++ (l.drop (k + 1)).flatten = l.flatten) := Lib.hid (by rw [List.append_assoc]; exact hs9)
          clear hs9
          go_wp2_with ((with_reducible refine gate_builtin (b := .append) (xs := #[.tmp 31, .tmp 32]) rfl ?_); at_builtin; go_loud (refine Kd.R_append_rows (Kd.int .i64) (w0 := wr0) wr0.heap.size rfl (.tmp 31) (.tmp 32) 23 3 (.int .i64 0) 8 rfl Tryz.underlying23 info3 rfl (by decide) (by omega) u6 xs c _ _ _ (fun _ => True) (fun _ => False) rfl rfl HR.out hC9 (fun _ _ h => h) (fun _ h => h.elim) (fun _ _ => trivial) HB.out (below_size HB.out) (by omega) ?_; intro v9 w9 ho hb hg hat; have HO := Lib.hid ho; have HBB := Lib.hid hb; clear ho hb hg hat HR HB))
          go_roundw
          case rel => exact ⟨k + 1, xs ++ c, by go_num, by omega, HS9, HO, HBB⟩
          case measure => simp [intOf]; omega
        · obtain rfl : k = l.length := by omega
          have HX : Hid (xs = l.flatten) := Lib.hid (by
            have h9 := hxs.out
            rw [List.drop_length] at h9
            simpa using h9)
          obtain ⟨A2, cp2, rfl⟩ := Kd.R_slice HR.out
          clear hxs
          go_wp2_with fail
          exact bodyPost_ret (v := .slice A2 xs.length cp2) (by simp [results, Tryz.results30, go_sem, ↓IntWalk.iteOmega]) rfl ⟨_, rfl, by rw [← HX.out]; exact HR.out, HB.out⟩

end Go.Proofs.YtaibjaienhnckaaGreatDoor
