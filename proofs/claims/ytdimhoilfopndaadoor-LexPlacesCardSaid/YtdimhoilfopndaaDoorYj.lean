/- The lexer's word next where no name and no number stands: which sign it finds, or none. Conditions: the text takes at most 65536 bytes; the lexer stands within it; the tables lie as the program lays them. -/
import Derived.Test.YtdimhoilfopndaaDoorYi
import Derived.Test.YtdimhoilfopndaaDoorYk
set_option linter.unusedVariables false
set_option linter.unusedSimpArgs false
namespace Go.Proofs.YtdimhoilfopndaaDoor
open Go.RowKit
attribute [local go_sem ↓] load_sg
theorem sgFind_some {l : List UInt8} {k : Nat} (hk : k < 29) (hall : ∀ j, j < k → Lib.hasPrefix l (sgL.getD j []) = false) (h : Lib.hasPrefix l (sgL.getD k []) = true) : sgFind l = some k := by
  cases hc : sgFind l with
  | none => have := sgFindI_none hc k (Nat.zero_le _) (by omega); rw [h] at this; cases this
  | some j =>
    have h1 := sgFindI_some hc
    congr 1
    rcases Nat.lt_trichotomy j k with h2 | h2 | h2
    · have := hall j h2; rw [h1.2.2] at this; cases this
    · exact h2
    · have := sgFindI_before hc k (Nat.zero_le _) h2; rw [h] at this; cases this
theorem sgFind_none {l : List UInt8} (hall : ∀ j, j < 29 → Lib.hasPrefix l (sgL.getD j []) = false) : sgFind l = none := by
  cases hc : sgFind l with
  | none => rfl
  | some j =>
    have h1 := sgFindI_some hc
    have := hall j (by omega); rw [h1.2.2] at this; cases this
/-- What next answers where a sign may stand. -/
def signV (r : Option Nat) (line col : Int) : Value :=
  match r with
  | some i => .tuple #[.agg #[.int .i64 2, .string (sgAt i), .int .u64 0, .int .i64 line, .int .i64 col], .int .i64 0]
  | none => .tuple #[.agg #[.int .i64 3, .string ⟨#[]⟩, .int .u64 0, .int .i64 line, .int .i64 col], .int .i64 20]
set_option maxHeartbeats 1000000 in
theorem next_sign (w : World) (p : Nat) (src : ByteArray) (a : Nat) (line col : Int) (hc0 : w.cell? ⟨p, 0, none⟩ = some (.string src)) (hc1 : w.cell? ⟨p, 1, none⟩ = some (.int .i64 (a : Int))) (hc2 : w.cell? ⟨p, 2, none⟩ = some (.int .i64 line)) (hc3 : w.cell? ⟨p, 3, none⟩ = some (.int .i64 col)) (hs : src.size ≤ 65536) (hL : LaidX w) (hsn : spanN letterB src a = 0) (ha : a < src.size) :
    Gives Tryd.prog 22 #[.pointer (some ⟨p, 0, none⟩)] w (signV (sgFind (src.data.toList.drop a)) line col) := by
  have hb : ((a : Int) == (src.size : Int)) = false := by rw [beq_eq_false_iff_ne]; omega
  have hi0 : (0 : Int) ≤ (a : Int) := by omega
  have hi2 : (a : Int) ≤ src.size := by omega
  have hp : p < w.heap.size := block_lt_of_cell hc0
  have n0 := World.new_ne w _ hc0
  have n1 := World.new_ne w _ hc1
  have n2 := World.new_ne w _ hc2
  have n3 := World.new_ne w _ hc3
  unfold Gives
  go_enter Tryd.func22, Tryd.ntmps22
  go_wp2_with fail
  go_region_held3 (fun w' => w'.cell? ⟨p, 0, none⟩ = some (.string src) ∧ w'.cell? ⟨p, 1, none⟩ = some (.int .i64 (a : Int)) ∧ w'.cell? ⟨p, 2, none⟩ = some (.int .i64 line) ∧ w'.cell? ⟨p, 3, none⟩ = some (.int .i64 col)) (go_keep) (fail)
  go_wp2_with (first | (refine wp_region_dr (by kernel_rfl) (by kernel_rfl) ?_; (repeat (go_big_quiet_step ((fail)))); refine wpQuiet_nil ?_; rintro _ ⟨nq, rfl⟩) | (go_at_call 29; refine (while_letter _ p src a 0 (IsOv.cell (by repeat (first | with_reducible exact IsOv.refl _ | with_reducible apply IsOv.dr | with_reducible apply IsOv.drewN | with_reducible apply IsOv.drew | with_reducible apply IsOv.alloc | with_reducible apply IsOv.ov)) hc0) (IsOv.cell (by repeat (first | with_reducible exact IsOv.refl _ | with_reducible apply IsOv.dr | with_reducible apply IsOv.drewN | with_reducible apply IsOv.drew | with_reducible apply IsOv.alloc | with_reducible apply IsOv.ov)) hc1) hs (by omega) (fun j h hj => spanN_all j h (by rw [hsn]; exact hj)) (fun h => by have := spanN_end (p := letterB) (show a ≤ src.size by omega) (by rw [hsn]; exact h); simpa [hsn] using this)).mono ?_; rintro e w' ⟨rfl, dd, hw⟩; simp only [World.dr_dr] at hw; have hL2 : LaidX w' := hL.of_isOv (by rw [hw]; repeat (first | with_reducible exact IsOv.refl _ | with_reducible apply IsOv.dr | with_reducible apply IsOv.drewN | with_reducible apply IsOv.drew | with_reducible apply IsOv.alloc | with_reducible apply IsOv.ov)); subst hw))
  go_loopw [69] (fun i wr => ∃ k d : Nat, i = .int .i64 (k : Int) ∧ k ≤ 29 ∧ Hid (∀ j, j < k → Lib.hasPrefix (src.data.toList.drop a) (sgL.getD j []) = false) ∧ wr = (((w.alloc (.cells #[.int .i64 0, .string ⟨#[]⟩, .int .u64 0, .int .i64 0, .int .i64 0] 36)).alloc (.cells #[.int .i64 3, .string ⟨#[]⟩, .int .u64 0, .int .i64 line, .int .i64 col] 36)).drew).dr d) (fun i wr => (29 - intOf i).toNat)
  case atStart => exact ⟨0, _, rfl, Nat.zero_le _, fun j hj => absurd hj (Nat.not_lt_zero _), rfl⟩
  case round =>
    obtain ⟨k, d, rfl, hk, hall, rfl⟩ := hrel
    by_cases hlt : k < 29
    · have hi := sg_index k hlt
      have hlt2 : (k : Int) < 29 := by omega
      cases hc : Lib.hasPrefix (src.data.toList.drop a) (sgL.getD k [])
      · have H2 : Hid (∀ j, j < k + 1 → Lib.hasPrefix (src.data.toList.drop a) (sgL.getD j []) = false) := Lib.hid fun j hj => by
          rcases Nat.lt_or_ge j k with h1 | h1
          · exact hall.out j h1
          · have : j = k := by omega
            subst this; exact hc
        have hsay : ∀ w', Says Tryd.prog 31 #[.string (src.extract a src.size), .string (sgAt k)] w' (.bool false) := fun w' => by
          have := prefix_says src (sgAt k) a w'
          rwa [show Lib.hasPrefix (src.data.toList.drop a) (sgAt k).data.toList = false from hc] at this
        clear hc hall
        go_wp2_with (first | (refine wp_region_dr (by kernel_rfl) (by kernel_rfl) ?_; (repeat (go_big_quiet_step (((go_at_call 31; exact (hsay _).quiet))))); refine wpQuiet_nil ?_; rintro _ ⟨nq, rfl⟩))
        go_roundw
        case rel => exact ⟨k + 1, _, by go_num, by omega, H2, rfl⟩
        case measure => simp [intOf]; omega
      · have HV := Lib.hid (sgFind_some hlt hall.out hc)
        have hsay : ∀ w', Says Tryd.prog 31 #[.string (src.extract a src.size), .string (sgAt k)] w' (.bool true) := fun w' => by
          have := prefix_says src (sgAt k) a w'
          rwa [show Lib.hasPrefix (src.data.toList.drop a) (sgAt k).data.toList = true from hc] at this
        clear hc hall
        go_wp2_with (first | (refine wp_region_dr (by kernel_rfl) (by kernel_rfl) ?_; (repeat (go_big_quiet_step (((go_at_call 31; exact (hsay _).quiet))))); refine wpQuiet_nil ?_; rintro _ ⟨nq, rfl⟩))
        exact bodyPost_ret (v := .tuple #[.agg #[.int .i64 2, .string (sgAt k), .int .u64 0, .int .i64 line, .int .i64 col], .int .i64 0]) (by simp [results, Tryd.results22, go_sem, ↓IntWalk.iteOmega]) rfl ⟨by rw [HV.out]; rfl, by repeat (first | with_reducible exact IsOv.refl _ | (with_reducible refine IsOv.setCell ?_ ?_ _; rotate_left; (first | exact Nat.le_refl _ | exact Nat.le_succ _)) | with_reducible apply IsOv.dr | with_reducible apply IsOv.drewN | with_reducible apply IsOv.drew | with_reducible apply IsOv.alloc | with_reducible apply IsOv.ov)⟩
    · obtain rfl : k = 29 := by omega
      have HV := Lib.hid (sgFind_none hall.out)
      clear hall
      go_wp2_with fail
      exact bodyPost_ret (v := .tuple #[.agg #[.int .i64 3, .string ⟨#[]⟩, .int .u64 0, .int .i64 line, .int .i64 col], .int .i64 20]) (by simp [results, Tryd.results22, go_sem, ↓IntWalk.iteOmega]) rfl ⟨by rw [HV.out]; rfl, by repeat (first | with_reducible exact IsOv.refl _ | (with_reducible refine IsOv.setCell ?_ ?_ _; rotate_left; (first | exact Nat.le_refl _ | exact Nat.le_succ _)) | with_reducible apply IsOv.dr | with_reducible apply IsOv.drewN | with_reducible apply IsOv.drew | with_reducible apply IsOv.alloc | with_reducible apply IsOv.ov)⟩
end Go.Proofs.YtdimhoilfopndaaDoor
