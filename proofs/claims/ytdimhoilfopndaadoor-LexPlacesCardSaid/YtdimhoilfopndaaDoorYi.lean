/- The lexer's word next: which token it finds. Conditions: the text takes at most 65536 bytes; the lexer stands within it; the tables lie as the program lays them. -/
import Derived.Test.YtdimhoilfopndaaDoorYg
import Derived.Test.YtdimhoilfopndaaDoorYh
set_option linter.unusedVariables false
set_option linter.unusedSimpArgs false
namespace Go.Proofs.YtdimhoilfopndaaDoor
open Go.RowKit
attribute [local go_sem ↓] load_sg
set_option maxHeartbeats 400000 in
theorem next_end (w : World) (p : Nat) (src : ByteArray) (a : Nat) (line col : Int) (hc0 : w.cell? ⟨p, 0, none⟩ = some (.string src)) (hc1 : w.cell? ⟨p, 1, none⟩ = some (.int .i64 (a : Int))) (hc2 : w.cell? ⟨p, 2, none⟩ = some (.int .i64 line)) (hc3 : w.cell? ⟨p, 3, none⟩ = some (.int .i64 col)) (hs : src.size ≤ 65536) (ha : a = src.size) :
    Gives Tryd.prog 22 #[.pointer (some ⟨p, 0, none⟩)] w (.tuple #[.agg #[.int .i64 3, .string ⟨#[]⟩, .int .u64 0, .int .i64 line, .int .i64 col], .int .i64 0]) := by
  have hb : ((a : Int) == (src.size : Int)) = true := by simp [ha]
  clear ha
  have hp : p < w.heap.size := block_lt_of_cell hc0
  have n0 := World.new_ne w _ hc0
  have n1 := World.new_ne w _ hc1
  have n2 := World.new_ne w _ hc2
  have n3 := World.new_ne w _ hc3
  unfold Gives
  go_enter Tryd.func22, Tryd.ntmps22
  go_wp2_with fail
  go_region_held3 (fun w' => w'.cell? ⟨p, 0, none⟩ = some (.string src) ∧ w'.cell? ⟨p, 1, none⟩ = some (.int .i64 (a : Int)) ∧ w'.cell? ⟨p, 2, none⟩ = some (.int .i64 line) ∧ w'.cell? ⟨p, 3, none⟩ = some (.int .i64 col)) (go_keep) (fail)
  go_wp2_with (first | (refine wp_region_dr (by kernel_rfl) (by kernel_rfl) ?_; (repeat (go_big_quiet_step ((fail)))); refine wpQuiet_nil ?_; rintro _ ⟨nq, rfl⟩))
  exact bodyPost_ret (v := .tuple #[.agg #[.int .i64 3, .string ⟨#[]⟩, .int .u64 0, .int .i64 line, .int .i64 col], .int .i64 0]) (by simp [results, Tryd.results22, go_sem, ↓IntWalk.iteOmega]) rfl ⟨rfl, by repeat (first | with_reducible exact IsOv.refl _ | with_reducible apply IsOv.dr | with_reducible apply IsOv.drewN | with_reducible apply IsOv.drew | with_reducible apply IsOv.alloc | with_reducible apply IsOv.ov)⟩
set_option maxHeartbeats 1000000 in
theorem next_name (w : World) (p : Nat) (src : ByteArray) (a : Nat) (line col : Int) (hc0 : w.cell? ⟨p, 0, none⟩ = some (.string src)) (hc1 : w.cell? ⟨p, 1, none⟩ = some (.int .i64 (a : Int))) (hc2 : w.cell? ⟨p, 2, none⟩ = some (.int .i64 line)) (hc3 : w.cell? ⟨p, 3, none⟩ = some (.int .i64 col)) (hs : src.size ≤ 65536) (hL : LaidX w) (n : Nat) (hn : 0 < n) (hsn : spanN letterB src a = n) (ha : a + n ≤ src.size) (hd : digitB (byteAt src a) = false) :
    Gives Tryd.prog 22 #[.pointer (some ⟨p, 0, none⟩)] w (.tuple #[.agg #[.int .i64 0, .string (src.extract a (a + n)), .int .u64 0, .int .i64 line, .int .i64 col], .int .i64 0]) := by
  have hb : ((a : Int) == (src.size : Int)) = false := by rw [beq_eq_false_iff_ne]; omega
  have hn0 : (0 : Int) < n := by omega
  have hi0 : (0 : Int) ≤ (a : Int) := by omega
  have hi1 : (a : Int) ≤ (a : Int) + n := by omega
  have hi2 : (a : Int) + n ≤ src.size := by omega
  have hww : IntKind.i64.wrap ((a : Int) + n) = (a : Int) + n := by rw [IntKind.wrap_i64]; omega
  have hsl : ∀ w' : World, (Instr.slice 9 (.string src) (some (.int .i64 (a : Int))) (some (.int .i64 ((a : Int) + n))) none).run Tryd.prog w' = .ok (.string (src.extract a (a + n))) w' := fun w' => by
    rw [run_slice_string (P := Tryd.prog) (w := w') 9 src .i64 .i64 a (a + n) Tryd.underlying9 hi0 hi1 hi2, Int.toNat_natCast, show ((a : Int) + n).toNat = a + n by omega]
  have hp : p < w.heap.size := block_lt_of_cell hc0
  have n0 := World.new_ne w _ hc0
  have n1 := World.new_ne w _ hc1
  have n2 := World.new_ne w _ hc2
  have n3 := World.new_ne w _ hc3
  unfold Gives
  go_enter Tryd.func22, Tryd.ntmps22
  go_wp2_with fail
  go_region_held3 (fun w' => w'.cell? ⟨p, 0, none⟩ = some (.string src) ∧ w'.cell? ⟨p, 1, none⟩ = some (.int .i64 (a : Int)) ∧ w'.cell? ⟨p, 2, none⟩ = some (.int .i64 line) ∧ w'.cell? ⟨p, 3, none⟩ = some (.int .i64 col)) (go_keep) (fail)
  go_wp2_with (first | (refine wp_region_dr (by kernel_rfl) (by kernel_rfl) ?_; (repeat (go_big_quiet_step ((fail)))); refine wpQuiet_nil ?_; rintro _ ⟨nq, rfl⟩) | (go_at_call 29; refine (while_letter _ p src a n (IsOv.cell (by repeat (first | with_reducible exact IsOv.refl _ | with_reducible apply IsOv.dr | with_reducible apply IsOv.drewN | with_reducible apply IsOv.drew | with_reducible apply IsOv.alloc | with_reducible apply IsOv.ov)) hc0) (IsOv.cell (by repeat (first | with_reducible exact IsOv.refl _ | with_reducible apply IsOv.dr | with_reducible apply IsOv.drewN | with_reducible apply IsOv.drew | with_reducible apply IsOv.alloc | with_reducible apply IsOv.ov)) hc1) hs ha (fun j h hj => spanN_all j h (by rw [hsn]; exact hj)) (fun h => by subst hsn; exact spanN_end (by omega) h)).mono ?_; rintro e w' ⟨rfl, dd, rfl⟩))
  go_region_held3 (fun w' => w'.cell? ⟨p, 0, none⟩ = some (.string src) ∧ w'.cell? ⟨p, 1, none⟩ = some (.int .i64 (a : Int))) (first | exact ⟨IsOv.cell (by repeat (first | with_reducible exact IsOv.refl _ | (with_reducible refine IsOv.setCell ?_ ?_ _; rotate_left; (first | exact Nat.le_refl _ | exact Nat.le_succ _)) | with_reducible apply IsOv.dr | with_reducible apply IsOv.drewN | with_reducible apply IsOv.drew | with_reducible apply IsOv.alloc | with_reducible apply IsOv.ov)) hc0, IsOv.cell (by repeat (first | with_reducible exact IsOv.refl _ | (with_reducible refine IsOv.setCell ?_ ?_ _; rotate_left; (first | exact Nat.le_refl _ | exact Nat.le_succ _)) | with_reducible apply IsOv.dr | with_reducible apply IsOv.drewN | with_reducible apply IsOv.drew | with_reducible apply IsOv.alloc | with_reducible apply IsOv.ov)) hc1⟩ | go_keep) (fail)
  have hts : (src.extract a (a + n)).size = n := by rw [ByteArray.size_extract]; omega
  have htd : ∀ h, digitB (((src.extract a (a + n))[0]'h).toNat : Int) = false := fun h => by
    rw [← hd, byteAt_lt (show a < src.size by omega)]
    congr 2
    rw [ByteArray.getElem_extract]
    congr 1
  generalize he : src.extract a (a + n) = t at *
  have HE := Lib.hid he
  clear he
  have h0t : (0 : Int) < t.size := by omega
  have htd2 := htd (by omega)
  go_wp2_with (first | (refine wp_region_dr (by kernel_rfl) (by kernel_rfl) ?_; (repeat (go_big_quiet_step ((fail)))); refine wpQuiet_nil ?_; rintro _ ⟨nq, rfl⟩) | (go_at_call 26; refine (digit_says _ _).mono ?_; rintro e w' ⟨rfl, x, rfl⟩))
  exact bodyPost_ret (v := .tuple #[.agg #[.int .i64 0, .string t, .int .u64 0, .int .i64 line, .int .i64 col], .int .i64 0]) (by simp [results, Tryd.results22, go_sem, ↓IntWalk.iteOmega]) rfl ⟨by rw [HE.out], by repeat (first | with_reducible exact IsOv.refl _ | (with_reducible refine IsOv.setCell ?_ ?_ _; rotate_left; (first | exact Nat.le_refl _ | exact Nat.le_succ _)) | with_reducible apply IsOv.dr | with_reducible apply IsOv.drewN | with_reducible apply IsOv.drew | with_reducible apply IsOv.alloc | with_reducible apply IsOv.ov)⟩
set_option maxHeartbeats 1000000 in
theorem next_number (w : World) (p : Nat) (src : ByteArray) (a : Nat) (line col : Int) (hc0 : w.cell? ⟨p, 0, none⟩ = some (.string src)) (hc1 : w.cell? ⟨p, 1, none⟩ = some (.int .i64 (a : Int))) (hc2 : w.cell? ⟨p, 2, none⟩ = some (.int .i64 line)) (hc3 : w.cell? ⟨p, 3, none⟩ = some (.int .i64 col)) (hs : src.size ≤ 65536) (hL : LaidX w) (n : Nat) (hn : 0 < n) (hsn : spanN letterB src a = n) (ha : a + n ≤ src.size) (hd : digitB (byteAt src a) = true) (v : Int) (hv : numV (src.extract a (a + n)) = some v) :
    Gives Tryd.prog 22 #[.pointer (some ⟨p, 0, none⟩)] w (.tuple #[.agg #[.int .i64 1, .string (src.extract a (a + n)), .int .u64 v, .int .i64 line, .int .i64 col], .int .i64 0]) := by
  have hb : ((a : Int) == (src.size : Int)) = false := by rw [beq_eq_false_iff_ne]; omega
  have hn0 : (0 : Int) < n := by omega
  have hi0 : (0 : Int) ≤ (a : Int) := by omega
  have hi1 : (a : Int) ≤ (a : Int) + n := by omega
  have hi2 : (a : Int) + n ≤ src.size := by omega
  have hww : IntKind.i64.wrap ((a : Int) + n) = (a : Int) + n := by rw [IntKind.wrap_i64]; omega
  have hsl : ∀ w' : World, (Instr.slice 9 (.string src) (some (.int .i64 (a : Int))) (some (.int .i64 ((a : Int) + n))) none).run Tryd.prog w' = .ok (.string (src.extract a (a + n))) w' := fun w' => by
    rw [run_slice_string (P := Tryd.prog) (w := w') 9 src .i64 .i64 a (a + n) Tryd.underlying9 hi0 hi1 hi2, Int.toNat_natCast, show ((a : Int) + n).toNat = a + n by omega]
  have hp : p < w.heap.size := block_lt_of_cell hc0
  have n0 := World.new_ne w _ hc0
  have n1 := World.new_ne w _ hc1
  have n2 := World.new_ne w _ hc2
  have n3 := World.new_ne w _ hc3
  unfold Gives
  go_enter Tryd.func22, Tryd.ntmps22
  go_wp2_with fail
  go_region_held3 (fun w' => w'.cell? ⟨p, 0, none⟩ = some (.string src) ∧ w'.cell? ⟨p, 1, none⟩ = some (.int .i64 (a : Int)) ∧ w'.cell? ⟨p, 2, none⟩ = some (.int .i64 line) ∧ w'.cell? ⟨p, 3, none⟩ = some (.int .i64 col)) (go_keep) (fail)
  go_wp2_with (first | (refine wp_region_dr (by kernel_rfl) (by kernel_rfl) ?_; (repeat (go_big_quiet_step ((fail)))); refine wpQuiet_nil ?_; rintro _ ⟨nq, rfl⟩) | (go_at_call 29; refine (while_letter _ p src a n (IsOv.cell (by repeat (first | with_reducible exact IsOv.refl _ | with_reducible apply IsOv.dr | with_reducible apply IsOv.drewN | with_reducible apply IsOv.drew | with_reducible apply IsOv.alloc | with_reducible apply IsOv.ov)) hc0) (IsOv.cell (by repeat (first | with_reducible exact IsOv.refl _ | with_reducible apply IsOv.dr | with_reducible apply IsOv.drewN | with_reducible apply IsOv.drew | with_reducible apply IsOv.alloc | with_reducible apply IsOv.ov)) hc1) hs ha (fun j h hj => spanN_all j h (by rw [hsn]; exact hj)) (fun h => by subst hsn; exact spanN_end (by omega) h)).mono ?_; rintro e w' ⟨rfl, dd, rfl⟩))
  go_region_held3 (fun w' => w'.cell? ⟨p, 0, none⟩ = some (.string src) ∧ w'.cell? ⟨p, 1, none⟩ = some (.int .i64 (a : Int))) (first | exact ⟨IsOv.cell (by repeat (first | with_reducible exact IsOv.refl _ | (with_reducible refine IsOv.setCell ?_ ?_ _; rotate_left; (first | exact Nat.le_refl _ | exact Nat.le_succ _)) | with_reducible apply IsOv.dr | with_reducible apply IsOv.drewN | with_reducible apply IsOv.drew | with_reducible apply IsOv.alloc | with_reducible apply IsOv.ov)) hc0, IsOv.cell (by repeat (first | with_reducible exact IsOv.refl _ | (with_reducible refine IsOv.setCell ?_ ?_ _; rotate_left; (first | exact Nat.le_refl _ | exact Nat.le_succ _)) | with_reducible apply IsOv.dr | with_reducible apply IsOv.drewN | with_reducible apply IsOv.drew | with_reducible apply IsOv.alloc | with_reducible apply IsOv.ov)) hc1⟩ | go_keep) (fail)
  have hts : (src.extract a (a + n)).size = n := by rw [ByteArray.size_extract]; omega
  have htd : ∀ h, digitB (((src.extract a (a + n))[0]'h).toNat : Int) = true := fun h => by
    rw [← hd, byteAt_lt (show a < src.size by omega)]
    congr 2
    rw [ByteArray.getElem_extract]
    congr 1
  generalize he : src.extract a (a + n) = t at *
  have HE := Lib.hid he
  clear he
  have h0t : (0 : Int) < t.size := by omega
  have htd2 := htd (by omega)
  have hv0 := Lib.hid hv
  clear hv
  go_wp2_with (first | (refine wp_region_dr (by kernel_rfl) (by kernel_rfl) ?_; (repeat (go_big_quiet_step ((fail)))); refine wpQuiet_nil ?_; rintro _ ⟨nq, rfl⟩) | (go_at_call 26; refine (digit_says _ _).mono ?_; rintro e w' ⟨rfl, x, rfl⟩) | (go_at_call 8; refine (Number_gives _ _ (hL.of_isOv (by repeat (first | with_reducible exact IsOv.refl _ | with_reducible apply IsOv.dr | with_reducible apply IsOv.drewN | with_reducible apply IsOv.drew | with_reducible apply IsOv.alloc | with_reducible apply IsOv.ov))) (by omega)).mono ?_; rintro e w' ⟨rfl, x, rfl⟩; rw [hv0.out]; dsimp only [Option.getD, Option.isSome]))
  exact bodyPost_ret (v := .tuple #[.agg #[.int .i64 1, .string t, .int .u64 v, .int .i64 line, .int .i64 col], .int .i64 0]) (by simp [results, Tryd.results22, go_sem, ↓IntWalk.iteOmega]) rfl ⟨by rw [HE.out], by repeat (first | with_reducible exact IsOv.refl _ | (with_reducible refine IsOv.setCell ?_ ?_ _; rotate_left; (first | exact Nat.le_refl _ | exact Nat.le_succ _)) | with_reducible apply IsOv.dr | with_reducible apply IsOv.drewN | with_reducible apply IsOv.drew | with_reducible apply IsOv.alloc | with_reducible apply IsOv.ov)⟩
set_option maxHeartbeats 1000000 in
theorem next_bad (w : World) (p : Nat) (src : ByteArray) (a : Nat) (line col : Int) (hc0 : w.cell? ⟨p, 0, none⟩ = some (.string src)) (hc1 : w.cell? ⟨p, 1, none⟩ = some (.int .i64 (a : Int))) (hc2 : w.cell? ⟨p, 2, none⟩ = some (.int .i64 line)) (hc3 : w.cell? ⟨p, 3, none⟩ = some (.int .i64 col)) (hs : src.size ≤ 65536) (hL : LaidX w) (n : Nat) (hn : 0 < n) (hsn : spanN letterB src a = n) (ha : a + n ≤ src.size) (hd : digitB (byteAt src a) = true) (hv : numV (src.extract a (a + n)) = none) :
    Gives Tryd.prog 22 #[.pointer (some ⟨p, 0, none⟩)] w (.tuple #[.agg #[.int .i64 0, .string (src.extract a (a + n)), .int .u64 0, .int .i64 line, .int .i64 col], .int .i64 21]) := by
  have hb : ((a : Int) == (src.size : Int)) = false := by rw [beq_eq_false_iff_ne]; omega
  have hn0 : (0 : Int) < n := by omega
  have hi0 : (0 : Int) ≤ (a : Int) := by omega
  have hi1 : (a : Int) ≤ (a : Int) + n := by omega
  have hi2 : (a : Int) + n ≤ src.size := by omega
  have hww : IntKind.i64.wrap ((a : Int) + n) = (a : Int) + n := by rw [IntKind.wrap_i64]; omega
  have hsl : ∀ w' : World, (Instr.slice 9 (.string src) (some (.int .i64 (a : Int))) (some (.int .i64 ((a : Int) + n))) none).run Tryd.prog w' = .ok (.string (src.extract a (a + n))) w' := fun w' => by
    rw [run_slice_string (P := Tryd.prog) (w := w') 9 src .i64 .i64 a (a + n) Tryd.underlying9 hi0 hi1 hi2, Int.toNat_natCast, show ((a : Int) + n).toNat = a + n by omega]
  have hp : p < w.heap.size := block_lt_of_cell hc0
  have n0 := World.new_ne w _ hc0
  have n1 := World.new_ne w _ hc1
  have n2 := World.new_ne w _ hc2
  have n3 := World.new_ne w _ hc3
  unfold Gives
  go_enter Tryd.func22, Tryd.ntmps22
  go_wp2_with fail
  go_region_held3 (fun w' => w'.cell? ⟨p, 0, none⟩ = some (.string src) ∧ w'.cell? ⟨p, 1, none⟩ = some (.int .i64 (a : Int)) ∧ w'.cell? ⟨p, 2, none⟩ = some (.int .i64 line) ∧ w'.cell? ⟨p, 3, none⟩ = some (.int .i64 col)) (go_keep) (fail)
  go_wp2_with (first | (refine wp_region_dr (by kernel_rfl) (by kernel_rfl) ?_; (repeat (go_big_quiet_step ((fail)))); refine wpQuiet_nil ?_; rintro _ ⟨nq, rfl⟩) | (go_at_call 29; refine (while_letter _ p src a n (IsOv.cell (by repeat (first | with_reducible exact IsOv.refl _ | with_reducible apply IsOv.dr | with_reducible apply IsOv.drewN | with_reducible apply IsOv.drew | with_reducible apply IsOv.alloc | with_reducible apply IsOv.ov)) hc0) (IsOv.cell (by repeat (first | with_reducible exact IsOv.refl _ | with_reducible apply IsOv.dr | with_reducible apply IsOv.drewN | with_reducible apply IsOv.drew | with_reducible apply IsOv.alloc | with_reducible apply IsOv.ov)) hc1) hs ha (fun j h hj => spanN_all j h (by rw [hsn]; exact hj)) (fun h => by subst hsn; exact spanN_end (by omega) h)).mono ?_; rintro e w' ⟨rfl, dd, rfl⟩))
  go_region_held3 (fun w' => w'.cell? ⟨p, 0, none⟩ = some (.string src) ∧ w'.cell? ⟨p, 1, none⟩ = some (.int .i64 (a : Int))) (first | exact ⟨IsOv.cell (by repeat (first | with_reducible exact IsOv.refl _ | (with_reducible refine IsOv.setCell ?_ ?_ _; rotate_left; (first | exact Nat.le_refl _ | exact Nat.le_succ _)) | with_reducible apply IsOv.dr | with_reducible apply IsOv.drewN | with_reducible apply IsOv.drew | with_reducible apply IsOv.alloc | with_reducible apply IsOv.ov)) hc0, IsOv.cell (by repeat (first | with_reducible exact IsOv.refl _ | (with_reducible refine IsOv.setCell ?_ ?_ _; rotate_left; (first | exact Nat.le_refl _ | exact Nat.le_succ _)) | with_reducible apply IsOv.dr | with_reducible apply IsOv.drewN | with_reducible apply IsOv.drew | with_reducible apply IsOv.alloc | with_reducible apply IsOv.ov)) hc1⟩ | go_keep) (fail)
  have hts : (src.extract a (a + n)).size = n := by rw [ByteArray.size_extract]; omega
  have htd : ∀ h, digitB (((src.extract a (a + n))[0]'h).toNat : Int) = true := fun h => by
    rw [← hd, byteAt_lt (show a < src.size by omega)]
    congr 2
    rw [ByteArray.getElem_extract]
    congr 1
  generalize he : src.extract a (a + n) = t at *
  have HE := Lib.hid he
  clear he
  have h0t : (0 : Int) < t.size := by omega
  have htd2 := htd (by omega)
  have hv0 := Lib.hid hv
  clear hv
  go_wp2_with (first | (refine wp_region_dr (by kernel_rfl) (by kernel_rfl) ?_; (repeat (go_big_quiet_step ((fail)))); refine wpQuiet_nil ?_; rintro _ ⟨nq, rfl⟩) | (go_at_call 26; refine (digit_says _ _).mono ?_; rintro e w' ⟨rfl, x, rfl⟩) | (go_at_call 8; refine (Number_gives _ _ (hL.of_isOv (by repeat (first | with_reducible exact IsOv.refl _ | with_reducible apply IsOv.dr | with_reducible apply IsOv.drewN | with_reducible apply IsOv.drew | with_reducible apply IsOv.alloc | with_reducible apply IsOv.ov))) (by omega)).mono ?_; rintro e w' ⟨rfl, x, rfl⟩; rw [hv0.out]; dsimp only [Option.getD, Option.isSome]))
  exact bodyPost_ret (v := .tuple #[.agg #[.int .i64 0, .string t, .int .u64 0, .int .i64 line, .int .i64 col], .int .i64 21]) (by simp [results, Tryd.results22, go_sem, ↓IntWalk.iteOmega]) rfl ⟨by rw [HE.out], by repeat (first | with_reducible exact IsOv.refl _ | (with_reducible refine IsOv.setCell ?_ ?_ _; rotate_left; (first | exact Nat.le_refl _ | exact Nat.le_succ _)) | with_reducible apply IsOv.dr | with_reducible apply IsOv.drewN | with_reducible apply IsOv.drew | with_reducible apply IsOv.alloc | with_reducible apply IsOv.ov)⟩
end Go.Proofs.YtdimhoilfopndaaDoor
