/- Texts of one proof, put together: Yb Yc. Conditions: as each lemma says. -/
import Derived.Handy
import Derived.Deep.RegionHeld3
import Derived.Deep.LoopGhost
import Derived.Test.YtdimhoilfopndaaGreatDoorA1
set_option linter.unusedVariables false
set_option linter.unusedSimpArgs false
section
namespace Go.Proofs.YtdimhoilfopndaaGreatDoor
open Go.RowKit
theorem while_letter (w : World) (p : Nat) (src : ByteArray) (a n : Nat) (hc0 : w.cell? ⟨p, 0, none⟩ = some (.string src)) (hc1 : w.cell? ⟨p, 1, none⟩ = some (.int .i64 (a : Int))) (hs : src.size ≤ 65536) (hn : a + n ≤ src.size)
  (hall : ∀ (j : Nat) (h : a + j < src.size), j < n → letterB (src[a + j].toNat : Int) = true) (hend : ∀ h : a + n < src.size, letterB (src[a + n].toNat : Int) = false) :
  Says Tryz.prog 47 #[.pointer (some ⟨p, 0, none⟩), .func (.func 51) #[] #[]] w (.int .i64 (n : Int)) := by
 unfold Says
 go_enter Tryz.func47, Tryz.ntmps47
 have Hall := Lib.hid (And.intro hall hend)
 clear hall hend
 go_wp2
 go_loopw [5] (fun i wr => ∃ k : Nat, i = .int .i64 (k : Int) ∧ k ≤ n ∧ IsDr w wr) (fun i wr => (n - intOf i).toNat)
 case atStart => exact ⟨0, rfl, Nat.zero_le _, IsDr.refl _⟩
 case round =>
  obtain ⟨k, rfl, hk, y, rfl⟩ := hrel
  by_cases hlt : a + k < src.size
  ·
   have hge : (0 : Int) ≤ (a : Int) + k := by omega
   have hlt2 : (a : Int) + k < src.size := by omega
   cases hp : letterB (src[a + k].toNat : Int)
   ·
    go_wp2_with (first | (refine wp_region_dr (by kernel_rfl) (by kernel_rfl) ?_; (repeat (go_big_quiet_step (((go_at_call 51; exact (letter_says _ _).quiet))))); refine wpQuiet_nil ?_; rintro _ ⟨nq, rfl⟩))
    have e : k = n := by
     rcases Nat.lt_or_ge k n with h | h
     ·
      have := Hall.out.1 k hlt h
      rw [hp] at this; cases this
     · omega
    subst e
    go_ret
    exact ⟨rfl, by repeat (first | exact IsDr.refl _ | exact IsDr.ov _ _ _ | apply IsDr.dr | apply IsDr.drewN | apply IsDr.drew)⟩
   ·
    go_wp2_with (first | (refine wp_region_dr (by kernel_rfl) (by kernel_rfl) ?_; (repeat (go_big_quiet_step (((go_at_call 51; exact (letter_says _ _).quiet))))); refine wpQuiet_nil ?_; rintro _ ⟨nq, rfl⟩))
    have e : k < n := by
     rcases Nat.lt_or_ge k n with h | h
     · exact h
     ·
      have e2 : k = n := by omega
      subst e2
      have := Hall.out.2 hlt
      rw [hp] at this; cases this
    go_roundw
    case rel => exact ⟨k + 1, by go_num, by omega, by repeat (first | exact IsDr.refl _ | exact IsDr.ov _ _ _ | apply IsDr.dr | apply IsDr.drewN | apply IsDr.drew)⟩
    case measure => simp [intOf]; omega
  ·
   have hge : ¬ (a : Int) + k < src.size := by omega
   obtain rfl : k = n := by omega
   go_wp2_with (first | (refine wp_region_dr (by kernel_rfl) (by kernel_rfl) ?_; (repeat (go_big_quiet_step (((go_at_call 51; exact (letter_says _ _).quiet))))); refine wpQuiet_nil ?_; rintro _ ⟨nq, rfl⟩))
   go_ret
   exact ⟨rfl, by repeat (first | exact IsDr.refl _ | exact IsDr.ov _ _ _ | apply IsDr.dr | apply IsDr.drewN | apply IsDr.drew)⟩
theorem while_space (w : World) (p : Nat) (src : ByteArray) (a n : Nat) (hc0 : w.cell? ⟨p, 0, none⟩ = some (.string src)) (hc1 : w.cell? ⟨p, 1, none⟩ = some (.int .i64 (a : Int))) (hs : src.size ≤ 65536) (hn : a + n ≤ src.size)
  (hall : ∀ (j : Nat) (h : a + j < src.size), j < n → spaceB (src[a + j].toNat : Int) = true) (hend : ∀ h : a + n < src.size, spaceB (src[a + n].toNat : Int) = false) :
  Says Tryz.prog 47 #[.pointer (some ⟨p, 0, none⟩), .func (.func 48) #[] #[]] w (.int .i64 (n : Int)) := by
 unfold Says
 go_enter Tryz.func47, Tryz.ntmps47
 have Hall := Lib.hid (And.intro hall hend)
 clear hall hend
 go_wp2
 go_loopw [5] (fun i wr => ∃ k : Nat, i = .int .i64 (k : Int) ∧ k ≤ n ∧ IsDr w wr) (fun i wr => (n - intOf i).toNat)
 case atStart => exact ⟨0, rfl, Nat.zero_le _, IsDr.refl _⟩
 case round =>
  obtain ⟨k, rfl, hk, y, rfl⟩ := hrel
  by_cases hlt : a + k < src.size
  ·
   have hge : (0 : Int) ≤ (a : Int) + k := by omega
   have hlt2 : (a : Int) + k < src.size := by omega
   cases hp : spaceB (src[a + k].toNat : Int)
   ·
    go_wp2_with (first | (refine wp_region_dr (by kernel_rfl) (by kernel_rfl) ?_; (repeat (go_big_quiet_step (((go_at_call 48; exact (space_says _ _).quiet))))); refine wpQuiet_nil ?_; rintro _ ⟨nq, rfl⟩))
    have e : k = n := by
     rcases Nat.lt_or_ge k n with h | h
     ·
      have := Hall.out.1 k hlt h
      rw [hp] at this; cases this
     · omega
    subst e
    go_ret
    exact ⟨rfl, by repeat (first | exact IsDr.refl _ | exact IsDr.ov _ _ _ | apply IsDr.dr | apply IsDr.drewN | apply IsDr.drew)⟩
   ·
    go_wp2_with (first | (refine wp_region_dr (by kernel_rfl) (by kernel_rfl) ?_; (repeat (go_big_quiet_step (((go_at_call 48; exact (space_says _ _).quiet))))); refine wpQuiet_nil ?_; rintro _ ⟨nq, rfl⟩))
    have e : k < n := by
     rcases Nat.lt_or_ge k n with h | h
     · exact h
     ·
      have e2 : k = n := by omega
      subst e2
      have := Hall.out.2 hlt
      rw [hp] at this; cases this
    go_roundw
    case rel => exact ⟨k + 1, by go_num, by omega, by repeat (first | exact IsDr.refl _ | exact IsDr.ov _ _ _ | apply IsDr.dr | apply IsDr.drewN | apply IsDr.drew)⟩
    case measure => simp [intOf]; omega
  ·
   have hge : ¬ (a : Int) + k < src.size := by omega
   obtain rfl : k = n := by omega
   go_wp2_with (first | (refine wp_region_dr (by kernel_rfl) (by kernel_rfl) ?_; (repeat (go_big_quiet_step (((go_at_call 48; exact (space_says _ _).quiet))))); refine wpQuiet_nil ?_; rintro _ ⟨nq, rfl⟩))
   go_ret
   exact ⟨rfl, by repeat (first | exact IsDr.refl _ | exact IsDr.ov _ _ _ | apply IsDr.dr | apply IsDr.drewN | apply IsDr.drew)⟩
theorem while_line (w : World) (p : Nat) (src : ByteArray) (a n : Nat) (hc0 : w.cell? ⟨p, 0, none⟩ = some (.string src)) (hc1 : w.cell? ⟨p, 1, none⟩ = some (.int .i64 (a : Int))) (hs : src.size ≤ 65536) (hn : a + n ≤ src.size)
  (hall : ∀ (j : Nat) (h : a + j < src.size), j < n → lineB (src[a + j].toNat : Int) = true) (hend : ∀ h : a + n < src.size, lineB (src[a + n].toNat : Int) = false) :
  Says Tryz.prog 47 #[.pointer (some ⟨p, 0, none⟩), .func (.func 50) #[] #[]] w (.int .i64 (n : Int)) := by
 unfold Says
 go_enter Tryz.func47, Tryz.ntmps47
 have Hall := Lib.hid (And.intro hall hend)
 clear hall hend
 go_wp2
 go_loopw [5] (fun i wr => ∃ k : Nat, i = .int .i64 (k : Int) ∧ k ≤ n ∧ IsDr w wr) (fun i wr => (n - intOf i).toNat)
 case atStart => exact ⟨0, rfl, Nat.zero_le _, IsDr.refl _⟩
 case round =>
  obtain ⟨k, rfl, hk, y, rfl⟩ := hrel
  by_cases hlt : a + k < src.size
  ·
   have hge : (0 : Int) ≤ (a : Int) + k := by omega
   have hlt2 : (a : Int) + k < src.size := by omega
   cases hp : lineB (src[a + k].toNat : Int)
   ·
    go_wp2_with (first | (refine wp_region_dr (by kernel_rfl) (by kernel_rfl) ?_; (repeat (go_big_quiet_step (((go_at_call 50; exact (line_says _ _).quiet))))); refine wpQuiet_nil ?_; rintro _ ⟨nq, rfl⟩))
    have e : k = n := by
     rcases Nat.lt_or_ge k n with h | h
     ·
      have := Hall.out.1 k hlt h
      rw [hp] at this; cases this
     · omega
    subst e
    go_ret
    exact ⟨rfl, by repeat (first | exact IsDr.refl _ | exact IsDr.ov _ _ _ | apply IsDr.dr | apply IsDr.drewN | apply IsDr.drew)⟩
   ·
    go_wp2_with (first | (refine wp_region_dr (by kernel_rfl) (by kernel_rfl) ?_; (repeat (go_big_quiet_step (((go_at_call 50; exact (line_says _ _).quiet))))); refine wpQuiet_nil ?_; rintro _ ⟨nq, rfl⟩))
    have e : k < n := by
     rcases Nat.lt_or_ge k n with h | h
     · exact h
     ·
      have e2 : k = n := by omega
      subst e2
      have := Hall.out.2 hlt
      rw [hp] at this; cases this
    go_roundw
    case rel => exact ⟨k + 1, by go_num, by omega, by repeat (first | exact IsDr.refl _ | exact IsDr.ov _ _ _ | apply IsDr.dr | apply IsDr.drewN | apply IsDr.drew)⟩
    case measure => simp [intOf]; omega
  ·
   have hge : ¬ (a : Int) + k < src.size := by omega
   obtain rfl : k = n := by omega
   go_wp2_with (first | (refine wp_region_dr (by kernel_rfl) (by kernel_rfl) ?_; (repeat (go_big_quiet_step (((go_at_call 50; exact (line_says _ _).quiet))))); refine wpQuiet_nil ?_; rintro _ ⟨nq, rfl⟩))
   go_ret
   exact ⟨rfl, by repeat (first | exact IsDr.refl _ | exact IsDr.ov _ _ _ | apply IsDr.dr | apply IsDr.drewN | apply IsDr.drew)⟩
end Go.Proofs.YtdimhoilfopndaaGreatDoor
end
section
namespace Go.Proofs.YtdimhoilfopndaaGreatDoor
open Go.RowKit
def byteAt (src : ByteArray) (i : Nat) : Int := if h : i < src.size then (src[i].toNat : Int) else 0
def stepLC (c : Int) (p : Int × Int) : Int × Int := if c == 10 then (p.1 + 1, 1) else (p.1, p.2 + 1)
def lcI (src : ByteArray) (a : Nat) (p : Int × Int) : Nat → Int × Int
 | 0 => p
 | k + 1 => stepLC (byteAt src (a + k)) (lcI src a p k)
theorem byteAt_lt {src : ByteArray} {i : Nat} (h : i < src.size) : byteAt src i = (src[i].toNat : Int) := by unfold byteAt; rw [dif_pos h]
theorem lcI_range {src : ByteArray} {a : Nat} {line col : Int} (h1 : 1 ≤ line ∧ line ≤ a + 1) (h2 : 1 ≤ col ∧ col ≤ a + 1) : ∀ k : Nat, (1 ≤ (lcI src a (line, col) k).1 ∧ (lcI src a (line, col) k).1 ≤ a + k + 1) ∧ 1 ≤ (lcI src a (line, col) k).2 ∧ (lcI src a (line, col) k).2 ≤ a + k + 1
 | 0 => by simp only [lcI]; omega
 | k + 1 => by
  have ih := lcI_range (src := src) h1 h2 k
  simp only [lcI, stepLC]
  split <;> omega
theorem lcI_add (src : ByteArray) (a : Nat) (p : Int × Int) (k : Nat) : ∀ j : Nat, lcI src (a + k) (lcI src a p k) j = lcI src a p (k + j)
 | 0 => rfl
 | j + 1 => by rw [lcI, lcI_add src a p k j, show k + (j + 1) = (k + j) + 1 by omega, lcI, Nat.add_assoc]
attribute [local go_sem] World.setCell_alloc_ov
theorem move_calls (W : World) (src : ByteArray) (a n : Nat) (line col : Int) (x : Ext) (d0 : Nat) (hs : src.size ≤ 65536) (hn : a + n ≤ src.size) (h1 : 1 ≤ line ∧ line ≤ a + 1) (h2 : 1 ≤ col ∧ col ≤ a + 1) :
  Calls Tryz.prog 28 #[.pointer (some ⟨W.heap.size, 0, none⟩), .int .i64 (n : Int)] (((W.alloc (.cells #[.string src, .int .i64 (a : Int), .int .i64 line, .int .i64 col] 58)).ov x).dr d0) fun e w' => e = .returned (.tuple #[]) ∧ ∃ d, w' = ((W.alloc (.cells #[.string src, .int .i64 ((a + n : Nat) : Int), .int .i64 (lcI src a (line, col) n).1, .int .i64 (lcI src a (line, col) n).2] 58)).ov x).dr d := by
 go_enter Tryz.func28, Tryz.ntmps28
 go_wp2
 go_loopw [5] (fun i wr => ∃ k : Nat, i = .int .i64 (k : Int) ∧ k ≤ n ∧ ∃ d, wr = ((W.alloc (.cells #[.string src, .int .i64 ((a + k : Nat) : Int), .int .i64 (lcI src a (line, col) k).1, .int .i64 (lcI src a (line, col) k).2] 58)).ov x).dr d) (fun i wr => (n - intOf i).toNat)
 case atStart => exact ⟨0, rfl, Nat.zero_le _, d0, rfl⟩
 case round =>
  obtain ⟨k, rfl, hk, d, rfl⟩ := hrel
  have hr := lcI_range (src := src) h1 h2 k
  by_cases hlt : k < n
  ·
   have hin : a + k < src.size := by omega
   generalize hp : lcI src a (line, col) k = p at *
   obtain ⟨pl, pc⟩ := p
   simp only at hr
   have hk1 : (k : Int) < n := by omega
   have hge : (0 : Int) ≤ (a : Int) + k := by omega
   have hlt2 : (a : Int) + k < src.size := by omega
   cases hc : ((src[a + k].toNat : Int) == 10)
   ·
    go_wp2_with (first | (refine wp_region_dr (by kernel_rfl) (by kernel_rfl) ?_; (repeat (go_big_quiet_step ((fail)))); refine wpQuiet_nil ?_; rintro _ ⟨nq, rfl⟩))
    have e : lcI src a (line, col) (k + 1) = (pl, pc + 1) := by simp [lcI, hp, stepLC, byteAt_lt hin, hc]
    refine ⟨⟨k + 1, rfl, by omega, nq, ?_⟩, by simp [intOf]; omega⟩
    rw [e, show ((a + (k + 1) : Nat) : Int) = (a : Int) + k + 1 by omega]
   ·
    go_wp2_with (first | (refine wp_region_dr (by kernel_rfl) (by kernel_rfl) ?_; (repeat (go_big_quiet_step ((fail)))); refine wpQuiet_nil ?_; rintro _ ⟨nq, rfl⟩))
    have e : lcI src a (line, col) (k + 1) = (pl + 1, 1) := by simp [lcI, hp, stepLC, byteAt_lt hin, hc]
    refine ⟨⟨k + 1, rfl, by omega, nq, ?_⟩, by simp [intOf]; omega⟩
    rw [e, show ((a + (k + 1) : Nat) : Int) = (a : Int) + k + 1 by omega]
  ·
   obtain rfl : k = n := by omega
   have hk1 : ¬ (k : Int) < k := by omega
   go_wp2
   go_end0
   exact ⟨rfl, d, rfl⟩
end Go.Proofs.YtdimhoilfopndaaGreatDoor
end
