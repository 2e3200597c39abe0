/- The lexer's words while, move and skip: what each answers and where it goes. Conditions: the text takes at most 65536 bytes; the lexer stands within it. -/
import Derived.Test.YtdimhoilfopndaaDoorYa
import Derived.Handy
import Derived.Deep.RegionHeld3
import Derived.Deep.LoopGhost
set_option linter.unusedVariables false
set_option linter.unusedSimpArgs false
namespace Go.Proofs.YtdimhoilfopndaaDoor
open Go.RowKit
/-- while, handed letter: how many bytes from here on are so. -/
theorem while_letter (w : World) (p : Nat) (src : ByteArray) (a n : Nat) (hc0 : w.cell? ⟨p, 0, none⟩ = some (.string src)) (hc1 : w.cell? ⟨p, 1, none⟩ = some (.int .i64 (a : Int))) (hs : src.size ≤ 65536) (hn : a + n ≤ src.size)
    (hall : ∀ (j : Nat) (h : a + j < src.size), j < n → letterB (src[a + j].toNat : Int) = true) (hend : ∀ h : a + n < src.size, letterB (src[a + n].toNat : Int) = false) :
    Says Tryd.prog 29 #[.pointer (some ⟨p, 0, none⟩), .func (.func 18) #[] #[]] w (.int .i64 (n : Int)) := by
  unfold Says
  go_enter Tryd.func29, Tryd.ntmps29
  have Hall := Lib.hid (And.intro hall hend)
  clear hall hend
  go_wp2
  go_loopw [5] (fun i wr => ∃ k : Nat, i = .int .i64 (k : Int) ∧ k ≤ n ∧ IsDr w wr) (fun i wr => (n - intOf i).toNat)
  case atStart => exact ⟨0, rfl, Nat.zero_le _, IsDr.refl _⟩
  case round =>
    obtain ⟨k, rfl, hk, y, rfl⟩ := hrel
    by_cases hlt : a + k < src.size
    · have hge : (0 : Int) ≤ (a : Int) + k := by omega
      have hlt2 : (a : Int) + k < src.size := by omega
      cases hp : letterB (src[a + k].toNat : Int)
      · go_wp2_with (first | (refine wp_region_dr (by kernel_rfl) (by kernel_rfl) ?_; (repeat (go_big_quiet_step (((go_at_call 18; exact (letter_says _ _).quiet))))); refine wpQuiet_nil ?_; rintro _ ⟨nq, rfl⟩))
        have e : k = n := by
          rcases Nat.lt_or_ge k n with h | h
          · have := Hall.out.1 k hlt h
            rw [hp] at this; cases this
          · omega
        subst e
        go_ret
        exact ⟨rfl, by repeat (first | exact IsDr.refl _ | exact IsDr.ov _ _ _ | apply IsDr.dr | apply IsDr.drewN | apply IsDr.drew)⟩
      · go_wp2_with (first | (refine wp_region_dr (by kernel_rfl) (by kernel_rfl) ?_; (repeat (go_big_quiet_step (((go_at_call 18; exact (letter_says _ _).quiet))))); refine wpQuiet_nil ?_; rintro _ ⟨nq, rfl⟩))
        have e : k < n := by
          rcases Nat.lt_or_ge k n with h | h
          · exact h
          · have e2 : k = n := by omega
            subst e2
            have := Hall.out.2 hlt
            rw [hp] at this; cases this
        go_roundw
        case rel => exact ⟨k + 1, by go_num, by omega, by repeat (first | exact IsDr.refl _ | exact IsDr.ov _ _ _ | apply IsDr.dr | apply IsDr.drewN | apply IsDr.drew)⟩
        case measure => simp [intOf]; omega
    · have hge : ¬ (a : Int) + k < src.size := by omega
      obtain rfl : k = n := by omega
      go_wp2_with (first | (refine wp_region_dr (by kernel_rfl) (by kernel_rfl) ?_; (repeat (go_big_quiet_step (((go_at_call 18; exact (letter_says _ _).quiet))))); refine wpQuiet_nil ?_; rintro _ ⟨nq, rfl⟩))
      go_ret
      exact ⟨rfl, by repeat (first | exact IsDr.refl _ | exact IsDr.ov _ _ _ | apply IsDr.dr | apply IsDr.drewN | apply IsDr.drew)⟩
/-- while, handed space: how many bytes from here on are so. -/
theorem while_space (w : World) (p : Nat) (src : ByteArray) (a n : Nat) (hc0 : w.cell? ⟨p, 0, none⟩ = some (.string src)) (hc1 : w.cell? ⟨p, 1, none⟩ = some (.int .i64 (a : Int))) (hs : src.size ≤ 65536) (hn : a + n ≤ src.size)
    (hall : ∀ (j : Nat) (h : a + j < src.size), j < n → spaceB (src[a + j].toNat : Int) = true) (hend : ∀ h : a + n < src.size, spaceB (src[a + n].toNat : Int) = false) :
    Says Tryd.prog 29 #[.pointer (some ⟨p, 0, none⟩), .func (.func 30) #[] #[]] w (.int .i64 (n : Int)) := by
  unfold Says
  go_enter Tryd.func29, Tryd.ntmps29
  have Hall := Lib.hid (And.intro hall hend)
  clear hall hend
  go_wp2
  go_loopw [5] (fun i wr => ∃ k : Nat, i = .int .i64 (k : Int) ∧ k ≤ n ∧ IsDr w wr) (fun i wr => (n - intOf i).toNat)
  case atStart => exact ⟨0, rfl, Nat.zero_le _, IsDr.refl _⟩
  case round =>
    obtain ⟨k, rfl, hk, y, rfl⟩ := hrel
    by_cases hlt : a + k < src.size
    · have hge : (0 : Int) ≤ (a : Int) + k := by omega
      have hlt2 : (a : Int) + k < src.size := by omega
      cases hp : spaceB (src[a + k].toNat : Int)
      · go_wp2_with (first | (refine wp_region_dr (by kernel_rfl) (by kernel_rfl) ?_; (repeat (go_big_quiet_step (((go_at_call 30; exact (space_says _ _).quiet))))); refine wpQuiet_nil ?_; rintro _ ⟨nq, rfl⟩))
        have e : k = n := by
          rcases Nat.lt_or_ge k n with h | h
          · have := Hall.out.1 k hlt h
            rw [hp] at this; cases this
          · omega
        subst e
        go_ret
        exact ⟨rfl, by repeat (first | exact IsDr.refl _ | exact IsDr.ov _ _ _ | apply IsDr.dr | apply IsDr.drewN | apply IsDr.drew)⟩
      · go_wp2_with (first | (refine wp_region_dr (by kernel_rfl) (by kernel_rfl) ?_; (repeat (go_big_quiet_step (((go_at_call 30; exact (space_says _ _).quiet))))); refine wpQuiet_nil ?_; rintro _ ⟨nq, rfl⟩))
        have e : k < n := by
          rcases Nat.lt_or_ge k n with h | h
          · exact h
          · have e2 : k = n := by omega
            subst e2
            have := Hall.out.2 hlt
            rw [hp] at this; cases this
        go_roundw
        case rel => exact ⟨k + 1, by go_num, by omega, by repeat (first | exact IsDr.refl _ | exact IsDr.ov _ _ _ | apply IsDr.dr | apply IsDr.drewN | apply IsDr.drew)⟩
        case measure => simp [intOf]; omega
    · have hge : ¬ (a : Int) + k < src.size := by omega
      obtain rfl : k = n := by omega
      go_wp2_with (first | (refine wp_region_dr (by kernel_rfl) (by kernel_rfl) ?_; (repeat (go_big_quiet_step (((go_at_call 30; exact (space_says _ _).quiet))))); refine wpQuiet_nil ?_; rintro _ ⟨nq, rfl⟩))
      go_ret
      exact ⟨rfl, by repeat (first | exact IsDr.refl _ | exact IsDr.ov _ _ _ | apply IsDr.dr | apply IsDr.drewN | apply IsDr.drew)⟩
/-- while, handed line: how many bytes from here on are so. -/
theorem while_line (w : World) (p : Nat) (src : ByteArray) (a n : Nat) (hc0 : w.cell? ⟨p, 0, none⟩ = some (.string src)) (hc1 : w.cell? ⟨p, 1, none⟩ = some (.int .i64 (a : Int))) (hs : src.size ≤ 65536) (hn : a + n ≤ src.size)
    (hall : ∀ (j : Nat) (h : a + j < src.size), j < n → lineB (src[a + j].toNat : Int) = true) (hend : ∀ h : a + n < src.size, lineB (src[a + n].toNat : Int) = false) :
    Says Tryd.prog 29 #[.pointer (some ⟨p, 0, none⟩), .func (.func 32) #[] #[]] w (.int .i64 (n : Int)) := by
  unfold Says
  go_enter Tryd.func29, Tryd.ntmps29
  have Hall := Lib.hid (And.intro hall hend)
  clear hall hend
  go_wp2
  go_loopw [5] (fun i wr => ∃ k : Nat, i = .int .i64 (k : Int) ∧ k ≤ n ∧ IsDr w wr) (fun i wr => (n - intOf i).toNat)
  case atStart => exact ⟨0, rfl, Nat.zero_le _, IsDr.refl _⟩
  case round =>
    obtain ⟨k, rfl, hk, y, rfl⟩ := hrel
    by_cases hlt : a + k < src.size
    · have hge : (0 : Int) ≤ (a : Int) + k := by omega
      have hlt2 : (a : Int) + k < src.size := by omega
      cases hp : lineB (src[a + k].toNat : Int)
      · go_wp2_with (first | (refine wp_region_dr (by kernel_rfl) (by kernel_rfl) ?_; (repeat (go_big_quiet_step (((go_at_call 32; exact (line_says _ _).quiet))))); refine wpQuiet_nil ?_; rintro _ ⟨nq, rfl⟩))
        have e : k = n := by
          rcases Nat.lt_or_ge k n with h | h
          · have := Hall.out.1 k hlt h
            rw [hp] at this; cases this
          · omega
        subst e
        go_ret
        exact ⟨rfl, by repeat (first | exact IsDr.refl _ | exact IsDr.ov _ _ _ | apply IsDr.dr | apply IsDr.drewN | apply IsDr.drew)⟩
      · go_wp2_with (first | (refine wp_region_dr (by kernel_rfl) (by kernel_rfl) ?_; (repeat (go_big_quiet_step (((go_at_call 32; exact (line_says _ _).quiet))))); refine wpQuiet_nil ?_; rintro _ ⟨nq, rfl⟩))
        have e : k < n := by
          rcases Nat.lt_or_ge k n with h | h
          · exact h
          · have e2 : k = n := by omega
            subst e2
            have := Hall.out.2 hlt
            rw [hp] at this; cases this
        go_roundw
        case rel => exact ⟨k + 1, by go_num, by omega, by repeat (first | exact IsDr.refl _ | exact IsDr.ov _ _ _ | apply IsDr.dr | apply IsDr.drewN | apply IsDr.drew)⟩
        case measure => simp [intOf]; omega
    · have hge : ¬ (a : Int) + k < src.size := by omega
      obtain rfl : k = n := by omega
      go_wp2_with (first | (refine wp_region_dr (by kernel_rfl) (by kernel_rfl) ?_; (repeat (go_big_quiet_step (((go_at_call 32; exact (line_says _ _).quiet))))); refine wpQuiet_nil ?_; rintro _ ⟨nq, rfl⟩))
      go_ret
      exact ⟨rfl, by repeat (first | exact IsDr.refl _ | exact IsDr.ov _ _ _ | apply IsDr.dr | apply IsDr.drewN | apply IsDr.drew)⟩
end Go.Proofs.YtdimhoilfopndaaDoor
