/- Texts of one proof, put together: Ye. Conditions: as each lemma says. -/
import Derived.Lib.Strings
import Derived.Lib.Walk
import Derived.Lib.ConvBytes
import Derived.Lib.AtoiAllMem
import Derived.Lib.Hide
import Derived.Laws.Strings3
import Derived.Laws.Closers25
import Derived.Laws.Closers25b
import Derived.BigCall
import Derived.BigGuard
import Derived.Test.YtdimhoilfopndaaGreatDoorA1
import Derived.Test.YtdimhoilfopndaaGreatDoorSh
set_option linter.unusedVariables false
set_option linter.unusedSimpArgs false
section
namespace Go.Proofs.YtdimhoilfopndaaGreatDoor
open Go.RowKit
def dv (c : UInt8) : Int := if c.toNat ≤ 57 then (c.toNat : Int) - 48 else if c.toNat ≤ 90 then (c.toNat : Int) - 55 else (c.toNat : Int) - 87
def alnumB (c : UInt8) : Bool := (decide (48 ≤ c.toNat) && decide (c.toNat ≤ 57)) || (decide (65 ≤ c.toNat) && decide (c.toNat ≤ 90)) || (decide (97 ≤ c.toNat) && decide (c.toNat ≤ 122))
def numP (base : Int) : Int → List UInt8 → Option Int
 | a, [] => some a
 | a, c :: l => if base ≤ dv c then none else if 18446744073709551616 ≤ a * base + dv c then none else numP base (a * base + dv c) l
def parsed (te : TypeId) (r : Option Int) (v : Int) (er : Value) : Prop := (r = some v ∧ er = .nilIface) ∨ (r = none ∧ ∃ k : Int, (k = 1 ∨ k = 2) ∧ er = .iface te (.int .i64 k))
theorem low_all : ∀ n : Fin 256, (65 ≤ n.val ∧ n.val ≤ 90 → bits .or .u8 (n.val : Int) 32 = (n.val : Int) + 32) ∧ (97 ≤ n.val ∧ n.val ≤ 122 → bits .or .u8 (n.val : Int) 32 = (n.val : Int)) := by decide +kernel
theorem alnum_cases {c : UInt8} (h : alnumB c = true) : (48 ≤ (c.toNat : Int) ∧ (c.toNat : Int) ≤ 57 ∧ dv c = (c.toNat : Int) - 48) ∨ ∃ l : Int, 97 ≤ l ∧ l ≤ 122 ∧ bits .or .u8 (c.toNat : Int) 32 = l ∧ (65 ≤ (c.toNat : Int) ∧ ((c.toNat : Int) == 95) = false) ∧ dv c = l - 87 := by
 have hc := c.toNat_lt
 have hl := low_all ⟨c.toNat, hc⟩
 dsimp only at hl
 simp only [alnumB, Bool.or_eq_true, Bool.and_eq_true, decide_eq_true_eq] at h
 unfold dv
 rcases h with (⟨h0, h1⟩ | ⟨h0, h1⟩) | ⟨h0, h1⟩
 · exact .inl ⟨by omega, by omega, by rw [if_pos h1]⟩
 · exact .inr ⟨_, by omega, by omega, hl.1 ⟨h0, h1⟩, ⟨by omega, by rw [beq_eq_false_iff_ne]; omega⟩, by rw [if_neg (by omega), if_pos h1]; omega⟩
 · exact .inr ⟨_, by omega, by omega, hl.2 ⟨h0, h1⟩, ⟨by omega, by rw [beq_eq_false_iff_ne]; omega⟩, by rw [if_neg (by omega), if_neg (by omega)]⟩
set_option maxHeartbeats 32000000 in
set_option maxRecDepth 100000 in
theorem parse10_calls (t : ByteArray) (hne : t.size ≠ 0) (hmax : t.size ≤ 65536) (hal : ∀ c ∈ t.data.toList, alnumB c = true) (w : World) :
  Calls Tryz.prog 102 #[.string t, .int .i64 10, .int .i64 64] w fun e w' => (∃ v er, e = .returned (.tuple #[.int .u64 v, er]) ∧ parsed 134 (numP 10 0 t.data.toList) v er) ∧ w' = Lib.bytesWorld w 5 t := by
 have hemp : t.toList.isEmpty = false := by
  rw [← decide_eq_emptyBytes]
  exact decide_eq_false (fun h => hne (by rw [h]; rfl))
 have hcv := Lib.run_convert_string_bytes (P := Tryz.prog) w 9 77 5 t (u := .string) Tryz.underlying9 Tryz.underlying77 Tryz.underlying5
 have hB : ∀ j, j < t.size → (Lib.bytesWorld w 5 t).cell? ⟨w.heap.size, j, none⟩ = some (.int .u8 (t.data.toList.getD j 0).toNat) := fun j hj => Lib.bytesWorld_cell w 5 t j hj
 obtain ⟨W1, hW1⟩ : ∃ W1, W1 = Lib.bytesWorld w 5 t := ⟨_, rfl⟩
 rw [← hW1] at hcv hB ⊢
 clear hW1
 obtain ⟨bs, hL⟩ : ∃ bs, bs = t.data.toList := ⟨_, rfl⟩
 have hLn : bs.length = t.size := by rw [hL, Lib.size_eq]
 rw [← hL] at hB hal ⊢
 clear hL
 have hmv : IntKind.u64.wrap (IntKind.u64.wrap 18446744073709551616 - 1) = 18446744073709551615 := by
  rw [IntKind.wrap_u64, IntKind.wrap_u64]
  decide
 have HA := Lib.hid hal
 clear hal
 go_enter Tryz.func102, Tryz.ntmps102
 go_wp2
 go_loop [12, 13, 101] (fun vu vn vi => ∃ (k : Nat) (a : Int), vu = .bool false ∧ vn = .int .u64 a ∧ vi = .int .i64 k ∧ k ≤ t.size ∧ 0 ≤ a ∧ a < 18446744073709551616 ∧ Hid (numP 10 0 bs = numP 10 a (bs.drop k)))
  (fun _ _ vi => t.size - (intOf vi).toNat)
 case atStart => exact ⟨0, 0, rfl, rfl, rfl, by omega, by omega, by omega, rfl⟩
 case round =>
  obtain ⟨k, a, rfl, rfl, rfl, hk, a0, a1, hh⟩ := hrel
  by_cases hkn : k < t.size
  ·
   have hc := hB k hkn
   have hdrop : bs.drop k = bs[k]'(by omega) :: bs.drop (k + 1) := List.drop_eq_getElem_cons (by omega)
   have hget : bs.getD k 0 = bs[k]'(by omega) := by simp [List.getD, List.getElem?_eq_getElem (show k < bs.length by omega)]
   have hdec := hh.out
   clear hh
   have hal := HA.out (bs[k]'(by omega)) (List.getElem_mem _)
   rw [hdrop] at hdec
   rw [hget] at hc
   generalize bs[k]'(by omega) = c at hc hdec hal
   have hc256 : c.toNat < 256 := c.toNat_lt
   clear hB hdrop hget
   have hA := alnum_cases hal
   clear hal
   have go : ∀ d : Int, dv c = d → 0 ≤ d → d < 36 → numP 10 0 bs = (if 10 ≤ d then none else if 18446744073709551616 ≤ a * 10 + d then none else numP 10 (a * 10 + d) (bs.drop (k + 1))) := fun d h _ _ => by rw [hdec, numP, h]
   clear hdec
   have HG := Lib.hid go
   clear go
   rcases hA with ⟨h0, h1, h2⟩ | ⟨l, h0, h1, h2, ⟨h3, h5⟩, h4⟩
   ·
    have g := Lib.hid (HG.out ((c.toNat : Int) - 48) h2 (by omega) (by omega))
    clear HG h2
    have hb : (c.toNat : Int) - 48 < 10 := by omega
    by_cases icut : 1844674407370955162 ≤ a
    ·
     have g2 : Hid (numP 10 0 bs = none) := Lib.hid (by rw [g.out, if_neg (by omega), if_pos (by omega)])
     go_wp2
     go_ret2
     exact ⟨⟨_, _, rfl, .inr ⟨g2.out, 1, .inl rfl, rfl⟩⟩, rfl⟩
    ·
     have icut2 : a < 1844674407370955162 := by omega
     by_cases iov : 18446744073709551616 ≤ a * 10 + ((c.toNat : Int) - 48)
     ·
      have g2 : Hid (numP 10 0 bs = none) := Lib.hid (by rw [g.out, if_neg (by omega), if_pos iov])
      have hwr : IntKind.u64.wrap (a * 10 + ((c.toNat : Int) - 48)) = a * 10 + ((c.toNat : Int) - 48) - 18446744073709551616 := by
       rw [IntKind.wrap_u64]
       omega
      clear icut
      go_wp2
      all_goals go_ret2
      all_goals exact ⟨⟨_, _, rfl, .inr ⟨g2.out, 1, .inl rfl, rfl⟩⟩, rfl⟩
     ·
      have g2 : Hid (numP 10 0 bs = numP 10 (a * 10 + ((c.toNat : Int) - 48)) (bs.drop (k + 1))) := Lib.hid (by rw [g.out, if_neg (by omega), if_neg iov])
      have iov2 : a * 10 + ((c.toNat : Int) - 48) < 18446744073709551616 := by omega
      clear icut iov
      go_wp2
      refine ⟨⟨k + 1, a * 10 + ((c.toNat : Int) - 48), rfl, (by first | rfl | (congr 1; omega)), (by first | rfl | (congr 1; omega)), by omega, by omega, iov2, g2⟩, by simp [intOf]; omega⟩
   ·
    have g := Lib.hid (HG.out (l - 87) h4 (by omega) (by omega))
    clear HG h4
    have hn : 57 < (c.toNat : Int) := by omega
    by_cases hb : 10 ≤ l - 87
    ·
     have g2 : Hid (numP 10 0 bs = none) := Lib.hid (by rw [g.out, if_pos hb])
     have hb2 : 10 + 87 ≤ l := by omega
     go_wp2_with (go_at_call 115; refine (Tryz.internal_strconv_lower _ _).mono ?_; rintro e w' ⟨rfl, rfl⟩)
     all_goals go_ret2
     all_goals exact ⟨⟨_, _, rfl, .inr ⟨g2.out, 2, .inr rfl, rfl⟩⟩, rfl⟩
    ·
     have hb2 : l < 10 + 87 := by omega
     exfalso; omega
  ·
   have hkk : k = t.size := by omega
   subst hkk
   have hdec := hh.out
   clear hh
   rw [List.drop_eq_nil_of_le (by omega), numP] at hdec
   have HD := Lib.hid hdec
   clear hdec
   go_wp2
   go_ret2
   exact ⟨⟨_, _, rfl, .inl ⟨HD.out, rfl⟩⟩, rfl⟩
set_option maxHeartbeats 32000000 in
set_option maxRecDepth 100000 in
theorem parse16_calls (t : ByteArray) (hne : t.size ≠ 0) (hmax : t.size ≤ 65536) (hal : ∀ c ∈ t.data.toList, alnumB c = true) (w : World) :
  Calls Tryz.prog 102 #[.string t, .int .i64 16, .int .i64 64] w fun e w' => (∃ v er, e = .returned (.tuple #[.int .u64 v, er]) ∧ parsed 134 (numP 16 0 t.data.toList) v er) ∧ w' = Lib.bytesWorld w 5 t := by
 have hemp : t.toList.isEmpty = false := by
  rw [← decide_eq_emptyBytes]
  exact decide_eq_false (fun h => hne (by rw [h]; rfl))
 have hcv := Lib.run_convert_string_bytes (P := Tryz.prog) w 9 77 5 t (u := .string) Tryz.underlying9 Tryz.underlying77 Tryz.underlying5
 have hB : ∀ j, j < t.size → (Lib.bytesWorld w 5 t).cell? ⟨w.heap.size, j, none⟩ = some (.int .u8 (t.data.toList.getD j 0).toNat) := fun j hj => Lib.bytesWorld_cell w 5 t j hj
 obtain ⟨W1, hW1⟩ : ∃ W1, W1 = Lib.bytesWorld w 5 t := ⟨_, rfl⟩
 rw [← hW1] at hcv hB ⊢
 clear hW1
 obtain ⟨bs, hL⟩ : ∃ bs, bs = t.data.toList := ⟨_, rfl⟩
 have hLn : bs.length = t.size := by rw [hL, Lib.size_eq]
 rw [← hL] at hB hal ⊢
 clear hL
 have hmv : IntKind.u64.wrap (IntKind.u64.wrap 18446744073709551616 - 1) = 18446744073709551615 := by
  rw [IntKind.wrap_u64, IntKind.wrap_u64]
  decide
 have HA := Lib.hid hal
 clear hal
 go_enter Tryz.func102, Tryz.ntmps102
 go_wp2
 go_loop [12, 13, 101] (fun vu vn vi => ∃ (k : Nat) (a : Int), vu = .bool false ∧ vn = .int .u64 a ∧ vi = .int .i64 k ∧ k ≤ t.size ∧ 0 ≤ a ∧ a < 18446744073709551616 ∧ Hid (numP 16 0 bs = numP 16 a (bs.drop k)))
  (fun _ _ vi => t.size - (intOf vi).toNat)
 case atStart => exact ⟨0, 0, rfl, rfl, rfl, by omega, by omega, by omega, rfl⟩
 case round =>
  obtain ⟨k, a, rfl, rfl, rfl, hk, a0, a1, hh⟩ := hrel
  by_cases hkn : k < t.size
  ·
   have hc := hB k hkn
   have hdrop : bs.drop k = bs[k]'(by omega) :: bs.drop (k + 1) := List.drop_eq_getElem_cons (by omega)
   have hget : bs.getD k 0 = bs[k]'(by omega) := by simp [List.getD, List.getElem?_eq_getElem (show k < bs.length by omega)]
   have hdec := hh.out
   clear hh
   have hal := HA.out (bs[k]'(by omega)) (List.getElem_mem _)
   rw [hdrop] at hdec
   rw [hget] at hc
   generalize bs[k]'(by omega) = c at hc hdec hal
   have hc256 : c.toNat < 256 := c.toNat_lt
   clear hB hdrop hget
   have hA := alnum_cases hal
   clear hal
   have go : ∀ d : Int, dv c = d → 0 ≤ d → d < 36 → numP 16 0 bs = (if 16 ≤ d then none else if 18446744073709551616 ≤ a * 16 + d then none else numP 16 (a * 16 + d) (bs.drop (k + 1))) := fun d h _ _ => by rw [hdec, numP, h]
   clear hdec
   have HG := Lib.hid go
   clear go
   rcases hA with ⟨h0, h1, h2⟩ | ⟨l, h0, h1, h2, ⟨h3, h5⟩, h4⟩
   ·
    have g := Lib.hid (HG.out ((c.toNat : Int) - 48) h2 (by omega) (by omega))
    clear HG h2
    have hb : (c.toNat : Int) - 48 < 16 := by omega
    by_cases icut : 1152921504606846976 ≤ a
    ·
     have g2 : Hid (numP 16 0 bs = none) := Lib.hid (by rw [g.out, if_neg (by omega), if_pos (by omega)])
     go_wp2
     go_ret2
     exact ⟨⟨_, _, rfl, .inr ⟨g2.out, 1, .inl rfl, rfl⟩⟩, rfl⟩
    ·
     have icut2 : a < 1152921504606846976 := by omega
     by_cases iov : 18446744073709551616 ≤ a * 16 + ((c.toNat : Int) - 48)
     ·
      have g2 : Hid (numP 16 0 bs = none) := Lib.hid (by rw [g.out, if_neg (by omega), if_pos iov])
      have hwr : IntKind.u64.wrap (a * 16 + ((c.toNat : Int) - 48)) = a * 16 + ((c.toNat : Int) - 48) - 18446744073709551616 := by
       rw [IntKind.wrap_u64]
       omega
      clear icut
      go_wp2
      all_goals go_ret2
      all_goals exact ⟨⟨_, _, rfl, .inr ⟨g2.out, 1, .inl rfl, rfl⟩⟩, rfl⟩
     ·
      have g2 : Hid (numP 16 0 bs = numP 16 (a * 16 + ((c.toNat : Int) - 48)) (bs.drop (k + 1))) := Lib.hid (by rw [g.out, if_neg (by omega), if_neg iov])
      have iov2 : a * 16 + ((c.toNat : Int) - 48) < 18446744073709551616 := by omega
      clear icut iov
      go_wp2
      refine ⟨⟨k + 1, a * 16 + ((c.toNat : Int) - 48), rfl, (by first | rfl | (congr 1; omega)), (by first | rfl | (congr 1; omega)), by omega, by omega, iov2, g2⟩, by simp [intOf]; omega⟩
   ·
    have g := Lib.hid (HG.out (l - 87) h4 (by omega) (by omega))
    clear HG h4
    have hn : 57 < (c.toNat : Int) := by omega
    by_cases hb : 16 ≤ l - 87
    ·
     have g2 : Hid (numP 16 0 bs = none) := Lib.hid (by rw [g.out, if_pos hb])
     have hb2 : 16 + 87 ≤ l := by omega
     go_wp2_with (go_at_call 115; refine (Tryz.internal_strconv_lower _ _).mono ?_; rintro e w' ⟨rfl, rfl⟩)
     all_goals go_ret2
     all_goals exact ⟨⟨_, _, rfl, .inr ⟨g2.out, 2, .inr rfl, rfl⟩⟩, rfl⟩
    ·
     have hb2 : l < 16 + 87 := by omega
     by_cases icut : 1152921504606846976 ≤ a
     ·
      have g2 : Hid (numP 16 0 bs = none) := Lib.hid (by rw [g.out, if_neg (by omega), if_pos (by omega)])
      go_wp2_with (go_at_call 115; refine (Tryz.internal_strconv_lower _ _).mono ?_; rintro e w' ⟨rfl, rfl⟩)
      go_ret2
      exact ⟨⟨_, _, rfl, .inr ⟨g2.out, 1, .inl rfl, rfl⟩⟩, rfl⟩
     ·
      have icut2 : a < 1152921504606846976 := by omega
      by_cases iov : 18446744073709551616 ≤ a * 16 + (l - 87)
      · exfalso; omega
      ·
       have g2 : Hid (numP 16 0 bs = numP 16 (a * 16 + (l - 87)) (bs.drop (k + 1))) := Lib.hid (by rw [g.out, if_neg (by omega), if_neg iov])
       have iov2 : a * 16 + (l - 87) < 18446744073709551616 := by omega
       clear icut iov
       go_wp2_with (go_at_call 115; refine (Tryz.internal_strconv_lower _ _).mono ?_; rintro e w' ⟨rfl, rfl⟩)
       refine ⟨⟨k + 1, a * 16 + (l - 87), rfl, (by first | rfl | (congr 1; omega)), (by first | rfl | (congr 1; omega)), by omega, by omega, iov2, g2⟩, by simp [intOf]; omega⟩
  ·
   have hkk : k = t.size := by omega
   subst hkk
   have hdec := hh.out
   clear hh
   rw [List.drop_eq_nil_of_le (by omega), numP] at hdec
   have HD := Lib.hid hdec
   clear hdec
   go_wp2
   go_ret2
   exact ⟨⟨_, _, rfl, .inl ⟨HD.out, rfl⟩⟩, rfl⟩
end Go.Proofs.YtdimhoilfopndaaGreatDoor
end
