/- Layer 6's reference: Digits of a number that isn't negative: its decimal numeral. Condition: the number is below 2^63. -/
import Derived.Test.YtaibjaienhnckaaDoorO
import Derived.Test.YtaibjaienhnckaaDoorVf
import Derived.Lib.ItoaNum
import Derived.Laws.IdiomStrings
set_option linter.unusedVariables false
set_option linter.unusedSimpArgs false
namespace Go.Proofs.YtaibjaienhnckaaDoor
open Go.RowKit
/-- A number's last digit. -/
def dgB (m : Nat) : UInt8 := UInt8.ofNat (48 + m % 10)
/-- What is left of the digits. -/
def digInv (u m : Nat) (t : List UInt8) : Prop := (t = [] ∧ m = u) ∨ (t ≠ [] ∧ Lib.decDigits u = (if m = 0 then [] else Lib.decDigits m) ++ t)
theorem digInv_next {u m : Nat} {t : List UInt8} (h : digInv u m t) (hm : t = [] ∨ m ≠ 0) : digInv u (m / 10) (dgB m :: t) := by
  refine .inr ⟨by simp, ?_⟩
  have h1 : Lib.decDigits u = Lib.decDigits m ++ t := by
    rcases h with ⟨h, h2⟩ | ⟨h, h2⟩
    · rw [h, h2]; simp
    · rcases hm with h3 | h3
      · exact absurd h3 h
      · rw [h2, if_neg h3]
  rw [h1]
  conv => lhs; rw [Lib.decDigits]
  by_cases h4 : m < 10
  · rw [dif_pos h4, if_pos (by omega)]; unfold dgB; rw [Nat.mod_eq_of_lt h4]; rfl
  · rw [dif_neg h4, if_neg (by omega)]; unfold dgB; simp
theorem digInv_end {u : Nat} {t : List UInt8} (h : digInv u 0 t) (ht : t ≠ []) : Lib.decDigits u = t := by
  rcases h with ⟨h, _⟩ | ⟨_, h⟩
  · exact absurd h ht
  · simpa using h
theorem decDigits_len : ∀ (k u : Nat), u < 10 ^ (k + 1) → (Lib.decDigits u).length ≤ k + 1
  | 0, u, h => by rw [Lib.decDigits, dif_pos (by simpa using h)]; simp
  | k + 1, u, h => by
    rw [Lib.decDigits]
    split
    · simp
    · have := decDigits_len k (u / 10) (by rw [Nat.pow_succ] at h; omega)
      simp; omega
theorem digInv_len {u m : Nat} {t : List UInt8} (h : digInv u m t) : t.length ≤ (Lib.decDigits u).length := by
  rcases h with ⟨rfl, _⟩ | ⟨_, h⟩
  · simp
  · rw [h, List.length_append]; omega
theorem run_one_byte (W : World) (x : Int) (b : UInt8) (hb : x = (b.toNat : Int)) : (convert 49 9 (.slice (some ⟨W.heap.size, 0, none⟩) 1 1)).run Tryd.prog (W.alloc (.cells #[.int .u8 x] 5)) = .ok (.string ⟨#[b]⟩) (W.alloc (.cells #[.int .u8 x] 5)) := by
  subst hb
  refine run_convert_bytes_back _ _ _ 5 ⟨W.heap.size, 0, none⟩ 1 [b] Tryd.underlying49 Tryd.underlying5 Tryd.underlying9 (fun j hj => ?_)
  have h0 : j = 0 := by simpa using hj
  subst h0
  show (W.alloc _).cell? ⟨W.heap.size, 0, none⟩ = _
  rw [World.cell_alloc_cells, if_neg (Nat.lt_irrefl _), if_pos rfl]
  rfl
theorem digit_byte (m : Nat) : 48 + max ((m : Int) % 10) (-((m : Int) % 10)) = ((dgB m).toNat : Int) := by
  have h : (dgB m).toNat = 48 + m % 10 := by unfold dgB; rw [UInt8.toNat_ofNat']; omega
  rw [h]
  omega
theorem bytes_cons (b : UInt8) (s : ByteArray) : (⟨#[b]⟩ ++ s : ByteArray).data.toList = b :: s.data.toList := by simp [ByteArray.data_append]
def emptyN (v : Value) : Nat := match v with | .string b => if b.size = 0 then 1 else 0 | _ => 0
theorem emptyN_cons (c : UInt8) (b : ByteArray) : emptyN (.string (⟨#[c]⟩ ++ b)) = 0 := by
  show (if (⟨#[c]⟩ ++ b : ByteArray).size = 0 then 1 else 0) = 0
  rw [if_neg (by rw [ByteArray.size_append]; show ¬ 1 + _ = 0; omega)]
theorem emptyN_nil {b : ByteArray} (h : b.size = 0) : emptyN (.string b) = 1 := if_pos h
theorem emptyN_ne {b : ByteArray} (h : b.size ≠ 0) : emptyN (.string b) = 0 := if_neg h
theorem nil_app (b : ByteArray) : (⟨#[]⟩ ++ b : ByteArray) = b := by apply ByteArray.ext; simp [ByteArray.data_append]
set_option maxRecDepth 20000 in
set_option maxHeartbeats 400000 in
theorem Digits_gives (w : World) (u : Nat) (hu : u < 9223372036854775808) : Gives Tryd.prog 26 #[.int .i64 (u : Int)] w (.string ⟨(Lib.decDigits u).toArray⟩) := by
  unfold Gives
  go_enter Tryd.func26, Tryd.ntmps26
  go_wp2_with fail
  go_loopw [0, 4] (fun nv sv wr => ∃ (m : Nat) (b : ByteArray), nv = .int .i64 (m : Int) ∧ sv = .string b ∧ m ≤ u ∧ Hid (digInv u m b.data.toList) ∧ IsOv w wr) (fun nv sv wr => (intOf nv).toNat + emptyN sv)
  case atStart => exact ⟨u, ⟨#[]⟩, rfl, rfl, Nat.le_refl _, Lib.hid (.inl ⟨rfl, rfl⟩), by repeat (first | with_reducible exact IsOv.refl _ | with_reducible apply IsOv.dr | with_reducible apply IsOv.drewN | with_reducible apply IsOv.drew | with_reducible apply IsOv.alloc | with_reducible apply IsOv.ov)⟩
  case round =>
    obtain ⟨m, b, rfl, rfl, hm, hI, hov⟩ := hrel
    have hbz : b.size ≤ 19 := by
      have h1 := digInv_len hI.out
      have h2 := decDigits_len 18 u (by omega)
      have h3 : b.size = b.data.toList.length := Array.length_toList.symm
      omega
    by_cases hb0 : b.toList = []
    · have hb0b : (b.toList == []) = true := by simpa using hb0
      have hN := Lib.hid (digInv_next hI.out (.inl (by rw [← ByteArray.toList_eq]; exact hb0)))
      clear hI
      have hcv := run_one_byte wr _ _ (digit_byte m)
      have hbz0 : b.size = 0 := by
        have h3 : b.size = b.data.toList.length := Array.length_toList.symm
        rw [← ByteArray.toList_eq, hb0] at h3
        exact h3
      go_wp2_with fail
      go_roundw
      case rel => exact ⟨m / 10, ⟨#[dgB m]⟩ ++ b, by go_num, rfl, by omega, Lib.hid (by rw [bytes_cons]; exact hN.out), hov.trans (by repeat (first | with_reducible exact IsOv.refl _ | with_reducible apply IsOv.dr | with_reducible apply IsOv.drewN | with_reducible apply IsOv.drew | with_reducible apply IsOv.alloc | with_reducible apply IsOv.ov))⟩
      case measure => simp [intOf, emptyN_cons, emptyN_nil hbz0]; omega
    · have hb0b : (b.toList == []) = false := by simpa using hb0
      have hbl : ¬ b.data.toList = [] := by rw [← ByteArray.toList_eq]; exact hb0
      by_cases hm0 : m = 0
      · subst hm0
        have HV := Lib.hid (digInv_end hI.out hbl)
        go_wp2_with fail
        exact bodyPost_ret (v := .string (⟨#[]⟩ ++ b)) (by simp [results, Tryd.results26, go_sem, ↓IntWalk.iteOmega]) rfl ⟨by rw [HV.out, nil_app], hov⟩
      · have hN := Lib.hid (digInv_next hI.out (.inr hm0))
        clear hI
        have hcv := run_one_byte wr _ _ (digit_byte m)
        have hbz0 : b.size ≠ 0 := by
          have h3 : b.size = b.data.toList.length := Array.length_toList.symm
          intro h4
          rw [h4] at h3
          exact hbl (List.eq_nil_of_length_eq_zero h3.symm)
        go_wp2_with fail
        go_roundw
        case rel => exact ⟨m / 10, ⟨#[dgB m]⟩ ++ b, by go_num, rfl, by omega, Lib.hid (by rw [bytes_cons]; exact hN.out), hov.trans (by repeat (first | with_reducible exact IsOv.refl _ | with_reducible apply IsOv.dr | with_reducible apply IsOv.drewN | with_reducible apply IsOv.drew | with_reducible apply IsOv.alloc | with_reducible apply IsOv.ov))⟩
        case measure => simp [intOf, emptyN_cons, emptyN_ne hbz0]; omega
end Go.Proofs.YtaibjaienhnckaaDoor
