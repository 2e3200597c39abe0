/- Keyword of layer 2: what it answers, in every world in which the tables lie as the program lays them. No other condition. -/
import Derived.Test.YtdimhoilfopndaaDoorYd
set_option linter.unusedVariables false
set_option linter.unusedSimpArgs false
namespace Go.Proofs.YtdimhoilfopndaaDoor
open Go.RowKit
attribute [local go_sem ↓] load_kw
theorem kwAt_toList (i : Nat) : (kwAt i).toList = kwL.getD i [] := by rw [ByteArray.toList_eq]; rfl
theorem kw_none {l : List UInt8} (h : ∀ j, j < 19 → (kwL.getD j [] == l) = false) : kwB l = false := by
  unfold kwB
  rw [Bool.eq_false_iff]
  intro hc
  rw [List.contains_iff_mem] at hc
  obtain ⟨j, hj, e⟩ := List.getElem_of_mem hc
  have := h j hj
  rw [List.getD_eq_getElem?_getD, List.getElem?_eq_getElem hj] at this
  simp [e] at this
theorem kw_some {l : List UInt8} {j : Nat} (hj : j < 19) (h : (kwL.getD j [] == l) = true) : kwB l = true := by
  unfold kwB
  rw [List.contains_iff_mem]
  have hj2 : j < kwL.length := hj
  rw [List.getD_eq_getElem?_getD, List.getElem?_eq_getElem hj2] at h
  simp at h
  rw [← h]; exact List.getElem_mem _
set_option maxHeartbeats 400000 in
theorem Keyword_says (s : ByteArray) (w : World) (hL : LaidX w) : Says Tryd.prog 10 #[.string s] w (.bool (kwB s.data.toList)) := by
  unfold Says
  go_enter Tryd.func10, Tryd.ntmps10
  go_wp2

  go_loopw [6] (fun i wr => ∃ k : Nat, i = .int .i64 (k : Int) ∧ k ≤ 19 ∧ Hid (∀ j, j < k → (kwL.getD j [] == s.data.toList) = false) ∧ IsDr w wr) (fun i wr => (19 - intOf i).toNat)
  case atStart => exact ⟨0, rfl, Nat.zero_le _, fun j hj => absurd hj (Nat.not_lt_zero _), by repeat (first | exact IsDr.refl _ | exact IsDr.ov _ _ _ | apply IsDr.dr | apply IsDr.drewN | apply IsDr.drew)⟩
  case round =>
    obtain ⟨k, rfl, hk, hall, d, rfl⟩ := hrel
    by_cases hlt : k < 19
    · have hi := kw_index k hlt
      have hlt2 : (k : Int) < 19 := by omega
      have ht := kwAt_toList k
      cases hc : (kwL.getD k [] == s.data.toList)
      · have H2 : Hid (∀ j, j < k + 1 → (kwL.getD j [] == s.data.toList) = false) := Lib.hid fun j hj => by
          rcases Nat.lt_or_ge j k with h1 | h1
          · exact hall.out j h1
          · have : j = k := by omega
            subst this; exact hc
        have hc2 : ((kwAt k).toList == s.toList) = false := by rw [ht, ByteArray.toList_eq s]; exact hc
        clear hc ht hall
        go_wp2
        go_roundw
        case rel => exact ⟨k + 1, by go_num, by omega, H2, by repeat (first | exact IsDr.refl _ | exact IsDr.ov _ _ _ | apply IsDr.dr | apply IsDr.drewN | apply IsDr.drew)⟩
        case measure => simp [intOf]; omega
      · have HV := Lib.hid (kw_some hlt hc)
        have hc2 : ((kwAt k).toList == s.toList) = true := by rw [ht, ByteArray.toList_eq s]; exact hc
        clear hc ht hall
        go_wp2
        go_ret
        exact ⟨by rw [HV.out]; rfl, by repeat (first | exact IsDr.refl _ | exact IsDr.ov _ _ _ | apply IsDr.dr | apply IsDr.drewN | apply IsDr.drew)⟩
    · obtain rfl : k = 19 := by omega
      have HV := Lib.hid (kw_none hall.out)
      clear hall
      go_wp2
      go_ret
      exact ⟨by rw [HV.out]; rfl, by repeat (first | exact IsDr.refl _ | exact IsDr.ov _ _ _ | apply IsDr.dr | apply IsDr.drewN | apply IsDr.drew)⟩
end Go.Proofs.YtdimhoilfopndaaDoor
