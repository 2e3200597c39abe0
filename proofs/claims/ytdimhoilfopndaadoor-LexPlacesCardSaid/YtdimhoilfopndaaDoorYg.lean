/- Number and Keyword of layer 2: what each answers, in every world in which the tables lie as the program lays them. Condition: the text takes at most 65536 bytes. -/
import Derived.Test.YtdimhoilfopndaaDoorYf
set_option linter.unusedVariables false
set_option linter.unusedSimpArgs false
namespace Go.Proofs.YtdimhoilfopndaaDoor
open Go.RowKit
theorem alnum_letter (c : UInt8) : alnumB c = (letterB (c.toNat : Int) && !((c.toNat : Int) == 95)) := by
  rw [Bool.eq_iff_iff]
  simp [alnumB, letterB, digitB]
  omega
/-- What the digits of a text stand for. -/
def numV (s : ByteArray) : Option Int :=
  if Lib.hasPrefix s.data.toList [48, 120] then (if (Lib.trimPrefix s.data.toList [48, 120]).all alnumB then numE 16 (Lib.trimPrefix s.data.toList [48, 120]) else none)
  else (if s.data.toList.all alnumB then numE 10 s.data.toList else none)
set_option maxHeartbeats 400000 in
theorem Number_gives (s : ByteArray) (w : World) (hL : LaidX w) (hs : s.size ≤ 65536) : Gives Tryd.prog 8 #[.string s] w (.tuple #[.int .u64 ((numV s).getD 0), .bool (numV s).isSome]) := by
  unfold Gives
  cases hp : Lib.hasPrefix s.data.toList [48, 120]
  · have hnv : numV s = if s.data.toList.all alnumB then numE 10 s.data.toList else none := by unfold numV; rw [hp]; rfl
    have HP := Lib.hid hp
    clear hp
    go_enter Tryd.func8, Tryd.ntmps8
    go_wp2_with fail
    refine (Tryd.strings_CutPrefix s ⟨#[48, 120]⟩ w).mono ?_
    rintro e w' ⟨rfl, hw⟩
    obtain rfl : w = w' := hw.symm
    rw [show Lib.hasPrefix s.data.toList (⟨#[48, 120]⟩ : ByteArray).data.toList = false from HP.out]
    generalize (⟨(Lib.trimPrefix s.data.toList (⟨#[48, 120]⟩ : ByteArray).data.toList).toArray⟩ : ByteArray) = t
    go_wp2_with fail
    go_loopw [19] (fun i wr => ∃ k : Nat, i = .int .i64 (k : Int) ∧ k ≤ s.size ∧ (∀ j (h : j < s.size), j < k → alnumB s[j] = true) ∧ IsDr w wr) (fun i wr => (s.size - intOf i).toNat)
    case atStart => exact ⟨0, rfl, Nat.zero_le _, fun j h hj => absurd hj (Nat.not_lt_zero _), by repeat (first | exact IsDr.refl _ | exact IsDr.ov _ _ _ | apply IsDr.dr | apply IsDr.drewN | apply IsDr.drew)⟩
    case round =>
      obtain ⟨k, rfl, hk, hall, d, rfl⟩ := hrel
      by_cases hlt : k < s.size
      · have hlt2 : (k : Int) < s.size := by omega
        have hc := alnum_letter s[k]
        cases ha : alnumB s[k]
        · rw [ha] at hc
          have hv : numV s = none := by
            rw [hnv]
            have : s.data.toList.all alnumB = false := by
              rw [List.all_eq_false]
              exact ⟨s[k], by rw [show s[k] = s.data.toList[k]'(show k < s.data.toList.length from hlt) from rfl]; exact List.getElem_mem _, by simp [ha]⟩
            rw [this]; rfl
          have HV := Lib.hid hv
          clear hv hall hnv
          cases hl : letterB (s[k].toNat : Int)
          · clear hc ha
            go_wp2_with (first | (go_at_call 18; refine (letter_says _ _).mono ?_; rintro e w' ⟨rfl, x, rfl⟩))
            go_ret2
            exact ⟨by rw [HV.out]; rfl, (IsDr.isOv (by repeat (first | exact IsDr.refl _ | exact ⟨_, rfl⟩ | apply IsDr.dr | apply IsDr.drewN | apply IsDr.drew)))⟩
          · rw [hl] at hc
            have h95 : (s[k].toNat : Int) = 95 := by simpa using hc
            have h95b : ((s[k].toNat : Int) == 95) = true := by simp [h95]
            clear h95 hc ha
            go_wp2_with (first | (go_at_call 18; refine (letter_says _ _).mono ?_; rintro e w' ⟨rfl, x, rfl⟩))
            go_ret2
            exact ⟨by rw [HV.out]; rfl, (IsDr.isOv (by repeat (first | exact IsDr.refl _ | exact ⟨_, rfl⟩ | apply IsDr.dr | apply IsDr.drewN | apply IsDr.drew)))⟩
        · rw [ha] at hc
          have hl : letterB (s[k].toNat : Int) = true := by simp at hc; exact hc.1
          have h95 : ((s[k].toNat : Int) == 95) = false := by simp at hc; simpa using hc.2
          have H2 : Hid (∀ j (h : j < s.size), j < k + 1 → alnumB s[j] = true) := Lib.hid fun j h hj => by
            rcases Nat.lt_or_ge j k with h1 | h1
            · exact hall j h h1
            · have : j = k := by omega
              subst this; exact ha
          clear hall hnv hc ha
          go_wp2_with (first | (go_at_call 18; refine (letter_says _ _).mono ?_; rintro e w' ⟨rfl, x, rfl⟩))
          go_roundw
          case rel => exact ⟨k + 1, by go_num, by omega, H2.out, by repeat (first | exact IsDr.refl _ | exact IsDr.ov _ _ _ | apply IsDr.dr | apply IsDr.drewN | apply IsDr.drew)⟩
          case measure => simp [intOf]; omega
      · obtain rfl : k = s.size := by omega
        have hal : ∀ c ∈ s.data.toList, alnumB c = true := fun c hm => by
          obtain ⟨j, hj, rfl⟩ := List.getElem_of_mem hm
          have hj2 : j < s.size := hj
          exact hall j hj2 hj2
        have hv : numV s = numE 10 s.data.toList := by
          rw [hnv, List.all_eq_true.2 hal]; rfl
        have HV := Lib.hid hv
        have HA := Lib.hid hal
        clear hv hal hall hnv
        go_wp2_with fail
        refine (parse10_pub s (by omega) HA.out _ (hL.of_isOv (IsDr.isOv ⟨d, rfl⟩))).mono ?_
        rintro e w' ⟨⟨v, er, rfl, h⟩, hov⟩
        have HH := Lib.hid h
        clear h
        rcases HH.out with ⟨h1, rfl⟩ | ⟨h1, te, p, rfl⟩
        · have H1 := Lib.hid h1
          clear h1 HH
          go_wp2
          go_ret2
          exact ⟨by rw [HV.out, H1.out]; rfl, (IsDr.isOv ⟨d, rfl⟩).trans hov⟩
        · have H1 := Lib.hid h1
          clear h1 HH
          go_wp2
          go_ret2
          exact ⟨by rw [HV.out, H1.out]; rfl, (IsDr.isOv ⟨d, rfl⟩).trans hov⟩
  · have hnv : numV s = if (Lib.trimPrefix s.data.toList [48, 120]).all alnumB then numE 16 (Lib.trimPrefix s.data.toList [48, 120]) else none := by unfold numV; rw [hp]; rfl
    have hts : (Lib.trimPrefix s.data.toList [48, 120]).length ≤ 65536 := by
      have h1 : (Lib.trimPrefix s.data.toList [48, 120]).length ≤ s.data.toList.length := by
        unfold Lib.trimPrefix; split <;> simp
      exact Nat.le_trans h1 hs
    have HP := Lib.hid hp
    clear hp
    go_enter Tryd.func8, Tryd.ntmps8
    go_wp2_with fail
    refine (Tryd.strings_CutPrefix s ⟨#[48, 120]⟩ w).mono ?_
    rintro e w' ⟨rfl, hw⟩
    obtain rfl : w = w' := hw.symm
    rw [show Lib.hasPrefix s.data.toList (⟨#[48, 120]⟩ : ByteArray).data.toList = true from HP.out]
    rw [show (⟨#[48, 120]⟩ : ByteArray).data.toList = [48, 120] from rfl]
    generalize Lib.trimPrefix s.data.toList [48, 120] = l at *
    obtain ⟨t, ht⟩ : ∃ t : ByteArray, t = ⟨l.toArray⟩ := ⟨_, rfl⟩
    have htl : t.data.toList = l := by rw [ht]
    rw [← ht]
    rw [← htl] at hnv hts
    have hs2 : t.size ≤ 65536 := hts
    clear ht htl hts
    go_wp2_with fail
    go_loopw [19] (fun i wr => ∃ k : Nat, i = .int .i64 (k : Int) ∧ k ≤ t.size ∧ (∀ j (h : j < t.size), j < k → alnumB t[j] = true) ∧ IsDr w wr) (fun i wr => (t.size - intOf i).toNat)
    case atStart => exact ⟨0, rfl, Nat.zero_le _, fun j h hj => absurd hj (Nat.not_lt_zero _), by repeat (first | exact IsDr.refl _ | exact IsDr.ov _ _ _ | apply IsDr.dr | apply IsDr.drewN | apply IsDr.drew)⟩
    case round =>
      obtain ⟨k, rfl, hk, hall, d, rfl⟩ := hrel
      by_cases hlt : k < t.size
      · have hlt2 : (k : Int) < t.size := by omega
        have hc := alnum_letter t[k]
        cases ha : alnumB t[k]
        · rw [ha] at hc
          have hv : numV s = none := by
            rw [hnv]
            have : t.data.toList.all alnumB = false := by
              rw [List.all_eq_false]
              exact ⟨t[k], by rw [show t[k] = t.data.toList[k]'(show k < t.data.toList.length from hlt) from rfl]; exact List.getElem_mem _, by simp [ha]⟩
            rw [this]; rfl
          have HV := Lib.hid hv
          clear hv hall hnv
          cases hl : letterB (t[k].toNat : Int)
          · clear hc ha
            go_wp2_with (first | (go_at_call 18; refine (letter_says _ _).mono ?_; rintro e w' ⟨rfl, x, rfl⟩))
            go_ret2
            exact ⟨by rw [HV.out]; rfl, (IsDr.isOv (by repeat (first | exact IsDr.refl _ | exact ⟨_, rfl⟩ | apply IsDr.dr | apply IsDr.drewN | apply IsDr.drew)))⟩
          · rw [hl] at hc
            have h95 : (t[k].toNat : Int) = 95 := by simpa using hc
            have h95b : ((t[k].toNat : Int) == 95) = true := by simp [h95]
            clear h95 hc ha
            go_wp2_with (first | (go_at_call 18; refine (letter_says _ _).mono ?_; rintro e w' ⟨rfl, x, rfl⟩))
            go_ret2
            exact ⟨by rw [HV.out]; rfl, (IsDr.isOv (by repeat (first | exact IsDr.refl _ | exact ⟨_, rfl⟩ | apply IsDr.dr | apply IsDr.drewN | apply IsDr.drew)))⟩
        · rw [ha] at hc
          have hl : letterB (t[k].toNat : Int) = true := by simp at hc; exact hc.1
          have h95 : ((t[k].toNat : Int) == 95) = false := by simp at hc; simpa using hc.2
          have H2 : Hid (∀ j (h : j < t.size), j < k + 1 → alnumB t[j] = true) := Lib.hid fun j h hj => by
            rcases Nat.lt_or_ge j k with h1 | h1
            · exact hall j h h1
            · have : j = k := by omega
              subst this; exact ha
          clear hall hnv hc ha
          go_wp2_with (first | (go_at_call 18; refine (letter_says _ _).mono ?_; rintro e w' ⟨rfl, x, rfl⟩))
          go_roundw
          case rel => exact ⟨k + 1, by go_num, by omega, H2.out, by repeat (first | exact IsDr.refl _ | exact IsDr.ov _ _ _ | apply IsDr.dr | apply IsDr.drewN | apply IsDr.drew)⟩
          case measure => simp [intOf]; omega
      · obtain rfl : k = t.size := by omega
        have hal : ∀ c ∈ t.data.toList, alnumB c = true := fun c hm => by
          obtain ⟨j, hj, rfl⟩ := List.getElem_of_mem hm
          have hj2 : j < t.size := hj
          exact hall j hj2 hj2
        have hv : numV s = numE 16 t.data.toList := by
          rw [hnv, List.all_eq_true.2 hal]; rfl
        have HV := Lib.hid hv
        have HA := Lib.hid hal
        clear hv hal hall hnv
        go_wp2_with fail
        refine (parse16_pub t hs2 HA.out _ (hL.of_isOv (IsDr.isOv ⟨d, rfl⟩))).mono ?_
        rintro e w' ⟨⟨v, er, rfl, h⟩, hov⟩
        have HH := Lib.hid h
        clear h
        rcases HH.out with ⟨h1, rfl⟩ | ⟨h1, te, p, rfl⟩
        · have H1 := Lib.hid h1
          clear h1 HH
          go_wp2
          go_ret2
          exact ⟨by rw [HV.out, H1.out]; rfl, (IsDr.isOv ⟨d, rfl⟩).trans hov⟩
        · have H1 := Lib.hid h1
          clear h1 HH
          go_wp2
          go_ret2
          exact ⟨by rw [HV.out, H1.out]; rfl, (IsDr.isOv ⟨d, rfl⟩).trans hov⟩
end Go.Proofs.YtdimhoilfopndaaDoor
