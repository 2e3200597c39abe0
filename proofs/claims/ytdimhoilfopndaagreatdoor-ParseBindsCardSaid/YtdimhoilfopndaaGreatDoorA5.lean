/- Texts of one proof, put together: Yf Yg Yi Yk Yj Yr Yu. Conditions: as each lemma says. -/
import Derived.Lib.AtoiErrMem
import Derived.Test.YtdimhoilfopndaaGreatDoorA3
import Derived.Test.YtdimhoilfopndaaGreatDoorA4
set_option linter.unusedVariables false
set_option linter.unusedSimpArgs false
section
namespace Go.Proofs.YtdimhoilfopndaaGreatDoor
open Go.RowKit
theorem IsOv.bytes (w : World) (t : TypeId) (s : ByteArray) : IsOv w (Lib.bytesWorld w t s) := by
 exact IsOv.of_below (Lib.bytesWorld_below _ _ _)
def numE (base : Int) (l : List UInt8) : Option Int := if l.isEmpty then none else numP base 0 l
def errIs (r : Option Int) (v : Int) (er : Value) : Prop := (r = some v ∧ er = .nilIface) ∨ (r = none ∧ ∃ te p, er = .iface te p)
set_option maxHeartbeats 4000000 in
theorem parse10_pub (t : ByteArray) (hmax : t.size ≤ 65536) (hal : ∀ c ∈ t.data.toList, alnumB c = true) (w : World) (hL : LaidX w) :
  Calls Tryz.prog 81 #[.string t, .int .i64 10, .int .i64 64] w fun e w' => (∃ v er, e = .returned (.tuple #[.int .u64 v, er]) ∧ errIs (numE 10 t.data.toList) v er) ∧ IsOv w w' := by
 have inner : Calls Tryz.prog 102 #[.string t, .int .i64 10, .int .i64 64] w fun e w' => (∃ v er, e = .returned (.tuple #[.int .u64 v, er]) ∧ parsed 134 (numE 10 t.data.toList) v er) ∧ IsOv w w' := by
  by_cases hz : t.size = 0
  ·
   have ht : t = ⟨#[]⟩ := by
    obtain ⟨a⟩ := t
    have h : a.size = 0 := hz
    rw [Array.eq_empty_of_size_eq_zero h]
   subst ht
   refine (Tryz.internal_strconv_ParseUint_empty 10 64 w).mono ?_
   rintro e w' ⟨rfl, rfl⟩
   exact ⟨⟨0, _, rfl, .inr ⟨rfl, 2, .inr rfl, rfl⟩⟩, IsOv.refl _⟩
  ·
   refine (parse10_calls t hz hmax hal w).mono ?_
   rintro e w' ⟨⟨v, er, rfl, h⟩, rfl⟩
   have hl : t.data.toList.isEmpty = false := by
    have : t.data.toList.length = t.size := rfl
    cases hh : t.data.toList with
    | nil => rw [hh] at this; exact absurd this.symm hz
    | cons => rfl
   refine ⟨⟨v, er, rfl, ?_⟩, IsOv.bytes _ _ _⟩
   unfold numE
   rw [hl]
   exact h
 go_enter Tryz.func81, Tryz.ntmps81
 go_wp2_with fail
 refine inner.mono ?_
 rintro e w' ⟨⟨v, er, rfl, h⟩, hov⟩
 have hL2 := hL.of_isOv hov
 obtain ⟨ev, hv1, hv2⟩ := hL2.es
 obtain ⟨ev2, hw1, hw2⟩ := hL2.er
 have H := Lib.hid h
 rcases H.out with ⟨h1, rfl⟩ | ⟨h1, k, rfl | rfl, rfl⟩
 ·
  have HH := Lib.hid h1
  clear h h1 H hv1 hw1
  go_wp2
  go_ret2
  exact ⟨⟨v, _, rfl, .inl ⟨HH.out, rfl⟩⟩, hov⟩
 ·
  have HH := Lib.hid h1
  clear h h1 H hv1
  have Hw := Lib.hid hw1
  clear hw1
  go_wp2_with fail
  refine (Tryz.strconv_toError_range _ t _ _ ev2 w' (by omega) Hw.out hw2).mono ?_
  rintro e w2 ⟨N, rfl, _, _, hb⟩
  go_wp2
  go_ret2
  exact ⟨⟨v, _, rfl, .inr ⟨HH.out, _, _, rfl⟩⟩, hov.trans (IsOv.of_below hb)⟩
 ·
  have HH := Lib.hid h1
  clear h h1 H hw1
  have Hw := Lib.hid hv1
  clear hv1
  go_wp2_with fail
  refine (Tryz.strconv_toError_syntax _ t _ _ ev w' (by omega) Hw.out hv2).mono ?_
  rintro e w2 ⟨N, rfl, _, _, hb⟩
  go_wp2
  go_ret2
  exact ⟨⟨v, _, rfl, .inr ⟨HH.out, _, _, rfl⟩⟩, hov.trans (IsOv.of_below hb)⟩
set_option maxHeartbeats 4000000 in
theorem parse16_pub (t : ByteArray) (hmax : t.size ≤ 65536) (hal : ∀ c ∈ t.data.toList, alnumB c = true) (w : World) (hL : LaidX w) :
  Calls Tryz.prog 81 #[.string t, .int .i64 16, .int .i64 64] w fun e w' => (∃ v er, e = .returned (.tuple #[.int .u64 v, er]) ∧ errIs (numE 16 t.data.toList) v er) ∧ IsOv w w' := by
 have inner : Calls Tryz.prog 102 #[.string t, .int .i64 16, .int .i64 64] w fun e w' => (∃ v er, e = .returned (.tuple #[.int .u64 v, er]) ∧ parsed 134 (numE 16 t.data.toList) v er) ∧ IsOv w w' := by
  by_cases hz : t.size = 0
  ·
   have ht : t = ⟨#[]⟩ := by
    obtain ⟨a⟩ := t
    have h : a.size = 0 := hz
    rw [Array.eq_empty_of_size_eq_zero h]
   subst ht
   refine (Tryz.internal_strconv_ParseUint_empty 16 64 w).mono ?_
   rintro e w' ⟨rfl, rfl⟩
   exact ⟨⟨0, _, rfl, .inr ⟨rfl, 2, .inr rfl, rfl⟩⟩, IsOv.refl _⟩
  ·
   refine (parse16_calls t hz hmax hal w).mono ?_
   rintro e w' ⟨⟨v, er, rfl, h⟩, rfl⟩
   have hl : t.data.toList.isEmpty = false := by
    have : t.data.toList.length = t.size := rfl
    cases hh : t.data.toList with
    | nil => rw [hh] at this; exact absurd this.symm hz
    | cons => rfl
   refine ⟨⟨v, er, rfl, ?_⟩, IsOv.bytes _ _ _⟩
   unfold numE
   rw [hl]
   exact h
 go_enter Tryz.func81, Tryz.ntmps81
 go_wp2_with fail
 refine inner.mono ?_
 rintro e w' ⟨⟨v, er, rfl, h⟩, hov⟩
 have hL2 := hL.of_isOv hov
 obtain ⟨ev, hv1, hv2⟩ := hL2.es
 obtain ⟨ev2, hw1, hw2⟩ := hL2.er
 have H := Lib.hid h
 rcases H.out with ⟨h1, rfl⟩ | ⟨h1, k, rfl | rfl, rfl⟩
 ·
  have HH := Lib.hid h1
  clear h h1 H hv1 hw1
  go_wp2
  go_ret2
  exact ⟨⟨v, _, rfl, .inl ⟨HH.out, rfl⟩⟩, hov⟩
 ·
  have HH := Lib.hid h1
  clear h h1 H hv1
  have Hw := Lib.hid hw1
  clear hw1
  go_wp2_with fail
  refine (Tryz.strconv_toError_range _ t _ _ ev2 w' (by omega) Hw.out hw2).mono ?_
  rintro e w2 ⟨N, rfl, _, _, hb⟩
  go_wp2
  go_ret2
  exact ⟨⟨v, _, rfl, .inr ⟨HH.out, _, _, rfl⟩⟩, hov.trans (IsOv.of_below hb)⟩
 ·
  have HH := Lib.hid h1
  clear h h1 H hw1
  have Hw := Lib.hid hv1
  clear hv1
  go_wp2_with fail
  refine (Tryz.strconv_toError_syntax _ t _ _ ev w' (by omega) Hw.out hv2).mono ?_
  rintro e w2 ⟨N, rfl, _, _, hb⟩
  go_wp2
  go_ret2
  exact ⟨⟨v, _, rfl, .inr ⟨HH.out, _, _, rfl⟩⟩, hov.trans (IsOv.of_below hb)⟩
end Go.Proofs.YtdimhoilfopndaaGreatDoor
end
section
namespace Go.Proofs.YtdimhoilfopndaaGreatDoor
open Go.RowKit
theorem alnum_letter (c : UInt8) : alnumB c = (letterB (c.toNat : Int) && !((c.toNat : Int) == 95)) := by
 rw [Bool.eq_iff_iff]
 simp [alnumB, letterB, digitB]
 omega
def numV (s : ByteArray) : Option Int :=
 if Lib.hasPrefix s.data.toList [48, 120] then (if (Lib.trimPrefix s.data.toList [48, 120]).all alnumB then numE 16 (Lib.trimPrefix s.data.toList [48, 120]) else none)
 else (if s.data.toList.all alnumB then numE 10 s.data.toList else none)
set_option maxHeartbeats 400000 in
theorem Number_gives (s : ByteArray) (w : World) (hL : LaidX w) (hs : s.size ≤ 65536) : Gives Tryz.prog 53 #[.string s] w (.tuple #[.int .u64 ((numV s).getD 0), .bool (numV s).isSome]) := by
 unfold Gives
 cases hp : Lib.hasPrefix s.data.toList [48, 120]
 ·
  have hnv : numV s = if s.data.toList.all alnumB then numE 10 s.data.toList else none := by unfold numV; rw [hp]; rfl
  have HP := Lib.hid hp
  clear hp
  go_enter Tryz.func53, Tryz.ntmps53
  go_wp2_with fail
  refine (Tryz.strings_CutPrefix s ⟨#[48, 120]⟩ w).mono ?_
  rintro e w' ⟨rfl, hw⟩
  obtain rfl : w = w' := hw.symm
  rw [show Lib.hasPrefix s.data.toList (⟨#[48, 120]⟩ : ByteArray).data.toList = false from HP.out]
  generalize (⟨(Lib.trimPrefix s.data.toList (⟨#[48, 120]⟩ : ByteArray).data.toList).toArray⟩ : ByteArray) = t
  go_wp2_with fail
  go_loopw [19] (fun i wr => ∃ k : Nat, i = .int .i64 (k : Int) ∧ k ≤ s.size ∧ (∀ j (h : j < s.size), j < k → alnumB s[j] = true) ∧ IsDr w wr) (fun i wr => (s.size - intOf i).toNat)
  case atStart => exact ⟨0, rfl, Nat.zero_le _, fun j h hj => absurd hj (Nat.not_lt_zero _), by repeat (first | exact IsDr.refl _ | exact IsDr.ov _ _ _ | apply IsDr.dr | apply IsDr.drewN | apply IsDr.drew)⟩
  case round =>
   obtain ⟨k, rfl, hk, hall, d, rfl⟩ := hrel
   by_cases hlt : k < s.size
   ·
    have hlt2 : (k : Int) < s.size := by omega
    have hc := alnum_letter s[k]
    cases ha : alnumB s[k]
    ·
     rw [ha] at hc
     have hv : numV s = none := by
      rw [hnv]
      have : s.data.toList.all alnumB = false := by
       rw [List.all_eq_false]
       exact ⟨s[k], by rw [show s[k] = s.data.toList[k]'(show k < s.data.toList.length from hlt) from rfl]; exact List.getElem_mem _, by simp [ha]⟩
      rw [this]; rfl
     have HV := Lib.hid hv
     clear hv hall hnv
     cases hl : letterB (s[k].toNat : Int)
     ·
      clear hc ha
      go_wp2_with (first | (go_at_call 51; refine (letter_says _ _).mono ?_; rintro e w' ⟨rfl, x, rfl⟩))
      go_ret2
      exact ⟨by rw [HV.out]; rfl, (IsDr.isOv (by repeat (first | exact IsDr.refl _ | exact ⟨_, rfl⟩ | apply IsDr.dr | apply IsDr.drewN | apply IsDr.drew)))⟩
     ·
      rw [hl] at hc
      have h95 : (s[k].toNat : Int) = 95 := by simpa using hc
      have h95b : ((s[k].toNat : Int) == 95) = true := by simp [h95]
      clear h95 hc ha
      go_wp2_with (first | (go_at_call 51; refine (letter_says _ _).mono ?_; rintro e w' ⟨rfl, x, rfl⟩))
      go_ret2
      exact ⟨by rw [HV.out]; rfl, (IsDr.isOv (by repeat (first | exact IsDr.refl _ | exact ⟨_, rfl⟩ | apply IsDr.dr | apply IsDr.drewN | apply IsDr.drew)))⟩
    ·
     rw [ha] at hc
     have hl : letterB (s[k].toNat : Int) = true := by simp at hc; exact hc.1
     have h95 : ((s[k].toNat : Int) == 95) = false := by simp at hc; simpa using hc.2
     have H2 : Hid (∀ j (h : j < s.size), j < k + 1 → alnumB s[j] = true) := Lib.hid fun j h hj => by
      rcases Nat.lt_or_ge j k with h1 | h1
      · exact hall j h h1
      ·
       have : j = k := by omega
       subst this; exact ha
     clear hall hnv hc ha
     go_wp2_with (first | (go_at_call 51; refine (letter_says _ _).mono ?_; rintro e w' ⟨rfl, x, rfl⟩))
     go_roundw
     case rel => exact ⟨k + 1, by go_num, by omega, H2.out, by repeat (first | exact IsDr.refl _ | exact IsDr.ov _ _ _ | apply IsDr.dr | apply IsDr.drewN | apply IsDr.drew)⟩
     case measure => simp [intOf]; omega
   ·
    obtain rfl : k = s.size := by omega
    have hal : ∀ c ∈ s.data.toList, alnumB c = true := fun c hm => by
     obtain ⟨j, hj, rfl⟩ := List.getElem_of_mem hm
     have hj2 : j < s.size := hj
     exact hall j hj2 hj2
    have hv : numV s = numE 10 s.data.toList := by
     rw [hnv, List.all_eq_true.2 hal]; rfl
    have HV := Lib.hid hv
    have HA := Lib.hid hal
    clear hv hal hall hnv
    go_wp2_with fail
    refine (parse10_pub s (by omega) HA.out _ (hL.of_isOv (IsDr.isOv ⟨d, rfl⟩))).mono ?_
    rintro e w' ⟨⟨v, er, rfl, h⟩, hov⟩
    have HH := Lib.hid h
    clear h
    rcases HH.out with ⟨h1, rfl⟩ | ⟨h1, te, p, rfl⟩
    ·
     have H1 := Lib.hid h1
     clear h1 HH
     go_wp2
     go_ret2
     exact ⟨by rw [HV.out, H1.out]; rfl, (IsDr.isOv ⟨d, rfl⟩).trans hov⟩
    ·
     have H1 := Lib.hid h1
     clear h1 HH
     go_wp2
     go_ret2
     exact ⟨by rw [HV.out, H1.out]; rfl, (IsDr.isOv ⟨d, rfl⟩).trans hov⟩
 ·
  have hnv : numV s = if (Lib.trimPrefix s.data.toList [48, 120]).all alnumB then numE 16 (Lib.trimPrefix s.data.toList [48, 120]) else none := by unfold numV; rw [hp]; rfl
  have hts : (Lib.trimPrefix s.data.toList [48, 120]).length ≤ 65536 := by
   have h1 : (Lib.trimPrefix s.data.toList [48, 120]).length ≤ s.data.toList.length := by
    unfold Lib.trimPrefix; split <;> simp
   exact Nat.le_trans h1 hs
  have HP := Lib.hid hp
  clear hp
  go_enter Tryz.func53, Tryz.ntmps53
  go_wp2_with fail
  refine (Tryz.strings_CutPrefix s ⟨#[48, 120]⟩ w).mono ?_
  rintro e w' ⟨rfl, hw⟩
  obtain rfl : w = w' := hw.symm
  rw [show Lib.hasPrefix s.data.toList (⟨#[48, 120]⟩ : ByteArray).data.toList = true from HP.out]
  rw [show (⟨#[48, 120]⟩ : ByteArray).data.toList = [48, 120] from rfl]
  generalize Lib.trimPrefix s.data.toList [48, 120] = l at *
  obtain ⟨t, ht⟩ : ∃ t : ByteArray, t = ⟨l.toArray⟩ := ⟨_, rfl⟩
  have htl : t.data.toList = l := by rw [ht]
  rw [← ht]
  rw [← htl] at hnv hts
  have hs2 : t.size ≤ 65536 := hts
  clear ht htl hts
  go_wp2_with fail
  go_loopw [19] (fun i wr => ∃ k : Nat, i = .int .i64 (k : Int) ∧ k ≤ t.size ∧ (∀ j (h : j < t.size), j < k → alnumB t[j] = true) ∧ IsDr w wr) (fun i wr => (t.size - intOf i).toNat)
  case atStart => exact ⟨0, rfl, Nat.zero_le _, fun j h hj => absurd hj (Nat.not_lt_zero _), by repeat (first | exact IsDr.refl _ | exact IsDr.ov _ _ _ | apply IsDr.dr | apply IsDr.drewN | apply IsDr.drew)⟩
  case round =>
   obtain ⟨k, rfl, hk, hall, d, rfl⟩ := hrel
   by_cases hlt : k < t.size
   ·
    have hlt2 : (k : Int) < t.size := by omega
    have hc := alnum_letter t[k]
    cases ha : alnumB t[k]
    ·
     rw [ha] at hc
     have hv : numV s = none := by
      rw [hnv]
      have : t.data.toList.all alnumB = false := by
       rw [List.all_eq_false]
       exact ⟨t[k], by rw [show t[k] = t.data.toList[k]'(show k < t.data.toList.length from hlt) from rfl]; exact List.getElem_mem _, by simp [ha]⟩
      rw [this]; rfl
     have HV := Lib.hid hv
     clear hv hall hnv
     cases hl : letterB (t[k].toNat : Int)
     ·
      clear hc ha
      go_wp2_with (first | (go_at_call 51; refine (letter_says _ _).mono ?_; rintro e w' ⟨rfl, x, rfl⟩))
      go_ret2
      exact ⟨by rw [HV.out]; rfl, (IsDr.isOv (by repeat (first | exact IsDr.refl _ | exact ⟨_, rfl⟩ | apply IsDr.dr | apply IsDr.drewN | apply IsDr.drew)))⟩
     ·
      rw [hl] at hc
      have h95 : (t[k].toNat : Int) = 95 := by simpa using hc
      have h95b : ((t[k].toNat : Int) == 95) = true := by simp [h95]
      clear h95 hc ha
      go_wp2_with (first | (go_at_call 51; refine (letter_says _ _).mono ?_; rintro e w' ⟨rfl, x, rfl⟩))
      go_ret2
      exact ⟨by rw [HV.out]; rfl, (IsDr.isOv (by repeat (first | exact IsDr.refl _ | exact ⟨_, rfl⟩ | apply IsDr.dr | apply IsDr.drewN | apply IsDr.drew)))⟩
    ·
     rw [ha] at hc
     have hl : letterB (t[k].toNat : Int) = true := by simp at hc; exact hc.1
     have h95 : ((t[k].toNat : Int) == 95) = false := by simp at hc; simpa using hc.2
     have H2 : Hid (∀ j (h : j < t.size), j < k + 1 → alnumB t[j] = true) := Lib.hid fun j h hj => by
      rcases Nat.lt_or_ge j k with h1 | h1
      · exact hall j h h1
      ·
       have : j = k := by omega
       subst this; exact ha
     clear hall hnv hc ha
     go_wp2_with (first | (go_at_call 51; refine (letter_says _ _).mono ?_; rintro e w' ⟨rfl, x, rfl⟩))
     go_roundw
     case rel => exact ⟨k + 1, by go_num, by omega, H2.out, by repeat (first | exact IsDr.refl _ | exact IsDr.ov _ _ _ | apply IsDr.dr | apply IsDr.drewN | apply IsDr.drew)⟩
     case measure => simp [intOf]; omega
   ·
    obtain rfl : k = t.size := by omega
    have hal : ∀ c ∈ t.data.toList, alnumB c = true := fun c hm => by
     obtain ⟨j, hj, rfl⟩ := List.getElem_of_mem hm
     have hj2 : j < t.size := hj
     exact hall j hj2 hj2
    have hv : numV s = numE 16 t.data.toList := by
     rw [hnv, List.all_eq_true.2 hal]; rfl
    have HV := Lib.hid hv
    have HA := Lib.hid hal
    clear hv hal hall hnv
    go_wp2_with fail
    refine (parse16_pub t hs2 HA.out _ (hL.of_isOv (IsDr.isOv ⟨d, rfl⟩))).mono ?_
    rintro e w' ⟨⟨v, er, rfl, h⟩, hov⟩
    have HH := Lib.hid h
    clear h
    rcases HH.out with ⟨h1, rfl⟩ | ⟨h1, te, p, rfl⟩
    ·
     have H1 := Lib.hid h1
     clear h1 HH
     go_wp2
     go_ret2
     exact ⟨by rw [HV.out, H1.out]; rfl, (IsDr.isOv ⟨d, rfl⟩).trans hov⟩
    ·
     have H1 := Lib.hid h1
     clear h1 HH
     go_wp2
     go_ret2
     exact ⟨by rw [HV.out, H1.out]; rfl, (IsDr.isOv ⟨d, rfl⟩).trans hov⟩
end Go.Proofs.YtdimhoilfopndaaGreatDoor
end
section
namespace Go.Proofs.YtdimhoilfopndaaGreatDoor
open Go.RowKit
attribute [local go_sem ↓] load_sg
set_option maxHeartbeats 400000 in
theorem next_end (w : World) (p : Nat) (src : ByteArray) (a : Nat) (line col : Int) (hc0 : w.cell? ⟨p, 0, none⟩ = some (.string src)) (hc1 : w.cell? ⟨p, 1, none⟩ = some (.int .i64 (a : Int))) (hc2 : w.cell? ⟨p, 2, none⟩ = some (.int .i64 line)) (hc3 : w.cell? ⟨p, 3, none⟩ = some (.int .i64 col)) (hs : src.size ≤ 65536) (ha : a = src.size) :
  Gives Tryz.prog 27 #[.pointer (some ⟨p, 0, none⟩)] w (.tuple #[.agg #[.int .i64 3, .string ⟨#[]⟩, .int .u64 0, .int .i64 line, .int .i64 col], .int .i64 0]) := by
 have hb : ((a : Int) == (src.size : Int)) = true := by simp [ha]
 clear ha
 have hp : p < w.heap.size := block_lt_of_cell hc0
 have n0 := World.new_ne w _ hc0
 have n1 := World.new_ne w _ hc1
 have n2 := World.new_ne w _ hc2
 have n3 := World.new_ne w _ hc3
 unfold Gives
 go_enter Tryz.func27, Tryz.ntmps27
 go_wp2_with fail
 go_region_held3 (fun w' => w'.cell? ⟨p, 0, none⟩ = some (.string src) ∧ w'.cell? ⟨p, 1, none⟩ = some (.int .i64 (a : Int)) ∧ w'.cell? ⟨p, 2, none⟩ = some (.int .i64 line) ∧ w'.cell? ⟨p, 3, none⟩ = some (.int .i64 col)) (go_keep) (fail)
 go_wp2_with (first | (refine wp_region_dr (by kernel_rfl) (by kernel_rfl) ?_; (repeat (go_big_quiet_step ((fail)))); refine wpQuiet_nil ?_; rintro _ ⟨nq, rfl⟩))
 exact bodyPost_ret (v := .tuple #[.agg #[.int .i64 3, .string ⟨#[]⟩, .int .u64 0, .int .i64 line, .int .i64 col], .int .i64 0]) (by simp [results, Tryz.results27, go_sem, ↓IntWalk.iteOmega]) rfl ⟨rfl, by repeat (first | with_reducible exact IsOv.refl _ | with_reducible apply IsOv.dr | with_reducible apply IsOv.drewN | with_reducible apply IsOv.drew | with_reducible apply IsOv.alloc | with_reducible apply IsOv.ov)⟩
set_option maxHeartbeats 1000000 in
theorem next_name (w : World) (p : Nat) (src : ByteArray) (a : Nat) (line col : Int) (hc0 : w.cell? ⟨p, 0, none⟩ = some (.string src)) (hc1 : w.cell? ⟨p, 1, none⟩ = some (.int .i64 (a : Int))) (hc2 : w.cell? ⟨p, 2, none⟩ = some (.int .i64 line)) (hc3 : w.cell? ⟨p, 3, none⟩ = some (.int .i64 col)) (hs : src.size ≤ 65536) (hL : LaidX w) (n : Nat) (hn : 0 < n) (hsn : spanN letterB src a = n) (ha : a + n ≤ src.size) (hd : digitB (byteAt src a) = false) :
  Gives Tryz.prog 27 #[.pointer (some ⟨p, 0, none⟩)] w (.tuple #[.agg #[.int .i64 0, .string (src.extract a (a + n)), .int .u64 0, .int .i64 line, .int .i64 col], .int .i64 0]) := by
 have hb : ((a : Int) == (src.size : Int)) = false := by rw [beq_eq_false_iff_ne]; omega
 have hn0 : (0 : Int) < n := by omega
 have hi0 : (0 : Int) ≤ (a : Int) := by omega
 have hi1 : (a : Int) ≤ (a : Int) + n := by omega
 have hi2 : (a : Int) + n ≤ src.size := by omega
 have hww : IntKind.i64.wrap ((a : Int) + n) = (a : Int) + n := by rw [IntKind.wrap_i64]; omega
 have hsl : ∀ w' : World, (Instr.slice 9 (.string src) (some (.int .i64 (a : Int))) (some (.int .i64 ((a : Int) + n))) none).run Tryz.prog w' = .ok (.string (src.extract a (a + n))) w' := fun w' => by
  rw [run_slice_string (P := Tryz.prog) (w := w') 9 src .i64 .i64 a (a + n) Tryz.underlying9 hi0 hi1 hi2, Int.toNat_natCast, show ((a : Int) + n).toNat = a + n by omega]
 have hp : p < w.heap.size := block_lt_of_cell hc0
 have n0 := World.new_ne w _ hc0
 have n1 := World.new_ne w _ hc1
 have n2 := World.new_ne w _ hc2
 have n3 := World.new_ne w _ hc3
 unfold Gives
 go_enter Tryz.func27, Tryz.ntmps27
 go_wp2_with fail
 go_region_held3 (fun w' => w'.cell? ⟨p, 0, none⟩ = some (.string src) ∧ w'.cell? ⟨p, 1, none⟩ = some (.int .i64 (a : Int)) ∧ w'.cell? ⟨p, 2, none⟩ = some (.int .i64 line) ∧ w'.cell? ⟨p, 3, none⟩ = some (.int .i64 col)) (go_keep) (fail)
 go_wp2_with (first | (refine wp_region_dr (by kernel_rfl) (by kernel_rfl) ?_; (repeat (go_big_quiet_step ((fail)))); refine wpQuiet_nil ?_; rintro _ ⟨nq, rfl⟩) | (go_at_call 47; refine (while_letter _ p src a n (IsOv.cell (by repeat (first | with_reducible exact IsOv.refl _ | with_reducible apply IsOv.dr | with_reducible apply IsOv.drewN | with_reducible apply IsOv.drew | with_reducible apply IsOv.alloc | with_reducible apply IsOv.ov)) hc0) (IsOv.cell (by repeat (first | with_reducible exact IsOv.refl _ | with_reducible apply IsOv.dr | with_reducible apply IsOv.drewN | with_reducible apply IsOv.drew | with_reducible apply IsOv.alloc | with_reducible apply IsOv.ov)) hc1) hs ha (fun j h hj => spanN_all j h (by rw [hsn]; exact hj)) (fun h => by subst hsn; exact spanN_end (by omega) h)).mono ?_; rintro e w' ⟨rfl, dd, rfl⟩))
 go_region_held3 (fun w' => w'.cell? ⟨p, 0, none⟩ = some (.string src) ∧ w'.cell? ⟨p, 1, none⟩ = some (.int .i64 (a : Int))) (first | exact ⟨IsOv.cell (by repeat (first | with_reducible exact IsOv.refl _ | (with_reducible refine IsOv.setCell ?_ ?_ _; rotate_left; (first | exact Nat.le_refl _ | exact Nat.le_succ _)) | with_reducible apply IsOv.dr | with_reducible apply IsOv.drewN | with_reducible apply IsOv.drew | with_reducible apply IsOv.alloc | with_reducible apply IsOv.ov)) hc0, IsOv.cell (by repeat (first | with_reducible exact IsOv.refl _ | (with_reducible refine IsOv.setCell ?_ ?_ _; rotate_left; (first | exact Nat.le_refl _ | exact Nat.le_succ _)) | with_reducible apply IsOv.dr | with_reducible apply IsOv.drewN | with_reducible apply IsOv.drew | with_reducible apply IsOv.alloc | with_reducible apply IsOv.ov)) hc1⟩ | go_keep) (fail)
 have hts : (src.extract a (a + n)).size = n := by rw [ByteArray.size_extract]; omega
 have htd : ∀ h, digitB (((src.extract a (a + n))[0]'h).toNat : Int) = false := fun h => by
  rw [← hd, byteAt_lt (show a < src.size by omega)]
  congr 2
  rw [ByteArray.getElem_extract]
  congr 1
 generalize he : src.extract a (a + n) = t at *
 have HE := Lib.hid he
 clear he
 have h0t : (0 : Int) < t.size := by omega
 have htd2 := htd (by omega)
 go_wp2_with (first | (refine wp_region_dr (by kernel_rfl) (by kernel_rfl) ?_; (repeat (go_big_quiet_step ((fail)))); refine wpQuiet_nil ?_; rintro _ ⟨nq, rfl⟩) | (go_at_call 52; refine (digit_says _ _).mono ?_; rintro e w' ⟨rfl, x, rfl⟩))
 exact bodyPost_ret (v := .tuple #[.agg #[.int .i64 0, .string t, .int .u64 0, .int .i64 line, .int .i64 col], .int .i64 0]) (by simp [results, Tryz.results27, go_sem, ↓IntWalk.iteOmega]) rfl ⟨by rw [HE.out], by repeat (first | with_reducible exact IsOv.refl _ | (with_reducible refine IsOv.setCell ?_ ?_ _; rotate_left; (first | exact Nat.le_refl _ | exact Nat.le_succ _)) | with_reducible apply IsOv.dr | with_reducible apply IsOv.drewN | with_reducible apply IsOv.drew | with_reducible apply IsOv.alloc | with_reducible apply IsOv.ov)⟩
set_option maxHeartbeats 1000000 in
theorem next_number (w : World) (p : Nat) (src : ByteArray) (a : Nat) (line col : Int) (hc0 : w.cell? ⟨p, 0, none⟩ = some (.string src)) (hc1 : w.cell? ⟨p, 1, none⟩ = some (.int .i64 (a : Int))) (hc2 : w.cell? ⟨p, 2, none⟩ = some (.int .i64 line)) (hc3 : w.cell? ⟨p, 3, none⟩ = some (.int .i64 col)) (hs : src.size ≤ 65536) (hL : LaidX w) (n : Nat) (hn : 0 < n) (hsn : spanN letterB src a = n) (ha : a + n ≤ src.size) (hd : digitB (byteAt src a) = true) (v : Int) (hv : numV (src.extract a (a + n)) = some v) :
  Gives Tryz.prog 27 #[.pointer (some ⟨p, 0, none⟩)] w (.tuple #[.agg #[.int .i64 1, .string (src.extract a (a + n)), .int .u64 v, .int .i64 line, .int .i64 col], .int .i64 0]) := by
 have hb : ((a : Int) == (src.size : Int)) = false := by rw [beq_eq_false_iff_ne]; omega
 have hn0 : (0 : Int) < n := by omega
 have hi0 : (0 : Int) ≤ (a : Int) := by omega
 have hi1 : (a : Int) ≤ (a : Int) + n := by omega
 have hi2 : (a : Int) + n ≤ src.size := by omega
 have hww : IntKind.i64.wrap ((a : Int) + n) = (a : Int) + n := by rw [IntKind.wrap_i64]; omega
 have hsl : ∀ w' : World, (Instr.slice 9 (.string src) (some (.int .i64 (a : Int))) (some (.int .i64 ((a : Int) + n))) none).run Tryz.prog w' = .ok (.string (src.extract a (a + n))) w' := fun w' => by
  rw [run_slice_string (P := Tryz.prog) (w := w') 9 src .i64 .i64 a (a + n) Tryz.underlying9 hi0 hi1 hi2, Int.toNat_natCast, show ((a : Int) + n).toNat = a + n by omega]
 have hp : p < w.heap.size := block_lt_of_cell hc0
 have n0 := World.new_ne w _ hc0
 have n1 := World.new_ne w _ hc1
 have n2 := World.new_ne w _ hc2
 have n3 := World.new_ne w _ hc3
 unfold Gives
 go_enter Tryz.func27, Tryz.ntmps27
 go_wp2_with fail
 go_region_held3 (fun w' => w'.cell? ⟨p, 0, none⟩ = some (.string src) ∧ w'.cell? ⟨p, 1, none⟩ = some (.int .i64 (a : Int)) ∧ w'.cell? ⟨p, 2, none⟩ = some (.int .i64 line) ∧ w'.cell? ⟨p, 3, none⟩ = some (.int .i64 col)) (go_keep) (fail)
 go_wp2_with (first | (refine wp_region_dr (by kernel_rfl) (by kernel_rfl) ?_; (repeat (go_big_quiet_step ((fail)))); refine wpQuiet_nil ?_; rintro _ ⟨nq, rfl⟩) | (go_at_call 47; refine (while_letter _ p src a n (IsOv.cell (by repeat (first | with_reducible exact IsOv.refl _ | with_reducible apply IsOv.dr | with_reducible apply IsOv.drewN | with_reducible apply IsOv.drew | with_reducible apply IsOv.alloc | with_reducible apply IsOv.ov)) hc0) (IsOv.cell (by repeat (first | with_reducible exact IsOv.refl _ | with_reducible apply IsOv.dr | with_reducible apply IsOv.drewN | with_reducible apply IsOv.drew | with_reducible apply IsOv.alloc | with_reducible apply IsOv.ov)) hc1) hs ha (fun j h hj => spanN_all j h (by rw [hsn]; exact hj)) (fun h => by subst hsn; exact spanN_end (by omega) h)).mono ?_; rintro e w' ⟨rfl, dd, rfl⟩))
 go_region_held3 (fun w' => w'.cell? ⟨p, 0, none⟩ = some (.string src) ∧ w'.cell? ⟨p, 1, none⟩ = some (.int .i64 (a : Int))) (first | exact ⟨IsOv.cell (by repeat (first | with_reducible exact IsOv.refl _ | (with_reducible refine IsOv.setCell ?_ ?_ _; rotate_left; (first | exact Nat.le_refl _ | exact Nat.le_succ _)) | with_reducible apply IsOv.dr | with_reducible apply IsOv.drewN | with_reducible apply IsOv.drew | with_reducible apply IsOv.alloc | with_reducible apply IsOv.ov)) hc0, IsOv.cell (by repeat (first | with_reducible exact IsOv.refl _ | (with_reducible refine IsOv.setCell ?_ ?_ _; rotate_left; (first | exact Nat.le_refl _ | exact Nat.le_succ _)) | with_reducible apply IsOv.dr | with_reducible apply IsOv.drewN | with_reducible apply IsOv.drew | with_reducible apply IsOv.alloc | with_reducible apply IsOv.ov)) hc1⟩ | go_keep) (fail)
 have hts : (src.extract a (a + n)).size = n := by rw [ByteArray.size_extract]; omega
 have htd : ∀ h, digitB (((src.extract a (a + n))[0]'h).toNat : Int) = true := fun h => by
  rw [← hd, byteAt_lt (show a < src.size by omega)]
  congr 2
  rw [ByteArray.getElem_extract]
  congr 1
 generalize he : src.extract a (a + n) = t at *
 have HE := Lib.hid he
 clear he
 have h0t : (0 : Int) < t.size := by omega
 have htd2 := htd (by omega)
 have hv0 := Lib.hid hv
 clear hv
 go_wp2_with (first | (refine wp_region_dr (by kernel_rfl) (by kernel_rfl) ?_; (repeat (go_big_quiet_step ((fail)))); refine wpQuiet_nil ?_; rintro _ ⟨nq, rfl⟩) | (go_at_call 52; refine (digit_says _ _).mono ?_; rintro e w' ⟨rfl, x, rfl⟩) | (go_at_call 53; refine (Number_gives _ _ (hL.of_isOv (by repeat (first | with_reducible exact IsOv.refl _ | with_reducible apply IsOv.dr | with_reducible apply IsOv.drewN | with_reducible apply IsOv.drew | with_reducible apply IsOv.alloc | with_reducible apply IsOv.ov))) (by omega)).mono ?_; rintro e w' ⟨rfl, x, rfl⟩; rw [hv0.out]; dsimp only [Option.getD, Option.isSome]))
 exact bodyPost_ret (v := .tuple #[.agg #[.int .i64 1, .string t, .int .u64 v, .int .i64 line, .int .i64 col], .int .i64 0]) (by simp [results, Tryz.results27, go_sem, ↓IntWalk.iteOmega]) rfl ⟨by rw [HE.out], by repeat (first | with_reducible exact IsOv.refl _ | (with_reducible refine IsOv.setCell ?_ ?_ _; rotate_left; (first | exact Nat.le_refl _ | exact Nat.le_succ _)) | with_reducible apply IsOv.dr | with_reducible apply IsOv.drewN | with_reducible apply IsOv.drew | with_reducible apply IsOv.alloc | with_reducible apply IsOv.ov)⟩
set_option maxHeartbeats 1000000 in
theorem next_bad (w : World) (p : Nat) (src : ByteArray) (a : Nat) (line col : Int) (hc0 : w.cell? ⟨p, 0, none⟩ = some (.string src)) (hc1 : w.cell? ⟨p, 1, none⟩ = some (.int .i64 (a : Int))) (hc2 : w.cell? ⟨p, 2, none⟩ = some (.int .i64 line)) (hc3 : w.cell? ⟨p, 3, none⟩ = some (.int .i64 col)) (hs : src.size ≤ 65536) (hL : LaidX w) (n : Nat) (hn : 0 < n) (hsn : spanN letterB src a = n) (ha : a + n ≤ src.size) (hd : digitB (byteAt src a) = true) (hv : numV (src.extract a (a + n)) = none) :
  Gives Tryz.prog 27 #[.pointer (some ⟨p, 0, none⟩)] w (.tuple #[.agg #[.int .i64 0, .string (src.extract a (a + n)), .int .u64 0, .int .i64 line, .int .i64 col], .int .i64 21]) := by
 have hb : ((a : Int) == (src.size : Int)) = false := by rw [beq_eq_false_iff_ne]; omega
 have hn0 : (0 : Int) < n := by omega
 have hi0 : (0 : Int) ≤ (a : Int) := by omega
 have hi1 : (a : Int) ≤ (a : Int) + n := by omega
 have hi2 : (a : Int) + n ≤ src.size := by omega
 have hww : IntKind.i64.wrap ((a : Int) + n) = (a : Int) + n := by rw [IntKind.wrap_i64]; omega
 have hsl : ∀ w' : World, (Instr.slice 9 (.string src) (some (.int .i64 (a : Int))) (some (.int .i64 ((a : Int) + n))) none).run Tryz.prog w' = .ok (.string (src.extract a (a + n))) w' := fun w' => by
  rw [run_slice_string (P := Tryz.prog) (w := w') 9 src .i64 .i64 a (a + n) Tryz.underlying9 hi0 hi1 hi2, Int.toNat_natCast, show ((a : Int) + n).toNat = a + n by omega]
 have hp : p < w.heap.size := block_lt_of_cell hc0
 have n0 := World.new_ne w _ hc0
 have n1 := World.new_ne w _ hc1
 have n2 := World.new_ne w _ hc2
 have n3 := World.new_ne w _ hc3
 unfold Gives
 go_enter Tryz.func27, Tryz.ntmps27
 go_wp2_with fail
 go_region_held3 (fun w' => w'.cell? ⟨p, 0, none⟩ = some (.string src) ∧ w'.cell? ⟨p, 1, none⟩ = some (.int .i64 (a : Int)) ∧ w'.cell? ⟨p, 2, none⟩ = some (.int .i64 line) ∧ w'.cell? ⟨p, 3, none⟩ = some (.int .i64 col)) (go_keep) (fail)
 go_wp2_with (first | (refine wp_region_dr (by kernel_rfl) (by kernel_rfl) ?_; (repeat (go_big_quiet_step ((fail)))); refine wpQuiet_nil ?_; rintro _ ⟨nq, rfl⟩) | (go_at_call 47; refine (while_letter _ p src a n (IsOv.cell (by repeat (first | with_reducible exact IsOv.refl _ | with_reducible apply IsOv.dr | with_reducible apply IsOv.drewN | with_reducible apply IsOv.drew | with_reducible apply IsOv.alloc | with_reducible apply IsOv.ov)) hc0) (IsOv.cell (by repeat (first | with_reducible exact IsOv.refl _ | with_reducible apply IsOv.dr | with_reducible apply IsOv.drewN | with_reducible apply IsOv.drew | with_reducible apply IsOv.alloc | with_reducible apply IsOv.ov)) hc1) hs ha (fun j h hj => spanN_all j h (by rw [hsn]; exact hj)) (fun h => by subst hsn; exact spanN_end (by omega) h)).mono ?_; rintro e w' ⟨rfl, dd, rfl⟩))
 go_region_held3 (fun w' => w'.cell? ⟨p, 0, none⟩ = some (.string src) ∧ w'.cell? ⟨p, 1, none⟩ = some (.int .i64 (a : Int))) (first | exact ⟨IsOv.cell (by repeat (first | with_reducible exact IsOv.refl _ | (with_reducible refine IsOv.setCell ?_ ?_ _; rotate_left; (first | exact Nat.le_refl _ | exact Nat.le_succ _)) | with_reducible apply IsOv.dr | with_reducible apply IsOv.drewN | with_reducible apply IsOv.drew | with_reducible apply IsOv.alloc | with_reducible apply IsOv.ov)) hc0, IsOv.cell (by repeat (first | with_reducible exact IsOv.refl _ | (with_reducible refine IsOv.setCell ?_ ?_ _; rotate_left; (first | exact Nat.le_refl _ | exact Nat.le_succ _)) | with_reducible apply IsOv.dr | with_reducible apply IsOv.drewN | with_reducible apply IsOv.drew | with_reducible apply IsOv.alloc | with_reducible apply IsOv.ov)) hc1⟩ | go_keep) (fail)
 have hts : (src.extract a (a + n)).size = n := by rw [ByteArray.size_extract]; omega
 have htd : ∀ h, digitB (((src.extract a (a + n))[0]'h).toNat : Int) = true := fun h => by
  rw [← hd, byteAt_lt (show a < src.size by omega)]
  congr 2
  rw [ByteArray.getElem_extract]
  congr 1
 generalize he : src.extract a (a + n) = t at *
 have HE := Lib.hid he
 clear he
 have h0t : (0 : Int) < t.size := by omega
 have htd2 := htd (by omega)
 have hv0 := Lib.hid hv
 clear hv
 go_wp2_with (first | (refine wp_region_dr (by kernel_rfl) (by kernel_rfl) ?_; (repeat (go_big_quiet_step ((fail)))); refine wpQuiet_nil ?_; rintro _ ⟨nq, rfl⟩) | (go_at_call 52; refine (digit_says _ _).mono ?_; rintro e w' ⟨rfl, x, rfl⟩) | (go_at_call 53; refine (Number_gives _ _ (hL.of_isOv (by repeat (first | with_reducible exact IsOv.refl _ | with_reducible apply IsOv.dr | with_reducible apply IsOv.drewN | with_reducible apply IsOv.drew | with_reducible apply IsOv.alloc | with_reducible apply IsOv.ov))) (by omega)).mono ?_; rintro e w' ⟨rfl, x, rfl⟩; rw [hv0.out]; dsimp only [Option.getD, Option.isSome]))
 exact bodyPost_ret (v := .tuple #[.agg #[.int .i64 0, .string t, .int .u64 0, .int .i64 line, .int .i64 col], .int .i64 21]) (by simp [results, Tryz.results27, go_sem, ↓IntWalk.iteOmega]) rfl ⟨by rw [HE.out], by repeat (first | with_reducible exact IsOv.refl _ | (with_reducible refine IsOv.setCell ?_ ?_ _; rotate_left; (first | exact Nat.le_refl _ | exact Nat.le_succ _)) | with_reducible apply IsOv.dr | with_reducible apply IsOv.drewN | with_reducible apply IsOv.drew | with_reducible apply IsOv.alloc | with_reducible apply IsOv.ov)⟩
end Go.Proofs.YtdimhoilfopndaaGreatDoor
end
section
namespace Go.Proofs.YtdimhoilfopndaaGreatDoor
open Go.RowKit
structure Tok where
 kind : Int
 text : ByteArray
 num : Int
 line : Int
 col : Int
instance : Inhabited Tok := ⟨⟨0, ⟨#[]⟩, 0, 0, 0⟩⟩
def Tok.cells (t : Tok) : List Value := [.int .i64 t.kind, .string t.text, .int .u64 t.num, .int .i64 t.line, .int .i64 t.col]
def lcAt (src : ByteArray) (b : Nat) : Int × Int := lcI src 0 (1, 1) b
def sgFindI (l : List UInt8) : Nat → Nat → Option Nat
 | 0, _ => none
 | f + 1, i => if Lib.hasPrefix l (sgL.getD i []) then some i else sgFindI l f (i + 1)
def sgFind (l : List UInt8) : Option Nat := sgFindI l 29 0
def nextF (src : ByteArray) (a : Nat) : Tok × Int :=
 if a = src.size then (⟨3, ⟨#[]⟩, 0, (lcAt src a).1, (lcAt src a).2⟩, 0)
 else if 0 < spanN letterB src a then
  (if digitB (byteAt src a) then
   (match numV (src.extract a (a + spanN letterB src a)) with
    | some v => (⟨1, src.extract a (a + spanN letterB src a), v, (lcAt src a).1, (lcAt src a).2⟩, 0)
    | none => (⟨0, src.extract a (a + spanN letterB src a), 0, (lcAt src a).1, (lcAt src a).2⟩, 21))
  else (⟨0, src.extract a (a + spanN letterB src a), 0, (lcAt src a).1, (lcAt src a).2⟩, 0))
 else (match sgFind (src.data.toList.drop a) with
  | some i => (⟨2, sgAt i, 0, (lcAt src a).1, (lcAt src a).2⟩, 0)
  | none => (⟨3, ⟨#[]⟩, 0, (lcAt src a).1, (lcAt src a).2⟩, 20))
structure LexA where
 toks : List Tok
 line : Int
 col : Int
 err : Int
def LexA.cons (t : Tok) (r : LexA) : LexA := if r.err = 0 then ⟨t :: r.toks, r.line, r.col, r.err⟩ else r
def lexF : Nat → ByteArray → Nat → Option LexA
 | 0, _, _ => none
 | f + 1, src, a => match skipF (src.size + 1) src a with
  | none => none
  | some b =>
   if (nextF src b).2 = 0 then
    (if (nextF src b).1.kind = 3 then some ⟨[(nextF src b).1], 0, 0, 0⟩
    else (lexF f src (b + (nextF src b).1.text.size)).map (LexA.cons (nextF src b).1))
   else some ⟨[], (nextF src b).1.line, (nextF src b).1.col, (nextF src b).2⟩
def lexR (src : ByteArray) : LexA := if 65536 < src.size then ⟨[], 0, 0, 22⟩ else (lexF (src.size + 1) src 0).getD ⟨[], 0, 0, 22⟩
theorem pre2_iff (src : ByteArray) (a : Nat) : pre2 src a = true ↔ a + 1 < src.size ∧ byteAt src a = 47 ∧ byteAt src (a + 1) = 47 := by
 unfold pre2
 have hsz : src.size = src.data.toList.length := Array.length_toList.symm
 have hb : ∀ i, i < src.size → byteAt src i = ((src.data.toList.getD i 0).toNat : Int) := fun i hi => by
  rw [byteAt_lt hi]
  congr 2
  rw [List.getD_eq_getElem?_getD, List.getElem?_eq_getElem (by omega)]
  simp [ByteArray.getElem_eq_getElem_data]
 by_cases h : a + 1 < src.size
 ·
  rw [List.drop_eq_getElem_cons (by omega), List.drop_eq_getElem_cons (by omega)]
  rw [hb a (by omega), hb (a + 1) h]
  rw [List.getD_eq_getElem?_getD, List.getElem?_eq_getElem (by omega), List.getD_eq_getElem?_getD, List.getElem?_eq_getElem (by omega)]
  generalize src.data.toList[a]'(by omega) = x
  generalize src.data.toList[a + 1]'(by omega) = y
  simp only [Lib.hasPrefix, Option.getD_some]
  constructor
  ·
   intro h2
   simp at h2
   obtain ⟨rfl, rfl⟩ := h2
   exact ⟨h, rfl, rfl⟩
  ·
   rintro ⟨_, h1, h2⟩
   have h1 : x = 47 := UInt8.toNat_inj.1 (by simpa using (Int.ofNat.inj h1))
   have h2 : y = 47 := UInt8.toNat_inj.1 (by simpa using (Int.ofNat.inj h2))
   simp [h1, h2]
 ·
  constructor
  ·
   intro h2
   exfalso
   have : (List.drop a src.data.toList).length < 2 := by rw [List.length_drop]; omega
   revert h2
   generalize List.drop a src.data.toList = l at *
   match l, this with
   | [], _ => simp [Lib.hasPrefix]
   | [x], _ => simp [Lib.hasPrefix]
  · rintro ⟨h1, _⟩; omega
theorem spanI_succ {p : Int → Bool} {src : ByteArray} {f a : Nat} (h : a < src.size) (hp : p (byteAt src a) = true) : spanI p src (f + 1) a = 1 + spanI p src f (a + 1) := by
 simp [spanI, h, hp]
theorem spanN_pos {p : Int → Bool} {src : ByteArray} {a : Nat} (h : a < src.size) (hp : p (byteAt src a) = true) : spanN p src a = 1 + spanN p src (a + 1) := by
 unfold spanN
 rw [show src.size - a = (src.size - (a + 1)) + 1 by omega, spanI_succ h hp]
theorem skipF_some (src : ByteArray) : ∀ (f a : Nat), a ≤ src.size → src.size - a < f → ∃ b, skipF f src a = some b ∧ a ≤ b ∧ b ≤ src.size
 | 0, a, _, h => by omega
 | f + 1, a, ha, h => by
  have q1 := spanN_le (p := spaceB) ha
  simp only [skipF]
  generalize spanN spaceB src a = n at *
  split
  ·
   rename_i hp
   obtain ⟨h1, h2, h3⟩ := (pre2_iff _ _).1 hp
   have q2 := spanN_le (p := lineB) q1
   have q3 := spanN_pos (p := lineB) (src := src) (a := a + n) (by omega) (by rw [h2]; rfl)
   obtain ⟨b, hb, h4, h5⟩ := skipF_some src f (a + n + spanN lineB src (a + n)) q2 (by omega)
   exact ⟨b, hb, by omega, h5⟩
  · exact ⟨_, rfl, by omega, q1⟩
theorem sgFindI_some {l : List UInt8} : ∀ {f i j : Nat}, sgFindI l f i = some j → i ≤ j ∧ j < i + f ∧ Lib.hasPrefix l (sgL.getD j []) = true
 | 0, i, j, h => by simp [sgFindI] at h
 | f + 1, i, j, h => by
  simp only [sgFindI] at h
  split at h
  ·
   obtain rfl := Option.some.inj h
   exact ⟨Nat.le_refl _, by omega, by assumption⟩
  ·
   have := sgFindI_some h
   exact ⟨by omega, by omega, this.2.2⟩
theorem sgFindI_before {l : List UInt8} : ∀ {f i j : Nat}, sgFindI l f i = some j → ∀ k, i ≤ k → k < j → Lib.hasPrefix l (sgL.getD k []) = false
 | 0, i, j, h => by simp [sgFindI] at h
 | f + 1, i, j, h => by
  intro k h1 h2
  simp only [sgFindI] at h
  split at h
  ·
   obtain rfl := Option.some.inj h
   omega
  ·
   rename_i hp
   by_cases e : i = k
   · subst e; simpa using hp
   · exact sgFindI_before h k (by omega) h2
theorem sgFindI_none {l : List UInt8} : ∀ {f i : Nat}, sgFindI l f i = none → ∀ k, i ≤ k → k < i + f → Lib.hasPrefix l (sgL.getD k []) = false
 | 0, i, h => fun k h1 h2 => by omega
 | f + 1, i, h => by
  intro k h1 h2
  simp only [sgFindI] at h
  split at h
  · cases h
  ·
   rename_i hp
   by_cases e : i = k
   · subst e; simpa using hp
   · exact sgFindI_none h k (by omega) (by omega)
theorem sgL_pos : ∀ j, j < 29 → 0 < (sgL.getD j []).length ∧ (sgL.getD j []).length ≤ 2 := by decide
theorem sgAt_size (j : Nat) : (sgAt j).size = (sgL.getD j []).length := by simp [sgAt, ByteArray.size]
theorem hasPrefix_len : ∀ {l p : List UInt8}, Lib.hasPrefix l p = true → p.length ≤ l.length
 | l, [], _ => Nat.zero_le _
 | [], _ :: _, h => by simp [Lib.hasPrefix] at h
 | _ :: l, _ :: p, h => by
  simp [Lib.hasPrefix] at h
  have := hasPrefix_len (l := l) (p := p) (by simpa [Lib.hasPrefix] using h.2)
  simpa using this
theorem nextF_size {src : ByteArray} {a : Nat} (ha : a ≤ src.size) (h0 : (nextF src a).2 = 0) (hk : (nextF src a).1.kind ≠ 3) : 0 < (nextF src a).1.text.size ∧ a + (nextF src a).1.text.size ≤ src.size := by
 have q := spanN_le (p := letterB) ha
 have hx : (src.extract a (a + spanN letterB src a)).size = spanN letterB src a := by rw [ByteArray.size_extract]; omega
 unfold nextF at h0 hk ⊢
 split
 · rename_i h; simp [h] at hk
 ·
  rename_i h
  rw [if_neg h] at h0 hk
  split
  ·
   rename_i h2
   rw [if_pos h2] at h0 hk
   split
   ·
    rename_i h3
    rw [if_pos h3] at h0 hk
    split
    · dsimp only; omega
    · rename_i h4; simp [h4] at h0
   · dsimp only; omega
  ·
   rename_i h2
   rw [if_neg h2] at h0 hk
   split
   ·
    rename_i i hi
    have := sgFindI_some hi
    have h4 := hasPrefix_len this.2.2
    have h5 := sgL_pos i (by omega)
    have hsz : src.size = src.data.toList.length := Array.length_toList.symm
    rw [List.length_drop] at h4
    dsimp only
    rw [sgAt_size]
    omega
   · rename_i hi; simp [hi] at h0
theorem lexF_some (src : ByteArray) : ∀ (f a : Nat), a ≤ src.size → src.size - a < f → ∃ r, lexF f src a = some r
 | 0, a, _, h => by omega
 | f + 1, a, ha, h => by
  obtain ⟨b, hb, h1, h2⟩ := skipF_some src (src.size + 1) a ha (by omega)
  simp only [lexF, hb]
  split
  ·
   rename_i h0
   split
   · exact ⟨_, rfl⟩
   ·
    rename_i hk
    have hz := nextF_size h2 h0 hk
    obtain ⟨r, hr⟩ := lexF_some src f (b + (nextF src b).1.text.size) hz.2 (by omega)
    rw [hr]; exact ⟨_, rfl⟩
  · exact ⟨_, rfl⟩
end Go.Proofs.YtdimhoilfopndaaGreatDoor
end
section
namespace Go.Proofs.YtdimhoilfopndaaGreatDoor
open Go.RowKit
attribute [local go_sem ↓] load_sg
theorem sgFind_some {l : List UInt8} {k : Nat} (hk : k < 29) (hall : ∀ j, j < k → Lib.hasPrefix l (sgL.getD j []) = false) (h : Lib.hasPrefix l (sgL.getD k []) = true) : sgFind l = some k := by
 cases hc : sgFind l with
 | none => have := sgFindI_none hc k (Nat.zero_le _) (by omega); rw [h] at this; cases this
 | some j =>
  have h1 := sgFindI_some hc
  congr 1
  rcases Nat.lt_trichotomy j k with h2 | h2 | h2
  · have := hall j h2; rw [h1.2.2] at this; cases this
  · exact h2
  · have := sgFindI_before hc k (Nat.zero_le _) h2; rw [h] at this; cases this
theorem sgFind_none {l : List UInt8} (hall : ∀ j, j < 29 → Lib.hasPrefix l (sgL.getD j []) = false) : sgFind l = none := by
 cases hc : sgFind l with
 | none => rfl
 | some j =>
  have h1 := sgFindI_some hc
  have := hall j (by omega); rw [h1.2.2] at this; cases this
def signV (r : Option Nat) (line col : Int) : Value :=
 match r with
 | some i => .tuple #[.agg #[.int .i64 2, .string (sgAt i), .int .u64 0, .int .i64 line, .int .i64 col], .int .i64 0]
 | none => .tuple #[.agg #[.int .i64 3, .string ⟨#[]⟩, .int .u64 0, .int .i64 line, .int .i64 col], .int .i64 20]
set_option maxHeartbeats 1000000 in
theorem next_sign (w : World) (p : Nat) (src : ByteArray) (a : Nat) (line col : Int) (hc0 : w.cell? ⟨p, 0, none⟩ = some (.string src)) (hc1 : w.cell? ⟨p, 1, none⟩ = some (.int .i64 (a : Int))) (hc2 : w.cell? ⟨p, 2, none⟩ = some (.int .i64 line)) (hc3 : w.cell? ⟨p, 3, none⟩ = some (.int .i64 col)) (hs : src.size ≤ 65536) (hL : LaidX w) (hsn : spanN letterB src a = 0) (ha : a < src.size) :
  Gives Tryz.prog 27 #[.pointer (some ⟨p, 0, none⟩)] w (signV (sgFind (src.data.toList.drop a)) line col) := by
 have hb : ((a : Int) == (src.size : Int)) = false := by rw [beq_eq_false_iff_ne]; omega
 have hi0 : (0 : Int) ≤ (a : Int) := by omega
 have hi2 : (a : Int) ≤ src.size := by omega
 have hp : p < w.heap.size := block_lt_of_cell hc0
 have n0 := World.new_ne w _ hc0
 have n1 := World.new_ne w _ hc1
 have n2 := World.new_ne w _ hc2
 have n3 := World.new_ne w _ hc3
 unfold Gives
 go_enter Tryz.func27, Tryz.ntmps27
 go_wp2_with fail
 go_region_held3 (fun w' => w'.cell? ⟨p, 0, none⟩ = some (.string src) ∧ w'.cell? ⟨p, 1, none⟩ = some (.int .i64 (a : Int)) ∧ w'.cell? ⟨p, 2, none⟩ = some (.int .i64 line) ∧ w'.cell? ⟨p, 3, none⟩ = some (.int .i64 col)) (go_keep) (fail)
 go_wp2_with (first | (refine wp_region_dr (by kernel_rfl) (by kernel_rfl) ?_; (repeat (go_big_quiet_step ((fail)))); refine wpQuiet_nil ?_; rintro _ ⟨nq, rfl⟩) | (go_at_call 47; refine (while_letter _ p src a 0 (IsOv.cell (by repeat (first | with_reducible exact IsOv.refl _ | with_reducible apply IsOv.dr | with_reducible apply IsOv.drewN | with_reducible apply IsOv.drew | with_reducible apply IsOv.alloc | with_reducible apply IsOv.ov)) hc0) (IsOv.cell (by repeat (first | with_reducible exact IsOv.refl _ | with_reducible apply IsOv.dr | with_reducible apply IsOv.drewN | with_reducible apply IsOv.drew | with_reducible apply IsOv.alloc | with_reducible apply IsOv.ov)) hc1) hs (by omega) (fun j h hj => spanN_all j h (by rw [hsn]; exact hj)) (fun h => by have := spanN_end (p := letterB) (show a ≤ src.size by omega) (by rw [hsn]; exact h); simpa [hsn] using this)).mono ?_; rintro e w' ⟨rfl, dd, hw⟩; simp only [World.dr_dr] at hw; have hL2 : LaidX w' := hL.of_isOv (by rw [hw]; repeat (first | with_reducible exact IsOv.refl _ | with_reducible apply IsOv.dr | with_reducible apply IsOv.drewN | with_reducible apply IsOv.drew | with_reducible apply IsOv.alloc | with_reducible apply IsOv.ov)); subst hw))
 go_loopw [69] (fun i wr => ∃ k d : Nat, i = .int .i64 (k : Int) ∧ k ≤ 29 ∧ Hid (∀ j, j < k → Lib.hasPrefix (src.data.toList.drop a) (sgL.getD j []) = false) ∧ wr = (((w.alloc (.cells #[.int .i64 0, .string ⟨#[]⟩, .int .u64 0, .int .i64 0, .int .i64 0] 60)).alloc (.cells #[.int .i64 3, .string ⟨#[]⟩, .int .u64 0, .int .i64 line, .int .i64 col] 60)).drew).dr d) (fun i wr => (29 - intOf i).toNat)
 case atStart => exact ⟨0, _, rfl, Nat.zero_le _, fun j hj => absurd hj (Nat.not_lt_zero _), rfl⟩
 case round =>
  obtain ⟨k, d, rfl, hk, hall, rfl⟩ := hrel
  by_cases hlt : k < 29
  ·
   have hi := sg_index k hlt
   have hlt2 : (k : Int) < 29 := by omega
   cases hc : Lib.hasPrefix (src.data.toList.drop a) (sgL.getD k [])
   ·
    have H2 : Hid (∀ j, j < k + 1 → Lib.hasPrefix (src.data.toList.drop a) (sgL.getD j []) = false) := Lib.hid fun j hj => by
     rcases Nat.lt_or_ge j k with h1 | h1
     · exact hall.out j h1
     ·
      have : j = k := by omega
      subst this; exact hc
    have hsay : ∀ w', Says Tryz.prog 49 #[.string (src.extract a src.size), .string (sgAt k)] w' (.bool false) := fun w' => by
     have := prefix_says src (sgAt k) a w'
     rwa [show Lib.hasPrefix (src.data.toList.drop a) (sgAt k).data.toList = false from hc] at this
    clear hc hall
    go_wp2_with (first | (refine wp_region_dr (by kernel_rfl) (by kernel_rfl) ?_; (repeat (go_big_quiet_step (((go_at_call 49; exact (hsay _).quiet))))); refine wpQuiet_nil ?_; rintro _ ⟨nq, rfl⟩))
    go_roundw
    case rel => exact ⟨k + 1, _, by go_num, by omega, H2, rfl⟩
    case measure => simp [intOf]; omega
   ·
    have HV := Lib.hid (sgFind_some hlt hall.out hc)
    have hsay : ∀ w', Says Tryz.prog 49 #[.string (src.extract a src.size), .string (sgAt k)] w' (.bool true) := fun w' => by
     have := prefix_says src (sgAt k) a w'
     rwa [show Lib.hasPrefix (src.data.toList.drop a) (sgAt k).data.toList = true from hc] at this
    clear hc hall
    go_wp2_with (first | (refine wp_region_dr (by kernel_rfl) (by kernel_rfl) ?_; (repeat (go_big_quiet_step (((go_at_call 49; exact (hsay _).quiet))))); refine wpQuiet_nil ?_; rintro _ ⟨nq, rfl⟩))
    exact bodyPost_ret (v := .tuple #[.agg #[.int .i64 2, .string (sgAt k), .int .u64 0, .int .i64 line, .int .i64 col], .int .i64 0]) (by simp [results, Tryz.results27, go_sem, ↓IntWalk.iteOmega]) rfl ⟨by rw [HV.out]; rfl, by repeat (first | with_reducible exact IsOv.refl _ | (with_reducible refine IsOv.setCell ?_ ?_ _; rotate_left; (first | exact Nat.le_refl _ | exact Nat.le_succ _)) | with_reducible apply IsOv.dr | with_reducible apply IsOv.drewN | with_reducible apply IsOv.drew | with_reducible apply IsOv.alloc | with_reducible apply IsOv.ov)⟩
  ·
   obtain rfl : k = 29 := by omega
   have HV := Lib.hid (sgFind_none hall.out)
   clear hall
   go_wp2_with fail
   exact bodyPost_ret (v := .tuple #[.agg #[.int .i64 3, .string ⟨#[]⟩, .int .u64 0, .int .i64 line, .int .i64 col], .int .i64 20]) (by simp [results, Tryz.results27, go_sem, ↓IntWalk.iteOmega]) rfl ⟨by rw [HV.out]; rfl, by repeat (first | with_reducible exact IsOv.refl _ | (with_reducible refine IsOv.setCell ?_ ?_ _; rotate_left; (first | exact Nat.le_refl _ | exact Nat.le_succ _)) | with_reducible apply IsOv.dr | with_reducible apply IsOv.drewN | with_reducible apply IsOv.drew | with_reducible apply IsOv.alloc | with_reducible apply IsOv.ov)⟩
end Go.Proofs.YtdimhoilfopndaaGreatDoor
end
section
namespace Go.Proofs.YtdimhoilfopndaaGreatDoor
open Go.RowKit
structure Tk where
 kind : Int
 text : List UInt8
 num : Int
instance : Inhabited Tk := ⟨⟨0, [], 0⟩⟩
def Tok.bare (t : Tok) : Tk := ⟨t.kind, t.text.data.toList, t.num⟩
def spc (c : UInt8) : Bool := spaceB (c.toNat : Int)
def ltr (c : UInt8) : Bool := letterB (c.toNat : Int)
def lin (c : UInt8) : Bool := lineB (c.toNat : Int)
def dgt (c : UInt8) : Bool := digitB (c.toNat : Int)
theorem size_list (s : ByteArray) : s.size = s.data.toList.length := Array.length_toList.symm
theorem drop_byte {s : ByteArray} {a : Nat} (h : a < s.size) : ∃ c, s.data.toList.drop a = c :: s.data.toList.drop (a + 1) ∧ byteAt s a = (c.toNat : Int) := by
 have hl : a < s.data.toList.length := by rw [← size_list]; exact h
 refine ⟨s.data.toList[a], List.drop_eq_getElem_cons hl, ?_⟩
 rw [byteAt_lt h]
 simp [ByteArray.getElem_eq_getElem_data]
theorem spanI_list (p : Int → Bool) (s : ByteArray) : ∀ (f a : Nat), a + f = s.size → spanI p s f a = ((s.data.toList.drop a).takeWhile (fun c => p (c.toNat : Int))).length
 | 0, a, h => by
  rw [List.drop_eq_nil_of_le (by rw [← size_list]; omega)]; rfl
 | f + 1, a, h => by
  obtain ⟨c, hc, hb⟩ := drop_byte (s := s) (a := a) (by omega)
  have ih := spanI_list p s f (a + 1) (by omega)
  simp only [spanI]
  rw [if_pos (by omega), hc, hb]
  by_cases hp : p (c.toNat : Int) = true
  · rw [if_pos hp, List.takeWhile_cons_of_pos (by exact hp), List.length_cons, ih]; omega
  · rw [if_neg hp, List.takeWhile_cons_of_neg (by exact hp)]; rfl
theorem spanN_list (p : Int → Bool) (s : ByteArray) {a : Nat} (h : a ≤ s.size) : spanN p s a = ((s.data.toList.drop a).takeWhile (fun c => p (c.toNat : Int))).length := spanI_list p s _ a (by omega)
theorem drop_takeWhile_len {α : Type} (p : α → Bool) : ∀ l : List α, l.drop (l.takeWhile p).length = l.dropWhile p
 | [] => rfl
 | c :: l => by
  by_cases h : p c = true
  · rw [List.takeWhile_cons_of_pos h, List.dropWhile_cons_of_pos h]; exact drop_takeWhile_len p l
  · rw [List.takeWhile_cons_of_neg h, List.dropWhile_cons_of_neg h]; rfl
theorem dropWhile_len {α : Type} (p : α → Bool) (l : List α) : (l.dropWhile p).length ≤ l.length := by rw [← drop_takeWhile_len]; simp
def skipL : Nat → List UInt8 → Option (List UInt8)
 | 0, _ => none
 | f + 1, l => if Lib.hasPrefix (l.dropWhile spc) [47, 47] then skipL f ((l.dropWhile spc).dropWhile lin) else some (l.dropWhile spc)
theorem drop_span (p : Int → Bool) (s : ByteArray) {a : Nat} (h : a ≤ s.size) : s.data.toList.drop (a + spanN p s a) = (s.data.toList.drop a).dropWhile (fun c => p (c.toNat : Int)) := by
 rw [← drop_takeWhile_len, ← spanN_list p s h, List.drop_drop]
theorem skipF_list (s : ByteArray) : ∀ (f a b : Nat), a ≤ s.size → skipF f s a = some b → skipL f (s.data.toList.drop a) = some (s.data.toList.drop b)
 | 0, a, b, _, h => by simp [skipF] at h
 | f + 1, a, b, ha, h => by
  have q1 := spanN_le (p := spaceB) ha
  have e1 : (s.data.toList.drop a).dropWhile spc = s.data.toList.drop (a + spanN spaceB s a) := (drop_span spaceB s ha).symm
  simp only [skipF] at h
  simp only [skipL]
  rw [e1]
  by_cases hp : pre2 s (a + spanN spaceB s a) = true
  ·
   rw [if_pos hp] at h
   have q2 := spanN_le (p := lineB) q1
   have e2 : (s.data.toList.drop (a + spanN spaceB s a)).dropWhile lin = s.data.toList.drop (a + spanN spaceB s a + spanN lineB s (a + spanN spaceB s a)) := (drop_span lineB s q1).symm
   rw [if_pos (by exact hp), e2]
   exact skipF_list s f _ b q2 h
  ·
   rw [if_neg hp] at h
   obtain rfl := Option.some.inj h
   rw [if_neg (by exact hp)]
theorem skipL_mono : ∀ (f : Nat) (l r : List UInt8), skipL f l = some r → ∀ g, f ≤ g → skipL g l = some r
 | 0, l, r, h, _, _ => by simp [skipL] at h
 | f + 1, l, r, h, 0, hg => by omega
 | f + 1, l, r, h, g + 1, hg => by
  simp only [skipL] at h ⊢
  split at h
  ·
   rename_i hp
   rw [if_pos hp]; exact skipL_mono f _ r h g (by omega)
  ·
   rename_i hp
   rw [if_neg hp]; exact h
theorem prefix2 {l : List UInt8} (h : Lib.hasPrefix l [47, 47] = true) : ∃ r, l = 47 :: 47 :: r := by
 match l, h with
 | [], h => simp [Lib.hasPrefix] at h
 | [a], h => simp [Lib.hasPrefix] at h
 | a :: b :: r, h =>
  simp [Lib.hasPrefix] at h
  obtain ⟨rfl, rfl⟩ := h
  exact ⟨r, rfl⟩
theorem skipL_some : ∀ (f : Nat) (l : List UInt8), l.length < f → ∃ r, skipL f l = some r ∧ r.length ≤ l.length
 | 0, l, h => by omega
 | f + 1, l, h => by
  have q := dropWhile_len spc l
  simp only [skipL]
  split
  ·
   rename_i hp
   obtain ⟨r, hr⟩ := prefix2 hp
   have q2 := dropWhile_len lin (47 :: 47 :: r)
   have q3 : ((47 :: 47 :: r : List UInt8).dropWhile lin).length < (47 :: 47 :: r : List UInt8).length := by
    rw [List.dropWhile_cons_of_pos (by decide)]
    have := dropWhile_len lin (47 :: r)
    simp only [List.length_cons] at this ⊢; omega
   rw [hr] at q ⊢
   obtain ⟨r2, h2, h3⟩ := skipL_some f ((47 :: 47 :: r).dropWhile lin) (by omega)
   exact ⟨r2, h2, by omega⟩
  · exact ⟨_, rfl, q⟩
def skp (l : List UInt8) : List UInt8 := (skipL (l.length + 1) l).getD []
theorem skp_of {f : Nat} {l r : List UInt8} (h : skipL f l = some r) : skp l = r := by
 obtain ⟨r2, h2, _⟩ := skipL_some (l.length + 1) l (by omega)
 have a1 := skipL_mono f l r h (max f (l.length + 1)) (Nat.le_max_left _ _)
 have a2 := skipL_mono _ l r2 h2 (max f (l.length + 1)) (Nat.le_max_right _ _)
 have e : r2 = r := Option.some.inj (a2.symm.trans a1)
 unfold skp
 rw [h2, e]; rfl
theorem skp_len (l : List UInt8) : (skp l).length ≤ l.length := by
 obtain ⟨r2, h2, h3⟩ := skipL_some (l.length + 1) l (by omega)
 rw [skp_of h2]; exact h3
theorem skp_eq (l : List UInt8) : skp l = if Lib.hasPrefix (l.dropWhile spc) [47, 47] then skp ((l.dropWhile spc).dropWhile lin) else l.dropWhile spc := by
 obtain ⟨r2, h2, _⟩ := skipL_some (l.length + 1) l (by omega)
 rw [skp_of h2]
 simp only [skipL] at h2
 split at h2
 ·
  rename_i hp
  rw [if_pos hp, skp_of h2]
 ·
  rename_i hp
  rw [if_neg hp]; exact (Option.some.inj h2).symm
theorem skp_cons_spc {c : UInt8} (h : spc c = true) (l : List UInt8) : skp (c :: l) = skp l := by
 rw [skp_eq, skp_eq l, List.dropWhile_cons_of_pos h]
def numL (l : List UInt8) : Option Int :=
 if Lib.hasPrefix l [48, 120] then (if (Lib.trimPrefix l [48, 120]).all alnumB then numE 16 (Lib.trimPrefix l [48, 120]) else none)
 else (if l.all alnumB then numE 10 l else none)
theorem numL_eq (s : ByteArray) : numV s = numL s.data.toList := rfl
def nextL (l : List UInt8) : Option Tk :=
 match l with
 | [] => some ⟨3, [], 0⟩
 | c :: r =>
  if ltr c then
   (if dgt c then (match numL ((c :: r).takeWhile ltr) with
    | some v => some ⟨1, (c :: r).takeWhile ltr, v⟩
    | none => none)
   else some ⟨0, (c :: r).takeWhile ltr, 0⟩)
  else (match sgFind (c :: r) with
   | some i => some ⟨2, sgL.getD i [], 0⟩
   | none => none)
theorem extract_take (s : ByteArray) (a n : Nat) : (s.extract a (a + n)).data.toList = (s.data.toList.drop a).take n := by
 rw [ByteArray.data_extract, Array.toList_extract]
 simp only [List.extract]
 rw [show a + n - a = n by omega]
theorem takeWhile_take {α : Type} (p : α → Bool) : ∀ l : List α, l.take (l.takeWhile p).length = l.takeWhile p
 | [] => rfl
 | c :: l => by
  by_cases h : p c = true
  · rw [List.takeWhile_cons_of_pos h, List.length_cons, List.take_succ_cons, takeWhile_take p l]
  · rw [List.takeWhile_cons_of_neg h]; rfl
theorem nextF_list (s : ByteArray) (a : Nat) (ha : a ≤ s.size) : nextL (s.data.toList.drop a) = if (nextF s a).2 = 0 then some (nextF s a).1.bare else none := by
 by_cases h : a = s.size
 ·
  have hn : nextF s a = (⟨3, ⟨#[]⟩, 0, (lcAt s a).1, (lcAt s a).2⟩, 0) := by unfold nextF; rw [if_pos h]
  rw [hn, List.drop_eq_nil_of_le (by rw [← size_list]; omega)]; rfl
 ·
  obtain ⟨c, hc, hb⟩ := drop_byte (s := s) (a := a) (by omega)
  have hsp : spanN letterB s a = ((s.data.toList.drop a).takeWhile ltr).length := spanN_list letterB s ha
  have hx : (s.extract a (a + spanN letterB s a)).data.toList = (s.data.toList.drop a).takeWhile ltr := by rw [extract_take, hsp, takeWhile_take]
  have hd0 : digitB (byteAt s a) = dgt c := by rw [hb]; rfl
  have hnx : nextL (s.data.toList.drop a) = if ltr c then
    (if dgt c then (match numL ((s.data.toList.drop a).takeWhile ltr) with
     | some v => some ⟨1, (s.data.toList.drop a).takeWhile ltr, v⟩
     | none => none)
    else some ⟨0, (s.data.toList.drop a).takeWhile ltr, 0⟩)
   else (match sgFind (s.data.toList.drop a) with
    | some i => some ⟨2, sgL.getD i [], 0⟩
    | none => none) := by rw [hc]; rfl
  rw [hnx]
  by_cases hl : ltr c = true
  ·
   have hpos : 0 < spanN letterB s a := by rw [hsp, hc, List.takeWhile_cons_of_pos hl]; simp
   rw [if_pos hl]
   cases hd : dgt c
   ·
    have hn : nextF s a = (⟨0, s.extract a (a + spanN letterB s a), 0, (lcAt s a).1, (lcAt s a).2⟩, 0) := by unfold nextF; rw [if_neg h, if_pos hpos, hd0, hd]; rfl
    rw [hn]
    simp only [Bool.false_eq_true, if_false, if_true, Tok.bare]
    rw [hx]
   ·
    cases hv : numV (s.extract a (a + spanN letterB s a)) with
    | none =>
     have hn : nextF s a = (⟨0, s.extract a (a + spanN letterB s a), 0, (lcAt s a).1, (lcAt s a).2⟩, 21) := by unfold nextF; rw [if_neg h, if_pos hpos, hd0, hd, hv]; rfl
     rw [numL_eq, hx] at hv
     rw [hn, hv]; rfl
    | some v =>
     have hn : nextF s a = (⟨1, s.extract a (a + spanN letterB s a), v, (lcAt s a).1, (lcAt s a).2⟩, 0) := by unfold nextF; rw [if_neg h, if_pos hpos, hd0, hd, hv]; rfl
     rw [numL_eq, hx] at hv
     rw [hn, hv]
     simp only [if_true, Tok.bare]
     rw [hx]
  ·
   have hz : ¬ 0 < spanN letterB s a := by rw [hsp, hc, List.takeWhile_cons_of_neg hl]; simp
   rw [if_neg hl]
   cases hg : sgFind (s.data.toList.drop a) with
   | none =>
    have hn : nextF s a = (⟨3, ⟨#[]⟩, 0, (lcAt s a).1, (lcAt s a).2⟩, 20) := by unfold nextF; rw [if_neg h, if_neg hz, hg]
    rw [hn]; rfl
   | some i =>
    have hn : nextF s a = (⟨2, sgAt i, 0, (lcAt s a).1, (lcAt s a).2⟩, 0) := by unfold nextF; rw [if_neg h, if_neg hz, hg]
    rw [hn]; rfl
def lexL : Nat → List UInt8 → Option (List Tk)
 | 0, _ => none
 | f + 1, l => match nextL (skp l) with
  | none => none
  | some t => if t.kind = 3 then some [t] else (lexL f ((skp l).drop t.text.length)).map (t :: ·)
theorem nextL_pos {l : List UInt8} {t : Tk} (h : nextL l = some t) (hk : t.kind ≠ 3) : 0 < t.text.length ∧ t.text.length ≤ l.length := by
 match l, h with
 | [], h =>
  obtain rfl := Option.some.inj h
  exact absurd rfl hk
 | c :: r, h =>
  simp only [nextL] at h
  have hlen : ((c :: r).takeWhile ltr).length ≤ (c :: r).length := by
   have := List.takeWhile_append_dropWhile (p := ltr) (l := c :: r)
   have := congrArg List.length this
   rw [List.length_append] at this; omega
  split at h
  ·
   rename_i hl
   have hpos : 0 < ((c :: r).takeWhile ltr).length := by rw [List.takeWhile_cons_of_pos hl]; simp
   split at h
   ·
    split at h
    · obtain rfl := Option.some.inj h; exact ⟨hpos, hlen⟩
    · cases h
   · obtain rfl := Option.some.inj h; exact ⟨hpos, hlen⟩
  ·
   split at h
   ·
    rename_i i hi
    obtain rfl := Option.some.inj h
    have h1 := sgFindI_some hi
    exact ⟨(sgL_pos i (by omega)).1, hasPrefix_len h1.2.2⟩
   · cases h
theorem lexL_fuel : ∀ (n : Nat) (l : List UInt8), l.length = n → ∀ f g, n < f → n < g → lexL f l = lexL g l := by
 intro n
 induction n using Nat.strongRecOn with
 | ind n ih =>
  intro l hl f g hf hg
  obtain ⟨f, rfl⟩ : ∃ m, f = m + 1 := ⟨f - 1, by omega⟩
  obtain ⟨g, rfl⟩ : ∃ m, g = m + 1 := ⟨g - 1, by omega⟩
  simp only [lexL]
  cases hn : nextL (skp l) with
  | none => rfl
  | some t =>
   dsimp only
   by_cases hk : t.kind = 3
   · rw [if_pos hk, if_pos hk]
   ·
    rw [if_neg hk, if_neg hk]
    have h1 := nextL_pos hn hk
    have h2 := skp_len l
    have h3 : ((skp l).drop t.text.length).length < n := by rw [List.length_drop]; omega
    rw [ih _ h3 _ rfl f g (by omega) (by omega)]
def LX (l : List UInt8) : Option (List Tk) := lexL (l.length + 1) l
theorem LX_eq (l : List UInt8) : LX l = match nextL (skp l) with
  | none => none
  | some t => if t.kind = 3 then some [t] else (LX ((skp l).drop t.text.length)).map (t :: ·) := by
 unfold LX
 conv => lhs; unfold lexL
 cases hn : nextL (skp l) with
 | none => rfl
 | some t =>
  dsimp only
  by_cases hk : t.kind = 3
  · rw [if_pos hk, if_pos hk]
  ·
   rw [if_neg hk, if_neg hk]
   have h1 := nextL_pos hn hk
   have h2 := skp_len l
   have h3 : ((skp l).drop t.text.length).length < l.length := by rw [List.length_drop]; omega
   rw [lexL_fuel _ _ rfl l.length (((skp l).drop t.text.length).length + 1) h3 (by omega)]
theorem LX_skp {l l' : List UInt8} (h : skp l = skp l') : LX l = LX l' := by rw [LX_eq, LX_eq l', h]
theorem lexF_list (s : ByteArray) : ∀ (f a : Nat) (r : LexA), a ≤ s.size → lexF f s a = some r → (r.err = 0 → LX (s.data.toList.drop a) = some (r.toks.map Tok.bare)) ∧ (r.err ≠ 0 → LX (s.data.toList.drop a) = none ∧ r.toks = [])
 | 0, a, r, _, h => by simp [lexF] at h
 | f + 1, a, r, ha, h => by
  obtain ⟨b, hb, h1, h2⟩ := skipF_some s (s.size + 1) a ha (by omega)
  have hsk : skp (s.data.toList.drop a) = s.data.toList.drop b := skp_of (skipF_list s _ a b ha hb)
  have hnx := nextF_list s b h2
  simp only [lexF, hb] at h
  rw [LX_eq, hsk, hnx]
  by_cases he : (nextF s b).2 = 0
  ·
   rw [if_pos he] at h
   rw [if_pos he]
   dsimp only
   have hkk : (nextF s b).1.bare.kind = (nextF s b).1.kind := rfl
   by_cases hk : (nextF s b).1.kind = 3
   ·
    rw [if_pos hk] at h
    obtain rfl := Option.some.inj h
    rw [if_pos (by rw [hkk]; exact hk)]
    exact ⟨fun _ => rfl, fun hh => absurd rfl hh⟩
   ·
    rw [if_neg hk] at h
    rw [if_neg (by rw [hkk]; exact hk)]
    obtain ⟨r3, hr3, rfl⟩ := Option.map_eq_some_iff.1 h
    have hz := nextF_size h2 he hk
    have ih := lexF_list s f _ r3 hz.2 hr3
    have hdd : (s.data.toList.drop b).drop (nextF s b).1.bare.text.length = s.data.toList.drop (b + (nextF s b).1.text.size) := by
     rw [List.drop_drop, size_list]; rfl
    rw [hdd]
    by_cases he3 : r3.err = 0
    ·
     have e1 : LexA.cons (nextF s b).1 r3 = ⟨(nextF s b).1 :: r3.toks, r3.line, r3.col, r3.err⟩ := by unfold LexA.cons; rw [if_pos he3]
     rw [e1, ih.1 he3]
     exact ⟨fun _ => rfl, fun hh => absurd he3 hh⟩
    ·
     have e1 : LexA.cons (nextF s b).1 r3 = r3 := by unfold LexA.cons; rw [if_neg he3]
     rw [e1, (ih.2 he3).1]
     exact ⟨fun hh => absurd hh he3, fun _ => ⟨rfl, (ih.2 he3).2⟩⟩
  ·
   rw [if_neg he] at h
   rw [if_neg he]
   obtain rfl := Option.some.inj h
   exact ⟨fun hh => absurd hh he, fun _ => ⟨rfl, rfl⟩⟩
theorem lexR_list (s : ByteArray) (hs : s.size ≤ 65536) : ((lexR s).err = 0 → LX s.data.toList = some ((lexR s).toks.map Tok.bare)) ∧ ((lexR s).err ≠ 0 → LX s.data.toList = none ∧ (lexR s).toks = []) := by
 obtain ⟨r, hr⟩ := lexF_some s (s.size + 1) 0 (Nat.zero_le _) (by omega)
 have hlr : lexR s = r := by unfold lexR; rw [if_neg (by omega), hr]; rfl
 rw [hlr]
 exact lexF_list s _ 0 r (Nat.zero_le _) hr
end Go.Proofs.YtdimhoilfopndaaGreatDoor
end
section
namespace Go.Proofs.YtdimhoilfopndaaGreatDoor
open Go.RowKit
def ssB : List UInt8 → Bool
 | a :: b :: r => (a == 47 && b == 47) || ssB (b :: r)
 | _ => false
theorem ssB_head {c d : UInt8} {r : List UInt8} (h : ssB (c :: d :: r) = false) : ¬ (c = 47 ∧ d = 47) := by
 rintro ⟨rfl, rfl⟩
 simp [ssB] at h
theorem takeWhile_app {p : UInt8 → Bool} {a : UInt8} (ha : p a = false) (A : List UInt8) : ∀ u : List UInt8, (u ++ a :: A).takeWhile p = u.takeWhile p
 | [] => by rw [List.nil_append, List.takeWhile_cons_of_neg (by rw [ha]; exact Bool.false_ne_true)]; rfl
 | c :: u => by
  by_cases h : p c = true
  · rw [List.cons_append, List.takeWhile_cons_of_pos h, List.takeWhile_cons_of_pos h, takeWhile_app ha A u]
  · rw [List.cons_append, List.takeWhile_cons_of_neg h, List.takeWhile_cons_of_neg h]
theorem spc_all : ∀ n : Fin 256, spaceB (n.val : Int) = true → letterB (n.val : Int) = false ∧ n.val ≠ 47 ∧ (n.val = 32 ∨ n.val = 9 ∨ n.val = 13 ∨ n.val = 10) := by decide +kernel
theorem spc_facts {c : UInt8} (h : spc c = true) : ltr c = false ∧ c ≠ 47 ∧ (c = 32 ∨ c = 9 ∨ c = 13 ∨ c = 10) := by
 have := spc_all ⟨c.toNat, c.toNat_lt⟩ h
 refine ⟨this.1, fun e => this.2.1 (by rw [e]; rfl), ?_⟩
 rcases this.2.2 with h | h | h | h
 · exact .inl (UInt8.toNat_inj.1 h)
 · exact .inr (.inl (UInt8.toNat_inj.1 h))
 · exact .inr (.inr (.inl (UInt8.toNat_inj.1 h)))
 · exact .inr (.inr (.inr (UInt8.toNat_inj.1 h)))
theorem sgFindI_congr {l l' : List UInt8} : ∀ (f i : Nat), (∀ j, i ≤ j → j < i + f → Lib.hasPrefix l (sgL.getD j []) = Lib.hasPrefix l' (sgL.getD j [])) → sgFindI l f i = sgFindI l' f i
 | 0, _, _ => rfl
 | f + 1, i, h => by
  simp only [sgFindI]
  rw [h i (Nat.le_refl _) (by omega), sgFindI_congr f (i + 1) fun j h1 h2 => h j (by omega) (by omega)]
theorem hasPrefix_cons (a b : UInt8) (l p : List UInt8) : Lib.hasPrefix (a :: l) (b :: p) = (b == a && Lib.hasPrefix l p) := rfl
theorem sgL_form : ∀ j, j < 29 → (∃ x, sgL.getD j [] = [x] ∧ ¬ x = 32 ∧ ¬ x = 9 ∧ ¬ x = 13 ∧ ¬ x = 10) ∨ ∃ x y, sgL.getD j [] = [x, y] ∧ (¬ y = 32 ∧ ¬ y = 9 ∧ ¬ y = 13 ∧ ¬ y = 10) ∧ ¬ x = 32 ∧ ¬ x = 9 ∧ ¬ x = 13 ∧ ¬ x = 10
 | 0, _ => .inr ⟨_, _, rfl, by decide⟩
 | 1, _ => .inr ⟨_, _, rfl, by decide⟩
 | 2, _ => .inr ⟨_, _, rfl, by decide⟩
 | 3, _ => .inr ⟨_, _, rfl, by decide⟩
 | 4, _ => .inr ⟨_, _, rfl, by decide⟩
 | 5, _ => .inr ⟨_, _, rfl, by decide⟩
 | 6, _ => .inr ⟨_, _, rfl, by decide⟩
 | 7, _ => .inr ⟨_, _, rfl, by decide⟩
 | 8, _ => .inl ⟨_, rfl, by decide⟩
 | 9, _ => .inl ⟨_, rfl, by decide⟩
 | 10, _ => .inl ⟨_, rfl, by decide⟩
 | 11, _ => .inl ⟨_, rfl, by decide⟩
 | 12, _ => .inl ⟨_, rfl, by decide⟩
 | 13, _ => .inl ⟨_, rfl, by decide⟩
 | 14, _ => .inl ⟨_, rfl, by decide⟩
 | 15, _ => .inl ⟨_, rfl, by decide⟩
 | 16, _ => .inl ⟨_, rfl, by decide⟩
 | 17, _ => .inl ⟨_, rfl, by decide⟩
 | 18, _ => .inl ⟨_, rfl, by decide⟩
 | 19, _ => .inl ⟨_, rfl, by decide⟩
 | 20, _ => .inl ⟨_, rfl, by decide⟩
 | 21, _ => .inl ⟨_, rfl, by decide⟩
 | 22, _ => .inl ⟨_, rfl, by decide⟩
 | 23, _ => .inl ⟨_, rfl, by decide⟩
 | 24, _ => .inl ⟨_, rfl, by decide⟩
 | 25, _ => .inl ⟨_, rfl, by decide⟩
 | 26, _ => .inl ⟨_, rfl, by decide⟩
 | 27, _ => .inl ⟨_, rfl, by decide⟩
 | 28, _ => .inl ⟨_, rfl, by decide⟩
 | n + 29, h => absurd h (by omega)
theorem sgFind_app {a : UInt8} (ha : spc a = true) (A : List UInt8) {u : List UInt8} (hu : u ≠ []) : sgFind (u ++ a :: A) = sgFind u := by
 have hs := (spc_facts ha).2.2
 refine sgFindI_congr 29 0 fun j _ hj => ?_
 match u, hu with
 | [c], _ =>
  rcases sgL_form j (by omega) with ⟨x, hx, _⟩ | ⟨x, y, hx, hy, _⟩
  · rw [hx]; rfl
  ·
   rw [hx]
   simp only [List.cons_append, List.nil_append, hasPrefix_cons]
   have : (y == a) = false := by rw [beq_eq_false_iff_ne]; rintro rfl; rcases hs with h | h | h | h <;> simp_all
   rw [this]
   simp [Lib.hasPrefix]
 | c :: d :: r, _ =>
  rcases sgL_form j (by omega) with ⟨x, hx, _⟩ | ⟨x, y, hx, hy, _⟩
  · rw [hx]; rfl
  · rw [hx]; rfl
theorem nextL_app {a : UInt8} (ha : spc a = true) (A : List UInt8) {u : List UInt8} (hu : u ≠ []) : nextL (u ++ a :: A) = nextL u := by
 match u, hu with
 | c :: r, _ =>
  have h1 := takeWhile_app (p := ltr) (spc_facts ha).1 A (c :: r)
  have h2 := sgFind_app ha A (u := c :: r) (by simp)
  rw [List.cons_append] at h1 h2 ⊢
  simp only [nextL]
  rw [h1, h2]
structure Good (t : Tk) : Prop where
 next : nextL t.text = some t
 kind : t.kind ≠ 3
 head : ∃ c r, t.text = c :: r ∧ spc c = false ∧ ssB t.text = false
theorem sg_self : ∀ j, j < 29 → sgFind (sgL.getD j []) = some j ∧ ltr ((sgL.getD j []).headD 0) = false ∧ spc ((sgL.getD j []).headD 0) = false ∧ ssB (sgL.getD j []) = false := by decide +kernel
theorem ltr_all : ∀ n : Fin 256, letterB (n.val : Int) = true → spaceB (n.val : Int) = false ∧ n.val ≠ 47 := by decide +kernel
theorem ltr_facts {c : UInt8} (h : ltr c = true) : spc c = false ∧ c ≠ 47 := by
 have := ltr_all ⟨c.toNat, c.toNat_lt⟩ h
 exact ⟨this.1, fun e => this.2 (by rw [e]; rfl)⟩
theorem ssB_ltr : ∀ {l : List UInt8}, (∀ c ∈ l, ltr c = true) → ssB l = false
 | [], _ => rfl
 | [c], _ => rfl
 | c :: d :: r, h => by
  simp only [ssB, Bool.or_eq_false_iff]
  refine ⟨?_, ssB_ltr fun e he => h e (by simp only [List.mem_cons] at he ⊢; exact .inr he)⟩
  have := (ltr_facts (h c (by simp))).2
  simp [this]
theorem takeWhile_mem {p : UInt8 → Bool} : ∀ {l : List UInt8} {c : UInt8}, c ∈ l.takeWhile p → p c = true
 | [], _, h => by cases h
 | d :: l, c, h => by
  by_cases hd : p d = true
  ·
   rw [List.takeWhile_cons_of_pos hd] at h
   rcases List.mem_cons.1 h with rfl | h
   · exact hd
   · exact takeWhile_mem h
  · rw [List.takeWhile_cons_of_neg hd] at h; cases h
theorem takeWhile_self {p : UInt8 → Bool} : ∀ {l : List UInt8}, (∀ c ∈ l, p c = true) → l.takeWhile p = l
 | [], _ => rfl
 | d :: l, h => by rw [List.takeWhile_cons_of_pos (h d (by simp)), takeWhile_self fun c hc => h c (by simp [hc])]
theorem good_of {l : List UInt8} {t : Tk} (h : nextL l = some t) (hk : t.kind ≠ 3) : Good t := by
 match l, h with
 | [], h =>
  obtain rfl := Option.some.inj h
  exact absurd rfl hk
 | c :: r, h =>
  simp only [nextL] at h
  by_cases hl : ltr c = true
  ·
   rw [if_pos hl] at h
   have htw : (c :: r).takeWhile ltr = c :: r.takeWhile ltr := List.takeWhile_cons_of_pos hl
   have hall : ∀ e ∈ c :: r.takeWhile ltr, ltr e = true := fun e he => takeWhile_mem (l := c :: r) (by rw [htw]; exact he)
   have hself := takeWhile_self hall
   rw [htw] at h
   have hd : (∃ e q, (c :: r.takeWhile ltr) = e :: q ∧ spc e = false ∧ ssB (c :: r.takeWhile ltr) = false) := ⟨_, _, rfl, (ltr_facts hl).1, ssB_ltr hall⟩
   by_cases hg : dgt c = true
   ·
    rw [if_pos hg] at h
    cases hv : numL (c :: r.takeWhile ltr) with
    | none => rw [hv] at h; cases h
    | some v =>
     rw [hv] at h
     obtain rfl := Option.some.inj h
     refine ⟨?_, hk, hd⟩
     simp only [nextL]
     rw [if_pos hl, if_pos hg, hself, hv]
   ·
    rw [if_neg hg] at h
    obtain rfl := Option.some.inj h
    refine ⟨?_, hk, hd⟩
    simp only [nextL]
    rw [if_pos hl, if_neg hg, hself]
  ·
   rw [if_neg hl] at h
   cases hf : sgFind (c :: r) with
   | none => rw [hf] at h; cases h
   | some i =>
    rw [hf] at h
    obtain rfl := Option.some.inj h
    have h1 := sgFindI_some hf
    have h2 := sg_self i (by omega)
    have h3 := (sgL_pos i (by omega)).1
    have hform : ∃ e q, sgL.getD i [] = e :: q := by
     cases hx : sgL.getD i [] with
     | nil => rw [hx] at h3; simp at h3
     | cons e q => exact ⟨e, q, rfl⟩
    obtain ⟨e, q, hx⟩ := hform
    refine ⟨?_, hk, e, q, hx, ?_, h2.2.2.2⟩
    ·
     dsimp only
     have h4 := h2.1
     have h5 := h2.2.1
     rw [hx] at h4 h5 ⊢
     simp only [nextL]
     simp only [List.headD_cons] at h5
     rw [if_neg (by rw [h5]; exact Bool.false_ne_true), h4]
     dsimp only
     rw [hx]
    ·
     have h5 := h2.2.2.1
     rw [hx] at h5; exact h5
theorem skp_self {u A : List UInt8} (h : ∃ c r, u = c :: r ∧ spc c = false ∧ ssB u = false) (hA : A = [] ∨ ∃ a B, A = a :: B ∧ spc a = true) : skp (u ++ A) = u ++ A := by
 obtain ⟨c, r, rfl, hc, hss⟩ := h
 rw [skp_eq]
 have e1 : (c :: r ++ A).dropWhile spc = c :: r ++ A := by rw [List.cons_append, List.dropWhile_cons_of_neg (by rw [hc]; exact Bool.false_ne_true)]
 rw [e1, if_neg]
 intro hp
 obtain ⟨q, hq⟩ := prefix2 hp
 cases r with
 | nil =>
  rcases hA with rfl | ⟨a, B, rfl, ha⟩
  · simp at hq
  ·
   simp at hq
   exact (spc_facts ha).2.1 hq.2.1
 | cons d r =>
  simp at hq
  exact ssB_head hss ⟨hq.1, hq.2.1⟩
theorem skp_nil : skp [] = [] := by rw [skp_eq]; rfl
theorem LX_nil : LX [] = some [⟨3, [], 0⟩] := by rw [LX_eq, skp_nil]; rfl
def joinB : List (List UInt8) → List UInt8
 | [] => []
 | [t] => t
 | t :: u :: r => t ++ 32 :: joinB (u :: r)
theorem LX_join : ∀ gs : List Tk, (∀ g ∈ gs, Good g) → LX (joinB (gs.map (·.text))) = some (gs ++ [⟨3, [], 0⟩])
 | [], _ => LX_nil
 | [t], h => by
  have hg := h t (by simp)
  have hs := skp_self (A := []) hg.head (.inl rfl)
  rw [List.append_nil] at hs
  have hk := hg.kind
  have hn := hg.next
  show LX t.text = _
  rw [LX_eq, hs, hn]
  dsimp only
  rw [if_neg hk, List.drop_length, LX_nil]; rfl
 | t :: u :: r, h => by
  have hg := h t (by simp)
  have hs := skp_self (A := 32 :: joinB ((u :: r).map (·.text))) hg.head (.inr ⟨_, _, rfl, by decide⟩)
  have hne : t.text ≠ [] := by obtain ⟨c, q, hc, _⟩ := hg.head; rw [hc]; simp
  show LX (t.text ++ 32 :: joinB ((u :: r).map (·.text))) = _
  rw [LX_eq, hs, nextL_app (by decide) _ hne, hg.next]
  dsimp only
  rw [if_neg hg.kind, List.drop_left, LX_skp (skp_cons_spc (by decide) _), LX_join (u :: r) fun g hgm => h g (by simp only [List.mem_cons] at hgm ⊢; exact .inr hgm)]
  rfl
theorem joinB_len : ∀ (gs : List (List UInt8)) (n : Nat), (∀ g ∈ gs, 0 < g.length) → (gs.map List.length).sum ≤ n → (joinB gs).length ≤ 2 * n
 | [], n, _, _ => by simp [joinB]
 | [t], n, h, hs => by simp [joinB] at hs ⊢; omega
 | t :: u :: r, n, h, hs => by
  have h1 := h t (by simp)
  simp only [List.map_cons, List.sum_cons] at hs
  have := joinB_len (u :: r) (n - t.length) (fun g hg => h g (by simp only [List.mem_cons] at hg ⊢; exact .inr hg)) (by simp only [List.map_cons, List.sum_cons]; omega)
  simp only [joinB, List.length_append, List.length_cons]
  omega
theorem LX_form : ∀ (n : Nat) (l : List UInt8) (ts : List Tk), l.length = n → LX l = some ts → ∃ gs, ts = gs ++ [⟨3, [], 0⟩] ∧ (∀ g ∈ gs, Good g) ∧ ((gs.map (·.text)).map List.length).sum ≤ n := by
 intro n
 induction n using Nat.strongRecOn with
 | ind n ih =>
  intro l ts hn h
  rw [LX_eq] at h
  cases ht : nextL (skp l) with
  | none => rw [ht] at h; cases h
  | some t =>
   rw [ht] at h
   dsimp only at h
   by_cases hk : t.kind = 3
   ·
    rw [if_pos hk] at h
    obtain rfl := Option.some.inj h
    have he : t = ⟨3, [], 0⟩ := by
     cases hs : skp l with
     | nil => rw [hs] at ht; exact (Option.some.inj ht).symm
     | cons c r =>
      rw [hs] at ht
      simp only [nextL] at ht
      split at ht
      ·
       split at ht
       ·
        split at ht
        · obtain rfl := Option.some.inj ht; simp at hk
        · cases ht
       · obtain rfl := Option.some.inj ht; simp at hk
      ·
       split at ht
       · obtain rfl := Option.some.inj ht; simp at hk
       · cases ht
    exact ⟨[], by rw [he]; rfl, by simp, by simp⟩
   ·
    rw [if_neg hk] at h
    obtain ⟨r, hr, rfl⟩ := Option.map_eq_some_iff.1 h
    have hz := nextL_pos ht hk
    have hsl := skp_len l
    obtain ⟨gs, hgs, hgood, hsum⟩ := ih ((skp l).drop t.text.length).length (by rw [List.length_drop]; omega) _ r rfl hr
    refine ⟨t :: gs, by rw [hgs]; rfl, ?_, ?_⟩
    ·
     intro g hg
     rcases List.mem_cons.1 hg with rfl | hg
     · exact good_of ht hk
     · exact hgood g hg
    ·
     rw [List.length_drop] at hsum
     simp only [List.map_cons, List.sum_cons]
     omega
end Go.Proofs.YtdimhoilfopndaaGreatDoor
end
