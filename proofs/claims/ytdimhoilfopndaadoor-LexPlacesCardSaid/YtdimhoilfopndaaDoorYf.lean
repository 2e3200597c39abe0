/- strconv.ParseUint at bases 10 and 16, Number and Keyword of layer 2: what each answers, in every world in which the tables lie as the program lays them. Condition: the text takes at most 65536 bytes. -/
import Derived.Test.YtdimhoilfopndaaDoorYd
import Derived.Test.YtdimhoilfopndaaDoorYe
import Derived.Lib.AtoiErrMem
set_option linter.unusedVariables false
set_option linter.unusedSimpArgs false
namespace Go.Proofs.YtdimhoilfopndaaDoor
open Go.RowKit
theorem IsOv.bytes (w : World) (t : TypeId) (s : ByteArray) : IsOv w (Lib.bytesWorld w t s) := by
  exact IsOv.of_below (Lib.bytesWorld_below _ _ _)
/-- The number of a text of digits and letters. -/
def numE (base : Int) (l : List UInt8) : Option Int := if l.isEmpty then none else numP base 0 l
def errIs (r : Option Int) (v : Int) (er : Value) : Prop := (r = some v ∧ er = .nilIface) ∨ (r = none ∧ ∃ te p, er = .iface te p)
set_option maxHeartbeats 4000000 in
theorem parse10_pub (t : ByteArray) (hmax : t.size ≤ 65536) (hal : ∀ c ∈ t.data.toList, alnumB c = true) (w : World) (hL : LaidX w) :
    Calls Tryd.prog 19 #[.string t, .int .i64 10, .int .i64 64] w fun e w' => (∃ v er, e = .returned (.tuple #[.int .u64 v, er]) ∧ errIs (numE 10 t.data.toList) v er) ∧ IsOv w w' := by
  have inner : Calls Tryd.prog 27 #[.string t, .int .i64 10, .int .i64 64] w fun e w' => (∃ v er, e = .returned (.tuple #[.int .u64 v, er]) ∧ parsed 65 (numE 10 t.data.toList) v er) ∧ IsOv w w' := by
    by_cases hz : t.size = 0
    · have ht : t = ⟨#[]⟩ := by
        obtain ⟨a⟩ := t
        have h : a.size = 0 := hz
        rw [Array.eq_empty_of_size_eq_zero h]
      subst ht
      refine (Tryd.internal_strconv_ParseUint_empty 10 64 w).mono ?_
      rintro e w' ⟨rfl, rfl⟩
      exact ⟨⟨0, _, rfl, .inr ⟨rfl, 2, .inr rfl, rfl⟩⟩, IsOv.refl _⟩
    · refine (parse10_calls t hz hmax hal w).mono ?_
      rintro e w' ⟨⟨v, er, rfl, h⟩, rfl⟩
      have hl : t.data.toList.isEmpty = false := by
        have : t.data.toList.length = t.size := rfl
        cases hh : t.data.toList with
        | nil => rw [hh] at this; exact absurd this.symm hz
        | cons => rfl
      refine ⟨⟨v, er, rfl, ?_⟩, IsOv.bytes _ _ _⟩
      unfold numE
      rw [hl]
      exact h
  go_enter Tryd.func19, Tryd.ntmps19
  go_wp2_with fail
  refine inner.mono ?_
  rintro e w' ⟨⟨v, er, rfl, h⟩, hov⟩
  have hL2 := hL.of_isOv hov
  obtain ⟨ev, hv1, hv2⟩ := hL2.es
  obtain ⟨ev2, hw1, hw2⟩ := hL2.er
  have H := Lib.hid h
  rcases H.out with ⟨h1, rfl⟩ | ⟨h1, k, rfl | rfl, rfl⟩
  · have HH := Lib.hid h1
    clear h h1 H hv1 hw1
    go_wp2
    go_ret2
    exact ⟨⟨v, _, rfl, .inl ⟨HH.out, rfl⟩⟩, hov⟩
  · have HH := Lib.hid h1
    clear h h1 H hv1
    have Hw := Lib.hid hw1
    clear hw1
    go_wp2_with fail
    refine (Tryd.strconv_toError_range _ t _ _ ev2 w' (by omega) Hw.out hw2).mono ?_
    rintro e w2 ⟨N, rfl, _, _, hb⟩
    go_wp2
    go_ret2
    exact ⟨⟨v, _, rfl, .inr ⟨HH.out, _, _, rfl⟩⟩, hov.trans (IsOv.of_below hb)⟩
  · have HH := Lib.hid h1
    clear h h1 H hw1
    have Hw := Lib.hid hv1
    clear hv1
    go_wp2_with fail
    refine (Tryd.strconv_toError_syntax _ t _ _ ev w' (by omega) Hw.out hv2).mono ?_
    rintro e w2 ⟨N, rfl, _, _, hb⟩
    go_wp2
    go_ret2
    exact ⟨⟨v, _, rfl, .inr ⟨HH.out, _, _, rfl⟩⟩, hov.trans (IsOv.of_below hb)⟩
set_option maxHeartbeats 4000000 in
theorem parse16_pub (t : ByteArray) (hmax : t.size ≤ 65536) (hal : ∀ c ∈ t.data.toList, alnumB c = true) (w : World) (hL : LaidX w) :
    Calls Tryd.prog 19 #[.string t, .int .i64 16, .int .i64 64] w fun e w' => (∃ v er, e = .returned (.tuple #[.int .u64 v, er]) ∧ errIs (numE 16 t.data.toList) v er) ∧ IsOv w w' := by
  have inner : Calls Tryd.prog 27 #[.string t, .int .i64 16, .int .i64 64] w fun e w' => (∃ v er, e = .returned (.tuple #[.int .u64 v, er]) ∧ parsed 65 (numE 16 t.data.toList) v er) ∧ IsOv w w' := by
    by_cases hz : t.size = 0
    · have ht : t = ⟨#[]⟩ := by
        obtain ⟨a⟩ := t
        have h : a.size = 0 := hz
        rw [Array.eq_empty_of_size_eq_zero h]
      subst ht
      refine (Tryd.internal_strconv_ParseUint_empty 16 64 w).mono ?_
      rintro e w' ⟨rfl, rfl⟩
      exact ⟨⟨0, _, rfl, .inr ⟨rfl, 2, .inr rfl, rfl⟩⟩, IsOv.refl _⟩
    · refine (parse16_calls t hz hmax hal w).mono ?_
      rintro e w' ⟨⟨v, er, rfl, h⟩, rfl⟩
      have hl : t.data.toList.isEmpty = false := by
        have : t.data.toList.length = t.size := rfl
        cases hh : t.data.toList with
        | nil => rw [hh] at this; exact absurd this.symm hz
        | cons => rfl
      refine ⟨⟨v, er, rfl, ?_⟩, IsOv.bytes _ _ _⟩
      unfold numE
      rw [hl]
      exact h
  go_enter Tryd.func19, Tryd.ntmps19
  go_wp2_with fail
  refine inner.mono ?_
  rintro e w' ⟨⟨v, er, rfl, h⟩, hov⟩
  have hL2 := hL.of_isOv hov
  obtain ⟨ev, hv1, hv2⟩ := hL2.es
  obtain ⟨ev2, hw1, hw2⟩ := hL2.er
  have H := Lib.hid h
  rcases H.out with ⟨h1, rfl⟩ | ⟨h1, k, rfl | rfl, rfl⟩
  · have HH := Lib.hid h1
    clear h h1 H hv1 hw1
    go_wp2
    go_ret2
    exact ⟨⟨v, _, rfl, .inl ⟨HH.out, rfl⟩⟩, hov⟩
  · have HH := Lib.hid h1
    clear h h1 H hv1
    have Hw := Lib.hid hw1
    clear hw1
    go_wp2_with fail
    refine (Tryd.strconv_toError_range _ t _ _ ev2 w' (by omega) Hw.out hw2).mono ?_
    rintro e w2 ⟨N, rfl, _, _, hb⟩
    go_wp2
    go_ret2
    exact ⟨⟨v, _, rfl, .inr ⟨HH.out, _, _, rfl⟩⟩, hov.trans (IsOv.of_below hb)⟩
  · have HH := Lib.hid h1
    clear h h1 H hw1
    have Hw := Lib.hid hv1
    clear hv1
    go_wp2_with fail
    refine (Tryd.strconv_toError_syntax _ t _ _ ev w' (by omega) Hw.out hv2).mono ?_
    rintro e w2 ⟨N, rfl, _, _, hb⟩
    go_wp2
    go_ret2
    exact ⟨⟨v, _, rfl, .inr ⟨HH.out, _, _, rfl⟩⟩, hov.trans (IsOv.of_below hb)⟩
end Go.Proofs.YtdimhoilfopndaaDoor
