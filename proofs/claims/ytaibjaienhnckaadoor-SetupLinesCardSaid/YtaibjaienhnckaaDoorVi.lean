/- Layer 22: the small calls of Report: name, the numerals, and the text that is put behind a row of words. Conditions: the words take at most 10000 bytes. -/
import Derived.Test.YtaibjaienhnckaaDoorVf
import Derived.Test.YtaibjaienhnckaaDoorVg
set_option linter.unusedVariables false
set_option linter.unusedSimpArgs false
namespace Go.Proofs.YtaibjaienhnckaaDoor
open Go.RowKit
theorem name_gives (w : World) : Gives Tryd.prog 29 #[.int .i64 4] w (.string ⟨#[97, 115, 115, 101, 114, 116]⟩) := by
  unfold Gives
  go_enter Tryd.func29, Tryd.ntmps29
  go_wp2_with fail
  exact bodyPost_ret (v := .string ⟨#[97, 115, 115, 101, 114, 116]⟩) (by simp [results, Tryd.results29, go_sem, ↓IntWalk.iteOmega]) rfl ⟨rfl, by repeat (first | with_reducible exact IsOv.refl _ | with_reducible apply IsOv.dr | with_reducible apply IsOv.drewN | with_reducible apply IsOv.drew | with_reducible apply IsOv.alloc | with_reducible apply IsOv.ov)⟩
theorem itoa_gives (i : Nat) (hi : i < 100) (w : World) : Gives Tryd.prog 21 #[.int .i64 (i : Int)] w (.string ⟨(Lib.decDigits i).toArray⟩) := by
  refine (Tryd.strconv_Itoa_small i hi w).mono ?_
  rintro e w' ⟨rfl, rfl⟩
  exact ⟨rfl, IsOv.refl _⟩
theorem small_gives (i : Nat) (hi : i < 100) (w : World) : Gives Tryd.prog 53 #[.int .i64 (i : Int)] w (.string ⟨(Lib.decDigits i).toArray⟩) := by
  refine (Tryd.internal_strconv_small i hi w).mono ?_
  rintro e w' ⟨rfl, rfl⟩
  exact ⟨rfl, IsOv.refl _⟩
theorem dig9 : Lib.decDigits 9 = [57] := by decide +kernel
theorem small9_gives (w : World) : Gives Tryd.prog 53 #[.int .i64 9] w (.string ⟨#[57]⟩) := by
  have := small_gives 9 (by decide) w
  rw [dig9] at this
  exact this
theorem formatUintI_gives (w : World) : Gives Tryd.prog 39 #[.int .u64 9, .int .i64 10] w (.string ⟨#[57]⟩) := by
  unfold Gives
  go_enter Tryd.func39, Tryd.ntmps39
  go_wp2_with fail
  refine (small9_gives _).mono ?_
  rintro e w' ⟨rfl, hov⟩
  go_wp2_with fail
  exact bodyPost_ret (v := .string ⟨#[57]⟩) (by simp [results, Tryd.results39, go_sem, ↓IntWalk.iteOmega]) rfl ⟨rfl, hov.trans (by repeat (first | with_reducible exact IsOv.refl _ | with_reducible apply IsOv.dr | with_reducible apply IsOv.drewN | with_reducible apply IsOv.drew | with_reducible apply IsOv.alloc | with_reducible apply IsOv.ov))⟩
theorem formatUint_gives (w : World) : Gives Tryd.prog 30 #[.int .u64 9, .int .i64 10] w (.string ⟨#[57]⟩) := by
  unfold Gives
  go_enter Tryd.func30, Tryd.ntmps30
  go_wp2_with fail
  refine (formatUintI_gives _).mono ?_
  rintro e w' ⟨rfl, hov⟩
  go_wp2_with fail
  exact bodyPost_ret (v := .string ⟨#[57]⟩) (by simp [results, Tryd.results30, go_sem, ↓IntWalk.iteOmega]) rfl ⟨rfl, hov.trans (by repeat (first | with_reducible exact IsOv.refl _ | with_reducible apply IsOv.dr | with_reducible apply IsOv.drewN | with_reducible apply IsOv.drew | with_reducible apply IsOv.alloc | with_reducible apply IsOv.ov))⟩
theorem isBuilderF_isOv {T e : TypeId} {B b : Nat} {bs : List Value} {w w' : World} (h : Lib.IsBuilderF T e B b bs w) (hb : IsOv w w') : Lib.IsBuilderF T e B b bs w' := by
  have key : ∀ p, Lib.BuilderAtF T e B b p bs w → Lib.BuilderAtF T e B b p bs w' := by
    rintro p ⟨h1, v, h2, h3, h4⟩
    refine ⟨h1, v, hb.heap h2, ⟨h3.1, ?_⟩, h4⟩
    rcases h3.2 with h5 | ⟨g, cap, cur, fz, h5, h6, h7, h8⟩
    · exact .inl h5
    · exact .inr ⟨g, cap, cur, fz, h5, h6, hb.heap h7, h8⟩
  exact h.elim (fun h => .inl (key _ h)) (fun h => .inr (key _ h))
set_option maxRecDepth 100000 in
set_option maxHeartbeats 1000000 in
theorem put_calls (B b : Nat) (l : List UInt8) (bk c : Nat) (xs : List ByteArray) (w : World) (h : Lib.IsBuilderF 51 5 B b (Lib.byteCells l) w) (hcells : ∀ (j : Nat) x, xs[j]? = some x → w.cell? ⟨bk, 0 + j, none⟩ = some (.string x)) (hbk : bk < w.heap.size) (hN : 0 < xs.length ∧ xs.length ≤ 100) (hcap : xs.length ≤ c)
    (hlen : (Lib.join (xs.map (·.data.toList)) [32]).length ≤ 10000) (hl : l.length ≤ 10000) (hBw : B ≤ w.heap.size) :
    Calls Tryd.prog 27 #[.slice (some ⟨bk, 0, none⟩) xs.length c, .pointer (some ⟨b, 0, none⟩)] w fun e w' => e = .returned (.tuple #[]) ∧ Lib.IsBuilderF 51 5 B b (Lib.byteCells (l ++ (Lib.join (xs.map (·.data.toList)) [32] ++ [10]))) w' ∧ Below B w w' := by
  have hBb : B ≤ b ∧ b < w.heap.size := by
    rcases h with h | h
    · exact ⟨h.1, h.lt⟩
    · exact ⟨h.1, h.lt⟩
  go_enter Tryd.func27, Tryd.ntmps27
  go_wp2_with fail
  refine Calls.mono (Tryd.strings_Join bk 0 c xs ⟨#[32]⟩ w hcells hbk (by omega) hcap (Nat.le_trans hlen (by decide))) ?_
  rintro e w1 ⟨rfl, hb1⟩
  have hB1 := isBuilderF_isOv h (IsOv.of_below hb1)
  have hz1 := hb1.size
  have hjl : (⟨(Lib.join (xs.map (·.data.toList)) [32]).toArray⟩ : ByteArray).data.toList = Lib.join (xs.map (·.data.toList)) [32] := rfl
  generalize hjb : (⟨(Lib.join (xs.map (·.data.toList)) [32]).toArray⟩ : ByteArray) = jb at *
  have HJB := Lib.hid hjb
  have HJL := Lib.hid hjl
  have hjz : jb.size ≤ 10000 := by rw [show jb.size = jb.data.toList.length from Array.length_toList.symm, hjl]; exact hlen
  clear hjb hjl hcells h
  go_wp2_with fail
  refine Calls.mono (WriteString_calls B b (Lib.byteCells l) _ w1 hB1 (by rw [Lib.byteCells_length, ByteArray.size_append]; have : (⟨#[10]⟩ : ByteArray).size = 1 := rfl; omega) (by omega)) ?_
  rintro e w2 ⟨rfl, hb2, hbel⟩
  have HB2 := Lib.hid hb2
  have HBEL := Lib.hid hbel
  clear hb2 hbel hB1
  go_wp2_with fail
  go_end0
  refine ⟨rfl, .inr ?_, ?_⟩
  · have := HB2.out
    rw [Lib.strCells_eq, ← Lib.byteCells_append] at this
    have e1 : (jb ++ ⟨#[10]⟩ : ByteArray).data.toList = Lib.join (xs.map (·.data.toList)) [32] ++ [10] := by
      rw [← HJL.out]; simp
    rw [e1] at this
    exact this
  · exact ⟨HBEL.out.os.trans hb1.os, HBEL.out.tape.trans hb1.tape, HBEL.out.output.trans hb1.output, Nat.le_trans hb1.size HBEL.out.size, fun k hk => (HBEL.out.block k hk).trans (hb1.block k (by omega))⟩
end Go.Proofs.YtaibjaienhnckaaDoor
