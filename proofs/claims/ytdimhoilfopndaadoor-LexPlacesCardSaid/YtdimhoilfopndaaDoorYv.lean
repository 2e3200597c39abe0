/- What the laws' words noLine and comment answer. Condition: the text takes at most 65536 bytes. -/
import Derived.Test.YtdimhoilfopndaaDoorYp
import Derived.Test.YtdimhoilfopndaaDoorYt
import Derived.Test.YtdimhoilfopndaaDoorYu
set_option linter.unusedVariables false
set_option linter.unusedSimpArgs false
namespace Go.Proofs.YtdimhoilfopndaaDoor
open Go.RowKit Go.Proofs.YtdimhoilfopndaaDoorW.PrintWords Go.Proofs.YtdimhoilfopndaaDoor.PLexBetween
theorem drop_lt {l : List UInt8} {i : Nat} {c : UInt8} {r : List UInt8} (h : l.drop i = c :: r) : i < l.length := by
  rcases Nat.lt_or_ge i l.length with h1 | h1
  · exact h1
  · rw [List.drop_eq_nil_of_le h1] at h; cases h
theorem bt_dropB {s : ByteArray} {i : Nat} {c : UInt8} {l : List UInt8} (h : s.data.toList.drop i = c :: l) : bt s i = c.toNat ∧ i < s.size ∧ s.data.toList.drop (i + 1) = l := by
  have hlt := drop_lt h
  have hsz : s.size = s.data.toList.length := Array.length_toList.symm
  rw [List.drop_eq_getElem_cons hlt] at h
  injection h with h1 h2
  refine ⟨?_, by omega, h2⟩
  unfold bt
  rw [dif_pos (by rw [Int.toNat_natCast]; omega)]
  rw [← h1]
  simp [ByteArray.getElem_eq_getElem_data]
/-- The bytes of a text but line feeds. -/
def noL (l : List UInt8) : List UInt8 := l.filter (· != 10)
theorem noLine_loop (s : ByteArray) (hs : s.size ≤ 65536) : ∀ (l : List UInt8) (i k : Nat) (acc : List UInt8), s.data.toList.drop i = l → i ≤ s.size → acc.length ≤ i → l.length + 1 ≤ k →
    skualaw02_noLine.l0 k s (acc.map fun c => (c.toNat : Int)) i = some (strOfNums ((acc ++ noL l).map fun c => (c.toNat : Int)))
  | [], i, k, acc, hd, hi, ha, hk => by
    obtain ⟨k, rfl⟩ : ∃ m, k = m + 1 := ⟨k - 1, by omega⟩
    have hsz : s.size = s.data.toList.length := Array.length_toList.symm
    have : s.data.toList.length ≤ i := by
      have := congrArg List.length hd; rw [List.length_drop] at this; simp at this; omega
    simp only [skualaw02_noLine.l0]
    rw [if_neg (by omega)]
    simp [noL]
  | c :: l, i, k, acc, hd, hi, ha, hk => by
    obtain ⟨k, rfl⟩ : ∃ m, k = m + 1 := ⟨k - 1, by omega⟩
    obtain ⟨h1, h2, h3⟩ := bt_dropB hd
    simp only [List.length_cons] at hk
    simp only [skualaw02_noLine.l0]
    rw [if_pos (by omega), if_pos (by omega), h1]
    have e3 : wrap64 ((i : Int) + 1) = ((i + 1 : Nat) : Int) := by unfold wrap64; omega
    rw [e3]
    by_cases h10 : c = 10
    · subst h10
      rw [if_pos (by rfl)]
      rw [noLine_loop s hs l (i + 1) k acc h3 (by omega) (by omega) (by omega)]
      simp [noL]
    · have hne : ¬ (c.toNat : Int) = 10 := fun e => h10 (UInt8.toNat_inj.1 (by simpa using (Int.ofNat.inj e)))
      rw [if_neg hne, if_pos (by rw [List.length_map]; omega)]
      have hm : (acc.map fun c => (c.toNat : Int)) ++ [(c.toNat : Int)] = (acc ++ [c]).map fun c => (c.toNat : Int) := by simp
      rw [hm, noLine_loop s hs l (i + 1) k (acc ++ [c]) h3 (by omega) (by simp; omega) (by omega)]
      have : noL (c :: l) = c :: noL l := by unfold noL; rw [List.filter_cons_of_pos (by simpa using h10)]
      rw [this]; simp
theorem strOfNums_bytes (l : List UInt8) : strOfNums (l.map fun c => (c.toNat : Int)) = ⟨l.toArray⟩ := by
  unfold strOfNums
  congr 2
  rw [List.map_map]
  have : ((fun n : Int => UInt8.ofNat n.toNat) ∘ fun c : UInt8 => (c.toNat : Int)) = id := by
    funext c
    simp
  rw [this, List.map_id]
theorem noLine_gives (s : ByteArray) (w : World) (hs : s.size ≤ 65536) : Gives Tryd.prog 12 #[.string s] w (.string ⟨(noL s.data.toList).toArray⟩) := by
  have h : skualaw02_noLine.f 70000 s = some (strOfNums ((noL s.data.toList).map fun c => (c.toNat : Int))) := by
    have := noLine_loop s hs s.data.toList 0 70000 [] rfl (Nat.zero_le _) (Nat.le_refl _) (by have : s.size = s.data.toList.length := Array.length_toList.symm; omega)
    simpa [skualaw02_noLine.f] using this
  rw [strOfNums_bytes] at h
  exact (skualaw02_noLine.calls _ s _ w h).mono fun e w' hh => ⟨hh.1, IsOv.of_below hh.2⟩
theorem comment_loop (s : ByteArray) (hs : s.size ≤ 65536) : ∀ (l : List UInt8) (c : UInt8) (i k : Nat), s.data.toList.drop i = c :: l → l.length + 1 ≤ k → skualaw02_comment.l0 k s ((i + 1 : Nat) : Int) = some (ssB (c :: l))
  | [], c, i, k, hd, hk => by
    obtain ⟨k, rfl⟩ : ∃ m, k = m + 1 := ⟨k - 1, by omega⟩
    obtain ⟨h1, h2, h3⟩ := bt_dropB hd
    have hsz : s.size = s.data.toList.length := Array.length_toList.symm
    have : s.data.toList.length ≤ i + 1 := by
      have := congrArg List.length h3; rw [List.length_drop] at this; simp at this; omega
    simp only [skualaw02_comment.l0]
    rw [if_neg (by omega)]; rfl
  | d :: l, c, i, k, hd, hk => by
    obtain ⟨k, rfl⟩ : ∃ m, k = m + 1 := ⟨k - 1, by omega⟩
    obtain ⟨h1, h2, h3⟩ := bt_dropB hd
    obtain ⟨g1, g2, g3⟩ := bt_dropB h3
    simp only [List.length_cons] at hk
    simp only [skualaw02_comment.l0]
    have e1 : wrap64 (((i + 1 : Nat) : Int) - 1) = (i : Int) := by unfold wrap64; omega
    have e3 : wrap64 (((i + 1 : Nat) : Int) + 1) = ((i + 1 + 1 : Nat) : Int) := by unfold wrap64; omega
    rw [e1, e3, if_pos (by omega), if_pos (by omega), if_pos (by omega), h1, g1]
    have ih := comment_loop s hs l d (i + 1) k h3 (by omega)
    have hc : ((c.toNat : Int) = 47) ↔ c = 47 := ⟨fun e => UInt8.toNat_inj.1 (by simpa using (Int.ofNat.inj e)), fun e => by rw [e]; rfl⟩
    have hd2 : ((d.toNat : Int) = 47) ↔ d = 47 := ⟨fun e => UInt8.toNat_inj.1 (by simpa using (Int.ofNat.inj e)), fun e => by rw [e]; rfl⟩
    by_cases a1 : c = 47
    · rw [if_pos (hc.2 a1), if_pos (by omega)]
      by_cases a2 : d = 47
      · rw [if_pos (hd2.2 a2)]; simp [ssB, a1, a2]
      · rw [if_neg (fun e => a2 (hd2.1 e)), ih]; simp [ssB, a2]
    · rw [if_neg (fun e => a1 (hc.1 e)), ih]; simp [ssB, a1]
theorem comment_gives (s : ByteArray) (w : World) (hs : s.size ≤ 65536) : Gives Tryd.prog 14 #[.string s] w (.bool (ssB s.data.toList)) := by
  have hsz : s.size = s.data.toList.length := Array.length_toList.symm
  have h : skualaw02_comment.f 70000 s = some (ssB s.data.toList) := by
    unfold skualaw02_comment.f
    cases hl : s.data.toList with
    | nil =>
      rw [hl] at hsz
      show skualaw02_comment.l0 (69999 + 1) s 1 = _
      have h0 : s.size = 0 := hsz
      rw [show skualaw02_comment.l0 (69999 + 1) s 1 = if (1 : Int) < (s.size : Int) then _ else some false from rfl]
      rw [if_neg (by omega)]; rfl
    | cons c l =>
      have := comment_loop s hs l c 0 70000 hl (by rw [hl] at hsz; simp at hsz; omega)
      exact this
  exact drawn0_gives (skualaw02_comment.calls _ s _ w h)
end Go.Proofs.YtdimhoilfopndaaDoor
