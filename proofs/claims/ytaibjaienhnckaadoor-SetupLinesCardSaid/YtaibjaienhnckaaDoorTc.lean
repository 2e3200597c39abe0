/- Layer 22 as a plain matter: the document's way through a setup's text is the program's; a setup's text is read as itself; lines may stand in any order. No condition. -/
import Derived.Test.YtaibjaienhnckaaDoorTb
import Derived.Test.YtaibjaienhnckaaDoorUd
set_option linter.unusedVariables false
set_option linter.unusedSimpArgs false
namespace Go.Proofs.YtaibjaienhnckaaDoor
open Go.RowKit
/-- A number's word. -/
def wL (k : Nat) : List UInt8 := (entL.getD k ([], 0, 0)).1
/-- A setup's words: of its numbers, and turned. -/
def wname (k : Nat) : List UInt8 := if k < 6 then wL k else turnedW
theorem lt6 {p : Nat → Prop} (h0 : p 0) (h1 : p 1) (h2 : p 2) (h3 : p 3) (h4 : p 4) (h5 : p 5) {k : Nat} (hk : k < 6) : p k := by
  have hk7 : k = 0 ∨ k = 1 ∨ k = 2 ∨ k = 3 ∨ k = 4 ∨ k = 5 := by omega
  rcases hk7 with rfl | rfl | rfl | rfl | rfl | rfl <;> assumption
theorem wL_no32 {k : Nat} (hk : k < 6) : (32 : UInt8) ∉ wL k := lt6 (p := fun k => (32 : UInt8) ∉ wL k) (by decide) (by decide) (by decide) (by decide) (by decide) (by decide) hk
theorem wL_no10 {k : Nat} (hk : k < 6) : (10 : UInt8) ∉ wL k := lt6 (p := fun k => (10 : UInt8) ∉ wL k) (by decide) (by decide) (by decide) (by decide) (by decide) (by decide) hk
theorem wL_turned {k : Nat} (hk : k < 6) : wL k ≠ turnedW := lt6 (p := fun k => wL k ≠ turnedW) (by decide) (by decide) (by decide) (by decide) (by decide) (by decide) hk
theorem entIdx_wL {k : Nat} (hk : k < 6) : entIdx (wL k) = some k := lt6 (p := fun k => entIdx (wL k) = some k) (by decide) (by decide) (by decide) (by decide) (by decide) (by decide) hk
theorem entIdx_is {w : List UInt8} {k : Nat} (h : entIdx w = some k) : k < 6 ∧ w = wL k := by
  unfold entIdx at h
  split at h
  · rename_i e; injection h with h; subst h; exact ⟨by decide, eq_of_beq e⟩
  split at h
  · rename_i e; injection h with h; subst h; exact ⟨by decide, eq_of_beq e⟩
  split at h
  · rename_i e; injection h with h; subst h; exact ⟨by decide, eq_of_beq e⟩
  split at h
  · rename_i e; injection h with h; subst h; exact ⟨by decide, eq_of_beq e⟩
  split at h
  · rename_i e; injection h with h; subst h; exact ⟨by decide, eq_of_beq e⟩
  split at h
  · rename_i e; injection h with h; subst h; exact ⟨by decide, eq_of_beq e⟩
  · cases h
theorem toList_data (s : ByteArray) : s.toList = s.data.toList := ByteArray.toList_eq s
theorem preB_iff (k : Nat) (s : ByteArray) : preB k s = true ↔ ∃ r, s.data.toList = wL k ++ 32 :: r := by
  have e1 : (wB k).size = (wL k).length := by show (wL k).toArray.size = _; simp
  have e2 : (wK k).toList = wL k ++ [32] := by
    rw [toList_data]; unfold wK wB; simp [ByteArray.data_append, wL]
  have e3 : (s.extract 0 ((wB k).size + 1)).toList = s.data.toList.take ((wL k).length + 1) := by
    rw [toList_data, ByteArray.data_extract, Array.toList_extract, e1]; simp [List.extract]
  have e4 : s.size = s.data.toList.length := by rw [Array.length_toList]; rfl
  unfold preB
  rw [e2, e3, e1, e4, Bool.and_eq_true, decide_eq_true_eq, beq_iff_eq]
  constructor
  · rintro ⟨h1, h2⟩
    refine ⟨s.data.toList.drop ((wL k).length + 1), ?_⟩
    conv => lhs; rw [← List.take_append_drop ((wL k).length + 1) s.data.toList]
    rw [h2]; simp
  · rintro ⟨r, h⟩
    rw [h]
    refine ⟨by simp, ?_⟩
    rw [List.take_append, List.take_of_length_le (Nat.le_succ _)]
    simp
theorem drop_rest (k : Nat) (s : ByteArray) (r : List UInt8) (h : s.data.toList = wL k ++ 32 :: r) : (s.extract ((wB k).size + 1) s.size).data.toList = r := by
  have e1 : (wB k).size = (wL k).length := by show (wL k).toArray.size = _; simp
  have e4 : s.size = s.data.toList.length := by rw [Array.length_toList]; rfl
  rw [ByteArray.data_extract, Array.toList_extract, e1, e4, h]
  simp only [List.extract, List.length_append, List.length_cons]
  rw [List.take_of_length_le (by simp; omega), List.drop_append, List.drop_of_length_le (by omega)]
  simp
theorem app32_inj {a b r q : List UInt8} (ha : (32 : UInt8) ∉ a) (hb : (32 : UInt8) ∉ b) (h : a ++ 32 :: r = b ++ 32 :: q) : a = b := by
  have h1 := cut1_app 32 r a ha
  have h2 := cut1_app 32 q b hb
  rw [h, h2] at h1
  exact (congrArg (·.1) h1).symm
theorem idxR_spec (s : ByteArray) : (∃ k r, k < 6 ∧ idxR s = some k ∧ s.data.toList = wL k ++ 32 :: r) ∨ (idxR s = none ∧ ∀ k, k < 6 → ∀ r, s.data.toList ≠ wL k ++ 32 :: r) := by
  cases h : idxR s with
  | some k =>
    left
    have h1 := List.find?_some h
    have h2 := List.mem_of_find?_eq_some h
    obtain ⟨r, hr⟩ := (preB_iff k s).1 h1
    exact ⟨k, r, by simp at h2; omega, rfl, hr⟩
  | none =>
    right
    refine ⟨rfl, fun k hk r hr => ?_⟩
    have := List.find?_eq_none.1 h k (by have : k = 0 ∨ k = 1 ∨ k = 2 ∨ k = 3 ∨ k = 4 ∨ k = 5 := by omega
                                         simpa using this)
    exact this ((preB_iff k s).2 ⟨r, hr⟩)
theorem hiN_small {k : Nat} (hk : k < 6) : hiN k < 100000000000 := lt6 (p := fun k => hiN k < 100000000000) (by decide) (by decide) (by decide) (by decide) (by decide) (by decide) hk
/-- What a line is as the document says, and what it is to the program, that keeps the words that were there. -/
theorem line_rel (c : Cfg) (s : ByteArray) (S : List (List UInt8)) :
    lineF c s.data.toList S = (if S.contains (cut1 32 s.data.toList).1 then (220, c) else ((lineR c s).2.2, (lineR c s).1)) ∧
    (((lineR c s).2.1 = -1 ∧ (lineR c s).2.2 = 220 ∧ (lineR c s).1 = c) ∨ (∃ k : Nat, k < 7 ∧ (lineR c s).2.1 = k ∧ (cut1 32 s.data.toList).1 = wname k ∧ ((lineR c s).2.2 = 0 ∨ ((lineR c s).2.2 = 221 ∧ (lineR c s).1 = c)))) := by
  unfold lineF lineG
  rw [cut_one]
  by_cases ht : s.data.toList = turnedW
  · have e : (s.toList == turnedW) = true := by rw [toList_data, ht]; exact beq_self_eq_true _
    have hr : lineR c s = ({ c with t := true }, 6, 0) := by unfold lineR; rw [if_pos e]
    have hc : cut1 32 s.data.toList = (turnedW, [], false) := by rw [ht]; exact cut1_none 32 _ (by decide)
    rw [hr, hc]
    refine ⟨rfl, .inr ⟨6, by decide, rfl, rfl, .inl rfl⟩⟩
  · have e : (s.toList == turnedW) = false := by rw [toList_data, beq_eq_false_iff_ne]; exact ht
    obtain ⟨hn, h1, h2⟩ := cut1_spec 32 s.data.toList
    rcases idxR_spec s with ⟨k, r, hk, hi, hs⟩ | ⟨hi, hs⟩
    · have hc : cut1 32 s.data.toList = (wL k, r, true) := by rw [hs]; exact cut1_app 32 r _ (wL_no32 hk)
      have hx := drop_rest k s r hs
      have hw : wname k = wL k := by unfold wname; rw [if_pos hk]
      have hwt : (wL k == turnedW) = false := by rw [beq_eq_false_iff_ne]; exact wL_turned hk
      rw [hc]
      simp only [hwt, Bool.false_and, Bool.false_eq_true, if_false, entIdx_wL hk, Bool.and_true]
      have hr : lineR c s = (match numR r with | none => (c, -1, 220) | some v => if v < loN k ∨ hiN k < v then (c, k, 221) else (c.set k v, k, 0)) := by
        unfold lineR
        rw [e, if_neg Bool.false_ne_true, hi]
        simp only [hx]
        try (cases numR r <;> rfl)
      cases hd : digitsOk r
      · have hnr : numR r = none := by have := digits_some r; rw [hd] at this; cases h : numR r with | none => rfl | some v => rw [h] at this; cases this
        rw [hnr] at hr
        simp only at hr
        rw [hr]
        exact ⟨by simp, .inl ⟨rfl, rfl, rfl⟩⟩
      · obtain ⟨u, hu, hcase⟩ := digits_both r hd
        rw [hu] at hr
        simp only at hr
        have hh := hiN_small hk
        have hlo : (entL.getD k ([], 0, 0)).2.1 = loN k := rfl
        have hhi : (entL.getD k ([], 0, 0)).2.2 = hiN k := rfl
        rw [hlo, hhi]
        simp only [if_true]
        rcases hcase with ha | ⟨hu2, ha⟩
        · rw [ha]
          simp only
          by_cases hb : u < loN k ∨ hiN k < u
          · rw [if_pos hb] at hr ⊢
            rw [hr]
            exact ⟨rfl, .inr ⟨k, by omega, rfl, hw.symm, .inr ⟨rfl, rfl⟩⟩⟩
          · rw [if_neg hb] at hr ⊢
            rw [hr]
            exact ⟨rfl, .inr ⟨k, by omega, rfl, hw.symm, .inl rfl⟩⟩
        · rw [if_pos (.inr (by omega))] at hr
          rw [hr]
          refine ⟨?_, .inr ⟨k, by omega, rfl, hw.symm, .inr ⟨rfl, rfl⟩⟩⟩
          cases hp : atoiP r with
          | none => rfl
          | some v =>
            have := ha v hp
            have hb : v < loN k ∨ hiN k < v := .inr (by omega)
            simp only
            rw [if_pos hb]
    · have hr : lineR c s = (c, -1, 220) := by unfold lineR; rw [e, if_neg Bool.false_ne_true, hi]
      rw [hr]
      refine ⟨?_, .inl ⟨rfl, rfl, rfl⟩⟩
      generalize hcv : cut1 32 s.data.toList = cv at *
      obtain ⟨wd, rest, num⟩ := cv
      simp only at *
      by_cases hS : S.contains wd = true
      · rw [if_pos hS, if_pos hS]
      · rw [if_neg hS, if_neg hS]
        have hnt : (wd == turnedW && !num) = false := by
          cases num
          · rw [(h2 rfl).1]
            simp [ht]
          · simp
        rw [hnt, if_neg Bool.false_ne_true]
        cases hx : entIdx wd with
        | none => rfl
        | some i =>
          obtain ⟨hi6, hwi⟩ := entIdx_is hx
          cases num
          · simp
          · exact absurd (by rw [← hwi]; exact h1 rfl) (hs i hi6 rest)
/-- The document's way through a text. -/
def refReadF : Nat → Cfg → List Bool → Nat → List UInt8 → Option (Cfg × Nat × Int)
  | 0, _, _, _, _ => none
  | f + 1, c, B, n, l =>
    if l = [] then some (c, 0, 0)
    else if (cut1 10 l).2.2 = false ∨ (0 ≤ (lineR c ⟨(cut1 10 l).1.toArray⟩).2.1 ∧ B.getD (lineR c ⟨(cut1 10 l).1.toArray⟩).2.1.toNat false = true) then some (Cfg.zero, n, 220)
    else if (lineR c ⟨(cut1 10 l).1.toArray⟩).2.2 = 0 then refReadF f (lineR c ⟨(cut1 10 l).1.toArray⟩).1 (B.set (lineR c ⟨(cut1 10 l).1.toArray⟩).2.1.toNat true) (n + 1) (cut1 10 l).2.1
    else some (Cfg.zero, n, (lineR c ⟨(cut1 10 l).1.toArray⟩).2.2)
theorem wname_inj : ∀ j, j < 7 → ∀ k, k < 7 → wname j = wname k → j = k := by decide
theorem read_same : ∀ (f : Nat) (c : Cfg) (S : List (List UInt8)) (B : List Bool) (n : Nat) (l : List UInt8), B.length = 7 → (∀ k, k < 7 → B.getD k false = S.contains (wname k)) → refReadF f c B n l = readF f c S n l
  | 0, _, _, _, _, _, _, _ => rfl
  | f + 1, c, S, B, n, l, hB, hS => by
    unfold refReadF readF
    rw [cut_one]
    by_cases h0 : l = []
    · rw [if_pos h0, if_pos h0]
    · rw [if_neg h0, if_neg h0]
      have hrel := line_rel c ⟨(cut1 10 l).1.toArray⟩ S
      generalize hq : lineR c ⟨(cut1 10 l).1.toArray⟩ = q at *
      obtain ⟨d, which, e⟩ := q
      simp only at *
      obtain ⟨hF, hk⟩ := hrel
      cases hnum : (cut1 10 l).2.2
      · simp
      · simp only [Bool.true_eq_false, false_or, if_true]
        rw [hF, cut_one]
        rcases hk with ⟨h1, h2, h3⟩ | ⟨k, hk7, h1, h2, h3⟩
        · subst h1 h2 h3
          rw [if_neg (by rintro ⟨h, _⟩; exact absurd h (by decide)), if_neg (by decide)]
          have e2 : (if S.contains (cut1 32 (cut1 10 l).1).1 then ((220 : Int), d) else (220, d)) = (220, d) := by split <;> rfl
          rw [e2]; rfl
        · subst h1
          rw [h2]
          have hBk := hS k hk7
          by_cases hs : S.contains (wname k) = true
          · rw [if_pos ⟨by omega, by rw [Int.toNat_natCast, hBk]; exact hs⟩, if_pos hs]; rfl
          · rw [if_neg (by rintro ⟨_, h⟩; rw [Int.toNat_natCast, hBk] at h; exact hs h), if_neg hs]
            rcases h3 with rfl | ⟨rfl, rfl⟩
            · simp only [if_true]
              refine read_same f d _ _ (n + 1) _ (by simp [hB]) (fun j hj => ?_)
              rw [Int.toNat_natCast]
              by_cases hjk : j = k
              · subst hjk
                simp [List.getD, hB, hj]
              · have hw : wname j ≠ wname k := fun h => hjk (wname_inj j hj k hk7 h)
                have := hS j hj
                rw [List.contains_eq_mem] at this ⊢
                simp only [List.getD] at this ⊢
                rw [List.getElem?_set_ne (fun h => hjk h.symm), this]
                simp [hw]
            · simp
theorem readF_more : ∀ (f g : Nat) (c : Cfg) (S : List (List UInt8)) (n : Nat) (l : List UInt8) (r : Cfg × Nat × Int), f ≤ g → readF f c S n l = some r → readF g c S n l = some r
  | 0, _, _, _, _, _, _, _, h => by cases h
  | f + 1, 0, _, _, _, _, _, hg, _ => absurd hg (Nat.not_succ_le_zero _)
  | f + 1, g + 1, c, S, n, l, r, hg, h => by
    unfold readF at h ⊢
    split
    · rename_i h0; rw [if_pos h0] at h; exact h
    · rename_i h0
      rw [if_neg h0] at h
      split
      · rename_i h1
        rw [if_pos h1] at h
        split
        · rename_i h2
          rw [if_pos h2] at h
          exact readF_more f g _ _ _ _ r (by omega) h
        · rename_i h2; rw [if_neg h2] at h; exact h
      · rename_i h1; rw [if_neg h1] at h; exact h
theorem cut1_len (c : UInt8) : ∀ l : List UInt8, l ≠ [] → (cut1 c l).2.1.length < l.length
  | [], h => absurd rfl h
  | b :: l, _ => by
    unfold cut1
    by_cases h : b = c
    · simp [h]
    · simp only [if_neg h]
      by_cases h2 : l = []
      · subst h2; simp [cut1]
      · have := cut1_len c l h2; simp; omega
theorem readF_ends : ∀ (f : Nat) (c : Cfg) (S : List (List UInt8)) (n : Nat) (l : List UInt8), l.length < f → ∃ r, readF f c S n l = some r
  | 0, _, _, _, _, h => absurd h (Nat.not_lt_zero _)
  | f + 1, c, S, n, l, h => by
    unfold readF
    by_cases h0 : l = []
    · rw [if_pos h0]; exact ⟨_, rfl⟩
    · rw [if_neg h0, cut_one]
      split
      · split
        · exact readF_ends f _ _ _ _ (by have := cut1_len 10 l h0; omega)
        · exact ⟨_, rfl⟩
      · exact ⟨_, rfl⟩
theorem readF_line (f : Nat) (c : Cfg) (S : List (List UInt8)) (n : Nat) (x l : List UInt8) (hx : (10 : UInt8) ∉ x) : readF (f + 1) c S n (x ++ 10 :: l) = if (lineF c x S).1 = 0 then readF f (lineF c x S).2 (S ++ [(cut1 32 x).1]) (n + 1) l else some (Cfg.zero, n, (lineF c x S).1) := by
  conv => lhs; unfold readF
  rw [if_neg (by simp), cut_one, cut1_app 10 l x hx]
  simp only [if_true]
  rw [cut_one]
/-! ### A setup's text -/
def numLine (k : Nat) (v : Int) : List UInt8 := wL k ++ 32 :: Lib.itoa v
theorem decDigits_dig (u : Nat) : ∀ a ∈ Lib.decDigits u, isDig a := by
  induction u using Nat.strongRecOn with
  | _ u ih =>
    rw [Lib.decDigits]
    have small : ∀ v : Nat, v < 10 → isDig (UInt8.ofNat (48 + v)) := by
      intro v hv
      unfold isDig
      have : (UInt8.ofNat (48 + v)).toNat = 48 + v := by rw [UInt8.toNat_ofNat']; omega
      omega
    split
    · intro a ha
      rw [List.mem_singleton] at ha; subst ha
      exact small u (by assumption)
    · intro a ha
      rcases List.mem_append.1 ha with h | h
      · exact ih (u / 10) (by omega) a h
      · rw [List.mem_singleton] at h; subst h
        exact small _ (Nat.mod_lt _ (by decide))
theorem decDigits_ne (u : Nat) : Lib.decDigits u ≠ [] := by rw [Lib.decDigits]; split <;> simp
theorem decV_app (l : List UInt8) (b : UInt8) (v : Nat) : decV v (l ++ [b]) = decV v l * 10 + (b.toNat - 48) := by unfold decV; rw [List.foldl_append]; rfl
theorem decV_digits (u : Nat) : decV 0 (Lib.decDigits u) = u := by
  induction u using Nat.strongRecOn with
  | _ u ih =>
    have small : ∀ v : Nat, v < 10 → (UInt8.ofNat (48 + v)).toNat = 48 + v := by
      intro v hv
      rw [UInt8.toNat_ofNat']; omega
    rw [Lib.decDigits]
    split
    · simp only [decV, List.foldl_cons, List.foldl_nil]
      rw [small u (by assumption)]; omega
    · rw [decV_app, ih (u / 10) (by omega), small _ (Nat.mod_lt _ (by decide))]; omega
theorem decDigits_head (u : Nat) : 1 ≤ u → (Lib.decDigits u).headD 0 ≠ 48 := by
  induction u using Nat.strongRecOn with
  | _ u ih =>
    intro hu
    rw [Lib.decDigits]
    split
    · rename_i h
      intro e
      have : (UInt8.ofNat (48 + u)).toNat = 48 + u := by rw [UInt8.toNat_ofNat']; omega
      simp only [List.headD_cons] at e
      rw [e] at this
      simp at this
      omega
    · have h1 := ih (u / 10) (by omega) (by omega)
      have h2 := decDigits_ne (u / 10)
      cases hd : Lib.decDigits (u / 10) with
      | nil => exact absurd hd h2
      | cons a r => rw [hd] at h1; simpa using h1
theorem digits_ok (u : Nat) : digitsOk (Lib.decDigits u) = true := by
  unfold digitsOk
  have h1 := (isDig_all _).2 (decDigits_dig u)
  have h2 := decDigits_ne u
  rw [h1]
  have h3 : (Lib.decDigits u).isEmpty = false := by rw [Bool.eq_false_iff]; intro h; exact h2 (List.isEmpty_iff.1 h)
  rw [h3]
  by_cases hu : u = 0
  · subst hu; rw [Lib.decDigits]; rfl
  · have h4 := decDigits_head u (by omega)
    have h5 : ((Lib.decDigits u).headD 0 == 48) = false := by rw [beq_eq_false_iff_ne]; exact h4
    rw [h5]; simp
theorem numLine_read (c : Cfg) (k : Nat) (hk : k < 6) (v : Int) (h1 : loN k ≤ v) (h2 : v ≤ hiN k) (S : List (List UInt8)) (hS : S.contains (wL k) = false) : lineF c (numLine k v) S = (0, c.set k v) ∧ (cut1 32 (numLine k v)).1 = wL k ∧ (10 : UInt8) ∉ numLine k v := by
  have hh := hiN_small hk
  have hlo : 0 ≤ loN k := lt6 (p := fun k => 0 ≤ loN k) (by decide) (by decide) (by decide) (by decide) (by decide) (by decide) hk
  obtain ⟨u, rfl⟩ : ∃ u : Nat, v = u := ⟨v.toNat, by omega⟩
  have hi : Lib.itoa (u : Int) = Lib.decDigits u := by unfold Lib.itoa; rw [if_neg (by omega)]; rfl
  have hc : cut1 32 (numLine k u) = (wL k, Lib.decDigits u, true) := by unfold numLine; rw [hi]; exact cut1_app 32 _ _ (wL_no32 hk)
  have hwt : (wL k == turnedW) = false := by rw [beq_eq_false_iff_ne]; exact wL_turned hk
  have ha : atoiP (Lib.decDigits u) = some (u : Int) := by
    rcases atoiP_dig (Lib.decDigits u) (decDigits_ne u) (decDigits_dig u) with ⟨_, h⟩ | ⟨h, _⟩
    · rw [h, decV_digits]
    · rw [decV_digits] at h; omega
  refine ⟨?_, by rw [hc], ?_⟩
  · unfold lineF lineG
    rw [cut_one, hc]
    simp only [hS, Bool.false_eq_true, if_false, hwt, Bool.false_and, entIdx_wL hk, digits_ok, Bool.and_true, if_true, ha]
    have e1 : (entL.getD k ([], 0, 0)).2.1 = loN k := rfl
    have e2 : (entL.getD k ([], 0, 0)).2.2 = hiN k := rfl
    rw [e1, e2, if_neg (by omega)]
  · unfold numLine
    rw [hi]
    intro h
    rcases List.mem_append.1 h with h | h
    · exact wL_no10 hk h
    · rcases List.mem_cons.1 h with h | h
      · exact absurd h (by decide)
      · have := (decDigits_dig u _ h).1
        exact absurd this (by decide)
def showF (c : Cfg) : List UInt8 := numLine 0 c.l0 ++ 10 :: (numLine 1 c.l1 ++ 10 :: (numLine 2 c.l2 ++ 10 :: (numLine 3 c.l3 ++ 10 :: (numLine 4 c.l4 ++ 10 :: (numLine 5 c.l5 ++ 10 :: (if c.t then turnedW ++ 10 :: [] else []))))))
theorem read_show (c : Cfg) (h0 : loN 0 ≤ c.l0 ∧ c.l0 ≤ hiN 0) (h1 : loN 1 ≤ c.l1 ∧ c.l1 ≤ hiN 1) (h2 : loN 2 ≤ c.l2 ∧ c.l2 ≤ hiN 2) (h3 : loN 3 ≤ c.l3 ∧ c.l3 ≤ hiN 3) (h4 : loN 4 ≤ c.l4 ∧ c.l4 ≤ hiN 4) (h5 : loN 5 ≤ c.l5 ∧ c.l5 ≤ hiN 5) :
    readF 8 Cfg.usual [] 1 (showF c) = some (c, 0, 0) := by
  unfold showF
  obtain ⟨a0, b0, d0⟩ := numLine_read Cfg.usual 0 (by decide) c.l0 h0.1 h0.2 [] (by decide)
  rw [readF_line 7 _ _ _ _ _ d0, a0, b0, if_pos rfl]
  obtain ⟨a0, b0, d0⟩ := numLine_read (Cfg.usual.set 0 c.l0) 1 (by decide) c.l1 h1.1 h1.2 ([] ++ [wL 0]) (by decide)
  rw [readF_line 6 _ _ _ _ _ d0, a0, b0, if_pos rfl]
  obtain ⟨a0, b0, d0⟩ := numLine_read ((Cfg.usual.set 0 c.l0).set 1 c.l1) 2 (by decide) c.l2 h2.1 h2.2 ([] ++ [wL 0] ++ [wL 1]) (by decide)
  rw [readF_line 5 _ _ _ _ _ d0, a0, b0, if_pos rfl]
  obtain ⟨a0, b0, d0⟩ := numLine_read (((Cfg.usual.set 0 c.l0).set 1 c.l1).set 2 c.l2) 3 (by decide) c.l3 h3.1 h3.2 ([] ++ [wL 0] ++ [wL 1] ++ [wL 2]) (by decide)
  rw [readF_line 4 _ _ _ _ _ d0, a0, b0, if_pos rfl]
  obtain ⟨a0, b0, d0⟩ := numLine_read ((((Cfg.usual.set 0 c.l0).set 1 c.l1).set 2 c.l2).set 3 c.l3) 4 (by decide) c.l4 h4.1 h4.2 ([] ++ [wL 0] ++ [wL 1] ++ [wL 2] ++ [wL 3]) (by decide)
  rw [readF_line 3 _ _ _ _ _ d0, a0, b0, if_pos rfl]
  obtain ⟨a0, b0, d0⟩ := numLine_read (((((Cfg.usual.set 0 c.l0).set 1 c.l1).set 2 c.l2).set 3 c.l3).set 4 c.l4) 5 (by decide) c.l5 h5.1 h5.2 ([] ++ [wL 0] ++ [wL 1] ++ [wL 2] ++ [wL 3] ++ [wL 4]) (by decide)
  rw [readF_line 2 _ _ _ _ _ d0, a0, b0, if_pos rfl]
  obtain ⟨l0, l1, l2, l3, l4, l5, t⟩ := c
  cases t
  · simp [readF, Cfg.set, Cfg.usual]
  · simp only [if_true]
    rw [readF_line 1 _ _ _ _ _ (by decide)]
    have e : ∀ c : Cfg, lineF c turnedW ([] ++ [wL 0] ++ [wL 1] ++ [wL 2] ++ [wL 3] ++ [wL 4] ++ [wL 5]) = (0, { c with t := true }) := by
      intro c
      unfold lineF lineG
      rw [cut_one, cut1_none 32 turnedW (by decide)]
      rw [if_neg (by decide), if_pos (by decide)]
    rw [e, if_pos rfl]
    simp [readF, Cfg.set, Cfg.usual]
theorem show_long (c : Cfg) : 8 ≤ (showF c).length + 1 := by
  unfold showF numLine
  simp only [List.length_append, List.length_cons]
  omega
theorem read_shown (c : Cfg) (h0 : loN 0 ≤ c.l0 ∧ c.l0 ≤ hiN 0) (h1 : loN 1 ≤ c.l1 ∧ c.l1 ≤ hiN 1) (h2 : loN 2 ≤ c.l2 ∧ c.l2 ≤ hiN 2) (h3 : loN 3 ≤ c.l3 ∧ c.l3 ≤ hiN 3) (h4 : loN 4 ≤ c.l4 ∧ c.l4 ≤ hiN 4) (h5 : loN 5 ≤ c.l5 ∧ c.l5 ≤ hiN 5) :
    readF ((showF c).length + 1) Cfg.usual [] 1 (showF c) = some (c, 0, 0) := readF_more _ _ _ _ _ _ _ (show_long c) (read_show c h0 h1 h2 h3 h4 h5)
/-! ### Lines in any order -/
/-- Lines, one by one. -/
def readL : Cfg → List (List UInt8) → List (List UInt8) → Option Cfg
  | c, _, [] => some c
  | c, S, x :: l => if (lineF c x S).1 = 0 then readL (lineF c x S).2 (S ++ [(cut1 32 x).1]) l else none
/-- What a line gives, whatever was there. -/
def act (x : List UInt8) : Option (Nat × Int) :=
  if (cut1 32 x).1 == turnedW && !(cut1 32 x).2.2 then some (6, 0)
  else match entIdx (cut1 32 x).1 with
    | none => none
    | some i =>
      if digitsOk (cut1 32 x).2.1 && (cut1 32 x).2.2 then
        (match atoiP (cut1 32 x).2.1 with
          | none => none
          | some v => if v < (entL.getD i ([], 0, 0)).2.1 ∨ (entL.getD i ([], 0, 0)).2.2 < v then none else some (i, v))
      else none
def Cfg.put (c : Cfg) (k : Nat) (v : Int) : Cfg := if k = 6 then { c with t := true } else c.set k v
theorem act_word {x : List UInt8} {k : Nat} {v : Int} (h : act x = some (k, v)) : k < 7 ∧ (cut1 32 x).1 = wname k := by
  unfold act at h
  split at h
  · rename_i e
    simp only [Option.some.injEq, Prod.mk.injEq] at h
    obtain ⟨rfl, _⟩ := h
    simp only [Bool.and_eq_true] at e
    exact ⟨by decide, eq_of_beq e.1⟩
  · split at h
    · cases h
    · rename_i i hi
      obtain ⟨h6, hw⟩ := entIdx_is hi
      split at h
      · split at h
        · cases h
        · split at h
          · cases h
          · simp only [Option.some.injEq, Prod.mk.injEq] at h
            obtain ⟨rfl, _⟩ := h
            exact ⟨by omega, by rw [hw]; unfold wname; rw [if_pos h6]⟩
      · cases h
theorem line_act (c : Cfg) (x : List UInt8) (S : List (List UInt8)) : (S.contains (cut1 32 x).1 = false ∧ ∃ k v, act x = some (k, v) ∧ lineF c x S = (0, c.put k v)) ∨ ((S.contains (cut1 32 x).1 = true ∨ act x = none) ∧ (lineF c x S).1 ≠ 0) := by
  unfold lineF lineG
  rw [cut_one]
  by_cases hS : S.contains (cut1 32 x).1 = true
  · rw [if_pos hS]; exact .inr ⟨.inl hS, by simp⟩
  · rw [if_neg hS]
    have hS' : S.contains (cut1 32 x).1 = false := by simpa using hS
    by_cases ht : ((cut1 32 x).1 == turnedW && !(cut1 32 x).2.2) = true
    · have ha : act x = some (6, 0) := by unfold act; rw [if_pos ht]
      rw [if_pos ht]
      exact .inl ⟨hS', 6, 0, ha, rfl⟩
    · rw [if_neg ht]
      cases hi : entIdx (cut1 32 x).1 with
      | none =>
        have ha : act x = none := by unfold act; rw [if_neg ht, hi]
        exact .inr ⟨.inr ha, by simp⟩
      | some i =>
        have hi6 := (entIdx_is hi).1
        simp only
        by_cases hd : (digitsOk (cut1 32 x).2.1 && (cut1 32 x).2.2) = true
        · rw [if_pos hd]
          cases hp : atoiP (cut1 32 x).2.1 with
          | none =>
            have ha : act x = none := by unfold act; rw [if_neg ht, hi]; simp only; rw [if_pos hd, hp]
            exact .inr ⟨.inr ha, by simp⟩
          | some v =>
            simp only
            by_cases hb : v < (entL.getD i ([], 0, 0)).2.1 ∨ (entL.getD i ([], 0, 0)).2.2 < v
            · have ha : act x = none := by unfold act; rw [if_neg ht, hi]; simp only; rw [if_pos hd, hp]; simp only; rw [if_pos hb]
              rw [if_pos hb]
              exact .inr ⟨.inr ha, by simp⟩
            · have ha : act x = some (i, v) := by unfold act; rw [if_neg ht, hi]; simp only; rw [if_pos hd, hp]; simp only; rw [if_neg hb]
              rw [if_neg hb]
              exact .inl ⟨hS', i, v, ha, by unfold Cfg.put; rw [if_neg (by omega)]⟩
        · have ha : act x = none := by unfold act; rw [if_neg ht, hi]; simp only; rw [if_neg hd]
          rw [if_neg hd]
          exact .inr ⟨.inr ha, by simp⟩
theorem put_comm (c : Cfg) (j k : Nat) (hj : j < 7) (hk : k < 7) (hjk : j ≠ k) (u v : Int) : (c.put j u).put k v = (c.put k v).put j u := by
  have hj7 : j = 0 ∨ j = 1 ∨ j = 2 ∨ j = 3 ∨ j = 4 ∨ j = 5 ∨ j = 6 := by omega
  have hk7 : k = 0 ∨ k = 1 ∨ k = 2 ∨ k = 3 ∨ k = 4 ∨ k = 5 ∨ k = 6 := by omega
  rcases hj7 with rfl | rfl | rfl | rfl | rfl | rfl | rfl <;> rcases hk7 with rfl | rfl | rfl | rfl | rfl | rfl | rfl <;> first | exact absurd rfl hjk | rfl
theorem readL_cons (c : Cfg) (S : List (List UInt8)) (x : List UInt8) (l : List (List UInt8)) : readL c S (x :: l) = match act x with | none => none | some (k, v) => if S.contains (cut1 32 x).1 then none else readL (c.put k v) (S ++ [(cut1 32 x).1]) l := by
  conv => lhs; unfold readL
  rcases line_act c x S with ⟨hS, k, v, ha, hl⟩ | ⟨h, hl⟩
  · rw [hl, ha]; simp only [if_true]; rw [hS, if_neg Bool.false_ne_true]
  · rw [if_neg hl]
    rcases h with h | h
    · cases ha : act x with
      | none => rfl
      | some q => simp only; rw [if_pos h]
    · rw [h]
theorem readL_seen : ∀ (l : List (List UInt8)) (c : Cfg) (S T : List (List UInt8)), (∀ w, S.contains w = T.contains w) → readL c S l = readL c T l
  | [], _, _, _, _ => rfl
  | x :: l, c, S, T, h => by
    rw [readL_cons, readL_cons]
    cases act x with
    | none => rfl
    | some q =>
      simp only
      rw [h]
      split
      · rfl
      · exact readL_seen l _ _ _ (fun w => by
          have := h w
          rw [List.contains_eq_mem, List.contains_eq_mem] at *
          simp only [List.mem_append]
          simp only [decide_eq_decide] at *
          rw [this])
theorem readL_perm {l m : List (List UInt8)} (h : l.Perm m) : ∀ (c : Cfg) (S : List (List UInt8)), readL c S l = readL c S m := by
  induction h with
  | nil => intro c S; rfl
  | cons x _ ih =>
    intro c S
    rw [readL_cons, readL_cons]
    cases act x with
    | none => rfl
    | some q => simp only; rw [ih]
  | swap x y l =>
    intro c S
    rw [readL_cons, readL_cons]
    cases hx : act x with
    | none =>
      cases hy : act y with
      | none => rfl
      | some q => simp only [readL_cons, hx]; split <;> rfl
    | some p =>
      obtain ⟨k, v⟩ := p
      obtain ⟨hk, hwx⟩ := act_word hx
      cases hy : act y with
      | none => simp only [readL_cons, hy]; split <;> rfl
      | some q =>
        obtain ⟨j, u⟩ := q
        obtain ⟨hj, hwy⟩ := act_word hy
        simp only [readL_cons, hx, hy]
        rw [hwx, hwy]
        by_cases hxy : wname k = wname j
        · have e1 : (S ++ [wname j]).contains (wname k) = true := by rw [hxy]; simp
          have e2 : (S ++ [wname k]).contains (wname j) = true := by rw [hxy]; simp
          rw [e1, e2]; simp
        · have hkj : k ≠ j := fun e => hxy (by rw [e])
          have e1 : (S ++ [wname j]).contains (wname k) = S.contains (wname k) := by
            rw [List.contains_eq_mem, List.contains_eq_mem]; simp [hxy]
          have e2 : (S ++ [wname k]).contains (wname j) = S.contains (wname j) := by
            rw [List.contains_eq_mem, List.contains_eq_mem]
            have : ¬ wname j = wname k := fun e => hxy e.symm
            simp [this]
          rw [e1, e2, put_comm c j k hj hk (fun e => hkj e.symm)]
          have e3 : readL ((c.put k v).put j u) (S ++ [wname j] ++ [wname k]) l = readL ((c.put k v).put j u) (S ++ [wname k] ++ [wname j]) l := readL_seen l _ _ _ (fun w => by
            rw [List.contains_eq_mem, List.contains_eq_mem]
            simp only [List.mem_append, List.mem_singleton]
            simp only [decide_eq_decide]
            constructor <;> (rintro ((h | h) | h) <;> simp [h]))
          rw [e3]
          cases S.contains (wname j) <;> cases S.contains (wname k) <;> rfl
  | trans _ _ ih1 ih2 => intro c S; rw [ih1, ih2]
/-- A text's pieces between its ends of lines. -/
def pieces : List UInt8 → List (List UInt8)
  | [] => [[]]
  | b :: l => if b = 10 then [] :: pieces l else match pieces l with | [] => [[b]] | h :: t => (b :: h) :: t
def linesText (ls : List (List UInt8)) : List UInt8 := ls.flatMap fun x => x ++ [10]
theorem pieces_ne : ∀ l, pieces l ≠ []
  | [] => by simp [pieces]
  | b :: l => by unfold pieces; split; · simp
                 split <;> simp
theorem pieces_text : ∀ l, linesText (pieces l) = l ++ [10]
  | [] => rfl
  | b :: l => by
    have ih := pieces_text l
    unfold pieces
    split
    · rename_i h; subst h; unfold linesText at *; simp [ih]
    · cases hp : pieces l with
      | nil => exact absurd hp (pieces_ne l)
      | cons h t => rw [hp] at ih; unfold linesText at *; simp at ih ⊢; exact ih
theorem pieces_free : ∀ l, ∀ x ∈ pieces l, (10 : UInt8) ∉ x
  | [], x, h => by simp [pieces] at h; subst h; simp
  | b :: l, x, h => by
    have ih := pieces_free l
    unfold pieces at h
    split at h
    · rcases List.mem_cons.1 h with rfl | h
      · simp
      · exact ih x h
    · rename_i hb
      cases hp : pieces l with
      | nil => exact absurd hp (pieces_ne l)
      | cons a t =>
        rw [hp] at h ih
        simp only at h
        rcases List.mem_cons.1 h with rfl | h
        · intro hm
          rcases List.mem_cons.1 hm with e | e
          · exact hb e.symm
          · exact ih a List.mem_cons_self e
        · exact ih x (List.mem_cons_of_mem _ h)
theorem readF_lines : ∀ (ls : List (List UInt8)) (f : Nat) (c : Cfg) (S : List (List UInt8)) (n : Nat), (∀ x ∈ ls, (10 : UInt8) ∉ x) → ls.length < f →
    (∃ d, readL c S ls = some d ∧ readF f c S n (linesText ls) = some (d, 0, 0)) ∨ (readL c S ls = none ∧ ∃ m e, e ≠ 0 ∧ readF f c S n (linesText ls) = some (Cfg.zero, m, e))
  | _, 0, _, _, _, _, h => absurd h (Nat.not_lt_zero _)
  | [], f + 1, c, S, n, _, _ => .inl ⟨c, rfl, by simp [linesText, readF]⟩
  | x :: ls, f + 1, c, S, n, h, hf => by
    have e : linesText (x :: ls) = x ++ 10 :: linesText ls := by unfold linesText; simp
    rw [e, readF_line f c S n x _ (h x List.mem_cons_self)]
    unfold readL
    by_cases h0 : (lineF c x S).1 = 0
    · rw [if_pos h0, if_pos h0]
      exact readF_lines ls f _ _ _ (fun y hy => h y (List.mem_cons_of_mem _ hy)) (by simpa using hf)
    · rw [if_neg h0, if_neg h0]
      exact .inr ⟨rfl, n, _, h0, rfl⟩
/-- All lines of texts. -/
def linesAll (l : List (List UInt8)) : List (List UInt8) := l.flatMap pieces
theorem linesAll_text (l : List (List UInt8)) : linesText (linesAll l) = l.flatMap fun x => x ++ [10] := by
  induction l with
  | nil => rfl
  | cons x l ih =>
    have : linesText (linesAll (x :: l)) = linesText (pieces x) ++ linesText (linesAll l) := by unfold linesText linesAll; simp
    rw [this, ih, pieces_text]; simp
theorem linesText_long : ∀ ls : List (List UInt8), ls.length ≤ (linesText ls).length
  | [] => Nat.le_refl _
  | x :: ls => by
    have := linesText_long ls
    have e : linesText (x :: ls) = x ++ 10 :: linesText ls := by unfold linesText; simp
    rw [e]; simp; omega
/-- LINES MAY STAND IN ANY ORDER. -/
theorem lines_any (l : List (List UInt8)) (a b : List UInt8) (ha : a = l.flatMap fun x => x ++ [10]) (hb : b = l.reverse.flatMap fun x => x ++ [10]) (r q : Cfg × Nat × Int)
    (hr : readF (a.length + 1) Cfg.usual [] 1 a = some r) (hq : readF (b.length + 1) Cfg.usual [] 1 b = some q) : (r.2.2 = 0 ↔ q.2.2 = 0) ∧ r.1 = q.1 := by
  have hp : (linesAll l.reverse).Perm (linesAll l) := by unfold linesAll; exact (List.reverse_perm l).flatMap_right pieces
  have hfree : ∀ m : List (List UInt8), ∀ x ∈ linesAll m, (10 : UInt8) ∉ x := fun m x hx => by
    unfold linesAll at hx
    obtain ⟨y, _, hy⟩ := List.mem_flatMap.1 hx
    exact pieces_free y x hy
  rw [ha, ← linesAll_text] at hr
  rw [hb, ← linesAll_text] at hq
  have h1 := readF_lines (linesAll l) ((linesText (linesAll l)).length + 1) Cfg.usual [] 1 (hfree l) (Nat.lt_succ_of_le (linesText_long _))
  have h2 := readF_lines (linesAll l.reverse) ((linesText (linesAll l.reverse)).length + 1) Cfg.usual [] 1 (hfree l.reverse) (Nat.lt_succ_of_le (linesText_long _))
  rw [hr] at h1
  rw [hq] at h2
  have e := readL_perm hp Cfg.usual []
  rcases h1 with ⟨d, h3, h4⟩ | ⟨h3, m, x, hx, h4⟩ <;> rcases h2 with ⟨d2, h5, h6⟩ | ⟨h5, m2, x2, hx2, h6⟩
  · rw [h3, h5] at e
    have := Option.some.inj e
    rw [Option.some.inj h4, Option.some.inj h6, this]
    simp
  · rw [h3, h5] at e; cases e
  · rw [h3, h5] at e; cases e
  · rw [Option.some.inj h4, Option.some.inj h6]
    simp [hx, hx2]
end Go.Proofs.YtaibjaienhnckaaDoor
