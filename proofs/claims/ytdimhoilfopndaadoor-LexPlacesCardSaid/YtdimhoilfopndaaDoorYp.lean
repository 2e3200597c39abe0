/- What the reference of layer 2 answers to a number and to a name is what the plain Number and the plain Keyword answer. Condition: the text takes at most 65536 bytes. -/
import Derived.Test.YtdimhoilfopndaaDoorYl
import Derived.Test.YtdimhoilfopndaaDoorYo
set_option linter.unusedVariables false
set_option linter.unusedSimpArgs false
namespace Go.Proofs.YtdimhoilfopndaaDoor
open Go.RowKit Go.Proofs.YtdimhoilfopndaaDoorW.PrintWords Go.Proofs.YtdimhoilfopndaaDoor.PLexNumbers
theorem drawn0_gives {P : Program} {f : FuncId} {args : Array Value} {w : World} {v : Value} (h : Calls P f args w fun e w' => e = .returned v ∧ Drawn0 w w') : Gives P f args w v :=
  h.mono fun e w' hh => ⟨hh.1, IsOv.of_below hh.2.below⟩
theorem refKeyword_f (s : ByteArray) : skuaref02_Keyword.f s = some (kwB s.data.toList) := by
  unfold skuaref02_Keyword.f
  rw [ByteArray.toList_eq]
  generalize s.data.toList = l
  have key : ∀ (ks : List (List UInt8)), (ks.foldr (fun k r => if l = k then some true else r) (some false)) = some (ks.contains l) := by
    intro ks
    induction ks with
    | nil => rfl
    | cons k ks ih => simp only [List.foldr_cons, List.contains_cons, ih]; by_cases h : l = k <;> simp [h]
  exact key kwL
theorem refKeyword_gives (s : ByteArray) (w : World) : Gives Tryd.prog 11 #[.string s] w (.bool (kwB s.data.toList)) :=
  drawn0_gives (skuaref02_Keyword.calls s _ w (refKeyword_f s))
/-- What a byte is as a digit, by the reference. -/
def rdig (c : Int) : Int := if 48 ≤ c ∧ c ≤ 57 then c - 48 else if 97 ≤ c ∧ c ≤ 102 then c - 87 else if 65 ≤ c ∧ c ≤ 70 then c - 55 else 99
theorem refDigit_f (k : Nat) (c : Int) (h0 : 0 ≤ c) (h1 : c ≤ 255) : skuaref02_digit.f (k + 2) c = some (rdig c) := by
  have e (x : Int) (hx : 0 ≤ x ∧ x < 256) : x % 256 = x := Int.emod_eq_of_lt hx.1 hx.2
  unfold skuaref02_digit.f rdig
  simp only [skuaref02_digit.j0, skuaref02_digit.j1]
  by_cases a1 : c ≥ 48 <;> by_cases a2 : c ≤ 57 <;> by_cases a3 : c ≥ 97 <;> by_cases a4 : c ≤ 102 <;> by_cases a5 : c ≥ 65 <;> by_cases a6 : c ≤ 70
  all_goals first | (exfalso; omega) | skip
  all_goals simp only [a1, a2, a3, a4, a5, a6, if_true, if_false, decide_true, decide_false, and_self, and_true, and_false, true_and, false_and, reduceIte, Bool.false_eq_true, ge_iff_le]
  all_goals first | rfl | (rw [e _ (by omega)]; congr 1; omega) | (rw [e _ (by omega)])
/-- The number of digits behind a, by the reference. -/
def refL (base : Int) : Int → List UInt8 → Option Int
  | a, [] => some a
  | a, c :: l => if base ≤ rdig c.toNat then none else if 18446744073709551616 ≤ a * base + rdig c.toNat then none else refL base (a * base + rdig c.toNat) l
theorem rdig_range (c : Int) : 0 ≤ rdig c ∧ rdig c ≤ 99 := by unfold rdig; split <;> (try split) <;> (try split) <;> omega
theorem bt_drop {s : ByteArray} {i : Nat} {c : UInt8} {l : List UInt8} (h : s.data.toList.drop i = c :: l) : bt s i = c.toNat ∧ i < s.size ∧ s.data.toList.drop (i + 1) = l := by
  have hlt : i < s.data.toList.length := by
    rcases Nat.lt_or_ge i s.data.toList.length with h1 | h1
    · exact h1
    · rw [List.drop_eq_nil_of_le h1] at h; cases h
  have hsz : s.size = s.data.toList.length := Array.length_toList.symm
  rw [List.drop_eq_getElem_cons hlt] at h
  injection h with h1 h2
  refine ⟨?_, by omega, h2⟩
  unfold bt
  rw [dif_pos (by rw [Int.toNat_natCast]; omega)]
  rw [← h1]
  simp [ByteArray.getElem_eq_getElem_data]
theorem refLoop (s : ByteArray) (hs : s.size ≤ 65536) (base : Int) (hb : base = 10 ∨ base = 16) : ∀ (l : List UInt8) (i k : Nat) (a : Int), s.data.toList.drop i = l → i ≤ s.size → l.length + 3 ≤ k → 0 ≤ a → a ≤ 18446744073709551615 → s.size ≠ 0 →
    skuaref02_Number.l0 k s base a i = some ((refL base a l).getD 0, (refL base a l).isSome)
  | [], i, k, a, hd, hi, hk, ha0, ha1, hz => by
    obtain ⟨k, rfl⟩ : ∃ m, k = m + 1 := ⟨k - 1, by omega⟩
    have hsz : s.size = s.data.toList.length := Array.length_toList.symm
    have : s.data.toList.length ≤ i := by
      have := congrArg List.length hd; rw [List.length_drop] at this; simp at this; omega
    simp only [skuaref02_Number.l0]
    rw [if_neg (by omega), if_neg (by omega)]
    rfl
  | c :: l, i, k, a, hd, hi, hk, ha0, ha1, hz => by
    obtain ⟨k, rfl⟩ : ∃ m, k = m + 1 := ⟨k - 1, by omega⟩
    obtain ⟨h1, h2, h3⟩ := bt_drop hd
    have hc := c.toNat_lt
    have hr := rdig_range c.toNat
    simp only [List.length_cons] at hk
    simp only [skuaref02_Number.l0]
    rw [if_pos (by omega), if_pos (by omega), h1]
    obtain ⟨k2, rfl⟩ : ∃ m, k = m + 2 := ⟨k - 2, by omega⟩
    have z1 : i + 1 ≤ s.size := h2
    have z2 : l.length + 3 ≤ k2 + 2 := by omega
    rw [refDigit_f _ _ (by omega) (by omega)]
    simp only [Option.bind_some, refL, ge_iff_le]
    by_cases h4 : base ≤ rdig c.toNat
    · rw [if_pos h4, if_pos h4]; rfl
    · rw [if_neg h4, if_neg h4, if_neg (by omega)]
      have hw : IntKind.u64.wrap (18446744073709551615 - rdig c.toNat) = 18446744073709551615 - rdig c.toNat := by rw [IntKind.wrap_u64]; omega
      rw [hw]
      have hq : Int.tdiv (18446744073709551615 - rdig c.toNat) base = (18446744073709551615 - rdig c.toNat) / base := by
        rw [Int.tdiv_eq_ediv_of_nonneg (by omega)]
      rw [hq]
      have hq2 : IntKind.u64.wrap ((18446744073709551615 - rdig c.toNat) / base) = (18446744073709551615 - rdig c.toNat) / base := by
        rw [IntKind.wrap_u64]; rcases hb with rfl | rfl <;> omega
      rw [hq2]
      by_cases h5 : 18446744073709551616 ≤ a * base + rdig c.toNat
      · rw [if_pos (by rcases hb with rfl | rfl <;> omega), if_pos h5]; rfl
      · rw [if_neg (by rcases hb with rfl | rfl <;> omega), if_neg h5]
        have e1 : IntKind.u64.wrap (base * a) = a * base := by rw [IntKind.wrap_u64, Int.mul_comm]; rcases hb with rfl | rfl <;> omega
        have e2 : IntKind.u64.wrap (a * base + rdig c.toNat) = a * base + rdig c.toNat := by rw [IntKind.wrap_u64]; rcases hb with rfl | rfl <;> omega
        have e3 : wrap64 ((i : Int) + 1) = ((i + 1 : Nat) : Int) := by unfold wrap64; omega
        rw [e1, e2, e3]
        have a0 : 0 ≤ a * base + rdig c.toNat := by rcases hb with rfl | rfl <;> omega
        have a1 : a * base + rdig c.toNat ≤ 18446744073709551615 := by omega
        exact refLoop s hs base hb l (i + 1) (k2 + 2) _ h3 z1 z2 a0 a1 hz
/-- Over letters and digits alone the two agree; where another byte stands, there is no number. -/
theorem refL_numP (base : Int) (hb : base = 10 ∨ base = 16) : ∀ (l : List UInt8) (a : Int), refL base a l = if l.all alnumB then numP base a l else none
  | [], a => rfl
  | c :: l, a => by
    have ih := refL_numP base hb l
    have hc := c.toNat_lt
    simp only [refL, List.all_cons, numP]
    by_cases hal : alnumB c = true
    rotate_left
    · have : base ≤ rdig c.toNat := by
        have h1 := hal
        simp only [alnumB, Bool.or_eq_true, Bool.and_eq_true, decide_eq_true_eq, not_or, not_and] at h1
        unfold rdig
        rw [if_neg (by omega), if_neg (by omega), if_neg (by omega)]
        omega
      rw [if_pos this]; simp [hal]
    · simp only [hal, Bool.true_and]
      have h1 : alnumB c = true := hal
      simp only [alnumB, Bool.or_eq_true, Bool.and_eq_true, decide_eq_true_eq] at h1
      have hdv : (base ≤ rdig c.toNat ↔ base ≤ dv c) ∧ (rdig c.toNat < base → rdig c.toNat = dv c) := by
        unfold rdig dv
        split <;> (try split) <;> (try split) <;> (try split) <;> (try split) <;> omega
      by_cases h4 : base ≤ dv c
      · rw [if_pos (hdv.1.2 h4), if_pos h4]; simp
      · have h5 : ¬ base ≤ rdig c.toNat := fun h => h4 (hdv.1.1 h)
        rw [if_neg h5, if_neg h4, hdv.2 (by omega)]
        split
        · simp
        · exact ih _
theorem numE_refL (base : Int) (hb : base = 10 ∨ base = 16) (l : List UInt8) : (if l.isEmpty then none else refL base 0 l) = (if l.all alnumB then numE base l else none) := by
  cases l with
  | nil => rfl
  | cons c l => simp only [List.isEmpty_cons, Bool.false_eq_true, if_false, numE]; rw [refL_numP base hb]
theorem refNumber_f (s : ByteArray) (hs : s.size ≤ 65536) : skuaref02_Number.f 70000 s = some ((numV s).getD 0, (numV s).isSome) := by
  have hsz : ∀ s : ByteArray, s.size = s.data.toList.length := fun s => Array.length_toList.symm
  have l0 : ∀ (t : ByteArray) (k : Nat) (base : Int), base = 10 ∨ base = 16 → t.size ≤ 65536 → 65540 ≤ k → skuaref02_Number.l0 k t base 0 0 = some ((if t.data.toList.all alnumB then numE base t.data.toList else none).getD 0, (if t.data.toList.all alnumB then numE base t.data.toList else none).isSome) := by
    intro t k base hb ht hk
    by_cases hz : t.size = 0
    · obtain ⟨k, rfl⟩ : ∃ m, k = m + 1 := ⟨k - 1, by omega⟩
      have hn : t.data.toList = [] := List.eq_nil_of_length_eq_zero (by rw [← hsz]; exact hz)
      simp only [skuaref02_Number.l0]
      rw [if_neg (by omega), if_pos (by omega), hn]; rfl
    · have := refLoop t ht base hb t.data.toList 0 k 0 rfl (Nat.zero_le _) (by rw [← hsz]; omega) (by omega) (by omega) hz
      rw [← numE_refL base hb]
      have hne : t.data.toList.isEmpty = false := by
        cases h : t.data.toList with
        | nil => exfalso; apply hz; rw [hsz, h]; rfl
        | cons _ _ => rfl
      rw [hne]
      exact this
  have j1 : ∀ (t : ByteArray) (k : Nat) (base : Int), base = 10 ∨ base = 16 → t.size ≤ 65536 → 65541 ≤ k → skuaref02_Number.j1 k t base = some ((if t.data.toList.all alnumB then numE base t.data.toList else none).getD 0, (if t.data.toList.all alnumB then numE base t.data.toList else none).isSome) := by
    intro t k base hb ht hk
    obtain ⟨k, rfl⟩ : ∃ m, k = m + 1 := ⟨k - 1, by omega⟩
    simp only [skuaref02_Number.j1]
    exact l0 t k base hb ht (by omega)
  have e2 : ∀ (b : Bool), b = Lib.hasPrefix s.data.toList [48, 120] → (b = true → 2 ≤ s.size) → skuaref02_Number.j0 70000 s 10 b = some ((numV s).getD 0, (numV s).isSome) := by
    intro b hb hb2
    show skuaref02_Number.j0 (69999 + 1) s 10 b = _
    simp only [skuaref02_Number.j0]
    cases b
    · simp only [Bool.false_eq_true, if_false]
      rw [j1 s 69999 10 (.inl rfl) hs (by omega)]
      unfold numV
      rw [← hb]; rfl
    · have h2 := hb2 rfl
      simp only [if_true]
      rw [if_pos (by omega)]
      rw [j1 _ 69999 16 (.inr rfl) (by rw [ByteArray.size_extract]; omega) (by omega)]
      have ht : (s.extract 2 s.size).data.toList = Lib.trimPrefix s.data.toList [48, 120] := by
        rw [extract_list]
        unfold Lib.trimPrefix
        rw [← hb]; rfl
      rw [ht]
      unfold numV
      rw [← hb]; rfl
  unfold skuaref02_Number.f
  by_cases h : (s.size : Int) ≥ 2
  · rw [if_pos h, if_pos (by omega), if_pos (by omega)]
    refine e2 _ ?_ (fun _ => by omega)
    rw [ByteArray.toList_eq]
    have ht : (s.extract 0 2).data.toList = s.data.toList.take 2 := by
      rw [ByteArray.data_extract, Array.toList_extract]; simp [List.extract]
    rw [ht]
    have hl : 2 ≤ s.data.toList.length := by rw [← hsz]; omega
    generalize s.data.toList = l at *
    match l, hl with
    | a :: b :: l, _ => simp [Lib.hasPrefix]; rw [Bool.eq_iff_iff]; simp; constructor <;> (rintro ⟨rfl, rfl⟩; exact ⟨rfl, rfl⟩)
  · rw [if_neg h]
    refine e2 _ ?_ (fun h => by cases h)
    have hl : s.data.toList.length < 2 := by rw [← hsz]; omega
    generalize s.data.toList = l at *
    match l, hl with
    | [], _ => rfl
    | [a], _ => simp [Lib.hasPrefix, List.isPrefixOf]
theorem refNumber_gives (s : ByteArray) (w : World) (hs : s.size ≤ 65536) : Gives Tryd.prog 9 #[.string s] w (.tuple #[.int .u64 ((numV s).getD 0), .bool (numV s).isSome]) :=
  drawn0_gives (skuaref02_Number.calls _ s _ _ w (refNumber_f s hs))
end Go.Proofs.YtdimhoilfopndaaDoor
