/- The lexer as a plain function, and that it ends. No condition but those of each lemma. -/
import Derived.Test.YtdimhoilfopndaaDoorYg
import Derived.Test.YtdimhoilfopndaaDoorYh
set_option linter.unusedVariables false
set_option linter.unusedSimpArgs false
namespace Go.Proofs.YtdimhoilfopndaaDoor
open Go.RowKit
/-- A token. -/
structure Tok where
  kind : Int
  text : ByteArray
  num : Int
  line : Int
  col : Int
instance : Inhabited Tok := ⟨⟨0, ⟨#[]⟩, 0, 0, 0⟩⟩
/-- Its cells. -/
def Tok.cells (t : Tok) : List Value := [.int .i64 t.kind, .string t.text, .int .u64 t.num, .int .i64 t.line, .int .i64 t.col]
/-- Line and column of a byte. -/
def lcAt (src : ByteArray) (b : Nat) : Int × Int := lcI src 0 (1, 1) b
/-- The first sign that stands there. -/
def sgFindI (l : List UInt8) : Nat → Nat → Option Nat
  | 0, _ => none
  | f + 1, i => if Lib.hasPrefix l (sgL.getD i []) then some i else sgFindI l f (i + 1)
def sgFind (l : List UInt8) : Option Nat := sgFindI l 29 0
/-- The next token, and whether it is one. -/
def nextF (src : ByteArray) (a : Nat) : Tok × Int :=
  if a = src.size then (⟨3, ⟨#[]⟩, 0, (lcAt src a).1, (lcAt src a).2⟩, 0)
  else if 0 < spanN letterB src a then
    (if digitB (byteAt src a) then
      (match numV (src.extract a (a + spanN letterB src a)) with
        | some v => (⟨1, src.extract a (a + spanN letterB src a), v, (lcAt src a).1, (lcAt src a).2⟩, 0)
        | none => (⟨0, src.extract a (a + spanN letterB src a), 0, (lcAt src a).1, (lcAt src a).2⟩, 21))
    else (⟨0, src.extract a (a + spanN letterB src a), 0, (lcAt src a).1, (lcAt src a).2⟩, 0))
  else (match sgFind (src.data.toList.drop a) with
    | some i => (⟨2, sgAt i, 0, (lcAt src a).1, (lcAt src a).2⟩, 0)
    | none => (⟨3, ⟨#[]⟩, 0, (lcAt src a).1, (lcAt src a).2⟩, 20))
/-- What Lex answers: tokens, line, column, error. -/
structure LexA where
  toks : List Tok
  line : Int
  col : Int
  err : Int
def LexA.cons (t : Tok) (r : LexA) : LexA := if r.err = 0 then ⟨t :: r.toks, r.line, r.col, r.err⟩ else r
/-- The lexer from a byte on. -/
def lexF : Nat → ByteArray → Nat → Option LexA
  | 0, _, _ => none
  | f + 1, src, a => match skipF (src.size + 1) src a with
    | none => none
    | some b =>
      if (nextF src b).2 = 0 then
        (if (nextF src b).1.kind = 3 then some ⟨[(nextF src b).1], 0, 0, 0⟩
        else (lexF f src (b + (nextF src b).1.text.size)).map (LexA.cons (nextF src b).1))
      else some ⟨[], (nextF src b).1.line, (nextF src b).1.col, (nextF src b).2⟩
/-- What Lex answers. -/
def lexR (src : ByteArray) : LexA := if 65536 < src.size then ⟨[], 0, 0, 22⟩ else (lexF (src.size + 1) src 0).getD ⟨[], 0, 0, 22⟩

theorem pre2_iff (src : ByteArray) (a : Nat) : pre2 src a = true ↔ a + 1 < src.size ∧ byteAt src a = 47 ∧ byteAt src (a + 1) = 47 := by
  unfold pre2
  have hsz : src.size = src.data.toList.length := Array.length_toList.symm
  have hb : ∀ i, i < src.size → byteAt src i = ((src.data.toList.getD i 0).toNat : Int) := fun i hi => by
    rw [byteAt_lt hi]
    congr 2
    rw [List.getD_eq_getElem?_getD, List.getElem?_eq_getElem (by omega)]
    simp [ByteArray.getElem_eq_getElem_data]
  by_cases h : a + 1 < src.size
  · rw [List.drop_eq_getElem_cons (by omega), List.drop_eq_getElem_cons (by omega)]
    rw [hb a (by omega), hb (a + 1) h]
    rw [List.getD_eq_getElem?_getD, List.getElem?_eq_getElem (by omega), List.getD_eq_getElem?_getD, List.getElem?_eq_getElem (by omega)]
    generalize src.data.toList[a]'(by omega) = x
    generalize src.data.toList[a + 1]'(by omega) = y
    simp only [Lib.hasPrefix, Option.getD_some]
    constructor
    · intro h2
      simp at h2
      obtain ⟨rfl, rfl⟩ := h2
      exact ⟨h, rfl, rfl⟩
    · rintro ⟨_, h1, h2⟩
      have h1 : x = 47 := UInt8.toNat_inj.1 (by simpa using (Int.ofNat.inj h1))
      have h2 : y = 47 := UInt8.toNat_inj.1 (by simpa using (Int.ofNat.inj h2))
      simp [h1, h2]
  · constructor
    · intro h2
      exfalso
      have : (List.drop a src.data.toList).length < 2 := by rw [List.length_drop]; omega
      revert h2
      generalize List.drop a src.data.toList = l at *
      match l, this with
      | [], _ => simp [Lib.hasPrefix]
      | [x], _ => simp [Lib.hasPrefix]
    · rintro ⟨h1, _⟩; omega
/-- One byte more of a run. -/
theorem spanI_succ {p : Int → Bool} {src : ByteArray} {f a : Nat} (h : a < src.size) (hp : p (byteAt src a) = true) : spanI p src (f + 1) a = 1 + spanI p src f (a + 1) := by
  simp [spanI, h, hp]
theorem spanN_pos {p : Int → Bool} {src : ByteArray} {a : Nat} (h : a < src.size) (hp : p (byteAt src a) = true) : spanN p src a = 1 + spanN p src (a + 1) := by
  unfold spanN
  rw [show src.size - a = (src.size - (a + 1)) + 1 by omega, spanI_succ h hp]
theorem spanN_none {p : Int → Bool} {src : ByteArray} {a : Nat} (hp : p (byteAt src a) = false) : spanN p src a = 0 := by
  unfold spanN
  cases src.size - a <;> simp [spanI, hp]
theorem spanN_full {p : Int → Bool} {src : ByteArray} {a : Nat} (h : src.size ≤ a) : spanN p src a = 0 := by
  unfold spanN
  rw [show src.size - a = 0 by omega]; rfl
/-- skip ends. -/
theorem skipF_some (src : ByteArray) : ∀ (f a : Nat), a ≤ src.size → src.size - a < f → ∃ b, skipF f src a = some b ∧ a ≤ b ∧ b ≤ src.size
  | 0, a, _, h => by omega
  | f + 1, a, ha, h => by
    have q1 := spanN_le (p := spaceB) ha
    simp only [skipF]
    generalize spanN spaceB src a = n at *
    split
    · rename_i hp
      obtain ⟨h1, h2, h3⟩ := (pre2_iff _ _).1 hp
      have q2 := spanN_le (p := lineB) q1
      have q3 := spanN_pos (p := lineB) (src := src) (a := a + n) (by omega) (by rw [h2]; rfl)
      obtain ⟨b, hb, h4, h5⟩ := skipF_some src f (a + n + spanN lineB src (a + n)) q2 (by omega)
      exact ⟨b, hb, by omega, h5⟩
    · exact ⟨_, rfl, by omega, q1⟩
theorem skipF_mono (src : ByteArray) : ∀ (f a b : Nat), skipF f src a = some b → ∀ g, f ≤ g → skipF g src a = some b
  | 0, a, b, h, _, _ => by simp [skipF] at h
  | f + 1, a, b, h, 0, hg => by omega
  | f + 1, a, b, h, g + 1, hg => by
    simp only [skipF] at h ⊢
    split at h
    · rename_i hp
      rw [if_pos hp]; exact skipF_mono src f _ b h g (by omega)
    · rename_i hp
      rw [if_neg hp]; exact h
theorem sgFindI_some {l : List UInt8} : ∀ {f i j : Nat}, sgFindI l f i = some j → i ≤ j ∧ j < i + f ∧ Lib.hasPrefix l (sgL.getD j []) = true
  | 0, i, j, h => by simp [sgFindI] at h
  | f + 1, i, j, h => by
    simp only [sgFindI] at h
    split at h
    · obtain rfl := Option.some.inj h
      exact ⟨Nat.le_refl _, by omega, by assumption⟩
    · have := sgFindI_some h
      exact ⟨by omega, by omega, this.2.2⟩
theorem sgFindI_before {l : List UInt8} : ∀ {f i j : Nat}, sgFindI l f i = some j → ∀ k, i ≤ k → k < j → Lib.hasPrefix l (sgL.getD k []) = false
  | 0, i, j, h => by simp [sgFindI] at h
  | f + 1, i, j, h => by
    intro k h1 h2
    simp only [sgFindI] at h
    split at h
    · obtain rfl := Option.some.inj h
      omega
    · rename_i hp
      by_cases e : i = k
      · subst e; simpa using hp
      · exact sgFindI_before h k (by omega) h2
theorem sgFindI_none {l : List UInt8} : ∀ {f i : Nat}, sgFindI l f i = none → ∀ k, i ≤ k → k < i + f → Lib.hasPrefix l (sgL.getD k []) = false
  | 0, i, h => fun k h1 h2 => by omega
  | f + 1, i, h => by
    intro k h1 h2
    simp only [sgFindI] at h
    split at h
    · cases h
    · rename_i hp
      by_cases e : i = k
      · subst e; simpa using hp
      · exact sgFindI_none h k (by omega) (by omega)
theorem sgL_pos : ∀ j, j < 29 → 0 < (sgL.getD j []).length ∧ (sgL.getD j []).length ≤ 2 := by decide
theorem sgAt_size (j : Nat) : (sgAt j).size = (sgL.getD j []).length := by simp [sgAt, ByteArray.size]
/-- A prefix is no longer than what it stands in. -/
theorem hasPrefix_len : ∀ {l p : List UInt8}, Lib.hasPrefix l p = true → p.length ≤ l.length
  | l, [], _ => Nat.zero_le _
  | [], _ :: _, h => by simp [Lib.hasPrefix] at h
  | _ :: l, _ :: p, h => by
    simp [Lib.hasPrefix] at h
    have := hasPrefix_len (l := l) (p := p) (by simpa [Lib.hasPrefix] using h.2)
    simpa using this
/-- A token that is no end takes bytes, and lies in the text. -/
theorem nextF_size {src : ByteArray} {a : Nat} (ha : a ≤ src.size) (h0 : (nextF src a).2 = 0) (hk : (nextF src a).1.kind ≠ 3) : 0 < (nextF src a).1.text.size ∧ a + (nextF src a).1.text.size ≤ src.size := by
  have q := spanN_le (p := letterB) ha
  have hx : (src.extract a (a + spanN letterB src a)).size = spanN letterB src a := by rw [ByteArray.size_extract]; omega
  unfold nextF at h0 hk ⊢
  split
  · rename_i h; simp [h] at hk
  · rename_i h
    rw [if_neg h] at h0 hk
    split
    · rename_i h2
      rw [if_pos h2] at h0 hk
      split
      · rename_i h3
        rw [if_pos h3] at h0 hk
        split
        · dsimp only; omega
        · rename_i h4; simp [h4] at h0
      · dsimp only; omega
    · rename_i h2
      rw [if_neg h2] at h0 hk
      split
      · rename_i i hi
        have := sgFindI_some hi
        have h4 := hasPrefix_len this.2.2
        have h5 := sgL_pos i (by omega)
        have hsz : src.size = src.data.toList.length := Array.length_toList.symm
        rw [List.length_drop] at h4
        dsimp only
        rw [sgAt_size]
        omega
      · rename_i hi; simp [hi] at h0
/-- Lex ends. -/
theorem lexF_some (src : ByteArray) : ∀ (f a : Nat), a ≤ src.size → src.size - a < f → ∃ r, lexF f src a = some r
  | 0, a, _, h => by omega
  | f + 1, a, ha, h => by
    obtain ⟨b, hb, h1, h2⟩ := skipF_some src (src.size + 1) a ha (by omega)
    simp only [lexF, hb]
    split
    · rename_i h0
      split
      · exact ⟨_, rfl⟩
      · rename_i hk
        have hz := nextF_size h2 h0 hk
        obtain ⟨r, hr⟩ := lexF_some src f (b + (nextF src b).1.text.size) hz.2 (by omega)
        rw [hr]; exact ⟨_, rfl⟩
    · exact ⟨_, rfl⟩
end Go.Proofs.YtdimhoilfopndaaDoor
