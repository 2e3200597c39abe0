/- The lexer over lists of bytes, without places, and that the plain lexer comes to the same tokens. Condition of each lemma: as it stands. -/
import Derived.Test.YtdimhoilfopndaaDoorYk
set_option linter.unusedVariables false
set_option linter.unusedSimpArgs false
namespace Go.Proofs.YtdimhoilfopndaaDoor
open Go.RowKit
/-- A token without its place. -/
structure Tk where
  kind : Int
  text : List UInt8
  num : Int
instance : Inhabited Tk := ⟨⟨0, [], 0⟩⟩
def Tok.bare (t : Tok) : Tk := ⟨t.kind, t.text.data.toList, t.num⟩
def spc (c : UInt8) : Bool := spaceB (c.toNat : Int)
def ltr (c : UInt8) : Bool := letterB (c.toNat : Int)
def lin (c : UInt8) : Bool := lineB (c.toNat : Int)
def dgt (c : UInt8) : Bool := digitB (c.toNat : Int)
theorem size_list (s : ByteArray) : s.size = s.data.toList.length := Array.length_toList.symm
theorem drop_byte {s : ByteArray} {a : Nat} (h : a < s.size) : ∃ c, s.data.toList.drop a = c :: s.data.toList.drop (a + 1) ∧ byteAt s a = (c.toNat : Int) := by
  have hl : a < s.data.toList.length := by rw [← size_list]; exact h
  refine ⟨s.data.toList[a], List.drop_eq_getElem_cons hl, ?_⟩
  rw [byteAt_lt h]
  simp [ByteArray.getElem_eq_getElem_data]
theorem spanI_list (p : Int → Bool) (s : ByteArray) : ∀ (f a : Nat), a + f = s.size → spanI p s f a = ((s.data.toList.drop a).takeWhile (fun c => p (c.toNat : Int))).length
  | 0, a, h => by
    rw [List.drop_eq_nil_of_le (by rw [← size_list]; omega)]; rfl
  | f + 1, a, h => by
    obtain ⟨c, hc, hb⟩ := drop_byte (s := s) (a := a) (by omega)
    have ih := spanI_list p s f (a + 1) (by omega)
    simp only [spanI]
    rw [if_pos (by omega), hc, hb]
    by_cases hp : p (c.toNat : Int) = true
    · rw [if_pos hp, List.takeWhile_cons_of_pos (by exact hp), List.length_cons, ih]; omega
    · rw [if_neg hp, List.takeWhile_cons_of_neg (by exact hp)]; rfl
theorem spanN_list (p : Int → Bool) (s : ByteArray) {a : Nat} (h : a ≤ s.size) : spanN p s a = ((s.data.toList.drop a).takeWhile (fun c => p (c.toNat : Int))).length := spanI_list p s _ a (by omega)
theorem drop_takeWhile_len {α : Type} (p : α → Bool) : ∀ l : List α, l.drop (l.takeWhile p).length = l.dropWhile p
  | [] => rfl
  | c :: l => by
    by_cases h : p c = true
    · rw [List.takeWhile_cons_of_pos h, List.dropWhile_cons_of_pos h]; exact drop_takeWhile_len p l
    · rw [List.takeWhile_cons_of_neg h, List.dropWhile_cons_of_neg h]; rfl
theorem dropWhile_len {α : Type} (p : α → Bool) (l : List α) : (l.dropWhile p).length ≤ l.length := by rw [← drop_takeWhile_len]; simp
def skipL : Nat → List UInt8 → Option (List UInt8)
  | 0, _ => none
  | f + 1, l => if Lib.hasPrefix (l.dropWhile spc) [47, 47] then skipL f ((l.dropWhile spc).dropWhile lin) else some (l.dropWhile spc)
theorem drop_span (p : Int → Bool) (s : ByteArray) {a : Nat} (h : a ≤ s.size) : s.data.toList.drop (a + spanN p s a) = (s.data.toList.drop a).dropWhile (fun c => p (c.toNat : Int)) := by
  rw [← drop_takeWhile_len, ← spanN_list p s h, List.drop_drop]
theorem skipF_list (s : ByteArray) : ∀ (f a b : Nat), a ≤ s.size → skipF f s a = some b → skipL f (s.data.toList.drop a) = some (s.data.toList.drop b)
  | 0, a, b, _, h => by simp [skipF] at h
  | f + 1, a, b, ha, h => by
    have q1 := spanN_le (p := spaceB) ha
    have e1 : (s.data.toList.drop a).dropWhile spc = s.data.toList.drop (a + spanN spaceB s a) := (drop_span spaceB s ha).symm
    simp only [skipF] at h
    simp only [skipL]
    rw [e1]
    by_cases hp : pre2 s (a + spanN spaceB s a) = true
    · rw [if_pos hp] at h
      have q2 := spanN_le (p := lineB) q1
      have e2 : (s.data.toList.drop (a + spanN spaceB s a)).dropWhile lin = s.data.toList.drop (a + spanN spaceB s a + spanN lineB s (a + spanN spaceB s a)) := (drop_span lineB s q1).symm
      rw [if_pos (by exact hp), e2]
      exact skipF_list s f _ b q2 h
    · rw [if_neg hp] at h
      obtain rfl := Option.some.inj h
      rw [if_neg (by exact hp)]
theorem skipL_mono : ∀ (f : Nat) (l r : List UInt8), skipL f l = some r → ∀ g, f ≤ g → skipL g l = some r
  | 0, l, r, h, _, _ => by simp [skipL] at h
  | f + 1, l, r, h, 0, hg => by omega
  | f + 1, l, r, h, g + 1, hg => by
    simp only [skipL] at h ⊢
    split at h
    · rename_i hp
      rw [if_pos hp]; exact skipL_mono f _ r h g (by omega)
    · rename_i hp
      rw [if_neg hp]; exact h
theorem prefix2 {l : List UInt8} (h : Lib.hasPrefix l [47, 47] = true) : ∃ r, l = 47 :: 47 :: r := by
  match l, h with
  | [], h => simp [Lib.hasPrefix] at h
  | [a], h => simp [Lib.hasPrefix] at h
  | a :: b :: r, h =>
    simp [Lib.hasPrefix] at h
    obtain ⟨rfl, rfl⟩ := h
    exact ⟨r, rfl⟩
theorem skipL_some : ∀ (f : Nat) (l : List UInt8), l.length < f → ∃ r, skipL f l = some r ∧ r.length ≤ l.length
  | 0, l, h => by omega
  | f + 1, l, h => by
    have q := dropWhile_len spc l
    simp only [skipL]
    split
    · rename_i hp
      obtain ⟨r, hr⟩ := prefix2 hp
      have q2 := dropWhile_len lin (47 :: 47 :: r)
      have q3 : ((47 :: 47 :: r : List UInt8).dropWhile lin).length < (47 :: 47 :: r : List UInt8).length := by
        rw [List.dropWhile_cons_of_pos (by decide)]
        have := dropWhile_len lin (47 :: r)
        simp only [List.length_cons] at this ⊢; omega
      rw [hr] at q ⊢
      obtain ⟨r2, h2, h3⟩ := skipL_some f ((47 :: 47 :: r).dropWhile lin) (by omega)
      exact ⟨r2, h2, by omega⟩
    · exact ⟨_, rfl, q⟩
/-- What is left behind all that stands between tokens. -/
def skp (l : List UInt8) : List UInt8 := (skipL (l.length + 1) l).getD []
theorem skp_of {f : Nat} {l r : List UInt8} (h : skipL f l = some r) : skp l = r := by
  obtain ⟨r2, h2, _⟩ := skipL_some (l.length + 1) l (by omega)
  have a1 := skipL_mono f l r h (max f (l.length + 1)) (Nat.le_max_left _ _)
  have a2 := skipL_mono _ l r2 h2 (max f (l.length + 1)) (Nat.le_max_right _ _)
  have e : r2 = r := Option.some.inj (a2.symm.trans a1)
  unfold skp
  rw [h2, e]; rfl
theorem skp_len (l : List UInt8) : (skp l).length ≤ l.length := by
  obtain ⟨r2, h2, h3⟩ := skipL_some (l.length + 1) l (by omega)
  rw [skp_of h2]; exact h3
theorem skp_eq (l : List UInt8) : skp l = if Lib.hasPrefix (l.dropWhile spc) [47, 47] then skp ((l.dropWhile spc).dropWhile lin) else l.dropWhile spc := by
  obtain ⟨r2, h2, _⟩ := skipL_some (l.length + 1) l (by omega)
  rw [skp_of h2]
  simp only [skipL] at h2
  split at h2
  · rename_i hp
    rw [if_pos hp, skp_of h2]
  · rename_i hp
    rw [if_neg hp]; exact (Option.some.inj h2).symm
theorem skp_cons_spc {c : UInt8} (h : spc c = true) (l : List UInt8) : skp (c :: l) = skp l := by
  rw [skp_eq, skp_eq l, List.dropWhile_cons_of_pos h]
def numL (l : List UInt8) : Option Int :=
  if Lib.hasPrefix l [48, 120] then (if (Lib.trimPrefix l [48, 120]).all alnumB then numE 16 (Lib.trimPrefix l [48, 120]) else none)
  else (if l.all alnumB then numE 10 l else none)
theorem numL_eq (s : ByteArray) : numV s = numL s.data.toList := rfl
/-- The next token of a text that begins with no blank; none: it is wrong. -/
def nextL (l : List UInt8) : Option Tk :=
  match l with
  | [] => some ⟨3, [], 0⟩
  | c :: r =>
    if ltr c then
      (if dgt c then (match numL ((c :: r).takeWhile ltr) with
        | some v => some ⟨1, (c :: r).takeWhile ltr, v⟩
        | none => none)
      else some ⟨0, (c :: r).takeWhile ltr, 0⟩)
    else (match sgFind (c :: r) with
      | some i => some ⟨2, sgL.getD i [], 0⟩
      | none => none)
theorem extract_take (s : ByteArray) (a n : Nat) : (s.extract a (a + n)).data.toList = (s.data.toList.drop a).take n := by
  rw [ByteArray.data_extract, Array.toList_extract]
  simp only [List.extract]
  rw [show a + n - a = n by omega]
theorem takeWhile_take {α : Type} (p : α → Bool) : ∀ l : List α, l.take (l.takeWhile p).length = l.takeWhile p
  | [] => rfl
  | c :: l => by
    by_cases h : p c = true
    · rw [List.takeWhile_cons_of_pos h, List.length_cons, List.take_succ_cons, takeWhile_take p l]
    · rw [List.takeWhile_cons_of_neg h]; rfl
theorem nextF_list (s : ByteArray) (a : Nat) (ha : a ≤ s.size) : nextL (s.data.toList.drop a) = if (nextF s a).2 = 0 then some (nextF s a).1.bare else none := by
  by_cases h : a = s.size
  · have hn : nextF s a = (⟨3, ⟨#[]⟩, 0, (lcAt s a).1, (lcAt s a).2⟩, 0) := by unfold nextF; rw [if_pos h]
    rw [hn, List.drop_eq_nil_of_le (by rw [← size_list]; omega)]; rfl
  · obtain ⟨c, hc, hb⟩ := drop_byte (s := s) (a := a) (by omega)
    have hsp : spanN letterB s a = ((s.data.toList.drop a).takeWhile ltr).length := spanN_list letterB s ha
    have hx : (s.extract a (a + spanN letterB s a)).data.toList = (s.data.toList.drop a).takeWhile ltr := by rw [extract_take, hsp, takeWhile_take]
    have hd0 : digitB (byteAt s a) = dgt c := by rw [hb]; rfl
    have hnx : nextL (s.data.toList.drop a) = if ltr c then
        (if dgt c then (match numL ((s.data.toList.drop a).takeWhile ltr) with
          | some v => some ⟨1, (s.data.toList.drop a).takeWhile ltr, v⟩
          | none => none)
        else some ⟨0, (s.data.toList.drop a).takeWhile ltr, 0⟩)
      else (match sgFind (s.data.toList.drop a) with
        | some i => some ⟨2, sgL.getD i [], 0⟩
        | none => none) := by rw [hc]; rfl
    rw [hnx]
    by_cases hl : ltr c = true
    · have hpos : 0 < spanN letterB s a := by rw [hsp, hc, List.takeWhile_cons_of_pos hl]; simp
      rw [if_pos hl]
      cases hd : dgt c
      · have hn : nextF s a = (⟨0, s.extract a (a + spanN letterB s a), 0, (lcAt s a).1, (lcAt s a).2⟩, 0) := by unfold nextF; rw [if_neg h, if_pos hpos, hd0, hd]; rfl
        rw [hn]
        simp only [Bool.false_eq_true, if_false, if_true, Tok.bare]
        rw [hx]
      · cases hv : numV (s.extract a (a + spanN letterB s a)) with
        | none =>
          have hn : nextF s a = (⟨0, s.extract a (a + spanN letterB s a), 0, (lcAt s a).1, (lcAt s a).2⟩, 21) := by unfold nextF; rw [if_neg h, if_pos hpos, hd0, hd, hv]; rfl
          rw [numL_eq, hx] at hv
          rw [hn, hv]; rfl
        | some v =>
          have hn : nextF s a = (⟨1, s.extract a (a + spanN letterB s a), v, (lcAt s a).1, (lcAt s a).2⟩, 0) := by unfold nextF; rw [if_neg h, if_pos hpos, hd0, hd, hv]; rfl
          rw [numL_eq, hx] at hv
          rw [hn, hv]
          simp only [if_true, Tok.bare]
          rw [hx]
    · have hz : ¬ 0 < spanN letterB s a := by rw [hsp, hc, List.takeWhile_cons_of_neg hl]; simp
      rw [if_neg hl]
      cases hg : sgFind (s.data.toList.drop a) with
      | none =>
        have hn : nextF s a = (⟨3, ⟨#[]⟩, 0, (lcAt s a).1, (lcAt s a).2⟩, 20) := by unfold nextF; rw [if_neg h, if_neg hz, hg]
        rw [hn]; rfl
      | some i =>
        have hn : nextF s a = (⟨2, sgAt i, 0, (lcAt s a).1, (lcAt s a).2⟩, 0) := by unfold nextF; rw [if_neg h, if_neg hz, hg]
        rw [hn]; rfl
/-- The tokens of a text; none: it is wrong. -/
def lexL : Nat → List UInt8 → Option (List Tk)
  | 0, _ => none
  | f + 1, l => match nextL (skp l) with
    | none => none
    | some t => if t.kind = 3 then some [t] else (lexL f ((skp l).drop t.text.length)).map (t :: ·)
theorem nextL_pos {l : List UInt8} {t : Tk} (h : nextL l = some t) (hk : t.kind ≠ 3) : 0 < t.text.length ∧ t.text.length ≤ l.length := by
  match l, h with
  | [], h =>
    obtain rfl := Option.some.inj h
    exact absurd rfl hk
  | c :: r, h =>
    simp only [nextL] at h
    have hlen : ((c :: r).takeWhile ltr).length ≤ (c :: r).length := by
      have := List.takeWhile_append_dropWhile (p := ltr) (l := c :: r)
      have := congrArg List.length this
      rw [List.length_append] at this; omega
    split at h
    · rename_i hl
      have hpos : 0 < ((c :: r).takeWhile ltr).length := by rw [List.takeWhile_cons_of_pos hl]; simp
      split at h
      · split at h
        · obtain rfl := Option.some.inj h; exact ⟨hpos, hlen⟩
        · cases h
      · obtain rfl := Option.some.inj h; exact ⟨hpos, hlen⟩
    · split at h
      · rename_i i hi
        obtain rfl := Option.some.inj h
        have h1 := sgFindI_some hi
        exact ⟨(sgL_pos i (by omega)).1, hasPrefix_len h1.2.2⟩
      · cases h
theorem lexL_fuel : ∀ (n : Nat) (l : List UInt8), l.length = n → ∀ f g, n < f → n < g → lexL f l = lexL g l := by
  intro n
  induction n using Nat.strongRecOn with
  | ind n ih =>
    intro l hl f g hf hg
    obtain ⟨f, rfl⟩ : ∃ m, f = m + 1 := ⟨f - 1, by omega⟩
    obtain ⟨g, rfl⟩ : ∃ m, g = m + 1 := ⟨g - 1, by omega⟩
    simp only [lexL]
    cases hn : nextL (skp l) with
    | none => rfl
    | some t =>
      dsimp only
      by_cases hk : t.kind = 3
      · rw [if_pos hk, if_pos hk]
      · rw [if_neg hk, if_neg hk]
        have h1 := nextL_pos hn hk
        have h2 := skp_len l
        have h3 : ((skp l).drop t.text.length).length < n := by rw [List.length_drop]; omega
        rw [ih _ h3 _ rfl f g (by omega) (by omega)]
/-- The tokens of a text. -/
def LX (l : List UInt8) : Option (List Tk) := lexL (l.length + 1) l
theorem LX_eq (l : List UInt8) : LX l = match nextL (skp l) with
    | none => none
    | some t => if t.kind = 3 then some [t] else (LX ((skp l).drop t.text.length)).map (t :: ·) := by
  unfold LX
  conv => lhs; unfold lexL
  cases hn : nextL (skp l) with
  | none => rfl
  | some t =>
    dsimp only
    by_cases hk : t.kind = 3
    · rw [if_pos hk, if_pos hk]
    · rw [if_neg hk, if_neg hk]
      have h1 := nextL_pos hn hk
      have h2 := skp_len l
      have h3 : ((skp l).drop t.text.length).length < l.length := by rw [List.length_drop]; omega
      rw [lexL_fuel _ _ rfl l.length (((skp l).drop t.text.length).length + 1) h3 (by omega)]
/-- What stands ahead of the first token doesn't matter. -/
theorem LX_skp {l l' : List UInt8} (h : skp l = skp l') : LX l = LX l' := by rw [LX_eq, LX_eq l', h]
theorem lexF_list (s : ByteArray) : ∀ (f a : Nat) (r : LexA), a ≤ s.size → lexF f s a = some r → (r.err = 0 → LX (s.data.toList.drop a) = some (r.toks.map Tok.bare)) ∧ (r.err ≠ 0 → LX (s.data.toList.drop a) = none ∧ r.toks = [])
  | 0, a, r, _, h => by simp [lexF] at h
  | f + 1, a, r, ha, h => by
    obtain ⟨b, hb, h1, h2⟩ := skipF_some s (s.size + 1) a ha (by omega)
    have hsk : skp (s.data.toList.drop a) = s.data.toList.drop b := skp_of (skipF_list s _ a b ha hb)
    have hnx := nextF_list s b h2
    simp only [lexF, hb] at h
    rw [LX_eq, hsk, hnx]
    by_cases he : (nextF s b).2 = 0
    · rw [if_pos he] at h
      rw [if_pos he]
      dsimp only
      have hkk : (nextF s b).1.bare.kind = (nextF s b).1.kind := rfl
      by_cases hk : (nextF s b).1.kind = 3
      · rw [if_pos hk] at h
        obtain rfl := Option.some.inj h
        rw [if_pos (by rw [hkk]; exact hk)]
        exact ⟨fun _ => rfl, fun hh => absurd rfl hh⟩
      · rw [if_neg hk] at h
        rw [if_neg (by rw [hkk]; exact hk)]
        obtain ⟨r3, hr3, rfl⟩ := Option.map_eq_some_iff.1 h
        have hz := nextF_size h2 he hk
        have ih := lexF_list s f _ r3 hz.2 hr3
        have hdd : (s.data.toList.drop b).drop (nextF s b).1.bare.text.length = s.data.toList.drop (b + (nextF s b).1.text.size) := by
          rw [List.drop_drop, size_list]; rfl
        rw [hdd]
        by_cases he3 : r3.err = 0
        · have e1 : LexA.cons (nextF s b).1 r3 = ⟨(nextF s b).1 :: r3.toks, r3.line, r3.col, r3.err⟩ := by unfold LexA.cons; rw [if_pos he3]
          rw [e1, ih.1 he3]
          exact ⟨fun _ => rfl, fun hh => absurd he3 hh⟩
        · have e1 : LexA.cons (nextF s b).1 r3 = r3 := by unfold LexA.cons; rw [if_neg he3]
          rw [e1, (ih.2 he3).1]
          exact ⟨fun hh => absurd hh he3, fun _ => ⟨rfl, (ih.2 he3).2⟩⟩
    · rw [if_neg he] at h
      rw [if_neg he]
      obtain rfl := Option.some.inj h
      exact ⟨fun hh => absurd hh he, fun _ => ⟨rfl, rfl⟩⟩
/-- What Lex answers, by the lists. -/
theorem lexR_list (s : ByteArray) (hs : s.size ≤ 65536) : ((lexR s).err = 0 → LX s.data.toList = some ((lexR s).toks.map Tok.bare)) ∧ ((lexR s).err ≠ 0 → LX s.data.toList = none ∧ (lexR s).toks = []) := by
  obtain ⟨r, hr⟩ := lexF_some s (s.size + 1) 0 (Nat.zero_le _) (by omega)
  have hlr : lexR s = r := by unfold lexR; rw [if_neg (by omega), hr]; rfl
  rw [hlr]
  exact lexF_list s _ 0 r (Nat.zero_le _) hr
end Go.Proofs.YtdimhoilfopndaaDoor
