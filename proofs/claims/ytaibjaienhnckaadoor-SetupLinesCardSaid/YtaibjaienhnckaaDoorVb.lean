/- Layer 22: a line of a setup as a plain function; the library's words that it calls, by the worlds of this seat. Condition: the texts take at most 65536 bytes. -/
import Derived.Test.YtaibjaienhnckaaDoorVa
import Derived.Test.YtaibjaienhnckaaDoorN
import Derived.Test.YtaibjaienhnckaaDoorSh
import Derived.Shelf.Strings.SlTrimAscii
import Derived.Lib.AtoiErrMem
set_option linter.unusedVariables false
set_option linter.unusedSimpArgs false
namespace Go.Proofs.YtaibjaienhnckaaDoor
open Go.RowKit
/-- A setup. -/
structure Cfg where
  l0 : Int
  l1 : Int
  l2 : Int
  l3 : Int
  l4 : Int
  l5 : Int
  t : Bool
def Cfg.cells (c : Cfg) : Array Value := #[.int .i64 c.l0, .int .i64 c.l1, .int .i64 c.l2, .int .i64 c.l3, .int .i64 c.l4, .int .i64 c.l5, .bool c.t]
def Cfg.set (c : Cfg) (i : Nat) (v : Int) : Cfg :=
  match i with
  | 0 => { c with l0 := v }
  | 1 => { c with l1 := v }
  | 2 => { c with l2 := v }
  | 3 => { c with l3 := v }
  | 4 => { c with l4 := v }
  | _ => { c with l5 := v }
/-- The numbers' words, and from what to what each may be. -/
def entL : List (List UInt8 × Int × Int) := [([108, 111, 110, 103], 1, 6), ([114, 111, 117, 110, 100, 115], 1, 1000), ([99, 111, 110, 102, 108, 105, 99, 116, 115], 1, 1073741824), ([110, 111, 100, 101, 115], 2, 16777216), ([115, 116, 97, 116, 101, 115], 1, 16777216), ([97, 115, 107, 115], 0, 20)]
/-- Which number a word is. -/
def entIdx (word : List UInt8) : Option Nat := if word == [108, 111, 110, 103] then some 0 else (if word == [114, 111, 117, 110, 100, 115] then some 1 else (if word == [99, 111, 110, 102, 108, 105, 99, 116, 115] then some 2 else (if word == [110, 111, 100, 101, 115] then some 3 else (if word == [115, 116, 97, 116, 101, 115] then some 4 else (if word == [97, 115, 107, 115] then some 5 else none)))))
def digL : List UInt8 := [48, 49, 50, 51, 52, 53, 54, 55, 56, 57]
/-- Do digits alone stand there, without a nought ahead? -/
def digitsOk (r : List UInt8) : Bool := (Lib.trimS r digL).isEmpty && !r.isEmpty && (r == [48] || !(r.headD 0 == 48))
def atoiP (l : List UInt8) : Option Int := match Lib.atoiAll l with | .ok v => some v | _ => none
def turnedW : List UInt8 := [116, 117, 114, 110, 101, 100]
/-- What a line does: an error, or the setup behind it. -/
def lineG (c : Cfg) (word rest : List UInt8) (num : Bool) (seen : List (List UInt8)) : Int × Cfg :=
  if seen.contains word then (220, c)
  else if word == turnedW && !num then (0, { c with t := true })
  else match entIdx word with
    | none => (220, c)
    | some i =>
      if digitsOk rest && num then
        (match atoiP rest with
          | none => (221, c)
          | some v => if v < (entL.getD i ([], 0, 0)).2.1 ∨ (entL.getD i ([], 0, 0)).2.2 < v then (221, c) else (0, c.set i v))
      else (220, c)
def lineF (c : Cfg) (s : List UInt8) (seen : List (List UInt8)) : Int × Cfg := lineG c (Lib.cut s [32]).1 (Lib.cut s [32]).2.1 (Lib.cut s [32]).2.2 seen
theorem cut_gives (s : ByteArray) (w : World) (hL : LaidV w) (hs : s.size ≤ 65536) : Gives Tryd.prog 16 #[.string s, .string ⟨#[32]⟩] w (.tuple #[.string ⟨(Lib.cut s.data.toList [32]).1.toArray⟩, .string ⟨(Lib.cut s.data.toList [32]).2.1.toArray⟩, .bool (Lib.cut s.data.toList [32]).2.2]) := by
  obtain ⟨m, hm⟩ := hL.ml
  refine (Tryd.strings_Cut s ⟨#[32]⟩ m w (by omega) hm).mono ?_
  rintro e w' ⟨rfl, n, rfl⟩
  exact ⟨rfl, (IsOv.refl w).drewN n⟩
theorem cutN_gives (s : ByteArray) (w : World) (hL : LaidV w) (hs : s.size ≤ 65536) : Gives Tryd.prog 16 #[.string s, .string ⟨#[10]⟩] w (.tuple #[.string ⟨(Lib.cut s.data.toList [10]).1.toArray⟩, .string ⟨(Lib.cut s.data.toList [10]).2.1.toArray⟩, .bool (Lib.cut s.data.toList [10]).2.2]) := by
  obtain ⟨m, hm⟩ := hL.ml
  refine (Tryd.strings_Cut s ⟨#[10]⟩ m w (by omega) hm).mono ?_
  rintro e w' ⟨rfl, n, rfl⟩
  exact ⟨rfl, (IsOv.refl w).drewN n⟩
theorem trim_gives (s : ByteArray) (w : World) (hs : s.size ≤ 65536) : Gives Tryd.prog 33 #[.string s, .string ⟨#[48, 49, 50, 51, 52, 53, 54, 55, 56, 57]⟩] w (.string ⟨(Lib.trimS s.data.toList digL).toArray⟩) :=
  (Any.strings_Trim_laid Tryd.lays160 (by kernel_rfl) s ⟨#[48, 49, 50, 51, 52, 53, 54, 55, 56, 57]⟩ w (by omega) (by decide) (ascii_of_all (by decide))).mono fun e w' h => ⟨h.1, IsOv.of_below h.2⟩
theorem bytes_isOv (w : World) (t : TypeId) (s : ByteArray) : IsOv w (Lib.bytesWorld w t s) := by
  exact IsOv.of_below (Lib.bytesWorld_below _ _ _)
theorem atoi_calls (s : ByteArray) (w : World) (hL : LaidV w) (hs : s.size ≤ 65536) : Calls Tryd.prog 32 #[.string s] w fun e w' => (∃ n ev, e = .returned (.tuple #[.int .i64 n, ev]) ∧ ((∃ v, atoiP s.data.toList = some v ∧ n = v ∧ ev = .nilIface) ∨ (atoiP s.data.toList = none ∧ ∃ te p, ev = .iface te p))) ∧ IsOv w w' := by
  obtain ⟨e1, h1, h2⟩ := hL.es
  obtain ⟨e2, g1, g2⟩ := hL.er
  cases h : Lib.atoiAll s.data.toList with
  | ok v =>
    have hp : atoiP s.data.toList = some v := by unfold atoiP; rw [h]
    refine (Tryd.strconv_Atoi_ok s (by omega) v h w).mono ?_
    rintro e w' ⟨rfl, hw⟩
    refine ⟨⟨v, .nilIface, rfl, .inl ⟨v, hp, rfl, rfl⟩⟩, ?_⟩
    rcases hw with rfl | ⟨t, rfl⟩
    · exact IsOv.refl _
    · exact bytes_isOv _ _ _
  | range =>
    have hp : atoiP s.data.toList = none := by unfold atoiP; rw [h]
    refine (Tryd.strconv_Atoi_range s (by omega) h e2 w g1 g2).mono ?_
    rintro e w' ⟨N, rfl, _, _, hb⟩
    exact ⟨⟨_, _, rfl, .inr ⟨hp, _, _, rfl⟩⟩, IsOv.of_below hb⟩
  | _ =>
    have hp : atoiP s.data.toList = none := by unfold atoiP; rw [h]
    refine (Any.strconv_Atoi_syntax Tryd.laysC172 s (by omega) h e1 w h1 h2).mono ?_
    rintro e w' ⟨N, rfl, _, _, hb⟩
    exact ⟨⟨_, _, rfl, .inr ⟨hp, _, _, rfl⟩⟩, IsOv.of_below hb⟩
end Go.Proofs.YtaibjaienhnckaaDoor
