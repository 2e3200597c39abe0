/- word.Do as one law: what any operator makes of two values, in every world in which the table of types lies as the program lays it. Condition: the second number is one of 64 bits. -/
import Derived.Test.YtggelmnahggdgaaDoorWp
set_option linter.unusedVariables false
set_option linter.unusedSimpArgs false
namespace Go.Proofs.YtggelmnahggdgaaDoor
open Go.RowKit
/-- An operator's number; 0: there is none. -/
def opN (op : ByteArray) : Nat := if op == ⟨#[38]⟩ then 1 else if op == ⟨#[124]⟩ then 2 else if op == ⟨#[94]⟩ then 3 else if op == ⟨#[43]⟩ then 4 else if op == ⟨#[45]⟩ then 5 else if op == ⟨#[42]⟩ then 6 else if op == ⟨#[60, 60]⟩ then 7 else if op == ⟨#[62, 62]⟩ then 8 else if op == ⟨#[47]⟩ then 9 else if op == ⟨#[37]⟩ then 10 else 0
theorem ba_ne {a b : ByteArray} (h : ¬ a = b) : (a == b) = false := by
  obtain ⟨x⟩ := a
  obtain ⟨y⟩ := b
  have : x ≠ y := fun e => h (by rw [e])
  show (x == y) = false
  exact beq_eq_false_iff_ne.2 this
/-- Is it an operator of a type of that width? -/
def isOp (wd : Int) (k : Nat) : Bool := k != 0 && (wd != 1 || decide (k ≤ 3))
/-- Is it a division by nought? -/
def byZero (wd : Int) (sg : Bool) (k : Nat) (b : Int) : Bool := (k == 9 || k == 10) && nrm wd sg b == 0
def doE (wd : Int) (sg : Bool) (op : ByteArray) (b : Int) : Int := if okT wd sg then (if isOp wd (opN op) then (if byZero wd sg (opN op) b then 11 else 0) else 12) else 10
def doV (wd : Int) (sg : Bool) (op : ByteArray) (a b : Int) : Int := if okT wd sg && isOp wd (opN op) && !byZero wd sg (opN op) b then nrm wd sg (rawOp wd sg (nrm wd sg a) (nrm wd sg b) (opN op)) else 0
theorem opN_1 : opN ⟨#[38]⟩ = 1 := by decide +kernel
theorem opN_2 : opN ⟨#[124]⟩ = 2 := by decide +kernel
theorem opN_3 : opN ⟨#[94]⟩ = 3 := by decide +kernel
theorem opN_4 : opN ⟨#[43]⟩ = 4 := by decide +kernel
theorem opN_5 : opN ⟨#[45]⟩ = 5 := by decide +kernel
theorem opN_6 : opN ⟨#[42]⟩ = 6 := by decide +kernel
theorem opN_7 : opN ⟨#[60, 60]⟩ = 7 := by decide +kernel
theorem opN_8 : opN ⟨#[62, 62]⟩ = 8 := by decide +kernel
theorem opN_9 : opN ⟨#[47]⟩ = 9 := by decide +kernel
theorem opN_10 : opN ⟨#[37]⟩ = 10 := by decide +kernel
theorem Do_gives (wd : Int) (sg : Bool) (op : ByteArray) (a b : Int) (w : World) (hL : Laid w) (hb : U64 b) :
    Gives Tryd.prog 18 #[.agg #[.int .i64 wd, .bool sg], .string op, .int .u64 a, .int .u64 b] w (.tuple #[.int .u64 (doV wd sg op a b), .int .i64 (doE wd sg op b)]) := by
  cases hT : okT wd sg
  · have h := Do_bad wd sg op a b w hL hT
    rwa [show doV wd sg op a b = 0 by simp [doV, hT], show doE wd sg op b = 10 by simp [doE, hT]]
  have hr := nrm_range hT hb
  have hz := sint_zero (v := nrm wd sg b) hT (nrm_u64 hb)
  rw [nrm_nrm hT hb] at hz
  by_cases h1 : op = ⟨#[38]⟩
  · subst h1
    cases hw : (wd == 1)
    · have hw0 : ¬ wd = 1 := by simpa using hw
      have h := Do_more1 wd sg a b w hL hT hw
      rwa [show doV wd sg ⟨#[38]⟩ a b = nrm wd sg (rawOp wd sg (nrm wd sg a) (nrm wd sg b) 1) by simp [doV, opN_1, isOp, byZero, hT, hw0], show doE wd sg ⟨#[38]⟩ b = 0 by simp [doE, opN_1, isOp, byZero, hT, hw0]]
    · have hw1 : wd = 1 := by simpa using hw
      subst hw1
      have h := Do_one1 1 sg a b w hL hT hw
      rwa [show doV 1 sg ⟨#[38]⟩ a b = nrm 1 sg (rawOp 1 sg (nrm 1 sg a) (nrm 1 sg b) 1) by simp [doV, opN_1, isOp, byZero, hT], show doE 1 sg ⟨#[38]⟩ b = 0 by simp [doE, opN_1, isOp, byZero, hT]]
  by_cases h2 : op = ⟨#[124]⟩
  · subst h2
    cases hw : (wd == 1)
    · have hw0 : ¬ wd = 1 := by simpa using hw
      have h := Do_more2 wd sg a b w hL hT hw
      rwa [show doV wd sg ⟨#[124]⟩ a b = nrm wd sg (rawOp wd sg (nrm wd sg a) (nrm wd sg b) 2) by simp [doV, opN_2, isOp, byZero, hT, hw0], show doE wd sg ⟨#[124]⟩ b = 0 by simp [doE, opN_2, isOp, byZero, hT, hw0]]
    · have hw1 : wd = 1 := by simpa using hw
      subst hw1
      have h := Do_one2 1 sg a b w hL hT hw
      rwa [show doV 1 sg ⟨#[124]⟩ a b = nrm 1 sg (rawOp 1 sg (nrm 1 sg a) (nrm 1 sg b) 2) by simp [doV, opN_2, isOp, byZero, hT], show doE 1 sg ⟨#[124]⟩ b = 0 by simp [doE, opN_2, isOp, byZero, hT]]
  by_cases h3 : op = ⟨#[94]⟩
  · subst h3
    cases hw : (wd == 1)
    · have hw0 : ¬ wd = 1 := by simpa using hw
      have h := Do_more3 wd sg a b w hL hT hw
      rwa [show doV wd sg ⟨#[94]⟩ a b = nrm wd sg (rawOp wd sg (nrm wd sg a) (nrm wd sg b) 3) by simp [doV, opN_3, isOp, byZero, hT, hw0], show doE wd sg ⟨#[94]⟩ b = 0 by simp [doE, opN_3, isOp, byZero, hT, hw0]]
    · have hw1 : wd = 1 := by simpa using hw
      subst hw1
      have h := Do_one3 1 sg a b w hL hT hw
      rwa [show doV 1 sg ⟨#[94]⟩ a b = nrm 1 sg (rawOp 1 sg (nrm 1 sg a) (nrm 1 sg b) 3) by simp [doV, opN_3, isOp, byZero, hT], show doE 1 sg ⟨#[94]⟩ b = 0 by simp [doE, opN_3, isOp, byZero, hT]]
  by_cases h4 : op = ⟨#[43]⟩
  · subst h4
    cases hw : (wd == 1)
    · have hw0 : ¬ wd = 1 := by simpa using hw
      have h := Do_more4 wd sg a b w hL hT hw
      rwa [show doV wd sg ⟨#[43]⟩ a b = nrm wd sg (rawOp wd sg (nrm wd sg a) (nrm wd sg b) 4) by simp [doV, opN_4, isOp, byZero, hT, hw0], show doE wd sg ⟨#[43]⟩ b = 0 by simp [doE, opN_4, isOp, byZero, hT, hw0]]
    · have hw1 : wd = 1 := by simpa using hw
      subst hw1
      have h := Do_no3 1 sg ⟨#[43]⟩ a b w hL hT hw (by decide +kernel) (by decide +kernel) (by decide +kernel)
      rwa [show doV 1 sg ⟨#[43]⟩ a b = 0 by simp [doV, opN_4, isOp, hT], show doE 1 sg ⟨#[43]⟩ b = 12 by simp [doE, opN_4, isOp, hT]]
  by_cases h5 : op = ⟨#[45]⟩
  · subst h5
    cases hw : (wd == 1)
    · have hw0 : ¬ wd = 1 := by simpa using hw
      have h := Do_more5 wd sg a b w hL hT hw
      rwa [show doV wd sg ⟨#[45]⟩ a b = nrm wd sg (rawOp wd sg (nrm wd sg a) (nrm wd sg b) 5) by simp [doV, opN_5, isOp, byZero, hT, hw0], show doE wd sg ⟨#[45]⟩ b = 0 by simp [doE, opN_5, isOp, byZero, hT, hw0]]
    · have hw1 : wd = 1 := by simpa using hw
      subst hw1
      have h := Do_no3 1 sg ⟨#[45]⟩ a b w hL hT hw (by decide +kernel) (by decide +kernel) (by decide +kernel)
      rwa [show doV 1 sg ⟨#[45]⟩ a b = 0 by simp [doV, opN_5, isOp, hT], show doE 1 sg ⟨#[45]⟩ b = 12 by simp [doE, opN_5, isOp, hT]]
  by_cases h6 : op = ⟨#[42]⟩
  · subst h6
    cases hw : (wd == 1)
    · have hw0 : ¬ wd = 1 := by simpa using hw
      have h := Do_more6 wd sg a b w hL hT hw
      rwa [show doV wd sg ⟨#[42]⟩ a b = nrm wd sg (rawOp wd sg (nrm wd sg a) (nrm wd sg b) 6) by simp [doV, opN_6, isOp, byZero, hT, hw0], show doE wd sg ⟨#[42]⟩ b = 0 by simp [doE, opN_6, isOp, byZero, hT, hw0]]
    · have hw1 : wd = 1 := by simpa using hw
      subst hw1
      have h := Do_no3 1 sg ⟨#[42]⟩ a b w hL hT hw (by decide +kernel) (by decide +kernel) (by decide +kernel)
      rwa [show doV 1 sg ⟨#[42]⟩ a b = 0 by simp [doV, opN_6, isOp, hT], show doE 1 sg ⟨#[42]⟩ b = 12 by simp [doE, opN_6, isOp, hT]]
  by_cases h7 : op = ⟨#[60, 60]⟩
  · subst h7
    cases hw : (wd == 1)
    · have hw0 : ¬ wd = 1 := by simpa using hw
      have h := Do_more7 wd sg a b w hL hT hw hr.1
      rwa [show doV wd sg ⟨#[60, 60]⟩ a b = nrm wd sg (rawOp wd sg (nrm wd sg a) (nrm wd sg b) 7) by simp [doV, opN_7, isOp, byZero, hT, hw0], show doE wd sg ⟨#[60, 60]⟩ b = 0 by simp [doE, opN_7, isOp, byZero, hT, hw0]]
    · have hw1 : wd = 1 := by simpa using hw
      subst hw1
      have h := Do_no3 1 sg ⟨#[60, 60]⟩ a b w hL hT hw (by decide +kernel) (by decide +kernel) (by decide +kernel)
      rwa [show doV 1 sg ⟨#[60, 60]⟩ a b = 0 by simp [doV, opN_7, isOp, hT], show doE 1 sg ⟨#[60, 60]⟩ b = 12 by simp [doE, opN_7, isOp, hT]]
  by_cases h8 : op = ⟨#[62, 62]⟩
  · subst h8
    cases hw : (wd == 1)
    · have hw0 : ¬ wd = 1 := by simpa using hw
      have h := Do_more8 wd sg a b w hL hT hw hr.1
      rwa [show doV wd sg ⟨#[62, 62]⟩ a b = nrm wd sg (rawOp wd sg (nrm wd sg a) (nrm wd sg b) 8) by simp [doV, opN_8, isOp, byZero, hT, hw0], show doE wd sg ⟨#[62, 62]⟩ b = 0 by simp [doE, opN_8, isOp, byZero, hT, hw0]]
    · have hw1 : wd = 1 := by simpa using hw
      subst hw1
      have h := Do_no3 1 sg ⟨#[62, 62]⟩ a b w hL hT hw (by decide +kernel) (by decide +kernel) (by decide +kernel)
      rwa [show doV 1 sg ⟨#[62, 62]⟩ a b = 0 by simp [doV, opN_8, isOp, hT], show doE 1 sg ⟨#[62, 62]⟩ b = 12 by simp [doE, opN_8, isOp, hT]]
  by_cases h9 : op = ⟨#[47]⟩
  · subst h9
    cases hw : (wd == 1)
    · have hw0 : ¬ wd = 1 := by simpa using hw
      by_cases h0 : nrm wd sg b = 0
      · have h := Do_zero9 wd sg a b w hL hT hw h0
        rwa [show doV wd sg ⟨#[47]⟩ a b = 0 by simp [doV, opN_9, isOp, byZero, hT, hw0, h0], show doE wd sg ⟨#[47]⟩ b = 11 by simp [doE, opN_9, isOp, byZero, hT, hw0, h0]]
      · have h := Do_more9 wd sg a b w hL hT hw h0 (fun e => h0 (hz.1 e))
        rwa [show doV wd sg ⟨#[47]⟩ a b = nrm wd sg (rawOp wd sg (nrm wd sg a) (nrm wd sg b) 9) by simp [doV, opN_9, isOp, byZero, hT, hw0, h0], show doE wd sg ⟨#[47]⟩ b = 0 by simp [doE, opN_9, isOp, byZero, hT, hw0, h0]]
    · have hw1 : wd = 1 := by simpa using hw
      subst hw1
      have h := Do_no3 1 sg ⟨#[47]⟩ a b w hL hT hw (by decide +kernel) (by decide +kernel) (by decide +kernel)
      rwa [show doV 1 sg ⟨#[47]⟩ a b = 0 by simp [doV, opN_9, isOp, hT], show doE 1 sg ⟨#[47]⟩ b = 12 by simp [doE, opN_9, isOp, hT]]
  by_cases h10 : op = ⟨#[37]⟩
  · subst h10
    cases hw : (wd == 1)
    · have hw0 : ¬ wd = 1 := by simpa using hw
      by_cases h0 : nrm wd sg b = 0
      · have h := Do_zero10 wd sg a b w hL hT hw h0
        rwa [show doV wd sg ⟨#[37]⟩ a b = 0 by simp [doV, opN_10, isOp, byZero, hT, hw0, h0], show doE wd sg ⟨#[37]⟩ b = 11 by simp [doE, opN_10, isOp, byZero, hT, hw0, h0]]
      · have h := Do_more10 wd sg a b w hL hT hw h0 (fun e => h0 (hz.1 e))
        rwa [show doV wd sg ⟨#[37]⟩ a b = nrm wd sg (rawOp wd sg (nrm wd sg a) (nrm wd sg b) 10) by simp [doV, opN_10, isOp, byZero, hT, hw0, h0], show doE wd sg ⟨#[37]⟩ b = 0 by simp [doE, opN_10, isOp, byZero, hT, hw0, h0]]
    · have hw1 : wd = 1 := by simpa using hw
      subst hw1
      have h := Do_no3 1 sg ⟨#[37]⟩ a b w hL hT hw (by decide +kernel) (by decide +kernel) (by decide +kernel)
      rwa [show doV 1 sg ⟨#[37]⟩ a b = 0 by simp [doV, opN_10, isOp, hT], show doE 1 sg ⟨#[37]⟩ b = 12 by simp [doE, opN_10, isOp, hT]]
  have h0 : opN op = 0 := by simp [opN, ba_ne h1, ba_ne h2, ba_ne h3, ba_ne h4, ba_ne h5, ba_ne h6, ba_ne h7, ba_ne h8, ba_ne h9, ba_ne h10]
  have eV : doV wd sg op a b = 0 := by simp [doV, h0, isOp, hT]
  have eE : doE wd sg op b = 12 := by simp [doE, h0, isOp, hT]
  rw [eV, eE]
  cases hw : (wd == 1)
  · exact Do_no10 wd sg op a b w hL hT hw (ba_ne h1) (ba_ne h2) (ba_ne h3) (ba_ne h4) (ba_ne h5) (ba_ne h6) (ba_ne h7) (ba_ne h8) (ba_ne h9) (ba_ne h10)
  · exact Do_no3 wd sg op a b w hL hT hw (ba_ne h1) (ba_ne h2) (ba_ne h3)
end Go.Proofs.YtggelmnahggdgaaDoor
