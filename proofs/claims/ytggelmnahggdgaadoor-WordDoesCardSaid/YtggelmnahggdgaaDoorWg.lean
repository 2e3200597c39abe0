/- Plain laws of word.Do: what it makes modulo the number of a type's values; its errors. No program's text beyond the words' own. -/
import Derived.Test.YtggelmnahggdgaaDoorWe
set_option linter.unusedVariables false
set_option linter.unusedSimpArgs false
namespace Go.Proofs.YtggelmnahggdgaaDoor
open Go.RowKit
/-- The same, modulo m. -/
def Cg (m a b : Int) : Prop := a % m = b % m
theorem Cg.refl (m a : Int) : Cg m a a := rfl
theorem Cg.symm {m a b : Int} (h : Cg m a b) : Cg m b a := Eq.symm h
theorem Cg.trans {m a b c : Int} (h : Cg m a b) (k : Cg m b c) : Cg m a c := Eq.trans h k
theorem Cg.add {m a b c d : Int} (h : Cg m a b) (k : Cg m c d) : Cg m (a + c) (b + d) := by unfold Cg at *; rw [Int.add_emod, h, k, ← Int.add_emod]
theorem Cg.mul {m a b c d : Int} (h : Cg m a b) (k : Cg m c d) : Cg m (a * c) (b * d) := by unfold Cg at *; rw [Int.mul_emod, h, k, ← Int.mul_emod]
theorem Cg.neg {m a b : Int} (h : Cg m a b) : Cg m (-a) (-b) := by have := (Cg.refl m (-1)).mul h; simpa using this
theorem Cg.sub {m a b c d : Int} (h : Cg m a b) (k : Cg m c d) : Cg m (a - c) (b - d) := by have := h.add k.neg; simpa [Int.sub_eq_add_neg] using this
theorem Cg.mod (m a : Int) : Cg m (a % m) a := Int.emod_emod _ _
theorem Cg.of_dvd {m k a : Int} (h : m ∣ k) : Cg m (a % k) a := Int.emod_emod_of_dvd _ h
theorem Cg.addM (m a : Int) : Cg m (a + m) a := by unfold Cg; simp
theorem Cg.subM (m a : Int) : Cg m (a - m) a := by have := (Cg.addM m (a - m)).symm; simpa using this
theorem M_dvd {wd : Int} {sg : Bool} (hT : okT wd sg = true) : M wd ∣ 18446744073709551616 := by
  rcases (okT_iff wd sg).1 hT with ⟨rfl, rfl⟩ | rfl | rfl | rfl | rfl <;> decide
theorem cg_u64 {wd : Int} {sg : Bool} (hT : okT wd sg = true) (x : Int) : Cg (M wd) (IntKind.u64.wrap x) x := by rw [IntKind.wrap_u64]; exact Cg.of_dvd (M_dvd hT)
theorem cg_i64 {wd : Int} {sg : Bool} (hT : okT wd sg = true) (x : Int) : Cg (M wd) (wrap64 x) x := by
  unfold wrap64
  have h1 := (Cg.of_dvd (a := x + 9223372036854775808) (M_dvd hT)).sub (Cg.refl (M wd) 9223372036854775808)
  simpa using h1
theorem u64_of_wrap (x : Int) : U64 (IntKind.u64.wrap x) := by rw [IntKind.wrap_u64]; exact ⟨by omega, by omega⟩
theorem cg_nrm {wd : Int} {sg : Bool} {v : Int} (hT : okT wd sg = true) (h : U64 v) : Cg (M wd) (nrm wd sg v) v := by rw [nrm_eq hT h]; exact Cg.mod _ _
/-- Two numbers that are the same stand for one value. -/
theorem nrm_cg {wd : Int} {sg : Bool} {u v : Int} (hT : okT wd sg = true) (hu : U64 u) (hv : U64 v) (h : Cg (M wd) u v) : nrm wd sg u = nrm wd sg v := by rw [nrm_eq hT hu, nrm_eq hT hv]; exact h
theorem cg_sint {wd : Int} {sg : Bool} {v : Int} (hT : okT wd sg = true) (h : U64 v) : Cg (M wd) (sint wd sg v) v := by
  refine Cg.trans ?_ (cg_nrm hT h)
  cases sg
  · rw [sint_u]; exact cg_i64 hT _
  · rw [sint_s hT h]
    split
    · exact Cg.subM _ _
    · exact Cg.refl _ _
theorem shf_u64 {wd : Int} {sg : Bool} {a b : Int} (ha : U64 a) (hb : 0 ≤ b) : U64 (shf wd sg a b) := by
  unfold shf
  split
  · split
    · exact ⟨by decide, by decide⟩
    · have h1 : 0 ≤ a / 2 ^ b.toNat := Int.ediv_nonneg ha.1 (Int.le_of_lt (Int.pow_pos (by decide)))
      have h2 : a / 2 ^ b.toNat ≤ a := Int.ediv_le_self _ ha.1
      have := ha.2
      exact ⟨h1, by omega⟩
  · split <;> exact u64_of_wrap _
theorem rem_u64 {wd : Int} {sg : Bool} {a b : Int} (ha : U64 a) (hb : U64 b) : U64 (remZ wd sg a b) := by
  unfold remZ
  split
  · rw [Int.tmod_eq_emod_of_nonneg ha.1]
    by_cases h : b = 0
    · subst h; simpa using ha
    · have := Int.emod_nonneg a h
      have := Int.emod_lt_of_pos a (show 0 < b by have := hb.1; omega)
      have := hb.2
      exact ⟨by omega, by omega⟩
  · split
    · exact ⟨by decide, by decide⟩
    · exact u64_of_wrap _
theorem quo_u64 (wd : Int) (sg : Bool) (a b : Int) : U64 (quoZ wd sg a b) := by
  unfold quoZ
  split
  · exact u64_of_wrap _
  · split <;> exact u64_of_wrap _
theorem bits_u64 (op : BinOp) (a b : Int) : U64 (bits op .u64 a b) := by
  have h : ∀ x : Int, U64 (IntKind.u64.wrap x) := u64_of_wrap
  unfold bits
  split <;> first | exact h _ | exact ⟨by decide, by decide⟩
theorem raw_u64 {wd : Int} {sg : Bool} {a b : Int} (ha : U64 a) (hb : U64 b) (k : Nat) : U64 (rawOp wd sg a b k) := by
  unfold rawOp
  split
  · exact bits_u64 _ _ _
  · exact bits_u64 _ _ _
  · exact bits_u64 _ _ _
  · exact u64_of_wrap _
  · exact u64_of_wrap _
  · exact u64_of_wrap _
  · split
    · exact ⟨by decide, by decide⟩
    · exact u64_of_wrap _
  · exact shf_u64 ha hb.1
  · exact quo_u64 _ _ _ _
  · exact rem_u64 ha hb
theorem doV_u64 (wd : Int) (sg : Bool) (op : ByteArray) {a b : Int} (ha : U64 a) (hb : U64 b) : U64 (doV wd sg op a b) := by
  unfold doV
  split
  · exact nrm_u64 (raw_u64 (nrm_u64 ha) (nrm_u64 hb) _)
  · exact ⟨by decide, by decide⟩
theorem doE_rem (wd : Int) (sg : Bool) (b : Int) : doE wd sg ⟨#[37]⟩ b = doE wd sg ⟨#[47]⟩ b := by simp [doE, opN_9, opN_10, isOp, byZero]
/-- What a division without an error says of the type and the divisor. -/
theorem doE_div {wd : Int} {sg : Bool} {b : Int} (h : doE wd sg ⟨#[47]⟩ b = 0) : okT wd sg = true ∧ ¬ wd = 1 ∧ ¬ nrm wd sg b = 0 := by
  unfold doE at h
  rw [opN_9] at h
  split at h
  · rename_i hT
    refine ⟨hT, ?_, ?_⟩
    · intro e; subst e; simp [isOp] at h
    · intro e; split at h
      · simp [byZero, e] at h
      · cases h
  · cases h
theorem doE_plain {wd : Int} {sg : Bool} {op : ByteArray} {k : Nat} (b : Int) (hT : okT wd sg = true) (hw : ¬ wd = 1) (ho : opN op = k) (hk : k ≠ 0) (hk2 : k ≤ 8) : doE wd sg op b = 0 := by
  have h9 : ¬ k = 9 := by omega
  have h10 : ¬ k = 10 := by omega
  simp [doE, ho, isOp, byZero, hT, hw, hk, h9, h10]
theorem doV_plain {wd : Int} {sg : Bool} {op : ByteArray} {k : Nat} (a b : Int) (hT : okT wd sg = true) (hw : ¬ wd = 1) (ho : opN op = k) (hk : k ≠ 0) (hk2 : k ≤ 8) : doV wd sg op a b = nrm wd sg (rawOp wd sg (nrm wd sg a) (nrm wd sg b) k) := by
  have h9 : ¬ k = 9 := by omega
  have h10 : ¬ k = 10 := by omega
  simp [doV, ho, isOp, byZero, hT, hw, hk, h9, h10]
theorem doV_quo {wd : Int} {sg : Bool} (a : Int) {b : Int} (hT : okT wd sg = true) (hw : ¬ wd = 1) (h0 : ¬ nrm wd sg b = 0) : doV wd sg ⟨#[47]⟩ a b = nrm wd sg (quoZ wd sg (nrm wd sg a) (nrm wd sg b)) := by
  simp [doV, opN_9, isOp, byZero, hT, hw, h0, rawOp]
theorem doV_rem {wd : Int} {sg : Bool} (a : Int) {b : Int} (hT : okT wd sg = true) (hw : ¬ wd = 1) (h0 : ¬ nrm wd sg b = 0) : doV wd sg ⟨#[37]⟩ a b = nrm wd sg (remZ wd sg (nrm wd sg a) (nrm wd sg b)) := by
  simp [doV, opN_10, isOp, byZero, hT, hw, h0, rawOp]
/-- The quotient times the divisor, and the rest, are the dividend. -/
theorem quo_rem {wd : Int} {sg : Bool} {a b : Int} (hT : okT wd sg = true) (ha : U64 a) (hb : U64 b) (h0 : ¬ b = 0) : Cg (M wd) (quoZ wd sg a b * b + remZ wd sg a b) a := by
  unfold quoZ remZ
  cases sg
  · simp only [Bool.not_false, if_true]
    refine ((cg_u64 hT _).mul (Cg.refl _ b)).add (Cg.refl _ _) |>.trans ?_
    rw [Int.tdiv_mul_add_tmod]
    exact Cg.refl _ _
  · simp only [Bool.not_true, Bool.false_eq_true, if_false]
    have hx := cg_sint (sg := true) hT ha
    have hy := cg_sint (sg := true) hT hb
    split
    · rename_i e
      have e : sint wd true b = -1 := by simpa using e
      rw [e] at hy
      have h1 : Cg (M wd) (IntKind.u64.wrap (wrap64 (-sint wd true a)) * b + 0) (-sint wd true a * -1 + 0) := (((cg_u64 hT _).trans (cg_i64 hT _)).mul hy.symm).add (Cg.refl _ _)
      refine h1.trans ?_
      rw [show -sint wd true a * -1 + 0 = sint wd true a by omega]
      exact hx
    · have h1 : Cg (M wd) (IntKind.u64.wrap (wrap64 ((sint wd true a).tdiv (sint wd true b))) * b + IntKind.u64.wrap ((sint wd true a).tmod (sint wd true b))) ((sint wd true a).tdiv (sint wd true b) * sint wd true b + (sint wd true a).tmod (sint wd true b)) :=
        (((cg_u64 hT _).trans (cg_i64 hT _)).mul hy.symm).add (cg_u64 hT _)
      refine h1.trans ?_
      rw [Int.tdiv_mul_add_tmod]
      exact hx
theorem divides_law {wd : Int} {sg : Bool} {a b : Int} (E : doE wd sg ⟨#[47]⟩ b = 0) (ha : U64 a) (hb : U64 b) :
    doV wd sg ⟨#[43]⟩ (doV wd sg ⟨#[42]⟩ (doV wd sg ⟨#[47]⟩ a b) b) (doV wd sg ⟨#[37]⟩ a b) = nrm wd sg a := by
  obtain ⟨hT, hw, h0⟩ := doE_div E
  have hA := nrm_u64 (wd := wd) (sg := sg) ha
  have hB := nrm_u64 (wd := wd) (sg := sg) hb
  rw [doV_quo a hT hw h0, doV_rem a hT hw h0, doV_plain _ b hT hw opN_6 (by decide) (by decide), doV_plain _ _ hT hw opN_4 (by decide) (by decide)]
  simp only [rawOp]
  rw [nrm_nrm hT (quo_u64 _ _ _ _), nrm_nrm hT (u64_of_wrap _), nrm_nrm hT (rem_u64 hA hB)]
  refine (nrm_cg hT (u64_of_wrap _) hA ?_).trans (nrm_nrm hT ha)
  refine (cg_u64 hT _).trans ?_
  refine Cg.trans ?_ (quo_rem hT hA hB h0)
  refine Cg.add ?_ (cg_nrm hT (rem_u64 hA hB))
  refine (cg_nrm hT (u64_of_wrap _)).trans ((cg_u64 hT _).trans ?_)
  exact (cg_nrm hT (quo_u64 _ _ _ _)).mul (Cg.refl _ _)
end Go.Proofs.YtggelmnahggdgaaDoor
