/- The document's shift and Do as they are printed: what each comes to. Condition: rounds enough. -/
import Derived.Test.YtggelmnahggdgaaDoorQk
set_option linter.unusedVariables false
set_option linter.unusedSimpArgs false
namespace Go.Proofs.YtggelmnahggdgaaDoor
open Go.RowKit Go.Proofs.YtggelmnahggdgaaDoorW.PrintWords Go.Proofs.YtggelmnahggdgaaDoorW.PrintLast Go.Proofs.YtggelmnahggdgaaDoorW.PrintMore
namespace RWordDoes
/-- A value with its sign, as a whole number. -/
def sv (wd : Int) (sg : Bool) (v : Int) : Int := if sgL wd sg v then nrm wd sg v - M wd else nrm wd sg v
theorem mod_up {T m : Int} (h : 0 ≤ T) (h2 : T < m) : T % m = T := Int.emod_eq_of_lt h h2
theorem mod_down {T m : Int} (h : T < 0) (h2 : -m ≤ T) : T % m = T + m := by
  rw [← Int.add_emod_right, Int.emod_eq_of_lt (by omega) (by omega)]
theorem half_mod {T : Int} {n : Nat} (h1 : -(2 ^ (n + 1)) ≤ T) (h2 : T < 2 ^ (n + 1)) : T / 2 % 2 ^ (n + 1) = T % 2 ^ (n + 1) / 2 + 2 ^ n * (if T < 0 then 1 else 0) := by
  have e : (2 : Int) ^ (n + 1) = 2 * 2 ^ n := by rw [Int.pow_succ, Int.mul_comm]
  have hp : (0 : Int) < 2 ^ n := Int.pow_pos (by decide)
  rw [e] at h1 h2 ⊢
  clear e
  generalize (2 : Int) ^ n = q at *
  by_cases h : T < 0
  · rw [if_pos h, mod_down h (by omega), mod_down (show T / 2 < 0 by omega) (by omega)]; omega
  · rw [if_neg h, mod_up (by omega) h2, mod_up (by omega) (by omega)]; omega
theorem valL_shr (l : List Bool) (s : Bool) (n : Nat) (h : l.length = n + 1) : valL (l.drop 1 ++ [s]) = valL l / 2 + 2 ^ n * (if s then 1 else 0) := by
  cases l with
  | nil => simp at h
  | cons b t =>
    simp only [List.length_cons] at h
    have ht : t.length = n := by omega
    rw [List.drop_succ_cons, List.drop_zero, valL_append, ht]
    simp only [valL]
    have e : ((if b = true then (1 : Int) else 0) + 2 * valL t) / 2 = valL t := by cases b <;> simp <;> omega
    rw [e]
    cases s <;> simp
theorem valL_shl (l : List Bool) (n : Nat) (h : l.length = n + 1) : valL (false :: l.take n) = 2 * valL l % 2 ^ (n + 1) := by
  have e := valL_append (l.take n) (l.drop n)
  rw [List.take_append_drop, List.length_take, Nat.min_eq_left (by omega)] at e
  have r := valL_range (l.take n)
  rw [List.length_take, Nat.min_eq_left (by omega)] at r
  have e2 : (2 : Int) ^ (n + 1) = 2 * 2 ^ n := by rw [Int.pow_succ, Int.mul_comm]
  have hv : valL (false :: l.take n) = 2 * valL (l.take n) := by simp [valL]
  rw [hv, e2, e, Int.mul_add, ← Int.mul_assoc, Int.mul_comm (2 * 2 ^ n), Int.add_mul_emod_self_right, mod_up (by omega) (by omega)]
theorem end_l0 (n : Nat) (sg left : Bool) (a b : Int) (m k : Nat) (l : List Bool) (hm : (m : Int) = if b < 64 then b else 64) (hl : l.length = n) (hn : n ≤ 64) (hk : 100 < k) : PWordDoes.skuaref01_shift.l0 k a b left l m n sg = some (valL l) := by
  obtain ⟨k, rfl⟩ : ∃ j, k = j + 2 := ⟨k - 2, by omega⟩
  simp only [PWordDoes.skuaref01_shift.l0, PWordDoes.skuaref01_shift.j1]
  have hd : m < b → decide ((m : Int) < 64) = false := fun h => by
    rw [decide_eq_false_iff_not]
    split at hm <;> omega
  have hv := val_f k l (by omega) (by omega)
  by_cases hc : (m : Int) < b
  · rw [if_pos hc, hd hc, hv]; simp
  · rw [if_neg hc, hv]; simp
theorem shr_l0 (n : Nat) (sg : Bool) (a b : Int) (hT : okT ((n + 1 : Nat) : Int) sg = true) (ha : U64 a) (m : Nat) (hm : (m : Int) = if b < 64 then b else 64) : ∀ (d i k : Nat) (l : List Bool) (T : Int), m - i = d → i ≤ m → l.length = n + 1 → valL l = T % 2 ^ (n + 1) → (T < 0 ↔ sgL ((n + 1 : Nat) : Int) sg a = true) → -(2 ^ (n + 1)) ≤ T → T < 2 ^ (n + 1) → 2 * d + 300 < k →
    PWordDoes.skuaref01_shift.l0 k a b false l i ((n + 1 : Nat) : Int) sg = some (T / 2 ^ d % 2 ^ (n + 1)) := by
  obtain ⟨hM, h1, h2⟩ := M_pow hT
  intro d
  induction d with
  | zero =>
    intro i k l T hd hi hl hv hs r1 r2 hk
    obtain rfl : i = m := by omega
    rw [end_l0 (n + 1) sg false a b i k l hm hl (by omega) (by omega), hv, Int.pow_zero, Int.ediv_one]
  | succ d ih =>
    intro i k l T hd hi hl hv hs r1 r2 hk
    obtain ⟨k, rfl⟩ : ∃ j, k = j + 2 := ⟨k - 2, by omega⟩
    have hib : (i : Int) < b := by split at hm <;> omega
    have hi64 : decide ((i : Int) < 64) = true := by rw [decide_eq_true_eq]; split at hm <;> omega
    have hw : IntKind.u64.wrap ((i : Int) + 1) = ((i + 1 : Nat) : Int) := by
      have : (i : Int) < 64 := by simpa using hi64
      rw [wraps_u64 _ (by omega) (by omega)]; omega
    have hl2 : (l.drop 1 ++ [sgL ((n + 1 : Nat) : Int) sg a]).length = n + 1 := by simp [hl]
    have hv2 : valL (l.drop 1 ++ [sgL ((n + 1 : Nat) : Int) sg a]) = T / 2 % 2 ^ (n + 1) := by
      rw [valL_shr l _ n hl, hv, half_mod r1 r2]
      congr 2
      by_cases h : T < 0
      · rw [if_pos h, if_pos (hs.1 h)]
      · rw [if_neg h, if_neg (fun e => h (hs.2 e))]
    have hp : (0 : Int) < 2 ^ (n + 1) := Int.pow_pos (by decide)
    have h := ih (i + 1) k _ (T / 2) (by omega) (by omega) hl2 hv2 (by rw [← hs]; omega) (by omega) (by omega) (by omega)
    simp only [PWordDoes.skuaref01_shift.l0, PWordDoes.skuaref01_shift.j1]
    rw [if_pos hib, hi64, neg_f k _ sg a hT ha (by omega), hw]
    simp only [if_true, Bool.false_eq_true, if_false, Option.bind_some, List.nil_append, List.length_nil, Nat.zero_add]
    rw [if_pos (by omega), if_pos (by simp; omega), if_pos (by simp; omega), h, Int.ediv_ediv_of_nonneg (by decide), Int.pow_succ 2 d, Int.mul_comm 2 (2 ^ d)]
theorem shl_l0 (n : Nat) (sg : Bool) (a b : Int) (hT : okT ((n + 1 : Nat) : Int) sg = true) (m : Nat) (hm : (m : Int) = if b < 64 then b else 64) : ∀ (d i k : Nat) (l : List Bool) (T : Int), m - i = d → i ≤ m → l.length = n + 1 → valL l = T % 2 ^ (n + 1) → 2 * d + 300 < k →
    PWordDoes.skuaref01_shift.l0 k a b true l i ((n + 1 : Nat) : Int) sg = some (T * 2 ^ d % 2 ^ (n + 1)) := by
  obtain ⟨hM, h1, h2⟩ := M_pow hT
  intro d
  induction d with
  | zero =>
    intro i k l T hd hi hl hv hk
    obtain rfl : i = m := by omega
    rw [end_l0 (n + 1) sg true a b i k l hm hl (by omega) (by omega), hv, Int.pow_zero, Int.mul_one]
  | succ d ih =>
    intro i k l T hd hi hl hv hk
    obtain ⟨k, rfl⟩ : ∃ j, k = j + 2 := ⟨k - 2, by omega⟩
    have hib : (i : Int) < b := by split at hm <;> omega
    have hi64 : decide ((i : Int) < 64) = true := by rw [decide_eq_true_eq]; split at hm <;> omega
    have hw : IntKind.u64.wrap ((i : Int) + 1) = ((i + 1 : Nat) : Int) := by
      have : (i : Int) < 64 := by simpa using hi64
      rw [wraps_u64 _ (by omega) (by omega)]; omega
    have hn1 : wrap64 (((n + 1 : Nat) : Int) - 1) = (n : Int) := by unfold wrap64; omega
    have hl2 : (false :: l.take n).length = n + 1 := by simp [hl]
    have hv2 : valL (false :: l.take n) = 2 * T % 2 ^ (n + 1) := by
      rw [valL_shl l n hl, hv, Int.mul_emod, Int.emod_emod, ← Int.mul_emod]
    have h := ih (i + 1) k _ (2 * T) (by omega) (by omega) hl2 hv2 (by omega)
    simp only [PWordDoes.skuaref01_shift.l0, PWordDoes.skuaref01_shift.j1]
    rw [if_pos hib, hi64, hw, hn1]
    simp only [if_true, Option.bind_some, Int.toNat_natCast, List.singleton_append]
    rw [if_pos (by omega), if_pos (by rw [hl]; omega), if_pos (by simp; omega), h, Int.pow_succ 2 d, Int.mul_comm 2 T, Int.mul_assoc, Int.mul_comm 2 (2 ^ d)]
theorem sv_mod {wd : Int} {sg : Bool} {a : Int} (hT : okT wd sg = true) (ha : U64 a) : sv wd sg a % M wd = a % M wd := by
  unfold sv
  rw [nrm_eq hT ha]
  split
  · rw [Int.sub_emod_right, Int.emod_emod]
  · rw [Int.emod_emod]
theorem sv_range {wd : Int} {sg : Bool} {a : Int} (hT : okT wd sg = true) (ha : U64 a) : (sv wd sg a < 0 ↔ sgL wd sg a = true) ∧ -M wd ≤ sv wd sg a ∧ sv wd sg a < M wd := by
  have hr := nrm_range hT ha
  unfold sv
  cases sgL wd sg a
  · simp; omega
  · simp; omega
theorem shift_f (k : Nat) (wd : Int) (sg : Bool) (a b : Int) (left : Bool) (hT : okT wd sg = true) (ha : U64 a) (m : Nat) (hm : (m : Int) = if b < 64 then b else 64) (hk : 500 < k) :
    PWordDoes.skuaref01_shift.f k wd sg a b left = some (if left then a * 2 ^ m % M wd else sv wd sg a / 2 ^ m % M wd) := by
  obtain ⟨hM, h1, h2⟩ := M_pow hT
  obtain ⟨n, rfl⟩ := Int.eq_ofNat_of_zero_le (show 0 ≤ wd by omega)
  obtain ⟨n, rfl⟩ : ∃ j, n = j + 1 := ⟨n - 1, by omega⟩
  have hM : M ((n + 1 : Nat) : Int) = 2 ^ (n + 1) := hM
  have hm64 : m ≤ 64 := by split at hm <;> omega
  unfold PWordDoes.skuaref01_shift.f
  rw [bits_f k a (n + 1) (by omega) ha (by omega)]
  simp only [Option.bind_some]
  cases left
  · have s := sv_range hT ha
    have s2 := sv_mod hT ha
    rw [hM] at s s2
    have h := shr_l0 n sg a b hT ha m hm m 0 k (bitsL a (n + 1)) (sv ((n + 1 : Nat) : Int) sg a) (by omega) (by omega) (bitsL_length _ _) (by rw [valL_bits, s2]) s.1 s.2.1 s.2.2 (by omega)
    rw [hM]
    exact h
  · have h := shl_l0 n sg a b hT m hm m 0 k (bitsL a (n + 1)) a (by omega) (by omega) (bitsL_length _ _) (valL_bits _ _) (by omega)
    rw [hM]
    exact h
theorem shl_val {wd : Int} {sg : Bool} {a b : Int} (hT : okT wd sg = true) (ha : U64 a) (hb : U64 b) (m : Nat) (hm : (m : Int) = if b < 64 then b else 64) : nrm wd sg (a * 2 ^ m % M wd) = nrm wd sg (rawOp wd sg a b 7) := by
  have hM := M_pos hT
  have u : U64 (a * 2 ^ m % M wd) := ⟨Int.emod_nonneg _ (by omega), by have := Int.emod_lt_of_pos (a * 2 ^ m) (show 0 < M wd by omega); omega⟩
  refine nrm_cg hT u (raw_u64 ha hb 7) ((Cg.mod _ _).trans ?_)
  simp only [rawOp]
  split
  · have : m = 64 := by split at hm <;> omega
    subst this
    obtain ⟨c, hc⟩ := M_dvd hT
    rw [show (2 : Int) ^ 64 = 18446744073709551616 from rfl, hc, Int.mul_left_comm]
    unfold Cg
    rw [Int.mul_emod_right, Int.zero_emod]
  · have : m = b.toNat := by split at hm <;> omega
    rw [this]
    exact (cg_u64 hT _).symm
theorem shr_val {wd : Int} {sg : Bool} {a b : Int} (hT : okT wd sg = true) (ha : U64 a) (hb : U64 b) (hna : nrm wd sg a = a) (m : Nat) (hm : (m : Int) = if b < 64 then b else 64) : nrm wd sg (sv wd sg a / 2 ^ m % M wd) = nrm wd sg (rawOp wd sg a b 8) := by
  have hM := M_pos hT
  have u : U64 (sv wd sg a / 2 ^ m % M wd) := ⟨Int.emod_nonneg _ (by omega), by have := Int.emod_lt_of_pos (sv wd sg a / 2 ^ m) (show 0 < M wd by omega); omega⟩
  refine nrm_cg hT u (raw_u64 ha hb 8) ((Cg.mod _ _).trans ?_)
  simp only [rawOp, shf]
  have h64 : (2 : Int) ^ 64 = 18446744073709551616 := rfl
  cases sg
  · have e : sv wd false a = a := by simp [sv, sgL, hna]
    rw [e]
    simp only [Bool.not_false, if_true]
    split
    · have : m = 64 := by split at hm <;> omega
      subst this
      rw [h64, Int.ediv_eq_zero_of_lt ha.1 ha.2]
      exact Cg.refl _ _
    · have : m = b.toNat := by split at hm <;> omega
      rw [this]
      exact Cg.refl _ _
  · have e : sv wd true a = sint wd true a := by
      rw [sint_s hT ha]
      unfold sv sgL
      simp only [Bool.true_and, decide_eq_true_eq]
    rw [e]
    simp only [Bool.not_true, Bool.false_eq_true, if_false]
    split
    · have : m = 64 := by split at hm <;> omega
      subst this
      refine Cg.trans ?_ (cg_u64 hT _).symm
      have hr : -9223372036854775808 ≤ sint wd true a ∧ sint wd true a < 9223372036854775808 := by
        rw [sint_s hT ha]
        have := nrm_range hT ha
        split <;> omega
      rw [h64]
      have : sint wd true a / 18446744073709551616 = sint wd true a / 9223372036854775808 := by omega
      rw [this]
      exact Cg.refl _ _
    · have : m = b.toNat := by split at hm <;> omega
      rw [this]
      exact (cg_u64 hT _).symm
theorem ba_iff {op : ByteArray} (l : List UInt8) : op.toList = l ↔ op = ⟨l.toArray⟩ := by
  constructor
  · intro h
    rw [ByteArray.toList_eq] at h
    obtain ⟨x⟩ := op
    simp only at h
    rw [← h]
  · rintro rfl
    rw [ByteArray.toList_eq]
theorem do_f (k : Nat) (wd : Int) (sg : Bool) (op : ByteArray) (a0 b0 : Int) (ha0 : U64 a0) (hb0 : U64 b0) (hk : 600 < k) :
    PWordDoes.skuaref01_Do.f k wd sg op a0 b0 = some (doV wd sg op a0 b0, doE wd sg op b0) := by
  unfold PWordDoes.skuaref01_Do.f
  rw [right]
  simp only [Option.bind_some]
  cases hT : okT wd sg
  · simp [doV, doE, hT]
  rw [if_pos rfl, norm_f k wd sg a0 ha0 (by omega), norm_f k wd sg b0 hb0 (by omega)]
  simp only [Option.bind_some]
  have ha := nrm_u64 (wd := wd) (sg := sg) ha0
  have hb := nrm_u64 (wd := wd) (sg := sg) hb0
  have hna := nrm_nrm hT ha0
  have hnb := nrm_nrm hT hb0
  have dV : doV wd sg op a0 b0 = if isOp wd (opN op) && !((opN op == 9 || opN op == 10) && nrm wd sg b0 == 0) then nrm wd sg (rawOp wd sg (nrm wd sg a0) (nrm wd sg b0) (opN op)) else 0 := by unfold doV byZero; rw [hT]; simp
  have dE : doE wd sg op b0 = if isOp wd (opN op) then (if (opN op == 9 || opN op == 10) && nrm wd sg b0 == 0 then 11 else 0) else 12 := by unfold doE byZero; rw [hT]; simp
  rw [dV, dE]
  clear dV dE
  generalize nrm wd sg a0 = a at *
  generalize nrm wd sg b0 = b at *
  obtain ⟨k, rfl⟩ : ∃ j, k = j + 2 := ⟨k - 2, by omega⟩
  have j0t : ∀ o : ByteArray, ∀ bop, (o.toList = [38] ∧ bop = .and ∨ o.toList = [124] ∧ bop = .or ∨ o.toList = [94] ∧ bop = .xor) → PWordDoes.skuaref01_Do.j0 (k + 2) o a b true wd sg = some (nrm wd sg (bits bop .u64 a b), 0) := by
    intro o bop hop
    simp only [PWordDoes.skuaref01_Do.j0]
    rw [if_pos trivial, each_val (k + 1) wd sg o a b hT ha hb (by omega) bop hop]; rfl
  by_cases g1 : op.toList = [38]
  · rw [if_pos g1, j0t op .and (.inl ⟨g1, rfl⟩)]
    obtain rfl := (ba_iff _).1 g1
    simp [opN_1, isOp, rawOp]
  rw [if_neg g1]
  by_cases g2 : op.toList = [124]
  · rw [if_pos g2, j0t op .or (.inr (.inl ⟨g2, rfl⟩))]
    obtain rfl := (ba_iff _).1 g2
    simp [opN_2, isOp, rawOp]
  rw [if_neg g2]
  by_cases g3 : op.toList = [94]
  · rw [show (op.toList == [94]) = true by simp [g3], j0t op .xor (.inr (.inr ⟨g3, rfl⟩))]
    obtain rfl := (ba_iff _).1 g3
    simp [opN_3, isOp, rawOp]
  rw [show (op.toList == [94]) = false by simp [g3]]
  have n1 := ba_ne (fun e => g1 ((ba_iff _).2 e))
  have n2 := ba_ne (fun e => g2 ((ba_iff _).2 e))
  have n3 := ba_ne (fun e => g3 ((ba_iff _).2 e))
  simp only [PWordDoes.skuaref01_Do.j0, PWordDoes.skuaref01_Do.j1]
  rw [if_neg (by simp)]
  by_cases hw : wd = 1
  · rw [if_pos hw]
    subst hw
    have h3 : isOp 1 (opN op) = false := by
      unfold isOp opN
      simp only [n1, n2, n3, Bool.false_eq_true, if_false]
      repeat' split
      all_goals rfl
    rw [h3]; rfl
  rw [if_neg hw]
  have hO : ∀ j, j ≠ 0 → isOp wd j = true := fun j hj => by simp [isOp, hj, hw]
  have nf : ∀ v, U64 v → PWordDoes.skuaref01_Norm.f (k + 1) wd sg v = some (nrm wd sg v) := fun v hv => norm_f (k + 1) wd sg v hv (by omega)
  have nf0 : ∀ v, U64 v → PWordDoes.skuaref01_Norm.f k wd sg v = some (nrm wd sg v) := fun v hv => norm_f k wd sg v hv (by omega)
  by_cases g4 : op.toList = [43]
  · rw [if_pos g4, nf _ (u64_of_wrap _)]
    obtain rfl := (ba_iff _).1 g4
    simp [opN_4, hO, rawOp]
  rw [if_neg g4]
  by_cases g5 : op.toList = [45]
  · rw [if_pos g5, nf _ (u64_of_wrap _)]
    obtain rfl := (ba_iff _).1 g5
    simp [opN_5, hO, rawOp]
  rw [if_neg g5]
  by_cases g6 : op.toList = [42]
  · rw [if_pos g6, nf _ (u64_of_wrap _)]
    obtain rfl := (ba_iff _).1 g6
    simp [opN_6, hO, rawOp]
  rw [if_neg g6]
  have n4 := ba_ne (fun e => g4 ((ba_iff _).2 e))
  have n5 := ba_ne (fun e => g5 ((ba_iff _).2 e))
  have n6 := ba_ne (fun e => g6 ((ba_iff _).2 e))
  by_cases g9 : op.toList = [47]
  · rw [if_pos g9, if_pos (by simp [g9])]
    obtain rfl := (ba_iff _).1 g9
    by_cases z : b = 0
    · rw [if_pos z]; simp [opN_9, hO, z]
    · have hm : ¬ mag wd sg b = 0 := mag_zero hT hb (by rw [hnb]; exact z)
      rw [if_neg z, divide_f k wd sg a b hT ha hb hm (by omega)]
      simp only [Option.bind_some]
      rw [if_neg (by rw [g9]; decide), nf0 _ (by
        split
        · exact u64_of_wrap _
        · have rA := mag_range hT ha
          exact ⟨Int.ediv_nonneg rA.1 (mag_range hT hb).1, by have := Int.ediv_le_self (mag wd sg b) rA.1; have := rA.2; omega⟩), divide_q hT ha hb hm hna hnb]
      simp [opN_9, hO, z, rawOp]
  rw [if_neg g9]
  by_cases g10 : op.toList = [37]
  · rw [if_pos (by simp [g10])]
    obtain rfl := (ba_iff _).1 g10
    by_cases z : b = 0
    · rw [if_pos z]; simp [opN_10, hO, z]
    · have hm : ¬ mag wd sg b = 0 := mag_zero hT hb (by rw [hnb]; exact z)
      rw [if_neg z, divide_f k wd sg a b hT ha hb hm (by omega)]
      simp only [Option.bind_some]
      rw [if_pos g10, nf0 _ (by
        split
        · exact u64_of_wrap _
        · have rB := mag_range hT hb
          have := Int.emod_lt_of_pos (mag wd sg a) (show 0 < mag wd sg b by have := rB.1; omega)
          exact ⟨Int.emod_nonneg _ hm, by have := rB.2; omega⟩), divide_r hT ha hb hm hna hnb]
      simp [opN_10, hO, z, rawOp]
  rw [if_neg (by simp [g10])]
  obtain ⟨m, hm⟩ : ∃ m : Nat, (m : Int) = if b < 64 then b else 64 := ⟨(if b < 64 then b else 64).toNat, by have := hb.1; split <;> omega⟩
  have hM := M_pos hT
  have uu : ∀ x, U64 (x % M wd) := fun x => ⟨Int.emod_nonneg _ (by omega), by have := Int.emod_lt_of_pos x (show 0 < M wd by omega); omega⟩
  by_cases g7 : op.toList = [60, 60]
  · rw [if_pos g7, shift_f k wd sg a b true hT ha m hm (by omega)]
    simp only [Option.bind_some, if_true]
    rw [nf0 _ (uu _), shl_val hT ha hb m hm]
    obtain rfl := (ba_iff _).1 g7
    simp [opN_7, hO]
  rw [if_neg g7]
  by_cases g8 : op.toList = [62, 62]
  · rw [if_pos g8, shift_f k wd sg a b false hT ha m hm (by omega)]
    simp only [Option.bind_some, Bool.false_eq_true, if_false]
    rw [nf0 _ (uu _), shr_val hT ha hb hna m hm]
    obtain rfl := (ba_iff _).1 g8
    simp [opN_8, hO]
  rw [if_neg g8]
  have n7 := ba_ne (fun e => g7 ((ba_iff _).2 e))
  have n8 := ba_ne (fun e => g8 ((ba_iff _).2 e))
  have n9 := ba_ne (fun e => g9 ((ba_iff _).2 e))
  have n10 := ba_ne (fun e => g10 ((ba_iff _).2 e))
  have z : opN op = 0 := by
    unfold opN
    simp only [n1, n2, n3, n4, n5, n6, n7, n8, n9, n10, Bool.false_eq_true, if_false]
  rw [z]; rfl
end RWordDoes
end Go.Proofs.YtggelmnahggdgaaDoor
