/- The document's words of layer 1 as they are printed for WordTests: what each comes to. Condition: 64 rounds or more. -/
import Derived.Test.YtggelmnahggdgaaDoorWv
import Derived.Test.YtggelmnahggdgaaDoorWj
import Derived.Test.YtggelmnahggdgaaDoorPWordTestsx2
set_option linter.unusedVariables false
set_option linter.unusedSimpArgs false
namespace Go.Proofs.YtggelmnahggdgaaDoor
open Go.RowKit Go.Proofs.YtggelmnahggdgaaDoorW.PrintWords Go.Proofs.YtggelmnahggdgaaDoorW.PrintLast Go.Proofs.YtggelmnahggdgaaDoorW.PrintMore
namespace RWordTests
theorem right (wd : Int) (sg : Bool) : PWordTests.skuaref01_Right.f wd sg = some (okT wd sg) := by
  have h := okT_iff wd sg
  unfold PWordTests.skuaref01_Right.f
  cases hT : okT wd sg
  · rw [hT] at h
    have h : ¬ ((wd = 1 ∧ sg = false) ∨ wd = 8 ∨ wd = 16 ∨ wd = 32 ∨ wd = 64) := fun e => by have := h.2 e; cases this
    by_cases h1 : wd = 1
    · cases sg
      · exact absurd (.inl ⟨h1, rfl⟩) h
      · rw [if_pos h1]; rfl
    · rw [if_neg h1, if_neg (fun e => h (by simp [e])), if_neg (fun e => h (by simp [e])), if_neg (fun e => h (by simp [e]))]
      congr 1
      exact beq_eq_false_iff_ne.2 (fun e => h (by simp [e]))
  · rcases h.1 hT with ⟨rfl, rfl⟩ | rfl | rfl | rfl | rfl <;> rfl
theorem bits_l0 (n : Nat) (hn : n ≤ 64) : ∀ (d : Nat) (i : Nat) (k : Nat) (v : Int) (acc : List Bool), n - i = d → i ≤ n → acc.length = i → U64 v → d < k → PWordTests.skuaref01_Bits.l0 k v n acc i = some (acc ++ bitsL v (n - i)) := by
  intro d
  induction d with
  | zero =>
    intro i k v acc hd hi ha hv hk
    obtain ⟨k, rfl⟩ : ∃ m, k = m + 1 := ⟨k - 1, by omega⟩
    simp only [PWordTests.skuaref01_Bits.l0]
    rw [if_neg (by omega), show n - i = 0 by omega]
    simp [bitsL]
  | succ d ih =>
    intro i k v acc hd hi ha hv hk
    obtain ⟨k, rfl⟩ : ∃ m, k = m + 1 := ⟨k - 1, by omega⟩
    simp only [PWordTests.skuaref01_Bits.l0]
    have h1 : Int.tdiv v 2 = v / 2 := Int.tdiv_eq_ediv_of_nonneg hv.1
    have h2 : Int.tmod v 2 = v % 2 := Int.tmod_eq_emod_of_nonneg hv.1
    have hv2 : U64 (v / 2) := ⟨by have := hv.1; omega, by have := hv.1; have := hv.2; omega⟩
    have hi1 := ih (i + 1) k (v / 2) (acc ++ [v % 2 == 1]) (by omega) (by omega) (by simp [ha]) hv2 (by omega)
    rw [if_pos (by omega), if_pos (by omega), h1, h2, wraps_u64 _ hv2.1 (by have := hv2.2; omega)]
    have h3 : wrap64 ((i : Int) + 1) = ((i + 1 : Nat) : Int) := by unfold wrap64; omega
    rw [h3, hi1]
    clear h3 hi1
    rw [List.append_assoc, show n - i = (n - (i + 1)) + 1 by omega]
    rfl
theorem bits_f (k : Nat) (v : Int) (n : Nat) (hn : n ≤ 64) (hv : U64 v) (hk : 64 < k) : PWordTests.skuaref01_Bits.f k v n = some (bitsL v n) := by
  unfold PWordTests.skuaref01_Bits.f
  have := bits_l0 n hn n 0 k v [] (by omega) (by omega) rfl hv (by omega)
  simpa using this
theorem val_l0 (l : List Bool) (hl : l.length ≤ 64) : ∀ (i : Nat) (k : Nat), i ≤ l.length → i < k → PWordTests.skuaref01_Value.l0 k l (valL (l.drop i)) ((i : Int) - 1) = some (valL l) := by
  intro i
  induction i with
  | zero =>
    intro k hi hk
    obtain ⟨k, rfl⟩ : ∃ m, k = m + 1 := ⟨k - 1, by omega⟩
    simp only [PWordTests.skuaref01_Value.l0]
    rw [if_neg (by omega)]
    simp
  | succ i ih =>
    intro k hi hk
    obtain ⟨k, rfl⟩ : ∃ m, k = m + 1 := ⟨k - 1, by omega⟩
    have hlt : i < l.length := by omega
    have e0 : ((i + 1 : Nat) : Int) - 1 = i := by omega
    simp only [PWordTests.skuaref01_Value.l0]
    rw [e0, if_pos (by omega), if_pos (by omega), if_pos (by omega)]
    have hr := valL_range (l.drop (i + 1))
    have hr2 := valL_range (l.drop i)
    have hd : l.drop i = l[i] :: l.drop (i + 1) := List.drop_eq_getElem_cons hlt
    have hp : (2 : Int) ^ (l.drop i).length ≤ 2 ^ 64 := by exact_mod_cast Nat.pow_le_pow_right (n := 2) (by decide) (by simp; omega)
    have hb : rdOf false l (i : Int) = l[i] := by simp [rdOf, List.getD, hlt]
    have hw : wrap64 ((i : Int) - 1) = (i : Int) - 1 := by unfold wrap64; omega
    rw [hb, hw]
    have hv : valL (l.drop i) = (if l[i] then 1 else 0) + 2 * valL (l.drop (i + 1)) := by rw [hd]; rfl
    have h64 : (2 : Int) ^ 64 = 18446744073709551616 := rfl
    cases hbi : l[i]
    · rw [hbi] at hv
      simp only [Bool.false_eq_true, if_false] at hv ⊢
      rw [wraps_u64 _ (by omega) (by omega), show 2 * valL (l.drop (i + 1)) = valL (l.drop i) by omega]
      exact ih k (by omega) (by omega)
    · rw [hbi] at hv
      simp only [if_true] at hv ⊢
      rw [wraps_u64 (2 * valL (l.drop (i + 1))) (by omega) (by omega), wraps_u64 _ (by omega) (by omega), show 2 * valL (l.drop (i + 1)) + 1 = valL (l.drop i) by omega]
      exact ih k (by omega) (by omega)
theorem val_f (k : Nat) (l : List Bool) (hl : l.length ≤ 64) (hk : 64 < k) : PWordTests.skuaref01_Value.f k l = some (valL l) := by
  unfold PWordTests.skuaref01_Value.f
  have h := val_l0 l hl l.length k (Nat.le_refl _) (by omega)
  have hw : wrap64 ((l.length : Int) - 1) = (l.length : Int) - 1 := by unfold wrap64; omega
  rw [hw]
  simpa [valL] using h
theorem norm_f (k : Nat) (wd : Int) (sg : Bool) (v : Int) (hv : U64 v) (hk : 64 < k) : PWordTests.skuaref01_Norm.f k wd sg v = some (nrm wd sg v) := by
  unfold PWordTests.skuaref01_Norm.f
  rw [right]
  simp only [Option.bind_some]
  cases hT : okT wd sg
  · simp [nrm, hT]
  · obtain ⟨hM, h1, h2⟩ := M_pow hT
    obtain ⟨n, rfl⟩ := Int.eq_ofNat_of_zero_le (show 0 ≤ wd by omega)
    rw [if_pos rfl, bits_f k v n (by omega) hv hk]
    simp only [Option.bind_some]
    rw [val_f k _ (by rw [bitsL_length]; omega) hk, valL_bits, nrm_eq hT hv, hM]
    rfl
theorem low_step (a : Int) (i : Nat) : a % 2 ^ (i + 1) = a % 2 ^ i + 2 ^ i * (a / 2 ^ i % 2) := by
  have hp : (0 : Int) < 2 ^ i := Int.pow_pos (by decide)
  rw [Int.pow_succ, Int.emod_def a (2 ^ i * 2), Int.emod_def a (2 ^ i), Int.emod_def (a / 2 ^ i) 2, Int.ediv_ediv_of_nonneg (by omega), Int.mul_sub, Int.mul_assoc]
  omega
theorem low_range (a : Int) (i : Nat) : 0 ≤ a % 2 ^ i ∧ a % 2 ^ i < 2 ^ i := by
  have hp : (0 : Int) < 2 ^ i := Int.pow_pos (by decide)
  exact ⟨Int.emod_nonneg _ (by omega), Int.emod_lt_of_pos _ hp⟩
theorem bit_cases (a : Int) (i : Nat) : (a / 2 ^ i % 2 == 1) = true ∧ a % 2 ^ (i + 1) = a % 2 ^ i + 2 ^ i ∨ (a / 2 ^ i % 2 == 1) = false ∧ a % 2 ^ (i + 1) = a % 2 ^ i := by
  rw [low_step]
  have : a / 2 ^ i % 2 = 0 ∨ a / 2 ^ i % 2 = 1 := by omega
  rcases this with h | h <;> rw [h] <;> simp
/-- Below, by the lowest i bits; the last of them is the sign. -/
def lowB (n : Nat) (sg : Bool) (a b : Int) (i : Nat) : Bool := if i = n then decide (plc n sg a < plc n sg b) else decide (a % 2 ^ i < b % 2 ^ i)
theorem plc_eq {n : Nat} {sg : Bool} {a : Int} (hT : okT n sg = true) (hv : U64 a) : plc n sg a = if sg && (a / 2 ^ (n - 1) % 2 == 1) then a % 2 ^ n - 2 ^ n else a % 2 ^ n := by
  obtain ⟨hM, h1, h2⟩ := M_pow hT
  have he := nrm_eq hT hv
  unfold plc
  cases sg
  · simp only [Bool.false_and, Bool.false_eq_true, if_false]
    rw [he, hM]; rfl
  · simp only [Bool.true_and, if_true]
    rw [sint_s hT (nrm_u64 hv), nrm_nrm hT hv, he, hM, Int.toNat_natCast]
    obtain ⟨m, rfl⟩ : ∃ m, n = m + 1 := ⟨n - 1, by omega⟩
    rw [Nat.add_sub_cancel]
    have hp : (0 : Int) < 2 ^ m := Int.pow_pos (by decide)
    have r := low_range a m
    have h3 : (2 : Int) ^ (m + 1) = 2 * 2 ^ m := by rw [Int.pow_succ, Int.mul_comm]
    rcases bit_cases a m with ⟨g, e⟩ | ⟨g, e⟩ <;> rw [g, e, h3]
    · rw [if_pos (by omega), if_pos rfl]
    · rw [if_neg (by omega), if_neg (by simp)]
theorem lowB_step {n : Nat} {sg : Bool} {a b : Int} (hT : okT n sg = true) (ha : U64 a) (hb : U64 b) (i : Nat) (hi : i < n) :
    lowB n sg a b (i + 1) = if ((a / 2 ^ i % 2 == 1) != (b / 2 ^ i % 2 == 1)) = true then ((b / 2 ^ i % 2 == 1) != (sg && decide (i + 1 = n))) else lowB n sg a b i := by
  have ra := low_range a i
  have rb := low_range b i
  have hp : (0 : Int) < 2 ^ i := Int.pow_pos (by decide)
  have hl : lowB n sg a b i = decide (a % 2 ^ i < b % 2 ^ i) := by unfold lowB; rw [if_neg (by omega)]
  rw [hl]
  unfold lowB
  by_cases hn : i + 1 = n
  · subst hn
    have h3 : (2 : Int) ^ (i + 1) = 2 * 2 ^ i := by rw [Int.pow_succ, Int.mul_comm]
    rw [if_pos rfl, plc_eq hT ha, plc_eq hT hb, Nat.add_sub_cancel]
    rcases bit_cases a i with ⟨g, e⟩ | ⟨g, e⟩ <;> rcases bit_cases b i with ⟨f, d⟩ | ⟨f, d⟩ <;> rw [g, e, f, d, h3] <;> cases sg <;> simp <;> omega
  · rw [if_neg hn]
    rcases bit_cases a i with ⟨g, e⟩ | ⟨g, e⟩ <;> rcases bit_cases b i with ⟨f, d⟩ | ⟨f, d⟩ <;> rw [g, e, f, d] <;> simp [hn] <;> omega
/-- The answer of an order's test. -/
def fin (op : ByteArray) (same less : Bool) : Bool := if op.toList = [60] then less else if op.toList = [60, 61] then (if less then true else same) else if op.toList = [62] then (if less then false else !same) else !less
theorem test_l0 (n : Nat) (sg : Bool) (op : ByteArray) (same : Bool) (a b : Int) (hT : okT n sg = true) (ha : U64 a) (hb : U64 b) : ∀ (d i k : Nat), n - i = d → i ≤ n → d < k →
    PWordTests.skuaref01_Test.l0 k op same (lowB n sg a b i) (bitsL a n) (bitsL b n) (i : Int) n sg = some (fin op same (lowB n sg a b n), 0) := by
  obtain ⟨hM, h1, h2⟩ := M_pow hT
  intro d
  induction d with
  | zero =>
    intro i k hd hi hk
    obtain ⟨k, rfl⟩ : ∃ m, k = m + 1 := ⟨k - 1, by omega⟩
    obtain rfl : i = n := by omega
    simp only [PWordTests.skuaref01_Test.l0]
    rw [if_neg (by omega)]
    unfold fin
    generalize lowB i sg a b i = less
    repeat' split
    all_goals first | rfl | simp_all
  | succ d ih =>
    intro i k hd hi hk
    obtain ⟨k, rfl⟩ : ∃ m, k = m + 1 := ⟨k - 1, by omega⟩
    have ih := ih (i + 1) k (by omega) (by omega) (by omega)
    have e1 : rdOf false (bitsL a n) (i : Int) = (a / 2 ^ i % 2 == 1) := by unfold rdOf; rw [Int.toNat_natCast, bitsL_get n a i (by omega)]
    have e2 : rdOf false (bitsL b n) (i : Int) = (b / 2 ^ i % 2 == 1) := by unfold rdOf; rw [Int.toNat_natCast, bitsL_get n b i (by omega)]
    have e3 : wrap64 ((i : Int) + 1) = ((i + 1 : Nat) : Int) := by unfold wrap64; omega
    have e4 : wrap64 ((n : Int) - 1) = ((n - 1 : Nat) : Int) := by unfold wrap64; omega
    have e5 : ((i : Int) == ((n - 1 : Nat) : Int)) = decide (i + 1 = n) := by rw [Bool.eq_iff_iff]; simp; omega
    have hs := lowB_step hT ha hb i (by omega)
    simp only [PWordTests.skuaref01_Test.l0]
    rw [if_pos (by omega), if_pos (by omega), if_pos (by rw [bitsL_length]; omega), if_pos (by rw [bitsL_length]; omega), e1, e2, e3, e4, e5]
    rw [hs] at ih
    split at ih
    · rename_i hc
      rw [if_pos hc]
      cases sg
      · simpa using ih
      · simpa using ih
    · rename_i hc
      rw [if_neg hc]
      exact ih
theorem test_f (k : Nat) (wd : Int) (sg : Bool) (op : ByteArray) (a b : Int) (ha : U64 a) (hb : U64 b) (hk : 100 < k) :
    PWordTests.skuaref01_Test.f k wd sg op a b = some (tstV wd sg op a b, tstE wd sg op) := by
  unfold PWordTests.skuaref01_Test.f
  rw [right]
  simp only [Option.bind_some]
  cases hT : okT wd sg
  · simp [tstV, tstE, hT]
  · obtain ⟨hM, h1, h2⟩ := M_pow hT
    rw [if_pos rfl, norm_f k wd sg a ha (by omega), norm_f k wd sg b hb (by omega)]
    simp only [Option.bind_some]
    obtain ⟨k, rfl⟩ : ∃ m, k = m + 1 := ⟨k - 1, by omega⟩
    have hj0t : PWordTests.skuaref01_Test.j0 (k + 1) op a b (nrm wd sg a == nrm wd sg b) true wd sg = some ((nrm wd sg a == nrm wd sg b) == (op.toList == [61, 61]), 0) := by
      simp only [PWordTests.skuaref01_Test.j0]; rfl
    by_cases g1 : op.toList = [61, 61]
    · rw [if_pos g1, hj0t]; simp [tstV, tstE, hT, g1]
    · rw [if_neg g1]
      by_cases g2 : op.toList = [33, 61]
      · rw [show (op.toList == [33, 61]) = true by simp [g2], hj0t]; simp [tstV, tstE, hT, g2, bne]
      · rw [show (op.toList == [33, 61]) = false by simp [g2]]
        obtain ⟨k, rfl⟩ : ∃ m, k = m + 1 := ⟨k - 1, by omega⟩
        have hj1t : PWordTests.skuaref01_Test.j1 (k + 1) op a b (nrm wd sg a == nrm wd sg b) true wd sg = some (false, 12) := by
          simp only [PWordTests.skuaref01_Test.j1]; rfl
        have hj1f : PWordTests.skuaref01_Test.j1 (k + 1) op a b (nrm wd sg a == nrm wd sg b) false wd sg = some (fin op (nrm wd sg a == nrm wd sg b) (decide (plc wd sg a < plc wd sg b)), 0) := by
          obtain ⟨n, rfl⟩ := Int.eq_ofNat_of_zero_le (show 0 ≤ wd by omega)
          simp only [PWordTests.skuaref01_Test.j1]
          rw [if_neg (by simp), bits_f k a n (by omega) ha (by omega), bits_f k b n (by omega) hb (by omega)]
          simp only [Option.bind_some]
          have h := test_l0 n sg op (nrm n sg a == nrm n sg b) a b hT ha hb n 0 k (by omega) (by omega) (by omega)
          have z : lowB n sg a b 0 = false := by unfold lowB; rw [if_neg (by omega)]; simp
          have z2 : lowB n sg a b n = decide (plc n sg a < plc n sg b) := by unfold lowB; rw [if_pos rfl]
          rw [z, z2] at h
          exact h
        have L1 := lessB_plc hT ha hb
        have L2 := lessB_plc hT hb ha
        have I : (nrm wd sg a == nrm wd sg b) = decide (plc wd sg a = plc wd sg b) := by rw [Bool.eq_iff_iff]; simp [plc_inj hT ha hb]
        simp only [PWordTests.skuaref01_Test.j0]
        rw [if_neg (by simp)]
        by_cases g3 : wd = 1
        · rw [if_pos g3, hj1t]; subst g3; simp [tstV, tstE, hT, g1, g2]
        · have g4 : 1 < wd := by omega
          rw [if_neg g3]
          by_cases f1 : op.toList = [60]
          · rw [if_pos f1, hj1f]; simp [tstV, tstE, hT, g4, f1, fin, L1]
          rw [if_neg f1]
          by_cases f2 : op.toList = [60, 61]
          · rw [if_pos f2, hj1f]; simp [tstV, tstE, hT, g4, f2, fin, L2, I]
            rw [Bool.eq_iff_iff]; simp; omega
          rw [if_neg f2]
          by_cases f3 : op.toList = [62]
          · rw [if_pos f3, hj1f]; simp [tstV, tstE, hT, g4, f3, fin, L2, I]
            rw [Bool.eq_iff_iff]; simp; omega
          rw [if_neg f3]
          by_cases f4 : op.toList = [62, 61]
          · rw [show (op.toList != [62, 61]) = false by simp [f4], hj1f]; simp [tstV, tstE, hT, g4, f4, fin, L1]
          · rw [show (op.toList != [62, 61]) = true by simp [f4], hj1t]; simp [tstV, tstE, hT, g4, g1, g2, f1, f2, f3, f4]
end RWordTests
end Go.Proofs.YtggelmnahggdgaaDoor
