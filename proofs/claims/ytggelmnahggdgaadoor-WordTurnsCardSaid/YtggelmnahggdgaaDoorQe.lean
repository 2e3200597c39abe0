/- The document's words of layer 1 as they are printed for WordTurns: what each comes to. Condition: 64 rounds or more. -/
import Derived.Test.YtggelmnahggdgaaDoorWv
import Derived.Test.YtggelmnahggdgaaDoorWd
import Derived.Test.YtggelmnahggdgaaDoorPWordTurnsx1
set_option linter.unusedVariables false
set_option linter.unusedSimpArgs false
namespace Go.Proofs.YtggelmnahggdgaaDoor
open Go.RowKit Go.Proofs.YtggelmnahggdgaaDoorW.PrintWords Go.Proofs.YtggelmnahggdgaaDoorW.PrintLast Go.Proofs.YtggelmnahggdgaaDoorW.PrintMore
namespace RWordTurns
theorem right (wd : Int) (sg : Bool) : PWordTurns.skuaref01_Right.f wd sg = some (okT wd sg) := by
  have h := okT_iff wd sg
  unfold PWordTurns.skuaref01_Right.f
  cases hT : okT wd sg
  · rw [hT] at h
    have h : ¬ ((wd = 1 ∧ sg = false) ∨ wd = 8 ∨ wd = 16 ∨ wd = 32 ∨ wd = 64) := fun e => by have := h.2 e; cases this
    by_cases h1 : wd = 1
    · cases sg
      · exact absurd (.inl ⟨h1, rfl⟩) h
      · rw [if_pos h1]; rfl
    · rw [if_neg h1, if_neg (fun e => h (by simp [e])), if_neg (fun e => h (by simp [e])), if_neg (fun e => h (by simp [e]))]
      congr 1
      exact beq_eq_false_iff_ne.2 (fun e => h (by simp [e]))
  · rcases h.1 hT with ⟨rfl, rfl⟩ | rfl | rfl | rfl | rfl <;> rfl
theorem bits_l0 (n : Nat) (hn : n ≤ 64) : ∀ (d : Nat) (i : Nat) (k : Nat) (v : Int) (acc : List Bool), n - i = d → i ≤ n → acc.length = i → U64 v → d < k → PWordTurns.skuaref01_Bits.l0 k v n acc i = some (acc ++ bitsL v (n - i)) := by
  intro d
  induction d with
  | zero =>
    intro i k v acc hd hi ha hv hk
    obtain ⟨k, rfl⟩ : ∃ m, k = m + 1 := ⟨k - 1, by omega⟩
    simp only [PWordTurns.skuaref01_Bits.l0]
    rw [if_neg (by omega), show n - i = 0 by omega]
    simp [bitsL]
  | succ d ih =>
    intro i k v acc hd hi ha hv hk
    obtain ⟨k, rfl⟩ : ∃ m, k = m + 1 := ⟨k - 1, by omega⟩
    simp only [PWordTurns.skuaref01_Bits.l0]
    have h1 : Int.tdiv v 2 = v / 2 := Int.tdiv_eq_ediv_of_nonneg hv.1
    have h2 : Int.tmod v 2 = v % 2 := Int.tmod_eq_emod_of_nonneg hv.1
    have hv2 : U64 (v / 2) := ⟨by have := hv.1; omega, by have := hv.1; have := hv.2; omega⟩
    have hi1 := ih (i + 1) k (v / 2) (acc ++ [v % 2 == 1]) (by omega) (by omega) (by simp [ha]) hv2 (by omega)
    rw [if_pos (by omega), if_pos (by omega), h1, h2, wraps_u64 _ hv2.1 (by have := hv2.2; omega)]
    have h3 : wrap64 ((i : Int) + 1) = ((i + 1 : Nat) : Int) := by unfold wrap64; omega
    rw [h3, hi1]
    clear h3 hi1
    rw [List.append_assoc, show n - i = (n - (i + 1)) + 1 by omega]
    rfl
theorem bits_f (k : Nat) (v : Int) (n : Nat) (hn : n ≤ 64) (hv : U64 v) (hk : 64 < k) : PWordTurns.skuaref01_Bits.f k v n = some (bitsL v n) := by
  unfold PWordTurns.skuaref01_Bits.f
  have := bits_l0 n hn n 0 k v [] (by omega) (by omega) rfl hv (by omega)
  simpa using this
theorem val_l0 (l : List Bool) (hl : l.length ≤ 64) : ∀ (i : Nat) (k : Nat), i ≤ l.length → i < k → PWordTurns.skuaref01_Value.l0 k l (valL (l.drop i)) ((i : Int) - 1) = some (valL l) := by
  intro i
  induction i with
  | zero =>
    intro k hi hk
    obtain ⟨k, rfl⟩ : ∃ m, k = m + 1 := ⟨k - 1, by omega⟩
    simp only [PWordTurns.skuaref01_Value.l0]
    rw [if_neg (by omega)]
    simp
  | succ i ih =>
    intro k hi hk
    obtain ⟨k, rfl⟩ : ∃ m, k = m + 1 := ⟨k - 1, by omega⟩
    have hlt : i < l.length := by omega
    have e0 : ((i + 1 : Nat) : Int) - 1 = i := by omega
    simp only [PWordTurns.skuaref01_Value.l0]
    rw [e0, if_pos (by omega), if_pos (by omega), if_pos (by omega)]
    have hr := valL_range (l.drop (i + 1))
    have hr2 := valL_range (l.drop i)
    have hd : l.drop i = l[i] :: l.drop (i + 1) := List.drop_eq_getElem_cons hlt
    have hp : (2 : Int) ^ (l.drop i).length ≤ 2 ^ 64 := by exact_mod_cast Nat.pow_le_pow_right (n := 2) (by decide) (by simp; omega)
    have hb : rdOf false l (i : Int) = l[i] := by simp [rdOf, List.getD, hlt]
    have hw : wrap64 ((i : Int) - 1) = (i : Int) - 1 := by unfold wrap64; omega
    rw [hb, hw]
    have hv : valL (l.drop i) = (if l[i] then 1 else 0) + 2 * valL (l.drop (i + 1)) := by rw [hd]; rfl
    have h64 : (2 : Int) ^ 64 = 18446744073709551616 := rfl
    cases hbi : l[i]
    · rw [hbi] at hv
      simp only [Bool.false_eq_true, if_false] at hv ⊢
      rw [wraps_u64 _ (by omega) (by omega), show 2 * valL (l.drop (i + 1)) = valL (l.drop i) by omega]
      exact ih k (by omega) (by omega)
    · rw [hbi] at hv
      simp only [if_true] at hv ⊢
      rw [wraps_u64 (2 * valL (l.drop (i + 1))) (by omega) (by omega), wraps_u64 _ (by omega) (by omega), show 2 * valL (l.drop (i + 1)) + 1 = valL (l.drop i) by omega]
      exact ih k (by omega) (by omega)
theorem val_f (k : Nat) (l : List Bool) (hl : l.length ≤ 64) (hk : 64 < k) : PWordTurns.skuaref01_Value.f k l = some (valL l) := by
  unfold PWordTurns.skuaref01_Value.f
  have h := val_l0 l hl l.length k (Nat.le_refl _) (by omega)
  have hw : wrap64 ((l.length : Int) - 1) = (l.length : Int) - 1 := by unfold wrap64; omega
  rw [hw]
  simpa [valL] using h
theorem norm_f (k : Nat) (wd : Int) (sg : Bool) (v : Int) (hv : U64 v) (hk : 64 < k) : PWordTurns.skuaref01_Norm.f k wd sg v = some (nrm wd sg v) := by
  unfold PWordTurns.skuaref01_Norm.f
  rw [right]
  simp only [Option.bind_some]
  cases hT : okT wd sg
  · simp [nrm, hT]
  · obtain ⟨hM, h1, h2⟩ := M_pow hT
    obtain ⟨n, rfl⟩ := Int.eq_ofNat_of_zero_le (show 0 ≤ wd by omega)
    rw [if_pos rfl, bits_f k v n (by omega) hv hk]
    simp only [Option.bind_some]
    rw [val_f k _ (by rw [bitsL_length]; omega) hk, valL_bits, nrm_eq hT hv, hM]
    rfl
theorem valL_not (l : List Bool) : valL (l.map not) = 2 ^ l.length - 1 - valL l := by
  induction l with
  | nil => rfl
  | cons b l ih => simp only [List.map_cons, valL, ih, List.length_cons, Int.pow_succ]; cases b <;> simp <;> omega
theorem turn_l0 (wd : Int) (sg : Bool) : ∀ (post : List Bool) (k : Nat) (pre : List Bool), wd = ((pre.length + post.length : Nat) : Int) → wd ≤ 64 → post.length + 65 < k → PWordTurns.skuaref01_Turn.l0 k (pre ++ post) (pre.length : Int) wd sg = some (valL (pre ++ post.map not), 0) := by
  intro post
  induction post with
  | nil =>
    intro k pre hw h64 hk
    obtain ⟨k, rfl⟩ : ∃ m, k = m + 1 := ⟨k - 1, by omega⟩
    simp only [PWordTurns.skuaref01_Turn.l0]
    simp only [List.length_nil, Nat.add_zero] at hw hk
    rw [if_neg (by omega), List.append_nil, val_f k pre (by omega) (by omega)]
    simp
  | cons b post ih =>
    intro k pre hw h64 hk
    obtain ⟨k, rfl⟩ : ∃ m, k = m + 1 := ⟨k - 1, by omega⟩
    simp only [PWordTurns.skuaref01_Turn.l0]
    simp only [List.length_cons] at hw hk
    have hb : rdOf false (pre ++ b :: post) (pre.length : Int) = b := by simp [rdOf, List.getD]
    have hs : (pre ++ b :: post).set pre.length (!b) = (pre ++ [!b]) ++ post := by
      rw [List.set_append_right _ _ (Nat.le_refl _), Nat.sub_self]; simp
    have hw1 : wrap64 ((pre.length : Int) + 1) = ((pre ++ [!b]).length : Int) := by unfold wrap64; simp; omega
    rw [if_pos (by omega), if_pos (by omega), if_pos (by simp; omega), hb, Int.toNat_natCast, hs, hw1, ih k (pre ++ [!b]) (by simp; omega) h64 (by omega)]
    simp
theorem turn_not (k : Nat) (wd : Int) (sg : Bool) (op : ByteArray) (a : Int) (hT : okT wd sg = true) (hv : U64 a) (hk : 200 < k) :
    PWordTurns.skuaref01_Turn.j0 k op a true wd sg = some (nrm wd sg (bits .xor .u64 IntKind.u64.max a), 0) := by
  obtain ⟨hM, h1, h2⟩ := M_pow hT
  obtain ⟨n, rfl⟩ := Int.eq_ofNat_of_zero_le (show 0 ≤ wd by omega)
  obtain ⟨k, rfl⟩ : ∃ m, k = m + 1 := ⟨k - 1, by omega⟩
  simp only [PWordTurns.skuaref01_Turn.j0]
  rw [if_pos trivial, bits_f k a n (by omega) hv (by omega)]
  simp only [Option.bind_some]
  have h := turn_l0 n sg (bitsL a n) k [] (by simp [bitsL_length]) h2 (by rw [bitsL_length]; omega)
  simp only [List.nil_append, List.length_nil] at h
  rw [show ((0 : Nat) : Int) = 0 from rfl] at h
  rw [h, valL_not, valL_bits, bitsL_length, not_bits a hv, nrm_eq hT ⟨by have := hv.2; omega, by have := hv.1; omega⟩, hM, Int.toNat_natCast]
  have hp : (0 : Int) < 2 ^ n := Int.pow_pos (by decide)
  have hd : (18446744073709551616 : Int) = 2 ^ (64 - n) * 2 ^ n := by rw [← Int.pow_add, show 64 - n + n = 64 by omega]; rfl
  have e : (18446744073709551615 : Int) - a = (2 ^ n - 1 - a % 2 ^ n) + (2 ^ (64 - n) - 1 - a / 2 ^ n) * 2 ^ n := by
    have := Int.emod_add_mul_ediv a (2 ^ n)
    rw [Int.sub_mul, Int.sub_mul, ← hd, Int.mul_comm (a / 2 ^ n)]
    omega
  have r0 := Int.emod_nonneg a (show (2 : Int) ^ n ≠ 0 by omega)
  have r1 := Int.emod_lt_of_pos a hp
  rw [e, Int.add_mul_emod_self_right, Int.emod_eq_of_lt (show 0 ≤ 2 ^ n - 1 - a % 2 ^ n by omega) (by omega)]
theorem turn_f (k : Nat) (wd : Int) (sg : Bool) (op : ByteArray) (a : Int) (hv : U64 a) (hk : 201 < k) :
    PWordTurns.skuaref01_Turn.f k wd sg op a = some (trnV wd sg op a, trnE wd sg op) := by
  unfold PWordTurns.skuaref01_Turn.f
  rw [right]
  simp only [Option.bind_some]
  cases hT : okT wd sg
  · simp [trnV, trnE, hT]
  · obtain ⟨hM, h1, h2⟩ := M_pow hT
    have hn := fun o => turn_not k wd sg o a hT hv (by omega)
    have h0 : U64 (IntKind.u64.wrap (-a)) := by rw [IntKind.wrap_u64]; unfold U64; omega
    obtain ⟨m, rfl⟩ : ∃ m, k = m + 1 := ⟨k - 1, by omega⟩
    have hf : PWordTurns.skuaref01_Turn.j0 (m + 1) op a false wd sg = if op.toList = [45] ∧ 1 < wd then some (nrm wd sg (IntKind.u64.wrap (-a)), 0) else some (0, 12) := by
      simp only [PWordTurns.skuaref01_Turn.j0]
      rw [if_neg (by simp), norm_f m wd sg _ h0 (by omega)]
      simp only [Option.bind_some]
      by_cases g1 : op.toList = [45] <;> by_cases g2 : wd > 1
      · rw [if_pos g1, if_pos g2, if_pos ⟨g1, g2⟩]
      · rw [if_pos g1, if_neg g2, if_neg (fun e => g2 e.2)]
      · rw [if_neg g1, if_neg (fun e => g1 e.1)]
      · rw [if_neg g1, if_neg (fun e => g1 e.1)]
    by_cases g1 : op.toList = [126]
    · by_cases g2 : 1 < wd
      · simp [trnV, trnE, hT, g1, g2, hn]
      · simp [trnV, trnE, hT, g1, g2, hf]
    · by_cases g3 : op.toList = [33]
      · by_cases g4 : wd = 1
        · have e : (wd == 1) = true := by simp [g4]
          rw [if_pos rfl, if_neg g1, if_pos g3, e, hn]
          subst g4
          simp [trnV, trnE, hT, g3]
        · have e : (wd == 1) = false := by simp [g4]
          rw [if_pos rfl, if_neg g1, if_pos g3, e, hf]
          simp [trnV, trnE, hT, g3, g4]
      · rw [if_pos rfl, if_neg g1, if_neg g3, hf]
        by_cases g5 : op.toList = [45] ∧ 1 < wd
        · rw [if_pos g5]; simp [trnV, trnE, hT, g5]
        · rw [if_neg g5]; simp only [trnV, trnE, hT, if_neg g5]; simp [g1, g3]
end RWordTurns
end Go.Proofs.YtggelmnahggdgaaDoor
