/- The document's words of layer 1 as they are printed for WordCasts: what each comes to. Condition: 64 rounds or more. -/
import Derived.Test.YtggelmnahggdgaaDoorWv
import Derived.Test.YtggelmnahggdgaaDoorWd
import Derived.Test.YtggelmnahggdgaaDoorPWordCastsx2
set_option linter.unusedVariables false
set_option linter.unusedSimpArgs false
namespace Go.Proofs.YtggelmnahggdgaaDoor
open Go.RowKit Go.Proofs.YtggelmnahggdgaaDoorW.PrintWords Go.Proofs.YtggelmnahggdgaaDoorW.PrintLast Go.Proofs.YtggelmnahggdgaaDoorW.PrintMore
namespace RWordCasts
theorem right (wd : Int) (sg : Bool) : PWordCasts.skuaref01_Right.f wd sg = some (okT wd sg) := by
  have h := okT_iff wd sg
  unfold PWordCasts.skuaref01_Right.f
  cases hT : okT wd sg
  · rw [hT] at h
    have h : ¬ ((wd = 1 ∧ sg = false) ∨ wd = 8 ∨ wd = 16 ∨ wd = 32 ∨ wd = 64) := fun e => by have := h.2 e; cases this
    by_cases h1 : wd = 1
    · cases sg
      · exact absurd (.inl ⟨h1, rfl⟩) h
      · rw [if_pos h1]; rfl
    · rw [if_neg h1, if_neg (fun e => h (by simp [e])), if_neg (fun e => h (by simp [e])), if_neg (fun e => h (by simp [e]))]
      congr 1
      exact beq_eq_false_iff_ne.2 (fun e => h (by simp [e]))
  · rcases h.1 hT with ⟨rfl, rfl⟩ | rfl | rfl | rfl | rfl <;> rfl
theorem bits_l0 (n : Nat) (hn : n ≤ 64) : ∀ (d : Nat) (i : Nat) (k : Nat) (v : Int) (acc : List Bool), n - i = d → i ≤ n → acc.length = i → U64 v → d < k → PWordCasts.skuaref01_Bits.l0 k v n acc i = some (acc ++ bitsL v (n - i)) := by
  intro d
  induction d with
  | zero =>
    intro i k v acc hd hi ha hv hk
    obtain ⟨k, rfl⟩ : ∃ m, k = m + 1 := ⟨k - 1, by omega⟩
    simp only [PWordCasts.skuaref01_Bits.l0]
    rw [if_neg (by omega), show n - i = 0 by omega]
    simp [bitsL]
  | succ d ih =>
    intro i k v acc hd hi ha hv hk
    obtain ⟨k, rfl⟩ : ∃ m, k = m + 1 := ⟨k - 1, by omega⟩
    simp only [PWordCasts.skuaref01_Bits.l0]
    have h1 : Int.tdiv v 2 = v / 2 := Int.tdiv_eq_ediv_of_nonneg hv.1
    have h2 : Int.tmod v 2 = v % 2 := Int.tmod_eq_emod_of_nonneg hv.1
    have hv2 : U64 (v / 2) := ⟨by have := hv.1; omega, by have := hv.1; have := hv.2; omega⟩
    have hi1 := ih (i + 1) k (v / 2) (acc ++ [v % 2 == 1]) (by omega) (by omega) (by simp [ha]) hv2 (by omega)
    rw [if_pos (by omega), if_pos (by omega), h1, h2, wraps_u64 _ hv2.1 (by have := hv2.2; omega)]
    have h3 : wrap64 ((i : Int) + 1) = ((i + 1 : Nat) : Int) := by unfold wrap64; omega
    rw [h3, hi1]
    clear h3 hi1
    rw [List.append_assoc, show n - i = (n - (i + 1)) + 1 by omega]
    rfl
theorem bits_f (k : Nat) (v : Int) (n : Nat) (hn : n ≤ 64) (hv : U64 v) (hk : 64 < k) : PWordCasts.skuaref01_Bits.f k v n = some (bitsL v n) := by
  unfold PWordCasts.skuaref01_Bits.f
  have := bits_l0 n hn n 0 k v [] (by omega) (by omega) rfl hv (by omega)
  simpa using this
theorem val_l0 (l : List Bool) (hl : l.length ≤ 64) : ∀ (i : Nat) (k : Nat), i ≤ l.length → i < k → PWordCasts.skuaref01_Value.l0 k l (valL (l.drop i)) ((i : Int) - 1) = some (valL l) := by
  intro i
  induction i with
  | zero =>
    intro k hi hk
    obtain ⟨k, rfl⟩ : ∃ m, k = m + 1 := ⟨k - 1, by omega⟩
    simp only [PWordCasts.skuaref01_Value.l0]
    rw [if_neg (by omega)]
    simp
  | succ i ih =>
    intro k hi hk
    obtain ⟨k, rfl⟩ : ∃ m, k = m + 1 := ⟨k - 1, by omega⟩
    have hlt : i < l.length := by omega
    have e0 : ((i + 1 : Nat) : Int) - 1 = i := by omega
    simp only [PWordCasts.skuaref01_Value.l0]
    rw [e0, if_pos (by omega), if_pos (by omega), if_pos (by omega)]
    have hr := valL_range (l.drop (i + 1))
    have hr2 := valL_range (l.drop i)
    have hd : l.drop i = l[i] :: l.drop (i + 1) := List.drop_eq_getElem_cons hlt
    have hp : (2 : Int) ^ (l.drop i).length ≤ 2 ^ 64 := by exact_mod_cast Nat.pow_le_pow_right (n := 2) (by decide) (by simp; omega)
    have hb : rdOf false l (i : Int) = l[i] := by simp [rdOf, List.getD, hlt]
    have hw : wrap64 ((i : Int) - 1) = (i : Int) - 1 := by unfold wrap64; omega
    rw [hb, hw]
    have hv : valL (l.drop i) = (if l[i] then 1 else 0) + 2 * valL (l.drop (i + 1)) := by rw [hd]; rfl
    have h64 : (2 : Int) ^ 64 = 18446744073709551616 := rfl
    cases hbi : l[i]
    · rw [hbi] at hv
      simp only [Bool.false_eq_true, if_false] at hv ⊢
      rw [wraps_u64 _ (by omega) (by omega), show 2 * valL (l.drop (i + 1)) = valL (l.drop i) by omega]
      exact ih k (by omega) (by omega)
    · rw [hbi] at hv
      simp only [if_true] at hv ⊢
      rw [wraps_u64 (2 * valL (l.drop (i + 1))) (by omega) (by omega), wraps_u64 _ (by omega) (by omega), show 2 * valL (l.drop (i + 1)) + 1 = valL (l.drop i) by omega]
      exact ih k (by omega) (by omega)
theorem val_f (k : Nat) (l : List Bool) (hl : l.length ≤ 64) (hk : 64 < k) : PWordCasts.skuaref01_Value.f k l = some (valL l) := by
  unfold PWordCasts.skuaref01_Value.f
  have h := val_l0 l hl l.length k (Nat.le_refl _) (by omega)
  have hw : wrap64 ((l.length : Int) - 1) = (l.length : Int) - 1 := by unfold wrap64; omega
  rw [hw]
  simpa [valL] using h
theorem norm_f (k : Nat) (wd : Int) (sg : Bool) (v : Int) (hv : U64 v) (hk : 64 < k) : PWordCasts.skuaref01_Norm.f k wd sg v = some (nrm wd sg v) := by
  unfold PWordCasts.skuaref01_Norm.f
  rw [right]
  simp only [Option.bind_some]
  cases hT : okT wd sg
  · simp [nrm, hT]
  · obtain ⟨hM, h1, h2⟩ := M_pow hT
    obtain ⟨n, rfl⟩ := Int.eq_ofNat_of_zero_le (show 0 ≤ wd by omega)
    rw [if_pos rfl, bits_f k v n (by omega) hv hk]
    simp only [Option.bind_some]
    rw [val_f k _ (by rw [bitsL_length]; omega) hk, valL_bits, nrm_eq hT hv, hM]
    rfl
theorem wide_l0 (b : Bool) : ∀ (d : Nat) (k : Nat) (l : List Bool), 64 - l.length = d → l.length ≤ 64 → d < k → PWordCasts.skuaref01_wide.l0 k l b = some (l ++ List.replicate (64 - l.length) b) := by
  intro d
  induction d with
  | zero =>
    intro k l hd hl hk
    obtain ⟨k, rfl⟩ : ∃ m, k = m + 1 := ⟨k - 1, by omega⟩
    simp only [PWordCasts.skuaref01_wide.l0]
    rw [if_neg (by omega), show 64 - l.length = 0 by omega]
    simp
  | succ d ih =>
    intro k l hd hl hk
    obtain ⟨k, rfl⟩ : ∃ m, k = m + 1 := ⟨k - 1, by omega⟩
    simp only [PWordCasts.skuaref01_wide.l0]
    rw [if_pos (by omega), if_pos (by omega), ih k (l ++ [b]) (by simp; omega) (by simp; omega) (by omega)]
    rw [List.append_assoc, List.length_append, show 64 - l.length = (64 - (l.length + [b].length)) + 1 by simp; omega, List.replicate_succ]
    rfl
/-- The sign's bit. -/
def sgL (wd : Int) (sg : Bool) (v : Int) : Bool := sg && decide (M wd / 2 ≤ nrm wd sg v)
theorem bit_sign {n : Nat} {sg : Bool} {v : Int} (hT : okT n sg = true) (hv : U64 v) : (bitsL v n).getD (n - 1) false = decide (M n / 2 ≤ nrm n sg v) := by
  obtain ⟨hM, h1, h2⟩ := M_pow hT
  have hn : 1 ≤ n := by omega
  rw [bitsL_get n v (n - 1) (by omega)]
  have hr := nrm_range hT hv
  have he := nrm_eq hT hv
  have hM2 : M n = 2 * 2 ^ (n - 1) := by
    rw [hM, Int.toNat_natCast, show n = (n - 1) + 1 by omega, Int.pow_succ]; simp; omega
  have hp : (0 : Int) < 2 ^ (n - 1) := Int.pow_pos (by decide)
  have hx : v / 2 ^ (n - 1) % 2 = nrm n sg v / 2 ^ (n - 1) := by
    rw [he, hM2]
    generalize (2 : Int) ^ (n - 1) = q at hp
    rw [Int.emod_def v (2 * q), Int.emod_def (v / q) 2, Int.ediv_ediv_of_nonneg (by omega), Int.mul_comm q 2]
    rw [show v - 2 * q * (v / (2 * q)) = v + (-(2 * (v / (2 * q)))) * q by rw [Int.neg_mul, Int.mul_assoc, Int.mul_comm q, ← Int.mul_assoc]; rfl, Int.add_mul_ediv_right _ _ (by omega)]
    omega
  rw [hx, Bool.eq_iff_iff]
  simp only [beq_iff_eq, decide_eq_true_eq]
  rw [hM2, show (2 * 2 ^ (n - 1) : Int) / 2 = 2 ^ (n - 1) by omega]
  rw [hM2] at hr
  generalize (2 : Int) ^ (n - 1) = q at *
  generalize nrm n sg v = x at *
  constructor
  · intro h
    have := Int.ediv_mul_le x (show q ≠ 0 by omega)
    rw [h] at this; omega
  · intro h
    have h1 : x / q < 2 := Int.ediv_lt_of_lt_mul hp (by omega)
    have h2 : 1 ≤ x / q := Int.le_ediv_of_mul_le hp (by omega)
    omega
theorem wide_f (k : Nat) (wd : Int) (sg : Bool) (v : Int) (hT : okT wd sg = true) (hv : U64 v) (hk : 65 < k) : PWordCasts.skuaref01_wide.f k wd sg v = some (bitsL v wd.toNat ++ List.replicate (64 - wd.toNat) (sgL wd sg v)) := by
  obtain ⟨hM, h1, h2⟩ := M_pow hT
  obtain ⟨n, rfl⟩ := Int.eq_ofNat_of_zero_le (show 0 ≤ wd by omega)
  unfold PWordCasts.skuaref01_wide.f
  have hlen := bitsL_length n v
  have hw : wrap64 ((n : Int) - 1) = ((n - 1 : Nat) : Int) := by unfold wrap64; omega
  obtain ⟨k, rfl⟩ : ∃ m, k = m + 1 := ⟨k - 1, by omega⟩
  rw [bits_f _ v n (by omega) hv (by omega)]
  simp only [Option.bind_some, Int.toNat_natCast, hw, PWordCasts.skuaref01_wide.j0]
  cases sg
  · simp only [Bool.false_eq_true, if_false]
    rw [wide_l0 _ (64 - n) k _ (by rw [hlen]) (by omega) (by omega), hlen]
    rfl
  · simp only [if_true]
    rw [if_pos (by omega), if_pos (by omega), wide_l0 _ (64 - n) k _ (by rw [hlen]) (by omega) (by omega), hlen]
    have : rdOf false (bitsL v n) ((n - 1 : Nat) : Int) = sgL n true v := by
      unfold rdOf sgL
      rw [Int.toNat_natCast, bit_sign hT hv]; rfl
    rw [this]
theorem wide_val (wd : Int) (sg : Bool) (v : Int) (hT : okT wd sg = true) (hv : U64 v) : valL (bitsL v wd.toNat ++ List.replicate (64 - wd.toNat) (sgL wd sg v)) = nrm wd sg v + (if sgL wd sg v then 18446744073709551616 - M wd else 0) := by
  obtain ⟨hM, h1, h2⟩ := M_pow hT
  rw [valL_append, valL_bits, valL_replicate, bitsL_length, nrm_eq hT hv, ← hM]
  split
  · have : M wd * 2 ^ (64 - wd.toNat) = 18446744073709551616 := by
      rw [hM, ← Int.pow_add, show wd.toNat + (64 - wd.toNat) = 64 by omega]; rfl
    rw [Int.mul_sub, this]; omega
  · omega
/-- As a number with a sign it is the value's own. -/
theorem wide_sint (wd : Int) (sg : Bool) (v : Int) (hT : okT wd sg = true) (hv : U64 v) : wrap64 (nrm wd sg v + (if sgL wd sg v then 18446744073709551616 - M wd else 0)) = sint wd sg v := by
  have hM := M_pos hT
  have hr := nrm_range hT hv
  cases sg
  · simp [sgL, sint_u]
  · rw [sint_s hT hv]
    unfold sgL wrap64
    have hd : M wd % 2 = 0 := by rcases (okT_iff wd true).1 hT with ⟨_, h⟩ | rfl | rfl | rfl | rfl <;> first | cases h | decide
    simp only [Bool.true_and, decide_eq_true_eq]
    split <;> omega
theorem valL_take (l : List Bool) (n : Nat) (h : n ≤ l.length) : valL (l.take n) = valL l % 2 ^ n := by
  have e := valL_append (l.take n) (l.drop n)
  rw [List.take_append_drop, List.length_take, Nat.min_eq_left h] at e
  have r := valL_range (l.take n)
  rw [List.length_take, Nat.min_eq_left h] at r
  rw [e, Int.mul_comm, Int.add_mul_emod_self_right, Int.emod_eq_of_lt r.1 r.2]
theorem cast_f (k : Nat) (wd : Int) (sg : Bool) (xd : Int) (xg : Bool) (v : Int) (hv : U64 v) (hk : 100 < k) :
    PWordCasts.skuaref01_Cast.f k wd sg xd xg v = some (cst wd sg xd xg v) := by
  unfold PWordCasts.skuaref01_Cast.f
  rw [right, right]
  simp only [Option.bind_some]
  obtain ⟨k, rfl⟩ : ∃ m, k = m + 1 := ⟨k - 1, by omega⟩
  have j0t : PWordCasts.skuaref01_Cast.j0 (k + 1) v true wd sg xd xg = some 0 := by simp only [PWordCasts.skuaref01_Cast.j0]; rfl
  cases hT : okT wd sg
  · rw [if_neg (by simp), j0t]; simp [cst, hT]
  rw [if_pos rfl]
  cases hX : okT xd xg
  · rw [show (!false) = true from rfl, j0t]; simp [cst, hX]
  rw [show (!true) = false from rfl]
  simp only [PWordCasts.skuaref01_Cast.j0]
  rw [if_neg (by simp), norm_f k wd sg v hv (by omega), wide_f k wd sg v hT hv (by omega)]
  simp only [Option.bind_some]
  have hr := nrm_range hT hv
  by_cases g : xd = 1
  · rw [if_pos g]
    subst g
    unfold cst
    rw [hT, hX]
    simp only [Bool.not_true, Bool.or_self, Bool.false_eq_true, if_false, beq_self_eq_true, if_true]
    by_cases z : nrm wd sg v = 0
    · rw [if_pos z, if_pos (by omega), z]
    · rw [if_neg z, if_neg (by omega)]
  · rw [if_neg g]
    obtain ⟨hM, h1, h2⟩ := M_pow hT
    obtain ⟨hN, h3, h4⟩ := M_pow hX
    have hl : (bitsL v wd.toNat ++ List.replicate (64 - wd.toNat) (sgL wd sg v)).length = 64 := by simp [bitsL_length]; omega
    rw [if_pos (by omega), if_pos (by rw [hl]; omega), val_f k _ (by rw [List.length_take, hl]; omega) (by omega), valL_take _ _ (by rw [hl]; omega)]
    simp only [Option.bind_some]
    have hw := wide_val wd sg v hT hv
    have hs := wide_sint wd sg v hT hv
    have hrange := valL_range (bitsL v wd.toNat ++ List.replicate (64 - wd.toNat) (sgL wd sg v))
    rw [hl, hw] at hrange
    rw [hw]
    rw [← hN]
    generalize nrm wd sg v + (if sgL wd sg v then 18446744073709551616 - M wd else 0) = x at *
    have hc : cst wd sg xd xg v = nrm xd xg (IntKind.u64.wrap (sint wd sg v)) := by unfold cst; rw [hT, hX]; simp only [Bool.not_true, Bool.or_self, Bool.false_eq_true, if_false]; rw [if_neg (by simp [g])]
    rw [hc, ← hs]
    have h64 : (2 : Int) ^ 64 = 18446744073709551616 := rfl
    have hx : IntKind.u64.wrap (wrap64 x) = x := by rw [IntKind.wrap_u64]; unfold wrap64; omega
    rw [hx, nrm_eq hX ⟨hrange.1, by omega⟩]
theorem M_dvd2 {wd xd : Int} {sg xg : Bool} (hT : okT wd sg = true) (hX : okT xd xg = true) (h : wd ≤ xd) : M wd ∣ M xd := by
  rcases (okT_iff wd sg).1 hT with ⟨rfl, _⟩ | rfl | rfl | rfl | rfl <;> rcases (okT_iff xd xg).1 hX with ⟨rfl, _⟩ | rfl | rfl | rfl | rfl <;> first | decide | omega
theorem cst_back {wd xd : Int} {sg xg : Bool} {v : Int} (hv : U64 v) (hT : okT wd sg = true) (hX : okT xd xg = true) (h : wd ≤ xd) (h1 : 1 < wd) : cst xd xg wd sg (cst wd sg xd xg v) = nrm wd sg v := by
  have u := u64_of_wrap (sint wd sg v)
  have hc : cst wd sg xd xg v = nrm xd xg (IntKind.u64.wrap (sint wd sg v)) := by unfold cst; rw [hT, hX]; simp only [Bool.not_true, Bool.or_self, Bool.false_eq_true, if_false]; rw [if_neg (by simp; omega)]
  rw [hc]
  generalize hcc : nrm xd xg (IntKind.u64.wrap (sint wd sg v)) = c
  have uc : U64 c := by rw [← hcc]; exact nrm_u64 u
  have hd : cst xd xg wd sg c = nrm wd sg (IntKind.u64.wrap (sint xd xg c)) := by unfold cst; rw [hT, hX]; simp only [Bool.not_true, Bool.or_self, Bool.false_eq_true, if_false]; rw [if_neg (by simp; omega)]
  rw [hd]
  refine nrm_cg hT (u64_of_wrap _) hv ?_
  have down : ∀ {a b : Int}, Cg (M xd) a b → Cg (M wd) a b := by
    intro a b e
    unfold Cg at e ⊢
    rw [← Int.emod_emod_of_dvd a (M_dvd2 hT hX h), e, Int.emod_emod_of_dvd b (M_dvd2 hT hX h)]
  refine (cg_u64 hT _).trans ((down (cg_sint hX uc)).trans ?_)
  rw [← hcc]
  exact (down ((cg_nrm hX u).trans (cg_u64 hX _))).trans (cg_sint hT hv)
theorem cst_u64 {wd xd : Int} {sg xg : Bool} {v : Int} (hv : U64 v) : U64 (cst wd sg xd xg v) := by
  unfold cst
  split
  · exact ⟨by decide, by decide⟩
  · split
    · split
      · exact nrm_u64 hv
      · exact ⟨by decide, by decide⟩
    · exact nrm_u64 (u64_of_wrap _)
end RWordCasts
end Go.Proofs.YtggelmnahggdgaaDoor
