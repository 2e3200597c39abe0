/- The document's words of layer 1 as they are printed for WordDoes: what each comes to. Condition: 64 rounds or more. -/
import Derived.Test.YtggelmnahggdgaaDoorWv
import Derived.Test.YtggelmnahggdgaaDoorPWordDoesx6
set_option linter.unusedVariables false
set_option linter.unusedSimpArgs false
namespace Go.Proofs.YtggelmnahggdgaaDoor
open Go.RowKit Go.Proofs.YtggelmnahggdgaaDoorW.PrintWords Go.Proofs.YtggelmnahggdgaaDoorW.PrintLast Go.Proofs.YtggelmnahggdgaaDoorW.PrintMore
namespace RWordDoes
theorem right (wd : Int) (sg : Bool) : PWordDoes.skuaref01_Right.f wd sg = some (okT wd sg) := by
  have h := okT_iff wd sg
  unfold PWordDoes.skuaref01_Right.f
  cases hT : okT wd sg
  · rw [hT] at h
    have h : ¬ ((wd = 1 ∧ sg = false) ∨ wd = 8 ∨ wd = 16 ∨ wd = 32 ∨ wd = 64) := fun e => by have := h.2 e; cases this
    by_cases h1 : wd = 1
    · cases sg
      · exact absurd (.inl ⟨h1, rfl⟩) h
      · rw [if_pos h1]; rfl
    · rw [if_neg h1, if_neg (fun e => h (by simp [e])), if_neg (fun e => h (by simp [e])), if_neg (fun e => h (by simp [e]))]
      congr 1
      exact beq_eq_false_iff_ne.2 (fun e => h (by simp [e]))
  · rcases h.1 hT with ⟨rfl, rfl⟩ | rfl | rfl | rfl | rfl <;> rfl
theorem bits_l0 (n : Nat) (hn : n ≤ 64) : ∀ (d : Nat) (i : Nat) (k : Nat) (v : Int) (acc : List Bool), n - i = d → i ≤ n → acc.length = i → U64 v → d < k → PWordDoes.skuaref01_Bits.l0 k v n acc i = some (acc ++ bitsL v (n - i)) := by
  intro d
  induction d with
  | zero =>
    intro i k v acc hd hi ha hv hk
    obtain ⟨k, rfl⟩ : ∃ m, k = m + 1 := ⟨k - 1, by omega⟩
    simp only [PWordDoes.skuaref01_Bits.l0]
    rw [if_neg (by omega), show n - i = 0 by omega]
    simp [bitsL]
  | succ d ih =>
    intro i k v acc hd hi ha hv hk
    obtain ⟨k, rfl⟩ : ∃ m, k = m + 1 := ⟨k - 1, by omega⟩
    simp only [PWordDoes.skuaref01_Bits.l0]
    have h1 : Int.tdiv v 2 = v / 2 := Int.tdiv_eq_ediv_of_nonneg hv.1
    have h2 : Int.tmod v 2 = v % 2 := Int.tmod_eq_emod_of_nonneg hv.1
    have hv2 : U64 (v / 2) := ⟨by have := hv.1; omega, by have := hv.1; have := hv.2; omega⟩
    have hi1 := ih (i + 1) k (v / 2) (acc ++ [v % 2 == 1]) (by omega) (by omega) (by simp [ha]) hv2 (by omega)
    rw [if_pos (by omega), if_pos (by omega), h1, h2, wraps_u64 _ hv2.1 (by have := hv2.2; omega)]
    have h3 : wrap64 ((i : Int) + 1) = ((i + 1 : Nat) : Int) := by unfold wrap64; omega
    rw [h3, hi1]
    clear h3 hi1
    rw [List.append_assoc, show n - i = (n - (i + 1)) + 1 by omega]
    rfl
theorem bits_f (k : Nat) (v : Int) (n : Nat) (hn : n ≤ 64) (hv : U64 v) (hk : 64 < k) : PWordDoes.skuaref01_Bits.f k v n = some (bitsL v n) := by
  unfold PWordDoes.skuaref01_Bits.f
  have := bits_l0 n hn n 0 k v [] (by omega) (by omega) rfl hv (by omega)
  simpa using this
theorem val_l0 (l : List Bool) (hl : l.length ≤ 64) : ∀ (i : Nat) (k : Nat), i ≤ l.length → i < k → PWordDoes.skuaref01_Value.l0 k l (valL (l.drop i)) ((i : Int) - 1) = some (valL l) := by
  intro i
  induction i with
  | zero =>
    intro k hi hk
    obtain ⟨k, rfl⟩ : ∃ m, k = m + 1 := ⟨k - 1, by omega⟩
    simp only [PWordDoes.skuaref01_Value.l0]
    rw [if_neg (by omega)]
    simp
  | succ i ih =>
    intro k hi hk
    obtain ⟨k, rfl⟩ : ∃ m, k = m + 1 := ⟨k - 1, by omega⟩
    have hlt : i < l.length := by omega
    have e0 : ((i + 1 : Nat) : Int) - 1 = i := by omega
    simp only [PWordDoes.skuaref01_Value.l0]
    rw [e0, if_pos (by omega), if_pos (by omega), if_pos (by omega)]
    have hr := valL_range (l.drop (i + 1))
    have hr2 := valL_range (l.drop i)
    have hd : l.drop i = l[i] :: l.drop (i + 1) := List.drop_eq_getElem_cons hlt
    have hp : (2 : Int) ^ (l.drop i).length ≤ 2 ^ 64 := by exact_mod_cast Nat.pow_le_pow_right (n := 2) (by decide) (by simp; omega)
    have hb : rdOf false l (i : Int) = l[i] := by simp [rdOf, List.getD, hlt]
    have hw : wrap64 ((i : Int) - 1) = (i : Int) - 1 := by unfold wrap64; omega
    rw [hb, hw]
    have hv : valL (l.drop i) = (if l[i] then 1 else 0) + 2 * valL (l.drop (i + 1)) := by rw [hd]; rfl
    have h64 : (2 : Int) ^ 64 = 18446744073709551616 := rfl
    cases hbi : l[i]
    · rw [hbi] at hv
      simp only [Bool.false_eq_true, if_false] at hv ⊢
      rw [wraps_u64 _ (by omega) (by omega), show 2 * valL (l.drop (i + 1)) = valL (l.drop i) by omega]
      exact ih k (by omega) (by omega)
    · rw [hbi] at hv
      simp only [if_true] at hv ⊢
      rw [wraps_u64 (2 * valL (l.drop (i + 1))) (by omega) (by omega), wraps_u64 _ (by omega) (by omega), show 2 * valL (l.drop (i + 1)) + 1 = valL (l.drop i) by omega]
      exact ih k (by omega) (by omega)
theorem val_f (k : Nat) (l : List Bool) (hl : l.length ≤ 64) (hk : 64 < k) : PWordDoes.skuaref01_Value.f k l = some (valL l) := by
  unfold PWordDoes.skuaref01_Value.f
  have h := val_l0 l hl l.length k (Nat.le_refl _) (by omega)
  have hw : wrap64 ((l.length : Int) - 1) = (l.length : Int) - 1 := by unfold wrap64; omega
  rw [hw]
  simpa [valL] using h
theorem norm_f (k : Nat) (wd : Int) (sg : Bool) (v : Int) (hv : U64 v) (hk : 64 < k) : PWordDoes.skuaref01_Norm.f k wd sg v = some (nrm wd sg v) := by
  unfold PWordDoes.skuaref01_Norm.f
  rw [right]
  simp only [Option.bind_some]
  cases hT : okT wd sg
  · simp [nrm, hT]
  · obtain ⟨hM, h1, h2⟩ := M_pow hT
    obtain ⟨n, rfl⟩ := Int.eq_ofNat_of_zero_le (show 0 ≤ wd by omega)
    rw [if_pos rfl, bits_f k v n (by omega) hv hk]
    simp only [Option.bind_some]
    rw [val_f k _ (by rw [bitsL_length]; omega) hk, valL_bits, nrm_eq hT hv, hM]
    rfl
theorem wide_l0 (b : Bool) : ∀ (d : Nat) (k : Nat) (l : List Bool), 64 - l.length = d → l.length ≤ 64 → d < k → PWordDoes.skuaref01_wide.l0 k l b = some (l ++ List.replicate (64 - l.length) b) := by
  intro d
  induction d with
  | zero =>
    intro k l hd hl hk
    obtain ⟨k, rfl⟩ : ∃ m, k = m + 1 := ⟨k - 1, by omega⟩
    simp only [PWordDoes.skuaref01_wide.l0]
    rw [if_neg (by omega), show 64 - l.length = 0 by omega]
    simp
  | succ d ih =>
    intro k l hd hl hk
    obtain ⟨k, rfl⟩ : ∃ m, k = m + 1 := ⟨k - 1, by omega⟩
    simp only [PWordDoes.skuaref01_wide.l0]
    rw [if_pos (by omega), if_pos (by omega), ih k (l ++ [b]) (by simp; omega) (by simp; omega) (by omega)]
    rw [List.append_assoc, List.length_append, show 64 - l.length = (64 - (l.length + [b].length)) + 1 by simp; omega, List.replicate_succ]
    rfl
/-- The sign's bit. -/
def sgL (wd : Int) (sg : Bool) (v : Int) : Bool := sg && decide (M wd / 2 ≤ nrm wd sg v)
theorem bit_sign {n : Nat} {sg : Bool} {v : Int} (hT : okT n sg = true) (hv : U64 v) : (bitsL v n).getD (n - 1) false = decide (M n / 2 ≤ nrm n sg v) := by
  obtain ⟨hM, h1, h2⟩ := M_pow hT
  have hn : 1 ≤ n := by omega
  rw [bitsL_get n v (n - 1) (by omega)]
  have hr := nrm_range hT hv
  have he := nrm_eq hT hv
  have hM2 : M n = 2 * 2 ^ (n - 1) := by
    rw [hM, Int.toNat_natCast, show n = (n - 1) + 1 by omega, Int.pow_succ]; simp; omega
  have hp : (0 : Int) < 2 ^ (n - 1) := Int.pow_pos (by decide)
  have hx : v / 2 ^ (n - 1) % 2 = nrm n sg v / 2 ^ (n - 1) := by
    rw [he, hM2]
    generalize (2 : Int) ^ (n - 1) = q at hp
    rw [Int.emod_def v (2 * q), Int.emod_def (v / q) 2, Int.ediv_ediv_of_nonneg (by omega), Int.mul_comm q 2]
    rw [show v - 2 * q * (v / (2 * q)) = v + (-(2 * (v / (2 * q)))) * q by rw [Int.neg_mul, Int.mul_assoc, Int.mul_comm q, ← Int.mul_assoc]; rfl, Int.add_mul_ediv_right _ _ (by omega)]
    omega
  rw [hx, Bool.eq_iff_iff]
  simp only [beq_iff_eq, decide_eq_true_eq]
  rw [hM2, show (2 * 2 ^ (n - 1) : Int) / 2 = 2 ^ (n - 1) by omega]
  rw [hM2] at hr
  generalize (2 : Int) ^ (n - 1) = q at *
  generalize nrm n sg v = x at *
  constructor
  · intro h
    have := Int.ediv_mul_le x (show q ≠ 0 by omega)
    rw [h] at this; omega
  · intro h
    have h1 : x / q < 2 := Int.ediv_lt_of_lt_mul hp (by omega)
    have h2 : 1 ≤ x / q := Int.le_ediv_of_mul_le hp (by omega)
    omega
theorem wide_f (k : Nat) (wd : Int) (sg : Bool) (v : Int) (hT : okT wd sg = true) (hv : U64 v) (hk : 65 < k) : PWordDoes.skuaref01_wide.f k wd sg v = some (bitsL v wd.toNat ++ List.replicate (64 - wd.toNat) (sgL wd sg v)) := by
  obtain ⟨hM, h1, h2⟩ := M_pow hT
  obtain ⟨n, rfl⟩ := Int.eq_ofNat_of_zero_le (show 0 ≤ wd by omega)
  unfold PWordDoes.skuaref01_wide.f
  have hlen := bitsL_length n v
  have hw : wrap64 ((n : Int) - 1) = ((n - 1 : Nat) : Int) := by unfold wrap64; omega
  obtain ⟨k, rfl⟩ : ∃ m, k = m + 1 := ⟨k - 1, by omega⟩
  rw [bits_f _ v n (by omega) hv (by omega)]
  simp only [Option.bind_some, Int.toNat_natCast, hw, PWordDoes.skuaref01_wide.j0]
  cases sg
  · simp only [Bool.false_eq_true, if_false]
    rw [wide_l0 _ (64 - n) k _ (by rw [hlen]) (by omega) (by omega), hlen]
    rfl
  · simp only [if_true]
    rw [if_pos (by omega), if_pos (by omega), wide_l0 _ (64 - n) k _ (by rw [hlen]) (by omega) (by omega), hlen]
    have : rdOf false (bitsL v n) ((n - 1 : Nat) : Int) = sgL n true v := by
      unfold rdOf sgL
      rw [Int.toNat_natCast, bit_sign hT hv]; rfl
    rw [this]
theorem wide_val (wd : Int) (sg : Bool) (v : Int) (hT : okT wd sg = true) (hv : U64 v) : valL (bitsL v wd.toNat ++ List.replicate (64 - wd.toNat) (sgL wd sg v)) = nrm wd sg v + (if sgL wd sg v then 18446744073709551616 - M wd else 0) := by
  obtain ⟨hM, h1, h2⟩ := M_pow hT
  rw [valL_append, valL_bits, valL_replicate, bitsL_length, nrm_eq hT hv, ← hM]
  split
  · have : M wd * 2 ^ (64 - wd.toNat) = 18446744073709551616 := by
      rw [hM, ← Int.pow_add, show wd.toNat + (64 - wd.toNat) = 64 by omega]; rfl
    rw [Int.mul_sub, this]; omega
  · omega
/-- As a number with a sign it is the value's own. -/
theorem wide_sint (wd : Int) (sg : Bool) (v : Int) (hT : okT wd sg = true) (hv : U64 v) : wrap64 (nrm wd sg v + (if sgL wd sg v then 18446744073709551616 - M wd else 0)) = sint wd sg v := by
  have hM := M_pos hT
  have hr := nrm_range hT hv
  cases sg
  · simp [sgL, sint_u]
  · rw [sint_s hT hv]
    unfold sgL wrap64
    have hd : M wd % 2 = 0 := by rcases (okT_iff wd true).1 hT with ⟨_, h⟩ | rfl | rfl | rfl | rfl <;> first | cases h | decide
    simp only [Bool.true_and, decide_eq_true_eq]
    split <;> omega
/-! ### Bit by bit -/
def eF (op : ByteArray) : Bool → Bool → Bool := fun x y => if op.toList = [38] then x && y else if op.toList = [124] then x || y else x != y
theorem each_l0 (wd : Int) (sg : Bool) (op : ByteArray) : ∀ (post : List Bool) (k : Nat) (pre py qy : List Bool), wd = ((pre.length + post.length : Nat) : Int) → wd ≤ 64 → py.length = pre.length → qy.length = post.length → post.length + 65 < k →
    PWordDoes.skuaref01_each.l0 k op (pre ++ post) (py ++ qy) (pre.length : Int) wd sg = some (valL (pre ++ List.zipWith (eF op) post qy)) := by
  intro post
  induction post with
  | nil =>
    intro k pre py qy hw h64 hp hq hk
    obtain ⟨k, rfl⟩ : ∃ m, k = m + 1 := ⟨k - 1, by omega⟩
    simp only [PWordDoes.skuaref01_each.l0]
    simp only [List.length_nil, Nat.add_zero] at hw hk
    rw [if_neg (by omega), List.append_nil, val_f k pre (by omega) (by omega)]
    simp
  | cons b post ih =>
    intro k pre py qy hw h64 hp hq hk
    obtain ⟨k, rfl⟩ : ∃ m, k = m + 1 := ⟨k - 1, by omega⟩
    obtain ⟨c, qy, rfl⟩ : ∃ c q, qy = c :: q := by cases qy with
      | nil => simp at hq
      | cons c q => exact ⟨c, q, rfl⟩
    simp only [PWordDoes.skuaref01_each.l0]
    simp only [List.length_cons] at hw hk hq
    have hb : rdOf false (pre ++ b :: post) (pre.length : Int) = b := by simp [rdOf, List.getD]
    have hc : rdOf false (py ++ c :: qy) (pre.length : Int) = c := by simp [rdOf, List.getD, ← hp]
    have hs : ∀ d, (pre ++ b :: post).set pre.length d = (pre ++ [d]) ++ post := by
      intro d
      rw [List.set_append_right _ _ (Nat.le_refl _), Nat.sub_self]; simp
    have hw1 : ∀ d : Bool, wrap64 ((pre.length : Int) + 1) = ((pre ++ [d]).length : Int) := by intro d; unfold wrap64; simp; omega
    have l1 : (pre.length : Int) < ((pre ++ b :: post).length : Int) := by simp; omega
    have l2 : (pre.length : Int) < ((py ++ c :: qy).length : Int) := by simp [hp]; omega
    have nx : ∀ d, PWordDoes.skuaref01_each.l0 k op ((pre ++ [d]) ++ post) (py ++ c :: qy) (wrap64 ((pre.length : Int) + 1)) wd sg = some (valL ((pre ++ [d]) ++ List.zipWith (eF op) post qy)) := by
      intro d
      rw [hw1 d, show py ++ c :: qy = (py ++ [c]) ++ qy by simp]
      exact ih k (pre ++ [d]) (py ++ [c]) qy (by simp; omega) h64 (by simp [hp]) (by omega) (by omega)
    rw [if_pos (by omega)]
    simp only [hb, hc, Int.toNat_natCast, eq_true (show (0 : Int) ≤ pre.length by omega), eq_true l1, eq_true l2, if_true]
    simp only [hs, nx, List.append_assoc, List.zipWith_cons_cons, eF, List.singleton_append]
    cases b <;> cases c <;> simp <;> (try split) <;> (try split) <;> simp_all
theorem each_f (k : Nat) (wd : Int) (sg : Bool) (op : ByteArray) (a b : Int) (hT : okT wd sg = true) (ha : U64 a) (hb : U64 b) (hk : 200 < k) :
    PWordDoes.skuaref01_each.f k wd sg op a b = some (valL (List.zipWith (eF op) (bitsL a wd.toNat) (bitsL b wd.toNat))) := by
  obtain ⟨hM, h1, h2⟩ := M_pow hT
  obtain ⟨n, rfl⟩ := Int.eq_ofNat_of_zero_le (show 0 ≤ wd by omega)
  unfold PWordDoes.skuaref01_each.f
  rw [bits_f k a n (by omega) ha (by omega), bits_f k b n (by omega) hb (by omega)]
  simp only [Option.bind_some, Int.toNat_natCast]
  have h := each_l0 n sg op (bitsL a n) k [] [] (bitsL b n) (by simp [bitsL_length]) h2 rfl (by rw [bitsL_length, bitsL_length]) (by rw [bitsL_length]; omega)
  simpa using h
theorem zip_bits (g : Bool → Bool → Bool) (h : Nat → Nat → Nat) (h0 : ∀ x y i, (h x y).testBit i = g (x.testBit i) (y.testBit i)) : ∀ (n : Nat) (a b : Nat), List.zipWith g (bitsL a n) (bitsL b n) = bitsL (h a b : Nat) n := by
  intro n
  induction n with
  | zero => intro a b; rfl
  | succ n ih =>
    intro a b
    simp only [bitsL, List.zipWith_cons_cons]
    have hd : ∀ x : Nat, (((x : Int)) / 2) = ((x / 2 : Nat) : Int) := fun x => by omega
    have hm : ∀ x : Nat, ((x : Int) % 2 == 1) = x.testBit 0 := fun x => by
      rw [Nat.testBit_zero, Bool.eq_iff_iff]; simp; omega
    have he : h (a / 2) (b / 2) = h a b / 2 := by
      apply Nat.eq_of_testBit_eq
      intro i
      rw [h0, Nat.testBit_div_two, Nat.testBit_div_two, Nat.testBit_div_two, h0]
    rw [hm, hm, hm, hd, hd, hd, ih, he, h0]
theorem bits_zip (op : ByteArray) (a b : Int) (n : Nat) (ha : U64 a) (hb : U64 b) (bop : BinOp) (hop : op.toList = [38] ∧ bop = .and ∨ op.toList = [124] ∧ bop = .or ∨ op.toList = [94] ∧ bop = .xor) : List.zipWith (eF op) (bitsL a n) (bitsL b n) = bitsL (bits bop .u64 a b) n := by
  obtain ⟨x, rfl⟩ := Int.eq_ofNat_of_zero_le ha.1
  obtain ⟨y, rfl⟩ := Int.eq_ofNat_of_zero_le hb.1
  have hx : x < 2 ^ 64 := by have := ha.2; omega
  have hy : y < 2 ^ 64 := by have := hb.2; omega
  rcases hop with ⟨h, rfl⟩ | ⟨h, rfl⟩ | ⟨h, rfl⟩
  · rw [(bits_nat .u64 64 (by decide) wraps_u64 x y hx hy).1]
    refine zip_bits _ (fun x y => x &&& y) (fun x y i => ?_) n x y
    simp [eF, h, Nat.testBit_and]
  · rw [(bits_nat .u64 64 (by decide) wraps_u64 x y hx hy).2]
    refine zip_bits _ (fun x y => x ||| y) (fun x y i => ?_) n x y
    simp [eF, h, Nat.testBit_or]
  · rw [bits_xor_u64_nat _ _ hx hy]
    refine zip_bits _ (fun x y => x ^^^ y) (fun x y i => ?_) n x y
    simp [eF, h, Nat.testBit_xor]
theorem each_val (k : Nat) (wd : Int) (sg : Bool) (op : ByteArray) (a b : Int) (hT : okT wd sg = true) (ha : U64 a) (hb : U64 b) (hk : 200 < k) (bop : BinOp) (hop : op.toList = [38] ∧ bop = .and ∨ op.toList = [124] ∧ bop = .or ∨ op.toList = [94] ∧ bop = .xor) :
    PWordDoes.skuaref01_each.f k wd sg op a b = some (nrm wd sg (bits bop .u64 a b)) := by
  rw [each_f k wd sg op a b hT ha hb hk, bits_zip op a b _ ha hb bop hop, valL_bits, nrm_eq hT (bits_u64 _ _ _), (M_pow hT).1]
/-! ### Signs and sizes -/
theorem neg_f (k : Nat) (wd : Int) (sg : Bool) (v : Int) (hT : okT wd sg = true) (hv : U64 v) (hk : 200 < k) : PWordDoes.skuaref01_Neg.f k wd sg v = some (sgL wd sg v) := by
  obtain ⟨hM, h1, h2⟩ := M_pow hT
  obtain ⟨n, rfl⟩ := Int.eq_ofNat_of_zero_le (show 0 ≤ wd by omega)
  unfold PWordDoes.skuaref01_Neg.f
  cases sg
  · rfl
  · rw [if_pos rfl, bits_f k v n (by omega) hv (by omega)]
    have hw : wrap64 ((n : Int) - 1) = ((n - 1 : Nat) : Int) := by unfold wrap64; omega
    simp only [Option.bind_some, hw]
    rw [if_pos (by omega), if_pos (by rw [bitsL_length]; omega)]
    unfold rdOf sgL
    rw [Int.toNat_natCast, bit_sign hT hv]; rfl
/-- How great a value is, without its sign. -/
def mag (wd : Int) (sg : Bool) (v : Int) : Int := if sgL wd sg v then M wd - nrm wd sg v else nrm wd sg v
theorem mag_range {wd : Int} {sg : Bool} {v : Int} (hT : okT wd sg = true) (hv : U64 v) : U64 (mag wd sg v) := by
  have hr := nrm_range hT hv
  have hM := M_pos hT
  unfold mag sgL
  cases sg
  · exact ⟨by simpa using hr.1, by simp; omega⟩
  · simp only [Bool.true_and, decide_eq_true_eq]
    split
    · exact ⟨by omega, by omega⟩
    · exact ⟨by omega, by omega⟩
theorem size_f (k : Nat) (wd : Int) (sg : Bool) (v : Int) (hT : okT wd sg = true) (hv : U64 v) (hk : 200 < k) : PWordDoes.skuaref01_size.f k wd sg v = some (mag wd sg v) := by
  obtain ⟨hM, h1, h2⟩ := M_pow hT
  have hr := nrm_range hT hv
  have hP := M_pos hT
  unfold PWordDoes.skuaref01_size.f
  rw [neg_f k wd sg v hT hv hk, wide_f k wd sg v hT hv (by omega)]
  simp only [Option.bind_some]
  rw [val_f k _ (by simp [bitsL_length]; omega) (by omega), wide_val wd sg v hT hv]
  unfold mag
  cases hs : sgL wd sg v
  · simp
  · have h2 : M wd / 2 ≤ nrm wd sg v := by unfold sgL at hs; simp at hs; exact hs.2
    simp only [if_true, Option.bind_some]
    congr 1
    rw [IntKind.wrap_u64]
    omega
theorem divide_f (k : Nat) (wd : Int) (sg : Bool) (a b : Int) (hT : okT wd sg = true) (ha : U64 a) (hb : U64 b) (h0 : ¬ mag wd sg b = 0) (hk : 200 < k) :
    PWordDoes.skuaref01_divide.f k wd sg a b = some (if sgL wd sg a != sgL wd sg b then IntKind.u64.wrap (-(mag wd sg a / mag wd sg b)) else mag wd sg a / mag wd sg b, if sgL wd sg a then IntKind.u64.wrap (-(mag wd sg a % mag wd sg b)) else mag wd sg a % mag wd sg b) := by
  have rA := mag_range hT ha
  have rB := mag_range hT hb
  unfold PWordDoes.skuaref01_divide.f
  rw [size_f k wd sg a hT ha hk, size_f k wd sg b hT hb hk, neg_f k wd sg a hT ha hk, neg_f k wd sg b hT hb hk]
  simp only [Option.bind_some]
  rw [if_neg h0, if_neg h0, Int.tdiv_eq_ediv_of_nonneg rA.1, Int.tmod_eq_emod_of_nonneg rA.1]
  have h3 : 0 ≤ mag wd sg a / mag wd sg b := Int.ediv_nonneg rA.1 rB.1
  have h4 : mag wd sg a / mag wd sg b ≤ mag wd sg a := Int.ediv_le_self _ rA.1
  rw [wraps_u64 _ h3 (by have := rA.2; omega)]
  cases sgL wd sg a <;> cases sgL wd sg b <;> rfl
theorem sint_mag {wd : Int} {v : Int} (hT : okT wd true = true) (hv : U64 v) : sint wd true v = if sgL wd true v then -mag wd true v else mag wd true v := by
  rw [sint_s hT hv]
  unfold mag sgL
  simp only [Bool.true_and, decide_eq_true_eq]
  split <;> omega
theorem mag_zero {wd : Int} {sg : Bool} {v : Int} (hT : okT wd sg = true) (hv : U64 v) (h : ¬ nrm wd sg v = 0) : ¬ mag wd sg v = 0 := by
  have hr := nrm_range hT hv
  unfold mag
  split <;> omega
theorem divide_q {wd : Int} {sg : Bool} {a b : Int} (hT : okT wd sg = true) (ha : U64 a) (hb : U64 b) (h0 : ¬ mag wd sg b = 0) (hna : nrm wd sg a = a) (hnb : nrm wd sg b = b) :
    nrm wd sg (if sgL wd sg a != sgL wd sg b then IntKind.u64.wrap (-(mag wd sg a / mag wd sg b)) else mag wd sg a / mag wd sg b) = nrm wd sg (quoZ wd sg a b) := by
  have rA := mag_range hT ha
  have rB := mag_range hT hb
  have h3 : 0 ≤ mag wd sg a / mag wd sg b := Int.ediv_nonneg rA.1 rB.1
  have h4 : mag wd sg a / mag wd sg b ≤ mag wd sg a := Int.ediv_le_self _ rA.1
  have hu : U64 (mag wd sg a / mag wd sg b) := ⟨h3, by have := rA.2; omega⟩
  cases sg
  · unfold quoZ
    simp only [sgL, mag, Bool.false_and, bne_self_eq_false, Bool.false_eq_true, if_false, Bool.not_false, if_true, hna, hnb] at *
    rw [Int.tdiv_eq_ediv_of_nonneg rA.1, wraps_u64 _ h3 (by have := rA.2; omega)]
  · refine nrm_cg hT (by split <;> first | exact u64_of_wrap _ | exact hu) (quo_u64 _ _ _ _) ?_
    have hq : Cg (M wd) (quoZ wd true a b) ((sint wd true a).tdiv (sint wd true b)) := by
      unfold quoZ
      simp only [Bool.not_true, Bool.false_eq_true, if_false]
      split
      · rename_i e
        have e : sint wd true b = -1 := by simpa using e
        rw [e, Int.tdiv_neg, Int.tdiv_one]
        exact (cg_u64 hT _).trans (cg_i64 hT _)
      · exact (cg_u64 hT _).trans (cg_i64 hT _)
    refine Cg.trans ?_ hq.symm
    rw [sint_mag hT ha, sint_mag hT hb]
    cases sgL wd true a <;> cases sgL wd true b <;> simp only [bne_self_eq_false, Bool.false_eq_true, if_false, if_true, Bool.true_bne, Bool.false_bne, Bool.not_true, Bool.not_false, Int.neg_tdiv, Int.tdiv_neg, Int.neg_neg]
    all_goals simp only [Int.tdiv_eq_ediv_of_nonneg rA.1]
    all_goals first | exact Cg.refl _ _ | exact cg_u64 hT _
theorem divide_r {wd : Int} {sg : Bool} {a b : Int} (hT : okT wd sg = true) (ha : U64 a) (hb : U64 b) (h0 : ¬ mag wd sg b = 0) (hna : nrm wd sg a = a) (hnb : nrm wd sg b = b) :
    nrm wd sg (if sgL wd sg a then IntKind.u64.wrap (-(mag wd sg a % mag wd sg b)) else mag wd sg a % mag wd sg b) = nrm wd sg (remZ wd sg a b) := by
  have rA := mag_range hT ha
  have rB := mag_range hT hb
  have h3 : 0 ≤ mag wd sg a % mag wd sg b := Int.emod_nonneg _ h0
  have h4 : mag wd sg a % mag wd sg b < mag wd sg b := Int.emod_lt_of_pos _ (by have := rB.1; omega)
  have hu : U64 (mag wd sg a % mag wd sg b) := ⟨h3, by have := rB.2; omega⟩
  cases sg
  · unfold remZ
    simp only [sgL, mag, Bool.false_and, Bool.false_eq_true, if_false, Bool.not_false, if_true, hna, hnb] at *
    rw [Int.tmod_eq_emod_of_nonneg rA.1]
  · refine nrm_cg hT (by split <;> first | exact u64_of_wrap _ | exact hu) (rem_u64 ha hb) ?_
    have hq : Cg (M wd) (remZ wd true a b) ((sint wd true a).tmod (sint wd true b)) := by
      unfold remZ
      simp only [Bool.not_true, Bool.false_eq_true, if_false]
      split
      · rename_i e
        have e : sint wd true b = -1 := by simpa using e
        rw [e, Int.tmod_neg, Int.tmod_one]
        exact Cg.refl _ _
      · exact cg_u64 hT _
    refine Cg.trans ?_ hq.symm
    rw [sint_mag hT ha, sint_mag hT hb]
    cases sgL wd true a <;> cases sgL wd true b <;> simp only [Bool.false_eq_true, if_false, if_true, Int.neg_tmod, Int.tmod_neg]
    all_goals simp only [Int.tmod_eq_emod_of_nonneg rA.1]
    all_goals first | exact Cg.refl _ _ | exact cg_u64 hT _
end RWordDoes
end Go.Proofs.YtggelmnahggdgaaDoor
