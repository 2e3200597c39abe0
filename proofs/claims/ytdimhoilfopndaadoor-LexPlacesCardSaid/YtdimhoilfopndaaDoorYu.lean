/- Laws of the lexer over lists: what stands between tokens doesn't matter; what is shown is lexed into the same tokens. Condition of each lemma: as it stands. -/
import Derived.Test.YtdimhoilfopndaaDoorYr
set_option linter.unusedVariables false
set_option linter.unusedSimpArgs false
namespace Go.Proofs.YtdimhoilfopndaaDoor
open Go.RowKit
/-- Do two strokes stand in a row? -/
def ssB : List UInt8 → Bool
  | a :: b :: r => (a == 47 && b == 47) || ssB (b :: r)
  | _ => false
theorem ssB_tail {c : UInt8} {r : List UInt8} (h : ssB (c :: r) = false) : ssB r = false := by
  cases r with
  | nil => rfl
  | cons d r => simp only [ssB, Bool.or_eq_false_iff] at h; exact h.2
theorem ssB_drop : ∀ (n : Nat) {l : List UInt8}, ssB l = false → ssB (l.drop n) = false
  | 0, l, h => h
  | n + 1, [], h => rfl
  | n + 1, c :: r, h => ssB_drop n (ssB_tail h)
theorem ssB_head {c d : UInt8} {r : List UInt8} (h : ssB (c :: d :: r) = false) : ¬ (c = 47 ∧ d = 47) := by
  rintro ⟨rfl, rfl⟩
  simp [ssB] at h
theorem takeWhile_app {p : UInt8 → Bool} {a : UInt8} (ha : p a = false) (A : List UInt8) : ∀ u : List UInt8, (u ++ a :: A).takeWhile p = u.takeWhile p
  | [] => by rw [List.nil_append, List.takeWhile_cons_of_neg (by rw [ha]; exact Bool.false_ne_true)]; rfl
  | c :: u => by
    by_cases h : p c = true
    · rw [List.cons_append, List.takeWhile_cons_of_pos h, List.takeWhile_cons_of_pos h, takeWhile_app ha A u]
    · rw [List.cons_append, List.takeWhile_cons_of_neg h, List.takeWhile_cons_of_neg h]
theorem spc_all : ∀ n : Fin 256, spaceB (n.val : Int) = true → letterB (n.val : Int) = false ∧ n.val ≠ 47 ∧ (n.val = 32 ∨ n.val = 9 ∨ n.val = 13 ∨ n.val = 10) := by decide +kernel
theorem spc_facts {c : UInt8} (h : spc c = true) : ltr c = false ∧ c ≠ 47 ∧ (c = 32 ∨ c = 9 ∨ c = 13 ∨ c = 10) := by
  have := spc_all ⟨c.toNat, c.toNat_lt⟩ h
  refine ⟨this.1, fun e => this.2.1 (by rw [e]; rfl), ?_⟩
  rcases this.2.2 with h | h | h | h
  · exact .inl (UInt8.toNat_inj.1 h)
  · exact .inr (.inl (UInt8.toNat_inj.1 h))
  · exact .inr (.inr (.inl (UInt8.toNat_inj.1 h)))
  · exact .inr (.inr (.inr (UInt8.toNat_inj.1 h)))
theorem sgFindI_congr {l l' : List UInt8} : ∀ (f i : Nat), (∀ j, i ≤ j → j < i + f → Lib.hasPrefix l (sgL.getD j []) = Lib.hasPrefix l' (sgL.getD j [])) → sgFindI l f i = sgFindI l' f i
  | 0, _, _ => rfl
  | f + 1, i, h => by
    simp only [sgFindI]
    rw [h i (Nat.le_refl _) (by omega), sgFindI_congr f (i + 1) fun j h1 h2 => h j (by omega) (by omega)]
theorem hasPrefix_cons (a b : UInt8) (l p : List UInt8) : Lib.hasPrefix (a :: l) (b :: p) = (b == a && Lib.hasPrefix l p) := rfl
theorem sgL_form : ∀ j, j < 29 → (∃ x, sgL.getD j [] = [x] ∧ ¬ x = 32 ∧ ¬ x = 9 ∧ ¬ x = 13 ∧ ¬ x = 10) ∨ ∃ x y, sgL.getD j [] = [x, y] ∧ (¬ y = 32 ∧ ¬ y = 9 ∧ ¬ y = 13 ∧ ¬ y = 10) ∧ ¬ x = 32 ∧ ¬ x = 9 ∧ ¬ x = 13 ∧ ¬ x = 10
  | 0, _ => .inr ⟨_, _, rfl, by decide⟩
  | 1, _ => .inr ⟨_, _, rfl, by decide⟩
  | 2, _ => .inr ⟨_, _, rfl, by decide⟩
  | 3, _ => .inr ⟨_, _, rfl, by decide⟩
  | 4, _ => .inr ⟨_, _, rfl, by decide⟩
  | 5, _ => .inr ⟨_, _, rfl, by decide⟩
  | 6, _ => .inr ⟨_, _, rfl, by decide⟩
  | 7, _ => .inr ⟨_, _, rfl, by decide⟩
  | 8, _ => .inl ⟨_, rfl, by decide⟩
  | 9, _ => .inl ⟨_, rfl, by decide⟩
  | 10, _ => .inl ⟨_, rfl, by decide⟩
  | 11, _ => .inl ⟨_, rfl, by decide⟩
  | 12, _ => .inl ⟨_, rfl, by decide⟩
  | 13, _ => .inl ⟨_, rfl, by decide⟩
  | 14, _ => .inl ⟨_, rfl, by decide⟩
  | 15, _ => .inl ⟨_, rfl, by decide⟩
  | 16, _ => .inl ⟨_, rfl, by decide⟩
  | 17, _ => .inl ⟨_, rfl, by decide⟩
  | 18, _ => .inl ⟨_, rfl, by decide⟩
  | 19, _ => .inl ⟨_, rfl, by decide⟩
  | 20, _ => .inl ⟨_, rfl, by decide⟩
  | 21, _ => .inl ⟨_, rfl, by decide⟩
  | 22, _ => .inl ⟨_, rfl, by decide⟩
  | 23, _ => .inl ⟨_, rfl, by decide⟩
  | 24, _ => .inl ⟨_, rfl, by decide⟩
  | 25, _ => .inl ⟨_, rfl, by decide⟩
  | 26, _ => .inl ⟨_, rfl, by decide⟩
  | 27, _ => .inl ⟨_, rfl, by decide⟩
  | 28, _ => .inl ⟨_, rfl, by decide⟩
  | n + 29, h => absurd h (by omega)
/-- A sign is found in what stands first, whatever blank follows. -/
theorem sgFind_app {a : UInt8} (ha : spc a = true) (A : List UInt8) {u : List UInt8} (hu : u ≠ []) : sgFind (u ++ a :: A) = sgFind u := by
  have hs := (spc_facts ha).2.2
  refine sgFindI_congr 29 0 fun j _ hj => ?_
  match u, hu with
  | [c], _ =>
    rcases sgL_form j (by omega) with ⟨x, hx, _⟩ | ⟨x, y, hx, hy, _⟩
    · rw [hx]; rfl
    · rw [hx]
      simp only [List.cons_append, List.nil_append, hasPrefix_cons]
      have : (y == a) = false := by rw [beq_eq_false_iff_ne]; rintro rfl; rcases hs with h | h | h | h <;> simp_all
      rw [this]
      simp [Lib.hasPrefix]
  | c :: d :: r, _ =>
    rcases sgL_form j (by omega) with ⟨x, hx, _⟩ | ⟨x, y, hx, hy, _⟩
    · rw [hx]; rfl
    · rw [hx]; rfl
theorem nextL_app {a : UInt8} (ha : spc a = true) (A : List UInt8) {u : List UInt8} (hu : u ≠ []) : nextL (u ++ a :: A) = nextL u := by
  match u, hu with
  | c :: r, _ =>
    have h1 := takeWhile_app (p := ltr) (spc_facts ha).1 A (c :: r)
    have h2 := sgFind_app ha A (u := c :: r) (by simp)
    rw [List.cons_append] at h1 h2 ⊢
    simp only [nextL]
    rw [h1, h2]
theorem dropWhile_app_all {p : UInt8 → Bool} (A : List UInt8) : ∀ {s : List UInt8}, s.dropWhile p = [] → (s ++ A).dropWhile p = A.dropWhile p
  | [], _ => rfl
  | c :: s, h => by
    by_cases hc : p c = true
    · rw [List.dropWhile_cons_of_pos hc] at h
      rw [List.cons_append, List.dropWhile_cons_of_pos hc]; exact dropWhile_app_all A h
    · rw [List.dropWhile_cons_of_neg hc] at h; cases h
theorem dropWhile_app_some {p : UInt8 → Bool} (A : List UInt8) {c : UInt8} {r : List UInt8} : ∀ {s : List UInt8}, s.dropWhile p = c :: r → (s ++ A).dropWhile p = c :: r ++ A
  | [], h => by cases h
  | d :: s, h => by
    by_cases hc : p d = true
    · rw [List.dropWhile_cons_of_pos hc] at h
      rw [List.cons_append, List.dropWhile_cons_of_pos hc]; exact dropWhile_app_some A h
    · rw [List.dropWhile_cons_of_neg hc] at h
      rw [List.cons_append, List.dropWhile_cons_of_neg hc, ← h, List.cons_append]
theorem ssB_dropWhile {p : UInt8 → Bool} {s : List UInt8} (h : ssB s = false) : ssB (s.dropWhile p) = false := by
  rw [← drop_takeWhile_len]; exact ssB_drop _ h
/-- The core: two tails that begin with a blank and are the same behind it. -/
theorem LX_tails {a b : UInt8} (ha : spc a = true) (hb : spc b = true) {A B : List UInt8} (h : skp (a :: A) = skp (b :: B)) : ∀ (n : Nat) (s : List UInt8), s.length = n → ssB s = false → LX (s ++ a :: A) = LX (s ++ b :: B) := by
  have nopre : ∀ {a : UInt8} (_ : spc a = true) (A : List UInt8) {c : UInt8} {r : List UInt8}, ssB (c :: r) = false → Lib.hasPrefix (c :: r ++ a :: A) [47, 47] = false := by
    intro a ha A c r hss
    have h47 := (spc_facts ha).2.1
    cases r with
    | nil =>
      simp only [List.cons_append, List.nil_append, hasPrefix_cons]
      have : ((47 : UInt8) == a) = false := by rw [beq_eq_false_iff_ne]; exact fun e => h47 e.symm
      rw [this]; simp
    | cons d r =>
      simp only [List.cons_append, hasPrefix_cons]
      have := ssB_head hss
      by_cases e1 : (47 : UInt8) = c
      · by_cases e2 : (47 : UInt8) = d
        · exact absurd ⟨e1.symm, e2.symm⟩ this
        · simp [e2]
      · simp [e1]
  intro n
  induction n using Nat.strongRecOn with
  | ind n ih =>
    intro s hn hss
    cases hd : s.dropWhile spc with
    | nil =>
      refine LX_skp ?_
      rw [skp_eq, skp_eq (s ++ b :: B), dropWhile_app_all _ hd, dropWhile_app_all _ hd, ← skp_eq, ← skp_eq]
      exact h
    | cons c r =>
      have hlen : (c :: r).length ≤ n := by rw [← hd, ← hn]; exact dropWhile_len spc s
      have hcr : ssB (c :: r) = false := by rw [← hd]; exact ssB_dropWhile hss
      have e1 : skp (s ++ a :: A) = c :: r ++ a :: A := by
        rw [skp_eq, dropWhile_app_some _ hd, if_neg (by rw [nopre ha A hcr]; exact Bool.false_ne_true)]
      have e2 : skp (s ++ b :: B) = c :: r ++ b :: B := by
        rw [skp_eq, dropWhile_app_some _ hd, if_neg (by rw [nopre hb B hcr]; exact Bool.false_ne_true)]
      rw [LX_eq, LX_eq (s ++ b :: B), e1, e2, nextL_app ha A (by simp), nextL_app hb B (by simp)]
      cases ht : nextL (c :: r) with
      | none => rfl
      | some t =>
        dsimp only
        by_cases hk : t.kind = 3
        · rw [if_pos hk, if_pos hk]
        · have hz := nextL_pos ht hk
          rw [if_neg hk, if_neg hk, List.drop_append_of_le_length hz.2, List.drop_append_of_le_length hz.2]
          rw [ih ((c :: r).drop t.text.length).length (by rw [List.length_drop]; omega) _ rfl (ssB_drop _ hcr)]
theorem dropWhile_lin_app (A : List UInt8) : ∀ {x : List UInt8}, (∀ c ∈ x, c ≠ 10) → (x ++ 10 :: A).dropWhile lin = 10 :: A
  | [], _ => by rw [List.nil_append, List.dropWhile_cons_of_neg (by decide)]
  | c :: x, h => by
    have hc : lin c = true := by
      have := h c (by simp)
      unfold lin lineB
      simp only [bne_iff_ne, ne_eq]
      intro e
      exact this (UInt8.toNat_inj.1 (by simpa using (Int.ofNat.inj e)))
    rw [List.cons_append, List.dropWhile_cons_of_pos hc]
    exact dropWhile_lin_app A fun d hd => h d (by simp [hd])
/-- What stands between, of each kind. -/
theorem between_skp (more sep x : List UInt8) (hx : ∀ c ∈ x, c ≠ 10) (h : sep = [32] ∨ sep = [10] ∨ sep = [9, 13] ∨ sep = [32, 47, 47, 32] ++ x ++ [10]) : skp (32 :: more) = skp (10 :: (sep ++ more)) := by
  rw [skp_cons_spc (by decide), skp_cons_spc (by decide)]
  rcases h with rfl | rfl | rfl | rfl
  · rw [List.cons_append, skp_cons_spc (by decide)]; rfl
  · rw [List.cons_append, skp_cons_spc (by decide)]; rfl
  · rw [List.cons_append, skp_cons_spc (by decide), List.cons_append, skp_cons_spc (by decide)]; rfl
  · simp only [List.cons_append, List.nil_append, List.append_assoc]
    rw [skp_cons_spc (by decide), skp_eq (47 :: 47 :: _), List.dropWhile_cons_of_neg (by decide), if_pos (by rfl)]
    rw [List.dropWhile_cons_of_pos (by decide), List.dropWhile_cons_of_pos (by decide), List.dropWhile_cons_of_pos (by decide), dropWhile_lin_app more hx, skp_cons_spc (by decide)]
theorem between_LX (s more sep x : List UInt8) (hs : ssB s = false) (hx : ∀ c ∈ x, c ≠ 10) (h : sep = [32] ∨ sep = [10] ∨ sep = [9, 13] ∨ sep = [32, 47, 47, 32] ++ x ++ [10]) : LX (s ++ 32 :: more) = LX (s ++ 10 :: (sep ++ more)) :=
  LX_tails (by decide) (by decide) (between_skp more sep x hx h) _ s rfl hs

/-- A token that stands for itself. -/
structure Good (t : Tk) : Prop where
  next : nextL t.text = some t
  kind : t.kind ≠ 3
  head : ∃ c r, t.text = c :: r ∧ spc c = false ∧ ssB t.text = false
theorem sg_self : ∀ j, j < 29 → sgFind (sgL.getD j []) = some j ∧ ltr ((sgL.getD j []).headD 0) = false ∧ spc ((sgL.getD j []).headD 0) = false ∧ ssB (sgL.getD j []) = false := by decide +kernel
theorem ltr_all : ∀ n : Fin 256, letterB (n.val : Int) = true → spaceB (n.val : Int) = false ∧ n.val ≠ 47 := by decide +kernel
theorem ltr_facts {c : UInt8} (h : ltr c = true) : spc c = false ∧ c ≠ 47 := by
  have := ltr_all ⟨c.toNat, c.toNat_lt⟩ h
  exact ⟨this.1, fun e => this.2 (by rw [e]; rfl)⟩
theorem ssB_ltr : ∀ {l : List UInt8}, (∀ c ∈ l, ltr c = true) → ssB l = false
  | [], _ => rfl
  | [c], _ => rfl
  | c :: d :: r, h => by
    simp only [ssB, Bool.or_eq_false_iff]
    refine ⟨?_, ssB_ltr fun e he => h e (by simp only [List.mem_cons] at he ⊢; exact .inr he)⟩
    have := (ltr_facts (h c (by simp))).2
    simp [this]
theorem takeWhile_mem {p : UInt8 → Bool} : ∀ {l : List UInt8} {c : UInt8}, c ∈ l.takeWhile p → p c = true
  | [], _, h => by cases h
  | d :: l, c, h => by
    by_cases hd : p d = true
    · rw [List.takeWhile_cons_of_pos hd] at h
      rcases List.mem_cons.1 h with rfl | h
      · exact hd
      · exact takeWhile_mem h
    · rw [List.takeWhile_cons_of_neg hd] at h; cases h
theorem takeWhile_self {p : UInt8 → Bool} : ∀ {l : List UInt8}, (∀ c ∈ l, p c = true) → l.takeWhile p = l
  | [], _ => rfl
  | d :: l, h => by rw [List.takeWhile_cons_of_pos (h d (by simp)), takeWhile_self fun c hc => h c (by simp [hc])]
theorem good_of {l : List UInt8} {t : Tk} (h : nextL l = some t) (hk : t.kind ≠ 3) : Good t := by
  match l, h with
  | [], h =>
    obtain rfl := Option.some.inj h
    exact absurd rfl hk
  | c :: r, h =>
    simp only [nextL] at h
    by_cases hl : ltr c = true
    · rw [if_pos hl] at h
      have htw : (c :: r).takeWhile ltr = c :: r.takeWhile ltr := List.takeWhile_cons_of_pos hl
      have hall : ∀ e ∈ c :: r.takeWhile ltr, ltr e = true := fun e he => takeWhile_mem (l := c :: r) (by rw [htw]; exact he)
      have hself := takeWhile_self hall
      rw [htw] at h
      have hd : (∃ e q, (c :: r.takeWhile ltr) = e :: q ∧ spc e = false ∧ ssB (c :: r.takeWhile ltr) = false) := ⟨_, _, rfl, (ltr_facts hl).1, ssB_ltr hall⟩
      by_cases hg : dgt c = true
      · rw [if_pos hg] at h
        cases hv : numL (c :: r.takeWhile ltr) with
        | none => rw [hv] at h; cases h
        | some v =>
          rw [hv] at h
          obtain rfl := Option.some.inj h
          refine ⟨?_, hk, hd⟩
          simp only [nextL]
          rw [if_pos hl, if_pos hg, hself, hv]
      · rw [if_neg hg] at h
        obtain rfl := Option.some.inj h
        refine ⟨?_, hk, hd⟩
        simp only [nextL]
        rw [if_pos hl, if_neg hg, hself]
    · rw [if_neg hl] at h
      cases hf : sgFind (c :: r) with
      | none => rw [hf] at h; cases h
      | some i =>
        rw [hf] at h
        obtain rfl := Option.some.inj h
        have h1 := sgFindI_some hf
        have h2 := sg_self i (by omega)
        have h3 := (sgL_pos i (by omega)).1
        have hform : ∃ e q, sgL.getD i [] = e :: q := by
          cases hx : sgL.getD i [] with
          | nil => rw [hx] at h3; simp at h3
          | cons e q => exact ⟨e, q, rfl⟩
        obtain ⟨e, q, hx⟩ := hform
        refine ⟨?_, hk, e, q, hx, ?_, h2.2.2.2⟩
        · dsimp only
          have h4 := h2.1
          have h5 := h2.2.1
          rw [hx] at h4 h5 ⊢
          simp only [nextL]
          simp only [List.headD_cons] at h5
          rw [if_neg (by rw [h5]; exact Bool.false_ne_true), h4]
          dsimp only
          rw [hx]
        · have h5 := h2.2.2.1
          rw [hx] at h5; exact h5
theorem skp_self {u A : List UInt8} (h : ∃ c r, u = c :: r ∧ spc c = false ∧ ssB u = false) (hA : A = [] ∨ ∃ a B, A = a :: B ∧ spc a = true) : skp (u ++ A) = u ++ A := by
  obtain ⟨c, r, rfl, hc, hss⟩ := h
  rw [skp_eq]
  have e1 : (c :: r ++ A).dropWhile spc = c :: r ++ A := by rw [List.cons_append, List.dropWhile_cons_of_neg (by rw [hc]; exact Bool.false_ne_true)]
  rw [e1, if_neg]
  intro hp
  obtain ⟨q, hq⟩ := prefix2 hp
  cases r with
  | nil =>
    rcases hA with rfl | ⟨a, B, rfl, ha⟩
    · simp at hq
    · simp at hq
      exact (spc_facts ha).2.1 hq.2.1
  | cons d r =>
    simp at hq
    exact ssB_head hss ⟨hq.1, hq.2.1⟩
theorem skp_nil : skp [] = [] := by rw [skp_eq]; rfl
theorem LX_nil : LX [] = some [⟨3, [], 0⟩] := by rw [LX_eq, skp_nil]; rfl
/-- Texts with blanks between. -/
def joinB : List (List UInt8) → List UInt8
  | [] => []
  | [t] => t
  | t :: u :: r => t ++ 32 :: joinB (u :: r)
theorem LX_join : ∀ gs : List Tk, (∀ g ∈ gs, Good g) → LX (joinB (gs.map (·.text))) = some (gs ++ [⟨3, [], 0⟩])
  | [], _ => LX_nil
  | [t], h => by
    have hg := h t (by simp)
    have hs := skp_self (A := []) hg.head (.inl rfl)
    rw [List.append_nil] at hs
    have hk := hg.kind
    have hn := hg.next
    show LX t.text = _
    rw [LX_eq, hs, hn]
    dsimp only
    rw [if_neg hk, List.drop_length, LX_nil]; rfl
  | t :: u :: r, h => by
    have hg := h t (by simp)
    have hs := skp_self (A := 32 :: joinB ((u :: r).map (·.text))) hg.head (.inr ⟨_, _, rfl, by decide⟩)
    have hne : t.text ≠ [] := by obtain ⟨c, q, hc, _⟩ := hg.head; rw [hc]; simp
    show LX (t.text ++ 32 :: joinB ((u :: r).map (·.text))) = _
    rw [LX_eq, hs, nextL_app (by decide) _ hne, hg.next]
    dsimp only
    rw [if_neg hg.kind, List.drop_left, LX_skp (skp_cons_spc (by decide) _), LX_join (u :: r) fun g hgm => h g (by simp only [List.mem_cons] at hgm ⊢; exact .inr hgm)]
    rfl
theorem joinB_len : ∀ (gs : List (List UInt8)) (n : Nat), (∀ g ∈ gs, 0 < g.length) → (gs.map List.length).sum ≤ n → (joinB gs).length ≤ 2 * n
  | [], n, _, _ => by simp [joinB]
  | [t], n, h, hs => by simp [joinB] at hs ⊢; omega
  | t :: u :: r, n, h, hs => by
    have h1 := h t (by simp)
    simp only [List.map_cons, List.sum_cons] at hs
    have := joinB_len (u :: r) (n - t.length) (fun g hg => h g (by simp only [List.mem_cons] at hg ⊢; exact .inr hg)) (by simp only [List.map_cons, List.sum_cons]; omega)
    simp only [joinB, List.length_append, List.length_cons]
    omega
/-- The tokens of a text: each stands for itself, the end last, together no longer than the text. -/
theorem LX_form : ∀ (n : Nat) (l : List UInt8) (ts : List Tk), l.length = n → LX l = some ts → ∃ gs, ts = gs ++ [⟨3, [], 0⟩] ∧ (∀ g ∈ gs, Good g) ∧ ((gs.map (·.text)).map List.length).sum ≤ n := by
  intro n
  induction n using Nat.strongRecOn with
  | ind n ih =>
    intro l ts hn h
    rw [LX_eq] at h
    cases ht : nextL (skp l) with
    | none => rw [ht] at h; cases h
    | some t =>
      rw [ht] at h
      dsimp only at h
      by_cases hk : t.kind = 3
      · rw [if_pos hk] at h
        obtain rfl := Option.some.inj h
        have he : t = ⟨3, [], 0⟩ := by
          cases hs : skp l with
          | nil => rw [hs] at ht; exact (Option.some.inj ht).symm
          | cons c r =>
            rw [hs] at ht
            simp only [nextL] at ht
            split at ht
            · split at ht
              · split at ht
                · obtain rfl := Option.some.inj ht; simp at hk
                · cases ht
              · obtain rfl := Option.some.inj ht; simp at hk
            · split at ht
              · obtain rfl := Option.some.inj ht; simp at hk
              · cases ht
        exact ⟨[], by rw [he]; rfl, by simp, by simp⟩
      · rw [if_neg hk] at h
        obtain ⟨r, hr, rfl⟩ := Option.map_eq_some_iff.1 h
        have hz := nextL_pos ht hk
        have hsl := skp_len l
        obtain ⟨gs, hgs, hgood, hsum⟩ := ih ((skp l).drop t.text.length).length (by rw [List.length_drop]; omega) _ r rfl hr
        refine ⟨t :: gs, by rw [hgs]; rfl, ?_, ?_⟩
        · intro g hg
          rcases List.mem_cons.1 hg with rfl | hg
          · exact good_of ht hk
          · exact hgood g hg
        · rw [List.length_drop] at hsum
          simp only [List.map_cons, List.sum_cons]
          omega
end Go.Proofs.YtdimhoilfopndaaDoor
