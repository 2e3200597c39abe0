/- The plain laws of layer 6, as the laws ask them. Conditions: the literals may be; lists are short. -/
import Derived.Test.YtaibjaienhnckaaGreatDoorZw
import Derived.Test.YtaibjaienhnckaaGreatDoorZn
set_option linter.unusedVariables false
set_option linter.unusedSimpArgs false
namespace Go.Proofs.YtaibjaienhnckaaGreatDoor
open Go.RowKit Go.Proofs.YtaibjaienhnckaaGreatDoorW.PrintWords Go.Proofs.YtaibjaienhnckaaGreatDoorW.PrintLast Go.Proofs.YtaibjaienhnckaaGreatDoorW.PrintMore Go.Proofs.YtaibjaienhnckaaGreatDoor.PCnfFollows
theorem open_in {ks c : List Int} (h : (openF ks c 0 0).2 = 1) : (openF ks c 0 0).1 ∈ c := by
  rcases open_seen ks c with ⟨e, _⟩ | ⟨_, h2⟩
  · rw [e] at h; exact absurd h (by decide)
  · rcases h2 with ⟨e, _⟩ | ⟨_, ho, _⟩ | ⟨e, _⟩
    · rw [e] at h; exact absurd h (by decide)
    · exact ho
    · rw [e] at h; exact absurd h (by decide)
theorem pass_sub {U : List Int} : ∀ (l : List (List Int)) (ks : List Int) (more : Bool) (ks2 : List Int) (m2 : Bool), passF ks more l = some (ks2, m2) → (∀ c ∈ l, ∀ x ∈ c, x ∈ U) → (∀ x ∈ ks, x ∈ U) → ∀ x ∈ ks2, x ∈ U
  | [], ks, more, ks2, m2, h, _, hk => by
    simp only [passF, Option.some.injEq, Prod.mk.injEq] at h
    rw [← h.1]; exact hk
  | c :: l, ks, more, ks2, m2, h, hU, hk => by
    have hU2 : ∀ c ∈ l, ∀ x ∈ c, x ∈ U := fun c hc => hU c (List.mem_cons_of_mem _ hc)
    unfold passF at h
    split at h
    · cases h
    · split at h
      · rename_i h1
        exact pass_sub l _ _ ks2 m2 h hU2 (addK_sub hk (hU c List.mem_cons_self _ (open_in h1)))
      · exact pass_sub l _ _ ks2 m2 h hU2 hk
theorem loop_sub {U : List Int} {l : List (List Int)} (hU : ∀ c ∈ l, ∀ x ∈ c, x ∈ U) : ∀ (g : Nat) (ks : List Int) (more : Bool) (ks2 : List Int), loopF g ks more l = some (some ks2) → (∀ x ∈ ks, x ∈ U) → ∀ x ∈ ks2, x ∈ U
  | 0, ks, more, ks2, h, _ => by simp [loopF] at h
  | g + 1, ks, more, ks2, h, hk => by
    unfold loopF at h
    split at h
    · rw [← Option.some.inj (Option.some.inj h)]; exact hk
    · cases hp : passF ks false l with
      | none => rw [hp] at h; simp at h
      | some q =>
        obtain ⟨ks3, m3⟩ := q
        rw [hp] at h
        exact loop_sub hU g ks3 m3 ks2 h (pass_sub l ks false ks3 m3 hp hU hk)
theorem seed_sub {U : List Int} : ∀ (sure ks ks2 : List Int), seedF ks sure = some ks2 → (∀ x ∈ sure, x ∈ U) → (∀ x ∈ ks, x ∈ U) → ∀ x ∈ ks2, x ∈ U
  | [], ks, ks2, h, _, hk => by
    simp only [seedF, Option.some.injEq] at h
    rw [← h]; exact hk
  | n :: r, ks, ks2, h, hs, hk => by
    unfold seedF at h
    split at h
    · cases h
    · exact seed_sub r _ ks2 h (fun x hx => hs x (List.mem_cons_of_mem _ hx)) (addK_sub hk (hs n List.mem_cons_self))
theorem start_sub {l : List (List Int)} {sure ks : List Int} {g : Nat} (h : startF l sure g = some (some ks)) : ∀ x ∈ ks, x ∈ sure ++ l.flatten := by
  unfold startF at h
  cases hq : seedF [] sure with
  | none => rw [hq] at h; simp at h
  | some ks1 =>
    rw [hq] at h
    exact loop_sub (fun c hc x hx => List.mem_append_right _ (List.mem_flatten.2 ⟨c, hc, hx⟩)) g ks1 true ks h (seed_sub sure [] ks1 hq (fun x hx => List.mem_append_left _ hx) (fun x hx => by cases hx))
theorem flat_len {l : List (List Int)} {b : Nat} (h : ∀ c ∈ l, c.length ≤ b) : l.flatten.length ≤ l.length * b := by
  induction l with
  | nil => simp
  | cons c l ih =>
    have h1 := h c List.mem_cons_self
    have h2 := ih (fun c hc => h c (List.mem_cons_of_mem _ hc))
    rw [List.flatten_cons, List.length_append, List.length_cons, Nat.succ_mul]
    omega
theorem len_mul {l : List (List Int)} (h40 : l.length ≤ 40) : l.length * 20 ≤ 800 := by omega
/-- What has spread is short, and its literals may be. -/
theorem start_short {l : List (List Int)} (hz : ∀ c ∈ l, ∀ n ∈ c, n ≠ 0 ∧ -1048576 ≤ n ∧ n ≤ 1048576) (h40 : l.length ≤ 40) (h20 : ∀ c ∈ l, c.length ≤ 20) {sure : List Int} (hs : ∀ n ∈ sure, n ≠ 0 ∧ -1048576 ≤ n ∧ n ≤ 1048576) {b : Nat} (hb : sure.length ≤ b) {g : Nat} {r : Option (List Int)} (h : startF l sure g = some r) : (sortedF r).length ≤ b + 800 ∧ ∀ n ∈ sortedF r, n ≠ 0 ∧ -1048576 ≤ n ∧ n ≤ 1048576 := by
  cases r with
  | none => exact ⟨Nat.zero_le _, fun n hn => by cases hn⟩
  | some ks =>
    have hsub := start_sub h
    obtain ⟨_, _, hd, _⟩ := start_keeps (fun c hc x hx => (hz c hc x hx).1) (fun x hx => (hs x hx).1) h
    have h1 : (sortedF (some ks)).length = ks.length := by simp [sortedF, List.length_mergeSort]
    have h2 := List.Nodup.length_le_of_subset hd hsub
    rw [List.length_append] at h2
    have h3 := flat_len h20
    have h4 := len_mul h40
    refine ⟨by omega, fun n hn => ?_⟩
    rcases List.mem_append.1 (hsub n (mem_sortedF.1 hn)) with h5 | h5
    · exact hs n h5
    · obtain ⟨c, hc, hnc⟩ := List.mem_flatten.1 h5
      exact hz c hc n hnc
theorem model_holds {l : List (List Int)} {m : List Int} (h : modelOf l m) : ∀ c ∈ l, ∃ x ∈ c, x ∈ m := by
  intro c hc
  have h1 := h.2.2
  unfold allB at h1
  rw [List.all_eq_true] at h1
  have h2 := h1 c hc
  rw [List.any_eq_true] at h2
  obtain ⟨x, hx, hxm⟩ := h2
  exact ⟨x, hx, by simpa using hxm⟩
/-- The plain law of CnfFollows. -/
theorem follows_law {l M : List (List Int)} {is : List Int} {g : Nat} {r : Option (List Int)} (hM : ∀ m ∈ M, modelOf (l ++ is.map fun x => [x]) m) (h : startF l is g = some r) : (∀ m ∈ M, ∀ x ∈ sortedF r, x ∈ m) ∧ (r.isSome = true ∨ M = []) := by
  have one : ∀ m ∈ M, ∃ ks, r = some ks ∧ ∀ x ∈ ks, x ∈ m := by
    intro m hm
    have h1 := model_holds (hM m hm)
    refine start_model (fun x hx => (hM m hm).2.1 x hx.1 hx.2) (fun c hc => h1 c (List.mem_append_left _ hc)) (fun x hx => ?_) h
    obtain ⟨y, hy, hym⟩ := h1 [x] (List.mem_append_right _ (List.mem_map.2 ⟨x, hx, rfl⟩))
    rw [List.mem_singleton.1 hy] at hym
    exact hym
  refine ⟨fun m hm x hx => ?_, ?_⟩
  · obtain ⟨ks, rfl, hk⟩ := one m hm
    exact hk x (mem_sortedF.1 hx)
  · cases M with
    | nil => exact .inr rfl
    | cons m M =>
      obtain ⟨ks, rfl, _⟩ := one m List.mem_cons_self
      exact .inl rfl
/-- The plain law of CnfImplies. -/
theorem implies_law {a b c : List Int} {v : Int} (h : resolveF a b v = some c) {m : List Int} (hm : modelOf [a, b] m) : allB [c] m = true := by
  have h1 := model_holds hm
  obtain ⟨x, hx, hxm⟩ := resolve_sound h (fun hh => hm.2.1 v hh.1 hh.2) (h1 a (by simp)) (h1 b (by simp))
  unfold allB
  rw [List.all_eq_true]
  intro d hd
  rw [List.mem_singleton.1 hd, List.any_eq_true]
  exact ⟨x, hx, by simpa using hxm⟩
theorem implies_none {a b c : List Int} {v : Int} (h : resolveF a b v = some c) : v ∉ c ∧ -v ∉ c :=
  ⟨fun hv => ((resolve_mem h v).1 hv).2.1 rfl, fun hv => ((resolve_mem h (-v)).1 hv).2.2 rfl⟩
theorem nz_of {l : List (List Int)} (hz : ∀ c ∈ l, ∀ n ∈ c, n ≠ 0 ∧ -1048576 ≤ n ∧ n ≤ 1048576) : ∀ c ∈ l, ∀ x ∈ c, x ≠ 0 := fun c hc x hx => (hz c hc x hx).1
theorem small_of {c : List Int} (h : ∀ n ∈ c, n ≠ 0 ∧ -1048576 ≤ n ∧ n ≤ 1048576) : small c := fun n hn => ⟨(h n hn).2.1, (h n hn).2.2⟩
theorem smallAll_of {l : List (List Int)} (h20 : ∀ c ∈ l, c.length ≤ 20) (hz : ∀ c ∈ l, ∀ n ∈ c, n ≠ 0 ∧ -1048576 ≤ n ∧ n ≤ 1048576) : smallAll l := fun c hc => ⟨by have := h20 c hc; omega, small_of (hz c hc)⟩
/-- One literal's row, laid by the walk. -/
theorem M_one {W : World} {base : Nat} (x : Int) (hb : base ≤ W.heap.size) : (Kd.slice 3 (Kd.int .i64)).M (W.alloc (.cells #[.int .i64 x] 3)) base (fun k => k = W.heap.size) [x] [.slice (some ⟨W.heap.size, 0, none⟩) 1 1] := by
  refine ⟨_, rfl, fun k hk => by simp [Value.ownBlock] at hk; exact hk.symm, [.int .i64 x], ⟨rfl, .inr ⟨W.heap.size, 1, #[.int .i64 x], rfl, hb, heap_alloc_new W _, Nat.le_refl _, by decide, rfl, rfl⟩⟩, ?_⟩
  refine ⟨rfl, fun j p hj => ?_⟩
  cases j with
  | zero => simp at hj; subst hj; rfl
  | succ j => simp at hj
end Go.Proofs.YtaibjaienhnckaaGreatDoor
