/- The printed functions of layer 6 end, and say what they say. Conditions: lists are short. -/
import Derived.Test.YtaibjaienhnckaaGreatDoorZb
import Derived.Test.YtaibjaienhnckaaGreatDoorZu
set_option linter.unusedVariables false
set_option linter.unusedSimpArgs false
namespace Go.Proofs.YtaibjaienhnckaaGreatDoor
open Go.RowKit Go.Proofs.YtaibjaienhnckaaGreatDoorW.PrintWords Go.Proofs.YtaibjaienhnckaaGreatDoorW.PrintLast Go.Proofs.YtaibjaienhnckaaGreatDoorW.PrintMore Go.Proofs.YtaibjaienhnckaaGreatDoor.PCnfFollows
/-- With fuel enough it comes to r. -/
def Ends {α : Type} (F : Nat → Option α) (r : α) : Prop := ∃ k0, ∀ k, k0 ≤ k → F k = some r
theorem Ends.out {α : Type} {F : Nat → Option α} {r : α} (h : Ends F r) : ∃ k, F k = some r := by
  obtain ⟨k0, h⟩ := h
  exact ⟨k0, h k0 (Nat.le_refl _)⟩
theorem Ends.succ {α : Type} {F G : Nat → Option α} {r : α} (h : Ends F r) (e : ∀ k, G (k + 1) = F k) : Ends G r := by
  obtain ⟨k0, h⟩ := h
  refine ⟨k0 + 1, fun k hk => ?_⟩
  obtain ⟨j, rfl⟩ : ∃ j, k = j + 1 := ⟨k - 1, by omega⟩
  rw [e]
  exact h j (by omega)
theorem Ends.both {α β : Type} {F : Nat → Option α} {G : Nat → Option β} {a : α} {b : β} (h1 : Ends F a) (h2 : Ends G b) : ∃ k0, ∀ k, k0 ≤ k → F k = some a ∧ G k = some b := by
  obtain ⟨k1, h1⟩ := h1
  obtain ⟨k2, h2⟩ := h2
  exact ⟨k1 + k2, fun k hk => ⟨h1 k (by omega), h2 k (by omega)⟩⟩
theorem Ends.now {α : Type} {G : Nat → Option α} {r : α} (e : ∀ k, G (k + 1) = some r) : Ends G r := by
  refine ⟨1, fun k hk => ?_⟩
  obtain ⟨j, rfl⟩ : ∃ j, k = j + 1 := ⟨k - 1, by omega⟩
  exact e j
theorem w1 {i n : Nat} (h : i < n) (hn : n ≤ 1000000000) : wrap64 ((i : Int) + 1) = ((i + 1 : Nat) : Int) := by
  rw [IntWalk.wrap64_in _ (by omega)]; omega
theorem few_ends (l : List (List Int)) : ∃ r, Ends (fun k => skualaw06_few.f k l) r ∧ (r = true → l.length ≤ 40 ∧ ∀ c ∈ l, c.length ≤ 20) := by
  by_cases h40 : (l.length : Int) > 40
  · exact ⟨false, ⟨0, fun k _ => by show skualaw06_few.f k l = _; unfold skualaw06_few.f; rw [if_pos h40]⟩, fun h => by cases h⟩
  · have key : ∀ j i : Nat, i + j = l.length → ∃ r, Ends (fun k => skualaw06_few.l0 k l (i : Int)) r ∧ (r = true → ∀ c ∈ l.drop i, c.length ≤ 20) := by
      intro j
      induction j with
      | zero =>
        intro i hi
        refine ⟨true, Ends.now fun k => by simp only [skualaw06_few.l0]; rw [if_neg (by omega)], fun _ c hc => ?_⟩
        rw [List.drop_of_length_le (by omega)] at hc
        cases hc
      | succ j ih =>
        intro i hi
        by_cases h20 : ((rd_L1 l (i : Int)).length : Int) > 20
        · exact ⟨false, Ends.now fun k => by simp only [skualaw06_few.l0]; rw [if_pos (by omega), if_pos (by omega), if_pos h20], fun h => by cases h⟩
        · obtain ⟨r, hr, hr2⟩ := ih (i + 1) (by omega)
          refine ⟨r, hr.succ fun k => by simp only [skualaw06_few.l0]; rw [if_pos (by omega), if_pos (by omega), if_neg h20, w1 (n := l.length) (by omega) (by omega)], fun e c hc => ?_⟩
          rw [rdL_drop (by omega)] at hc
          rcases List.mem_cons.1 hc with rfl | hc
          · omega
          · exact hr2 e c hc
    obtain ⟨r, hr, hr2⟩ := key l.length 0 (by omega)
    refine ⟨r, ?_, fun e => ⟨by omega, fun c hc => hr2 e c (by simpa using hc)⟩⟩
    obtain ⟨k0, hk⟩ := hr
    exact ⟨k0, fun k h => by show skualaw06_few.f k l = _; unfold skualaw06_few.f; rw [if_neg h40]; exact hk k h⟩
theorem has_ends (l : List Int) (n : Int) (hl : l.length ≤ 1000000) : Ends (fun k => skuaref06_Has.f k l n) (decide (n ∈ l)) := by
  have key : ∀ j i : Nat, i + j = l.length → Ends (fun k => skuaref06_Has.l0 k l n (i : Int)) (decide (n ∈ l.drop i)) := by
    intro j
    induction j with
    | zero =>
      intro i hi
      rw [List.drop_of_length_le (by omega)]
      exact Ends.now fun k => by simp only [skuaref06_Has.l0]; rw [if_neg (by omega)]; rfl
    | succ j ih =>
      intro i hi
      rw [rd_drop (show i < l.length by omega)]
      by_cases h : rd l (i : Int) = n
      · exact Ends.now fun k => by simp only [skuaref06_Has.l0]; rw [if_pos (by omega), if_pos (by omega), if_pos h]; simp [h]
      · have : decide (n ∈ rd l (i : Int) :: l.drop (i + 1)) = decide (n ∈ l.drop (i + 1)) := by
          simp [List.mem_cons, fun e : n = rd l (i : Int) => h e.symm]
          intro e
          exact absurd e.symm h
        rw [this]
        exact (ih (i + 1) (by omega)).succ fun k => by simp only [skuaref06_Has.l0]; rw [if_pos (by omega), if_pos (by omega), if_neg h, w1 (n := l.length) (by omega) (by omega)]
  have := key l.length 0 (by omega)
  rw [List.drop_zero] at this
  exact this
theorem right_some (n : Int) : skuaref06_Right.f n = some (decide (n ≠ 0 ∧ -1048576 ≤ n ∧ n ≤ 1048576)) := by
  unfold skuaref06_Right.f
  by_cases h : n = 0
  · rw [if_pos h]; simp [h]
  · rw [if_neg h]
    by_cases h2 : n ≥ -1048576
    · rw [if_pos h2]; simp [h, h2]
    · rw [if_neg h2]; simp [h]; omega
theorem check_ends (l : List (List Int)) (hl : l.length ≤ 1000) (hc : ∀ c ∈ l, c.length ≤ 1000) : ∃ r, Ends (fun k => skuaref06_Check.f k l) r ∧ (r = 0 → ∀ c ∈ l, ∀ n ∈ c, n ≠ 0 ∧ -1048576 ≤ n ∧ n ≤ 1048576) := by
  have key : ∀ j i : Nat, i + j = l.length → ∃ r, Ends (fun k => skuaref06_Check.l0 k l (i : Int)) r ∧ (r = 0 → ∀ c ∈ l.drop i, ∀ n ∈ c, n ≠ 0 ∧ -1048576 ≤ n ∧ n ≤ 1048576) := by
    intro j
    induction j with
    | zero =>
      intro i hi
      refine ⟨0, Ends.now fun k => by simp only [skuaref06_Check.l0]; rw [if_neg (by omega)], fun _ c hc => ?_⟩
      rw [List.drop_of_length_le (by omega)] at hc
      cases hc
    | succ j ih =>
      intro i hi
      have hil : i < l.length := by omega
      have hcl := hc _ (rdL_mem hil)
      have inner : ∀ m q : Nat, q + m = (rd_L1 l (i : Int)).length → ∃ r, Ends (fun k => skuaref06_Check.l1 k l (i : Int) (q : Int)) r ∧ (r = 0 → (∀ n ∈ (rd_L1 l (i : Int)).drop q, n ≠ 0 ∧ -1048576 ≤ n ∧ n ≤ 1048576) ∧ ∀ c ∈ l.drop (i + 1), ∀ n ∈ c, n ≠ 0 ∧ -1048576 ≤ n ∧ n ≤ 1048576) := by
        intro m
        induction m with
        | zero =>
          intro q hq
          obtain ⟨r, hr, hr2⟩ := ih (i + 1) (by omega)
          refine ⟨r, hr.succ fun k => by simp only [skuaref06_Check.l1]; rw [if_pos (by omega), if_pos (by omega), if_neg (by omega), w1 (n := l.length) (by omega) (by omega)], fun e => ⟨fun n hn => ?_, hr2 e⟩⟩
          rw [List.drop_of_length_le (by omega)] at hn
          cases hn
        | succ m ih2 =>
          intro q hq
          have hql : q < (rd_L1 l (i : Int)).length := by omega
          by_cases hg : rd (rd_L1 l (i : Int)) (q : Int) ≠ 0 ∧ -1048576 ≤ rd (rd_L1 l (i : Int)) (q : Int) ∧ rd (rd_L1 l (i : Int)) (q : Int) ≤ 1048576
          · obtain ⟨r, hr, hr2⟩ := ih2 (q + 1) (by omega)
            refine ⟨r, hr.succ fun k => by simp only [skuaref06_Check.l1]; rw [if_pos (by omega), if_pos (by omega), if_pos (by omega), if_pos (by omega), right_some, decide_eq_true hg, Option.bind_some, if_pos rfl, w1 (n := (rd_L1 l (i : Int)).length) (by omega) (by omega)], fun e => ⟨fun n hn => ?_, (hr2 e).2⟩⟩
            rw [rd_drop hql] at hn
            rcases List.mem_cons.1 hn with rfl | hn
            · exact hg
            · exact (hr2 e).1 n hn
          · exact ⟨60, Ends.now fun k => by simp only [skuaref06_Check.l1]; rw [if_pos (by omega), if_pos (by omega), if_pos (by omega), if_pos (by omega), right_some, decide_eq_false hg, Option.bind_some, if_neg (by decide)], fun e => by cases e⟩
      obtain ⟨r, hr, hr2⟩ := inner (rd_L1 l (i : Int)).length 0 (by omega)
      refine ⟨r, hr.succ fun k => by simp only [skuaref06_Check.l0]; rw [if_pos (by omega)]; rfl, fun e c hc => ?_⟩
      rw [rdL_drop hil] at hc
      rcases List.mem_cons.1 hc with rfl | hc
      · exact fun n hn => (hr2 e).1 n (by simpa using hn)
      · exact (hr2 e).2 c hc
  obtain ⟨r, hr, hr2⟩ := key l.length 0 (by omega)
  exact ⟨r, hr, fun e c hc => hr2 e c (by simpa using hc)⟩
theorem copied_ends (l : List (List Int)) (hl : l.length ≤ 1000) (hc : ∀ c ∈ l, c.length ≤ 1000) : Ends (fun k => skualaw06_copied.f k l) l := by
  have key : ∀ j i : Nat, ∀ xs : List (List Int), i + j = l.length → xs = l.take i → Ends (fun k => skualaw06_copied.l0 k l xs (i : Int)) l := by
    intro j
    induction j with
    | zero =>
      intro i xs hi hx
      refine Ends.now fun k => ?_
      simp only [skualaw06_copied.l0]
      rw [if_neg (by omega), hx, List.take_of_length_le (by omega)]
    | succ j ih =>
      intro i xs hi hx
      have hil : i < l.length := by omega
      have hcl := hc _ (rdL_mem hil)
      have hxl : xs.length ≤ 1000 := by rw [hx, List.length_take]; omega
      refine (ih (i + 1) (xs ++ [[] ++ rd_L1 l (i : Int)]) (by omega) ?_).succ fun k => ?_
      · rw [hx, List.nil_append, List.take_add_one]
        unfold rd_L1
        simp [List.getD, List.getElem?_eq_getElem hil]
      · simp only [skualaw06_copied.l0, Option.bind_some]
        rw [if_pos (by omega), if_pos (by omega), if_pos (by simp; omega), if_pos (by omega), w1 (n := l.length) (by omega) (by omega)]
  exact key l.length 0 [] (by omega) rfl
theorem mine_some (l : List Int) (hl : l.length ≤ 1000000) : skualaw06_mine.f l = some l := by
  unfold skualaw06_mine.f
  rw [Option.bind_some, if_pos (by simp; omega), List.nil_append]
theorem same_ends (l : List Int) (hl : l.length ≤ 1000000) : Ends (fun k => skuaref06_Same.f k l l) true := by
  have key : ∀ j i : Nat, i + j = l.length → Ends (fun k => skuaref06_Same.l0 k l l (i : Int)) true := by
    intro j
    induction j with
    | zero =>
      intro i hi
      exact Ends.now fun k => by simp only [skuaref06_Same.l0]; rw [if_neg (by omega)]
    | succ j ih =>
      intro i hi
      exact (ih (i + 1) (by omega)).succ fun k => by simp only [skuaref06_Same.l0]; rw [if_pos (by omega), if_pos (by omega), if_pos (by omega), if_pos trivial, w1 (n := l.length) (by omega) (by omega)]
  obtain ⟨k0, hk⟩ := key l.length 0 (by omega)
  exact ⟨k0, fun k h => by show skuaref06_Same.f k l l = _; unfold skuaref06_Same.f; rw [if_pos rfl]; exact hk k h⟩
/-- Each clause has a literal that is true. -/
def allB (l : List (List Int)) (is : List Int) : Bool := l.all fun c => c.any fun n => decide (n ∈ is)
theorem holds_ends (l : List (List Int)) (is : List Int) (hl : l.length ≤ 1000) (hc : ∀ c ∈ l, c.length ≤ 1000) (his : is.length ≤ 1000) : Ends (fun k => skuaref06_Holds.f k l is) (allB l is) := by
  have key : ∀ j i : Nat, i + j = l.length → Ends (fun k => skuaref06_Holds.l0 k l is (i : Int)) (allB (l.drop i) is) := by
    intro j
    induction j with
    | zero =>
      intro i hi
      rw [List.drop_of_length_le (by omega)]
      exact Ends.now fun k => by simp only [skuaref06_Holds.l0]; rw [if_neg (by omega)]; rfl
    | succ j ih =>
      intro i hi
      have hil : i < l.length := by omega
      have hcl := hc _ (rdL_mem hil)
      have inner : ∀ m q : Nat, ∀ b : Bool, q + m = (rd_L1 l (i : Int)).length → Ends (fun k => skuaref06_Holds.l1 k l is (i : Int) b (q : Int)) ((b || ((rd_L1 l (i : Int)).drop q).any fun n => decide (n ∈ is)) && allB (l.drop (i + 1)) is) := by
        intro m
        induction m with
        | zero =>
          intro q b hq
          rw [List.drop_of_length_le (by omega)]
          cases b
          · exact Ends.now fun k => by simp only [skuaref06_Holds.l1]; rw [if_pos (by omega), if_pos (by omega), if_neg (by omega), if_neg (by decide)]; rfl
          · have := ih (i + 1) (by omega)
            refine (show Ends _ _ from by simpa using this.succ (G := fun k => skuaref06_Holds.l1 k l is (i : Int) true (q : Int)) fun k => by simp only [skuaref06_Holds.l1]; rw [if_pos (by omega), if_pos (by omega), if_neg (by omega), if_pos trivial, w1 (n := l.length) (by omega) (by omega)])
        | succ m ih2 =>
          intro q b hq
          have hql : q < (rd_L1 l (i : Int)).length := by omega
          rw [rd_drop hql]
          cases b
          · have h1 := has_ends is (rd (rd_L1 l (i : Int)) (q : Int)) (by omega)
            have h2 := ih2 (q + 1) (decide (rd (rd_L1 l (i : Int)) (q : Int) ∈ is)) (by omega)
            obtain ⟨k0, hk⟩ := h1.both h2
            refine ⟨k0 + 1, fun k hk9 => ?_⟩
            obtain ⟨j9, rfl⟩ : ∃ j9, k = j9 + 1 := ⟨k - 1, by omega⟩
            obtain ⟨a1, a2⟩ := hk j9 (by omega)
            simp only [skuaref06_Holds.l1]
            rw [if_pos (by omega), if_pos (by omega), if_pos (by omega), if_neg (by decide), if_pos (by omega), a1, Option.bind_some, w1 (n := (rd_L1 l (i : Int)).length) (by omega) (by omega), a2]
            simp
          · have h2 := ih2 (q + 1) true (by omega)
            refine (show Ends _ _ from by simpa using h2.succ (G := fun k => skuaref06_Holds.l1 k l is (i : Int) true (q : Int)) fun k => by simp only [skuaref06_Holds.l1]; rw [if_pos (by omega), if_pos (by omega), if_pos (by omega), if_pos trivial, w1 (n := (rd_L1 l (i : Int)).length) (by omega) (by omega)])
      have h9 := inner (rd_L1 l (i : Int)).length 0 false (by omega)
      rw [rdL_drop hil]
      refine (show Ends _ _ from by simpa [allB] using h9.succ (G := fun k => skuaref06_Holds.l0 k l is (i : Int)) fun k => by simp only [skuaref06_Holds.l0]; rw [if_pos (by omega)]; rfl)
  have := key l.length 0 (by omega)
  rw [List.drop_zero] at this
  exact this
theorem most_ends (l : List (List Int)) (hl : l.length ≤ 1000) (hc : ∀ c ∈ l, c.length ≤ 1000) (hs : ∀ c ∈ l, ∀ n ∈ c, n ≠ 0 ∧ -1048576 ≤ n ∧ n ≤ 1048576) : ∃ r, Ends (fun k => skuaref06_Most.f k l) r := by
  have key : ∀ j i : Nat, ∀ a : Int, i + j = l.length → ∃ r, Ends (fun k => skuaref06_Most.l0 k l a (i : Int)) r := by
    intro j
    induction j with
    | zero =>
      intro i a hi
      exact ⟨a, Ends.now fun k => by simp only [skuaref06_Most.l0]; rw [if_neg (by omega)]⟩
    | succ j ih =>
      intro i a hi
      have hil : i < l.length := by omega
      have hcl := hc _ (rdL_mem hil)
      have hsl := hs _ (rdL_mem hil)
      have inner : ∀ m q : Nat, ∀ a : Int, q + m = (rd_L1 l (i : Int)).length → ∃ r, Ends (fun k => skuaref06_Most.l1 k l a (i : Int) (q : Int)) r := by
        intro m
        induction m with
        | zero =>
          intro q a hq
          obtain ⟨r, hr⟩ := ih (i + 1) a (by omega)
          exact ⟨r, hr.succ fun k => by simp only [skuaref06_Most.l1]; rw [if_pos (by omega), if_pos (by omega), if_neg (by omega), w1 (n := l.length) (by omega) (by omega)]⟩
        | succ m ih2 =>
          intro q a hq
          have hql : q < (rd_L1 l (i : Int)).length := by omega
          have hn := hsl _ (rd_mem hql)
          generalize hnn : rd (rd_L1 l (i : Int)) (q : Int) = n at *
          have hr1 : skuaref06_Right.f n = some true := by rw [right_some, decide_eq_true hn]
          have hng : wrap64 (-n) = -n := IntWalk.wrap64_in _ (by omega)
          have hr2 : skuaref06_Right.f (-n) = some true := by rw [right_some, decide_eq_true (by omega)]
          have step : ∀ b : Int, ∃ r, Ends (fun k => skuaref06_Most.l1 k l b (i : Int) (wrap64 ((q : Int) + 1))) r := fun b => by
            rw [w1 (n := (rd_L1 l (i : Int)).length) (by omega) (by omega)]
            exact ih2 (q + 1) b (by omega)
          have hj : ∃ r, Ends (fun k => skuaref06_Most.j2 k l a (i : Int) (q : Int) n (decide (n < 0))) r := by
            by_cases h0 : n < 0
            · by_cases h1 : -n > a
              · obtain ⟨r, hr⟩ := step (-n)
                exact ⟨r, hr.succ fun k => by simp only [skuaref06_Most.j2]; rw [decide_eq_true h0, if_pos rfl, hng, hr2, Option.bind_some, if_pos rfl, if_pos h1]⟩
              · obtain ⟨r, hr⟩ := step a
                exact ⟨r, hr.succ fun k => by simp only [skuaref06_Most.j2]; rw [decide_eq_true h0, if_pos rfl, hng, hr2, Option.bind_some, if_pos rfl, if_neg h1]⟩
            · by_cases h1 : n > a
              · obtain ⟨r, hr⟩ := step n
                exact ⟨r, hr.succ fun k => by simp only [skuaref06_Most.j2]; rw [decide_eq_false h0, if_neg (by decide), hr1, Option.bind_some, if_pos rfl, if_pos h1]⟩
              · obtain ⟨r, hr⟩ := step a
                exact ⟨r, hr.succ fun k => by simp only [skuaref06_Most.j2]; rw [decide_eq_false h0, if_neg (by decide), hr1, Option.bind_some, if_pos rfl, if_neg h1]⟩
          obtain ⟨r, hr⟩ := hj
          exact ⟨r, hr.succ fun k => by simp only [skuaref06_Most.l1]; rw [if_pos (by omega), if_pos (by omega), if_pos (by omega), if_pos (by omega), hnn, hr1, Option.bind_some, if_pos rfl]⟩
      obtain ⟨r, hr⟩ := inner (rd_L1 l (i : Int)).length 0 a (by omega)
      exact ⟨r, hr.succ fun k => by simp only [skuaref06_Most.l0]; rw [if_pos (by omega)]; rfl⟩
  exact key l.length 0 0 (by omega)
/-- A way to make variables true or false, so far. -/
def wayTo (m : List Int) (q : Nat) : Prop := m.length = q ∧ (∀ x ∈ m, (1 ≤ x ∧ x ≤ q) ∨ (1 ≤ -x ∧ -x ≤ q)) ∧ apart m
theorem way_step {m : List Int} {q : Nat} {y : Int} (h : wayTo m q) (hy : y = (q : Int) + 1 ∨ y = -(q : Int) - 1) : wayTo (m ++ [y]) (q + 1) := by
  obtain ⟨h1, h2, h3⟩ := h
  refine ⟨by simp [h1], fun x hx => ?_, fun x hx hnx => ?_⟩
  · rcases List.mem_append.1 hx with hx | hx
    · have := h2 x hx; omega
    · rw [List.mem_singleton.1 hx]; omega
  · rcases List.mem_append.1 hx with hx | hx
    · rcases List.mem_append.1 hnx with hnx | hnx
      · exact h3 x hx hnx
      · have := h2 x hx
        have := List.mem_singleton.1 hnx
        omega
    · rcases List.mem_append.1 hnx with hnx | hnx
      · have := h2 _ hnx
        have := List.mem_singleton.1 hx
        omega
      · have := List.mem_singleton.1 hx
        have := List.mem_singleton.1 hnx
        omega
/-- What each model is. -/
def modelOf (l : List (List Int)) (m : List Int) : Prop := m.length ≤ 1000 ∧ apart m ∧ allB l m = true
theorem models_ends (l : List (List Int)) (hl : l.length ≤ 1000) (hc : ∀ c ∈ l, c.length ≤ 1000) : ∃ r, Ends (fun k => skuaref06_Models.f k l 10) r ∧ r.length ≤ 1024 ∧ ∀ m ∈ r, modelOf l m := by
  have h10 : IntKind.u64.wrap 10 = 10 := by decide
  have hsh : shl .i64 1 10 = 1024 := by kernel_rfl
  have key : ∀ j i : Nat, ∀ xs : List (List Int), i + j = 1024 → xs.length ≤ i → (∀ m ∈ xs, modelOf l m) → ∃ r, Ends (fun k => skuaref06_Models.l0 k l 10 xs (i : Int)) r ∧ r.length ≤ 1024 ∧ ∀ m ∈ r, modelOf l m := by
    intro j
    induction j with
    | zero =>
      intro i xs hi hx hm
      exact ⟨xs, Ends.now fun k => by simp only [skuaref06_Models.l0]; rw [h10, hsh, if_pos (by decide), if_neg (by omega)], by omega, hm⟩
    | succ j ih =>
      intro i xs hi hx hm
      have inner : ∀ m q : Nat, ∀ ys : List Int, q + m = 10 → wayTo ys q → ∃ r, Ends (fun k => skuaref06_Models.l1 k l 10 xs (i : Int) ys (q : Int)) r ∧ r.length ≤ 1024 ∧ ∀ m ∈ r, modelOf l m := by
        intro m
        induction m with
        | zero =>
          intro q ys hq hy
          have hyl : ys.length ≤ 1000 := by have := hy.1; omega
          have h1 := holds_ends l ys hl hc hyl
          have hw := w1 (i := i) (n := 1024) (by omega) (by omega)
          cases hb : allB l ys
          · rw [hb] at h1
            obtain ⟨r, hr, hr2⟩ := ih (i + 1) xs (by omega) (by omega) hm
            obtain ⟨k0, hk⟩ := h1.both hr
            refine ⟨r, ⟨k0 + 1, fun k hk9 => ?_⟩, hr2⟩
            obtain ⟨j9, rfl⟩ : ∃ j9, k = j9 + 1 := ⟨k - 1, by omega⟩
            obtain ⟨a1, a2⟩ := hk j9 (by omega)
            simp only [skuaref06_Models.l1]
            rw [if_neg (by omega), a1, Option.bind_some, if_neg (by decide), hw]
            exact a2
          · rw [hb] at h1
            obtain ⟨r, hr, hr2⟩ := ih (i + 1) (xs ++ [ys]) (by omega) (by simp; omega) (fun m hm9 => by
              rcases List.mem_append.1 hm9 with h | h
              · exact hm m h
              · rw [List.mem_singleton.1 h]; exact ⟨hyl, hy.2.2, hb⟩)
            obtain ⟨k0, hk⟩ := h1.both hr
            refine ⟨r, ⟨k0 + 1, fun k hk9 => ?_⟩, hr2⟩
            obtain ⟨j9, rfl⟩ : ∃ j9, k = j9 + 1 := ⟨k - 1, by omega⟩
            obtain ⟨a1, a2⟩ := hk j9 (by omega)
            simp only [skuaref06_Models.l1]
            rw [if_neg (by omega), a1, Option.bind_some, if_pos rfl, if_pos (by omega), hw]
            exact a2
        | succ m ih2 =>
          intro q ys hq hy
          have hw := w1 (i := q) (n := 10) (by omega) (by omega)
          have hyl := hy.1
          have hw2 : wrap64 (wrap64 (-(q : Int)) - 1) = -(q : Int) - 1 := by
            rw [IntWalk.wrap64_in (-(q : Int)) (by omega), IntWalk.wrap64_in _ (by omega)]
          have hu : IntKind.u64.wrap (q : Int) = (q : Int) := by
            have hq9 : q < 10 := by omega
            obtain rfl | rfl | rfl | rfl | rfl | rfl | rfl | rfl | rfl | rfl : q = 0 ∨ q = 1 ∨ q = 2 ∨ q = 3 ∨ q = 4 ∨ q = 5 ∨ q = 6 ∨ q = 7 ∨ q = 8 ∨ q = 9 := by omega
            all_goals decide
          by_cases hbit : Go.bits .and .i64 (shr .i64 (i : Int) (q : Int)) 1 = 1
          · obtain ⟨r, hr, hr2⟩ := ih2 (q + 1) (ys ++ [((q + 1 : Nat) : Int)]) (by omega) (way_step hy (.inl (by omega)))
            exact ⟨r, hr.succ fun k => by simp only [skuaref06_Models.l1]; rw [if_pos (by omega), hu, if_pos (by omega), if_pos hbit, if_pos (by omega), hw], hr2⟩
          · obtain ⟨r, hr, hr2⟩ := ih2 (q + 1) (ys ++ [-(q : Int) - 1]) (by omega) (way_step hy (.inr rfl))
            exact ⟨r, hr.succ fun k => by simp only [skuaref06_Models.l1]; rw [if_pos (by omega), hu, if_pos (by omega), if_neg hbit, if_pos (by omega), hw, hw2], hr2⟩
      obtain ⟨r, hr, hr2⟩ := inner 10 0 [] (by omega) ⟨rfl, fun x hx => (by cases hx), fun x hx => (by cases hx)⟩
      exact ⟨r, hr.succ fun k => by simp only [skuaref06_Models.l0]; rw [h10, hsh, if_pos (by decide), if_pos (by omega)]; rfl, hr2⟩
  exact key 1024 0 [] (by omega) (by simp) (fun m hm => by cases hm)
end Go.Proofs.YtaibjaienhnckaaGreatDoor
