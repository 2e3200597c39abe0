/- Layer 6: words for the laws' walks. Conditions: the listed variables lie as the program lays them; the arguments read as lists. -/
import Derived.Test.YtaibjaienhnckaaGreatDoorZv
import Derived.Test.YtaibjaienhnckaaGreatDoorZt
set_option linter.unusedVariables false
set_option linter.unusedSimpArgs false
namespace Go.Proofs.YtaibjaienhnckaaGreatDoor
open Go.RowKit Go.Proofs.YtaibjaienhnckaaGreatDoorW.PrintWords Go.Proofs.YtaibjaienhnckaaGreatDoorW.PrintLast Go.Proofs.YtaibjaienhnckaaGreatDoorW.PrintMore Go.Proofs.YtaibjaienhnckaaGreatDoor.PCnfFollows
/-- A row of one clause that a walk has laid. -/
theorem one_C {w : World} {A : Option Addr} {ca N : Nat} {a : List Int} (hca : a.length ≤ ca) (Ha : Kd.C (Kd.int .i64) w A a.length a) (h0 : w.cell? ⟨N, 0, none⟩ = some (.slice A a.length ca)) : Kd.C (Kd.slice 3 (Kd.int .i64)) w (some ⟨N, 0, none⟩) 1 [a] := by
  refine ⟨rfl, by decide, fun _ => ⟨_, rfl, fun j p hp => ?_⟩⟩
  match j, hp with
  | 0, hp =>
    simp only [List.getElem?_cons_zero, Option.some.injEq] at hp
    subst hp
    refine ⟨[.slice A a.length ca], rfl, ⟨_, _, rfl, hca, Ha⟩, fun i u hu => ?_⟩
    cases i with
    | succ i => simp at hu
    | zero =>
      simp only [List.getElem?_cons_zero, Option.some.injEq] at hu
      subst hu
      simpa [Kd.slice, Addr.add] using h0
  | j + 1, hp => simp at hp
theorem C_more {W w1 : World} {base : Nat} {v v1 : Value} {xs : List (List Int)} {A : Option Addr} {c : Nat} {x : List Int} {inner : List Value} (hr : Reps ((Kd.slice 3 (Kd.int .i64)).M W base (fun k => True ∧ some k ≠ v.ownBlock)) 1 xs inner) (hg : W.grownBy w1 v.ownBlock) (ho : w1.ownsRow base 23 1 v1 (xs.length + 1) (inner ++ [.slice A x.length c])) (hx : Kd.C (Kd.int .i64) w1 A x.length x) (hc : x.length ≤ c) : ∃ A' c', v1 = .slice A' (xs ++ [x]).length c' ∧ (xs ++ [x]).length ≤ c' ∧ Kd.C (Kd.slice 3 (Kd.int .i64)) w1 A' (xs ++ [x]).length (xs ++ [x]) := by
  have h1 : Reps ((Kd.slice 3 (Kd.int .i64)).K w1) 1 (xs ++ [x]) (inner ++ [.slice A x.length c]) := (hr.imp_ fun p cs hp => (Kd.slice 3 (Kd.int .i64)).K_of_M (Kd.M_grown hp hg (fun k hk => hk.2))).snoc ⟨A, c, rfl, hc, hx⟩ rfl
  exact OwnRow.reads (R := (Kd.slice 3 (Kd.int .i64)).K w1) (e := 23) (size := 1) (base := base) ⟨_, by rw [List.length_append, List.length_singleton]; exact ho, h1⟩
theorem Drawn0.ov {w w' : World} (h : Drawn0 w w') : IsOv w w' := IsOv.of_below h.below
theorem copied_C (w : World) (A0 : Option Addr) (c0 : Nat) (l : List (List Int)) (hl : Kd.C (Kd.slice 3 (Kd.int .i64)) w A0 l.length l) (hc0 : l.length ≤ c0) (hll : l.length ≤ 1000) (hcl : ∀ c ∈ l, c.length ≤ 1000) :
    Calls Tryz.prog 9 #[.slice A0 l.length c0] w fun e w' => ∃ v : Value, e = .returned v ∧ Kd.R (Kd.slice 3 (Kd.int .i64)) 23 w' w.heap.size (fun _ => True) v l ∧ IsOv w w' := by
  obtain ⟨k, hk⟩ := (copied_ends l hll hcl).out
  refine Calls.mono (skualaw06_copied.calls k A0 c0 l l w hl hc0 hk) ?_
  rintro e w' ⟨v, rfl, h1, h2⟩
  exact ⟨v, rfl, Kd.S_R h1, IsOv.of_below h2⟩
theorem mine_C (w : World) (A0 : Option Addr) (c0 : Nat) (l : List Int) (hl : Kd.C (Kd.int .i64) w A0 l.length l) (hc0 : l.length ≤ c0) (hll : l.length ≤ 1000000) :
    Calls Tryz.prog 12 #[.slice A0 l.length c0] w fun e w' => ∃ v : Value, e = .returned v ∧ Kd.R (Kd.int .i64) 3 w' w.heap.size (fun _ => True) v l ∧ IsOv w w' := by
  refine Calls.mono (skualaw06_mine.calls A0 c0 l l w hl hc0 (mine_some l hll)) ?_
  rintro e w' ⟨v, rfl, h1, h2⟩
  exact ⟨v, rfl, h1, IsOv.of_below h2⟩
theorem has_C (w : World) (A0 : Option Addr) (c0 : Nat) (l : List Int) (n : Int) (hl : Kd.C (Kd.int .i64) w A0 l.length l) (hc0 : l.length ≤ c0) (hll : l.length ≤ 1000000) :
    Calls Tryz.prog 14 #[.slice A0 l.length c0, .int .i64 n] w fun e w' => e = .returned (.bool (decide (n ∈ l))) ∧ Drawn0 w w' := by
  obtain ⟨k, hk⟩ := (has_ends l n hll).out
  exact skuaref06_Has.calls k A0 c0 l n _ w hl hc0 hk
end Go.Proofs.YtaibjaienhnckaaGreatDoor
