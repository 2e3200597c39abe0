/- Texts of one proof, put together: PO PQ PQb PR PSa PSb PU. Conditions: as each lemma says. -/
import Derived.Test.YtdimhoilfopndaaGreatDoorA12
import Derived.Test.YtdimhoilfopndaaGreatDoorA11
set_option linter.unusedVariables false
set_option linter.unusedSimpArgs false
section
namespace Go.Proofs.YtdimhoilfopndaaGreatDoor
open Go.RowKit Go.Proofs.YtdimhoilfopndaaGreatDoorW.PrintWords
theorem stmt_shows (c : SC) (HL : LaidP c.W) (g : Nat) (I : ShS c g) (w : World) (xs : List ByteArray) (hs : List (Nat × Obj)) (n : Node) (A : Option Addr) (cap : Nat) (hd : 3 * depthN n ≤ g + 2) (hn : numsOk n = true) (h : SS c w xs hs) (ht : Tr c.W (.slice A n.kids.length cap) n.kids) (hl : xs.length + 10 * nodesN n ≤ 1000000000) : Calls Tryz.prog 67 #[.pointer (some ⟨c.p, 0, none⟩), nodeV n (.slice A n.kids.length cap)] w (PostS c xs (stmtS (g + 1) n) hs) := by
 cases k_if : (n.kind.toList == [105, 102])
 ·
  cases k_while : (n.kind.toList == [119, 104, 105, 108, 101])
  ·
   cases k_local : (n.kind.toList == [108, 111, 99, 97, 108])
   ·
    cases k_assign : (n.kind.toList == [97, 115, 115, 105, 103, 110])
    ·
     cases k_result : (n.kind.toList == [114, 101, 115, 117, 108, 116])
     ·
      cases k_nondet : (n.kind.toList == [110, 111, 110, 100, 101, 116])
      ·
       cases k_return : (n.kind.toList == [114, 101, 116, 117, 114, 110])
       ·
        cases k_assert : (n.kind.toList == [97, 115, 115, 101, 114, 116])
        ·
         cases k_assume : (n.kind.toList == [97, 115, 115, 117, 109, 101])
         ·
          have e_if : eqB n.kind ⟨#[105, 102]⟩ = false := by have h9 := k_if; rw [Lib.toList_data] at h9; exact h9
          have e_while : eqB n.kind ⟨#[119, 104, 105, 108, 101]⟩ = false := by have h9 := k_while; rw [Lib.toList_data] at h9; exact h9
          have e_local : eqB n.kind ⟨#[108, 111, 99, 97, 108]⟩ = false := by have h9 := k_local; rw [Lib.toList_data] at h9; exact h9
          have e_assign : eqB n.kind ⟨#[97, 115, 115, 105, 103, 110]⟩ = false := by have h9 := k_assign; rw [Lib.toList_data] at h9; exact h9
          have e_result : eqB n.kind ⟨#[114, 101, 115, 117, 108, 116]⟩ = false := by have h9 := k_result; rw [Lib.toList_data] at h9; exact h9
          have e_nondet : eqB n.kind ⟨#[110, 111, 110, 100, 101, 116]⟩ = false := by have h9 := k_nondet; rw [Lib.toList_data] at h9; exact h9
          have e_return : eqB n.kind ⟨#[114, 101, 116, 117, 114, 110]⟩ = false := by have h9 := k_return; rw [Lib.toList_data] at h9; exact h9
          have e_assert : eqB n.kind ⟨#[97, 115, 115, 101, 114, 116]⟩ = false := by have h9 := k_assert; rw [Lib.toList_data] at h9; exact h9
          have e_assume : eqB n.kind ⟨#[97, 115, 115, 117, 109, 101]⟩ = false := by have h9 := k_assume; rw [Lib.toList_data] at h9; exact h9
          exact shst_call c HL g I w xs hs n A cap k_if k_while k_local k_assign k_result k_nondet k_return k_assert k_assume hd hn h ht hl _ (by simp only [stmtS, Bool.or_true, Bool.true_or, Bool.or_false, Bool.false_or, Bool.or_self, Bool.false_eq_true, ↓reduceIte, e_if, e_while, e_local, e_assign, e_result, e_nondet, e_return, e_assert, e_assume])
         ·
          have hk9 : n.kind.toList = [97, 115, 115, 117, 109, 101] := by simpa using k_assume
          have k_if : (n.kind.toList == [105, 102]) = false := by rw [hk9]; rfl
          have k_while : (n.kind.toList == [119, 104, 105, 108, 101]) = false := by rw [hk9]; rfl
          have k_local : (n.kind.toList == [108, 111, 99, 97, 108]) = false := by rw [hk9]; rfl
          have k_assign : (n.kind.toList == [97, 115, 115, 105, 103, 110]) = false := by rw [hk9]; rfl
          have k_result : (n.kind.toList == [114, 101, 115, 117, 108, 116]) = false := by rw [hk9]; rfl
          have k_nondet : (n.kind.toList == [110, 111, 110, 100, 101, 116]) = false := by rw [hk9]; rfl
          have k_return : (n.kind.toList == [114, 101, 116, 117, 114, 110]) = false := by rw [hk9]; rfl
          have k_assert : (n.kind.toList == [97, 115, 115, 101, 114, 116]) = false := by rw [hk9]; rfl
          have e_if : eqB n.kind ⟨#[105, 102]⟩ = false := by have h9 := k_if; rw [Lib.toList_data] at h9; exact h9
          have e_while : eqB n.kind ⟨#[119, 104, 105, 108, 101]⟩ = false := by have h9 := k_while; rw [Lib.toList_data] at h9; exact h9
          have e_local : eqB n.kind ⟨#[108, 111, 99, 97, 108]⟩ = false := by have h9 := k_local; rw [Lib.toList_data] at h9; exact h9
          have e_assign : eqB n.kind ⟨#[97, 115, 115, 105, 103, 110]⟩ = false := by have h9 := k_assign; rw [Lib.toList_data] at h9; exact h9
          have e_result : eqB n.kind ⟨#[114, 101, 115, 117, 108, 116]⟩ = false := by have h9 := k_result; rw [Lib.toList_data] at h9; exact h9
          have e_nondet : eqB n.kind ⟨#[110, 111, 110, 100, 101, 116]⟩ = false := by have h9 := k_nondet; rw [Lib.toList_data] at h9; exact h9
          have e_return : eqB n.kind ⟨#[114, 101, 116, 117, 114, 110]⟩ = false := by have h9 := k_return; rw [Lib.toList_data] at h9; exact h9
          have e_assert : eqB n.kind ⟨#[97, 115, 115, 101, 114, 116]⟩ = false := by have h9 := k_assert; rw [Lib.toList_data] at h9; exact h9
          have e_assume : eqB n.kind ⟨#[97, 115, 115, 117, 109, 101]⟩ = true := by have h9 := k_assume; rw [Lib.toList_data] at h9; exact h9
          exact shst_assume c HL g I w xs hs n A cap k_if k_while k_local k_assign k_result k_nondet k_return k_assert k_assume hd hn h ht hl _ (by simp only [stmtS, Bool.or_true, Bool.true_or, Bool.or_false, Bool.false_or, Bool.or_self, Bool.false_eq_true, ↓reduceIte, e_if, e_while, e_local, e_assign, e_result, e_nondet, e_return, e_assert, e_assume])
        ·
         have hk9 : n.kind.toList = [97, 115, 115, 101, 114, 116] := by simpa using k_assert
         have k_if : (n.kind.toList == [105, 102]) = false := by rw [hk9]; rfl
         have k_while : (n.kind.toList == [119, 104, 105, 108, 101]) = false := by rw [hk9]; rfl
         have k_local : (n.kind.toList == [108, 111, 99, 97, 108]) = false := by rw [hk9]; rfl
         have k_assign : (n.kind.toList == [97, 115, 115, 105, 103, 110]) = false := by rw [hk9]; rfl
         have k_result : (n.kind.toList == [114, 101, 115, 117, 108, 116]) = false := by rw [hk9]; rfl
         have k_nondet : (n.kind.toList == [110, 111, 110, 100, 101, 116]) = false := by rw [hk9]; rfl
         have k_return : (n.kind.toList == [114, 101, 116, 117, 114, 110]) = false := by rw [hk9]; rfl
         have k_assume : (n.kind.toList == [97, 115, 115, 117, 109, 101]) = false := by rw [hk9]; rfl
         have e_if : eqB n.kind ⟨#[105, 102]⟩ = false := by have h9 := k_if; rw [Lib.toList_data] at h9; exact h9
         have e_while : eqB n.kind ⟨#[119, 104, 105, 108, 101]⟩ = false := by have h9 := k_while; rw [Lib.toList_data] at h9; exact h9
         have e_local : eqB n.kind ⟨#[108, 111, 99, 97, 108]⟩ = false := by have h9 := k_local; rw [Lib.toList_data] at h9; exact h9
         have e_assign : eqB n.kind ⟨#[97, 115, 115, 105, 103, 110]⟩ = false := by have h9 := k_assign; rw [Lib.toList_data] at h9; exact h9
         have e_result : eqB n.kind ⟨#[114, 101, 115, 117, 108, 116]⟩ = false := by have h9 := k_result; rw [Lib.toList_data] at h9; exact h9
         have e_nondet : eqB n.kind ⟨#[110, 111, 110, 100, 101, 116]⟩ = false := by have h9 := k_nondet; rw [Lib.toList_data] at h9; exact h9
         have e_return : eqB n.kind ⟨#[114, 101, 116, 117, 114, 110]⟩ = false := by have h9 := k_return; rw [Lib.toList_data] at h9; exact h9
         have e_assert : eqB n.kind ⟨#[97, 115, 115, 101, 114, 116]⟩ = true := by have h9 := k_assert; rw [Lib.toList_data] at h9; exact h9
         have e_assume : eqB n.kind ⟨#[97, 115, 115, 117, 109, 101]⟩ = false := by have h9 := k_assume; rw [Lib.toList_data] at h9; exact h9
         exact shst_assert c HL g I w xs hs n A cap k_if k_while k_local k_assign k_result k_nondet k_return k_assert k_assume hd hn h ht hl _ (by simp only [stmtS, Bool.or_true, Bool.true_or, Bool.or_false, Bool.false_or, Bool.or_self, Bool.false_eq_true, ↓reduceIte, e_if, e_while, e_local, e_assign, e_result, e_nondet, e_return, e_assert, e_assume])
       ·
        have hk9 : n.kind.toList = [114, 101, 116, 117, 114, 110] := by simpa using k_return
        have k_if : (n.kind.toList == [105, 102]) = false := by rw [hk9]; rfl
        have k_while : (n.kind.toList == [119, 104, 105, 108, 101]) = false := by rw [hk9]; rfl
        have k_local : (n.kind.toList == [108, 111, 99, 97, 108]) = false := by rw [hk9]; rfl
        have k_assign : (n.kind.toList == [97, 115, 115, 105, 103, 110]) = false := by rw [hk9]; rfl
        have k_result : (n.kind.toList == [114, 101, 115, 117, 108, 116]) = false := by rw [hk9]; rfl
        have k_nondet : (n.kind.toList == [110, 111, 110, 100, 101, 116]) = false := by rw [hk9]; rfl
        have k_assert : (n.kind.toList == [97, 115, 115, 101, 114, 116]) = false := by rw [hk9]; rfl
        have k_assume : (n.kind.toList == [97, 115, 115, 117, 109, 101]) = false := by rw [hk9]; rfl
        have e_if : eqB n.kind ⟨#[105, 102]⟩ = false := by have h9 := k_if; rw [Lib.toList_data] at h9; exact h9
        have e_while : eqB n.kind ⟨#[119, 104, 105, 108, 101]⟩ = false := by have h9 := k_while; rw [Lib.toList_data] at h9; exact h9
        have e_local : eqB n.kind ⟨#[108, 111, 99, 97, 108]⟩ = false := by have h9 := k_local; rw [Lib.toList_data] at h9; exact h9
        have e_assign : eqB n.kind ⟨#[97, 115, 115, 105, 103, 110]⟩ = false := by have h9 := k_assign; rw [Lib.toList_data] at h9; exact h9
        have e_result : eqB n.kind ⟨#[114, 101, 115, 117, 108, 116]⟩ = false := by have h9 := k_result; rw [Lib.toList_data] at h9; exact h9
        have e_nondet : eqB n.kind ⟨#[110, 111, 110, 100, 101, 116]⟩ = false := by have h9 := k_nondet; rw [Lib.toList_data] at h9; exact h9
        have e_return : eqB n.kind ⟨#[114, 101, 116, 117, 114, 110]⟩ = true := by have h9 := k_return; rw [Lib.toList_data] at h9; exact h9
        have e_assert : eqB n.kind ⟨#[97, 115, 115, 101, 114, 116]⟩ = false := by have h9 := k_assert; rw [Lib.toList_data] at h9; exact h9
        have e_assume : eqB n.kind ⟨#[97, 115, 115, 117, 109, 101]⟩ = false := by have h9 := k_assume; rw [Lib.toList_data] at h9; exact h9
        exact shst_return c HL g I w xs hs n A cap k_if k_while k_local k_assign k_result k_nondet k_return k_assert k_assume hd hn h ht hl _ (by simp only [stmtS, Bool.or_true, Bool.true_or, Bool.or_false, Bool.false_or, Bool.or_self, Bool.false_eq_true, ↓reduceIte, e_if, e_while, e_local, e_assign, e_result, e_nondet, e_return, e_assert, e_assume])
      ·
       have hk9 : n.kind.toList = [110, 111, 110, 100, 101, 116] := by simpa using k_nondet
       have k_if : (n.kind.toList == [105, 102]) = false := by rw [hk9]; rfl
       have k_while : (n.kind.toList == [119, 104, 105, 108, 101]) = false := by rw [hk9]; rfl
       have k_local : (n.kind.toList == [108, 111, 99, 97, 108]) = false := by rw [hk9]; rfl
       have k_assign : (n.kind.toList == [97, 115, 115, 105, 103, 110]) = false := by rw [hk9]; rfl
       have k_result : (n.kind.toList == [114, 101, 115, 117, 108, 116]) = false := by rw [hk9]; rfl
       have k_return : (n.kind.toList == [114, 101, 116, 117, 114, 110]) = false := by rw [hk9]; rfl
       have k_assert : (n.kind.toList == [97, 115, 115, 101, 114, 116]) = false := by rw [hk9]; rfl
       have k_assume : (n.kind.toList == [97, 115, 115, 117, 109, 101]) = false := by rw [hk9]; rfl
       have e_if : eqB n.kind ⟨#[105, 102]⟩ = false := by have h9 := k_if; rw [Lib.toList_data] at h9; exact h9
       have e_while : eqB n.kind ⟨#[119, 104, 105, 108, 101]⟩ = false := by have h9 := k_while; rw [Lib.toList_data] at h9; exact h9
       have e_local : eqB n.kind ⟨#[108, 111, 99, 97, 108]⟩ = false := by have h9 := k_local; rw [Lib.toList_data] at h9; exact h9
       have e_assign : eqB n.kind ⟨#[97, 115, 115, 105, 103, 110]⟩ = false := by have h9 := k_assign; rw [Lib.toList_data] at h9; exact h9
       have e_result : eqB n.kind ⟨#[114, 101, 115, 117, 108, 116]⟩ = false := by have h9 := k_result; rw [Lib.toList_data] at h9; exact h9
       have e_nondet : eqB n.kind ⟨#[110, 111, 110, 100, 101, 116]⟩ = true := by have h9 := k_nondet; rw [Lib.toList_data] at h9; exact h9
       have e_return : eqB n.kind ⟨#[114, 101, 116, 117, 114, 110]⟩ = false := by have h9 := k_return; rw [Lib.toList_data] at h9; exact h9
       have e_assert : eqB n.kind ⟨#[97, 115, 115, 101, 114, 116]⟩ = false := by have h9 := k_assert; rw [Lib.toList_data] at h9; exact h9
       have e_assume : eqB n.kind ⟨#[97, 115, 115, 117, 109, 101]⟩ = false := by have h9 := k_assume; rw [Lib.toList_data] at h9; exact h9
       exact shst_nondet c HL g I w xs hs n A cap k_if k_while k_local k_assign k_result k_nondet k_return k_assert k_assume hd hn h ht hl _ (by simp only [stmtS, Bool.or_true, Bool.true_or, Bool.or_false, Bool.false_or, Bool.or_self, Bool.false_eq_true, ↓reduceIte, e_if, e_while, e_local, e_assign, e_result, e_nondet, e_return, e_assert, e_assume])
     ·
      have hk9 : n.kind.toList = [114, 101, 115, 117, 108, 116] := by simpa using k_result
      have k_if : (n.kind.toList == [105, 102]) = false := by rw [hk9]; rfl
      have k_while : (n.kind.toList == [119, 104, 105, 108, 101]) = false := by rw [hk9]; rfl
      have k_local : (n.kind.toList == [108, 111, 99, 97, 108]) = false := by rw [hk9]; rfl
      have k_assign : (n.kind.toList == [97, 115, 115, 105, 103, 110]) = false := by rw [hk9]; rfl
      have k_nondet : (n.kind.toList == [110, 111, 110, 100, 101, 116]) = false := by rw [hk9]; rfl
      have k_return : (n.kind.toList == [114, 101, 116, 117, 114, 110]) = false := by rw [hk9]; rfl
      have k_assert : (n.kind.toList == [97, 115, 115, 101, 114, 116]) = false := by rw [hk9]; rfl
      have k_assume : (n.kind.toList == [97, 115, 115, 117, 109, 101]) = false := by rw [hk9]; rfl
      have e_if : eqB n.kind ⟨#[105, 102]⟩ = false := by have h9 := k_if; rw [Lib.toList_data] at h9; exact h9
      have e_while : eqB n.kind ⟨#[119, 104, 105, 108, 101]⟩ = false := by have h9 := k_while; rw [Lib.toList_data] at h9; exact h9
      have e_local : eqB n.kind ⟨#[108, 111, 99, 97, 108]⟩ = false := by have h9 := k_local; rw [Lib.toList_data] at h9; exact h9
      have e_assign : eqB n.kind ⟨#[97, 115, 115, 105, 103, 110]⟩ = false := by have h9 := k_assign; rw [Lib.toList_data] at h9; exact h9
      have e_result : eqB n.kind ⟨#[114, 101, 115, 117, 108, 116]⟩ = true := by have h9 := k_result; rw [Lib.toList_data] at h9; exact h9
      have e_nondet : eqB n.kind ⟨#[110, 111, 110, 100, 101, 116]⟩ = false := by have h9 := k_nondet; rw [Lib.toList_data] at h9; exact h9
      have e_return : eqB n.kind ⟨#[114, 101, 116, 117, 114, 110]⟩ = false := by have h9 := k_return; rw [Lib.toList_data] at h9; exact h9
      have e_assert : eqB n.kind ⟨#[97, 115, 115, 101, 114, 116]⟩ = false := by have h9 := k_assert; rw [Lib.toList_data] at h9; exact h9
      have e_assume : eqB n.kind ⟨#[97, 115, 115, 117, 109, 101]⟩ = false := by have h9 := k_assume; rw [Lib.toList_data] at h9; exact h9
      exact shst_result c HL g I w xs hs n A cap k_if k_while k_local k_assign k_result k_nondet k_return k_assert k_assume hd hn h ht hl _ (by simp only [stmtS, Bool.or_true, Bool.true_or, Bool.or_false, Bool.false_or, Bool.or_self, Bool.false_eq_true, ↓reduceIte, e_if, e_while, e_local, e_assign, e_result, e_nondet, e_return, e_assert, e_assume])
    ·
     have hk9 : n.kind.toList = [97, 115, 115, 105, 103, 110] := by simpa using k_assign
     have k_if : (n.kind.toList == [105, 102]) = false := by rw [hk9]; rfl
     have k_while : (n.kind.toList == [119, 104, 105, 108, 101]) = false := by rw [hk9]; rfl
     have k_local : (n.kind.toList == [108, 111, 99, 97, 108]) = false := by rw [hk9]; rfl
     have k_result : (n.kind.toList == [114, 101, 115, 117, 108, 116]) = false := by rw [hk9]; rfl
     have k_nondet : (n.kind.toList == [110, 111, 110, 100, 101, 116]) = false := by rw [hk9]; rfl
     have k_return : (n.kind.toList == [114, 101, 116, 117, 114, 110]) = false := by rw [hk9]; rfl
     have k_assert : (n.kind.toList == [97, 115, 115, 101, 114, 116]) = false := by rw [hk9]; rfl
     have k_assume : (n.kind.toList == [97, 115, 115, 117, 109, 101]) = false := by rw [hk9]; rfl
     have e_if : eqB n.kind ⟨#[105, 102]⟩ = false := by have h9 := k_if; rw [Lib.toList_data] at h9; exact h9
     have e_while : eqB n.kind ⟨#[119, 104, 105, 108, 101]⟩ = false := by have h9 := k_while; rw [Lib.toList_data] at h9; exact h9
     have e_local : eqB n.kind ⟨#[108, 111, 99, 97, 108]⟩ = false := by have h9 := k_local; rw [Lib.toList_data] at h9; exact h9
     have e_assign : eqB n.kind ⟨#[97, 115, 115, 105, 103, 110]⟩ = true := by have h9 := k_assign; rw [Lib.toList_data] at h9; exact h9
     have e_result : eqB n.kind ⟨#[114, 101, 115, 117, 108, 116]⟩ = false := by have h9 := k_result; rw [Lib.toList_data] at h9; exact h9
     have e_nondet : eqB n.kind ⟨#[110, 111, 110, 100, 101, 116]⟩ = false := by have h9 := k_nondet; rw [Lib.toList_data] at h9; exact h9
     have e_return : eqB n.kind ⟨#[114, 101, 116, 117, 114, 110]⟩ = false := by have h9 := k_return; rw [Lib.toList_data] at h9; exact h9
     have e_assert : eqB n.kind ⟨#[97, 115, 115, 101, 114, 116]⟩ = false := by have h9 := k_assert; rw [Lib.toList_data] at h9; exact h9
     have e_assume : eqB n.kind ⟨#[97, 115, 115, 117, 109, 101]⟩ = false := by have h9 := k_assume; rw [Lib.toList_data] at h9; exact h9
     exact shst_assign c HL g I w xs hs n A cap k_if k_while k_local k_assign k_result k_nondet k_return k_assert k_assume hd hn h ht hl _ (by simp only [stmtS, Bool.or_true, Bool.true_or, Bool.or_false, Bool.false_or, Bool.or_self, Bool.false_eq_true, ↓reduceIte, e_if, e_while, e_local, e_assign, e_result, e_nondet, e_return, e_assert, e_assume])
   ·
    have hk9 : n.kind.toList = [108, 111, 99, 97, 108] := by simpa using k_local
    have k_if : (n.kind.toList == [105, 102]) = false := by rw [hk9]; rfl
    have k_while : (n.kind.toList == [119, 104, 105, 108, 101]) = false := by rw [hk9]; rfl
    have k_assign : (n.kind.toList == [97, 115, 115, 105, 103, 110]) = false := by rw [hk9]; rfl
    have k_result : (n.kind.toList == [114, 101, 115, 117, 108, 116]) = false := by rw [hk9]; rfl
    have k_nondet : (n.kind.toList == [110, 111, 110, 100, 101, 116]) = false := by rw [hk9]; rfl
    have k_return : (n.kind.toList == [114, 101, 116, 117, 114, 110]) = false := by rw [hk9]; rfl
    have k_assert : (n.kind.toList == [97, 115, 115, 101, 114, 116]) = false := by rw [hk9]; rfl
    have k_assume : (n.kind.toList == [97, 115, 115, 117, 109, 101]) = false := by rw [hk9]; rfl
    have e_if : eqB n.kind ⟨#[105, 102]⟩ = false := by have h9 := k_if; rw [Lib.toList_data] at h9; exact h9
    have e_while : eqB n.kind ⟨#[119, 104, 105, 108, 101]⟩ = false := by have h9 := k_while; rw [Lib.toList_data] at h9; exact h9
    have e_local : eqB n.kind ⟨#[108, 111, 99, 97, 108]⟩ = true := by have h9 := k_local; rw [Lib.toList_data] at h9; exact h9
    have e_assign : eqB n.kind ⟨#[97, 115, 115, 105, 103, 110]⟩ = false := by have h9 := k_assign; rw [Lib.toList_data] at h9; exact h9
    have e_result : eqB n.kind ⟨#[114, 101, 115, 117, 108, 116]⟩ = false := by have h9 := k_result; rw [Lib.toList_data] at h9; exact h9
    have e_nondet : eqB n.kind ⟨#[110, 111, 110, 100, 101, 116]⟩ = false := by have h9 := k_nondet; rw [Lib.toList_data] at h9; exact h9
    have e_return : eqB n.kind ⟨#[114, 101, 116, 117, 114, 110]⟩ = false := by have h9 := k_return; rw [Lib.toList_data] at h9; exact h9
    have e_assert : eqB n.kind ⟨#[97, 115, 115, 101, 114, 116]⟩ = false := by have h9 := k_assert; rw [Lib.toList_data] at h9; exact h9
    have e_assume : eqB n.kind ⟨#[97, 115, 115, 117, 109, 101]⟩ = false := by have h9 := k_assume; rw [Lib.toList_data] at h9; exact h9
    exact shst_local c HL g I w xs hs n A cap k_if k_while k_local k_assign k_result k_nondet k_return k_assert k_assume hd hn h ht hl _ (by simp only [stmtS, Bool.or_true, Bool.true_or, Bool.or_false, Bool.false_or, Bool.or_self, Bool.false_eq_true, ↓reduceIte, e_if, e_while, e_local, e_assign, e_result, e_nondet, e_return, e_assert, e_assume])
  ·
   have hk9 : n.kind.toList = [119, 104, 105, 108, 101] := by simpa using k_while
   have k_if : (n.kind.toList == [105, 102]) = false := by rw [hk9]; rfl
   have k_local : (n.kind.toList == [108, 111, 99, 97, 108]) = false := by rw [hk9]; rfl
   have k_assign : (n.kind.toList == [97, 115, 115, 105, 103, 110]) = false := by rw [hk9]; rfl
   have k_result : (n.kind.toList == [114, 101, 115, 117, 108, 116]) = false := by rw [hk9]; rfl
   have k_nondet : (n.kind.toList == [110, 111, 110, 100, 101, 116]) = false := by rw [hk9]; rfl
   have k_return : (n.kind.toList == [114, 101, 116, 117, 114, 110]) = false := by rw [hk9]; rfl
   have k_assert : (n.kind.toList == [97, 115, 115, 101, 114, 116]) = false := by rw [hk9]; rfl
   have k_assume : (n.kind.toList == [97, 115, 115, 117, 109, 101]) = false := by rw [hk9]; rfl
   have e_if : eqB n.kind ⟨#[105, 102]⟩ = false := by have h9 := k_if; rw [Lib.toList_data] at h9; exact h9
   have e_while : eqB n.kind ⟨#[119, 104, 105, 108, 101]⟩ = true := by have h9 := k_while; rw [Lib.toList_data] at h9; exact h9
   have e_local : eqB n.kind ⟨#[108, 111, 99, 97, 108]⟩ = false := by have h9 := k_local; rw [Lib.toList_data] at h9; exact h9
   have e_assign : eqB n.kind ⟨#[97, 115, 115, 105, 103, 110]⟩ = false := by have h9 := k_assign; rw [Lib.toList_data] at h9; exact h9
   have e_result : eqB n.kind ⟨#[114, 101, 115, 117, 108, 116]⟩ = false := by have h9 := k_result; rw [Lib.toList_data] at h9; exact h9
   have e_nondet : eqB n.kind ⟨#[110, 111, 110, 100, 101, 116]⟩ = false := by have h9 := k_nondet; rw [Lib.toList_data] at h9; exact h9
   have e_return : eqB n.kind ⟨#[114, 101, 116, 117, 114, 110]⟩ = false := by have h9 := k_return; rw [Lib.toList_data] at h9; exact h9
   have e_assert : eqB n.kind ⟨#[97, 115, 115, 101, 114, 116]⟩ = false := by have h9 := k_assert; rw [Lib.toList_data] at h9; exact h9
   have e_assume : eqB n.kind ⟨#[97, 115, 115, 117, 109, 101]⟩ = false := by have h9 := k_assume; rw [Lib.toList_data] at h9; exact h9
   exact shst_while c HL g I w xs hs n A cap k_if k_while k_local k_assign k_result k_nondet k_return k_assert k_assume hd hn h ht hl _ (by simp only [stmtS, Bool.or_true, Bool.true_or, Bool.or_false, Bool.false_or, Bool.or_self, Bool.false_eq_true, ↓reduceIte, e_if, e_while, e_local, e_assign, e_result, e_nondet, e_return, e_assert, e_assume])
 ·
  have hk9 : n.kind.toList = [105, 102] := by simpa using k_if
  have k_while : (n.kind.toList == [119, 104, 105, 108, 101]) = false := by rw [hk9]; rfl
  have k_local : (n.kind.toList == [108, 111, 99, 97, 108]) = false := by rw [hk9]; rfl
  have k_assign : (n.kind.toList == [97, 115, 115, 105, 103, 110]) = false := by rw [hk9]; rfl
  have k_result : (n.kind.toList == [114, 101, 115, 117, 108, 116]) = false := by rw [hk9]; rfl
  have k_nondet : (n.kind.toList == [110, 111, 110, 100, 101, 116]) = false := by rw [hk9]; rfl
  have k_return : (n.kind.toList == [114, 101, 116, 117, 114, 110]) = false := by rw [hk9]; rfl
  have k_assert : (n.kind.toList == [97, 115, 115, 101, 114, 116]) = false := by rw [hk9]; rfl
  have k_assume : (n.kind.toList == [97, 115, 115, 117, 109, 101]) = false := by rw [hk9]; rfl
  have e_if : eqB n.kind ⟨#[105, 102]⟩ = true := by have h9 := k_if; rw [Lib.toList_data] at h9; exact h9
  have e_while : eqB n.kind ⟨#[119, 104, 105, 108, 101]⟩ = false := by have h9 := k_while; rw [Lib.toList_data] at h9; exact h9
  have e_local : eqB n.kind ⟨#[108, 111, 99, 97, 108]⟩ = false := by have h9 := k_local; rw [Lib.toList_data] at h9; exact h9
  have e_assign : eqB n.kind ⟨#[97, 115, 115, 105, 103, 110]⟩ = false := by have h9 := k_assign; rw [Lib.toList_data] at h9; exact h9
  have e_result : eqB n.kind ⟨#[114, 101, 115, 117, 108, 116]⟩ = false := by have h9 := k_result; rw [Lib.toList_data] at h9; exact h9
  have e_nondet : eqB n.kind ⟨#[110, 111, 110, 100, 101, 116]⟩ = false := by have h9 := k_nondet; rw [Lib.toList_data] at h9; exact h9
  have e_return : eqB n.kind ⟨#[114, 101, 116, 117, 114, 110]⟩ = false := by have h9 := k_return; rw [Lib.toList_data] at h9; exact h9
  have e_assert : eqB n.kind ⟨#[97, 115, 115, 101, 114, 116]⟩ = false := by have h9 := k_assert; rw [Lib.toList_data] at h9; exact h9
  have e_assume : eqB n.kind ⟨#[97, 115, 115, 117, 109, 101]⟩ = false := by have h9 := k_assume; rw [Lib.toList_data] at h9; exact h9
  exact shst_if c HL g I w xs hs n A cap k_if k_while k_local k_assign k_result k_nondet k_return k_assert k_assume hd hn h ht hl _ (by simp only [stmtS, Bool.or_true, Bool.true_or, Bool.or_false, Bool.false_or, Bool.or_self, Bool.false_eq_true, ↓reduceIte, e_if, e_while, e_local, e_assign, e_result, e_nondet, e_return, e_assert, e_assume])
theorem shs (c : SC) (HL : LaidP c.W) : ∀ g, ShS c g := by
 intro g
 induction g with
 | zero =>
  refine ⟨fun w xs hs n A cap hd hn h ht hl => ?_, fun w xs hs n A cap hd hn h ht hl => ?_, fun w xs hs n A cap hd hn h ht hl => ?_⟩ <;> exact absurd hd (by have := depthN_pos n; omega)
 | succ g ih =>
  refine ⟨fun w xs hs n A cap hd hn h ht hl => ?_, fun w xs hs n A cap hd hn h ht hl => ?_, fun w xs hs n A cap hd hn h ht hl => ?_⟩
  · exact block_shows c HL g ih w xs hs n A cap (by omega) hn h ht hl _ (by simp only [blockS])
  · exact branch_shows c HL g ih w xs hs n A cap (by omega) hn h ht hl _ (by simp only [branchS])
  · exact stmt_shows c HL g ih w xs hs n A cap (by omega) hn h ht hl
end Go.Proofs.YtdimhoilfopndaaGreatDoor
end
section
namespace Go.Proofs.YtdimhoilfopndaaGreatDoor
open Go.RowKit Go.Proofs.YtdimhoilfopndaaGreatDoorW.PrintWords
theorem drop_par {n : Node} {m i : Nat} (hm : n.kids.length = m + 2) (hi : i < m) : ((n.kids.drop 1).take m).drop i = kidN n (i + 1) :: ((n.kids.drop 1).take m).drop (i + 1) := by
 have hl : ((n.kids.drop 1).take m).length = m := by rw [List.length_take, List.length_drop]; omega
 rw [List.drop_eq_getElem_cons (by omega)]
 congr 1
 rw [List.getElem_take, List.getElem_drop]
 unfold kidN
 rw [List.getD_eq_getElem?_getD, List.getElem?_eq_getElem (by omega)]
 simp only [Nat.add_comm 1 i, Option.getD_some]
theorem SS.drew {c : SC} {w : World} {xs : List ByteArray} {hs : List (Nat × Obj)} (h : SS c w xs hs) : SS c w.drew xs hs := h.isOv (IsOv.refl w).drew
theorem SS.drewN {c : SC} {w : World} {xs : List ByteArray} {hs : List (Nat × Obj)} (h : SS c w xs hs) (m : Nat) : SS c (w.drewN m) xs hs := h.isOv ((IsOv.refl w).drewN m)
set_option maxRecDepth 20000 in
set_option maxHeartbeats 1600000 in
theorem item_other (c : SC) (HL0 : LaidP c.W) (g : Nat) (w : World) (xs : List ByteArray) (hs : List (Nat × Obj)) (n : Node) (A : Option Addr) (cap : Nat) (k_global : (n.kind.toList == [103, 108, 111, 98, 97, 108]) = false) (k_func : (n.kind.toList == [102, 117, 110, 99]) = false) (hd : 3 * depthN n ≤ g + 5) (hn : numsOk n = true) (h : SS c w xs hs) (ht : Tr c.W (.slice A n.kids.length cap) n.kids) (hl : xs.length + 10 * nodesN n ≤ 1000000000) (r : Out) (hr : r = (if decide (0 < n.kids.length) && (n.num == 0) then sq (typS (kidN n 0) false) (sq (nameS n) none) else none)) : Calls Tryz.prog 22 #[.pointer (some ⟨c.p, 0, none⟩), nodeV n (.slice A n.kids.length cap)] w (PostS c xs r hs) := by
 have HL := hid HL0.v
 have HLP := hid HL0
 have HTR := hid ht
 have HR0 := hid hr
 clear hr ht
 have hnp := nodesN_pos n
 have hne := nodesN_eq n
 have hlk := len_nodesL n.kids
 have hkl0 : (0 : Int) ≤ (n.kids.length : Int) := by omega
 unfold nodeV
 have hlt := h.lt
 have HS0 := hid h
 clear h
 go_enter Tryz.func22, Tryz.ntmps22
 have HS1 := hid (HS0.out.alloc (.cells #[.string n.kind, .string n.text, .int .u64 n.num, .int .i64 n.line, .int .i64 n.col, .slice A n.kids.length cap] 26))
 cases h1 : decide (0 < n.kids.length)
 ·
  have h1n : n.kids.length = 0 := by have := of_decide_eq_false h1; omega
  go_wp2_with fail
  refine cmo (must_calls false _) ?_
  rintro e9 w99 ⟨hw9, rfl⟩
  obtain rfl := hw9.symm
  clear hw9
  obtain rfl : r = none := by rw [HR0.out]; simp only [h1, SQ0, ↓reduceIte]
  exact ⟨rfl, rfl, by have h9 := HS1.out.ov; rw [h1n] at h9; exact h9⟩
 ·
  have h1n : 0 < n.kids.length := of_decide_eq_true h1
  have h1b : decide ((0 : Int) < (n.kids.length : Int)) = true := decide_eq_true (by omega)
  cases h2 : (n.num == 0)
  ·
   go_wp2_with fail
   refine cmo (must_calls _ _) ?_
   rintro e9 w99 ⟨hw9, rfl⟩
   obtain rfl := hw9.symm
   clear hw9
   have h2n : ¬ n.num = 0 := by simpa using h2
   rw [if_neg (by simp [h2n])]
   obtain rfl : r = none := by rw [HR0.out]; simp only [h1, h2, SQ0, ↓reduceIte]
   exact ⟨rfl, rfl, HS1.out.ov⟩
  ·
   go_wp2_with fail
   refine cmo (must_calls _ _) ?_
   rintro e9 w99 ⟨hw9, rfl⟩
   obtain rfl := hw9.symm
   clear hw9
   have h2n : n.num = 0 := by simpa using h2
   rw [if_pos (by simp [h2n])]
   have h2N := hid h2n
   clear h2n
   have h2h := hid h2
   clear h2
   go_wp2_with fail
   revert HS1
   generalize w.alloc (.cells #[.string n.kind, .string n.text, .int .u64 n.num, .int .i64 n.line, .int .i64 n.col, .slice A n.kids.length cap] 26) = w1
   intro HS1
   have HR1 : Hid (r = sq (typS (kidN n 0) false) (sq (nameS n) none)) := hid (by rw [HR0.out]; simp only [h1, h2h.out, SQ0, ↓reduceIte])
   clear HR0
   obtain ⟨gk0, Ak0, ck0, hA0, hg0, p0, p1, p2, p3, p4, p5, HTr0⟩ := kid_at HTR.out (IsOv.refl c.W) 0 (by omega)
   have HT0 := hid HTr0
   clear HTr0
   subst hA0
   simp only [Nat.zero_mul, Nat.zero_add] at p0 p1 p2 p3 p4 p5
   have hzb1 : w.heap.size < w1.heap.size := lt_of_heap HS1.out.h0
   obtain ⟨n0, n1, n2, n3, n4, n5, nf⟩ := cells6 HS1.out.h0
   have hS0 : (fun w' : World => IsOv c.W w' ∧ w'.cell? ⟨w.heap.size, 0, none⟩ = some (.string n.kind) ∧ w'.cell? ⟨w.heap.size, 5, none⟩ = some (.slice (some ⟨gk0, 0, none⟩) n.kids.length cap)) w1.drew := ⟨HS1.out.ov.drew, n0, n5⟩
   refine wp_region_K (fun w' : World => IsOv c.W w' ∧ w'.cell? ⟨w.heap.size, 0, none⟩ = some (.string n.kind) ∧ w'.cell? ⟨w.heap.size, 5, none⟩ = some (.slice (some ⟨gk0, 0, none⟩) n.kids.length cap)) (fun j => false) (by kernel_rfl) ?_
   refine wpAnyK_take (i := 0) (v := ?_) rfl (by kernel_rfl) (by kernel_rfl) (by kernel_rfl) (by kernel_rfl) (fun _ _ _ h => h) (Or.inl ⟨by rfl, ?_⟩) hS0 ?_
   rotate_left
   · intro w9 hSw; (try dsimp only at hSw); obtain ⟨s9, s0, s5⟩ := hSw; have t0 := s9.cell p0; have t1 := s9.cell p1; have t2 := s9.cell p2; have t3 := s9.cell p3; have t4 := s9.cell p4; have t5 := s9.cell p5; go_simp; (try with_reducible rfl)
   try simp only [Act.put, List.setIfInBounds_toArray, List.set_cons_zero, List.set_cons_succ]
   refine wpAnyK_take (i := 1) (v := ?_) rfl (by kernel_rfl) (by kernel_rfl) (by kernel_rfl) (by kernel_rfl) (fun _ _ _ h => h) (Or.inl ⟨by rfl, ?_⟩) hS0 ?_
   rotate_left
   · intro w9 hSw; (try dsimp only at hSw); obtain ⟨s9, s0, s5⟩ := hSw; have t0 := s9.cell p0; have t1 := s9.cell p1; have t2 := s9.cell p2; have t3 := s9.cell p3; have t4 := s9.cell p4; have t5 := s9.cell p5; go_simp; (try with_reducible rfl)
   try simp only [Act.put, List.setIfInBounds_toArray, List.set_cons_zero, List.set_cons_succ]
   refine wpAnyK_take (i := 2) (v := ?_) rfl (by kernel_rfl) (by kernel_rfl) (by kernel_rfl) (by kernel_rfl) (fun _ _ _ h => h) (Or.inl ⟨by rfl, ?_⟩) hS0 ?_
   rotate_left
   · intro w9 hSw; (try dsimp only at hSw); obtain ⟨s9, s0, s5⟩ := hSw; have t0 := s9.cell p0; have t1 := s9.cell p1; have t2 := s9.cell p2; have t3 := s9.cell p3; have t4 := s9.cell p4; have t5 := s9.cell p5; go_simp; (try with_reducible rfl)
   try simp only [Act.put, List.setIfInBounds_toArray, List.set_cons_zero, List.set_cons_succ]
   refine wpAnyK_take (i := 3) (v := ?_) rfl (by kernel_rfl) (by kernel_rfl) (by kernel_rfl) (by kernel_rfl) (fun _ _ _ h => h) (Or.inl ⟨by rfl, ?_⟩) hS0 ?_
   rotate_left
   · intro w9 hSw; (try dsimp only at hSw); obtain ⟨s9, s0, s5⟩ := hSw; have t0 := s9.cell p0; have t1 := s9.cell p1; have t2 := s9.cell p2; have t3 := s9.cell p3; have t4 := s9.cell p4; have t5 := s9.cell p5; go_simp; (try with_reducible rfl)
   try simp only [Act.put, List.setIfInBounds_toArray, List.set_cons_zero, List.set_cons_succ]
   refine wpAnyK_take (i := 4) (v := ?_) rfl (by kernel_rfl) (by kernel_rfl) (by kernel_rfl) (by kernel_rfl) (fun _ _ _ h => h) (Or.inl ⟨by rfl, ?_⟩) hS0 ?_
   rotate_left
   · intro w9 hSw; (try dsimp only at hSw); obtain ⟨s9, s0, s5⟩ := hSw; have t0 := s9.cell p0; have t1 := s9.cell p1; have t2 := s9.cell p2; have t3 := s9.cell p3; have t4 := s9.cell p4; have t5 := s9.cell p5; go_simp; (try with_reducible rfl)
   try simp only [Act.put, List.setIfInBounds_toArray, List.set_cons_zero, List.set_cons_succ]
   refine wpAnyK_take (i := 5) (v := ?_) rfl (by kernel_rfl) (by kernel_rfl) (by kernel_rfl) (by kernel_rfl) (fun _ _ _ h => h) (Or.inl ⟨by rfl, ?_⟩) hS0 ?_
   rotate_left
   · intro w9 hSw; (try dsimp only at hSw); obtain ⟨s9, s0, s5⟩ := hSw; have t0 := s9.cell p0; have t1 := s9.cell p1; have t2 := s9.cell p2; have t3 := s9.cell p3; have t4 := s9.cell p4; have t5 := s9.cell p5; go_simp; (try with_reducible rfl)
   try simp only [Act.put, List.setIfInBounds_toArray, List.set_cons_zero, List.set_cons_succ]
   refine wpAnyK_take (i := 6) (v := ?_) rfl (by kernel_rfl) (by kernel_rfl) (by kernel_rfl) (by kernel_rfl) (fun _ _ _ h => h) (Or.inl ⟨by rfl, ?_⟩) hS0 ?_
   rotate_left
   · intro w9 hSw; (try dsimp only at hSw); obtain ⟨s9, s0, s5⟩ := hSw; have t0 := s9.cell p0; have t1 := s9.cell p1; have t2 := s9.cell p2; have t3 := s9.cell p3; have t4 := s9.cell p4; have t5 := s9.cell p5; go_simp; (try with_reducible rfl)
   try simp only [Act.put, List.setIfInBounds_toArray, List.set_cons_zero, List.set_cons_succ]
   refine wpAnyK_take (i := 7) (v := ?_) rfl (by kernel_rfl) (by kernel_rfl) (by kernel_rfl) (by kernel_rfl) (fun _ _ _ h => h) (Or.inl ⟨by rfl, ?_⟩) hS0 ?_
   rotate_left
   · intro w9 hSw; (try dsimp only at hSw); obtain ⟨s9, s0, s5⟩ := hSw; have t0 := s9.cell p0; have t1 := s9.cell p1; have t2 := s9.cell p2; have t3 := s9.cell p3; have t4 := s9.cell p4; have t5 := s9.cell p5; go_simp; (try with_reducible rfl)
   try simp only [Act.put, List.setIfInBounds_toArray, List.set_cons_zero, List.set_cons_succ]
   have HSD := hid (HS1.out.drew)
   clear HS1 hS0
   refine wpAnyK_one (i := 8) (by kernel_rfl) rfl (fun K hK => ?_)
   go_simp
   try go_wp2_with fail
   cases h_t : typS (kidN n 0) false with
   | none =>
    refine cmo (typ_shows c _ (xs) _ (kidN n 0) _ _ false HSD.out (by omega)) ?_
    rw [h_t]
    rintro e9 w99 ⟨rfl, hov⟩
    obtain rfl : r = none := by rw [HR1.out]; simp only [SQ0, ↓reduceIte, h_t]
    exact ⟨rfl, rfl, hov⟩
   | some ys_t =>
    refine cmo (typ_shows c _ (xs) _ (kidN n 0) _ _ false HSD.out (by omega)) ?_
    rw [h_t]
    rintro e9 w50 ⟨rfl, hss⟩
    have HS50 := hid hss
    clear hss
    have HR2 := hid (by have h9 := HR1.out; rw [h_t] at h9; exact h9)
    clear HR1 HSD
    have hlt9 := typ_most (kidN n 0) false _ h_t
    clear p0 p1 p2 p3 p4 p5
    clear n0 n1 n2 n3 n4 n5 nf
    have hzb50 : w.heap.size < w50.heap.size := lt_of_heap HS50.out.h0
    obtain ⟨n0, n1, n2, n3, n4, n5, nf⟩ := cells6 HS50.out.h0
    refine hK.out _ _ (fun _ => ⟨HS50.out.ov, n0, n5⟩) ?_
    clear hK K
    refine wpAnyK_done (by kernel_rfl) ?_ _
    go_wp2_with fail
    cases h_a : nameS n with
    | none =>
     refine cmo (name_shows c HL.out _ (xs ++ ys_t) _ n _ cap HS50.out (by (try simp only [List.length_append, List.length_cons, List.length_nil]); omega)) ?_
     rw [h_a]
     rintro e9 w99 ⟨rfl, hov⟩
     obtain rfl : r = none := by rw [HR2.out]; simp only [SQ0, ↓reduceIte, h_a]
     exact ⟨rfl, rfl, hov⟩
    | some ys_a =>
     refine cmo (name_shows c HL.out _ (xs ++ ys_t) _ n _ cap HS50.out (by (try simp only [List.length_append, List.length_cons, List.length_nil]); omega)) ?_
     rw [h_a]
     rintro e9 w51 ⟨rfl, hss⟩
     have HS51 := hid (hss)
     clear HS50
     clear hss
     have HR3 := hid (by have h9 := HR2.out; rw [h_a] at h9; exact h9)
     clear HR2
     have hla := name_most n _ h_a
     have hzb51 : w.heap.size < w51.heap.size := lt_of_heap HS51.out.h0
     clear n0 n1 n2 n3 n4 n5 nf
     obtain ⟨n0, n1, n2, n3, n4, n5, nf⟩ := cells6 HS51.out.h0
     go_wp2_with fail
     refine cmo (must_calls false _) ?_
     rintro e9 w99 ⟨hw9, rfl⟩
     obtain rfl := hw9.symm
     clear hw9
     obtain rfl : r = none := by rw [HR3.out]; simp only [sq_nn, SQ0, ↓reduceIte]
     exact ⟨rfl, rfl, HS51.out.ov⟩
set_option maxRecDepth 20000 in
set_option maxHeartbeats 1600000 in
theorem item_global (c : SC) (HL0 : LaidP c.W) (g : Nat) (w : World) (xs : List ByteArray) (hs : List (Nat × Obj)) (n : Node) (A : Option Addr) (cap : Nat) (k_global : (n.kind.toList == [103, 108, 111, 98, 97, 108]) = true) (k_func : (n.kind.toList == [102, 117, 110, 99]) = false) (hd : 3 * depthN n ≤ g + 5) (hn : numsOk n = true) (h : SS c w xs hs) (ht : Tr c.W (.slice A n.kids.length cap) n.kids) (hl : xs.length + 10 * nodesN n ≤ 1000000000) (r : Out) (hr : r = (if decide (0 < n.kids.length) && (n.num == 0) then sq (typS (kidN n 0) false) (sq (nameS n) (if n.kids.length ≤ 2 then sq (if n.kids.length == 2 then (if plainB (kidN n 1) ⟨#[110, 117, 109]⟩ 0 false true then some [⟨#[91]⟩, digitsB (kidN n 1).num, ⟨#[93]⟩] else none) else some []) (some [⟨#[59]⟩]) else none)) else none)) : Calls Tryz.prog 22 #[.pointer (some ⟨c.p, 0, none⟩), nodeV n (.slice A n.kids.length cap)] w (PostS c xs r hs) := by
 have HL := hid HL0.v
 have HLP := hid HL0
 have HTR := hid ht
 have HR0 := hid hr
 clear hr ht
 have hnp := nodesN_pos n
 have hne := nodesN_eq n
 have hlk := len_nodesL n.kids
 have hkl0 : (0 : Int) ≤ (n.kids.length : Int) := by omega
 unfold nodeV
 have hlt := h.lt
 have HS0 := hid h
 clear h
 go_enter Tryz.func22, Tryz.ntmps22
 have HS1 := hid (HS0.out.alloc (.cells #[.string n.kind, .string n.text, .int .u64 n.num, .int .i64 n.line, .int .i64 n.col, .slice A n.kids.length cap] 26))
 cases h1 : decide (0 < n.kids.length)
 ·
  have h1n : n.kids.length = 0 := by have := of_decide_eq_false h1; omega
  go_wp2_with fail
  refine cmo (must_calls false _) ?_
  rintro e9 w99 ⟨hw9, rfl⟩
  obtain rfl := hw9.symm
  clear hw9
  obtain rfl : r = none := by rw [HR0.out]; simp only [h1, SQ0, ↓reduceIte]
  exact ⟨rfl, rfl, by have h9 := HS1.out.ov; rw [h1n] at h9; exact h9⟩
 ·
  have h1n : 0 < n.kids.length := of_decide_eq_true h1
  have h1b : decide ((0 : Int) < (n.kids.length : Int)) = true := decide_eq_true (by omega)
  cases h2 : (n.num == 0)
  ·
   go_wp2_with fail
   refine cmo (must_calls _ _) ?_
   rintro e9 w99 ⟨hw9, rfl⟩
   obtain rfl := hw9.symm
   clear hw9
   have h2n : ¬ n.num = 0 := by simpa using h2
   rw [if_neg (by simp [h2n])]
   obtain rfl : r = none := by rw [HR0.out]; simp only [h1, h2, SQ0, ↓reduceIte]
   exact ⟨rfl, rfl, HS1.out.ov⟩
  ·
   go_wp2_with fail
   refine cmo (must_calls _ _) ?_
   rintro e9 w99 ⟨hw9, rfl⟩
   obtain rfl := hw9.symm
   clear hw9
   have h2n : n.num = 0 := by simpa using h2
   rw [if_pos (by simp [h2n])]
   have h2N := hid h2n
   clear h2n
   have h2h := hid h2
   clear h2
   go_wp2_with fail
   revert HS1
   generalize w.alloc (.cells #[.string n.kind, .string n.text, .int .u64 n.num, .int .i64 n.line, .int .i64 n.col, .slice A n.kids.length cap] 26) = w1
   intro HS1
   have HR1 : Hid (r = sq (typS (kidN n 0) false) (sq (nameS n) (if n.kids.length ≤ 2 then sq (if n.kids.length == 2 then (if plainB (kidN n 1) ⟨#[110, 117, 109]⟩ 0 false true then some [⟨#[91]⟩, digitsB (kidN n 1).num, ⟨#[93]⟩] else none) else some []) (some [⟨#[59]⟩]) else none))) := hid (by rw [HR0.out]; simp only [h1, h2h.out, SQ0, ↓reduceIte])
   clear HR0
   obtain ⟨gk0, Ak0, ck0, hA0, hg0, p0, p1, p2, p3, p4, p5, HTr0⟩ := kid_at HTR.out (IsOv.refl c.W) 0 (by omega)
   have HT0 := hid HTr0
   clear HTr0
   subst hA0
   simp only [Nat.zero_mul, Nat.zero_add] at p0 p1 p2 p3 p4 p5
   have hzb1 : w.heap.size < w1.heap.size := lt_of_heap HS1.out.h0
   obtain ⟨n0, n1, n2, n3, n4, n5, nf⟩ := cells6 HS1.out.h0
   have hS0 : (fun w' : World => IsOv c.W w' ∧ w'.cell? ⟨w.heap.size, 0, none⟩ = some (.string n.kind) ∧ w'.cell? ⟨w.heap.size, 5, none⟩ = some (.slice (some ⟨gk0, 0, none⟩) n.kids.length cap)) w1.drew := ⟨HS1.out.ov.drew, n0, n5⟩
   refine wp_region_K (fun w' : World => IsOv c.W w' ∧ w'.cell? ⟨w.heap.size, 0, none⟩ = some (.string n.kind) ∧ w'.cell? ⟨w.heap.size, 5, none⟩ = some (.slice (some ⟨gk0, 0, none⟩) n.kids.length cap)) (fun j => false) (by kernel_rfl) ?_
   refine wpAnyK_take (i := 0) (v := ?_) rfl (by kernel_rfl) (by kernel_rfl) (by kernel_rfl) (by kernel_rfl) (fun _ _ _ h => h) (Or.inl ⟨by rfl, ?_⟩) hS0 ?_
   rotate_left
   · intro w9 hSw; (try dsimp only at hSw); obtain ⟨s9, s0, s5⟩ := hSw; have t0 := s9.cell p0; have t1 := s9.cell p1; have t2 := s9.cell p2; have t3 := s9.cell p3; have t4 := s9.cell p4; have t5 := s9.cell p5; go_simp; (try with_reducible rfl)
   try simp only [Act.put, List.setIfInBounds_toArray, List.set_cons_zero, List.set_cons_succ]
   refine wpAnyK_take (i := 1) (v := ?_) rfl (by kernel_rfl) (by kernel_rfl) (by kernel_rfl) (by kernel_rfl) (fun _ _ _ h => h) (Or.inl ⟨by rfl, ?_⟩) hS0 ?_
   rotate_left
   · intro w9 hSw; (try dsimp only at hSw); obtain ⟨s9, s0, s5⟩ := hSw; have t0 := s9.cell p0; have t1 := s9.cell p1; have t2 := s9.cell p2; have t3 := s9.cell p3; have t4 := s9.cell p4; have t5 := s9.cell p5; go_simp; (try with_reducible rfl)
   try simp only [Act.put, List.setIfInBounds_toArray, List.set_cons_zero, List.set_cons_succ]
   refine wpAnyK_take (i := 2) (v := ?_) rfl (by kernel_rfl) (by kernel_rfl) (by kernel_rfl) (by kernel_rfl) (fun _ _ _ h => h) (Or.inl ⟨by rfl, ?_⟩) hS0 ?_
   rotate_left
   · intro w9 hSw; (try dsimp only at hSw); obtain ⟨s9, s0, s5⟩ := hSw; have t0 := s9.cell p0; have t1 := s9.cell p1; have t2 := s9.cell p2; have t3 := s9.cell p3; have t4 := s9.cell p4; have t5 := s9.cell p5; go_simp; (try with_reducible rfl)
   try simp only [Act.put, List.setIfInBounds_toArray, List.set_cons_zero, List.set_cons_succ]
   refine wpAnyK_take (i := 3) (v := ?_) rfl (by kernel_rfl) (by kernel_rfl) (by kernel_rfl) (by kernel_rfl) (fun _ _ _ h => h) (Or.inl ⟨by rfl, ?_⟩) hS0 ?_
   rotate_left
   · intro w9 hSw; (try dsimp only at hSw); obtain ⟨s9, s0, s5⟩ := hSw; have t0 := s9.cell p0; have t1 := s9.cell p1; have t2 := s9.cell p2; have t3 := s9.cell p3; have t4 := s9.cell p4; have t5 := s9.cell p5; go_simp; (try with_reducible rfl)
   try simp only [Act.put, List.setIfInBounds_toArray, List.set_cons_zero, List.set_cons_succ]
   refine wpAnyK_take (i := 4) (v := ?_) rfl (by kernel_rfl) (by kernel_rfl) (by kernel_rfl) (by kernel_rfl) (fun _ _ _ h => h) (Or.inl ⟨by rfl, ?_⟩) hS0 ?_
   rotate_left
   · intro w9 hSw; (try dsimp only at hSw); obtain ⟨s9, s0, s5⟩ := hSw; have t0 := s9.cell p0; have t1 := s9.cell p1; have t2 := s9.cell p2; have t3 := s9.cell p3; have t4 := s9.cell p4; have t5 := s9.cell p5; go_simp; (try with_reducible rfl)
   try simp only [Act.put, List.setIfInBounds_toArray, List.set_cons_zero, List.set_cons_succ]
   refine wpAnyK_take (i := 5) (v := ?_) rfl (by kernel_rfl) (by kernel_rfl) (by kernel_rfl) (by kernel_rfl) (fun _ _ _ h => h) (Or.inl ⟨by rfl, ?_⟩) hS0 ?_
   rotate_left
   · intro w9 hSw; (try dsimp only at hSw); obtain ⟨s9, s0, s5⟩ := hSw; have t0 := s9.cell p0; have t1 := s9.cell p1; have t2 := s9.cell p2; have t3 := s9.cell p3; have t4 := s9.cell p4; have t5 := s9.cell p5; go_simp; (try with_reducible rfl)
   try simp only [Act.put, List.setIfInBounds_toArray, List.set_cons_zero, List.set_cons_succ]
   refine wpAnyK_take (i := 6) (v := ?_) rfl (by kernel_rfl) (by kernel_rfl) (by kernel_rfl) (by kernel_rfl) (fun _ _ _ h => h) (Or.inl ⟨by rfl, ?_⟩) hS0 ?_
   rotate_left
   · intro w9 hSw; (try dsimp only at hSw); obtain ⟨s9, s0, s5⟩ := hSw; have t0 := s9.cell p0; have t1 := s9.cell p1; have t2 := s9.cell p2; have t3 := s9.cell p3; have t4 := s9.cell p4; have t5 := s9.cell p5; go_simp; (try with_reducible rfl)
   try simp only [Act.put, List.setIfInBounds_toArray, List.set_cons_zero, List.set_cons_succ]
   refine wpAnyK_take (i := 7) (v := ?_) rfl (by kernel_rfl) (by kernel_rfl) (by kernel_rfl) (by kernel_rfl) (fun _ _ _ h => h) (Or.inl ⟨by rfl, ?_⟩) hS0 ?_
   rotate_left
   · intro w9 hSw; (try dsimp only at hSw); obtain ⟨s9, s0, s5⟩ := hSw; have t0 := s9.cell p0; have t1 := s9.cell p1; have t2 := s9.cell p2; have t3 := s9.cell p3; have t4 := s9.cell p4; have t5 := s9.cell p5; go_simp; (try with_reducible rfl)
   try simp only [Act.put, List.setIfInBounds_toArray, List.set_cons_zero, List.set_cons_succ]
   have HSD := hid (HS1.out.drew)
   clear HS1 hS0
   refine wpAnyK_one (i := 8) (by kernel_rfl) rfl (fun K hK => ?_)
   go_simp
   try go_wp2_with fail
   cases h_t : typS (kidN n 0) false with
   | none =>
    refine cmo (typ_shows c _ (xs) _ (kidN n 0) _ _ false HSD.out (by omega)) ?_
    rw [h_t]
    rintro e9 w99 ⟨rfl, hov⟩
    obtain rfl : r = none := by rw [HR1.out]; simp only [SQ0, ↓reduceIte, h_t]
    exact ⟨rfl, rfl, hov⟩
   | some ys_t =>
    refine cmo (typ_shows c _ (xs) _ (kidN n 0) _ _ false HSD.out (by omega)) ?_
    rw [h_t]
    rintro e9 w50 ⟨rfl, hss⟩
    have HS50 := hid hss
    clear hss
    have HR2 := hid (by have h9 := HR1.out; rw [h_t] at h9; exact h9)
    clear HR1 HSD
    have hlt9 := typ_most (kidN n 0) false _ h_t
    clear p0 p1 p2 p3 p4 p5
    clear n0 n1 n2 n3 n4 n5 nf
    have hzb50 : w.heap.size < w50.heap.size := lt_of_heap HS50.out.h0
    obtain ⟨n0, n1, n2, n3, n4, n5, nf⟩ := cells6 HS50.out.h0
    refine hK.out _ _ (fun _ => ⟨HS50.out.ov, n0, n5⟩) ?_
    clear hK K
    refine wpAnyK_done (by kernel_rfl) ?_ _
    go_wp2_with fail
    cases h_a : nameS n with
    | none =>
     refine cmo (name_shows c HL.out _ (xs ++ ys_t) _ n _ cap HS50.out (by (try simp only [List.length_append, List.length_cons, List.length_nil]); omega)) ?_
     rw [h_a]
     rintro e9 w99 ⟨rfl, hov⟩
     obtain rfl : r = none := by rw [HR2.out]; simp only [SQ0, ↓reduceIte, h_a]
     exact ⟨rfl, rfl, hov⟩
    | some ys_a =>
     refine cmo (name_shows c HL.out _ (xs ++ ys_t) _ n _ cap HS50.out (by (try simp only [List.length_append, List.length_cons, List.length_nil]); omega)) ?_
     rw [h_a]
     rintro e9 w51 ⟨rfl, hss⟩
     have HS51 := hid (hss)
     clear HS50
     clear hss
     have HR3 := hid (by have h9 := HR2.out; rw [h_a] at h9; exact h9)
     clear HR2
     have hla := name_most n _ h_a
     have hzb51 : w.heap.size < w51.heap.size := lt_of_heap HS51.out.h0
     clear n0 n1 n2 n3 n4 n5 nf
     obtain ⟨n0, n1, n2, n3, n4, n5, nf⟩ := cells6 HS51.out.h0
     go_wp2_with fail
     cases h3 : decide (n.kids.length ≤ 2)
     ·
      have h3b : decide ((n.kids.length : Int) ≤ 2) = false := decide_eq_false (by have := of_decide_eq_false h3; omega)
      refine cmo (must_calls _ _) ?_
      rintro e9 w99 ⟨hw9, rfl⟩
      obtain rfl := hw9.symm
      clear hw9
      simp only [h3b, Bool.false_eq_true, ↓reduceIte]
      obtain rfl : r = none := by rw [HR3.out, if_neg (of_decide_eq_false h3)]; simp only [sq_nn, SQ0, ↓reduceIte]
      exact ⟨rfl, rfl, HS51.out.ov⟩
     ·
      have h3n : n.kids.length ≤ 2 := of_decide_eq_true h3
      have h3b : decide ((n.kids.length : Int) ≤ 2) = true := decide_eq_true (by omega)
      refine cmo (must_calls _ _) ?_
      rintro e9 w99 ⟨hw9, rfl⟩
      obtain rfl := hw9.symm
      clear hw9
      simp only [h3b, ↓reduceIte]
      cases h4 : (n.kids.length == 2)
      ·
       have h4b : ((n.kids.length : Int) == 2) = false := beq_eq_false_iff_ne.mpr (by simp at h4; omega)
       go_wp2_with fail
       have HR9 := hid (show r = _ by have h9 := HR3.out; simp only [h3n, h4, SQ0, ↓reduceIte] at h9; exact h9)
       clear HR3
       refine cmo (put_calls c _ (xs ++ ys_t ++ ys_a) [⟨#[59]⟩] _ _ 1 (strs_read (by simp) (heap_alloc_new _ _)) (HS51.out.alloc _) (by (try simp only [List.length_append, List.length_cons, List.length_nil]); omega)) ?_
       rintro e9 w52 ⟨rfl, hss⟩
       have HS52 := hid (hss.drop)
       clear HS51
       clear hss
       go_wp2_with fail
       have hys := HR9.out
       try simp only [SQ0, ↓reduceIte] at hys
       subst hys
       exact bodyPost_end (v := .tuple #[]) (by simp [results, Tryz.results22]) rfl ⟨rfl, by have h9 := HS52.out.drop; simpa only [List.append_assoc, List.append_nil, List.nil_append, List.cons_append] using h9⟩
      ·
       have h4n : n.kids.length = 2 := by simpa using h4
       have hkl : (n.kids.length : Int) = 2 := by omega
       obtain ⟨gk1, Ak1, ck1, hA1, hg1, q0, q1, q2, q3, q4, q5, HTr1⟩ := kid_at HTR.out HS51.out.ov 1 (by omega)
       have HT1 := hid HTr1
       clear HTr1
       obtain rfl : gk0 = gk1 := by have := Option.some.inj hA1; exact congrArg Addr.block this
       have p0 : w51.cell? ⟨gk0, 6, none⟩ = _ := q0
       have p1 : w51.cell? ⟨gk0, 7, none⟩ = _ := q1
       have p2 : w51.cell? ⟨gk0, 8, none⟩ = _ := q2
       have p3 : w51.cell? ⟨gk0, 9, none⟩ = _ := q3
       have p4 : w51.cell? ⟨gk0, 10, none⟩ = _ := q4
       have p5 : w51.cell? ⟨gk0, 11, none⟩ = _ := q5
       clear q0 q1 q2 q3 q4 q5
       have hkl0 : (0 : Int) ≤ (n.kids.length : Int) := by omega
       go_wp2_with fail
       clear p0 p1 p2 p3 p4 p5
       cases bp : plainB (kidN n 1) ⟨#[110, 117, 109]⟩ 0 false true
       ·
        refine cmo (plain_calls _ _ _ _ _ _ _ _) ?_
        rintro e9 w52 ⟨hov, rfl⟩
        rw [bp]
        have HS52 := hid (HS51.out.isOv hov)
        clear HS51
        clear hov
        obtain rfl : r = none := by rw [HR3.out]; simp only [h3n, h4, bp, sq_nn, SQ0, ↓reduceIte]
        exact ⟨rfl, rfl, HS52.out.ov⟩
       ·
        refine cmo (plain_calls _ _ _ _ _ _ _ _) ?_
        rintro e9 w52 ⟨hov, rfl⟩
        rw [bp]
        have HS52 := hid (HS51.out.isOv hov)
        clear HS51
        clear hov
        have hzb52 : w.heap.size < w52.heap.size := lt_of_heap HS52.out.h0
        clear n0 n1 n2 n3 n4 n5 nf
        obtain ⟨n0, n1, n2, n3, n4, n5, nf⟩ := cells6 HS52.out.h0
        obtain ⟨gk1x, Ak1x, ck1x, hA1x, hg1x, q0, q1, q2, q3, q4, q5, HTr1x⟩ := kid_at HTR.out HS52.out.ov 1 (by omega)
        obtain rfl : gk0 = gk1x := congrArg Addr.block (Option.some.inj hA1x)
        have p2 : w52.cell? ⟨gk0, 8, none⟩ = _ := q2
        clear q0 q1 q2 q3 q4 q5
        go_wp2_with fail
        have HR9 := hid (show r = _ by have h9 := HR3.out; simp only [h3n, h4, bp, SQ0, ↓reduceIte] at h9; exact h9)
        clear HR3
        have hnr := ((numsOk_eq _).1 (kid_nums (n := n) (i := 1) (by omega) hn)).1
        refine cmo (formatUint_gives (kidN n 1).num hnr.1 hnr.2 _ (HLP.out.of_isOv HS52.out.ov)) ?_
        rintro e9 w53 ⟨rfl, hov⟩
        have HS53 := hid (HS52.out.isOv hov)
        clear HS52
        clear hov
        go_wp2_with fail
        refine cmo (put_calls c _ (xs ++ ys_t ++ ys_a) [⟨#[91]⟩, digitsB (kidN n 1).num, ⟨#[93]⟩] _ _ 3 (strs_read (by simp) (heap_alloc_new _ _)) (HS53.out.alloc _) (by (try simp only [List.length_append, List.length_cons, List.length_nil]); omega)) ?_
        rintro e9 w54 ⟨rfl, hss⟩
        have HS54 := hid (hss.drop)
        clear HS53
        clear hss
        go_wp2_with fail
        refine cmo (put_calls c _ (xs ++ ys_t ++ ys_a ++ [⟨#[91]⟩, digitsB (kidN n 1).num, ⟨#[93]⟩]) [⟨#[59]⟩] _ _ 1 (strs_read (by simp) (heap_alloc_new _ _)) (HS54.out.alloc _) (by (try simp only [List.length_append, List.length_cons, List.length_nil]); omega)) ?_
        rintro e9 w55 ⟨rfl, hss⟩
        have HS55 := hid (hss.drop)
        clear HS54
        clear hss
        go_wp2_with fail
        have hys := HR9.out
        try simp only [SQ0, ↓reduceIte] at hys
        subst hys
        exact bodyPost_end (v := .tuple #[]) (by simp [results, Tryz.results22]) rfl ⟨rfl, by have h9 := HS55.out.drop; simpa only [List.append_assoc, List.append_nil, List.nil_append, List.cons_append] using h9⟩
end Go.Proofs.YtdimhoilfopndaaGreatDoor
end
section
namespace Go.Proofs.YtdimhoilfopndaaGreatDoor
open Go.RowKit Go.Proofs.YtdimhoilfopndaaGreatDoorW.PrintWords
set_option maxRecDepth 20000 in
set_option maxHeartbeats 1600000 in
theorem item_func (c : SC) (HL0 : LaidP c.W) (g : Nat) (w : World) (xs : List ByteArray) (hs : List (Nat × Obj)) (n : Node) (A : Option Addr) (cap : Nat) (k_global : (n.kind.toList == [103, 108, 111, 98, 97, 108]) = false) (k_func : (n.kind.toList == [102, 117, 110, 99]) = true) (hd : 3 * depthN n ≤ g + 5) (hn : numsOk n = true) (h : SS c w xs hs) (ht : Tr c.W (.slice A n.kids.length cap) n.kids) (hl : xs.length + 10 * nodesN n ≤ 1000000000) (r : Out) (hr : r = (if decide (0 < n.kids.length) && (n.num == 0) then sq (typS (kidN n 0) true) (sq (nameS n) (if decide (1 < n.kids.length) then sq (some [⟨#[40]⟩]) (sq (commas paramS true ((n.kids.drop 1).take (n.kids.length - 2))) (sq (some [⟨#[41]⟩]) (blockS g (kidN n (n.kids.length - 1))))) else none)) else none)) : Calls Tryz.prog 22 #[.pointer (some ⟨c.p, 0, none⟩), nodeV n (.slice A n.kids.length cap)] w (PostS c xs r hs) := by
 have HL := hid HL0.v
 have HLP := hid HL0
 have HTR := hid ht
 have HR0 := hid hr
 clear hr ht
 have hnp := nodesN_pos n
 have hne := nodesN_eq n
 have hlk := len_nodesL n.kids
 have hkl0 : (0 : Int) ≤ (n.kids.length : Int) := by omega
 unfold nodeV
 have hlt := h.lt
 have HS0 := hid h
 clear h
 go_enter Tryz.func22, Tryz.ntmps22
 have HS1 := hid (HS0.out.alloc (.cells #[.string n.kind, .string n.text, .int .u64 n.num, .int .i64 n.line, .int .i64 n.col, .slice A n.kids.length cap] 26))
 cases h1 : decide (0 < n.kids.length)
 ·
  have h1n : n.kids.length = 0 := by have := of_decide_eq_false h1; omega
  go_wp2_with fail
  refine cmo (must_calls false _) ?_
  rintro e9 w99 ⟨hw9, rfl⟩
  obtain rfl := hw9.symm
  clear hw9
  obtain rfl : r = none := by rw [HR0.out]; simp only [h1, SQ0, ↓reduceIte]
  exact ⟨rfl, rfl, by have h9 := HS1.out.ov; rw [h1n] at h9; exact h9⟩
 ·
  have h1n : 0 < n.kids.length := of_decide_eq_true h1
  have h1b : decide ((0 : Int) < (n.kids.length : Int)) = true := decide_eq_true (by omega)
  cases h2 : (n.num == 0)
  ·
   go_wp2_with fail
   refine cmo (must_calls _ _) ?_
   rintro e9 w99 ⟨hw9, rfl⟩
   obtain rfl := hw9.symm
   clear hw9
   have h2n : ¬ n.num = 0 := by simpa using h2
   rw [if_neg (by simp [h2n])]
   obtain rfl : r = none := by rw [HR0.out]; simp only [h1, h2, SQ0, ↓reduceIte]
   exact ⟨rfl, rfl, HS1.out.ov⟩
  ·
   go_wp2_with fail
   refine cmo (must_calls _ _) ?_
   rintro e9 w99 ⟨hw9, rfl⟩
   obtain rfl := hw9.symm
   clear hw9
   have h2n : n.num = 0 := by simpa using h2
   rw [if_pos (by simp [h2n])]
   have h2N := hid h2n
   clear h2n
   have h2h := hid h2
   clear h2
   go_wp2_with fail
   revert HS1
   generalize w.alloc (.cells #[.string n.kind, .string n.text, .int .u64 n.num, .int .i64 n.line, .int .i64 n.col, .slice A n.kids.length cap] 26) = w1
   intro HS1
   have HR1 : Hid (r = sq (typS (kidN n 0) true) (sq (nameS n) (if decide (1 < n.kids.length) then sq (some [⟨#[40]⟩]) (sq (commas paramS true ((n.kids.drop 1).take (n.kids.length - 2))) (sq (some [⟨#[41]⟩]) (blockS g (kidN n (n.kids.length - 1))))) else none))) := hid (by rw [HR0.out]; simp only [h1, h2h.out, SQ0, ↓reduceIte])
   clear HR0
   obtain ⟨gk0, Ak0, ck0, hA0, hg0, p0, p1, p2, p3, p4, p5, HTr0⟩ := kid_at HTR.out (IsOv.refl c.W) 0 (by omega)
   have HT0 := hid HTr0
   clear HTr0
   subst hA0
   simp only [Nat.zero_mul, Nat.zero_add] at p0 p1 p2 p3 p4 p5
   have hzb1 : w.heap.size < w1.heap.size := lt_of_heap HS1.out.h0
   obtain ⟨n0, n1, n2, n3, n4, n5, nf⟩ := cells6 HS1.out.h0
   have hS0 : (fun w' : World => IsOv c.W w' ∧ w'.cell? ⟨w.heap.size, 0, none⟩ = some (.string n.kind) ∧ w'.cell? ⟨w.heap.size, 5, none⟩ = some (.slice (some ⟨gk0, 0, none⟩) n.kids.length cap)) w1.drew := ⟨HS1.out.ov.drew, n0, n5⟩
   refine wp_region_K (fun w' : World => IsOv c.W w' ∧ w'.cell? ⟨w.heap.size, 0, none⟩ = some (.string n.kind) ∧ w'.cell? ⟨w.heap.size, 5, none⟩ = some (.slice (some ⟨gk0, 0, none⟩) n.kids.length cap)) (fun j => false) (by kernel_rfl) ?_
   refine wpAnyK_take (i := 0) (v := ?_) rfl (by kernel_rfl) (by kernel_rfl) (by kernel_rfl) (by kernel_rfl) (fun _ _ _ h => h) (Or.inl ⟨by rfl, ?_⟩) hS0 ?_
   rotate_left
   · intro w9 hSw; (try dsimp only at hSw); obtain ⟨s9, s0, s5⟩ := hSw; have t0 := s9.cell p0; have t1 := s9.cell p1; have t2 := s9.cell p2; have t3 := s9.cell p3; have t4 := s9.cell p4; have t5 := s9.cell p5; go_simp; (try with_reducible rfl)
   try simp only [Act.put, List.setIfInBounds_toArray, List.set_cons_zero, List.set_cons_succ]
   refine wpAnyK_take (i := 1) (v := ?_) rfl (by kernel_rfl) (by kernel_rfl) (by kernel_rfl) (by kernel_rfl) (fun _ _ _ h => h) (Or.inl ⟨by rfl, ?_⟩) hS0 ?_
   rotate_left
   · intro w9 hSw; (try dsimp only at hSw); obtain ⟨s9, s0, s5⟩ := hSw; have t0 := s9.cell p0; have t1 := s9.cell p1; have t2 := s9.cell p2; have t3 := s9.cell p3; have t4 := s9.cell p4; have t5 := s9.cell p5; go_simp; (try with_reducible rfl)
   try simp only [Act.put, List.setIfInBounds_toArray, List.set_cons_zero, List.set_cons_succ]
   refine wpAnyK_take (i := 2) (v := ?_) rfl (by kernel_rfl) (by kernel_rfl) (by kernel_rfl) (by kernel_rfl) (fun _ _ _ h => h) (Or.inl ⟨by rfl, ?_⟩) hS0 ?_
   rotate_left
   · intro w9 hSw; (try dsimp only at hSw); obtain ⟨s9, s0, s5⟩ := hSw; have t0 := s9.cell p0; have t1 := s9.cell p1; have t2 := s9.cell p2; have t3 := s9.cell p3; have t4 := s9.cell p4; have t5 := s9.cell p5; go_simp; (try with_reducible rfl)
   try simp only [Act.put, List.setIfInBounds_toArray, List.set_cons_zero, List.set_cons_succ]
   refine wpAnyK_take (i := 3) (v := ?_) rfl (by kernel_rfl) (by kernel_rfl) (by kernel_rfl) (by kernel_rfl) (fun _ _ _ h => h) (Or.inl ⟨by rfl, ?_⟩) hS0 ?_
   rotate_left
   · intro w9 hSw; (try dsimp only at hSw); obtain ⟨s9, s0, s5⟩ := hSw; have t0 := s9.cell p0; have t1 := s9.cell p1; have t2 := s9.cell p2; have t3 := s9.cell p3; have t4 := s9.cell p4; have t5 := s9.cell p5; go_simp; (try with_reducible rfl)
   try simp only [Act.put, List.setIfInBounds_toArray, List.set_cons_zero, List.set_cons_succ]
   refine wpAnyK_take (i := 4) (v := ?_) rfl (by kernel_rfl) (by kernel_rfl) (by kernel_rfl) (by kernel_rfl) (fun _ _ _ h => h) (Or.inl ⟨by rfl, ?_⟩) hS0 ?_
   rotate_left
   · intro w9 hSw; (try dsimp only at hSw); obtain ⟨s9, s0, s5⟩ := hSw; have t0 := s9.cell p0; have t1 := s9.cell p1; have t2 := s9.cell p2; have t3 := s9.cell p3; have t4 := s9.cell p4; have t5 := s9.cell p5; go_simp; (try with_reducible rfl)
   try simp only [Act.put, List.setIfInBounds_toArray, List.set_cons_zero, List.set_cons_succ]
   refine wpAnyK_take (i := 5) (v := ?_) rfl (by kernel_rfl) (by kernel_rfl) (by kernel_rfl) (by kernel_rfl) (fun _ _ _ h => h) (Or.inl ⟨by rfl, ?_⟩) hS0 ?_
   rotate_left
   · intro w9 hSw; (try dsimp only at hSw); obtain ⟨s9, s0, s5⟩ := hSw; have t0 := s9.cell p0; have t1 := s9.cell p1; have t2 := s9.cell p2; have t3 := s9.cell p3; have t4 := s9.cell p4; have t5 := s9.cell p5; go_simp; (try with_reducible rfl)
   try simp only [Act.put, List.setIfInBounds_toArray, List.set_cons_zero, List.set_cons_succ]
   refine wpAnyK_take (i := 6) (v := ?_) rfl (by kernel_rfl) (by kernel_rfl) (by kernel_rfl) (by kernel_rfl) (fun _ _ _ h => h) (Or.inl ⟨by rfl, ?_⟩) hS0 ?_
   rotate_left
   · intro w9 hSw; (try dsimp only at hSw); obtain ⟨s9, s0, s5⟩ := hSw; have t0 := s9.cell p0; have t1 := s9.cell p1; have t2 := s9.cell p2; have t3 := s9.cell p3; have t4 := s9.cell p4; have t5 := s9.cell p5; go_simp; (try with_reducible rfl)
   try simp only [Act.put, List.setIfInBounds_toArray, List.set_cons_zero, List.set_cons_succ]
   refine wpAnyK_take (i := 7) (v := ?_) rfl (by kernel_rfl) (by kernel_rfl) (by kernel_rfl) (by kernel_rfl) (fun _ _ _ h => h) (Or.inl ⟨by rfl, ?_⟩) hS0 ?_
   rotate_left
   · intro w9 hSw; (try dsimp only at hSw); obtain ⟨s9, s0, s5⟩ := hSw; have t0 := s9.cell p0; have t1 := s9.cell p1; have t2 := s9.cell p2; have t3 := s9.cell p3; have t4 := s9.cell p4; have t5 := s9.cell p5; go_simp; (try with_reducible rfl)
   try simp only [Act.put, List.setIfInBounds_toArray, List.set_cons_zero, List.set_cons_succ]
   have HSD := hid (HS1.out.drew)
   clear HS1 hS0
   refine wpAnyK_one (i := 8) (by kernel_rfl) rfl (fun K hK => ?_)
   go_simp
   try go_wp2_with fail
   cases h_t : typS (kidN n 0) true with
   | none =>
    refine cmo (typ_shows c _ (xs) _ (kidN n 0) _ _ true HSD.out (by omega)) ?_
    rw [h_t]
    rintro e9 w99 ⟨rfl, hov⟩
    obtain rfl : r = none := by rw [HR1.out]; simp only [SQ0, ↓reduceIte, h_t]
    exact ⟨rfl, rfl, hov⟩
   | some ys_t =>
    refine cmo (typ_shows c _ (xs) _ (kidN n 0) _ _ true HSD.out (by omega)) ?_
    rw [h_t]
    rintro e9 w50 ⟨rfl, hss⟩
    have HS50 := hid hss
    clear hss
    have HR2 := hid (by have h9 := HR1.out; rw [h_t] at h9; exact h9)
    clear HR1 HSD
    have hlt9 := typ_most (kidN n 0) true _ h_t
    clear p0 p1 p2 p3 p4 p5
    clear n0 n1 n2 n3 n4 n5 nf
    have hzb50 : w.heap.size < w50.heap.size := lt_of_heap HS50.out.h0
    obtain ⟨n0, n1, n2, n3, n4, n5, nf⟩ := cells6 HS50.out.h0
    refine hK.out _ _ (fun _ => ⟨HS50.out.ov, n0, n5⟩) ?_
    clear hK K
    refine wpAnyK_done (by kernel_rfl) ?_ _
    go_wp2_with fail
    cases h_a : nameS n with
    | none =>
     refine cmo (name_shows c HL.out _ (xs ++ ys_t) _ n _ cap HS50.out (by (try simp only [List.length_append, List.length_cons, List.length_nil]); omega)) ?_
     rw [h_a]
     rintro e9 w99 ⟨rfl, hov⟩
     obtain rfl : r = none := by rw [HR2.out]; simp only [SQ0, ↓reduceIte, h_a]
     exact ⟨rfl, rfl, hov⟩
    | some ys_a =>
     refine cmo (name_shows c HL.out _ (xs ++ ys_t) _ n _ cap HS50.out (by (try simp only [List.length_append, List.length_cons, List.length_nil]); omega)) ?_
     rw [h_a]
     rintro e9 w51 ⟨rfl, hss⟩
     have HS51 := hid (hss)
     clear HS50
     clear hss
     have HR3 := hid (by have h9 := HR2.out; rw [h_a] at h9; exact h9)
     clear HR2
     have hla := name_most n _ h_a
     have hzb51 : w.heap.size < w51.heap.size := lt_of_heap HS51.out.h0
     clear n0 n1 n2 n3 n4 n5 nf
     obtain ⟨n0, n1, n2, n3, n4, n5, nf⟩ := cells6 HS51.out.h0
     go_wp2_with fail
     cases h3 : decide (1 < n.kids.length)
     ·
      have h3b : decide ((1 : Int) < (n.kids.length : Int)) = false := decide_eq_false (by have := of_decide_eq_false h3; omega)
      refine cmo (must_calls _ _) ?_
      rintro e9 w99 ⟨hw9, rfl⟩
      obtain rfl := hw9.symm
      clear hw9
      simp only [h3b, Bool.false_eq_true, ↓reduceIte]
      obtain rfl : r = none := by rw [HR3.out]; simp only [h3, sq_nn, SQ0, ↓reduceIte]
      exact ⟨rfl, rfl, HS51.out.ov⟩
     ·
      have h3n : 1 < n.kids.length := of_decide_eq_true h3
      have h3b : decide ((1 : Int) < (n.kids.length : Int)) = true := decide_eq_true (by omega)
      refine cmo (must_calls _ _) ?_
      rintro e9 w99 ⟨hw9, rfl⟩
      obtain rfl := hw9.symm
      clear hw9
      simp only [h3b, ↓reduceIte]
      have hzb51 : w.heap.size < w51.heap.size := lt_of_heap HS51.out.h0
      clear n0 n1 n2 n3 n4 n5 nf
      obtain ⟨n0, n1, n2, n3, n4, n5, nf⟩ := cells6 HS51.out.h0
      go_wp2_with fail
      refine cmo (put_calls c _ (xs ++ ys_t ++ ys_a) [⟨#[40]⟩] _ _ 1 (strs_read (by simp) (heap_alloc_new _ _)) (HS51.out.alloc _) (by (try simp only [List.length_append, List.length_cons, List.length_nil]); omega)) ?_
      rintro e9 w52 ⟨rfl, hss⟩
      have HS52 := hid (hss.drop)
      clear HS51
      clear hss
      have hzb52 : w.heap.size < w52.heap.size := lt_of_heap HS52.out.h0
      clear n0 n1 n2 n3 n4 n5 nf
      obtain ⟨n0, n1, n2, n3, n4, n5, nf⟩ := cells6 HS52.out.h0
      have hcap : n.kids.length ≤ cap := (Kd.R_reads' HTR.out).2.1
      have hkw : IntKind.i64.wrap ((n.kids.length : Int) - 1) = (n.kids.length : Int) - 1 := IntWalk.i64_in _ (by omega)
      go_wp2_with fail
      obtain ⟨m, hm⟩ : ∃ m, m = n.kids.length - 1 - 1 := ⟨_, rfl⟩
      rw [← hm]
      have hm2 : m + 2 ≤ n.kids.length := by omega
      have hm3 : n.kids.length ≤ m + 2 := by omega
      clear hm
      have hd1 : nodesL n.kids = nodesN (kidN n 0) + nodesL (n.kids.drop 1) := by have h9 := drop_kid (n := n) (i := 0) (by omega); rw [List.drop_zero] at h9; exact (congrArg nodesL h9).trans (nodesL_cons ..)
      have hk0p := nodesN_pos (kidN n 0)
      clear n0 n1 n2 n3 n4 n5 nf
      have HRL : Hid (r = sq (some (ys_t ++ ys_a ++ [⟨#[40]⟩])) (sq (commas paramS true ((n.kids.drop 1).take m)) (sq (some [⟨#[41]⟩]) (blockS g (kidN n (m + 1)))))) := hid (by rw [HR3.out]; simp only [h3, show n.kids.length - 2 = m by omega, show n.kids.length - 1 = m + 1 by omega, sq3, List.append_assoc, SQ0, ↓reduceIte])
      have HSL : Hid (SS c w52 (xs ++ (ys_t ++ ys_a ++ [⟨#[40]⟩])) ((w.heap.size, (.cells #[.string n.kind, .string n.text, .int .u64 n.num, .int .i64 n.line, .int .i64 n.col, .slice (some ⟨gk0, 0, none⟩) n.kids.length cap] 26)) :: hs)) := hid (by have h9 := HS52.out; simpa only [List.append_assoc] using h9)
      have HPL : (ys_t ++ ys_a ++ ([⟨#[40]⟩] : List ByteArray)).length + 10 * nodesL (n.kids.drop 1) + 8 ≤ 10 * nodesN n := by simp only [List.length_append, List.length_cons, List.length_nil]; omega
      clear HS52 HR3
      go_loopg [72] (m + 1) (fun gq b wr => ∃ (i : Nat) (pre : List ByteArray), b = .int .i64 (i : Int) ∧ i + gq = m + 1 ∧ i ≤ m ∧ pre.length + 10 * nodesL (n.kids.drop (i + 1)) + 8 ≤ 10 * nodesN n ∧ Hid (r = sq (some pre) (sq (commas paramS (decide (i = 0)) (((n.kids.drop 1).take m).drop i)) (sq (some [⟨#[41]⟩]) (blockS g (kidN n (m + 1)))))) ∧ Hid (SS c wr (xs ++ pre) ((w.heap.size, (.cells #[.string n.kind, .string n.text, .int .u64 n.num, .int .i64 n.line, .int .i64 n.col, .slice (some ⟨gk0, 0, none⟩) n.kids.length cap] 26)) :: hs)))
      case atStart => exact ⟨0, _, rfl, by omega, by omega, HPL, HRL, HSL⟩
      case round =>
       obtain ⟨i, pre, rfl, hi1, hi2, hpre, HR20, HS20⟩ := hrel
       clear HRL HSL HPL
       by_cases hi : i < m
       ·
        have hib : (i : Int) < (m : Int) := by omega
        have hibb : decide ((i : Int) < (m : Int)) = true := decide_eq_true hib
        have hib0 : (0 : Int) ≤ (i : Int) := by omega
        have hkd := kid_depth (n := n) (i := i + 1) (by omega)
        have hdk := drop_par (n := n) (m := m) (i := i) (by omega) hi
        have hnk : nodesL (n.kids.drop (i + 1)) = nodesN (kidN n (i + 1)) + nodesL (n.kids.drop (i + 2)) := by rw [drop_kid (by omega), nodesL_cons]
        have hknp := nodesN_pos (kidN n (i + 1))
        have hd1 : decide (i + 1 = 0) = false := decide_eq_false (by omega)
        have hiw : IntKind.i64.wrap ((i : Int) + 1) = (i : Int) + 1 := IntWalk.i64_in _ (by omega)
        have hwr := HS20.out.heldLt (w.heap.size, _) (List.mem_cons_self ..)
        obtain ⟨gk1x, Ak, ck, hA1x, hgk, q0, q1, q2, q3, q4, q5, HTk⟩ := kid_at HTR.out HS20.out.ov (i + 1) (by omega)
        obtain rfl : gk0 = gk1x := congrArg Addr.block (Option.some.inj hA1x)
        have HTK := hid HTk
        clear HTk hA1x
        have HR21 : Hid (r = sq (some pre) (sq (sq (sq (if decide (i = 0) then some [] else some [⟨#[44]⟩]) (paramS (kidN n (i + 1)))) (commas paramS false (((n.kids.drop 1).take m).drop (i + 1)))) (sq (some [⟨#[41]⟩]) (blockS g (kidN n (m + 1)))))) := hid (by rw [HR20.out, hdk, commas_cons])
        clear HR20 hdk
        by_cases hz : i = 0
        ·
         obtain rfl := hz
         have hd0 : decide ((0 : Nat) = 0) = true := rfl
         have hgt : decide ((0 : Int) < ((0 : Nat) : Int)) = false := rfl
         have p0 : wr.cell? ⟨gk0, 6, none⟩ = some (.string (kidN n 1).kind) := q0
         have p1 : wr.cell? ⟨gk0, 7, none⟩ = some (.string (kidN n 1).text) := q1
         have p2 : wr.cell? ⟨gk0, 8, none⟩ = some (.int .u64 (kidN n 1).num) := q2
         have p3 : wr.cell? ⟨gk0, 9, none⟩ = some (.int .i64 (kidN n 1).line) := q3
         have p4 : wr.cell? ⟨gk0, 10, none⟩ = some (.int .i64 (kidN n 1).col) := q4
         have p5 : wr.cell? ⟨gk0, 11, none⟩ = some (.slice Ak (kidN n 1).kids.length ck) := q5
         clear q0 q1 q2 q3 q4 q5
         simp only [Nat.zero_add] at HR21 HTK hknp hkd hnk hpre
         go_wp2_with fail
         have HS21 := hid (HS20.out.alloc (.cells #[.string (kidN n 1).kind, .string (kidN n 1).text, .int .u64 (kidN n 1).num, .int .i64 (kidN n 1).line, .int .i64 (kidN n 1).col, .slice Ak (kidN n 1).kids.length ck] 26))
         clear HS20
         clear p0 p1 p2 p3 p4 p5
         cases bp : plainB (kidN n 1) ⟨#[112, 97, 114, 97, 109]⟩ 1 true false
         ·
          refine cmo (plain_calls _ _ _ _ _ _ _ _) ?_
          rintro e9 w21 ⟨hov, rfl⟩
          rw [bp]
          have HS22 := hid (HS21.out.isOv hov)
          clear HS21
          clear hov
          obtain rfl : r = none := by rw [HR21.out]; simp only [paramS, bp, sq_nn, SQ0, ↓reduceIte]
          exact ⟨rfl, rfl, HS22.out.ov⟩
         ·
          refine cmo (plain_calls _ _ _ _ _ _ _ _) ?_
          rintro e9 w21 ⟨hov, rfl⟩
          rw [bp]
          have HS22 := hid (HS21.out.isOv hov)
          clear HS21
          clear hov
          have hkl1 : ((kidN n 1).kids.length : Int) = 1 := plainB_len bp
          obtain ⟨gq1, Aq, cq, hAq, hgq, q0, q1, q2, q3, q4, q5, HTq⟩ := kid_at HTK.out HS22.out.ov 0 (by omega)
          subst hAq
          have hkb := lt_of_heap HS22.out.h0
          obtain ⟨m0, m1, m2, m3, m4, m5, mf⟩ := cells6 HS22.out.h0
          go_wp2_with fail
          clear q0 q1 q2 q3 q4 q5
          obtain ⟨gq1x, Aq1, cq1, hAq, hgq1, q0, q1, q2, q3, q4, q5, HTq1⟩ := kid_at HTK.out HS22.out.ov 0 (by omega)
          obtain rfl : gq1 = gq1x := congrArg Addr.block (Option.some.inj hAq)
          simp only [Nat.zero_mul, Nat.zero_add] at q0 q1 q2 q3 q4 q5
          go_wp2_with fail
          have HR22 : Hid (r = sq (some pre) (sq (sq (sq (some []) (sq (typS (kidN (kidN n 1) 0) false) (nameS (kidN n 1)))) (commas paramS false (((n.kids.drop 1).take m).drop (0 + 1)))) (sq (some [⟨#[41]⟩]) (blockS g (kidN n (m + 1)))))) := hid (by have h9 := HR21.out; simp only [paramS, bp, hd0, Bool.false_eq_true, ↓reduceIte] at h9; exact h9)
          clear HR21
          clear m0 m1 m2 m3 m4 m5 mf q0 q1 q2 q3 q4 q5
          cases h_u : typS (kidN (kidN n 1) 0) false with
          | none =>
           refine cmo (typ_shows c _ (xs ++ pre) _ (kidN (kidN n 1) 0) _ _ false HS22.out (by (try simp only [List.length_append, List.length_cons, List.length_nil]); omega)) ?_
           rw [h_u]
           rintro e9 w99 ⟨rfl, hov⟩
           obtain rfl : r = none := by rw [HR22.out]; simp only [SQ0, ↓reduceIte, h_u]
           exact ⟨rfl, rfl, hov⟩
          | some ys_u =>
           refine cmo (typ_shows c _ (xs ++ pre) _ (kidN (kidN n 1) 0) _ _ false HS22.out (by (try simp only [List.length_append, List.length_cons, List.length_nil]); omega)) ?_
           rw [h_u]
           rintro e9 w22 ⟨rfl, hss⟩
           have HS23 := hid (hss)
           clear HS22
           clear hss
           have HR23 := hid (by have h9 := HR22.out; rw [h_u] at h9; exact h9)
           clear HR22
           have hlu := typ_most (kidN (kidN n 1) 0) false _ h_u
           obtain ⟨m0, m1, m2, m3, m4, m5, mf⟩ := cells6 HS23.out.h0
           go_wp2_with fail
           cases h_v : nameS (kidN n 1) with
           | none =>
            refine cmo (name_shows c HL.out _ (xs ++ pre ++ ys_u) _ (kidN n 1) _ ck HS23.out (by (try simp only [List.length_append, List.length_cons, List.length_nil]); omega)) ?_
            rw [h_v]
            rintro e9 w99 ⟨rfl, hov⟩
            obtain rfl : r = none := by rw [HR23.out]; simp only [SQ0, ↓reduceIte, h_v]
            exact ⟨rfl, rfl, hov⟩
           | some ys_v =>
            refine cmo (name_shows c HL.out _ (xs ++ pre ++ ys_u) _ (kidN n 1) _ ck HS23.out (by (try simp only [List.length_append, List.length_cons, List.length_nil]); omega)) ?_
            rw [h_v]
            rintro e9 w23 ⟨rfl, hss⟩
            have HS24 := hid (hss)
            clear HS23
            clear hss
            have HR24 := hid (by have h9 := HR23.out; rw [h_v] at h9; exact h9)
            clear HR23
            have hlv := name_most (kidN n 1) _ h_v
            have HR40 : Hid (r = sq (some (pre ++ ([] ++ (ys_u ++ ys_v)))) (sq (commas paramS (decide (0 + 1 = 0)) (((n.kids.drop 1).take m).drop (0 + 1))) (sq (some [⟨#[41]⟩]) (blockS g (kidN n (m + 1)))))) := hid (by rw [HR24.out]; simp only [sq_ss, sq_nil, sq_assoc, sq3, List.nil_append, hd1])
            have HS40 : Hid (SS c w23 (xs ++ (pre ++ ([] ++ (ys_u ++ ys_v)))) ((w.heap.size, (.cells #[.string n.kind, .string n.text, .int .u64 n.num, .int .i64 n.line, .int .i64 n.col, .slice (some ⟨gk0, 0, none⟩) n.kids.length cap] 26)) :: hs)) := hid (by have h9 := HS24.out.drop; simpa only [List.append_assoc, List.nil_append] using h9)
            have hbnd : (pre ++ (([] : List ByteArray) ++ (ys_u ++ ys_v))).length + 10 * nodesL (n.kids.drop (0 + 1 + 1)) + 8 ≤ 10 * nodesN n := by
             show _ + 10 * nodesL (n.kids.drop (2)) + 8 ≤ _
             simp only [List.length_append, List.length_cons, List.length_nil]
             omega
            go_wp2_with fail
            go_roundg (m - 0)
            case rel => exact ⟨0 + 1, pre ++ ([] ++ (ys_u ++ ys_v)), by push_cast; rfl, by omega, by omega, hbnd, HR40, HS40⟩
            case measure => omega
        ·
         have hgt2 : (0 : Int) < (i : Int) := by omega
         have hgt : decide ((0 : Int) < (i : Int)) = true := decide_eq_true hgt2
         have hd0 : decide (i = 0) = false := decide_eq_false hz
         have p0 : wr.cell? ⟨gk0, 6 + i * 6, none⟩ = some (.string (kidN n (i + 1)).kind) := by
          have h8 := q0
          rw [show (i + 1) * 6 = 6 + i * 6 by omega] at h8
          exact h8
         have p1 : wr.cell? ⟨gk0, 6 + i * 6 + 1, none⟩ = some (.string (kidN n (i + 1)).text) := by
          have h8 := q1
          rw [show (i + 1) * 6 + 1 = 6 + i * 6 + 1 by omega] at h8
          exact h8
         have p2 : wr.cell? ⟨gk0, 6 + i * 6 + 2, none⟩ = some (.int .u64 (kidN n (i + 1)).num) := by
          have h8 := q2
          rw [show (i + 1) * 6 + 2 = 6 + i * 6 + 2 by omega] at h8
          exact h8
         have p3 : wr.cell? ⟨gk0, 6 + i * 6 + 3, none⟩ = some (.int .i64 (kidN n (i + 1)).line) := by
          have h8 := q3
          rw [show (i + 1) * 6 + 3 = 6 + i * 6 + 3 by omega] at h8
          exact h8
         have p4 : wr.cell? ⟨gk0, 6 + i * 6 + 4, none⟩ = some (.int .i64 (kidN n (i + 1)).col) := by
          have h8 := q4
          rw [show (i + 1) * 6 + 4 = 6 + i * 6 + 4 by omega] at h8
          exact h8
         have p5 : wr.cell? ⟨gk0, 6 + i * 6 + 5, none⟩ = some (.slice Ak (kidN n (i + 1)).kids.length ck) := by
          have h8 := q5
          rw [show (i + 1) * 6 + 5 = 6 + i * 6 + 5 by omega] at h8
          exact h8
         clear q0 q1 q2 q3 q4 q5
         go_wp2_with fail
         have HS21 := hid (HS20.out.alloc (.cells #[.string (kidN n (i + 1)).kind, .string (kidN n (i + 1)).text, .int .u64 (kidN n (i + 1)).num, .int .i64 (kidN n (i + 1)).line, .int .i64 (kidN n (i + 1)).col, .slice Ak (kidN n (i + 1)).kids.length ck] 26))
         clear HS20
         clear p0 p1 p2 p3 p4 p5
         cases bp : plainB (kidN n (i + 1)) ⟨#[112, 97, 114, 97, 109]⟩ 1 true false
         ·
          refine cmo (plain_calls _ _ _ _ _ _ _ _) ?_
          rintro e9 w21 ⟨hov, rfl⟩
          rw [bp]
          have HS22 := hid (HS21.out.isOv hov)
          clear HS21
          clear hov
          obtain rfl : r = none := by rw [HR21.out]; simp only [paramS, bp, sq_nn, SQ0, ↓reduceIte]
          exact ⟨rfl, rfl, HS22.out.ov⟩
         ·
          refine cmo (plain_calls _ _ _ _ _ _ _ _) ?_
          rintro e9 w21 ⟨hov, rfl⟩
          rw [bp]
          have HS22 := hid (HS21.out.isOv hov)
          clear HS21
          clear hov
          have hkl1 : ((kidN n (i + 1)).kids.length : Int) = 1 := plainB_len bp
          obtain ⟨gq1, Aq, cq, hAq, hgq, q0, q1, q2, q3, q4, q5, HTq⟩ := kid_at HTK.out HS22.out.ov 0 (by omega)
          subst hAq
          have hkb := lt_of_heap HS22.out.h0
          obtain ⟨m0, m1, m2, m3, m4, m5, mf⟩ := cells6 HS22.out.h0
          go_wp2_with fail
          clear m0 m1 m2 m3 m4 m5 mf
          refine cmo (put_calls c _ (xs ++ pre) [⟨#[44]⟩] _ _ 1 (strs_read (by simp) (heap_alloc_new _ _)) (HS22.out.alloc _) (by (try simp only [List.length_append, List.length_cons, List.length_nil]); omega)) ?_
          rintro e9 w22 ⟨rfl, hss⟩
          have HS23 := hid (hss.drop)
          clear HS22
          clear hss
          obtain ⟨m0, m1, m2, m3, m4, m5, mf⟩ := cells6 HS23.out.h0
          clear q0 q1 q2 q3 q4 q5
          obtain ⟨gq1x, Aq1, cq1, hAq, hgq1, q0, q1, q2, q3, q4, q5, HTq1⟩ := kid_at HTK.out HS23.out.ov 0 (by omega)
          obtain rfl : gq1 = gq1x := congrArg Addr.block (Option.some.inj hAq)
          simp only [Nat.zero_mul, Nat.zero_add] at q0 q1 q2 q3 q4 q5
          go_wp2_with fail
          have HR22 : Hid (r = sq (some pre) (sq (sq (sq (some [⟨#[44]⟩]) (sq (typS (kidN (kidN n (i + 1)) 0) false) (nameS (kidN n (i + 1))))) (commas paramS false (((n.kids.drop 1).take m).drop (i + 1)))) (sq (some [⟨#[41]⟩]) (blockS g (kidN n (m + 1)))))) := hid (by have h9 := HR21.out; simp only [paramS, bp, hd0, Bool.false_eq_true, ↓reduceIte] at h9; exact h9)
          clear HR21
          clear m0 m1 m2 m3 m4 m5 mf q0 q1 q2 q3 q4 q5
          cases h_u : typS (kidN (kidN n (i + 1)) 0) false with
          | none =>
           refine cmo (typ_shows c _ (xs ++ pre ++ [⟨#[44]⟩]) _ (kidN (kidN n (i + 1)) 0) _ _ false HS23.out (by (try simp only [List.length_append, List.length_cons, List.length_nil]); omega)) ?_
           rw [h_u]
           rintro e9 w99 ⟨rfl, hov⟩
           obtain rfl : r = none := by rw [HR22.out]; simp only [SQ0, ↓reduceIte, h_u]
           exact ⟨rfl, rfl, hov⟩
          | some ys_u =>
           refine cmo (typ_shows c _ (xs ++ pre ++ [⟨#[44]⟩]) _ (kidN (kidN n (i + 1)) 0) _ _ false HS23.out (by (try simp only [List.length_append, List.length_cons, List.length_nil]); omega)) ?_
           rw [h_u]
           rintro e9 w23 ⟨rfl, hss⟩
           have HS24 := hid (hss)
           clear HS23
           clear hss
           have HR23 := hid (by have h9 := HR22.out; rw [h_u] at h9; exact h9)
           clear HR22
           have hlu := typ_most (kidN (kidN n (i + 1)) 0) false _ h_u
           obtain ⟨m0, m1, m2, m3, m4, m5, mf⟩ := cells6 HS24.out.h0
           go_wp2_with fail
           cases h_v : nameS (kidN n (i + 1)) with
           | none =>
            refine cmo (name_shows c HL.out _ (xs ++ pre ++ [⟨#[44]⟩] ++ ys_u) _ (kidN n (i + 1)) _ ck HS24.out (by (try simp only [List.length_append, List.length_cons, List.length_nil]); omega)) ?_
            rw [h_v]
            rintro e9 w99 ⟨rfl, hov⟩
            obtain rfl : r = none := by rw [HR23.out]; simp only [SQ0, ↓reduceIte, h_v]
            exact ⟨rfl, rfl, hov⟩
           | some ys_v =>
            refine cmo (name_shows c HL.out _ (xs ++ pre ++ [⟨#[44]⟩] ++ ys_u) _ (kidN n (i + 1)) _ ck HS24.out (by (try simp only [List.length_append, List.length_cons, List.length_nil]); omega)) ?_
            rw [h_v]
            rintro e9 w24 ⟨rfl, hss⟩
            have HS25 := hid (hss)
            clear HS24
            clear hss
            have HR24 := hid (by have h9 := HR23.out; rw [h_v] at h9; exact h9)
            clear HR23
            have hlv := name_most (kidN n (i + 1)) _ h_v
            have HR40 : Hid (r = sq (some (pre ++ ([⟨#[44]⟩] ++ (ys_u ++ ys_v)))) (sq (commas paramS (decide (i + 1 = 0)) (((n.kids.drop 1).take m).drop (i + 1))) (sq (some [⟨#[41]⟩]) (blockS g (kidN n (m + 1)))))) := hid (by rw [HR24.out]; simp only [sq_ss, sq_nil, sq_assoc, sq3, List.nil_append, hd1])
            have HS40 : Hid (SS c w24 (xs ++ (pre ++ ([⟨#[44]⟩] ++ (ys_u ++ ys_v)))) ((w.heap.size, (.cells #[.string n.kind, .string n.text, .int .u64 n.num, .int .i64 n.line, .int .i64 n.col, .slice (some ⟨gk0, 0, none⟩) n.kids.length cap] 26)) :: hs)) := hid (by have h9 := HS25.out.drop; simpa only [List.append_assoc, List.nil_append] using h9)
            have hbnd : (pre ++ (([⟨#[44]⟩] : List ByteArray) ++ (ys_u ++ ys_v))).length + 10 * nodesL (n.kids.drop (i + 1 + 1)) + 8 ≤ 10 * nodesN n := by
             show _ + 10 * nodesL (n.kids.drop (i + 2)) + 8 ≤ _
             simp only [List.length_append, List.length_cons, List.length_nil]
             omega
            go_wp2_with fail
            go_roundg (m - i)
            case rel => exact ⟨i + 1, pre ++ ([⟨#[44]⟩] ++ (ys_u ++ ys_v)), by push_cast; rfl, by omega, by omega, hbnd, HR40, HS40⟩
            case measure => omega
       ·
        have him : m = i := by omega
        subst him
        have hibb : decide ((m : Int) < (m : Int)) = false := decide_eq_false (by omega)
        have hwr := HS20.out.heldLt (w.heap.size, _) (List.mem_cons_self ..)
        have hnil : ((n.kids.drop 1).take m).drop m = [] := List.drop_eq_nil_of_le (by rw [List.length_take]; omega)
        have HR21 : Hid (r = sq (some pre) (sq (some [⟨#[41]⟩]) (blockS g (kidN n (m + 1))))) := hid (by rw [HR20.out, hnil]; simp only [commas, sq_nil])
        clear HR20
        go_wp2_with fail
        refine cmo (put_calls c _ (xs ++ pre) [⟨#[41]⟩] _ _ 1 (strs_read (by simp) (heap_alloc_new _ _)) (HS20.out.alloc _) (by (try simp only [List.length_append, List.length_cons, List.length_nil]); omega)) ?_
        rintro e9 w21 ⟨rfl, hss⟩
        have HS21 := hid (hss.drop)
        clear HS20
        clear hss
        have hzb21 : w.heap.size < w21.heap.size := lt_of_heap HS21.out.h0
        obtain ⟨n0, n1, n2, n3, n4, n5, nf⟩ := cells6 HS21.out.h0
        obtain ⟨gk1x, Akl, ckl, hA1x, hg1x, q0, q1, q2, q3, q4, q5, HTr1x⟩ := kid_at HTR.out HS21.out.ov (m + 1) (by omega)
        obtain rfl : gk0 = gk1x := congrArg Addr.block (Option.some.inj hA1x)
        have HTl := hid HTr1x
        clear HTr1x
        have hlb : decide (((m : Int) + 1) < (m : Int) + 2) = true := decide_eq_true (by omega)
        have hlw : IntKind.i64.wrap ((n.kids.length : Int) - 1) = ((m + 1 : Nat) : Int) := by rw [hkw]; omega
        clear hkw
        go_wp2_with fail
        have hkdl := kid_depth (n := n) (i := m + 1) (by omega)
        have hdrl : nodesL (n.kids.drop (m + 1)) = nodesN (kidN n (m + 1)) + nodesL (n.kids.drop (m + 2)) := by rw [drop_kid (by omega), nodesL_cons]
        cases h_z : blockS g (kidN n (m + 1)) with
        | none =>
         refine cmo ((shs c HL0 g).block _ (xs ++ pre ++ [⟨#[41]⟩]) _ (kidN n (m + 1)) _ _ (by omega) (kid_nums (by omega) hn) HS21.out HTl.out (by (try simp only [List.length_append, List.length_cons, List.length_nil]); omega)) ?_
         rw [h_z]
         rintro e9 w99 ⟨rfl, hov⟩
         obtain rfl : r = none := by rw [HR21.out]; simp only [SQ0, ↓reduceIte, h_z]
         exact ⟨rfl, rfl, hov⟩
        | some ys_z =>
         refine cmo ((shs c HL0 g).block _ (xs ++ pre ++ [⟨#[41]⟩]) _ (kidN n (m + 1)) _ _ (by omega) (kid_nums (by omega) hn) HS21.out HTl.out (by (try simp only [List.length_append, List.length_cons, List.length_nil]); omega)) ?_
         rw [h_z]
         rintro e9 w22 ⟨rfl, hss⟩
         have HS22 := hid (hss)
         clear HS21
         clear hss
         have HR22 := hid (by have h9 := HR21.out; rw [h_z] at h9; exact h9)
         clear HR21
         go_wp2_with fail
         have hys := HR22.out
         try simp only [SQ0, ↓reduceIte] at hys
         subst hys
         exact bodyPost_end (v := .tuple #[]) (by simp [results, Tryz.results22]) rfl ⟨rfl, by have h9 := HS22.out.drop; simpa only [List.append_assoc, List.append_nil, List.nil_append, List.cons_append] using h9⟩
end Go.Proofs.YtdimhoilfopndaaGreatDoor
end
section
namespace Go.Proofs.YtdimhoilfopndaaGreatDoor
open Go.RowKit Go.Proofs.YtdimhoilfopndaaGreatDoorW.PrintWords
theorem item_shows (c : SC) (HL : LaidP c.W) (g : Nat) (w : World) (xs : List ByteArray) (hs : List (Nat × Obj)) (n : Node) (A : Option Addr) (cap : Nat) (hd : 3 * depthN n ≤ g + 5) (hn : numsOk n = true) (h : SS c w xs hs) (ht : Tr c.W (.slice A n.kids.length cap) n.kids) (hl : xs.length + 10 * nodesN n ≤ 1000000000) : Calls Tryz.prog 22 #[.pointer (some ⟨c.p, 0, none⟩), nodeV n (.slice A n.kids.length cap)] w (PostS c xs (itemS g n) hs) := by
 cases k_global : (n.kind.toList == [103, 108, 111, 98, 97, 108])
 ·
  cases k_func : (n.kind.toList == [102, 117, 110, 99])
  ·
   have e_global : eqB n.kind ⟨#[103, 108, 111, 98, 97, 108]⟩ = false := by have h9 := k_global; rw [Lib.toList_data] at h9; exact h9
   have e_func : eqB n.kind ⟨#[102, 117, 110, 99]⟩ = false := by have h9 := k_func; rw [Lib.toList_data] at h9; exact h9
   exact item_other c HL g w xs hs n A cap k_global k_func hd hn h ht hl _ (by simp only [itemS, Bool.and_false, Bool.false_and, Bool.true_and, Bool.false_eq_true, ↓reduceIte, e_global, e_func])
  ·
   have e_global : eqB n.kind ⟨#[103, 108, 111, 98, 97, 108]⟩ = false := by have h9 := k_global; rw [Lib.toList_data] at h9; exact h9
   have e_func : eqB n.kind ⟨#[102, 117, 110, 99]⟩ = true := by have h9 := k_func; rw [Lib.toList_data] at h9; exact h9
   exact item_func c HL g w xs hs n A cap k_global k_func hd hn h ht hl _ (by simp only [itemS, Bool.and_false, Bool.false_and, Bool.true_and, Bool.false_eq_true, ↓reduceIte, e_global, e_func])
 ·
  have hk9 : n.kind.toList = [103, 108, 111, 98, 97, 108] := by simpa using k_global
  have k_func : (n.kind.toList == [102, 117, 110, 99]) = false := by rw [hk9]; rfl
  have e_global : eqB n.kind ⟨#[103, 108, 111, 98, 97, 108]⟩ = true := by have h9 := k_global; rw [Lib.toList_data] at h9; exact h9
  have e_func : eqB n.kind ⟨#[102, 117, 110, 99]⟩ = false := by have h9 := k_func; rw [Lib.toList_data] at h9; exact h9
  exact item_global c HL g w xs hs n A cap k_global k_func hd hn h ht hl _ (by simp only [itemS, Bool.and_false, Bool.false_and, Bool.true_and, Bool.false_eq_true, ↓reduceIte, e_global, e_func])
end Go.Proofs.YtdimhoilfopndaaGreatDoor
end
section
namespace Go.Proofs.YtdimhoilfopndaaGreatDoor
open Go.RowKit Go.Proofs.YtdimhoilfopndaaGreatDoorW.PrintWords
theorem show_idle (a0 a1 : Value) (w : World) :
  CallsD Tryz.prog 20 #[a0, a1] .returning w fun e u' w' => e = .returned (.tuple #[]) ∧ u' = .returning ∧ w' = w := by
 refine callsD_of_wpS Tryz.func20 rfl fun c₀ cs hu => ?_
 apply wpS_seq
 apply wpS_region
 simp [wpOpsS, go_sem, recoverD, hu, Tryz.ntmps20, Exit.thenS]
 apply wpS_seq
 apply wpS_region
 simp [wpOpsS, go_sem, Exit.thenS]
 refine wpS_cond (t := false) (by simp [Act.eval]) ?_
 simp only [Bool.false_eq_true, if_false]
 refine wpS_of_wp (wp_skip ?_)
 cases c₀
 simp_all [bodyPostS, results, Tryz.results20]
set_option maxRecDepth 20000 in
set_option maxHeartbeats 800000 in
theorem show_odd (b0 b1 : Nat) (y0 y1 : Value) (older : List PanicEntry) (w0 w : World) (hov : IsOv w0 w) (h0 : w.heap[b0]? = some (.cells #[y0] 9 (0, 0))) (h1 : w.heap[b1]? = some (.cells #[y1] 27 (0, 0)))
  (g0 : w0.heap.size ≤ b0) (g1 : b0 < b1) :
  CallsD Tryz.prog 20 #[.pointer (some ⟨b0, 0, none⟩), .pointer (some ⟨b1, 0, none⟩)] (.panicking ({ v := .iface 47 (.agg #[]), recovered := false } :: older)) w fun e u' w' =>
   e = .returned (.tuple #[]) ∧ u' = .panicking ({ v := .iface 47 (.agg #[]), recovered := true } :: older) ∧ IsOv w0 w' ∧ w'.heap[b0]? = some (.cells #[.string ⟨#[]⟩] 9 (0, 0)) ∧ w'.heap[b1]? = some (.cells #[.int .i64 32] 27 (0, 0)) := by
 have k0 := lt_of_heap h0
 have k1 := lt_of_heap h1
 refine callsD_of_wpS Tryz.func20 rfl fun c₀ cs hu => ?_
 apply wpS_seq
 apply wpS_region
 simp [wpOpsS, go_sem, recoverD, hu, Tryz.ntmps20, Exit.thenS]
 apply wpS_seq
 apply wpS_region
 simp [wpOpsS, go_sem, Exit.thenS]
 refine wpS_cond (t := true) (by simp [Act.eval]) ?_
 simp only [if_true]
 refine wpS_of_wp ?_
 have hex0 : ∀ W : World, (Instr.extract (.tuple #[.agg #[], .bool true]) 0).run Tryz.prog W = .ok (.agg #[]) W := fun _ => rfl
 have hex1 : ∀ W : World, (Instr.extract (.tuple #[.agg #[], .bool true]) 1).run Tryz.prog W = .ok (.bool true) W := fun _ => rfl
 have hta : ∀ W : World, (Instr.typeAssert (.iface 47 (.agg #[])) 20 47 true).run Tryz.prog W = .ok (.tuple #[.agg #[], .bool true]) W := fun _ => rfl
 simp only [← List.toArray_replicate, List.replicate, List.append_toArray, List.setIfInBounds_toArray, List.set_cons_zero, List.set_cons_succ, List.cons_append, List.nil_append]
 obtain ⟨a0, af⟩ := cells1 h0
 obtain ⟨d0, df⟩ := cells1 h1
 go_wp2_with fail
 refine ⟨rfl, _, rfl, .tuple #[], by simp [results, Tryz.results20], rfl, rfl, ?_, ?_, ?_⟩
 · repeat (first | with_reducible exact hov | with_reducible apply IsOv.drew | with_reducible apply IsOv.alloc | with_reducible refine IsOv.setCell ?_ (by dsimp only; omega) _)
 · first | exact hs_far (hs_set (hs_alloc h0 _) _) (b := _) (by omega) _ | exact hs_alloc (hs_far (hs_set h0 _) (by omega) _) _ | exact hs_set (hs_far (hs_alloc h0 _) (by omega) _) _ | done
 · first | exact hs_alloc (hs_set (hs_far h1 (by omega) _) _) _ | exact hs_far (hs_set (hs_alloc h1 _) _) (by omega) _ | done
end Go.Proofs.YtdimhoilfopndaaGreatDoor
end
section
namespace Go.Proofs.YtdimhoilfopndaaGreatDoor
open Go.RowKit Go.Proofs.YtdimhoilfopndaaGreatDoorW.PrintWords
theorem results2 {tmps : Array Value} {W : World} {b0 b1 : Nat} {x : ByteArray} {d : Int} (t2 : tmps.getD 2 undef = .pointer (some ⟨b0, 0, none⟩)) (t3 : tmps.getD 3 undef = .pointer (some ⟨b1, 0, none⟩))
  (h0 : W.heap[b0]? = some (.cells #[.string x] 9 (0, 0))) (h1 : W.heap[b1]? = some (.cells #[.int .i64 d] 27 (0, 0))) : (results Tryz.f9 tmps).run Tryz.prog W = .ok (.tuple #[.string x, .int .i64 d]) W := by
 have c0 : W.cell? ⟨b0, 0, none⟩ = some (.string x) := cell_of_heap h0 0
 have l1 : W.cell? ⟨b1, 0, none⟩ = some (.int .i64 d) := cell_of_heap h1 0
 simp only [Array.getD_eq_getD_getElem?] at t2 t3
 simp [results, Tryz.results9, t2, t3, c0, l1, asAddr, go_sem]
theorem take_nodes : ∀ (m : Nat) (ks : List Node), nodesL (ks.take m) + nodesL (ks.drop m) = nodesL ks := by
 intro m ks
 rw [← nodesL_app, List.take_append_drop]
theorem param_most (n : Node) : AtMost (paramS n) 2 := .ite (fun _ => (typ_most _ _).sq (name_most n)) (fun _ => .none _)
theorem item_most (g : Nat) (n : Node) : AtMost (itemS g n) (10 * nodesN n) := by
 have hp := nodesN_eq n
 unfold itemS
 refine .ite (fun h => ?_) fun _ => .none _
 refine AtMost.mono ((typ_most _ _).sq ((name_most n).sq (k := 1) (m := 10 * nodesN n - 2) ?_)) (by omega)
 refine .ite (fun _ => .ite (fun _ => ?_) fun _ => .none _) fun _ => .ite (fun h2 => ?_) fun _ => .none _
 · exact (AtMost.sq (k := 3) (.ite (fun _ => .ite (fun _ => .some _) fun _ => .none _) fun _ => (AtMost.some []).mono (by simp)) (.some _)).mono (by simp only [List.length_cons, List.length_nil]; omega)
 ·
  simp only [Bool.and_eq_true, decide_eq_true_eq] at h2
  obtain ⟨m, hm⟩ : ∃ m, n.kids.length = m + 2 := ⟨n.kids.length - 2, by omega⟩
  have e1 := take_nodes m (n.kids.drop 1)
  rw [List.drop_drop] at e1
  have e2 := drop_kid (n := n) (i := 0) (by omega)
  rw [List.drop_zero] at e2
  have e3 := (congrArg nodesL e2).trans (nodesL_cons ..)
  rw [Nat.zero_add] at e3
  have e4 := drop_kid (n := n) (i := m + 1) (by omega)
  have e5 := (congrArg nodesL e4).trans (nodesL_cons ..)
  have e6 := nodesN_pos (kidN n 0)
  have e7 := nodesN_pos (kidN n (m + 1))
  rw [show n.kids.length - 2 = m by omega, show n.kids.length - 1 = m + 1 by omega]
  have e8 : nodesL (n.kids.drop (1 + m)) = nodesL (n.kids.drop (m + 1)) := by rw [Nat.add_comm]
  exact ((AtMost.some _).sq ((commas_most true _ fun k _ => (param_most k).mono (by have := nodesN_pos k; omega)).sq ((AtMost.some _).sq ((mostB g).block (kidN n (m + 1)))))).mono (by simp only [List.length_cons, List.length_nil]; omega)
def shownF (g : Nat) (n : Node) : ByteArray × Int := match showS g n with
 | some ys => (⟨(Lib.join (ys.map (·.data.toList)) [32]).toArray⟩, 0)
 | none => (⟨#[]⟩, 32)
set_option maxRecDepth 20000 in
set_option maxHeartbeats 1600000 in
theorem Show_calls (w : World) (HL0 : LaidP w) (g : Nat) (n : Node) (A : Option Addr) (cap : Nat) (hd : 3 * depthN n ≤ g + 8) (hn : numsOk n = true) (ht : Tr w (.slice A n.kids.length cap) n.kids) (hl : 10 * nodesN n ≤ 1000000000)
  (hj : ∀ ys, showS g n = some ys → (Lib.join (ys.map (·.data.toList)) [32]).length ≤ 140737488355328) :
  Calls Tryz.prog 9 #[nodeV n (.slice A n.kids.length cap)] w fun e w' => e = .returned (.tuple #[.string (shownF g n).1, .int .i64 (shownF g n).2]) ∧ IsOv w w' := by
 have hmf : ∀ (fn : Fn) (first cap : Array Value) (w : World), (Instr.makeFunc fn first cap).run Tryz.prog w = .ok (.func fn first cap) w := fun _ _ _ _ => rfl
 unfold nodeV
 go_enter_defers Tryz.func9, Tryz.ntmps9
 go_wp2_with fail
 refine cmo (plain_calls _ _ _ _ _ _ _ _) ?_
 rintro e9 w1 ⟨hov, rfl⟩
 have a0 := heap_alloc_new w (.cells #[.string n.kind, .string n.text, .int .u64 n.num, .int .i64 n.line, .int .i64 n.col, .slice A n.kids.length cap] 26)
 have a1 := heap_alloc_new (w.alloc (.cells #[.string n.kind, .string n.text, .int .u64 n.num, .int .i64 n.line, .int .i64 n.col, .slice A n.kids.length cap] 26)) (.cells #[.string ⟨#[]⟩] 9)
 have a2 := heap_alloc_new ((w.alloc (.cells #[.string n.kind, .string n.text, .int .u64 n.num, .int .i64 n.line, .int .i64 n.col, .slice A n.kids.length cap] 26)).alloc (.cells #[.string ⟨#[]⟩] 9)) (.cells #[.int .i64 0] 27)
 simp only [World.size_alloc] at a1 a2
 have b0 := hov.heap (hs_alloc (hs_alloc a0 _) _)
 have b1 := hov.heap (hs_alloc a1 _)
 have b2 := hov.heap a2
 have hovw : IsOv w w1 := (((((IsOv.refl w).alloc _).alloc _).alloc _)).trans hov
 have HTR := hid ht
 clear ht a0 a1 a2
 cases bp : plainB n ⟨#[112, 114, 111, 103, 114, 97, 109]⟩ n.kids.length false false
 ·
  simp only [Bool.false_eq_true, ↓reduceIte]
  refine leaves_cons (f := 20) (args := #[.pointer (some ⟨w.heap.size + 1, 0, none⟩), .pointer (some ⟨w.heap.size + 1 + 1, 0, none⟩)]) (by simp) (by simp [go_sem]) ?_
  refine (show_odd _ _ _ _ [] w w1 hovw b1 b2 (by omega) (by omega)).mono ?_
  rintro e u' w'' ⟨rfl, rfl, hov8, f0, f1⟩
  refine ⟨_, results2 rfl rfl f0 f1, ?_⟩
  simp only [shownF, showS, bp, Bool.false_eq_true, ↓reduceIte]
  exact ⟨trivial, hov8⟩
 ·
  simp only [↓reduceIte]
  have hz1 := hovw.size_le
  have hk2 := lt_of_heap b2
  obtain ⟨n0, n1, n2, n3, n4, n5, nf⟩ := cells6 b0
  go_wp2_with fail
  obtain ⟨r, hr⟩ : ∃ r, r = showS g n := ⟨_, rfl⟩
  have HR0 := hid hr
  obtain ⟨xs, hxs⟩ : ∃ xs : List ByteArray, xs = [] := ⟨_, rfl⟩
  obtain ⟨c, hcd⟩ : ∃ c : SC, c = ⟨w1, w1.heap.size⟩ := ⟨_, rfl⟩
  have hcW : c.W = w1 := by rw [hcd]
  have hcp : w1.heap.size = c.p := by rw [hcd]
  obtain ⟨hs, hhs⟩ : ∃ hs : List (Nat × Obj), hs = [(w.heap.size + 1, .cells #[.string ⟨#[]⟩] 9), (w.heap.size + 1 + 1, .cells #[.int .i64 0] 27)] := ⟨_, rfl⟩
  have HLc : LaidP c.W := by rw [hcW]; exact HL0.of_isOv hovw
  have HTC := hid (show Tr c.W (.slice A n.kids.length cap) n.kids by rw [hcW]; exact Kd.R_below HTR.out hovw.below)
  clear HTR
  have HTR := HTC
  clear HTC
  have HS0 : Hid (SS c (w1.alloc (.cells #[.slice none 0 0] 53)) (xs ++ []) ((w.heap.size, .cells #[.string n.kind, .string n.text, .int .u64 n.num, .int .i64 n.line, .int .i64 n.col, .slice A n.kids.length cap] 26) :: hs)) := by
   refine hid ⟨by rw [hcW]; exact (IsOv.refl w1).alloc _, by rw [hcW, hcp]; exact Nat.le_refl _, ⟨_, by rw [← hcp]; exact heap_alloc_new _ _, by rw [hxs]; exact Kd.R_nil _ _ _ _ _⟩, fun p hp => ?_⟩
   rw [hhs] at hp
   simp only [List.mem_cons, List.not_mem_nil, or_false] at hp
   rcases hp with rfl | rfl | rfl
   · exact ⟨hs_alloc b0 _, by rw [← hcp]; dsimp only; omega⟩
   · exact ⟨hs_alloc b1 _, by rw [← hcp]; dsimp only; omega⟩
   · exact ⟨hs_alloc b2 _, by rw [← hcp]; dsimp only; omega⟩
  have hlk := len_nodesL n.kids
  have hne := nodesN_eq n
  have hnp := nodesN_pos n
  have hkl0 : (0 : Int) ≤ (n.kids.length : Int) := by omega
  have hxl : xs.length = 0 := by rw [hxs]; rfl
  have HRL : Hid (r = sq (some []) (sq (each (itemS g) n.kids) (some []))) := hid (by rw [HR0.out]; unfold showS; rw [bp, if_pos rfl, sq_nil]; cases each (itemS g) n.kids <;> simp [sq])
  have HSL := HS0
  have HPL : ([] : List ByteArray).length + 10 * nodesL n.kids + 8 ≤ 10 * nodesN n := by simp only [List.length_nil]; omega
  clear HS0 n0 n1 n2 n3 n4 n5 nf hxs
  try rw [hcp]
  have HCW := hid hcW
  have HHS := hid hhs
  clear hr hcd hcW hcp hhs
  go_loopg [18] (n.kids.length + 1) (fun gq b wr => ∃ (i : Nat) (pre : List ByteArray), b = .int .i64 (i : Int) ∧ i + gq = n.kids.length + 1 ∧ i ≤ n.kids.length ∧ pre.length + 10 * nodesL (n.kids.drop i) + 8 ≤ 10 * nodesN n ∧ Hid (r = sq (some pre) (sq (each (itemS g) (n.kids.drop i)) (some []))) ∧ Hid (SS c wr (xs ++ pre) ((w.heap.size, (.cells #[.string n.kind, .string n.text, .int .u64 n.num, .int .i64 n.line, .int .i64 n.col, .slice A n.kids.length cap] 26)) :: hs)))
  case atStart => exact ⟨0, _, rfl, by omega, by omega, HPL, HRL, HSL⟩
  case round =>
   obtain ⟨i, pre, rfl, hi1, hi2, hpre, HR20, HS20⟩ := hrel
   clear HRL HSL HPL
   by_cases hi : i < n.kids.length
   ·
    have hib : (i : Int) < (n.kids.length : Int) := by omega
    have hibb : decide ((i : Int) < (n.kids.length : Int)) = true := decide_eq_true hib
    have hib0 : (0 : Int) ≤ (i : Int) := by omega
    have hkd := kid_depth hi
    have hdk := drop_kid hi
    have hnk : nodesL (n.kids.drop i) = nodesN (kidN n i) + nodesL (n.kids.drop (i + 1)) := by rw [hdk, nodesL_cons]
    have hknp := nodesN_pos (kidN n i)
    have hd1 : decide (i + 1 = 0) = false := decide_eq_false (by omega)
    have hiw : IntKind.i64.wrap ((i : Int) + 1) = (i : Int) + 1 := IntWalk.i64_in _ (by omega)
    have hwr := HS20.out.heldLt (w.heap.size, _) (List.mem_cons_self ..)
    obtain ⟨gk, Ak, ck, rfl, hgk, q0, q1, q2, q3, q4, q5, HTk⟩ := kid_at HTR.out HS20.out.ov i hi
    have HTK := hid HTk
    clear HTk
    have HR21 : Hid (r = sq (some pre) (sq (each (itemS g) (kidN n i :: n.kids.drop (i + 1))) (some []))) := hid (by rw [← hdk]; exact HR20.out)
    clear HR20 hdk
    have HR22 : Hid (r = sq (some pre) (sq (sq ((itemS g) (kidN n i)) (each (itemS g) (n.kids.drop (i + 1)))) (some []))) := hid (by have h9 := HR21.out; rw [each_cons] at h9; exact h9)
    clear HR21
    go_wp2_with fail
    have HS21 := hid (HS20.out.alloc (.cells #[.string (kidN n i).kind, .string (kidN n i).text, .int .u64 (kidN n i).num, .int .i64 (kidN n i).line, .int .i64 (kidN n i).col, .slice Ak (kidN n i).kids.length ck] 26))
    clear HS20
    cases h_k : (itemS g) (kidN n i) with
    | none =>
     refine cmo (item_shows c HLc g _ (xs ++ pre) _ (kidN n i) _ _ (by omega) (kid_nums hi hn) HS21.out HTK.out (by (try simp only [List.length_append, List.length_cons, List.length_nil]); omega)) ?_
     try rw [show ((itemS g) (kidN n i)) = none from h_k]
     rintro e9 w99 ⟨rfl, hov⟩
     obtain rfl : r = none := by rw [HR22.out, h_k]; simp only [sq_n, sq_sn, sq_nn]
     have hov9 : IsOv w1 w99 := by rw [← HCW.out]; exact hov
     refine leaves_cons (f := 20) (args := #[.pointer (some ⟨w.heap.size + 1, 0, none⟩), .pointer (some ⟨w.heap.size + 1 + 1, 0, none⟩)]) (by simp) (by simp [go_sem]) ?_
     refine (show_odd _ _ _ _ [] w w99 (hovw.trans hov9) (hov9.heap b1) (hov9.heap b2) (by omega) (by omega)).mono ?_
     rintro e u' w'' ⟨rfl, rfl, hov8, f0, f1⟩
     refine ⟨_, results2 rfl rfl f0 f1, ?_⟩
     simp only [shownF, ← HR0.out]
     exact ⟨trivial, hov8⟩
    | some yk =>
     refine cmo (item_shows c HLc g _ (xs ++ pre) _ (kidN n i) _ _ (by omega) (kid_nums hi hn) HS21.out HTK.out (by (try simp only [List.length_append, List.length_cons, List.length_nil]); omega)) ?_
     try rw [show ((itemS g) (kidN n i)) = some yk from h_k]
     rintro e9 w30 ⟨rfl, hss⟩
     have hyk := item_most g (kidN n i) _ h_k
     have HS40 := hid hss.drop
     clear hss
     have HR40 : Hid (r = sq (some (pre ++ yk)) (sq (each (itemS g) (n.kids.drop (i + 1))) (some []))) := hid (by rw [HR22.out, h_k]; simp only [sq_ss, sq_assoc, sq3, List.nil_append, hd1])
     go_wp2_with fail
     go_roundg (n.kids.length - i)
     case rel => exact ⟨i + 1, pre ++ yk, by push_cast; rfl, by omega, by omega, by (try simp only [List.length_append, List.length_cons, List.length_nil] at *); omega, HR40, by simpa only [List.append_assoc] using HS40⟩
     case measure => omega
   ·
    have hib : ¬ (i : Int) < (n.kids.length : Int) := by omega
    have hibb : decide ((i : Int) < (n.kids.length : Int)) = false := decide_eq_false hib
    have hwr := HS20.out.heldLt (w.heap.size, _) (List.mem_cons_self ..)
    have hnil : n.kids.drop i = [] := List.drop_eq_nil_of_le (by omega)
    have HR21 : Hid (r = sq (some pre) (some [])) := hid (by rw [HR20.out, hnil]; simp only [commas, each, sq_nil])
    clear HR20
    obtain rfl : xs = [] := List.eq_nil_of_length_eq_zero hxl
    rw [List.nil_append] at HS20
    obtain ⟨v, hv1, hv2⟩ := HS20.out.st
    obtain ⟨A0, c0, rfl⟩ := Kd.R_slice hv2
    have HV := hid hv2
    obtain ⟨p0, pf⟩ := cells1 hv1
    have e1 := (HS20.out.held (w.heap.size + 1, _) (List.mem_cons_of_mem _ (by rw [HHS.out]; simp; rfl))).1
    have e2 := (HS20.out.held (w.heap.size + 1 + 1, _) (List.mem_cons_of_mem _ (by rw [HHS.out]; simp; rfl))).1
    have HSH : Hid (shownF g n = (⟨(Lib.join (pre.map (·.data.toList)) [32]).toArray⟩, 0)) := hid (by unfold shownF; rw [← HR0.out, HR21.out]; simp [sq])
    have HJ : Hid ((Lib.join (pre.map (·.data.toList)) [32]).length ≤ 140737488355328) := hid (hj pre (by rw [← HR0.out, HR21.out]; simp [sq]))
    have HOV := hid HS20.out.ov
    clear hv1 hv2 HR21 hj
    go_wp2_with fail
    by_cases hx : 0 < pre.length
    ·
     obtain ⟨gj, cj, he, hg1, hg2, _⟩ := Kd.R_form HV.out hx
     injection he with ha hn1 hc1
     subst ha
     subst hc1
     have hcap := (Kd.R_reads' HV.out).2.1
     have hcells : ∀ (j : Nat) x, pre[j]? = some x → wr.cell? ⟨gj, 0 + j, none⟩ = some (.string x) := fun j x hj => by
      have hjl : j < pre.length := by
       by_cases h9 : j < pre.length
       · exact h9
       · rw [List.getElem?_eq_none (by omega)] at hj; cases hj
      obtain ⟨cs, h1, h2, h3, h4⟩ := Kd.R_elem HV.out ⟨#[]⟩ (j : Int) (by omega) (by omega)
      obtain rfl : cs = [.string _] := h2
      have h5 := h3 0 _ rfl
      rw [show ((j : Int)).toNat = j from Int.toNat_natCast j, show Kd.string.sz = 1 from rfl, Nat.mul_one, Nat.add_zero] at h5
      rw [Nat.zero_add, h5, List.getD_eq_getElem?_getD, hj]; rfl
     refine (Tryz.strings_Join gj 0 c0 pre ⟨#[32]⟩ wr hcells hg2 (by omega) hcap HJ.out).mono ?_
     rintro e w9 ⟨rfl, hb4⟩
     have hov9 : IsOv wr w9 := IsOv.of_below hb4
     clear hcells hb4 p0 pf
     generalize hq : (Lib.join (pre.map (·.data.toList)) (⟨#[32]⟩ : ByteArray).data.toList).toArray = q0
     have HQ0 := hid hq
     clear hq
     obtain ⟨q, HQ⟩ : ∃ q : ByteArray, Hid (⟨q0⟩ = q) := ⟨_, hid rfl⟩
     rw [HQ.out]
     have HQ := hid (show (⟨(Lib.join (pre.map (·.data.toList)) [32]).toArray⟩ : ByteArray) = q from by rw [← HQ.out, ← HQ0.out])
     clear HQ0
     have E4 := hov9.heap e1
     have E5 := hov9.heap e2
     have g9 : w9.heap.size = w9.heap.size := rfl
     obtain ⟨m0, mf⟩ := cells1 E4
     obtain ⟨k0, kf⟩ := cells1 E5
     clear g9
     go_wp2_with fail
     have E6 := hs_far (k := w.heap.size + 1 + 1) (i := 0) (hs_set E4 (i := 0) (.string q)) (by omega) (.int .i64 0)
     have E7 := hs_set (hs_far (k := w.heap.size + 1) (i := 0) E5 (by omega) (.string q)) (i := 0) (.int .i64 0)
     refine leaves_cons (f := 20) (args := #[.pointer (some ⟨w.heap.size + 1, 0, none⟩), .pointer (some ⟨w.heap.size + 1 + 1, 0, none⟩)]) (by simp) (by simp [go_sem]) ?_
     refine (show_idle _ _ _).mono ?_
     rintro e u' w'' ⟨rfl, rfl, rfl⟩
     refine ⟨_, results2 rfl rfl E6 E7, ?_⟩
     rw [HSH.out]
     refine ⟨by rw [← HQ.out], ?_⟩
     have hov8 : IsOv w w9 := (hovw.trans (by rw [← HCW.out]; exact HOV.out)).trans hov9
     exact (hov8.setCell (p := ⟨w.heap.size + 1, 0, none⟩) (by dsimp only; omega) _).setCell (p := ⟨w.heap.size + 1 + 1, 0, none⟩) (by dsimp only; omega) _
    ·
     have hx0 : pre = [] := List.eq_nil_of_length_eq_zero (by omega)
     obtain rfl := hx0
     refine (Tryz.strings_Join_none A0 c0 ⟨#[32]⟩ wr).mono ?_
     rintro e w9 ⟨rfl, rfl⟩
     have hov9 : IsOv w9 w9 := IsOv.refl _
     clear p0 pf
     have E4 := hov9.heap e1
     have E5 := hov9.heap e2
     have g9 : w9.heap.size = w9.heap.size := rfl
     obtain ⟨m0, mf⟩ := cells1 E4
     obtain ⟨k0, kf⟩ := cells1 E5
     clear g9
     go_wp2_with fail
     have E6 := hs_far (k := w.heap.size + 1 + 1) (i := 0) (hs_set E4 (i := 0) (.string ⟨#[]⟩)) (by omega) (.int .i64 0)
     have E7 := hs_set (hs_far (k := w.heap.size + 1) (i := 0) E5 (by omega) (.string ⟨#[]⟩)) (i := 0) (.int .i64 0)
     refine leaves_cons (f := 20) (args := #[.pointer (some ⟨w.heap.size + 1, 0, none⟩), .pointer (some ⟨w.heap.size + 1 + 1, 0, none⟩)]) (by simp) (by simp [go_sem]) ?_
     refine (show_idle _ _ _).mono ?_
     rintro e u' w'' ⟨rfl, rfl, rfl⟩
     refine ⟨_, results2 rfl rfl E6 E7, ?_⟩
     rw [HSH.out]
     refine ⟨rfl, ?_⟩
     have hov8 : IsOv w w9 := (hovw.trans (by rw [← HCW.out]; exact HOV.out)).trans hov9
     exact (hov8.setCell (p := ⟨w.heap.size + 1, 0, none⟩) (by dsimp only; omega) _).setCell (p := ⟨w.heap.size + 1 + 1, 0, none⟩) (by dsimp only; omega) _
end Go.Proofs.YtdimhoilfopndaaGreatDoor
end
section
namespace Go.Proofs.YtdimhoilfopndaaGreatDoor
open Go.RowKit Go.Proofs.YtdimhoilfopndaaGreatDoorW.PrintWords
def awSrc : ByteArray := ⟨#[117, 56, 32, 120, 59, 32, 118, 111, 105, 100, 32, 102, 40, 41, 32, 123, 32, 120, 32, 61, 32, 120, 32, 43, 32, 49, 32, 42, 32, 50, 59, 32, 125]⟩
def awText : ByteArray := ⟨#[117, 56, 32, 120, 32, 59, 32, 118, 111, 105, 100, 32, 102, 32, 40, 32, 41, 32, 123, 32, 120, 32, 61, 32, 120, 32, 43, 32, 40, 32, 49, 32, 42, 32, 50, 32, 41, 32, 59, 32, 125]⟩
def awB (a b : ReadA) : Bool := (a.line == 0) && ((a.col == 0) && ((a.err == 0) && ((b.line == 1) && ((b.col == 5) && ((b.err == 30) && ((a.node.kids.length == 2) && (((kidN a.node 1).kids.length == 2) && (((kidN (kidN a.node 1) 1).kids.length == 1) &&
 (((kidN (kidN (kidN a.node 1) 1) 0).kind.data.toList == [97, 115, 115, 105, 103, 110]) && (((kidN (kidN (kidN a.node 1) 1) 0).kids.length == 2) && (((kidN (kidN (kidN (kidN a.node 1) 1) 0) 1).text.data.toList == [43]) && (((kidN (kidN (kidN (kidN a.node 1) 1) 0) 1).kids.length == 2) && (((kidN (kidN (kidN (kidN (kidN a.node 1) 1) 0) 1) 1).text.data.toList == [42]) &&
 (((shownF 60 a.node).1.data.toList == awText.data.toList) && (((shownF 60 a.node).2 == 0) && ((depthN (kidN (kidN (kidN a.node 1) 1) 0) == 4) && (decide (nodesN a.node ≤ 1000) && (numsOk a.node && decide (depthN a.node ≤ 20)))))))))))))))))))
def awM (x y : Option ReadA) : Bool := match x, y with | some a, some b => awB a b | _, _ => false
set_option maxRecDepth 100000 in
theorem awAll_ok : awM (readF 1000 awSrc) (readF 1000 ⟨#[117, 56, 32, 120]⟩) = true := by decide +kernel
structure AwF (a b : ReadA) : Prop where
 l : a.line = 0
 c : a.col = 0
 e : a.err = 0
 l2 : b.line = 1
 c2 : b.col = 5
 e2 : b.err = 30
 k0 : a.node.kids.length = 2
 k1 : (kidN a.node 1).kids.length = 2
 k2 : (kidN (kidN a.node 1) 1).kids.length = 1
 t3 : (kidN (kidN (kidN a.node 1) 1) 0).kind = ⟨#[97, 115, 115, 105, 103, 110]⟩
 k3 : (kidN (kidN (kidN a.node 1) 1) 0).kids.length = 2
 t4 : (kidN (kidN (kidN (kidN a.node 1) 1) 0) 1).text = ⟨#[43]⟩
 k4 : (kidN (kidN (kidN (kidN a.node 1) 1) 0) 1).kids.length = 2
 t5 : (kidN (kidN (kidN (kidN (kidN a.node 1) 1) 0) 1) 1).text = ⟨#[42]⟩
 sh : (shownF 60 a.node).1 = awText
 sh2 : (shownF 60 a.node).2 = 0
 dp : depthN (kidN (kidN (kidN a.node 1) 1) 0) = 4
 nd : nodesN a.node ≤ 1000
 nu : numsOk a.node = true
 dn : depthN a.node ≤ 20
theorem awF_of {x y : Option ReadA} (h : awM x y = true) : ∃ a b, x = some a ∧ y = some b ∧ AwF a b := by
 match x, y, h with
 | some a, some b, h =>
  refine ⟨a, b, rfl, rfl, ?_⟩
  have h : awB a b = true := h
  simp only [awB, Bool.and_eq_true, beq_iff_eq, decide_eq_true_eq] at h
  obtain ⟨h1, h2, h3, h4, h5, h6, h7, h8, h9, h10, h11, h12, h13, h14, h15, h16, h17, h18, h19, h20⟩ := h
  exact ⟨h1, h2, h3, h4, h5, h6, h7, h8, h9, bytesExt h10, h11, bytesExt h12, h13, bytesExt h14, bytesExt h15, h16, h17, h18, h19, h20⟩
theorem awF : ∃ a b, readF 1000 awSrc = some a ∧ readF 1000 ⟨#[117, 56, 32, 120]⟩ = some b ∧ AwF a b := awF_of awAll_ok
theorem shown_len {g : Nat} {n : Node} {ys : List ByteArray} (h : showS g n = some ys) : (Lib.join (ys.map (·.data.toList)) [32]).length = (shownF g n).1.size := by
 unfold shownF
 rw [h]
 simp [ByteArray.size]
theorem kid1_at {W W' : World} {n : Node} {A : Option Addr} {m cap : Nat} (hm : n.kids.length = m) (h : Tr W (.slice A m cap) n.kids) (hov : IsOv W W') (i : Nat) (hi : i < m) : ∃ g Ai ci, A = some ⟨g, 0, none⟩ ∧ W'.cell? ⟨g, i * 6, none⟩ = some (.string (kidN n i).kind) ∧ W'.cell? ⟨g, i * 6 + 1, none⟩ = some (.string (kidN n i).text) ∧ W'.cell? ⟨g, i * 6 + 2, none⟩ = some (.int .u64 (kidN n i).num) ∧ W'.cell? ⟨g, i * 6 + 3, none⟩ = some (.int .i64 (kidN n i).line) ∧ W'.cell? ⟨g, i * 6 + 4, none⟩ = some (.int .i64 (kidN n i).col) ∧ W'.cell? ⟨g, i * 6 + 5, none⟩ = some (.slice Ai (kidN n i).kids.length ci) ∧ Tr W (.slice Ai (kidN n i).kids.length ci) (kidN n i).kids := by
 subst hm
 obtain ⟨g, Ai, ci, h1, h2, h3⟩ := kid_at h hov i hi
 exact ⟨g, Ai, ci, h1, h3⟩
theorem Show_at {w : World} (HL0 : LaidP w) {g : Nat} {n : Node} {A : Option Addr} {cap m : Nat} {s : ByteArray} {d : Int} (hm : n.kids.length = m) (h1 : (shownF g n).1 = s) (h2 : (shownF g n).2 = d) (hd : 3 * depthN n ≤ g + 8) (hn : numsOk n = true) (ht : Tr w (.slice A m cap) n.kids) (hl : 10 * nodesN n ≤ 1000000000) (hs : s.size ≤ 140737488355328) :
  Calls Tryz.prog 9 #[.agg #[.string n.kind, .string n.text, .int .u64 n.num, .int .i64 n.line, .int .i64 n.col, .slice A m cap]] w fun e w' => e = .returned (.tuple #[.string s, .int .i64 d]) ∧ IsOv w w' := by
 subst hm h1 h2
 exact Show_calls w HL0 g n A cap hd hn ht hl (fun ys h => by rw [shown_len h]; exact hs)
theorem Same_at {w : World} {a b : Node} {A B : Option Addr} {ca cb ma mb : Nat} {r : Bool} (ha : a.kids.length = ma) (hb : b.kids.length = mb) (hr : sameN a b = r) (hl : nodesN a ≤ 1000000000) (h1 : Tr w (.slice A ma ca) a.kids) (h2 : Tr w (.slice B mb cb) b.kids) :
  Gives Tryz.prog 11 #[.agg #[.string a.kind, .string a.text, .int .u64 a.num, .int .i64 a.line, .int .i64 a.col, .slice A ma ca], .agg #[.string b.kind, .string b.text, .int .u64 b.num, .int .i64 b.line, .int .i64 b.col, .slice B mb cb]] w (.bool r) := by
 subst ha hb hr
 exact Same_gives _ w a b A B ca cb (Nat.le_refl _) hl h1 h2
theorem refSame_at {w : World} {a b : Node} {A B : Option Addr} {ca cb ma mb : Nat} {r : Bool} (ha : a.kids.length = ma) (hb : b.kids.length = mb) (hr : sameN a b = r) (hl : nodesN a ≤ 1000000000) (h1 : Tr w (.slice A ma ca) a.kids) (h2 : Tr w (.slice B mb cb) b.kids) :
  Gives Tryz.prog 12 #[.agg #[.string a.kind, .string a.text, .int .u64 a.num, .int .i64 a.line, .int .i64 a.col, .slice A ma ca], .agg #[.string b.kind, .string b.text, .int .u64 b.num, .int .i64 b.line, .int .i64 b.col, .slice B mb cb], .bool false] w (.bool r) := by
 subst ha hb hr
 exact refSame_gives _ w a b A B ca cb (Nat.le_refl _) hl h1 h2
theorem Deep_at {w : World} {n : Node} {A : Option Addr} {cap m : Nat} {k : ByteArray} {d : Nat} (hm : n.kids.length = m) (hk : n.kind = k) (hd : depthN n = d) (hl : nodesN n ≤ 1000000000) (h1 : Tr w (.slice A m cap) n.kids) :
  Gives Tryz.prog 10 #[.agg #[.string k, .string n.text, .int .u64 n.num, .int .i64 n.line, .int .i64 n.col, .slice A m cap]] w (.int .i64 (d : Int)) := by
 subst hm hk hd
 exact Deep_gives _ w n A cap (Nat.le_refl _) hl h1
theorem sameN_self (a : Node) : sameN a a = true := (sameN_strip a a).2 rfl
set_option maxRecDepth 20000 in
set_option maxHeartbeats 800000 in
theorem awake_gives (w : World) (HL0 : LaidP w) : Gives Tryz.prog 7 #[] w (.bool true) := by
 obtain ⟨a, b, ha, hb, hf⟩ := awF
 have HA := hid ha
 have HB := hid hb
 have HF := hid hf
 have HL := hid HL0
 clear ha hb hf HL0
 unfold Gives
 go_enter Tryz.func7, Tryz.ntmps7
 go_wp2_with fail
 refine cmo (Read_calls 1000 (by omega) _ awSrc a HA.out HL.out.v HL.out.ml) ?_
 rintro e9 w1 ⟨hov1, A, cap, rfl, hR⟩
 have HT := hid (Kd.R_mono (Kd.R_lower hR (Nat.zero_le _)) (fun _ _ => trivial))
 rw [HF.out.l, HF.out.c, HF.out.e]
 have HOV1 := hid hov1
 clear hov1 hR
 unfold nodeV
 go_wp2_with fail
 refine cmo (Read_calls 1000 (by omega) _ ⟨#[117, 56, 32, 120]⟩ b HB.out (HL.out.v.of_isOv (HOV1.out.alloc _)) (HL.out.of_isOv (HOV1.out.alloc _)).ml) ?_
 rintro e9 w2 ⟨hov2, B, cb, rfl, _⟩
 rw [HF.out.l2, HF.out.c2, HF.out.e2]
 have hb1 := hov2.heap (heap_alloc_new w1 _)
 have HOV2 := hid hov2
 have HOV3 := hid ((IsOv.refl w1).alloc _ |>.trans hov2)
 unfold nodeV
 rw [HF.out.k0] at hb1 HT
 obtain ⟨p0, p1, p2, p3, p4, p5, _⟩ := cells6 hb1
 have hz := lt_of_heap hb1
 obtain ⟨g1, A1, c1, rfl, x0, x1, x2, x3, x4, x5, HT1⟩ := kid1_at HF.out.k0 HT.out HOV3.out 1 (by omega)
 rw [HF.out.k1] at x5 HT1
 obtain ⟨g2, A2, c2, rfl, y0, y1, y2, y3, y4, y5, HT2⟩ := kid1_at HF.out.k1 HT1 HOV3.out 1 (by omega)
 rw [HF.out.k2] at y5 HT2
 obtain ⟨g3, A3, c3, rfl, z0, z1, z2, z3, z4, z5, HT3⟩ := kid1_at HF.out.k2 HT2 HOV3.out 0 (by omega)
 rw [HF.out.k3] at z5 HT3
 obtain ⟨g4, A4, c4, rfl, v0, v1, v2, v3, v4, v5, HT4⟩ := kid1_at HF.out.k3 HT3 HOV3.out 1 (by omega)
 rw [HF.out.k4] at v5 HT4
 rw [HF.out.t4] at v1
 obtain ⟨g5, A5, c5, rfl, s0, s1, s2, s3, s4, s5, HT5⟩ := kid1_at HF.out.k4 HT4 HOV3.out 1 (by omega)
 rw [HF.out.t5] at s1
 rw [HF.out.t3] at z0
 have X5 : w2.cell? ⟨g1, 11, none⟩ = some (.slice (some ⟨g2, 0, none⟩) 2 c1) := x5
 have Y5 : w2.cell? ⟨g2, 11, none⟩ = some (.slice (some ⟨g3, 0, none⟩) 1 c2) := y5
 have Z0 : w2.cell? ⟨g3, 0, none⟩ = some (.string ⟨#[97, 115, 115, 105, 103, 110]⟩) := z0
 have Z1 : w2.cell? ⟨g3, 1, none⟩ = _ := z1
 have Z2 : w2.cell? ⟨g3, 2, none⟩ = _ := z2
 have Z3 : w2.cell? ⟨g3, 3, none⟩ = _ := z3
 have Z4 : w2.cell? ⟨g3, 4, none⟩ = _ := z4
 have Z5 : w2.cell? ⟨g3, 5, none⟩ = some (.slice (some ⟨g4, 0, none⟩) 2 c3) := z5
 have V1 : w2.cell? ⟨g4, 7, none⟩ = some (.string ⟨#[43]⟩) := v1
 have V5 : w2.cell? ⟨g4, 11, none⟩ = some (.slice (some ⟨g5, 0, none⟩) 2 c4) := v5
 have S1 : w2.cell? ⟨g5, 7, none⟩ = some (.string ⟨#[42]⟩) := s1
 have hg1 := World.block_lt_of_cell? w2 _ X5
 have hg2 := World.block_lt_of_cell? w2 _ Y5
 have hg3 := World.block_lt_of_cell? w2 _ Z0
 have hg4 := World.block_lt_of_cell? w2 _ V5
 have hg5 := World.block_lt_of_cell? w2 _ S1
 dsimp only at hg1 hg2 hg3 hg4 hg5
 have HT3 := hid (show Tr w1 (.slice (some ⟨g4, 0, none⟩) 2 c3) (kidN (kidN (kidN a.node 1) 1) 0).kids from HT3)
 clear x0 x1 x2 x3 x4 x5 y0 y1 y2 y3 y4 y5 z0 z1 z2 z3 z4 z5 v0 v1 v2 v3 v4 v5 s0 s1 s2 s3 s4 s5 HT1 HT2 HT4 HT5 hov2
 go_wp2_with fail
 refine cmo (Show_at (HL.out.of_isOv (((HOV1.out.trans HOV3.out).alloc _).alloc _)) HF.out.k0 HF.out.sh HF.out.sh2 (by have := HF.out.dn; omega) HF.out.nu (Kd.R_below HT.out ((HOV3.out.alloc _).alloc _).below) (by have := HF.out.nd; omega) (by decide)) ?_
 rintro e9 w3 ⟨rfl, hov3⟩
 have hbx := hov3.heap (((IsOv.refl _).alloc _).heap (((IsOv.refl _).alloc _).heap hb1))
 have hbs := hov3.heap (heap_alloc_new _ _)
 simp only [World.size_alloc] at hbs
 have HOV5 := hid ((((IsOv.refl w2).alloc _).alloc _).trans hov3)
 obtain ⟨P0, P1, P2, P3, P4, P5, _⟩ := cells6 hbx
 obtain ⟨Q0, Q1, Q2, Q3, Q4, Q5, _⟩ := cells6 hbs
 have v1 := HOV5.out.cell V1
 have v5 := HOV5.out.cell V5
 have s1 := HOV5.out.cell S1
 obtain ⟨q, hq⟩ : ∃ q : ByteArray, q = awText := ⟨_, rfl⟩
 rw [← hq]
 have hT : (q.toList == [117, 56, 32, 120, 32, 59, 32, 118, 111, 105, 100, 32, 102, 32, 40, 32, 41, 32, 123, 32, 120, 32, 61, 32, 120, 32, 43, 32, 40, 32, 49, 32, 42, 32, 50, 32, 41, 32, 59, 32, 125]) = true := by rw [hq, Lib.toList_data]; decide
 clear hq
 clear p0 p1 p2 p3 p4 p5 X5 Y5 Z0 Z1 Z2 Z3 Z4 Z5 V1 V5 S1 hov3 hg1 hg2 hg3 hg4 hg5 hb1 hbx hbs
 go_wp2_with fail
 have HTX := hid (Kd.R_below HT.out (HOV3.out.trans HOV5.out).below)
 refine cmo (Same_at HF.out.k0 HF.out.k0 (sameN_self a.node) (by have := HF.out.nd; omega) HTX.out HTX.out) ?_
 rintro e9 w4 ⟨rfl, hov4⟩
 have R0 := hov4.cell Q0
 have R1 := hov4.cell Q1
 have R2 := hov4.cell Q2
 have R3 := hov4.cell Q3
 have R4 := hov4.cell Q4
 have R5 := hov4.cell Q5
 have HOV6 := hid hov4
 clear P0 P1 P2 P3 P4 P5 Q0 Q1 Q2 Q3 Q4 Q5 v1 v5 s1 hT hov4
 go_wp2_with fail
 refine cmo (Deep_at HF.out.k3 HF.out.t3 HF.out.dp (by have h1 := HF.out.nd; have h2 := kid_nodes (n := a.node) (i := 1) (by rw [HF.out.k0]; omega); have h3 := kid_nodes (n := kidN a.node 1) (i := 1) (by rw [HF.out.k1]; omega); have h4 := kid_nodes (n := kidN (kidN a.node 1) 1) (i := 0) (by rw [HF.out.k2]; omega); omega) (Kd.R_below HT3.out ((HOV3.out.trans HOV5.out).trans HOV6.out).below)) ?_
 rintro e9 w5 ⟨rfl, hov5⟩
 have HOV7 := hid (((((HOV1.out.trans HOV3.out).trans HOV5.out)).trans HOV6.out).trans hov5)
 clear R0 R1 R2 R3 R4 R5 hov5
 go_wp2_with fail
 exact bodyPost_ret (v := .bool true) (by simp [results, Tryz.results7, go_sem, ↓IntWalk.iteOmega]) rfl ⟨rfl, HOV7.out⟩
end Go.Proofs.YtdimhoilfopndaaGreatDoor
end
