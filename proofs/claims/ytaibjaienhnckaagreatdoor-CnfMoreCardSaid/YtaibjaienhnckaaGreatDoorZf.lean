/- What a range over a map of ones has collected, and its order. No condition. -/
import Derived.Test.YtaibjaienhnckaaGreatDoorZc
import Derived.Maps.RangeRun
import Derived.Sort.OwnSortedInts
set_option linter.unusedVariables false
set_option linter.unusedSimpArgs false
namespace Go
open Go.RowKit
def keyN (e : MapEntry) : Int := match e.key with | .int _ n => n | _ => 0
theorem onesAre_keys {es : List MapEntry} {ks : List Int} (h : onesAre es ks) : es.map keyN = ks := by
  have h2 := congrArg (fun l => l.map fun p : Value × Value => match p.1 with | .int _ n => n | _ => 0) h
  simp only [List.map_map] at h2
  have e1 : ∀ l : List Int, l.map ((fun p : Value × Value => match p.1 with | .int _ n => n | _ => 0) ∘ fun k => (Value.int .i64 k, Value.int .i64 1)) = l := fun l => by
    conv => rhs; rw [← List.map_id l]
    rfl
  rw [e1] at h2
  exact h2
theorem onesAre_entry {es : List MapEntry} {ks : List Int} (h : onesAre es ks) {e : MapEntry} (he : e ∈ es) : e.key = .int .i64 (keyN e) ∧ e.val = .int .i64 1 := by
  obtain ⟨j, hj⟩ := List.getElem?_of_mem he
  have h2 := congrArg (fun l => l[j]?) h
  simp only [List.getElem?_map, hj, Option.map_some] at h2
  cases hk : ks[j]? with
  | none => rw [hk] at h2; simp at h2
  | some k =>
    rw [hk] at h2
    simp at h2
    obtain ⟨h3, h4⟩ := h2
    refine ⟨?_, h4⟩
    unfold keyN
    rw [h3]
theorem nodup_of_map {α β : Type} {f : α → β} : ∀ {l : List α}, (l.map f).Nodup → l.Nodup
  | [], _ => List.nodup_nil
  | a :: l, h => by
    rw [List.map_cons, List.nodup_cons] at h
    exact List.nodup_cons.2 ⟨fun hm => h.1 (List.mem_map.2 ⟨a, hm, rfl⟩), nodup_of_map h.2⟩
theorem inj_of_nodup {α β : Type} {f : α → β} : ∀ {l : List α}, (l.map f).Nodup → ∀ {x y : α}, x ∈ l → y ∈ l → f x = f y → x = y
  | a :: l, h, x, y, hx, hy, e => by
    rw [List.map_cons, List.nodup_cons] at h
    rcases List.mem_cons.1 hx with rfl | hx <;> rcases List.mem_cons.1 hy with rfl | hy
    · rfl
    · exact (h.1 (List.mem_map.2 ⟨y, by assumption, e.symm⟩)).elim
    · exact (h.1 (List.mem_map.2 ⟨x, by assumption, e⟩)).elim
    · exact inj_of_nodup h.2 hx hy e
theorem picked_perm {es picked : List MapEntry} (hnd : (es.map (·.born)).Nodup) (hp : (picked.map (·.born)).Nodup) (hsub : ∀ x ∈ picked, x ∈ es) (hall : ∀ x ∈ es, x.born ∈ picked.map (·.born)) : picked.Perm es := by
  refine (List.perm_ext_iff_of_nodup (nodup_of_map hp) (nodup_of_map hnd)).2 fun a => ⟨hsub a, fun ha => ?_⟩
  obtain ⟨y, hy, e⟩ := List.mem_map.1 (hall a ha)
  rw [← inj_of_nodup hnd (hsub y hy) ha e]
  exact hy
theorem nodup_len : ∀ (l m : List Nat), l.Nodup → (∀ x ∈ l, x ∈ m) → l.length ≤ m.length
  | [], m, _, _ => Nat.zero_le _
  | a :: l, m, nd, sub => by
    rw [List.nodup_cons] at nd
    have ha := sub a List.mem_cons_self
    have h := nodup_len l (m.erase a) nd.2 (fun x hx => (List.mem_erase_of_ne (fun e : x = a => nd.1 (by rw [← e]; exact hx))).2 (sub x (List.mem_cons_of_mem _ hx)))
    rw [List.length_erase_of_mem ha] at h
    have := List.length_pos_of_mem ha
    simp only [List.length_cons]
    omega
theorem picked_len {es picked : List MapEntry} (hp : (picked.map (·.born)).Nodup) (hsub : ∀ x ∈ picked, x ∈ es) : picked.length ≤ es.length := by
  have := nodup_len (picked.map (·.born)) (es.map (·.born)) hp (fun x hx => by
    obtain ⟨y, hy, rfl⟩ := List.mem_map.1 hx
    exact List.mem_map.2 ⟨y, hsub y hy, rfl⟩)
  simpa using this
theorem sort_perm {l m : List Int} (h : l.Perm m) : (l.mergeSort fun x y => decide (x ≤ y)) = m.mergeSort fun x y => decide (x ≤ y) := by
  have tr : ∀ a b c : Int, decide (a ≤ b) = true → decide (b ≤ c) = true → decide (a ≤ c) = true := fun a b c h1 h2 => by simp only [decide_eq_true_eq] at *; omega
  have to : ∀ a b : Int, (decide (a ≤ b) || decide (b ≤ a)) = true := fun a b => by simp only [Bool.or_eq_true, decide_eq_true_eq]; omega
  refine List.Perm.eq_of_pairwise (le := fun a b => decide (a ≤ b) = true) (fun a b _ _ h1 h2 => ?_) (List.pairwise_mergeSort tr to l) (List.pairwise_mergeSort tr to m) ((List.mergeSort_perm l _).trans (h.trans (List.mergeSort_perm m _).symm))
  simp only [decide_eq_true_eq] at h1 h2
  omega
/-- The step of the range, by the words of this seat. -/
theorem run_next_put {P : Program} (w : World) (ty : TypeId) (r bm since c0 : Nat) (seen : Array Nat) (es : Array MapEntry) (clock : Nat)
    (hr : w.heap[r]? = some (.mapIter (some bm) since seen c0)) (hb : w.heap[bm]? = some (.map es clock)) (hold : ∀ x ∈ es.toList, x.born < since) (hsc : since ≤ c0) :
    ((∀ x ∈ es.toList, seen.contains x.born = true) ∧ (Instr.next (.pointer (some ⟨r, 0, none⟩)) false ty).run P w = .ok (.tuple #[.bool false]) w) ∨
    ∃ e ∈ es.toList, seen.contains e.born = false ∧ ∃ w1 : World, (w1 = w ∨ w1 = w.drew) ∧ (Instr.next (.pointer (some ⟨r, 0, none⟩)) false ty).run P w = .ok (.tuple #[.bool true, e.key, e.val]) (w1.put r (.mapIter (some bm) since (seen.push e.born) clock)) := by
  rcases run_next_at (P := P) w ty r bm since c0 seen es clock hr hb hold hsc with ⟨h1, h2⟩ | ⟨e, he, w1, h1, h2⟩
  · exact .inl ⟨all_seen es seen h1, h2⟩
  · obtain ⟨h3, h4⟩ := mem_left he
    exact .inr ⟨e, h3, h4, w1, h1, h2⟩
end Go
