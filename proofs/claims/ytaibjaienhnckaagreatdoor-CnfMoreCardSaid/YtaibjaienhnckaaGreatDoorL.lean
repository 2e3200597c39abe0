/- A package variable that reads as plain data (whole numbers, bools, texts in structs and arrays) holds just these cells. No condition. -/
import Derived.Test.YtaibjaienhnckaaGreatDoorK
import Derived.OpenShut
namespace Go
open Go.RowKit

mutual
/-- The cells of plain data. -/
def plainCells (P : Program) : Nat → TypeId → DataW Unit → Option (List Value)
  | 0, _, _ => none
  | n + 1, t, d =>
    match P.underlying t, d with
    | some .bool, .lit (.bool b) => some [.bool b]
    | some (.int k), .lit (.int k' x) => if k = k' then some [.int k x] else none
    | some .string, .lit (.string l) => some [.string ⟨l.toArray⟩]
    | some (.struct fs), .agg ds => plainParts P n (P.cellsOf t) (fs.toList.map fun f => (f.type, f.offset)) ds 0
    | some (.array m e), .agg ds => plainParts P n (P.cellsOf t) ((List.range m).map fun i => (e, i * P.cellsOf e)) ds 0
    | _, _ => none
def plainParts (P : Program) : Nat → Nat → List (TypeId × Nat) → List (DataW Unit) → Nat → Option (List Value)
  | _, size, [], [], o => if o = size then some [] else none
  | n, size, (t, off) :: ps, d :: ds, o =>
    if off = o then
      match plainCells P n t d, plainParts P n size ps ds (o + P.cellsOf t) with
      | some c, some r => some (c ++ r)
      | _, _ => none
    else none
  | _, _, _, _, _ => none
end

section
variable {enc : TypeId × Value → Unit} {P : Program} {w : World} {base : Nat} {spare : Nat → Bool} {held : Bool}

theorem plainParts_spec (n : Nat) (ih : ∀ fuel t cs d p cs', DataW.trod enc P w base spare held fuel t cs = some (d, p) → plainCells P n t d = some cs' → cs = cs')
    (fuel size : Nat) (cs : List Value) (hcs : cs.length = size) : ∀ (ps : List (TypeId × Nat)) (xs : List (DataW Unit × List MemPlace)) (o : Nat) (r : List Value),
      (∀ (i : Nat) (q : TypeId × Nat), ps[i]? = some q → DataW.trod enc P w base spare held fuel q.1 ((cs.drop q.2).take (P.cellsOf q.1)) = xs[i]?) →
      plainParts P n size ps (xs.map (·.1)) o = some r → cs.drop o = r
  | [], xs, o, r, _, h => by
    cases xs with
    | nil =>
      simp only [List.map_nil, plainParts] at h
      split at h
      · simp at h; subst h; rename_i e; rw [e, ← hcs, List.drop_length]
      · cases h
    | cons x xs => simp [plainParts] at h
  | (t, off) :: ps, xs, o, r, hp, h => by
    cases xs with
    | nil => simp [plainParts] at h
    | cons x xs =>
      simp only [List.map_cons, plainParts] at h
      split at h
      · rename_i e
        subst e
        split at h
        · rename_i c r' hc hr
          simp at h
          subst h
          have h0 := hp 0 (t, off) rfl
          simp only [List.getElem?_cons_zero] at h0
          have e1 := ih _ _ _ x.1 x.2 c (by simpa using h0) hc
          have e2 := plainParts_spec n ih fuel size cs hcs ps xs (off + P.cellsOf t) r' (fun i q hq => by simpa using hp (i + 1) q (by simpa using hq)) hr
          rw [← e1, ← e2, ← List.drop_drop, List.take_append_drop]
        · cases h
      · cases h

theorem plainCells_spec : ∀ (n fuel : Nat) (t : TypeId) (cs : List Value) (d : DataW Unit) (p : List MemPlace) (cs' : List Value),
    DataW.trod enc P w base spare held fuel t cs = some (d, p) → plainCells P n t d = some cs' → cs = cs'
  | 0, _, _, _, _, _, _, _, h => by simp [plainCells] at h
  | n + 1, fuel, t, cs, d, p, cs', h, hc => by
    unfold plainCells at hc
    split at hc
    · rename_i b ht
      obtain ⟨b', e1, e2⟩ := DataW.trod_bool ht h
      simp at e2 hc
      rw [e1, ← hc, e2.1]
    · rename_i k k' x ht
      split at hc
      · rename_i e
        subst e
        obtain ⟨b', e1, e2, _⟩ := DataW.trod_int ht h
        simp at e2 hc
        rw [e1, ← hc, e2.1]
      · cases hc
    · rename_i l ht
      obtain ⟨b', e1, e2, _⟩ := DataW.trod_string ht h
      simp at e2 hc
      rw [e1, ← hc, e2.1]
    · rename_i fs ds ht
      obtain ⟨xs, m, _, hx, hl, hlen, hf⟩ := DataW.trod_struct ht h
      simp only [Prod.mk.injEq, DataW.agg.injEq] at hx
      rw [hx.1] at hc
      have := plainParts_spec n (plainCells_spec n) m _ cs hl _ xs 0 cs' (fun i q hq => by
        rw [List.getElem?_map] at hq
        obtain ⟨f, hfi, rfl⟩ := Option.map_eq_some_iff.1 hq
        exact hf i f (by simpa using hfi)) hc
      simpa using this
    · rename_i m e ds ht
      obtain ⟨xs, m1, _, hx, hl, hlen, hf⟩ := DataW.trod_array ht h
      simp only [Prod.mk.injEq, DataW.agg.injEq] at hx
      rw [hx.1] at hc
      have := plainParts_spec n (plainCells_spec n) m1 _ cs hl _ xs 0 cs' (fun i q hq => by
        rw [List.getElem?_map] at hq
        obtain ⟨j, hj, rfl⟩ := Option.map_eq_some_iff.1 hq
        obtain ⟨hj1, hj2⟩ := List.getElem?_eq_some_iff.1 hj
        simp at hj1 hj2
        subst hj2
        exact hf _ (by simpa using hj1)) hc
      simpa using this
    · cases hc

/-- What the condition on listed variables says of the first one's cells. -/
theorem laid_cells {n : String} {d : DataW Unit} {r : List (String × DataW Unit)} {ps : List MemPlace} (h : DataW.LaidVars P w ((n, d) :: r) ps) {g : Nat} {t : TypeId} {m : Nat} {cs : List Value}
    (hg : P.globalNamed n = some g) (ht : (P.globals[g]?).map (·.type) = some t) (hc : plainCells P m t d = some cs) :
    (∀ i : Nat, w.cell? ⟨g, i, none⟩ = cs[i]? ∨ cs.length ≤ i) ∧ ∃ q, DataW.LaidVars P w r q := by
  obtain ⟨g', t', cs', fuel, p, q, h1, h2, h3, h4, h5, _⟩ := h
  obtain rfl := Option.some.inj (hg.symm.trans h1)
  obtain rfl := Option.some.inj (ht.symm.trans h2)
  have e := plainCells_spec m fuel t cs'.toList d p cs h4 hc
  refine ⟨fun i => ?_, q, h5⟩
  by_cases hi : i < cs.length
  · left
    have := World.var?_cell hg h3 i
    rw [this, ← e]
    simp
  · right; omega
end

theorem run_loadVar_cells {P : Program} (w : World) (g : Nat) (ty : TypeId) (cs : Array Value) (d : TypeDesc) (hc : ∀ i : Nat, i < cs.size → w.cell? ⟨g, i, none⟩ = cs[i]?)
    (hu : P.underlying ty = some d) (hd : (match d with | .struct _ | .array _ _ => true | _ => false) = true) (hi : (P.info? ty).map (·.size) = some cs.size) :
    (loadVar ty ⟨g, 0, none⟩).run P w = .ok (.agg cs) w := by
  have hl : (loadCells ⟨g, 0, none⟩ cs.toList.length).run P w = .ok cs.toList.toArray w :=
    run_loadCells_list (P := P) w ⟨g, 0, none⟩ cs.toList (fun j v hv => by
      have hadd : (⟨g, 0, none⟩ : Addr).add j = ⟨g, j, none⟩ := by unfold Addr.add; split <;> simp_all
      have hj : j < cs.size := by
        rcases Nat.lt_or_ge j cs.size with h | h
        · exact h
        · rw [List.getElem?_eq_none (by simpa using h)] at hv; cases hv
      rw [hadd, hc j hj]
      simpa using hv)
  cases hq : P.info? ty with
  | none => simp [hq] at hi
  | some i =>
    have hs : i.size = cs.size := by simpa [hq] using hi
    have hagg : (isAgg ty).run P w = .ok true w := by
      unfold isAgg
      rw [Sem.run_bind, run_underlying hu w]
      cases d <;> simp_all
    simp only [Array.length_toList, Array.toArray_toList] at hl
    simp [loadVar, Sem.run_bind, hagg, sizeOf, typeInfo, hq, hs, hl]
theorem run_load_table {P : Program} {W : World} {g : Nat} {ty : TypeId} {cs : Array Value} {d : TypeDesc} (hc : ∀ i : Nat, i < cs.size → W.cell? ⟨g, i, none⟩ = cs[i]?)
    (hu : P.underlying ty = some d) (hd : (match d with | .struct _ | .array _ _ => true | _ => false) = true) (hi : (P.info? ty).map (·.size) = some cs.size)
    (A : Act) (dst : Option Tmp) (rt : TypeId) (pos : String) (after : Array Edge) (gd : Option (Nat × Bool)) :
    (execOp A.eval ⟨dst, .load ty (.global g), rt, pos, after, gd⟩).run P W = .ok (.value (.agg cs)) W := by
  unfold execOp
  have : A.eval (.global g) = .pointer (some ⟨g, 0, none⟩) := rfl
  simp only [this, Instr.loadAt, Instr.sureAddr, Sem.run_bind, Sem.run_pure, Result.andThen_ok, run_loadVar_cells W g ty cs d hc hu hd hi]
end Go
