/- Maps with whole numbers for keys, each holding 1: what a look-up gives and what an update leaves. No condition. -/
import Derived.Test.YtaibjaienhnckaaGreatDoorO
set_option linter.unusedVariables false
set_option linter.unusedSimpArgs false
namespace Go
open Go.RowKit
/-- The entries are those of some numbers, each holding 1. -/
def onesAre (es : List MapEntry) (ks : List Int) : Prop := es.map (fun e => (e.key, e.val)) = ks.map fun k => (Value.int .i64 k, Value.int .i64 1)
theorem onesAre_nil : onesAre [] [] := rfl
theorem findNow_ones : ∀ (es : List MapEntry) (ks : List Int) (n : Int) (i : Nat), onesAre es ks → (n ∈ ks → ∃ j, j < es.length ∧ Instr.findNow (.int .i64) (.int .i64 n) es i = some (some (i + j, .int .i64 1)) ∧ ks[j]? = some n) ∧ (n ∉ ks → Instr.findNow (.int .i64) (.int .i64 n) es i = some none)
  | [], ks, n, i, h => by
    have : ks = [] := by cases ks with | nil => rfl | cons a r => simp [onesAre] at h
    subst this
    exact ⟨fun h => (by cases h), fun _ => rfl⟩
  | e :: es, ks, n, i, h => by
    cases ks with
    | nil => simp [onesAre] at h
    | cons k ks =>
      simp only [onesAre, List.map_cons, List.cons.injEq, Prod.mk.injEq] at h
      obtain ⟨⟨h1, h3⟩, h2⟩ := h
      have ih := findNow_ones es ks n (i + 1) h2
      have hs : Instr.sameNow (.int .i64) (.int .i64 n) e.key = some (n == k) := by rw [h1]; simp [Instr.sameNow]
      by_cases hk : n = k
      · have hb : (n == k) = true := by simpa using hk
        constructor
        · intro _
          refine ⟨0, by simp, ?_, by simp [hk]⟩
          simp only [Instr.findNow, hs, hb]
          rw [h3]; rfl
        · intro hn; exact absurd (by simp [hk]) hn
      · have hb : (n == k) = false := by simpa using hk
        constructor
        · intro hn
          obtain ⟨j, h4, h5, h6⟩ := ih.1 (by simpa [hk] using hn)
          refine ⟨j + 1, by simpa using h4, ?_, by simpa using h6⟩
          simp only [Instr.findNow, hs, hb]
          rw [h5]; congr 3; omega
        · intro hn
          simp only [Instr.findNow, hs, hb]
          exact ih.2 (fun h => hn (by simp [h]))
section
variable {P : Program}
theorem run_checkKey_num {K : TypeId} (hK : P.underlying K = some (.int .i64)) (b : Bool) (n : Nat) (x : Int) (w : World) : (Instr.checkKey b (n + 1) K (.int .i64 x)).run P w = .ok () w := by
  simp [Instr.checkKey, Sem.run_bind, run_underlying hK]
theorem run_findKey_num {K : TypeId} (hK : P.underlying K = some (.int .i64)) (x : Int) (es : List MapEntry) (r : Option (Nat × Value)) (hf : Instr.findNow (.int .i64) (.int .i64 x) es 0 = some r) (w : World) : (Instr.findKey K (.int .i64 x) es).run P w = .ok r w := by
  simp [Instr.findKey, Sem.run_bind, run_underlying hK, hf]
theorem run_lookup_ones {T K E : TypeId} (hT : P.underlying T = some (.map K E)) (hK : P.underlying K = some (.int .i64)) {w : World} (hz : (zeroValue E).run P w = .ok (.int .i64 0) w) {r : Nat} {es : Array MapEntry} {clk : Nat} {ks : List Int}
    (hr : w.heap[r]? = some (.map es clk)) (h : onesAre es.toList ks) (n : Int) : (Instr.lookup T (.map (some r)) (.int .i64 n) false).run P w = .ok (.int .i64 (if n ∈ ks then 1 else 0)) w := by
  by_cases hn : n ∈ ks
  · obtain ⟨j, _, hf, _⟩ := (findNow_ones es.toList ks n 0 h).1 hn
    simp [Instr.lookup, Sem.run_bind, run_underlying hT, run_getObj hr, run_checkKey_num hK, run_findKey_num hK n es.toList _ hf, hn]
  · have hf := (findNow_ones es.toList ks n 0 h).2 hn
    simp [Instr.lookup, Sem.run_bind, run_underlying hT, run_getObj hr, run_checkKey_num hK, run_findKey_num hK n es.toList _ hf, hn, hz]
theorem onesAre_push {es : Array MapEntry} {ks : List Int} (h : onesAre es.toList ks) (n : Int) (clk : Nat) : onesAre (es.push ⟨.int .i64 n, .int .i64 1, clk⟩).toList (ks ++ [n]) := by
  unfold onesAre at h ⊢
  rw [Array.toList_push, List.map_append, List.map_append, h]
  rfl
theorem run_setObj_map {w : World} {r : Nat} {es : Array MapEntry} {clk : Nat} (hr : w.heap[r]? = some (.map es clk)) (o : Obj) : (setObj r o).run P w = .ok () (w.put r o) := by
  unfold setObj
  simp only [Sem.run, hr]
  rfl
/-- Each entry came at another time, ahead of now. -/
def bornsOk (es : List MapEntry) (clk : Nat) : Prop := (es.map (·.born)).Nodup ∧ ∀ x ∈ es, x.born < clk
theorem bornsOk_nil : bornsOk [] 0 := ⟨List.nodup_nil, fun x h => (by cases h)⟩
theorem bornsOk_push {es : Array MapEntry} {clk : Nat} (h : bornsOk es.toList clk) (k v : Value) : bornsOk (es.push ⟨k, v, clk⟩).toList (clk + 1) := by
  obtain ⟨h1, h2⟩ := h
  refine ⟨?_, fun x hx => ?_⟩
  · rw [Array.toList_push, List.map_append]
    refine List.nodup_append.2 ⟨h1, by simp, ?_⟩
    intro a ha b hb
    obtain ⟨x, hx, rfl⟩ := List.mem_map.1 ha
    have := h2 x hx
    simp at hb
    omega
  · rw [Array.toList_push] at hx
    rcases List.mem_append.1 hx with hx | hx
    · have := h2 x hx; omega
    · simp at hx; subst hx; simp
theorem bornsOk_same {es es2 : List MapEntry} {clk : Nat} (h : bornsOk es clk) (he : es2.map (·.born) = es.map (·.born)) : bornsOk es2 clk := by
  obtain ⟨h1, h2⟩ := h
  refine ⟨by rw [he]; exact h1, fun x hx => ?_⟩
  have : x.born ∈ es2.map (·.born) := List.mem_map.2 ⟨x, hx, rfl⟩
  rw [he] at this
  obtain ⟨y, hy, e⟩ := List.mem_map.1 this
  rw [← e]; exact h2 y hy
theorem run_mapUpdate_ones {T K E : TypeId} (hT : P.underlying T = some (.map K E)) (hK : P.underlying K = some (.int .i64)) {w : World} {r : Nat} {es : Array MapEntry} {clk : Nat} {ks : List Int}
    (hr : w.heap[r]? = some (.map es clk)) (h : onesAre es.toList ks) (hbo : bornsOk es.toList clk) (n : Int) : ∃ es2 clk2, (Instr.mapUpdate T (.map (some r)) (.int .i64 n) (.int .i64 1)).run P w = .ok () (w.put r (.map es2 clk2)) ∧ onesAre es2.toList (if n ∈ ks then ks else ks ++ [n]) ∧ bornsOk es2.toList clk2 := by
  by_cases hn : n ∈ ks
  · obtain ⟨j, hj, hf, hkj⟩ := (findNow_ones es.toList ks n 0 h).1 hn
    rw [Nat.zero_add] at hf
    have hjs : j < es.size := by simpa using hj
    have he : ∃ e, es[j]? = some e ∧ e.key = .int .i64 n ∧ e.val = .int .i64 1 := by
      refine ⟨es[j], Array.getElem?_eq_getElem hjs, ?_⟩
      have h2 := congrArg (fun l => l[j]?) h
      simp only [List.getElem?_map, hkj, Option.map_some] at h2
      rw [Array.getElem?_toList, Array.getElem?_eq_getElem hjs] at h2
      simpa using h2
    obtain ⟨e, he1, he2, he3⟩ := he
    have hst : ∀ w, (Instr.keyThatStays (.int .i64 n) (.int .i64 n)).run P w = .ok (.int .i64 n) w := fun w => by
      have hb : Instr.sameBits 10000 (.int .i64 n) (.int .i64 n) = true := by simp [Instr.sameBits]
      simp [Instr.keyThatStays, hb]
    refine ⟨es.modify j fun e => { e with key := .int .i64 n, val := .int .i64 1 }, clk, ?_, ?_, ?_⟩
    · simp [Instr.mapUpdate, Sem.run_bind, run_underlying hT, run_getObj hr, run_checkKey_num hK, run_findKey_num hK n es.toList _ hf, he1, he2, hst, run_setObj_map hr]
    · rw [if_pos hn]
      unfold onesAre at h ⊢
      rw [← h]
      apply List.ext_getElem?
      intro k
      simp only [List.getElem?_map, Array.getElem?_toList, Array.getElem?_modify]
      by_cases hk : j = k
      · subst hk; rw [if_pos rfl, he1]; simp [he2, he3]
      · rw [if_neg hk]
    · refine bornsOk_same hbo ?_
      apply List.ext_getElem?
      intro k
      simp only [List.getElem?_map, Array.getElem?_toList, Array.getElem?_modify]
      by_cases hk : j = k
      · subst hk; rw [if_pos rfl, he1]; simp
      · rw [if_neg hk]
  · have hf := (findNow_ones es.toList ks n 0 h).2 hn
    refine ⟨es.push ⟨.int .i64 n, .int .i64 1, clk⟩, clk + 1, ?_, ?_, bornsOk_push hbo _ _⟩
    · simp [Instr.mapUpdate, Sem.run_bind, run_underlying hT, run_getObj hr, run_checkKey_num hK, run_findKey_num hK n es.toList _ hf, run_setObj_map hr]
    · rw [if_neg hn]; exact onesAre_push h n clk
end
end Go
