/- cnf.Resolve, as a plain function. Conditions: the clauses are nil or lie in blocks' first cells; their literals are within 1048576 of 0; at most 100 literals. -/
import Derived.Test.YtaibjaienhnckaaGreatDoorZh
set_option linter.unusedVariables false
set_option linter.unusedSimpArgs false
namespace Go.Proofs.YtaibjaienhnckaaGreatDoor
open Go.RowKit Go.Proofs.YtaibjaienhnckaaGreatDoorW.PrintWords Go.Proofs.YtaibjaienhnckaaGreatDoorW.PrintLast Go.Proofs.YtaibjaienhnckaaGreatDoorW.PrintMore Go.Proofs.YtaibjaienhnckaaGreatDoor.PCnfFollows
/-- What resolves from two clauses by a variable. -/
def resolveF (a b : List Int) (v : Int) : Option (List Int) := if cleanF a = some a ∧ cleanF b = some b ∧ 0 < v ∧ v ∈ a ∧ -v ∈ b then cleanF ((a ++ b).filter fun n => decide (n ≠ v ∧ n ≠ -v)) else none
theorem rowAt_isOv {w w' : World} {v : Value} {c : List Int} (h : rowAt w v c) (hb : IsOv w w') : rowAt w' v c := by
  rcases h with ⟨h1, h2⟩ | ⟨g, cap, h1, h2, h3⟩
  · exact .inl ⟨h1, h2⟩
  · exact .inr ⟨g, cap, h1, h2, fun j hj => cellk_isOv (h3 j hj) hb⟩
theorem rowAt_nil {w : World} {v : Value} {c : List Int} (h : rowAt w v c) : (∃ A cap, v = .slice A c.length cap) := by
  rcases h with ⟨h1, h2⟩ | ⟨g, cap, h1, h2, h3⟩
  · exact ⟨none, 0, by rw [h1, h2]; rfl⟩
  · exact ⟨_, _, h1⟩
theorem Contains_row (w : World) (v : Value) (c : List Int) (x : Int) (h : rowAt w v c) (hlen : c.length ≤ 1000) : Calls Tryz.prog 29 #[v, .int .i64 x] w fun e w' => e = .returned (.bool (c.contains x)) ∧ w' = w := by
  rcases h with ⟨rfl, rfl⟩ | ⟨g, cap, rfl, hcap, hc⟩
  · exact Tryz.slices_Contains_int_empty none 0 x w
  · refine Calls.mono (Tryz.slices_Contains_int g 0 c.length cap c x w (Nat.le_refl _) (by omega) hc) ?_
    rintro e w' ⟨rfl, rfl⟩
    rw [List.take_length]
    exact ⟨rfl, rfl⟩
theorem Equal_rows (w : World) (v1 v2 : Value) (a b : List Int) (h1 : rowAt w v1 a) (h2 : rowAt w v2 b) (hla : a.length ≤ 1000) (hlb : b.length ≤ 1000) (hne : a ≠ [] → b ≠ []) : Calls Tryz.prog 28 #[v1, v2] w fun e w' => e = .returned (.bool (a == b)) ∧ IsOv w w' := by
  have key : a = [] → Calls Tryz.prog 28 #[v1, v2] w fun e w' => e = .returned (.bool (a == b)) ∧ IsOv w w' := by
    intro ha
    obtain ⟨A1, c1, rfl⟩ := rowAt_nil h1
    obtain ⟨A2, c2, rfl⟩ := rowAt_nil h2
    subst ha
    refine Calls.mono (Tryz.slices_Equal_int_empty A1 A2 c1 b.length c2 w (by omega)) ?_
    rintro e w' ⟨rfl, rfl⟩
    refine ⟨?_, IsOv.refl _⟩
    cases b <;> rfl
  rcases h1 with ⟨_, e1⟩ | ⟨g1, c1, rfl, hc1, hh1⟩
  · exact key e1
  by_cases ha : a = []
  · exact key ha
  rcases h2 with ⟨_, e2⟩ | ⟨g2, c2, rfl, hc2, hh2⟩
  · exact absurd e2 (hne ha)
  refine Calls.mono (Tryz.slices_Equal_int g1 0 a.length c1 g2 0 b.length c2 a b w (Nat.le_refl _) (Nat.le_refl _) (by omega) (by omega) hh1 hh2) ?_
  rintro e w' ⟨rfl, q, rfl⟩
  rw [List.take_length, List.take_length]
  exact ⟨rfl, IsOv.of_below (pw_below_drewN (Below.refl _ _) _)⟩
theorem rowAt_C {w : World} {v : Value} {c : List Int} (h : rowAt w v c) (hl : c.length ≤ 1000) : ∃ A cap, v = .slice A c.length cap ∧ c.length ≤ cap ∧ Kd.C (Kd.int .i64) w A c.length c := by
  rcases h with ⟨rfl, rfl⟩ | ⟨g, cap, rfl, h2, h3⟩
  · exact ⟨none, 0, rfl, Nat.le_refl _, rfl, by simp, fun h => absurd h (by simp)⟩
  · refine ⟨_, _, rfl, h2, rfl, by omega, fun _ => ⟨_, rfl, fun j p hp => ⟨[.int .i64 p], rfl, rfl, fun i u hu => ?_⟩⟩⟩
    have hj : j < c.length := (List.getElem?_eq_some_iff.1 hp).1
    cases i with
    | succ i => simp at hu
    | zero =>
      simp only [List.getElem?_cons_zero, Option.some.injEq] at hu
      subst hu
      have h9 := h3 j hj
      have h8 : c.getD j 0 = p := by rw [List.getD, hp]; rfl
      rw [h8] at h9
      by_cases hj0 : j = 0
      · subst hj0
        simpa [Kd.int, Kd.scalar, Addr.add] using h9
      · simpa [Kd.int, Kd.scalar, Addr.add, hj0] using h9
theorem pair_C {w : World} {Aa Ab : Option Addr} {ca cb N : Nat} {a b : List Int} (hca : a.length ≤ ca) (hcb : b.length ≤ cb) (Ha : Kd.C (Kd.int .i64) w Aa a.length a) (Hb : Kd.C (Kd.int .i64) w Ab b.length b) (h0 : w.cell? ⟨N, 0, none⟩ = some (.slice Aa a.length ca)) (h1 : w.cell? ⟨N, 1, none⟩ = some (.slice Ab b.length cb)) : Kd.C (Kd.slice 3 (Kd.int .i64)) w (some ⟨N, 0, none⟩) 2 [a, b] := by
  refine ⟨rfl, by decide, fun _ => ⟨_, rfl, fun j p hp => ?_⟩⟩
  match j, hp with
  | 0, hp =>
    simp only [List.getElem?_cons_zero, Option.some.injEq] at hp
    subst hp
    refine ⟨[.slice Aa a.length ca], rfl, ⟨_, _, rfl, hca, Ha⟩, fun i u hu => ?_⟩
    cases i with
    | succ i => simp at hu
    | zero =>
      simp only [List.getElem?_cons_zero, Option.some.injEq] at hu
      subst hu
      simpa [Kd.slice, Addr.add] using h0
  | 1, hp =>
    simp only [List.getElem?_cons_succ, List.getElem?_cons_zero, Option.some.injEq] at hp
    subst hp
    refine ⟨[.slice Ab b.length cb], rfl, ⟨_, _, rfl, hcb, Hb⟩, fun i u hu => ?_⟩
    cases i with
    | succ i => simp at hu
    | zero =>
      simp only [List.getElem?_cons_zero, Option.some.injEq] at hu
      subst hu
      simpa [Kd.slice, Addr.add] using h1
  | j + 2, hp => simp at hp
theorem tidy_ne {c : List Int} (h : c ≠ []) : tidyF c ≠ [] := by
  intro e
  unfold tidyF Lib.compact Lib.compactUpTo at e
  rw [List.map_eq_nil_iff, List.filter_eq_nil_iff] at e
  exact e 0 (List.mem_range.2 (by rw [List.length_mergeSort]; exact List.length_pos_iff.2 h)) (by simp [Lib.keeps])
theorem clean_some {c d : List Int} (h : cleanF c = some d) : d = tidyF c := by
  unfold cleanF at h
  split at h
  · cases h
  · exact (Option.some.inj h).symm
theorem tidy_len (c : List Int) : (tidyF c).length ≤ c.length := by
  have h := Lib.compact_length_le (c.mergeSort fun x y => decide (x ≤ y))
  rw [List.length_mergeSort] at h
  exact h
theorem resolve_no {a b : List Int} {v : Int} (h : ¬ (cleanF a = some a ∧ cleanF b = some b ∧ 0 < v ∧ v ∈ a ∧ -v ∈ b)) : resolveF a b v = none := if_neg h
set_option maxRecDepth 20000 in
set_option maxHeartbeats 1600000 in
theorem Resolve_calls (w : World) (va vb : Value) (a b : List Int) (v : Int) (ha : rowAt w va a) (hb : rowAt w vb b) (hla : a.length ≤ 100) (hlb : b.length ≤ 100) (hsa : small a) (hsb : small b) (hv0 : -9223372036854775808 ≤ v) (hv1 : v ≤ 9223372036854775807) :
    Calls Tryz.prog 15 #[va, vb, .int .i64 v] w fun e w' => ∃ v' : Value, e = .returned (.tuple #[v', .bool (resolveF a b v).isSome]) ∧ Kd.R (Kd.int .i64) 3 w' w.heap.size (fun _ => True) v' ((resolveF a b v).getD []) ∧ Below w.heap.size w w' := by
  have HA := Lib.hid ha
  have HBB := Lib.hid hb
  clear ha hb
  go_enter Tryz.func15, Tryz.ntmps15
  go_wp2_with fail
  refine Calls.mono (Clean_calls _ va a HA.out (by omega) hsa) ?_
  rintro e w1 ⟨x, rfl, hx, hb1⟩
  have hov1 := IsOv.of_below hb1
  have HX := Lib.hid (Kd.own_of_R (enc := Value.int .i64) hx)
  clear hx hb1
  go_wp2_with fail
  refine Calls.mono (Clean_calls _ vb b (rowAt_isOv HBB.out hov1) (by omega) hsb) ?_
  rintro e w2 ⟨y, rfl, hy, hb2⟩
  have hov2 := IsOv.of_below hb2
  have HY := Lib.hid (Kd.own_of_R (enc := Value.int .i64) hy)
  clear hy hb2
  have hovB := IsOv.trans hov1 hov2
  rcases Option.eq_none_or_eq_some (cleanF a) with hca | ⟨d, hca⟩
  · have HV := Lib.hid (resolve_no (a := a) (b := b) (v := v) (fun h9 => by rw [hca] at h9; cases h9.1))
    rw [hca]
    go_wp2_with fail
    exact bodyPost_ret (v := .tuple #[.slice none 0 0, .bool false]) (by simp [results, Tryz.results15, go_sem, ↓IntWalk.iteOmega]) rfl ⟨_, by rw [HV.out]; rfl, by rw [HV.out]; exact Kd.R_nil _ _ _ _ _, hovB.below⟩
  rcases Option.eq_none_or_eq_some (cleanF b) with hcb | ⟨d2, hcb⟩
  · have HV := Lib.hid (resolve_no (a := a) (b := b) (v := v) (fun h9 => by rw [hcb] at h9; cases h9.2.1))
    rw [hca, hcb]
    go_wp2_with fail
    exact bodyPost_ret (v := .tuple #[.slice none 0 0, .bool false]) (by simp [results, Tryz.results15, go_sem, ↓IntWalk.iteOmega]) rfl ⟨_, by rw [HV.out]; rfl, by rw [HV.out]; exact Kd.R_nil _ _ _ _ _, hovB.below⟩
  rw [hca] at HX
  rw [hcb] at HY
  have hd := clean_some hca
  have hd2 := clean_some hcb
  have hdl : d.length ≤ 100 := by rw [hd]; exact Nat.le_trans (tidy_len a) hla
  have hdl2 : d2.length ≤ 100 := by rw [hd2]; exact Nat.le_trans (tidy_len b) hlb
  have hdn : a ≠ [] → d ≠ [] := by rw [hd]; exact tidy_ne
  have hdn2 : b ≠ [] → d2 ≠ [] := by rw [hd2]; exact tidy_ne
  have hra := rowAt_isOv HA.out hovB
  have hrb := rowAt_isOv HBB.out hovB
  have hrx := rowAt_isOv (rowAt_own (c := d) HX.out) hov2
  have hry := rowAt_own (c := d2) HY.out
  rw [hca, hcb]
  by_cases hv : v ≤ 0
  · have HV := Lib.hid (resolve_no (a := a) (b := b) (v := v) (fun h9 => by omega))
    clear hra hrb hrx hry hd hd2 hdn hdn2
    go_wp2_with fail
    exact bodyPost_ret (v := .tuple #[.slice none 0 0, .bool false]) (by simp [results, Tryz.results15, go_sem, ↓IntWalk.iteOmega]) rfl ⟨_, by rw [HV.out]; rfl, by rw [HV.out]; exact Kd.R_nil _ _ _ _ _, hovB.below⟩
  have HRA := Lib.hid hra
  have HRB := Lib.hid hrb
  have HRX := Lib.hid hrx
  have HRY := Lib.hid hry
  have HD := Lib.hid hca
  have HD2 := Lib.hid hcb
  have HDN := Lib.hid hdn
  have HDN2 := Lib.hid hdn2
  clear hra hrb hrx hry hd hd2 hdn hdn2 hca hcb
  go_wp2_with fail
  refine Calls.mono (Equal_rows _ va x a d HRA.out HRX.out (by omega) (by omega) HDN.out) ?_
  rintro e w3 ⟨rfl, hovC⟩
  by_cases hax : a = d
  case neg =>
    have HV := Lib.hid (resolve_no (a := a) (b := b) (v := v) (fun h9 => hax (by have h8 := h9.1; rw [HD.out] at h8; exact (Option.some.inj h8).symm)))
    have hq : (a == d) = false := by simpa using hax
    clear hax
    rw [hq]
    go_wp2_with fail
    exact bodyPost_ret (v := .tuple #[.slice none 0 0, .bool false]) (by simp [results, Tryz.results15, go_sem, ↓IntWalk.iteOmega]) rfl ⟨_, by rw [HV.out]; rfl, by rw [HV.out]; exact Kd.R_nil _ _ _ _ _, (IsOv.trans hovB hovC).below⟩
  have hq : (a == d) = true := by simpa using hax
  rw [hq]
  have HAX := Lib.hid hax
  clear hq hax
  go_wp2_with fail
  refine Calls.mono (Equal_rows _ vb y b d2 (rowAt_isOv HRB.out hovC) (rowAt_isOv HRY.out hovC) (by omega) (by omega) HDN2.out) ?_
  rintro e w4 ⟨rfl, hov4⟩
  replace hovC := IsOv.trans hovC hov4
  clear hov4
  by_cases hbx : b = d2
  case neg =>
    have HV := Lib.hid (resolve_no (a := a) (b := b) (v := v) (fun h9 => hbx (by have h8 := h9.2.1; rw [HD2.out] at h8; exact (Option.some.inj h8).symm)))
    have hq : (b == d2) = false := by simpa using hbx
    clear hbx
    rw [hq]
    go_wp2_with fail
    exact bodyPost_ret (v := .tuple #[.slice none 0 0, .bool false]) (by simp [results, Tryz.results15, go_sem, ↓IntWalk.iteOmega]) rfl ⟨_, by rw [HV.out]; rfl, by rw [HV.out]; exact Kd.R_nil _ _ _ _ _, (IsOv.trans hovB hovC).below⟩
  have hq : (b == d2) = true := by simpa using hbx
  rw [hq]
  have HBX := Lib.hid hbx
  clear hq hbx
  go_wp2_with fail
  refine Calls.mono (Contains_row _ va a v (rowAt_isOv HRA.out hovC) (by omega)) ?_
  rintro e w5 ⟨rfl, rfl⟩
  by_cases hva : v ∈ a
  case neg =>
    have HV := Lib.hid (resolve_no (a := a) (b := b) (v := v) (fun h9 => hva h9.2.2.2.1))
    have hq : a.contains v = false := by simpa using hva
    clear hva
    rw [hq]
    go_wp2_with fail
    exact bodyPost_ret (v := .tuple #[.slice none 0 0, .bool false]) (by simp [results, Tryz.results15, go_sem, ↓IntWalk.iteOmega]) rfl ⟨_, by rw [HV.out]; rfl, by rw [HV.out]; exact Kd.R_nil _ _ _ _ _, (IsOv.trans hovB hovC).below⟩
  have hq : a.contains v = true := List.contains_iff_mem.2 hva
  rw [hq]
  have HVA := Lib.hid hva
  clear hq hva
  go_wp2_with fail
  refine Calls.mono (Contains_row _ vb b (-v) (rowAt_isOv HRB.out hovC) (by omega)) ?_
  rintro e w6 ⟨rfl, rfl⟩
  by_cases hvb : -v ∈ b
  case neg =>
    have HV := Lib.hid (resolve_no (a := a) (b := b) (v := v) (fun h9 => hvb h9.2.2.2.2))
    have hq : b.contains (-v) = false := by simpa using hvb
    clear hvb
    rw [hq]
    go_wp2_with fail
    exact bodyPost_ret (v := .tuple #[.slice none 0 0, .bool false]) (by simp [results, Tryz.results15, go_sem, ↓IntWalk.iteOmega]) rfl ⟨_, by rw [HV.out]; rfl, by rw [HV.out]; exact Kd.R_nil _ _ _ _ _, (IsOv.trans hovB hovC).below⟩
  have hq : b.contains (-v) = true := List.contains_iff_mem.2 hvb
  rw [hq]
  have HVB := Lib.hid hvb
  clear hq hvb
  have HRS : Hid (resolveF a b v = cleanF ((a ++ b).filter fun n => decide (n ≠ v ∧ n ≠ -v))) := Lib.hid (by
    unfold resolveF
    rw [if_pos ⟨by rw [HD.out, HAX.out], by rw [HD2.out, HBX.out], by omega, HVA.out, HVB.out⟩])
  obtain ⟨Aa, ca, rfl, hca9, hCa⟩ := rowAt_C (rowAt_isOv HRA.out hovC) (by omega)
  obtain ⟨Ab, cb, rfl, hcb9, hCb⟩ := rowAt_C (rowAt_isOv HRB.out hovC) (by omega)
  have HCA := Lib.hid hCa
  have HCB := Lib.hid hCb
  have HRAC := Lib.hid (rowAt_isOv HRA.out hovC)
  have HOVD := Lib.hid (IsOv.trans hovB hovC)
  clear HD HD2 HDN HDN2 HAX HBX HRX HRY HX HY hCa hCb hov1 hov2 hovB hovC HRB HA HBB HRA
  go_wp2_with fail
  refine Calls.mono (Concat_calls _ (some _) 2 [a, b] (pair_C (N := w6.heap.size) hca9 hcb9 (Kd.C_alloc HCA.out _) (Kd.C_alloc HCB.out _) (by rw [cell_of_heap (heap_alloc_new w6 _)]; rfl) (by rw [cell_of_heap (heap_alloc_new w6 _)]; rfl)) (by simp) (by have := List.length_pos_of_mem HVA.out; simp; omega) (by simp; omega) (by simp)) ?_
  rintro e w7 ⟨v9, rfl, hr9, hb9⟩
  rw [show [a, b].flatten = a ++ b by simp] at hr9
  have hLl : (a ++ b).length ≤ 200 := by rw [List.length_append]; omega
  have hLs : small (a ++ b) := fun x hx => (List.mem_append.1 hx).elim (hsa x) (hsb x)
  have hovE : IsOv w w7 := IsOv.trans (HOVD.out.alloc _) (IsOv.of_below hb9)
  obtain ⟨A9, cp9, rfl, hcp9, hC9⟩ := rowAt_C (rowAt_own (Kd.own_of_R (enc := Value.int .i64) hr9)) (by omega)
  have HC9 := Lib.hid hC9
  have HLS := Lib.hid hLs
  clear hr9 hb9 hC9 hLs HOVD HRAC HCA HCB HVA HVB hca9 hcb9 hsa hsb
  generalize a ++ b = L at *
  go_wp2_with fail
  go_loopw [12, 65] (fun nv iv w' => ∃ (i : Nat) (xs : List Int), iv = .int .i64 (i : Int) ∧ i ≤ L.length ∧ Hid (xs ++ (L.drop i).filter (fun n => decide (n ≠ v ∧ n ≠ -v)) = L.filter (fun n => decide (n ≠ v ∧ n ≠ -v))) ∧ Hid (Kd.R (Kd.int .i64) 3 w' w7.heap.size (fun _ => True) nv xs) ∧ Hid (Below w7.heap.size w7 w')) (fun nv iv w' => (L.length - intOf iv).toNat)
  case atStart => exact ⟨0, [], rfl, Nat.zero_le _, Lib.hid rfl, Lib.hid (Kd.R_nil _ _ _ _ _), Lib.hid (Below.refl _ _)⟩
  case round =>
    obtain ⟨i, xs, rfl, hi, hxs, HR, HB⟩ := hrel
    by_cases hin : i < L.length
    · obtain ⟨ad, rfl, hx⟩ := Kd.at_int (Kd.C_below HC9.out HB.out) (i : Int) (by omega) (by omega)
      have hd := rd_drop hin
      rw [hd] at hxs
      have hxc : wr.cell? (ad.add i) = some (.int .i64 (rd L i)) := hx
      clear hx hd
      generalize rd L (i : Int) = n at *
      by_cases hk : n ≠ v ∧ n ≠ -v
      · have hxs9 := hxs.out
        rw [List.filter_cons_of_pos (by simpa using hk), ← List.singleton_append, ← List.append_assoc] at hxs9
        have HN := Lib.hid hxs9
        have hk1 := hk.1
        have hk2 := hk.2
        have hbk1 : (n != v) = true := by simpa using hk1
        have hbk2 : (n != -v) = true := by simpa using hk2
        have hxl : xs.length ≤ 200 := by
          have h9 := congrArg List.length hxs9
          rw [List.length_append, List.length_append] at h9
          have h8 := List.length_filter_le (fun n => decide (n ≠ v ∧ n ≠ -v)) L
          omega
        clear hxs hxs9 hk
        go_wp2_with ((with_reducible refine gate_builtin (b := .append) (xs := #[.tmp 78, .tmp 80]) rfl ?_); at_builtin; go_loud (refine Kd.R_append (Kd.int .i64) (w0 := w7) w7.heap.size rfl (.tmp 78) (.tmp 80) 23 3 (.int .i64 0) 8 rfl Tryz.underlying23 info3 rfl (by decide) (by omega) u12 xs n [.int .i64 n] (fun _ => True) (fun _ => False) rfl rfl rfl (fun _ hk => hk.elim) (fun _ _ => trivial) HR.out HB.out (below_size HB.out) (by omega) ?_; intro v1 w10 ho10 hb10 hg10 hat10; have HO10 := Lib.hid ho10; have HB10 := Lib.hid hb10; clear ho10 hb10 hg10 hat10 HR HB))
        go_roundw
        case rel => exact ⟨i + 1, xs ++ [n], by go_num, by omega, HN, HO10, HB10⟩
        case measure => simp [intOf]; omega
      · have hxs9 := hxs.out
        rw [List.filter_cons_of_neg (by simpa using hk)] at hxs9
        have HN := Lib.hid hxs9
        clear hxs hxs9
        by_cases hk1 : n = v
        · subst hk1
          clear hk
          go_wp2_with fail
          go_roundw
          case rel => exact ⟨i + 1, xs, by go_num, by omega, HN, HR, HB⟩
          case measure => simp [intOf]; omega
        · obtain rfl : n = -v := by
            rcases Decidable.em (n = -v) with h9 | h9
            · exact h9
            · exact absurd ⟨hk1, h9⟩ hk
          clear hk
          go_wp2_with fail
          go_roundw
          case rel => exact ⟨i + 1, xs, by go_num, by omega, HN, HR, HB⟩
          case measure => simp [intOf]; omega
    · obtain rfl : i = L.length := by omega
      have HX : Hid (xs = L.filter (fun n => decide (n ≠ v ∧ n ≠ -v))) := Lib.hid (by
        have h9 := hxs.out
        rw [List.drop_length] at h9
        simpa using h9)
      clear hxs
      have hxl : xs.length ≤ 200 := by
        have h8 := List.length_filter_le (fun n => decide (n ≠ v ∧ n ≠ -v)) L
        rw [HX.out]
        omega
      have hxm : small xs := fun x hx => HLS.out x (by rw [HX.out] at hx; exact (List.mem_filter.1 hx).1)
      have HXM := Lib.hid hxm
      clear hxm
      go_wp2_with fail
      refine Calls.mono (Clean_calls _ u12 xs (rowAt_own (Kd.own_of_R (enc := Value.int .i64) HR.out)) (by omega) HXM.out) ?_
      rintro e w11 ⟨v8, rfl, hr8, hb8⟩
      rw [HX.out, ← HRS.out] at hr8
      have hq : (cleanF xs).isSome = (resolveF a b v).isSome := by rw [HX.out, ← HRS.out]
      rw [hq]
      have hovZ : IsOv w wr := IsOv.trans hovE (IsOv.of_below HB.out)
      have HR8 := Lib.hid (Kd.R_lower hr8 hovZ.size_le)
      have HOVZ := Lib.hid (IsOv.trans hovZ (IsOv.of_below hb8))
      clear hr8 hb8 hq hovZ HX HXM
      go_wp2_with fail
      exact bodyPost_ret (v := .tuple #[v8, .bool (resolveF a b v).isSome]) (by simp [results, Tryz.results15, go_sem, ↓IntWalk.iteOmega]) rfl ⟨_, rfl, HR8.out, HOVZ.out.below⟩

end Go.Proofs.YtaibjaienhnckaaGreatDoor
