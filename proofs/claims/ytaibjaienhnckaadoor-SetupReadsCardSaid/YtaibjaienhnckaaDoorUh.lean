/- Layer 22's reference: Read, as a plain function. Condition: the text takes at most 65536 bytes. -/
import Derived.Test.YtaibjaienhnckaaDoorUc
import Derived.Test.YtaibjaienhnckaaDoorTc
import Derived.Test.YtaibjaienhnckaaDoorUg
set_option linter.unusedVariables false
set_option linter.unusedSimpArgs false
namespace Go.Proofs.YtaibjaienhnckaaDoor
open Go.RowKit
/-- Where the first end of a line stands. -/
theorem cut1_at (c : UInt8) : ∀ l : List UInt8, (cut1 c l).1 = l.take (cut1 c l).1.length ∧ (cut1 c l).1.length ≤ l.length ∧ ((cut1 c l).2.2 = false ↔ (cut1 c l).1.length = l.length) ∧ ((cut1 c l).2.2 = true → l[(cut1 c l).1.length]? = some c ∧ (cut1 c l).2.1 = l.drop ((cut1 c l).1.length + 1))
  | [] => by simp [cut1]
  | b :: l => by
    obtain ⟨h1, h2, h3, h4⟩ := cut1_at c l
    unfold cut1
    by_cases h : b = c
    · subst h; simp
    · simp only [if_neg h]
      refine ⟨by simp; exact h1, by simpa using h2, by simpa using h3, fun e => ?_⟩
      simpa using h4 e
theorem cut1_not (c : UInt8) (l : List UInt8) (i : Nat) (h : i < (cut1 c l).1.length) : ∃ b, l[i]? = some b ∧ b ≠ c := by
  have h0 := (cut1_spec c l).1
  have h1 := (cut1_at c l).1
  generalize hq : (cut1 c l).1 = q at *
  have h2 : q[i]? = some q[i] := List.getElem?_eq_getElem h
  refine ⟨q[i], ?_, fun e => h0 (e ▸ List.getElem_mem h)⟩
  have h3 : (l.take q.length)[i]? = some q[i] := h1 ▸ h2
  rw [List.getElem?_take] at h3
  rw [if_pos h] at h3
  exact h3
theorem bt_of {b : ByteArray} {i : Nat} {x : UInt8} (h : b.data.toList[i]? = some x) : ∃ hi : i < b.size, b[i]'hi = x := by
  obtain ⟨h1, h2⟩ := List.getElem?_eq_some_iff.1 h
  exact ⟨by rw [Array.length_toList] at h1; exact h1, by rw [← h2]; rfl⟩
def boolCells (B : List Bool) : Array Value := (B.map Value.bool).toArray
theorem boolCells_at {B : List Bool} {k : Nat} (h : k < B.length) : (boolCells B)[k]? = some (.bool (B.getD k false)) := by
  unfold boolCells
  simp [List.getD, h]
theorem boolCells_set (B : List Bool) (k : Nat) : (boolCells B).setIfInBounds k (.bool true) = boolCells (B.set k true) := by
  unfold boolCells
  apply Array.ext'
  simp [List.map_set]
theorem extract_take (b : ByteArray) (p : Nat) : (b.extract 0 p).data.toList = b.data.toList.take p := by
  rw [ByteArray.data_extract, Array.toList_extract]; simp [List.extract]
theorem extract_drop (b : ByteArray) (p : Nat) : (b.extract p b.size).data.toList = b.data.toList.drop p := by
  have e4 : b.size = b.data.toList.length := by rw [Array.length_toList]; rfl
  rw [ByteArray.data_extract, Array.toList_extract, e4]
  simp only [List.extract]
  rw [List.take_of_length_le (by simp)]
theorem CB_set {W w1 : World} {b b' i : Nat} {v : Value} {l0 l1 l2 l3 l4 l5 : Int} {t : Bool} (h : CB W b l0 l1 l2 l3 l4 l5 t w1) (hb : b' ≠ b) (hW : W.heap.size ≤ b') : CB W b l0 l1 l2 l3 l4 l5 t (w1.setCell ⟨b', i, none⟩ v) := by
  have key : ∀ j, (w1.setCell ⟨b', i, none⟩ v).cell? ⟨b, j, none⟩ = w1.cell? ⟨b, j, none⟩ := fun j => by
    unfold World.cell?
    rw [heap_setCell_ne (fun e => hb e.symm)]
  obtain ⟨h0, h1, h2, h3, h4, h5, h6, h7⟩ := h
  exact ⟨h0.setCell hW v, (key 0).trans h1, (key 1).trans h2, (key 2).trans h3, (key 3).trans h4, (key 4).trans h5, (key 5).trans h6, (key 6).trans h7⟩
theorem CB_heap {W w1 : World} {b : Nat} {l0 l1 l2 l3 l4 l5 : Int} {t : Bool} (h : IsOv W w1) (hb : w1.heap[b]? = some (.cells (Cfg.cells ⟨l0, l1, l2, l3, l4, l5, t⟩) 24)) : CB W b l0 l1 l2 l3 l4 l5 t w1 :=
  ⟨h, cell_of_heap hb 0, cell_of_heap hb 1, cell_of_heap hb 2, cell_of_heap hb 3, cell_of_heap hb 4, cell_of_heap hb 5, cell_of_heap hb 6⟩
/-- A setup stored. -/
def set7 (w : World) (N : Nat) (d : Cfg) : World := World.setCell (World.setCell (World.setCell (World.setCell (World.setCell (World.setCell (World.setCell (w) ⟨N, 0, none⟩ (.int .i64 d.l0)) ⟨N, 1, none⟩ (.int .i64 d.l1)) ⟨N, 2, none⟩ (.int .i64 d.l2)) ⟨N, 3, none⟩ (.int .i64 d.l3)) ⟨N, 4, none⟩ (.int .i64 d.l4)) ⟨N, 5, none⟩ (.int .i64 d.l5)) ⟨N, 6, none⟩ (.bool d.t)
theorem set7_self {w : World} {N : Nat} {c d : Cfg} {t : TypeId} (h : w.heap[N]? = some (.cells (Cfg.cells c) t)) : (set7 w N d).heap[N]? = some (.cells (Cfg.cells d) t) := by
  have h2 := heap_setCell_self (i := 6) (heap_setCell_self (i := 5) (heap_setCell_self (i := 4) (heap_setCell_self (i := 3) (heap_setCell_self (i := 2) (heap_setCell_self (i := 1) (heap_setCell_self (i := 0) (h) (.int .i64 d.l0)) (.int .i64 d.l1)) (.int .i64 d.l2)) (.int .i64 d.l3)) (.int .i64 d.l4)) (.int .i64 d.l5)) (.bool d.t)
  rw [show (set7 w N d).heap[N]? = _ from h2]
  simp [Cfg.cells]
theorem set7_ne {w : World} {N k : Nat} {d : Cfg} {o : Obj} (hk : k ≠ N) (h : w.heap[k]? = some o) : (set7 w N d).heap[k]? = some o := (heap_setCell_ne hk _).trans ((heap_setCell_ne hk _).trans ((heap_setCell_ne hk _).trans ((heap_setCell_ne hk _).trans ((heap_setCell_ne hk _).trans ((heap_setCell_ne hk _).trans ((heap_setCell_ne hk _).trans (h)))))))
theorem drew_heap (w : World) (k : Nat) : w.drew.heap[k]? = w.heap[k]? := rfl
theorem set7_selfD {w : World} {N : Nat} {c d : Cfg} {t : TypeId} (h : w.heap[N]? = some (.cells (Cfg.cells c) t)) : (World.drew (set7 w N d)).heap[N]? = some (.cells (Cfg.cells d) t) := (drew_heap _ _).trans (set7_self h)
theorem set7_neD {w : World} {N k : Nat} {d : Cfg} {o : Obj} (hk : k ≠ N) (h : w.heap[k]? = some o) : (World.drew (set7 w N d)).heap[k]? = some o := (drew_heap _ _).trans (set7_ne hk h)
theorem set7_isOv {W w : World} {N : Nat} {d : Cfg} (h : IsOv W w) (hN : W.heap.size ≤ N) : IsOv W (set7 w N d) := IsOv.setCell (p := ⟨N, 6, none⟩) (IsOv.setCell (p := ⟨N, 5, none⟩) (IsOv.setCell (p := ⟨N, 4, none⟩) (IsOv.setCell (p := ⟨N, 3, none⟩) (IsOv.setCell (p := ⟨N, 2, none⟩) (IsOv.setCell (p := ⟨N, 1, none⟩) (IsOv.setCell (p := ⟨N, 0, none⟩) (h) hN _) hN _) hN _) hN _) hN _) hN _) hN _
theorem CB_world {W w1 : World} {b : Nat} {l0 l1 l2 l3 l4 l5 : Int} {t : Bool} (h : CB W b l0 l1 l2 l3 l4 l5 t w1) : ∃ u : World, u = w1 := ⟨_, rfl⟩
set_option maxRecDepth 20000 in
set_option maxHeartbeats 16000000 in
theorem refRead_calls (w : World) (s : ByteArray) (hs : s.size ≤ 65536) (r : Cfg × Nat × Int) (hr : refReadF (s.size + 1) Cfg.usual [false, false, false, false, false, false, false] 1 s.data.toList = some r) : Gives Tryd.prog 8 #[.string s] w (.tuple #[r.1.val, .int .i64 r.2.1, .int .i64 r.2.2]) := by
  unfold Gives
  go_enter Tryd.func8, Tryd.ntmps8
  go_wp2_with fail
  refine (refUsual_gives _).mono ?_
  rintro e w1 ⟨rfl, hov1⟩
  have hres1 : w1.heap[w.heap.size]? = some (.cells Cfg.zero.cells 24) := hov1.heap (heap_alloc_new w _)
  have hovw : IsOv w w1 := ((IsOv.refl w).alloc _).trans hov1
  have hwz : w.heap.size < w1.heap.size := lt_of_heap hres1
  clear hov1
  have hst : (((w1.alloc (.cells Cfg.usual.cells 24)).alloc (.cells (boolCells [false, false, false, false, false, false, false]) 46)).heap[w1.heap.size]?) = some (.cells Cfg.usual.cells 24) := ((IsOv.refl (w1.alloc (.cells Cfg.usual.cells 24))).alloc _).heap (heap_alloc_new w1 _)
  have hmt : (((w1.alloc (.cells Cfg.usual.cells 24)).alloc (.cells (boolCells [false, false, false, false, false, false, false]) 46)).heap[w1.heap.size + 1]?) = some (.cells (boolCells [false, false, false, false, false, false, false]) 46) := by
    have := heap_alloc_new (w1.alloc (.cells Cfg.usual.cells 24)) (.cells (boolCells [false, false, false, false, false, false, false]) 46)
    simpa using this
  have HST := Lib.hid hst
  have HMT := Lib.hid hmt
  have HRES := Lib.hid hres1
  clear hst hmt hres1
  go_wp2_with fail
  go_loopg [0, 7] (s.size + 1) (fun g tv nv wr => ∃ (b : ByteArray) (n : Nat) (c : Cfg) (B : List Bool), tv = .string b ∧ nv = .int .i64 (n : Int) ∧ b.size ≤ 65536 ∧ n + b.size ≤ 65537 ∧ Hid (refReadF g c B n b.data.toList = some r) ∧ B.length = 7 ∧ IsOv w1 wr ∧ Hid (wr.heap[w1.heap.size]? = some (.cells c.cells 24)) ∧ Hid (wr.heap[w1.heap.size + 1]? = some (.cells (boolCells B) 46)))
  case atStart => exact ⟨s, 1, Cfg.usual, [false, false, false, false, false, false, false], rfl, rfl, hs, by omega, hr, rfl, by repeat (first | with_reducible exact IsOv.refl _ | with_reducible apply IsOv.dr | with_reducible apply IsOv.drewN | with_reducible apply IsOv.drew | with_reducible apply IsOv.alloc | with_reducible apply IsOv.ov), HST, HMT⟩
  case round =>
    obtain ⟨b, n, c, B, rfl, rfl, hbs, hnb, hrd, hBl, hov, hpc, hpm⟩ := hrel
    obtain ⟨c0, c1, c2, c3, c4, c5, c6⟩ := c
    cases gk with
    | zero => exact absurd hrd.out (by simp [refReadF])
    | succ m =>
    have hres := hov.heap HRES.out
    have hpc2 := hpc.out
    have r0 : wr.cell? ⟨w.heap.size, 0, none⟩ = some (.int .i64 0) := cell_of_heap hres 0
    have rf0 := frozen_of_heap hres 0
    have r1 : wr.cell? ⟨w.heap.size, 1, none⟩ = some (.int .i64 0) := cell_of_heap hres 1
    have rf1 := frozen_of_heap hres 1
    have r2 : wr.cell? ⟨w.heap.size, 2, none⟩ = some (.int .i64 0) := cell_of_heap hres 2
    have rf2 := frozen_of_heap hres 2
    have r3 : wr.cell? ⟨w.heap.size, 3, none⟩ = some (.int .i64 0) := cell_of_heap hres 3
    have rf3 := frozen_of_heap hres 3
    have r4 : wr.cell? ⟨w.heap.size, 4, none⟩ = some (.int .i64 0) := cell_of_heap hres 4
    have rf4 := frozen_of_heap hres 4
    have r5 : wr.cell? ⟨w.heap.size, 5, none⟩ = some (.int .i64 0) := cell_of_heap hres 5
    have rf5 := frozen_of_heap hres 5
    have r6 : wr.cell? ⟨w.heap.size, 6, none⟩ = some (.bool false) := cell_of_heap hres 6
    have rf6 := frozen_of_heap hres 6
    have q0 : wr.cell? ⟨w1.heap.size, 0, none⟩ = some (.int .i64 c0) := cell_of_heap hpc2 0
    have qf0 := frozen_of_heap hpc2 0
    have q1 : wr.cell? ⟨w1.heap.size, 1, none⟩ = some (.int .i64 c1) := cell_of_heap hpc2 1
    have qf1 := frozen_of_heap hpc2 1
    have q2 : wr.cell? ⟨w1.heap.size, 2, none⟩ = some (.int .i64 c2) := cell_of_heap hpc2 2
    have qf2 := frozen_of_heap hpc2 2
    have q3 : wr.cell? ⟨w1.heap.size, 3, none⟩ = some (.int .i64 c3) := cell_of_heap hpc2 3
    have qf3 := frozen_of_heap hpc2 3
    have q4 : wr.cell? ⟨w1.heap.size, 4, none⟩ = some (.int .i64 c4) := cell_of_heap hpc2 4
    have qf4 := frozen_of_heap hpc2 4
    have q5 : wr.cell? ⟨w1.heap.size, 5, none⟩ = some (.int .i64 c5) := cell_of_heap hpc2 5
    have qf5 := frozen_of_heap hpc2 5
    have q6 : wr.cell? ⟨w1.heap.size, 6, none⟩ = some (.bool c6) := cell_of_heap hpc2 6
    have qf6 := frozen_of_heap hpc2 6
    have hNr : w1.heap.size + 1 < wr.heap.size := lt_of_heap hpm.out
    have hNr0 : w1.heap.size < wr.heap.size := by omega
    have hNrw : w.heap.size < wr.heap.size := by omega
    clear hres hpc2
    by_cases hb0 : b.toList = []
    · have hb0b : (b.toList == []) = true := by simpa using hb0
      have HRR : Hid (r = (⟨c0, c1, c2, c3, c4, c5, c6⟩, 0, 0)) := Lib.hid (by
        have := hrd.out
        simp only [refReadF] at this
        rw [if_pos (by rw [← ByteArray.toList_eq]; exact hb0)] at this
        exact (Option.some.inj this).symm)
      go_wp2_with fail
      exact bodyPost_ret (v := .tuple #[.agg #[.int .i64 c0, .int .i64 c1, .int .i64 c2, .int .i64 c3, .int .i64 c4, .int .i64 c5, .bool c6], .int .i64 0, .int .i64 0]) (by simp [results, Tryd.results8, go_sem, ↓IntWalk.iteOmega, r0, r1, r2, r3, r4, r5, r6]) rfl ⟨by rw [HRR.out]; rfl, (IsOv.setCellB (IsOv.setCellB (IsOv.setCellB (IsOv.setCellB (IsOv.setCellB (IsOv.setCellB (IsOv.setCellB (hovw.trans hov) (Nat.le_refl _) 0 (.int .i64 c0)) (Nat.le_refl _) 1 (.int .i64 c1)) (Nat.le_refl _) 2 (.int .i64 c2)) (Nat.le_refl _) 3 (.int .i64 c3)) (Nat.le_refl _) 4 (.int .i64 c4)) (Nat.le_refl _) 5 (.int .i64 c5)) (Nat.le_refl _) 6 (.bool c6))⟩
    · have hb0b : (b.toList == []) = false := by simpa using hb0
      have hbl : ¬ b.data.toList = [] := by rw [← ByteArray.toList_eq]; exact hb0
      have hrd2 := hrd.out
      simp only [refReadF] at hrd2
      rw [if_neg hbl] at hrd2
      obtain ⟨ha1, ha2, ha3, ha4⟩ := cut1_at 10 b.data.toList
      have ha5 := cut1_not 10 b.data.toList
      have hbz : b.data.toList.length = b.size := Array.length_toList
      generalize hln0 : (cut1 10 b.data.toList).1 = ln at *
      generalize hp : ln.length = p at *
      have hlnb : (⟨ln.toArray⟩ : ByteArray) = b.extract 0 p := by
        apply ByteArray.ext
        apply Array.ext'
        rw [extract_take]; exact ha1
      rw [hlnb] at hrd2
      have hlr := line_rel ⟨c0, c1, c2, c3, c4, c5, c6⟩ (b.extract 0 p) []
      have HRD := Lib.hid hrd2
      have HA4 := Lib.hid ha4
      have HA3 := Lib.hid ha3
      have HA5 := Lib.hid ha5
      have HLR := Lib.hid hlr
      rw [hbz] at ha2
      clear hrd2 ha1 ha3 ha4 ha5 hln0 hp hlnb hlr hrd hb0 hbl
      go_wp2_with fail
      go_loopw [8] (fun kv w' => ∃ k : Nat, kv = .int .i64 (k : Int) ∧ k ≤ p ∧ w' = wr) (fun kv w' => p - (intOf kv).toNat)
      case atStart => exact ⟨0, rfl, Nat.zero_le _, rfl⟩
      case round =>
        obtain ⟨k, rfl, hk, rfl⟩ := hrel
        by_cases hkp : k < p
        · obtain ⟨x, hx1, hx2⟩ := HA5.out k hkp
          obtain ⟨hki, hx3⟩ := bt_of hx1
          have hne : (((b[k]'hki).toNat : Int) != 10) = true := by
            rw [hx3, bne_iff_ne]
            intro e
            exact hx2 (UInt8.toNat_inj.1 (by
              have : x.toNat = 10 := by omega
              exact this))
          clear hx1 hx2 hx3
          go_wp2_with fail
          go_roundw
          case rel => exact ⟨k + 1, by go_num, by omega, trivial⟩
          case measure => simp [intOf]; omega
        · obtain rfl : k = p := by omega
          have hCB : CB w1 w1.heap.size c0 c1 c2 c3 c4 c5 c6 wr := ⟨hov, q0, q1, q2, q3, q4, q5, q6⟩
          have hsz := ByteArray.size_extract (a := b) (b := 0) (e := k)
          have hez : (b.extract 0 k).size ≤ 65536 := by omega
          generalize hq : lineR ⟨c0, c1, c2, c3, c4, c5, c6⟩ (b.extract 0 k) = q at *
          have HQ := Lib.hid hq
          clear hq hsz
          obtain ⟨⟨d0, d1, d2, d3, d4, d5, d6⟩, which, le⟩ := q
          by_cases hkz : k = b.size
          · have HRR : Hid (r = (Cfg.zero, n, 220)) := Lib.hid (by
              have := HRD.out
              rw [if_pos (.inl (HA3.out.2 (by rw [hbz]; exact hkz)))] at this
              exact (Option.some.inj this).symm)
            have hbe : b.extract 0 k = b := by rw [hkz]; exact ByteArray.extract_zero_size
            rw [hbe] at HQ
            clear HRD HLR hbe
            go_wp2_with fail
            go_region_held3 (fun w' => CB w1 w1.heap.size c0 c1 c2 c3 c4 c5 c6 w') (exact CB_isOv hCB (by repeat (first | with_reducible exact IsOv.refl _ | (with_reducible refine IsOv.setCell ?_ ?_ _; rotate_left; (first | exact Nat.le_refl _ | exact Nat.le_add_right _ _ | exact Nat.le_succ _)) | with_reducible apply IsOv.dr | with_reducible apply IsOv.drewN | with_reducible apply IsOv.drew | with_reducible apply IsOv.alloc | with_reducible apply IsOv.ov))) (first | (go_at_call 18; go_loud (refine Calls.mono (refLine_gives _ ⟨c0, c1, c2, c3, c4, c5, c6⟩ b hbs) ?_; rintro e w2 ⟨rfl, x2, rfl⟩; rw [HQ.out]; simp only [Cfg.val, Cfg.cells])))
            · rename_i hS9
              obtain ⟨w9, hW9⟩ := CB_world hS9
              rw [← hW9] at hS9 ⊢
              have hov9 : IsOv wr w9 := by rw [hW9]; exact (by repeat (first | with_reducible exact IsOv.refl _ | (with_reducible refine IsOv.setCell ?_ ?_ _; rotate_left; (first | exact Nat.le_refl _ | exact Nat.le_add_right _ _ | exact Nat.le_succ _)) | with_reducible apply IsOv.dr | with_reducible apply IsOv.drewN | with_reducible apply IsOv.drew | with_reducible apply IsOv.alloc | with_reducible apply IsOv.ov))
              have hd9 : w9.heap[wr.heap.size + x2.blocks.size]? = some (.cells (Cfg.cells ⟨d0, d1, d2, d3, d4, d5, d6⟩) 24) := by rw [hW9]; exact (by have := heap_alloc_new (wr.drew.ov x2) (.cells (Cfg.cells ⟨d0, d1, d2, d3, d4, d5, d6⟩) 24); rw [World.size_ov] at this; exact this)
              have hDz : wr.heap.size + x2.blocks.size < w9.heap.size := lt_of_heap hd9
              have hD1 : w1.heap.size + 1 < wr.heap.size + x2.blocks.size := by omega
              have hres9 := (hov.trans hov9).heap HRES.out
              have hpm9 := hov9.heap hpm.out
              have hpc9 := hov9.heap hpc.out
              have z0 : w9.cell? ⟨w.heap.size, 0, none⟩ = some (.int .i64 0) := cell_of_heap hres9 0
              have zf0 := frozen_of_heap hres9 0
              have z1 : w9.cell? ⟨w.heap.size, 1, none⟩ = some (.int .i64 0) := cell_of_heap hres9 1
              have zf1 := frozen_of_heap hres9 1
              have z2 : w9.cell? ⟨w.heap.size, 2, none⟩ = some (.int .i64 0) := cell_of_heap hres9 2
              have zf2 := frozen_of_heap hres9 2
              have z3 : w9.cell? ⟨w.heap.size, 3, none⟩ = some (.int .i64 0) := cell_of_heap hres9 3
              have zf3 := frozen_of_heap hres9 3
              have z4 : w9.cell? ⟨w.heap.size, 4, none⟩ = some (.int .i64 0) := cell_of_heap hres9 4
              have zf4 := frozen_of_heap hres9 4
              have z5 : w9.cell? ⟨w.heap.size, 5, none⟩ = some (.int .i64 0) := cell_of_heap hres9 5
              have zf5 := frozen_of_heap hres9 5
              have z6 : w9.cell? ⟨w.heap.size, 6, none⟩ = some (.bool false) := cell_of_heap hres9 6
              have zf6 := frozen_of_heap hres9 6
              have HD9 := Lib.hid hd9
              have HPM9 := Lib.hid hpm9
              have HPC9 := Lib.hid hpc9
              have HRES9 := Lib.hid hres9
              clear hd9 hpm9 hpc9 hres9 hW9
              go_wp2_with fail
              exact bodyPost_ret (v := .tuple #[.agg #[.int .i64 0, .int .i64 0, .int .i64 0, .int .i64 0, .int .i64 0, .int .i64 0, .bool false], .int .i64 (n : Int), .int .i64 220]) (by simp [results, Tryd.results8, go_sem, ↓IntWalk.iteOmega, z0, z1, z2, z3, z4, z5, z6]) rfl ⟨by rw [HRR.out]; rfl, (IsOv.setCellB (IsOv.setCellB (IsOv.setCellB (IsOv.setCellB (IsOv.setCellB (IsOv.setCellB (IsOv.setCellB (hovw.trans (hov.trans hov9)) (Nat.le_refl _) 0 (.int .i64 0)) (Nat.le_refl _) 1 (.int .i64 0)) (Nat.le_refl _) 2 (.int .i64 0)) (Nat.le_refl _) 3 (.int .i64 0)) (Nat.le_refl _) 4 (.int .i64 0)) (Nat.le_refl _) 5 (.int .i64 0)) (Nat.le_refl _) 6 (.bool false))⟩
            · rename_i hS9
              obtain ⟨w9, hW9⟩ := CB_world hS9
              rw [← hW9] at hS9 ⊢
              have hov9 : IsOv wr w9 := by rw [hW9]; exact (by repeat (first | with_reducible exact IsOv.refl _ | (with_reducible refine IsOv.setCell ?_ ?_ _; rotate_left; (first | exact Nat.le_refl _ | exact Nat.le_add_right _ _ | exact Nat.le_succ _)) | with_reducible apply IsOv.dr | with_reducible apply IsOv.drewN | with_reducible apply IsOv.drew | with_reducible apply IsOv.alloc | with_reducible apply IsOv.ov))
              have hd9 : w9.heap[wr.heap.size]? = some (.cells (Cfg.cells ⟨d0, d1, d2, d3, d4, d5, d6⟩) 24) := by rw [hW9]; exact heap_setCell_self (heap_setCell_self (heap_setCell_self (heap_setCell_self (heap_setCell_self (heap_setCell_self (heap_setCell_self (IsOv.heap (w := wr.alloc (.cells #[.int .i64 0, .int .i64 0, .int .i64 0, .int .i64 0, .int .i64 0, .int .i64 0, .bool false] 24)) (by repeat (first | with_reducible exact IsOv.refl _ | with_reducible apply IsOv.dr | with_reducible apply IsOv.drewN | with_reducible apply IsOv.drew | with_reducible apply IsOv.alloc | with_reducible apply IsOv.ov)) (heap_alloc_new wr _)) (.int .i64 d0)) (.int .i64 d1)) (.int .i64 d2)) (.int .i64 d3)) (.int .i64 d4)) (.int .i64 d5)) (.bool d6)
              have hDz : wr.heap.size < w9.heap.size := lt_of_heap hd9
              have hD1 : w1.heap.size + 1 < wr.heap.size := by omega
              have hres9 := (hov.trans hov9).heap HRES.out
              have hpm9 := hov9.heap hpm.out
              have hpc9 := hov9.heap hpc.out
              have z0 : w9.cell? ⟨w.heap.size, 0, none⟩ = some (.int .i64 0) := cell_of_heap hres9 0
              have zf0 := frozen_of_heap hres9 0
              have z1 : w9.cell? ⟨w.heap.size, 1, none⟩ = some (.int .i64 0) := cell_of_heap hres9 1
              have zf1 := frozen_of_heap hres9 1
              have z2 : w9.cell? ⟨w.heap.size, 2, none⟩ = some (.int .i64 0) := cell_of_heap hres9 2
              have zf2 := frozen_of_heap hres9 2
              have z3 : w9.cell? ⟨w.heap.size, 3, none⟩ = some (.int .i64 0) := cell_of_heap hres9 3
              have zf3 := frozen_of_heap hres9 3
              have z4 : w9.cell? ⟨w.heap.size, 4, none⟩ = some (.int .i64 0) := cell_of_heap hres9 4
              have zf4 := frozen_of_heap hres9 4
              have z5 : w9.cell? ⟨w.heap.size, 5, none⟩ = some (.int .i64 0) := cell_of_heap hres9 5
              have zf5 := frozen_of_heap hres9 5
              have z6 : w9.cell? ⟨w.heap.size, 6, none⟩ = some (.bool false) := cell_of_heap hres9 6
              have zf6 := frozen_of_heap hres9 6
              have HD9 := Lib.hid hd9
              have HPM9 := Lib.hid hpm9
              have HPC9 := Lib.hid hpc9
              have HRES9 := Lib.hid hres9
              clear hd9 hpm9 hpc9 hres9 hW9
              go_wp2_with fail
              exact bodyPost_ret (v := .tuple #[.agg #[.int .i64 0, .int .i64 0, .int .i64 0, .int .i64 0, .int .i64 0, .int .i64 0, .bool false], .int .i64 (n : Int), .int .i64 220]) (by simp [results, Tryd.results8, go_sem, ↓IntWalk.iteOmega, z0, z1, z2, z3, z4, z5, z6]) rfl ⟨by rw [HRR.out]; rfl, (IsOv.setCellB (IsOv.setCellB (IsOv.setCellB (IsOv.setCellB (IsOv.setCellB (IsOv.setCellB (IsOv.setCellB (hovw.trans (hov.trans hov9)) (Nat.le_refl _) 0 (.int .i64 0)) (Nat.le_refl _) 1 (.int .i64 0)) (Nat.le_refl _) 2 (.int .i64 0)) (Nat.le_refl _) 3 (.int .i64 0)) (Nat.le_refl _) 4 (.int .i64 0)) (Nat.le_refl _) 5 (.int .i64 0)) (Nat.le_refl _) 6 (.bool false))⟩
          · have hkz2 : k < b.size := by omega
            have hnum : (cut1 10 b.data.toList).2.2 = true := by
              cases h : (cut1 10 b.data.toList).2.2
              · exact absurd (HA3.out.1 h) (by omega)
              · rfl
            obtain ⟨hx1, hx2⟩ := HA4.out hnum
            obtain ⟨hki, hx3⟩ := bt_of hx1
            have hne : (((b[k]'hki).toNat : Int) != 10) = false := by rw [hx3]; rfl
            have hdr : (b.extract (k + 1) b.size).data.toList = (cut1 10 b.data.toList).2.1 := by rw [extract_drop, hx2]
            have hrd3 := HRD.out
            rw [hnum, ← hdr] at hrd3
            simp only [Bool.true_eq_false, false_or] at hrd3
            have HRDB := Lib.hid hrd3
            clear hrd3 HRD hx1 hx2 hx3 hdr hnum HA3 HA4
            go_wp2_with fail
            go_region_held3 (fun w' => CB w1 w1.heap.size c0 c1 c2 c3 c4 c5 c6 w') (exact CB_isOv hCB (by repeat (first | with_reducible exact IsOv.refl _ | (with_reducible refine IsOv.setCell ?_ ?_ _; rotate_left; (first | exact Nat.le_refl _ | exact Nat.le_add_right _ _ | exact Nat.le_succ _)) | with_reducible apply IsOv.dr | with_reducible apply IsOv.drewN | with_reducible apply IsOv.drew | with_reducible apply IsOv.alloc | with_reducible apply IsOv.ov))) (first | (go_at_call 18; go_loud (refine Calls.mono (refLine_gives _ ⟨c0, c1, c2, c3, c4, c5, c6⟩ (b.extract 0 k) hez) ?_; rintro e w2 ⟨rfl, x2, rfl⟩; rw [HQ.out]; simp only [Cfg.val, Cfg.cells])))
            · rename_i hS9
              obtain ⟨w9, hW9⟩ := CB_world hS9
              rw [← hW9] at hS9 ⊢
              have hov9 : IsOv wr w9 := by rw [hW9]; exact (by repeat (first | with_reducible exact IsOv.refl _ | (with_reducible refine IsOv.setCell ?_ ?_ _; rotate_left; (first | exact Nat.le_refl _ | exact Nat.le_add_right _ _ | exact Nat.le_succ _)) | with_reducible apply IsOv.dr | with_reducible apply IsOv.drewN | with_reducible apply IsOv.drew | with_reducible apply IsOv.alloc | with_reducible apply IsOv.ov))
              have hd9 : w9.heap[wr.heap.size + x2.blocks.size]? = some (.cells (Cfg.cells ⟨d0, d1, d2, d3, d4, d5, d6⟩) 24) := by rw [hW9]; exact (by have := heap_alloc_new (wr.drew.ov x2) (.cells (Cfg.cells ⟨d0, d1, d2, d3, d4, d5, d6⟩) 24); rw [World.size_ov] at this; exact this)
              have hDz : wr.heap.size + x2.blocks.size < w9.heap.size := lt_of_heap hd9
              have hD1 : w1.heap.size + 1 < wr.heap.size + x2.blocks.size := by omega
              have hres9 := (hov.trans hov9).heap HRES.out
              have hpm9 := hov9.heap hpm.out
              have hpc9 := hov9.heap hpc.out
              have z0 : w9.cell? ⟨w.heap.size, 0, none⟩ = some (.int .i64 0) := cell_of_heap hres9 0
              have zf0 := frozen_of_heap hres9 0
              have z1 : w9.cell? ⟨w.heap.size, 1, none⟩ = some (.int .i64 0) := cell_of_heap hres9 1
              have zf1 := frozen_of_heap hres9 1
              have z2 : w9.cell? ⟨w.heap.size, 2, none⟩ = some (.int .i64 0) := cell_of_heap hres9 2
              have zf2 := frozen_of_heap hres9 2
              have z3 : w9.cell? ⟨w.heap.size, 3, none⟩ = some (.int .i64 0) := cell_of_heap hres9 3
              have zf3 := frozen_of_heap hres9 3
              have z4 : w9.cell? ⟨w.heap.size, 4, none⟩ = some (.int .i64 0) := cell_of_heap hres9 4
              have zf4 := frozen_of_heap hres9 4
              have z5 : w9.cell? ⟨w.heap.size, 5, none⟩ = some (.int .i64 0) := cell_of_heap hres9 5
              have zf5 := frozen_of_heap hres9 5
              have z6 : w9.cell? ⟨w.heap.size, 6, none⟩ = some (.bool false) := cell_of_heap hres9 6
              have zf6 := frozen_of_heap hres9 6
              have HD9 := Lib.hid hd9
              have HPM9 := Lib.hid hpm9
              have HPC9 := Lib.hid hpc9
              have HRES9 := Lib.hid hres9
              clear hd9 hpm9 hpc9 hres9 hW9
              rcases HLR.out.2 with ⟨hwh, hle, hdc⟩ | ⟨k7, hk7, hwh, _, hle⟩
              · have HRR : Hid (r = (Cfg.zero, n, 220)) := Lib.hid (by
                  have := HRDB.out
                  rw [hwh, hle, if_neg (by rintro ⟨h, _⟩; exact absurd h (by decide)), if_neg (by decide)] at this
                  exact (Option.some.inj this).symm)
                try simp only at hwh hle
                subst hwh hle
                go_wp2_with fail
                exact bodyPost_ret (v := .tuple #[.agg #[.int .i64 0, .int .i64 0, .int .i64 0, .int .i64 0, .int .i64 0, .int .i64 0, .bool false], .int .i64 (n : Int), .int .i64 220]) (by simp [results, Tryd.results8, go_sem, ↓IntWalk.iteOmega, z0, z1, z2, z3, z4, z5, z6]) rfl ⟨by rw [HRR.out]; rfl, (IsOv.setCellB (IsOv.setCellB (IsOv.setCellB (IsOv.setCellB (IsOv.setCellB (IsOv.setCellB (IsOv.setCellB (hovw.trans (hov.trans hov9)) (Nat.le_refl _) 0 (.int .i64 0)) (Nat.le_refl _) 1 (.int .i64 0)) (Nat.le_refl _) 2 (.int .i64 0)) (Nat.le_refl _) 3 (.int .i64 0)) (Nat.le_refl _) 4 (.int .i64 0)) (Nat.le_refl _) 5 (.int .i64 0)) (Nat.le_refl _) 6 (.bool false))⟩
              · try simp only at hwh hle
                subst hwh
                have hs7 : w9.cell? ⟨w1.heap.size + 1, k7, none⟩ = some (.bool (B.getD k7 false)) := by rw [cell_of_heap HPM9.out]; exact boolCells_at (by omega)
                have hf7 : w9.frozen? ⟨w1.heap.size + 1, k7, none⟩ = false := frozen_of_heap HPM9.out k7
                have hk70 : (0 : Int) ≤ (k7 : Int) := Int.natCast_nonneg _
                have hk71 : (k7 : Int) < 7 := by omega
                cases hsb : B.getD k7 false
                · rw [hsb] at hs7
                  rcases hle with rfl | ⟨rfl, _⟩
                  · have HR5 : Hid (refReadF m ⟨d0, d1, d2, d3, d4, d5, d6⟩ (B.set k7 true) (n + 1) (b.extract (k + 1) b.size).data.toList = some r) := Lib.hid (by
                      have := HRDB.out
                      rw [if_neg (by rintro ⟨_, h⟩; rw [Int.toNat_natCast, hsb] at h; cases h), if_pos rfl] at this
                      exact this)
                    clear hsb
                    have hneNS : w1.heap.size + 1 ≠ w1.heap.size := by omega
                    have hneDS : (wr.heap.size + x2.blocks.size : Nat) ≠ w1.heap.size + 1 := by omega
                    have hneND : w1.heap.size ≠ (wr.heap.size + x2.blocks.size : Nat) := by omega
                    have hov15 : IsOv w1 (w9.setCell ⟨w1.heap.size + 1, k7, none⟩ (.bool true)) := (hov.trans hov9).setCell (p := ⟨w1.heap.size + 1, k7, none⟩) (Nat.le_succ _) _
                    have hN15 : (w9.setCell ⟨w1.heap.size + 1, k7, none⟩ (.bool true)).heap[w1.heap.size]? = some (.cells (Cfg.cells ⟨c0, c1, c2, c3, c4, c5, c6⟩) 24) := (heap_setCell_ne (Ne.symm hneNS) _).trans HPC9.out
                    have hD15 : (w9.setCell ⟨w1.heap.size + 1, k7, none⟩ (.bool true)).heap[(wr.heap.size + x2.blocks.size : Nat)]? = some (.cells (Cfg.cells ⟨d0, d1, d2, d3, d4, d5, d6⟩) 24) := (heap_setCell_ne hneDS _).trans HD9.out
                    have hS15 : (w9.setCell ⟨w1.heap.size + 1, k7, none⟩ (.bool true)).heap[w1.heap.size + 1]? = some (.cells (boolCells (B.set k7 true)) 46) := by
                      rw [← boolCells_set]; exact heap_setCell_self HPM9.out _
                    have hCD : CB w1 (wr.heap.size + x2.blocks.size : Nat) d0 d1 d2 d3 d4 d5 d6 (w9.setCell ⟨w1.heap.size + 1, k7, none⟩ (.bool true)) := CB_heap hov15 hD15
                    have hN15b : (w9.setCell ⟨w1.heap.size + 1, k7, none⟩ (.bool true)).heap[w1.heap.size]? = some (.cells (Cfg.cells ⟨c0, c1, c2, c3, c4, c5, c6⟩) 24) := hN15
                    have yf0 := frozen_of_heap hN15b 0
                    have ya0 : (w9.setCell ⟨w1.heap.size + 1, k7, none⟩ (.bool true)).cell? ⟨w1.heap.size, 0, none⟩ = some (.int .i64 c0) := cell_of_heap hN15b 0
                    have yf1 := frozen_of_heap hN15b 1
                    have ya1 : (w9.setCell ⟨w1.heap.size + 1, k7, none⟩ (.bool true)).cell? ⟨w1.heap.size, 1, none⟩ = some (.int .i64 c1) := cell_of_heap hN15b 1
                    have yf2 := frozen_of_heap hN15b 2
                    have ya2 : (w9.setCell ⟨w1.heap.size + 1, k7, none⟩ (.bool true)).cell? ⟨w1.heap.size, 2, none⟩ = some (.int .i64 c2) := cell_of_heap hN15b 2
                    have yf3 := frozen_of_heap hN15b 3
                    have ya3 : (w9.setCell ⟨w1.heap.size + 1, k7, none⟩ (.bool true)).cell? ⟨w1.heap.size, 3, none⟩ = some (.int .i64 c3) := cell_of_heap hN15b 3
                    have yf4 := frozen_of_heap hN15b 4
                    have ya4 : (w9.setCell ⟨w1.heap.size + 1, k7, none⟩ (.bool true)).cell? ⟨w1.heap.size, 4, none⟩ = some (.int .i64 c4) := cell_of_heap hN15b 4
                    have yf5 := frozen_of_heap hN15b 5
                    have ya5 : (w9.setCell ⟨w1.heap.size + 1, k7, none⟩ (.bool true)).cell? ⟨w1.heap.size, 5, none⟩ = some (.int .i64 c5) := cell_of_heap hN15b 5
                    have yf6 := frozen_of_heap hN15b 6
                    have ya6 : (w9.setCell ⟨w1.heap.size + 1, k7, none⟩ (.bool true)).cell? ⟨w1.heap.size, 6, none⟩ = some (.bool c6) := cell_of_heap hN15b 6
                    have HN15 := Lib.hid hN15
                    have HS15 := Lib.hid hS15
                    clear hN15 hN15b hD15 hS15 hCB
                    have hex : (b.extract (k + 1) b.size).size = b.size - (k + 1) := by rw [ByteArray.size_extract]; omega
                    have hk1a : (0 : Int) ≤ (k : Int) + 1 := by omega
                    have hk1b : (k : Int) + 1 ≤ (b.size : Int) := by omega
                    have hkw : IntKind.i64.wrap ((k : Int) + 1) = (k : Int) + 1 := by rw [IntKind.wrap_i64]; omega
                    go_wp2_with fail
                    generalize (w9.setCell ⟨w1.heap.size + 1, k7, none⟩ (.bool true)) = w15 at *
                    go_region_held3 (fun w' => CB w1 (wr.heap.size + x2.blocks.size : Nat) d0 d1 d2 d3 d4 d5 d6 w') (((repeat (first | with_reducible refine CB_drew ?_ | with_reducible refine CB_set ?_ hneND (Nat.le_refl _))); exact CB_isOv hCD (by repeat (first | with_reducible exact IsOv.refl _ | with_reducible apply IsOv.dr | with_reducible apply IsOv.drewN | with_reducible apply IsOv.drew | with_reducible apply IsOv.alloc | with_reducible apply IsOv.ov)))) (fail)
                    go_wp2_with fail
                    go_roundg m
                    case rel => exact ⟨b.extract (k + 1) b.size, n + 1, ⟨d0, d1, d2, d3, d4, d5, d6⟩, B.set k7 true, rfl, by go_num, by omega, by omega, HR5, by simp [hBl], IsOv.drew (set7_isOv (d := ⟨d0, d1, d2, d3, d4, d5, d6⟩) hov15 (Nat.le_refl _)), Lib.hid (set7_selfD (d := ⟨d0, d1, d2, d3, d4, d5, d6⟩) HN15.out), Lib.hid (set7_neD (d := ⟨d0, d1, d2, d3, d4, d5, d6⟩) hneNS HS15.out)⟩
                    case measure => omega
                  · have HRR : Hid (r = (Cfg.zero, n, 221)) := Lib.hid (by
                      have := HRDB.out
                      rw [if_neg (by rintro ⟨_, h⟩; rw [Int.toNat_natCast, hsb] at h; cases h), if_neg (by decide)] at this
                      exact (Option.some.inj this).symm)
                    clear hsb
                    go_wp2_with fail
                    exact bodyPost_ret (v := .tuple #[.agg #[.int .i64 0, .int .i64 0, .int .i64 0, .int .i64 0, .int .i64 0, .int .i64 0, .bool false], .int .i64 (n : Int), .int .i64 221]) (by simp [results, Tryd.results8, go_sem, ↓IntWalk.iteOmega, z0, z1, z2, z3, z4, z5, z6]) rfl ⟨by rw [HRR.out]; rfl, (IsOv.setCellB (IsOv.setCellB (IsOv.setCellB (IsOv.setCellB (IsOv.setCellB (IsOv.setCellB (IsOv.setCellB (hovw.trans (hov.trans hov9)) (Nat.le_refl _) 0 (.int .i64 0)) (Nat.le_refl _) 1 (.int .i64 0)) (Nat.le_refl _) 2 (.int .i64 0)) (Nat.le_refl _) 3 (.int .i64 0)) (Nat.le_refl _) 4 (.int .i64 0)) (Nat.le_refl _) 5 (.int .i64 0)) (Nat.le_refl _) 6 (.bool false))⟩
                · rw [hsb] at hs7
                  have HRR : Hid (r = (Cfg.zero, n, 220)) := Lib.hid (by
                    have := HRDB.out
                    rw [if_pos ⟨Int.natCast_nonneg _, by rw [Int.toNat_natCast]; exact hsb⟩] at this
                    exact (Option.some.inj this).symm)
                  clear hsb
                  rcases hle with rfl | ⟨rfl, _⟩
                  · go_wp2_with fail
                    exact bodyPost_ret (v := .tuple #[.agg #[.int .i64 0, .int .i64 0, .int .i64 0, .int .i64 0, .int .i64 0, .int .i64 0, .bool false], .int .i64 (n : Int), .int .i64 220]) (by simp [results, Tryd.results8, go_sem, ↓IntWalk.iteOmega, z0, z1, z2, z3, z4, z5, z6]) rfl ⟨by rw [HRR.out]; rfl, (IsOv.setCellB (IsOv.setCellB (IsOv.setCellB (IsOv.setCellB (IsOv.setCellB (IsOv.setCellB (IsOv.setCellB (hovw.trans (hov.trans hov9)) (Nat.le_refl _) 0 (.int .i64 0)) (Nat.le_refl _) 1 (.int .i64 0)) (Nat.le_refl _) 2 (.int .i64 0)) (Nat.le_refl _) 3 (.int .i64 0)) (Nat.le_refl _) 4 (.int .i64 0)) (Nat.le_refl _) 5 (.int .i64 0)) (Nat.le_refl _) 6 (.bool false))⟩
                  · go_wp2_with fail
                    exact bodyPost_ret (v := .tuple #[.agg #[.int .i64 0, .int .i64 0, .int .i64 0, .int .i64 0, .int .i64 0, .int .i64 0, .bool false], .int .i64 (n : Int), .int .i64 220]) (by simp [results, Tryd.results8, go_sem, ↓IntWalk.iteOmega, z0, z1, z2, z3, z4, z5, z6]) rfl ⟨by rw [HRR.out]; rfl, (IsOv.setCellB (IsOv.setCellB (IsOv.setCellB (IsOv.setCellB (IsOv.setCellB (IsOv.setCellB (IsOv.setCellB (hovw.trans (hov.trans hov9)) (Nat.le_refl _) 0 (.int .i64 0)) (Nat.le_refl _) 1 (.int .i64 0)) (Nat.le_refl _) 2 (.int .i64 0)) (Nat.le_refl _) 3 (.int .i64 0)) (Nat.le_refl _) 4 (.int .i64 0)) (Nat.le_refl _) 5 (.int .i64 0)) (Nat.le_refl _) 6 (.bool false))⟩
            · rename_i hS9
              obtain ⟨w9, hW9⟩ := CB_world hS9
              rw [← hW9] at hS9 ⊢
              have hov9 : IsOv wr w9 := by rw [hW9]; exact (by repeat (first | with_reducible exact IsOv.refl _ | (with_reducible refine IsOv.setCell ?_ ?_ _; rotate_left; (first | exact Nat.le_refl _ | exact Nat.le_add_right _ _ | exact Nat.le_succ _)) | with_reducible apply IsOv.dr | with_reducible apply IsOv.drewN | with_reducible apply IsOv.drew | with_reducible apply IsOv.alloc | with_reducible apply IsOv.ov))
              have hd9 : w9.heap[wr.heap.size]? = some (.cells (Cfg.cells ⟨d0, d1, d2, d3, d4, d5, d6⟩) 24) := by rw [hW9]; exact heap_setCell_self (heap_setCell_self (heap_setCell_self (heap_setCell_self (heap_setCell_self (heap_setCell_self (heap_setCell_self (IsOv.heap (w := wr.alloc (.cells #[.int .i64 0, .int .i64 0, .int .i64 0, .int .i64 0, .int .i64 0, .int .i64 0, .bool false] 24)) (by repeat (first | with_reducible exact IsOv.refl _ | with_reducible apply IsOv.dr | with_reducible apply IsOv.drewN | with_reducible apply IsOv.drew | with_reducible apply IsOv.alloc | with_reducible apply IsOv.ov)) (heap_alloc_new wr _)) (.int .i64 d0)) (.int .i64 d1)) (.int .i64 d2)) (.int .i64 d3)) (.int .i64 d4)) (.int .i64 d5)) (.bool d6)
              have hDz : wr.heap.size < w9.heap.size := lt_of_heap hd9
              have hD1 : w1.heap.size + 1 < wr.heap.size := by omega
              have hres9 := (hov.trans hov9).heap HRES.out
              have hpm9 := hov9.heap hpm.out
              have hpc9 := hov9.heap hpc.out
              have z0 : w9.cell? ⟨w.heap.size, 0, none⟩ = some (.int .i64 0) := cell_of_heap hres9 0
              have zf0 := frozen_of_heap hres9 0
              have z1 : w9.cell? ⟨w.heap.size, 1, none⟩ = some (.int .i64 0) := cell_of_heap hres9 1
              have zf1 := frozen_of_heap hres9 1
              have z2 : w9.cell? ⟨w.heap.size, 2, none⟩ = some (.int .i64 0) := cell_of_heap hres9 2
              have zf2 := frozen_of_heap hres9 2
              have z3 : w9.cell? ⟨w.heap.size, 3, none⟩ = some (.int .i64 0) := cell_of_heap hres9 3
              have zf3 := frozen_of_heap hres9 3
              have z4 : w9.cell? ⟨w.heap.size, 4, none⟩ = some (.int .i64 0) := cell_of_heap hres9 4
              have zf4 := frozen_of_heap hres9 4
              have z5 : w9.cell? ⟨w.heap.size, 5, none⟩ = some (.int .i64 0) := cell_of_heap hres9 5
              have zf5 := frozen_of_heap hres9 5
              have z6 : w9.cell? ⟨w.heap.size, 6, none⟩ = some (.bool false) := cell_of_heap hres9 6
              have zf6 := frozen_of_heap hres9 6
              have HD9 := Lib.hid hd9
              have HPM9 := Lib.hid hpm9
              have HPC9 := Lib.hid hpc9
              have HRES9 := Lib.hid hres9
              clear hd9 hpm9 hpc9 hres9 hW9
              rcases HLR.out.2 with ⟨hwh, hle, hdc⟩ | ⟨k7, hk7, hwh, _, hle⟩
              · have HRR : Hid (r = (Cfg.zero, n, 220)) := Lib.hid (by
                  have := HRDB.out
                  rw [hwh, hle, if_neg (by rintro ⟨h, _⟩; exact absurd h (by decide)), if_neg (by decide)] at this
                  exact (Option.some.inj this).symm)
                try simp only at hwh hle
                subst hwh hle
                go_wp2_with fail
                exact bodyPost_ret (v := .tuple #[.agg #[.int .i64 0, .int .i64 0, .int .i64 0, .int .i64 0, .int .i64 0, .int .i64 0, .bool false], .int .i64 (n : Int), .int .i64 220]) (by simp [results, Tryd.results8, go_sem, ↓IntWalk.iteOmega, z0, z1, z2, z3, z4, z5, z6]) rfl ⟨by rw [HRR.out]; rfl, (IsOv.setCellB (IsOv.setCellB (IsOv.setCellB (IsOv.setCellB (IsOv.setCellB (IsOv.setCellB (IsOv.setCellB (hovw.trans (hov.trans hov9)) (Nat.le_refl _) 0 (.int .i64 0)) (Nat.le_refl _) 1 (.int .i64 0)) (Nat.le_refl _) 2 (.int .i64 0)) (Nat.le_refl _) 3 (.int .i64 0)) (Nat.le_refl _) 4 (.int .i64 0)) (Nat.le_refl _) 5 (.int .i64 0)) (Nat.le_refl _) 6 (.bool false))⟩
              · try simp only at hwh hle
                subst hwh
                have hs7 : w9.cell? ⟨w1.heap.size + 1, k7, none⟩ = some (.bool (B.getD k7 false)) := by rw [cell_of_heap HPM9.out]; exact boolCells_at (by omega)
                have hf7 : w9.frozen? ⟨w1.heap.size + 1, k7, none⟩ = false := frozen_of_heap HPM9.out k7
                have hk70 : (0 : Int) ≤ (k7 : Int) := Int.natCast_nonneg _
                have hk71 : (k7 : Int) < 7 := by omega
                cases hsb : B.getD k7 false
                · rw [hsb] at hs7
                  rcases hle with rfl | ⟨rfl, _⟩
                  · have HR5 : Hid (refReadF m ⟨d0, d1, d2, d3, d4, d5, d6⟩ (B.set k7 true) (n + 1) (b.extract (k + 1) b.size).data.toList = some r) := Lib.hid (by
                      have := HRDB.out
                      rw [if_neg (by rintro ⟨_, h⟩; rw [Int.toNat_natCast, hsb] at h; cases h), if_pos rfl] at this
                      exact this)
                    clear hsb
                    have hneNS : w1.heap.size + 1 ≠ w1.heap.size := by omega
                    have hneDS : (wr.heap.size : Nat) ≠ w1.heap.size + 1 := by omega
                    have hneND : w1.heap.size ≠ (wr.heap.size : Nat) := by omega
                    have hov15 : IsOv w1 (w9.setCell ⟨w1.heap.size + 1, k7, none⟩ (.bool true)) := (hov.trans hov9).setCell (p := ⟨w1.heap.size + 1, k7, none⟩) (Nat.le_succ _) _
                    have hN15 : (w9.setCell ⟨w1.heap.size + 1, k7, none⟩ (.bool true)).heap[w1.heap.size]? = some (.cells (Cfg.cells ⟨c0, c1, c2, c3, c4, c5, c6⟩) 24) := (heap_setCell_ne (Ne.symm hneNS) _).trans HPC9.out
                    have hD15 : (w9.setCell ⟨w1.heap.size + 1, k7, none⟩ (.bool true)).heap[(wr.heap.size : Nat)]? = some (.cells (Cfg.cells ⟨d0, d1, d2, d3, d4, d5, d6⟩) 24) := (heap_setCell_ne hneDS _).trans HD9.out
                    have hS15 : (w9.setCell ⟨w1.heap.size + 1, k7, none⟩ (.bool true)).heap[w1.heap.size + 1]? = some (.cells (boolCells (B.set k7 true)) 46) := by
                      rw [← boolCells_set]; exact heap_setCell_self HPM9.out _
                    have hCD : CB w1 (wr.heap.size : Nat) d0 d1 d2 d3 d4 d5 d6 (w9.setCell ⟨w1.heap.size + 1, k7, none⟩ (.bool true)) := CB_heap hov15 hD15
                    have hN15b : (w9.setCell ⟨w1.heap.size + 1, k7, none⟩ (.bool true)).heap[w1.heap.size]? = some (.cells (Cfg.cells ⟨c0, c1, c2, c3, c4, c5, c6⟩) 24) := hN15
                    have yf0 := frozen_of_heap hN15b 0
                    have ya0 : (w9.setCell ⟨w1.heap.size + 1, k7, none⟩ (.bool true)).cell? ⟨w1.heap.size, 0, none⟩ = some (.int .i64 c0) := cell_of_heap hN15b 0
                    have yf1 := frozen_of_heap hN15b 1
                    have ya1 : (w9.setCell ⟨w1.heap.size + 1, k7, none⟩ (.bool true)).cell? ⟨w1.heap.size, 1, none⟩ = some (.int .i64 c1) := cell_of_heap hN15b 1
                    have yf2 := frozen_of_heap hN15b 2
                    have ya2 : (w9.setCell ⟨w1.heap.size + 1, k7, none⟩ (.bool true)).cell? ⟨w1.heap.size, 2, none⟩ = some (.int .i64 c2) := cell_of_heap hN15b 2
                    have yf3 := frozen_of_heap hN15b 3
                    have ya3 : (w9.setCell ⟨w1.heap.size + 1, k7, none⟩ (.bool true)).cell? ⟨w1.heap.size, 3, none⟩ = some (.int .i64 c3) := cell_of_heap hN15b 3
                    have yf4 := frozen_of_heap hN15b 4
                    have ya4 : (w9.setCell ⟨w1.heap.size + 1, k7, none⟩ (.bool true)).cell? ⟨w1.heap.size, 4, none⟩ = some (.int .i64 c4) := cell_of_heap hN15b 4
                    have yf5 := frozen_of_heap hN15b 5
                    have ya5 : (w9.setCell ⟨w1.heap.size + 1, k7, none⟩ (.bool true)).cell? ⟨w1.heap.size, 5, none⟩ = some (.int .i64 c5) := cell_of_heap hN15b 5
                    have yf6 := frozen_of_heap hN15b 6
                    have ya6 : (w9.setCell ⟨w1.heap.size + 1, k7, none⟩ (.bool true)).cell? ⟨w1.heap.size, 6, none⟩ = some (.bool c6) := cell_of_heap hN15b 6
                    have HN15 := Lib.hid hN15
                    have HS15 := Lib.hid hS15
                    clear hN15 hN15b hD15 hS15 hCB
                    have hex : (b.extract (k + 1) b.size).size = b.size - (k + 1) := by rw [ByteArray.size_extract]; omega
                    have hk1a : (0 : Int) ≤ (k : Int) + 1 := by omega
                    have hk1b : (k : Int) + 1 ≤ (b.size : Int) := by omega
                    have hkw : IntKind.i64.wrap ((k : Int) + 1) = (k : Int) + 1 := by rw [IntKind.wrap_i64]; omega
                    go_wp2_with fail
                    generalize (w9.setCell ⟨w1.heap.size + 1, k7, none⟩ (.bool true)) = w15 at *
                    go_region_held3 (fun w' => CB w1 (wr.heap.size : Nat) d0 d1 d2 d3 d4 d5 d6 w') (((repeat (first | with_reducible refine CB_drew ?_ | with_reducible refine CB_set ?_ hneND (Nat.le_refl _))); exact CB_isOv hCD (by repeat (first | with_reducible exact IsOv.refl _ | with_reducible apply IsOv.dr | with_reducible apply IsOv.drewN | with_reducible apply IsOv.drew | with_reducible apply IsOv.alloc | with_reducible apply IsOv.ov)))) (fail)
                    go_wp2_with fail
                    go_roundg m
                    case rel => exact ⟨b.extract (k + 1) b.size, n + 1, ⟨d0, d1, d2, d3, d4, d5, d6⟩, B.set k7 true, rfl, by go_num, by omega, by omega, HR5, by simp [hBl], IsOv.drew (set7_isOv (d := ⟨d0, d1, d2, d3, d4, d5, d6⟩) hov15 (Nat.le_refl _)), Lib.hid (set7_selfD (d := ⟨d0, d1, d2, d3, d4, d5, d6⟩) HN15.out), Lib.hid (set7_neD (d := ⟨d0, d1, d2, d3, d4, d5, d6⟩) hneNS HS15.out)⟩
                    case measure => omega
                  · have HRR : Hid (r = (Cfg.zero, n, 221)) := Lib.hid (by
                      have := HRDB.out
                      rw [if_neg (by rintro ⟨_, h⟩; rw [Int.toNat_natCast, hsb] at h; cases h), if_neg (by decide)] at this
                      exact (Option.some.inj this).symm)
                    clear hsb
                    go_wp2_with fail
                    exact bodyPost_ret (v := .tuple #[.agg #[.int .i64 0, .int .i64 0, .int .i64 0, .int .i64 0, .int .i64 0, .int .i64 0, .bool false], .int .i64 (n : Int), .int .i64 221]) (by simp [results, Tryd.results8, go_sem, ↓IntWalk.iteOmega, z0, z1, z2, z3, z4, z5, z6]) rfl ⟨by rw [HRR.out]; rfl, (IsOv.setCellB (IsOv.setCellB (IsOv.setCellB (IsOv.setCellB (IsOv.setCellB (IsOv.setCellB (IsOv.setCellB (hovw.trans (hov.trans hov9)) (Nat.le_refl _) 0 (.int .i64 0)) (Nat.le_refl _) 1 (.int .i64 0)) (Nat.le_refl _) 2 (.int .i64 0)) (Nat.le_refl _) 3 (.int .i64 0)) (Nat.le_refl _) 4 (.int .i64 0)) (Nat.le_refl _) 5 (.int .i64 0)) (Nat.le_refl _) 6 (.bool false))⟩
                · rw [hsb] at hs7
                  have HRR : Hid (r = (Cfg.zero, n, 220)) := Lib.hid (by
                    have := HRDB.out
                    rw [if_pos ⟨Int.natCast_nonneg _, by rw [Int.toNat_natCast]; exact hsb⟩] at this
                    exact (Option.some.inj this).symm)
                  clear hsb
                  rcases hle with rfl | ⟨rfl, _⟩
                  · go_wp2_with fail
                    exact bodyPost_ret (v := .tuple #[.agg #[.int .i64 0, .int .i64 0, .int .i64 0, .int .i64 0, .int .i64 0, .int .i64 0, .bool false], .int .i64 (n : Int), .int .i64 220]) (by simp [results, Tryd.results8, go_sem, ↓IntWalk.iteOmega, z0, z1, z2, z3, z4, z5, z6]) rfl ⟨by rw [HRR.out]; rfl, (IsOv.setCellB (IsOv.setCellB (IsOv.setCellB (IsOv.setCellB (IsOv.setCellB (IsOv.setCellB (IsOv.setCellB (hovw.trans (hov.trans hov9)) (Nat.le_refl _) 0 (.int .i64 0)) (Nat.le_refl _) 1 (.int .i64 0)) (Nat.le_refl _) 2 (.int .i64 0)) (Nat.le_refl _) 3 (.int .i64 0)) (Nat.le_refl _) 4 (.int .i64 0)) (Nat.le_refl _) 5 (.int .i64 0)) (Nat.le_refl _) 6 (.bool false))⟩
                  · go_wp2_with fail
                    exact bodyPost_ret (v := .tuple #[.agg #[.int .i64 0, .int .i64 0, .int .i64 0, .int .i64 0, .int .i64 0, .int .i64 0, .bool false], .int .i64 (n : Int), .int .i64 220]) (by simp [results, Tryd.results8, go_sem, ↓IntWalk.iteOmega, z0, z1, z2, z3, z4, z5, z6]) rfl ⟨by rw [HRR.out]; rfl, (IsOv.setCellB (IsOv.setCellB (IsOv.setCellB (IsOv.setCellB (IsOv.setCellB (IsOv.setCellB (IsOv.setCellB (hovw.trans (hov.trans hov9)) (Nat.le_refl _) 0 (.int .i64 0)) (Nat.le_refl _) 1 (.int .i64 0)) (Nat.le_refl _) 2 (.int .i64 0)) (Nat.le_refl _) 3 (.int .i64 0)) (Nat.le_refl _) 4 (.int .i64 0)) (Nat.le_refl _) 5 (.int .i64 0)) (Nat.le_refl _) 6 (.bool false))⟩
end Go.Proofs.YtaibjaienhnckaaDoor
