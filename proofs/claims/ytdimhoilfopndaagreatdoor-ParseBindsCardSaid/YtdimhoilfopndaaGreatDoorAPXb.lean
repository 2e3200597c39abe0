/- ParseBinds: the law's function answers true, whatever it is given. Conditions: the tables lie as the program lays them. -/
import Derived.Test.YtdimhoilfopndaaGreatDoorAPX
import Derived.Test.YtdimhoilfopndaaGreatDoorA5
set_option linter.unusedVariables false
set_option linter.unusedSimpArgs false
section
namespace Go.Proofs.YtdimhoilfopndaaGreatDoor
open Go.RowKit Go.Proofs.YtdimhoilfopndaaGreatDoorW.PrintWords
theorem lex_len {s : ByteArray} (hs : s.size ≤ 65536) (he : (lexR s).err = 0) : (lexR s).toks.length ≤ s.size + 1 := by
 obtain ⟨gs, h1, h2, h3⟩ := LX_form _ _ _ rfl ((lexR_list s hs).1 he)
 rw [← size_list] at h3
 have hlen : ∀ gs : List Tk, (∀ g ∈ gs, Good g) → gs.length ≤ ((gs.map (·.text)).map List.length).sum := by
  intro gs
  induction gs with
  | nil => intro _; simp
  | cons a gs ih =>
   intro h
   have := ih fun g hg => h g (List.mem_cons_of_mem _ hg)
   obtain ⟨c, r, hc, _⟩ := (h a (List.mem_cons_self ..)).head
   simp only [List.map_cons, List.sum_cons, List.length_cons]
   rw [hc, List.length_cons]; omega
 have hl := hlen gs h2
 have := congrArg List.length h1
 simp only [List.length_map, List.length_append, List.length_cons, List.length_nil] at this
 omega
theorem any_read (s : ByteArray) : ∃ r, readF 2000000 s = some r := by
 by_cases he : (lexR s).err = 0
 ·
  by_cases hs : s.size ≤ 65536
  ·
   have := lex_len hs he
   exact readF_some 2000000 s (by omega)
  ·
   exfalso
   unfold lexR at he
   rw [if_pos (by omega)] at he
   cases he
 ·
  unfold readF
  rw [if_pos he]; exact ⟨_, rfl⟩
theorem bindSrc_eq (a b : ByteArray) : (⟨#[118, 111, 105, 100, 32, 102, 40, 41, 32, 123, 32, 120, 32, 61, 32, 112, 32]⟩ ++ a ++ ⟨#[32, 113, 32]⟩ ++ b ++ ⟨#[32, 114, 59, 32, 125]⟩ : ByteArray) = bindSrc a.toList b.toList := by
 refine bytesExt ?_
 unfold bindSrc
 simp only [ByteArray.data_append, Array.toList_append, Lib.toList_data, List.append_assoc]
set_option maxRecDepth 20000 in
set_option maxHeartbeats 1600000 in
theorem ParseBinds_gives (a b : ByteArray) (hza : a.size ≤ 140737488351232) (hzb : b.size ≤ 140737488351232) (w : World) (HL0 : LaidP w) : Gives Tryz.prog 5 #[.string a, .string b] w (.bool true) := by
 have HL := hid HL0
 clear HL0
 unfold Gives
 have hz1 : (⟨#[118, 111, 105, 100, 32, 102, 40, 41, 32, 123, 32, 120, 32, 61, 32, 112, 32]⟩ : ByteArray).size = 17 := rfl
 go_enter Tryz.func5, Tryz.ntmps5
 go_wp2_with fail
 refine cmo (Bind_gives a w) ?_
 rintro e9 w1 ⟨rfl, hov1⟩
 have HOV1 := hid hov1
 clear hov1
 go_wp2_with fail
 refine cmo (Bind_gives b _) ?_
 rintro e9 w2 ⟨rfl, hov2⟩
 have HOV2 := hid (HOV1.out.trans hov2)
 clear hov2
 go_wp2_with fail
 have hsrc := bindSrc_eq a b
 generalize hS : (⟨#[118, 111, 105, 100, 32, 102, 40, 41, 32, 123, 32, 120, 32, 61, 32, 112, 32]⟩ ++ a ++ ⟨#[32, 113, 32]⟩ ++ b ++ ⟨#[32, 114, 59, 32, 125]⟩ : ByteArray) = S at *
 have HSRC := hid hsrc
 clear hS hsrc hz1
 by_cases hxy : bindF a ≠ 0 ∧ bindF b ≠ 0
 rotate_left
 ·
  obtain ⟨r, hr⟩ := any_read S
  have HR := hid hr
  clear hr
  refine cmo (Read_calls 2000000 (by omega) _ S r HR.out (HL.out.of_isOv HOV2.out).v (HL.out.of_isOv HOV2.out).ml) ?_
  rintro e9 w3 ⟨hov3, A, cap, rfl, _⟩
  have HOV3 := hid (HOV2.out.trans hov3)
  clear hov3
  unfold nodeV
  go_wp2_with fail
  refine cmo (awake_gives _ (HL.out.of_isOv (HOV3.out.alloc _))) ?_
  rintro e9 w4 ⟨rfl, hov4⟩
  have HOV4 := hid ((HOV3.out.alloc _).trans hov4)
  clear hov4
  cases hx : (bindF a == 0)
  ·
   cases hy : (bindF b == 0)
   ·
    exfalso
    exact hxy ⟨by simpa using hx, by simpa using hy⟩
   ·
    generalize bindF a = x at *
    generalize bindF b = y at *
    go_wp2_with fail
    refine cmo (awake_gives _ (HL.out.of_isOv HOV4.out)) ?_
    rintro e9 w5 ⟨rfl, hov5⟩
    have HOV5 := hid (HOV4.out.trans hov5)
    clear hov5
    go_wp2_with fail
    exact bodyPost_ret (v := .bool true) (by simp [results, Tryz.results5, go_sem, ↓IntWalk.iteOmega]) rfl ⟨rfl, HOV5.out⟩
  ·
   generalize bindF a = x at *
   generalize bindF b = y at *
   go_wp2_with fail
   refine cmo (awake_gives _ (HL.out.of_isOv HOV4.out)) ?_
   rintro e9 w5 ⟨rfl, hov5⟩
   have HOV5 := hid (HOV4.out.trans hov5)
   clear hov5
   go_wp2_with fail
   exact bodyPost_ret (v := .bool true) (by simp [results, Tryz.results5, go_sem, ↓IntWalk.iteOmega]) rfl ⟨rfl, HOV5.out⟩
 obtain ⟨hx0, hy0⟩ := hxy
 have hx : (bindF a == 0) = false := by simpa using hx0
 have hy : (bindF b == 0) = false := by simpa using hy0
 obtain ⟨r, hr, hf⟩ := binds_law hx0 hy0
 rw [← HSRC.out] at hr
 have HR := hid hr
 have HF := hid hf
 clear hr hf HSRC hx0 hy0
 generalize bindF a = x at *
 generalize bindF b = y at *
 refine cmo (Read_calls 1000 (by omega) _ S r HR.out (HL.out.of_isOv HOV2.out).v (HL.out.of_isOv HOV2.out).ml) ?_
 rintro e9 w3 ⟨hov3, A, cap, rfl, hR3⟩
 have HT := hid (Kd.R_mono (Kd.R_lower hR3 (Nat.zero_le _)) (fun _ _ => trivial))
 have HOV3 := hid (HOV2.out.trans hov3)
 rw [HF.out.e]
 clear hov3 hR3
 unfold nodeV
 go_wp2_with fail
 refine cmo (awake_gives _ (HL.out.of_isOv (HOV3.out.alloc _))) ?_
 rintro e9 w4 ⟨rfl, hov4⟩
 have HOV4 := hid ((HOV3.out.alloc _).trans hov4)
 have hb4 := hov4.heap (heap_alloc_new w3 _)
 have HOW := hid (((IsOv.refl w3).alloc _).trans hov4)
 clear hov4
 rw [HF.out.k0] at hb4 HT
 have p5 : w4.cell? ⟨w3.heap.size, 5, none⟩ = some (.slice A 1 cap) := cell_of_heap hb4 5
 have hz := lt_of_heap hb4
 obtain ⟨g1, A1, c1, rfl, x0, x1, x2, x3, x4, x5, HT1⟩ := kid1_at HF.out.k0 HT.out HOW.out 0 (by omega)
 rw [HF.out.k1] at x5 HT1
 obtain ⟨g2, A2, c2, rfl, y0, y1, y2, y3, y4, y5, HT2⟩ := kid1_at HF.out.k1 HT1 HOW.out 1 (by omega)
 rw [HF.out.k2] at y5 HT2
 obtain ⟨g3, A3, c3, rfl, z0, z1, z2, z3, z4, z5, HT3⟩ := kid1_at HF.out.k2 HT2 HOW.out 0 (by omega)
 rw [HF.out.k3] at z5 HT3
 obtain ⟨g4, A4, c4, rfl, v0, v1, v2, v3, v4, v5, HT4⟩ := kid1_at HF.out.k3 HT3 HOW.out 1 (by omega)
 rw [HF.out.k4] at v5 HT4
 obtain ⟨g5, A5, c5, rfl, s0, s1, s2, s3, s4, s5, HT5⟩ := kid1_at HF.out.k4 HT4 HOW.out 0 (by omega)
 obtain ⟨g6, A6, c6, hg6, t0, t1, t2, t3, t4, t5, HT6⟩ := kid1_at HF.out.k4 HT4 HOW.out 1 (by omega)
 obtain rfl : g6 = g5 := by injection hg6 with hg6; injection hg6 with hg6; exact hg6.symm
 have X5 : w4.cell? ⟨g1, 5, none⟩ = some (.slice (some ⟨g2, 0, none⟩) 2 c1) := x5
 have Y5 : w4.cell? ⟨g2, 11, none⟩ = some (.slice (some ⟨g3, 0, none⟩) 1 c2) := y5
 have Z5 : w4.cell? ⟨g3, 5, none⟩ = some (.slice (some ⟨g4, 0, none⟩) 2 c3) := z5
 have V0 : w4.cell? ⟨g4, 6, none⟩ = _ := v0
 have V1 : w4.cell? ⟨g4, 7, none⟩ = _ := v1
 have V2 : w4.cell? ⟨g4, 8, none⟩ = _ := v2
 have V3 : w4.cell? ⟨g4, 9, none⟩ = _ := v3
 have V4 : w4.cell? ⟨g4, 10, none⟩ = _ := v4
 have V5 : w4.cell? ⟨g4, 11, none⟩ = some (.slice (some ⟨g6, 0, none⟩) 2 c4) := v5
 have S1 : w4.cell? ⟨g6, 1, none⟩ = _ := s1
 have S5 : w4.cell? ⟨g6, 5, none⟩ = _ := s5
 have T1 : w4.cell? ⟨g6, 7, none⟩ = _ := t1
 have T5 : w4.cell? ⟨g6, 11, none⟩ = _ := t5
 have hg1 := World.block_lt_of_cell? w4 _ X5
 have hg2 := World.block_lt_of_cell? w4 _ Y5
 have hg3 := World.block_lt_of_cell? w4 _ Z5
 have hg4 := World.block_lt_of_cell? w4 _ V5
 have hg5 := World.block_lt_of_cell? w4 _ S1
 dsimp only at hg1 hg2 hg3 hg4 hg5
 clear x0 x1 x2 x3 x4 x5 y0 y1 y2 y3 y4 y5 z0 z1 z2 z3 z4 z5 v0 v1 v2 v3 v4 v5 s0 s1 s2 s3 s4 s5 t0 t1 t2 t3 t4 t5 HT1 HT2 HT3 HT4 HT5 HT6 hb4 HT hg6
 generalize htop : kidN (kidN (kidN (kidN r.node 0) 1) 0) 1 = top at *
 by_cases hle : y ≤ x
 ·
  obtain ⟨l1, l2, l3, l4⟩ := HF.out.le hle
  rw [htop] at l1 l2 l3 l4
  generalize kidN top 0 = a0 at *
  generalize kidN top 1 = a1 at *
  have m1 : (top.text.toList == b.toList) = true := by rw [Lib.toList_data, l1, Lib.toList_data]; exact beq_self_eq_true _
  have m2 : (a0.text.toList == a.toList) = true := by rw [Lib.toList_data, l2, Lib.toList_data]; exact beq_self_eq_true _
  have m4 : (a1.text.toList == [114]) = true := by rw [Lib.toList_data, l4]; rfl
  rw [l3] at S5
  have hle2 : decide (y ≤ x) = true := decide_eq_true hle
  clear l1 l2 l3 l4 HF htop
  go_wp2_with fail
  exact bodyPost_ret (v := .bool true) (by simp [results, Tryz.results5, go_sem, ↓IntWalk.iteOmega]) rfl ⟨rfl, by repeat (first | with_reducible exact HOV4.out | with_reducible apply IsOv.alloc)⟩
 ·
  obtain ⟨l1, l2, l3, l4⟩ := HF.out.gt hle
  rw [htop] at l1 l2 l3 l4
  generalize kidN top 0 = a0 at *
  generalize kidN top 1 = a1 at *
  have m1 : (top.text.toList == a.toList) = true := by rw [Lib.toList_data, l1, Lib.toList_data]; exact beq_self_eq_true _
  have m2 : (a1.text.toList == b.toList) = true := by rw [Lib.toList_data, l2, Lib.toList_data]; exact beq_self_eq_true _
  have m4 : (a0.text.toList == [112]) = true := by rw [Lib.toList_data, l4]; rfl
  rw [l3] at T5
  have hle2 : decide (y ≤ x) = false := decide_eq_false hle
  clear l1 l2 l3 l4 HF htop
  go_wp2_with fail
  exact bodyPost_ret (v := .bool true) (by simp [results, Tryz.results5, go_sem, ↓IntWalk.iteOmega]) rfl ⟨rfl, by repeat (first | with_reducible exact HOV4.out | with_reducible apply IsOv.alloc)⟩
end Go.Proofs.YtdimhoilfopndaaGreatDoor
end
