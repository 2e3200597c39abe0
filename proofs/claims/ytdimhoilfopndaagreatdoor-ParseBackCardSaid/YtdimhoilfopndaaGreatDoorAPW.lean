/- ParseBack: what is shown is read into the same tree: the law's function answers true, whatever it is given. Conditions: the tables lie as the program lays them. -/
import Derived.Test.YtdimhoilfopndaaGreatDoorA14
import Derived.Test.YtdimhoilfopndaaGreatDoorA15
set_option linter.unusedVariables false
set_option linter.unusedSimpArgs false
section
namespace Go.Proofs.YtdimhoilfopndaaGreatDoor
open Go.RowKit Go.Proofs.YtdimhoilfopndaaGreatDoorW.PrintWords
mutual
theorem nodes_wt : ∀ n : Node, 30 * nodesN n ≤ wtN n
 | ⟨k, t, v, l, c, ks⟩ => by rw [wtN_eq, nodesN_eq]; have := nodes_wtL ks; dsimp only; omega
theorem nodes_wtL : ∀ ks : List Node, 30 * nodesL ks ≤ wtL ks
 | [] => by rw [wtL_nil, nodesL_nil]; omega
 | k :: ks => by rw [wtL_cons, nodesL_cons]; have := nodes_wt k; have := nodes_wtL ks; omega
end
theorem back_law {src : ByteArray} (hs : src.size ≤ 2000) : ∃ a, readF 100000 src = some a ∧ (a.err = 0 → numsOk a.node = true ∧ nodesN a.node ≤ 100000 ∧ ∃ s b, shownF (3 * depthN a.node) a.node = (s, 0) ∧ s.size ≤ 65536 ∧ readF 2000000 s = some b ∧ ((b.err = 31 ∧ 20 < depthN a.node) ∨ (b.err = 0 ∧ b.node.strip = a.node.strip))) := by
 have hlen : (lexR src).toks.length ≤ src.size + 1 := by
  by_cases he : (lexR src).err = 0
  · exact (lex_ok (by omega) he).2.2
  · rw [((lexR_list src (by omega)).2 he).2]; simp
 obtain ⟨a, ha⟩ := readF_some 100000 src (by omega)
 refine ⟨a, ha, fun he => ?_⟩
 obtain ⟨h1, h2, h3⟩ := read_shows (by omega) ha he
 have hnw := nodes_wt a.node
 obtain ⟨ys, hy, hb⟩ := h3 (3 * depthN a.node) (by omega)
 have hlb := len_byts ys
 obtain ⟨b, hb1, hb2⟩ := shown_law hy h1 (by omega) 2000000 (by omega)
 refine ⟨h1, by omega, textS ys, b, by unfold shownF; rw [hy]; rfl, ?_, hb1, hb2⟩
 have := textS_size ys
 omega
set_option maxRecDepth 20000 in
set_option maxHeartbeats 1600000 in
theorem ParseBack_gives (src : ByteArray) (w : World) (HL0 : LaidP w) : Gives Tryz.prog 3 #[.string src] w (.bool true) := by
 have HL := hid HL0
 clear HL0
 unfold Gives
 by_cases hs : src.size ≤ 2000
 rotate_left
 ·
  have hs1 : (2000 : Int) < (src.size : Int) := by omega
  go_enter Tryz.func3, Tryz.ntmps3
  go_wp2_with fail
  refine cmo (awake_gives _ HL.out) ?_
  rintro e9 w1 ⟨rfl, hov1⟩
  go_wp2_with fail
  exact bodyPost_ret (v := .bool true) (by simp [results, Tryz.results3, go_sem, ↓IntWalk.iteOmega]) rfl ⟨rfl, hov1⟩
 have hs1 : ¬ (2000 : Int) < (src.size : Int) := by omega
 obtain ⟨a, ha, hlaw⟩ := back_law hs
 have HA := hid ha
 have HLW := hid hlaw
 clear ha hlaw
 go_enter Tryz.func3, Tryz.ntmps3
 go_wp2_with fail
 refine cmo (Read_calls 100000 (by omega) _ src a HA.out HL.out.v HL.out.ml) ?_
 rintro e9 w1 ⟨hov1, A, cap, rfl, hR⟩
 have HT := hid (Kd.R_mono (Kd.R_lower hR (Nat.zero_le _)) (fun _ _ => trivial))
 have HOV1 := hid hov1
 clear hov1 hR HA
 unfold nodeV
 by_cases he : a.err = 0
 rotate_left
 ·
  have he2 : (a.err != 0) = true := by simpa using he
  have he3 : (a.err == 0) = false := by simpa using he
  generalize a.err = er at *
  go_wp2_with fail
  refine cmo (awake_gives _ (HL.out.of_isOv (HOV1.out.alloc _))) ?_
  rintro e9 w2 ⟨rfl, hov2⟩
  have HOV2 := hid ((HOV1.out.alloc _).trans hov2)
  clear hov2
  go_wp2_with fail
  refine cmo (awake_gives _ (HL.out.of_isOv HOV2.out)) ?_
  rintro e9 w3 ⟨rfl, hov3⟩
  have HOV3 := hid (HOV2.out.trans hov3)
  clear hov3
  go_wp2_with fail
  exact bodyPost_ret (v := .bool true) (by simp [results, Tryz.results3, go_sem, ↓IntWalk.iteOmega]) rfl ⟨rfl, HOV3.out⟩
 obtain ⟨hnu, hnn, s, b, hsh, hss, hb, hcase⟩ := HLW.out he
 rw [he]
 have HB := hid hb
 have HSH := hid hsh
 have HC := hid hcase
 have HNU := hid hnu
 clear HLW hb hsh hcase hnu he
 go_wp2_with fail
 refine cmo (awake_gives _ (HL.out.of_isOv (HOV1.out.alloc _))) ?_
 rintro e9 w2 ⟨rfl, hov2⟩
 have hb2 := hov2.heap (heap_alloc_new w1 _)
 have HOV2 := hid ((HOV1.out.alloc _).trans hov2)
 have HT2 := hid (Kd.R_below HT.out (((IsOv.refl w1).alloc _).trans hov2).below)
 obtain ⟨p0, p1, p2, p3, p4, p5⟩ : w2.cell? ⟨w1.heap.size, 0, none⟩ = some (.string a.node.kind) ∧ w2.cell? ⟨w1.heap.size, 1, none⟩ = some (.string a.node.text) ∧ w2.cell? ⟨w1.heap.size, 2, none⟩ = some (.int .u64 a.node.num) ∧ w2.cell? ⟨w1.heap.size, 3, none⟩ = some (.int .i64 a.node.line) ∧ w2.cell? ⟨w1.heap.size, 4, none⟩ = some (.int .i64 a.node.col) ∧ w2.cell? ⟨w1.heap.size, 5, none⟩ = some (.slice A a.node.kids.length cap) := ⟨cell_of_heap hb2 0, cell_of_heap hb2 1, cell_of_heap hb2 2, cell_of_heap hb2 3, cell_of_heap hb2 4, cell_of_heap hb2 5⟩
 clear hov2 HT
 go_wp2_with fail
 refine cmo (Show_at (HL.out.of_isOv HOV2.out) rfl (congrArg Prod.fst HSH.out) (congrArg Prod.snd HSH.out) (by omega) HNU.out HT2.out (by omega) (show s.size ≤ 140737488355328 by omega)) ?_
 rintro e9 w3 ⟨rfl, hov3⟩
 have hb3 := hov3.heap hb2
 have HOV3 := hid (HOV2.out.trans hov3)
 have HT3 := hid (Kd.R_below HT2.out hov3.below)
 clear hov3 HT2 hb2 p0 p1 p2 p3 p4 p5
 go_wp2_with fail
 refine cmo (Read_calls 2000000 (by omega) _ s b HB.out (HL.out.of_isOv HOV3.out).v (HL.out.of_isOv HOV3.out).ml) ?_
 rintro e9 w4 ⟨hov4, B, cb, rfl, hR4⟩
 have hb4 := hov4.heap hb3
 have hz4 := lt_of_heap hb4
 have HT4 := hid (Kd.R_mono (Kd.R_lower hR4 (Nat.zero_le _)) (fun _ _ => trivial))
 have HT5 := hid (Kd.R_below HT3.out hov4.below)
 have HOV4 := hid (HOV3.out.trans hov4)
 obtain ⟨p0, p1, p2, p3, p4, p5⟩ : w4.cell? ⟨w1.heap.size, 0, none⟩ = some (.string a.node.kind) ∧ w4.cell? ⟨w1.heap.size, 1, none⟩ = some (.string a.node.text) ∧ w4.cell? ⟨w1.heap.size, 2, none⟩ = some (.int .u64 a.node.num) ∧ w4.cell? ⟨w1.heap.size, 3, none⟩ = some (.int .i64 a.node.line) ∧ w4.cell? ⟨w1.heap.size, 4, none⟩ = some (.int .i64 a.node.col) ∧ w4.cell? ⟨w1.heap.size, 5, none⟩ = some (.slice A a.node.kids.length cap) := ⟨cell_of_heap hb4 0, cell_of_heap hb4 1, cell_of_heap hb4 2, cell_of_heap hb4 3, cell_of_heap hb4 4, cell_of_heap hb4 5⟩
 clear hov4 hR4 hb3 HT3
 unfold nodeV
 rcases HC.out with ⟨hbe, hdp⟩ | ⟨hbe, hst⟩
 ·
  rw [hbe]
  have hdi : (20 : Int) < (depthN a.node : Int) := by omega
  clear HC hbe
  go_wp2_with fail
  refine cmo (Deep_at rfl rfl rfl (by omega) (Kd.R_below HT5.out ((IsOv.refl _).alloc _).below)) ?_
  rintro e9 w5 ⟨rfl, hov5⟩
  have HOV5 := hid ((HOV4.out.alloc _).trans hov5)
  clear hov5
  go_wp2_with fail
  exact bodyPost_ret (v := .bool true) (by simp [results, Tryz.results3, go_sem, ↓IntWalk.iteOmega]) rfl ⟨rfl, HOV5.out⟩
 ·
  rw [hbe]
  have HST := hid hst
  clear HC hbe hst
  go_wp2_with fail
  refine cmo (Same_at rfl rfl ((sameN_strip _ _).2 HST.out.symm) (by omega) (Kd.R_below HT5.out ((IsOv.refl _).alloc _).below) (Kd.R_below HT4.out ((IsOv.refl _).alloc _).below)) ?_
  rintro e9 w5 ⟨rfl, hov5⟩
  have hb5 := hov5.heap (((IsOv.refl _).alloc _).heap hb4)
  have hb6 := hov5.heap (heap_alloc_new w4 _)
  have HOV5 := hid ((HOV4.out.alloc _).trans hov5)
  have HT6 := hid (Kd.R_below HT5.out (((IsOv.refl _).alloc _).trans hov5).below)
  have HT7 := hid (Kd.R_below HT4.out (((IsOv.refl _).alloc _).trans hov5).below)
  clear hov5 p0 p1 p2 p3 p4 p5
  obtain ⟨p0, p1, p2, p3, p4, p5⟩ : w5.cell? ⟨w1.heap.size, 0, none⟩ = some (.string a.node.kind) ∧ w5.cell? ⟨w1.heap.size, 1, none⟩ = some (.string a.node.text) ∧ w5.cell? ⟨w1.heap.size, 2, none⟩ = some (.int .u64 a.node.num) ∧ w5.cell? ⟨w1.heap.size, 3, none⟩ = some (.int .i64 a.node.line) ∧ w5.cell? ⟨w1.heap.size, 4, none⟩ = some (.int .i64 a.node.col) ∧ w5.cell? ⟨w1.heap.size, 5, none⟩ = some (.slice A a.node.kids.length cap) := ⟨cell_of_heap hb5 0, cell_of_heap hb5 1, cell_of_heap hb5 2, cell_of_heap hb5 3, cell_of_heap hb5 4, cell_of_heap hb5 5⟩
  obtain ⟨q0, q1, q2, q3, q4, q5⟩ : w5.cell? ⟨w4.heap.size, 0, none⟩ = some (.string b.node.kind) ∧ w5.cell? ⟨w4.heap.size, 1, none⟩ = some (.string b.node.text) ∧ w5.cell? ⟨w4.heap.size, 2, none⟩ = some (.int .u64 b.node.num) ∧ w5.cell? ⟨w4.heap.size, 3, none⟩ = some (.int .i64 b.node.line) ∧ w5.cell? ⟨w4.heap.size, 4, none⟩ = some (.int .i64 b.node.col) ∧ w5.cell? ⟨w4.heap.size, 5, none⟩ = some (.slice B b.node.kids.length cb) := ⟨cell_of_heap hb6 0, cell_of_heap hb6 1, cell_of_heap hb6 2, cell_of_heap hb6 3, cell_of_heap hb6 4, cell_of_heap hb6 5⟩
  go_wp2_with fail
  refine cmo (refSame_at rfl rfl ((sameN_strip _ _).2 HST.out.symm) (by omega) HT6.out HT7.out) ?_
  rintro e9 w6 ⟨rfl, hov6⟩
  have HOV6 := hid (HOV5.out.trans hov6)
  clear hov6
  go_wp2_with fail
  exact bodyPost_ret (v := .bool true) (by simp [results, Tryz.results3, go_sem, ↓IntWalk.iteOmega]) rfl ⟨rfl, HOV6.out⟩
end Go.Proofs.YtdimhoilfopndaaGreatDoor
end
