/- cnf.clause and cnf.Read at texts that are shown. Conditions: the text is short; it splits into the literals' texts. -/
import Derived.Test.YtaibjaienhnckaaGreatDoorZr
import Derived.Test.YtaibjaienhnckaaGreatDoorZi
set_option linter.unusedVariables false
set_option linter.unusedSimpArgs false
namespace Go.Proofs.YtaibjaienhnckaaGreatDoor
open Go.RowKit Go.Proofs.YtaibjaienhnckaaGreatDoorW.PrintWords Go.Proofs.YtaibjaienhnckaaGreatDoorW.PrintLast Go.Proofs.YtaibjaienhnckaaGreatDoorW.PrintMore Go.Proofs.YtaibjaienhnckaaGreatDoor.PCnfFollows
def itB (n : Int) : ByteArray := ⟨(Lib.itoa n).toArray⟩
/-- A text that splits into literals' texts, and 0 at the end. -/
def lineIs (s : ByteArray) (ns : List Int) : Prop := s.size ≤ 65536 ∧ Lib.countB s ⟨#[32]⟩ = ns.length ∧ Lib.splitB ⟨#[32]⟩ 0 (Lib.countB s ⟨#[32]⟩) s = (ns ++ [0]).map itB ∧ ∀ n ∈ ns ++ [0], (itB n).size ≤ 100 ∧ Lib.atoiAll (itB n).data.toList = .ok n
theorem lit_at {ns : List Int} (hr : ∀ n ∈ ns, rightF n = true) {i : Nat} (hi : i < ns.length + 1) : (i < ns.length ∧ rightF ((ns ++ [0]).getD i 0) = true ∧ (ns ++ [0]).getD i 0 ≠ 0 ∧ (ns ++ [0]).getD i 0 = rd ns i) ∨ (i = ns.length ∧ (ns ++ [0]).getD i 0 = 0) := by
  by_cases h : i < ns.length
  · left
    have e : (ns ++ [0]).getD i 0 = rd ns i := by
      unfold rd
      simp [List.getD, List.getElem?_append_left h]
    have hm : rd ns i ∈ ns := rd_mem h
    have := hr _ hm
    refine ⟨h, by rw [e]; exact this, ?_, e⟩
    rw [e]
    intro e0
    rw [e0] at this
    exact absurd this (by decide)
  · right
    obtain rfl : i = ns.length := by omega
    exact ⟨rfl, by simp [List.getD]⟩
set_option maxRecDepth 20000 in
set_option maxHeartbeats 1000000 in
theorem clause_calls (w : World) (s : ByteArray) (ns : List Int) (hs : lineIs s ns) (hl : ns.length ≤ 1000) (hr : ∀ n ∈ ns, rightF n = true) (hZ : LaidZ w) :
    Calls Tryz.prog 35 #[.string s] w fun e w' => ∃ v : Value, e = .returned (.tuple #[v, .bool true]) ∧ Kd.R (Kd.int .i64) 3 w' w.heap.size (fun _ => True) v ns ∧ Below w.heap.size w w' := by
  obtain ⟨hz, hcn, hsp, hat⟩ := hs
  obtain ⟨m, hm⟩ := hZ.ml
  have HSP := Lib.hid hsp
  have HAT := Lib.hid hat
  have HR := Lib.hid hr
  have HM := Lib.hid hm
  have HCN := Lib.hid hcn
  have HZ := Lib.hid hZ
  clear hsp hat hr hm hcn hZ
  go_enter Tryz.func35, Tryz.ntmps35
  go_wp2_with fail
  refine Calls.mono (Tryz.strings_Split s ⟨#[32]⟩ m w (by omega) HM.out (by decide)) ?_
  rintro e w1 ⟨rfl, rfl⟩
  rw [HSP.out, HCN.out]
  have hov1 : IsOv w (w.alloc (.cells (((ns ++ [0]).map itB).map Value.string).toArray 9)) := (IsOv.refl w).alloc _
  have hk1 : (w.alloc (.cells (((ns ++ [0]).map itB).map Value.string).toArray 9)).heap[w.heap.size]? = some (.cells (((ns ++ [0]).map itB).map Value.string).toArray 9) := heap_alloc_new w _
  have hz1 : (w.alloc (.cells (((ns ++ [0]).map itB).map Value.string).toArray 9)).heap.size = w.heap.size + 1 := by simp
  generalize w.alloc (.cells (((ns ++ [0]).map itB).map Value.string).toArray 9) = w1 at *
  have HK1 := Lib.hid hk1
  have hz1a : w1.heap.size ≤ w.heap.size + 1 := by omega
  have hz1b : w.heap.size + 1 ≤ w1.heap.size := by omega
  clear hk1 hz1
  go_wp2_with fail
  go_loopw [5, 14] (fun vv iv wr => ∃ (i : Nat), iv = .int .i64 (i : Int) ∧ i ≤ ns.length + 1 ∧ IsOv w wr ∧ Hid (wr.heap[w.heap.size]? = some (.cells (((ns ++ [0]).map itB).map Value.string).toArray 9)) ∧ Hid (Kd.R (Kd.int .i64) 3 wr (w.heap.size + 1) (fun _ => True) vv (ns.take i)) ∧ Hid (Below (w.heap.size + 1) w1 wr)) (fun vv iv wr => (ns.length + 1 - intOf iv).toNat)
  case atStart => exact ⟨0, rfl, Nat.zero_le _, hov1, HK1, Lib.hid (Kd.R_nil _ _ _ _ _), Lib.hid (Below.refl _ _)⟩
  case round =>
    clear HK1
    obtain ⟨i, rfl, hi, hov, hk, hR, hB⟩ := hrel
    by_cases hin : i < ns.length + 1
    · have hcell : wr.cell? ⟨w.heap.size, i, none⟩ = some (.string (itB ((ns ++ [0]).getD i 0))) := by
        rw [cell_of_heap hk.out]
        have h9 : i < (ns ++ [0]).length := by simp; omega
        rw [← Array.getElem?_toList]
        simp only [List.getElem?_map, List.getElem?_eq_getElem h9, Option.map_some, List.getD, Option.getD_some]
      have hmem : (ns ++ [0]).getD i 0 ∈ ns ++ [0] := by
        have h9 : i < (ns ++ [0]).length := by simp; omega
        simp only [List.getD, List.getElem?_eq_getElem h9, Option.getD_some]
        exact List.getElem_mem h9
      obtain ⟨hz9, ha9⟩ := HAT.out _ hmem
      have hcase := lit_at HR.out hin
      generalize (ns ++ [0]).getD i 0 = n at *
      have HA9 := Lib.hid ha9
      have HC9 := Lib.hid hcase
      clear ha9 hcase hmem
      go_wp2_with fail
      refine Calls.mono (Tryz.strconv_Atoi_ok (itB n) (by omega) n HA9.out _) ?_
      rintro e w2 ⟨rfl, hw2⟩
      have hb2 : Below wr.heap.size wr w2 := by
        rcases hw2 with rfl | ⟨t, rfl⟩
        · exact Below.refl _ _
        · exact Lib.bytesWorld_below _ _ _
      have hov2 : IsOv wr w2 := IsOv.of_below hb2
      clear hw2
      rcases HC9.out with ⟨hlt, hrt, hn0, hne⟩ | ⟨hie, hn0⟩
      · have hn0b : (n != 0) = true := by simpa using hn0
        have hn0c : (n == 0) = false := by simpa using hn0
        have hnn := HR.out _ (rd_mem hlt)
        have hie : (i : Int) ≠ (ns.length : Int) := by omega
        have hieb : ((i : Int) == (ns.length : Int)) = false := by simpa using hie
        have hrange : -9223372036854775808 ≤ n ∧ n ≤ 9223372036854775807 := by
          have h9 := hrt
          unfold rightF at h9
          simp at h9
          omega
        have hsz9 : w.heap.size + 1 ≤ wr.heap.size := Nat.le_trans hz1b hB.out.size
        have HRT := Lib.hid hrt
        have HNE := Lib.hid hne
        clear hnn hn0 hrt hne
        go_wp2_with fail
        refine Calls.mono (itoa_gives n hrange.1 hrange.2 _ (HZ.out.of_isOv (hov.trans hov2))) ?_
        rintro e w3 ⟨rfl, hov3⟩
        rw [show (⟨(Lib.itoa n).toArray⟩ : ByteArray) = itB n from rfl]
        have hb23 : Below wr.heap.size wr w3 := (hov2.trans hov3).below
        have hov9 := hov.trans (hov2.trans hov3)
        have hk9 := Lib.hid ((hov2.trans hov3).heap hk.out)
        have hR2 := Lib.hid (Kd.R_below hR.out hb23)
        have hB2 := Lib.hid ((hB.out).trans (hb23.mono hsz9))
        have hsz3 : w.heap.size + 1 ≤ w3.heap.size := Nat.le_trans hsz9 hb23.size
        clear hR hB hk hov hov2 hov3 hb2 hb23 hcell
        go_wp2_with fail
        refine Calls.mono (right_calls _ n hrange.1 hrange.2) ?_
        rintro e w' ⟨rfl, rfl⟩
        rw [HRT.out]
        have hln : (ns.take i).length + 1 ≤ 1000000 := by rw [List.length_take]; omega
        go_wp2_with ((with_reducible refine gate_builtin (b := .append) (xs := #[.tmp 53, .tmp 55]) rfl ?_); at_builtin; go_loud (refine Kd.R_append (Kd.int .i64) (w0 := w1) (w.heap.size + 1) rfl (.tmp 53) (.tmp 55) 23 3 (.int .i64 0) 8 rfl Tryz.underlying23 info3 rfl (by decide) (by omega) u5 (ns.take i) n [.int .i64 n] (fun _ => True) (fun _ => False) rfl rfl rfl (fun _ hk => hk.elim) (fun _ _ => trivial) hR2.out hB2.out hsz3 (by omega) ?_; intro v1 w10 ho10 hb10 hg10 hat10))
        have hR10 : Hid (Kd.R (Kd.int .i64) 3 w10 (w.heap.size + 1) (fun _ => True) v1 (ns.take (i + 1))) := Lib.hid (by
          have h9 := ho10
          rw [HNE.out] at h9
          rw [show ns.take (i + 1) = ns.take i ++ [rd ns i] by
            rw [List.take_add_one]
            unfold rd
            simp [List.getD, List.getElem?_eq_getElem hlt]]
          exact h9)
        have hne10 : some w.heap.size ≠ u5.ownBlock := fun e9 => by
          have h9 := hR2.out
          have h8 := Kd.own_of_R (enc := Value.int .i64) h9
          have := ownsRow_block h8 w.heap.size e9.symm
          omega
        have hk10 : Hid (w10.heap[w.heap.size]? = some (.cells (((ns ++ [0]).map itB).map Value.string).toArray 9)) := Lib.hid ((hg10.block _ (by omega) hne10).trans hk9.out)
        have hov10 : IsOv w w10 := ov_below hov1 (Nat.le_succ _) hb10
        have hB10 := Lib.hid hb10
        clear ho10 hb10 hg10 hat10 hR2 hB2 hk9 hov9
        go_roundw
        case rel => exact ⟨i + 1, by go_num, by omega, hov10, hk10, hR10, hB10⟩
        case measure => simp [intOf]; omega
      · subst hn0
        obtain rfl : i = ns.length := hie
        have hsz9 : w.heap.size + 1 ≤ wr.heap.size := Nat.le_trans hz1b hB.out.size
        go_wp2_with fail
        refine Calls.mono (itoa_gives 0 (by decide) (by decide) _ (HZ.out.of_isOv (hov.trans hov2))) ?_
        rintro e w3 ⟨rfl, hov3⟩
        rw [show (⟨(Lib.itoa 0).toArray⟩ : ByteArray) = itB 0 from rfl]
        have hb23 : Below wr.heap.size wr w3 := (hov2.trans hov3).below
        have hov9 := hov.trans (hov2.trans hov3)
        have hk9 := Lib.hid ((hov2.trans hov3).heap hk.out)
        have hR2 := Lib.hid (Kd.R_below hR.out hb23)
        have hB2 := Lib.hid ((hB.out).trans (hb23.mono hsz9))
        clear hR hB hk hov hov2 hov3 hb2 hb23 hcell
        go_wp2_with fail
        go_roundw
        case rel => exact ⟨ns.length + 1, by go_num, by omega, hov9, hk9, Lib.hid (by have h9 := hR2.out; rw [List.take_of_length_le (Nat.le_refl _)] at h9; rw [List.take_of_length_le (Nat.le_succ _)]; exact h9), hB2⟩
        case measure => simp [intOf]
    · obtain rfl : i = ns.length + 1 := by omega
      have hR2 := hR.out
      rw [List.take_of_length_le (by omega)] at hR2
      clear hR hk hB
      have HR2 := Lib.hid hR2
      clear hR2
      go_wp2_with fail
      exact bodyPost_ret (v := .tuple #[u5, .bool true]) (by simp [results, Tryz.results35, go_sem, ↓IntWalk.iteOmega]) rfl ⟨_, rfl, Kd.R_lower HR2.out (Nat.le_succ _), hov.below⟩
theorem ba_full {a : ByteArray} (h : a ≠ ⟨#[]⟩) : a.toList.isEmpty = false := by
  rw [← decide_eq_emptyBytes]
  exact decide_eq_false h
/-- The texts that Read is given: each line ends in a new line. -/
def restsOk (ts : List ByteArray) (l : List (List Int)) : Prop := ts.length = l.length + 1 ∧ (∀ i, i < ts.length → (ts.getD i ByteArray.empty).size ≤ 65536) ∧ ts.getD l.length ByteArray.empty = ⟨#[]⟩ ∧
  ∀ i, i < l.length → (ts.getD i ByteArray.empty) ≠ ⟨#[]⟩ ∧ (Lib.cut (ts.getD i ByteArray.empty).data.toList [10]).2.2 = true ∧ (⟨(Lib.cut (ts.getD i ByteArray.empty).data.toList [10]).2.1.toArray⟩ : ByteArray) = ts.getD (i + 1) ByteArray.empty ∧ lineIs ⟨(Lib.cut (ts.getD i ByteArray.empty).data.toList [10]).1.toArray⟩ (l.getD i [])
set_option maxRecDepth 20000 in
set_option maxHeartbeats 1000000 in
theorem Read_calls (w : World) (s : ByteArray) (ts : List ByteArray) (l : List (List Int)) (hts : restsOk ts l) (hs : ts.getD 0 ByteArray.empty = s) (hl : l.length ≤ 100) (hr : ∀ c ∈ l, c.length ≤ 1000 ∧ ∀ n ∈ c, rightF n = true) (hZ : LaidZ w) :
    Calls Tryz.prog 20 #[.string s] w fun e w' => ∃ v : Value, e = .returned (.tuple #[v, .int .i64 0]) ∧ Kd.R (Kd.slice 3 (Kd.int .i64)) 23 w' w.heap.size (fun _ => True) v l ∧ Below w.heap.size w w' := by
  have HTS := Lib.hid hts
  have HR := Lib.hid hr
  have HZ := Lib.hid hZ
  have HS := Lib.hid hs
  clear hts hr hZ hs
  go_enter Tryz.func20, Tryz.ntmps20
  go_wp2_with fail
  go_loopg [0, 4] l.length (fun gq sv vv wr => ∃ (i : Nat), gq + i = l.length ∧ sv = .string (ts.getD i ByteArray.empty) ∧ Hid (IsOv w wr) ∧ Hid (Kd.R (Kd.slice 3 (Kd.int .i64)) 23 wr w.heap.size (fun _ => True) vv (l.take i)))
  case atStart => exact ⟨0, rfl, by rw [HS.out], Lib.hid (IsOv.refl _), Lib.hid (Kd.R_nil _ _ _ _ _)⟩
  case round =>
    obtain ⟨i, hg, rfl, hov, hR⟩ := hrel
    obtain ⟨ht1, ht2, ht3, ht4⟩ := HTS.out
    by_cases hin : i < l.length
    · obtain ⟨hne, hc2, hc3, hc4⟩ := ht4 i hin
      have hsz := ht2 i (by omega)
      have hcr := HR.out (l.getD i []) (by simp [List.getD, List.getElem?_eq_getElem hin])
      have hne2 : (ts.getD i ByteArray.empty).toList.isEmpty = false := ba_full hne
      have htk : l.take (i + 1) = l.take i ++ [l.getD i []] := by
        rw [List.take_add_one]
        simp [List.getD, List.getElem?_eq_getElem hin]
      obtain ⟨m, hm⟩ := (HZ.out.of_isOv hov.out).ml
      have HTK := Lib.hid htk
      have HC3 := Lib.hid hc3
      have HC2 := Lib.hid hc2
      have HC4 := Lib.hid hc4
      have HM := Lib.hid hm
      have hltk : (l.take i).length ≤ 100 := by rw [List.length_take]; omega
      generalize ts.getD i ByteArray.empty = x at *
      generalize l.getD i [] = c at *
      clear htk hc2 hc3 hc4 hm ht1 ht2 ht3 ht4 hne
      cases gk with
      | zero => omega
      | succ g9 =>
      go_wp2_with fail
      refine Calls.mono (Tryz.strings_Cut x ⟨#[10]⟩ m wr (by omega) HM.out) ?_
      rintro e w2 ⟨rfl, n9, rfl⟩
      rw [show (⟨#[10]⟩ : ByteArray).data.toList = [10] from rfl, HC2.out, HC3.out]
      have hov2 : IsOv w (wr.drewN n9) := hov.out.drewN n9
      have hR2 := Kd.R_drewN hR.out n9
      generalize wr.drewN n9 = w2 at *
      have HOV2 := Lib.hid hov2
      have HR2 := Lib.hid hR2
      clear hov hR hov2 hR2
      go_wp2_with fail
      refine Calls.mono (clause_calls w2 _ c HC4.out hcr.1 hcr.2 (HZ.out.of_isOv HOV2.out)) ?_
      rintro e w3 ⟨v8, rfl, hR8, hb8⟩
      obtain ⟨A8, c8, rfl, hc8, hC8⟩ := Kd.R_reads hR8
      clear hC8 hc8
      have hR3 := Lib.hid (Kd.R_below HR2.out hb8)
      have hov3 := Lib.hid (HOV2.out.trans (IsOv.of_below hb8))
      have hz23 := HOV2.out.size_le
      have hz33 := hb8.size
      have hlt8 := ownsRow_lt (w := w2) HR2.out.2.choose_spec.1
      have HP : Hid ((Kd.slice 3 (Kd.int .i64)).M w3 w.heap.size (fun k => w2.heap.size ≤ k) c [.slice A8 c.length c8]) := Lib.hid ⟨_, rfl, Kd.R_lower (Kd.R_mono (Kd.R_bound hR8) (fun k h => h.2.1)) hz23⟩
      have HLT := Lib.hid hlt8
      clear hR8 hb8 HR2 HOV2 hlt8
      go_wp2_with ((with_reducible refine gate_builtin (b := .append) (xs := #[.tmp 29, .tmp 31]) rfl ?_); at_builtin; go_loud (refine Kd.R_append (Kd.slice 3 (Kd.int .i64)) (w0 := w) w.heap.size rfl (.tmp 29) (.tmp 31) 22 23 (.slice none 0 0) 24 rfl Tryz.underlying22 info23 rfl (by decide) (by omega) u4 (l.take i) c [.slice A8 c.length c8] (fun _ => True) (fun k => w2.heap.size ≤ k) rfl rfl ?aP ?aK (fun _ _ => trivial) ?aO ?aB ?aS ?aL ?_; (case aP => exact HP.out); (case aK => exact (fun k hk => ⟨trivial, fun e9 => absurd (HLT.out k e9.symm) (by omega)⟩)); (case aO => exact hR3.out); (case aB => exact hov3.out.below); (case aS => omega); (case aL => omega); intro v1 w10 ho10 hb10 hg10 hat10))
      rw [← HTK.out] at ho10
      have HO10 := Lib.hid ho10
      have HB10 := Lib.hid (IsOv.of_below hb10)
      clear ho10 hb10 hg10 hat10 hR3 hov3 HP HLT
      go_wp2_with fail
      go_roundg g9
      case rel => exact ⟨i + 1, by omega, rfl, HB10, HO10⟩
      case measure => omega
    · obtain rfl : i = l.length := by omega
      have hR2 := hR.out
      rw [List.take_of_length_le (Nat.le_refl _)] at hR2
      rw [ht3]
      have HR2 := Lib.hid hR2
      clear hR hR2 ht1 ht2 ht3 ht4
      go_wp2_with fail
      exact bodyPost_ret (v := .tuple #[u4, .int .i64 0]) (by simp [results, Tryz.results20, go_sem, ↓IntWalk.iteOmega]) rfl ⟨_, rfl, HR2.out, hov.out.below⟩
end Go.Proofs.YtaibjaienhnckaaGreatDoor
