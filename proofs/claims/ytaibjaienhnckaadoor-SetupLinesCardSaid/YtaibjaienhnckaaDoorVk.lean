/- Layer 22: Show: a setup as a text, or none. Condition: the listed variables lie as the program lays them. -/
import Derived.Test.YtaibjaienhnckaaDoorVi
import Derived.Test.YtaibjaienhnckaaDoorO
import Derived.Test.YtaibjaienhnckaaDoorUg
import Derived.Lib.LaidTab
import Derived.BarOnce
set_option linter.unusedVariables false
set_option linter.unusedSimpArgs false
namespace Go.Proofs.YtaibjaienhnckaaDoor
open Go.RowKit
/-- The variables that Show comes to, too. -/
structure LaidS (w : World) : Prop where
  v : LaidV w
  tab : Lib.TabIs Tryd.prog w "internal/strconv.uint64pow10" .u64 Lib.pow10Tab
theorem LaidS.of_isOv {w w' : World} (h : LaidS w) (hb : IsOv w w') : LaidS w' := by
  refine ⟨h.v.of_isOv hb, ?_⟩
  obtain ⟨x, rfl⟩ := hb
  exact World.var?_append (bs := x.blocks) rfl h.tab
theorem itoaN_gives (u : Nat) (hu : u ≤ 2147483648) (w : World) (h : LaidS w) : Gives Tryd.prog 21 #[.int .i64 (u : Int)] w (.string ⟨(Lib.decDigits u).toArray⟩) := by
  refine (Tryd.strconv_Itoa (u : Int) (by omega) (by omega) w h.tab).mono ?_
  rintro e w' ⟨rfl, k, os, rfl⟩
  exact ⟨by rw [Lib.itoa_nonneg], ⟨⟨os, w.drawn + k⟩, rfl⟩⟩
theorem ent_word {w : World} (h : LaidV w) {k : Nat} (hk : k < 6) : w.cell? ⟨0, k * 3, none⟩ = some (.string (wB k)) := by
  have h1 := h.en (k * 3) (by have : entCells.size = 18 := rfl; omega)
  rw [h1]
  have hk7 : k = 0 ∨ k = 1 ∨ k = 2 ∨ k = 3 ∨ k = 4 ∨ k = 5 := by omega
  rcases hk7 with rfl | rfl | rfl | rfl | rfl | rfl <;> rfl
abbrev SE (W : World) (b k : Nat) (u : Int) (w' : World) : Prop := LaidS w' ∧ IsOv W w' ∧ w'.cell? ⟨0, k * 3, none⟩ = some (.string (wB k)) ∧ w'.cell? ⟨b, k, none⟩ = some (.int .i64 u)
theorem SE_isOv {W w1 w2 : World} {b k : Nat} {u : Int} (h : SE W b k u w1) (hb : IsOv w1 w2) : SE W b k u w2 := ⟨h.1.of_isOv hb, h.2.1.trans hb, cellk_isOv h.2.2.1 hb, cellk_isOv h.2.2.2 hb⟩
theorem SE_ov {W w1 : World} {b k : Nat} {u : Int} (h : SE W b k u w1) (x : Ext) : SE W b k u (w1.ov x) := SE_isOv h ⟨x, rfl⟩
theorem SE_drew {W w1 : World} {b k : Nat} {u : Int} (h : SE W b k u w1) : SE W b k u w1.drew := SE_isOv h ((IsOv.refl _).drew)
theorem LaidS_below {W w1 w2 : World} {B : Nat} (h : LaidS W) (hov : IsOv W w1) (hB : W.heap.size ≤ B) (hb : Below B w1 w2) : LaidS w2 := h.of_isOv (ov_below hov hB hb)
theorem SE_below {W w1 w2 : World} {b k B : Nat} {u : Int} (hW : LaidS W) (h : SE W b k u w1) (hB : W.heap.size ≤ B) (hk : k < 6) (hbB : b < B) (hb : Below B w1 w2) : SE W b k u w2 :=
  ⟨LaidS_below hW h.2.1 hB hb, ov_below h.2.1 hB hb, ent_word (LaidS_below hW h.2.1 hB hb).v hk, cellk_below h.2.2.2 hb hbB⟩
set_option maxRecDepth 100000 in
set_option maxHeartbeats 1000000 in
theorem putS_calls (B b : Nat) (l : List UInt8) (s : ByteArray) (w : World) (h : Lib.IsBuilderF 51 5 B b (Lib.byteCells l) w) (hlen : l.length + s.size ≤ 10000) (hBw : B ≤ w.heap.size) :
    Calls Tryd.prog 19 #[.pointer (some ⟨b, 0, none⟩), .string s] w fun e w' => (∃ v, e = .returned v) ∧ Lib.IsBuilderF 51 5 B b (Lib.byteCells (l ++ s.data.toList)) w' ∧ Below B w w' := by
  refine (WriteString_calls B b (Lib.byteCells l) s w h (by rw [Lib.byteCells_length]; omega) hBw).mono ?_
  rintro e w' ⟨rfl, h1, h2⟩
  rw [Lib.strCells_eq, ← Lib.byteCells_append] at h1
  exact ⟨⟨_, rfl⟩, .inr h1, h2⟩
theorem rightB_range {l0 l1 l2 l3 l4 l5 : Int} {t : Bool} (h : rightB l0 l1 l2 l3 l4 l5 = true) : ∀ k, k < 6 → loN k ≤ (⟨l0, l1, l2, l3, l4, l5, t⟩ : Cfg).get k ∧ (⟨l0, l1, l2, l3, l4, l5, t⟩ : Cfg).get k ≤ hiN k := by
  unfold rightB rights rngB at h
  simp at h
  intro k hk
  have hk7 : k = 0 ∨ k = 1 ∨ k = 2 ∨ k = 3 ∨ k = 4 ∨ k = 5 := by omega
  rcases hk7 with rfl | rfl | rfl | rfl | rfl | rfl <;> (simp [loN, hiN, entL, Cfg.get]; omega)
theorem range_small {c : Cfg} (h : ∀ k, k < 6 → loN k ≤ c.get k ∧ c.get k ≤ hiN k) : ∀ k, k < 6 → 0 ≤ c.get k ∧ c.get k ≤ 2147483648 := fun k hk => by
  have h1 := h k hk
  have h2 : 0 ≤ loN k := lt6 (p := fun k => 0 ≤ loN k) (by decide) (by decide) (by decide) (by decide) (by decide) (by decide) hk
  have h3 : hiN k ≤ 2147483648 := lt6 (p := fun k => hiN k ≤ 2147483648) (by decide) (by decide) (by decide) (by decide) (by decide) (by decide) hk
  omega
theorem showK_step2 {c : Cfg} {k u : Nat} (hu : c.get k = (u : Int)) : showK c (k + 1) = showK c k ++ (wB k ++ ⟨#[32]⟩ ++ ⟨(Lib.decDigits u).toArray⟩ ++ ⟨#[10]⟩ : ByteArray).data.toList := by
  show showK c k ++ (numLine k (c.get k) ++ [10]) = _
  rw [hu, numLine_nat]
  simp [ByteArray.data_append, wB_data]
def showV (c : Cfg) : Value := if Cfg.rightB c then .tuple #[.string ⟨(showF c).toArray⟩, .int .i64 0] else .tuple #[.string ⟨#[]⟩, .int .i64 221]
set_option maxRecDepth 100000 in
set_option maxHeartbeats 400000 in
theorem Show_gives (w : World) (c : Cfg) (hS : LaidS w) : Gives Tryd.prog 9 #[c.val] w (showV c) := by
  have hend := showF_eq c
  have hlen := fun h => @showK_len c (range_small h)
  have hget := fun h k (hk : k < 6) => get_bnd (@range_small c h) hk
  have hstep : ∀ (k u : Nat), c.get k = (u : Int) → showK c (k + 1) = showK c k ++ (wB k ++ ⟨#[32]⟩ ++ ⟨(Lib.decDigits u).toArray⟩ ++ ⟨#[10]⟩ : ByteArray).data.toList := fun k u hu => showK_step2 hu
  obtain ⟨l0, l1, l2, l3, l4, l5, t⟩ := c
  have HEND := Lib.hid hend
  have HLEN := Lib.hid hlen
  have HGET := Lib.hid hget
  have HSTEP := Lib.hid hstep
  clear hend hlen hget hstep
  unfold Gives
  generalize hcv : (Cfg.val ⟨l0, l1, l2, l3, l4, l5, t⟩) = cv
  have hcv2 : cv = .agg #[.int .i64 l0, .int .i64 l1, .int .i64 l2, .int .i64 l3, .int .i64 l4, .int .i64 l5, .bool t] := hcv.symm
  subst hcv2
  clear hcv
  cases hr : rightB l0 l1 l2 l3 l4 l5
  · have HV : Hid (showV ⟨l0, l1, l2, l3, l4, l5, t⟩ = .tuple #[.string ⟨#[]⟩, .int .i64 221]) := Lib.hid (by unfold showV Cfg.rightB; simp only [hr]; rfl)
    have HR := Lib.hid hr
    clear hr
    go_enter Tryd.func9, Tryd.ntmps9
    go_wp2_with (go_at_call 10; refine (Right_gives _ (hS.v.of_isOv (by repeat (first | with_reducible exact IsOv.refl _ | with_reducible apply IsOv.dr | with_reducible apply IsOv.drewN | with_reducible apply IsOv.drew | with_reducible apply IsOv.alloc | with_reducible apply IsOv.ov))) l0 l1 l2 l3 l4 l5 t).mono ?_; rintro e w' ⟨rfl, x, rfl⟩; rw [HR.out])
    exact bodyPost_ret (v := .tuple #[.string ⟨#[]⟩, .int .i64 221]) (by simp [results, Tryd.results9, go_sem, ↓IntWalk.iteOmega]) rfl ⟨by rw [HV.out], by repeat (first | with_reducible exact IsOv.refl _ | with_reducible apply IsOv.dr | with_reducible apply IsOv.drewN | with_reducible apply IsOv.drew | with_reducible apply IsOv.alloc | with_reducible apply IsOv.ov)⟩
  · have HV : Hid (showV ⟨l0, l1, l2, l3, l4, l5, t⟩ = .tuple #[.string ⟨(showF ⟨l0, l1, l2, l3, l4, l5, t⟩).toArray⟩, .int .i64 0]) := Lib.hid (by unfold showV Cfg.rightB; simp only [hr]; rfl)
    have HR := Lib.hid hr
    have HL := Lib.hid (HLEN.out (rightB_range hr))
    have HG := Lib.hid (HGET.out (rightB_range hr))
    clear hr HLEN HGET
    go_enter Tryd.func9, Tryd.ntmps9
    go_wp2_with (go_at_call 10; refine (Right_gives _ (hS.v.of_isOv (by repeat (first | with_reducible exact IsOv.refl _ | with_reducible apply IsOv.dr | with_reducible apply IsOv.drewN | with_reducible apply IsOv.drew | with_reducible apply IsOv.alloc | with_reducible apply IsOv.ov))) l0 l1 l2 l3 l4 l5 t).mono ?_; rintro e w1 ⟨rfl, hov1⟩; rw [HR.out])
    have hwz : w.heap.size < w1.heap.size := lt_of_heap (hov1.heap (heap_alloc_new w _))
    have hov1w : IsOv w w1 := ((IsOv.refl w).alloc _).trans hov1
    have hbox1 : w1.heap[w.heap.size]? = some (.cells (Cfg.cells ⟨l0, l1, l2, l3, l4, l5, t⟩) 24) := hov1.heap (heap_alloc_new w _)
    have hB0 : Lib.IsBuilderF 51 5 w1.heap.size w1.heap.size (Lib.byteCells []) (w1.alloc (.cells #[.pointer none, .slice none 0 0] 51)) := by
      refine .inl ⟨Nat.le_refl _, .slice none 0 0, ?_, ⟨rfl, .inl ⟨rfl, rfl⟩⟩, by simp [Value.ownBlock]⟩
      exact heap_alloc_new w1 _
    go_wp2_with fail
    refine (numbers_gives _ _).mono ?_
    rintro e w2 ⟨rfl, hov2⟩
    have hov2w : IsOv w w2 := hov1w.trans (((IsOv.refl w1).alloc _).trans hov2)
    have hbox2 : w2.heap[w.heap.size]? = some (.cells (Cfg.cells ⟨l0, l1, l2, l3, l4, l5, t⟩) 24) := hov2.heap (((IsOv.refl w1).alloc _).heap hbox1)
    have hB2 := isBuilderF_isOv hB0 hov2
    have hsz2 : w1.heap.size < w2.heap.size := by have := hov2.size_le; simp at this; omega
    have HBOX2 := Lib.hid hbox2
    clear hbox1 hbox2 hB0 hov1 hov2 hov1w
    unfold numP
    go_wp2_with fail
    go_loopw [13] (fun iv wr => ∃ (k : Nat), iv = .int .i64 (k : Int) ∧ k ≤ 6 ∧ IsOv w wr ∧ w1.heap.size < wr.heap.size ∧ Hid (wr.heap[w.heap.size]? = some (.cells (Cfg.cells ⟨l0, l1, l2, l3, l4, l5, t⟩) 24)) ∧ Hid (Lib.IsBuilderF 51 5 w1.heap.size w1.heap.size (Lib.byteCells (showK ⟨l0, l1, l2, l3, l4, l5, t⟩ k)) wr)) (fun iv wr => (6 - intOf iv).toNat)
    case atStart => exact ⟨0, rfl, Nat.zero_le _, hov2w, hsz2, HBOX2, Lib.hid hB2⟩
    case round =>
      obtain ⟨k, rfl, hk, hovw, hszr, hbox, hbld⟩ := hrel
      clear hB2 HBOX2 hov2w hsz2
      by_cases hk6 : k < 6
      · obtain ⟨u, hu, hu2⟩ := HG.out k hk6
        have hix := numP_index k hk6 w.heap.size
        have hST := Lib.hid (HSTEP.out k u hu)
        have hkl := HL.out k hk
        have hck : wr.cell? ⟨w.heap.size, k, none⟩ = some (.int .i64 (u : Int)) := by
          rw [cell_of_heap hbox.out, ← hu]
          exact lt6 (p := fun k => (Cfg.cells ⟨l0, l1, l2, l3, l4, l5, t⟩)[k]? = some (.int .i64 (Cfg.get ⟨l0, l1, l2, l3, l4, l5, t⟩ k))) rfl rfl rfl rfl rfl rfl hk6
        have hSE : SE w w.heap.size k (u : Int) wr := ⟨hS.of_isOv hovw, hovw, ent_word (hS.of_isOv hovw).v hk6, hck⟩
        have hwB := wB_size k hk6
        have hdz : (⟨(Lib.decDigits u).toArray⟩ : ByteArray).size ≤ 10 := by
          show (Lib.decDigits u).toArray.size ≤ 10
          rw [List.size_toArray]
          exact decDigits_len 9 u (by omega)
        have hwwz : w.heap.size < wr.heap.size := by omega
        clear hu hck HG HL HSTEP HEND HV
        generalize hdg : (⟨(Lib.decDigits u).toArray⟩ : ByteArray) = dg at *
        have HDG := Lib.hid hdg
        clear hdg
        have g1 : ¬ 9223372036854775807 < (wB k).size + 1 := by omega
        have g2 : ¬ 9223372036854775807 < (wB k).size + 1 + dg.size := by omega
        have g3 : ¬ 9223372036854775807 < (wB k).size + 1 + dg.size + 1 := by omega
        have g5 : (showK ⟨l0, l1, l2, l3, l4, l5, t⟩ k).length + (wB k ++ ⟨#[32]⟩ ++ dg ++ ⟨#[10]⟩ : ByteArray).size ≤ 10000 := by
          have e1 : (⟨#[32]⟩ : ByteArray).size = 1 := rfl
          have e2 : (⟨#[10]⟩ : ByteArray).size = 1 := rfl
          rw [ByteArray.size_append, ByteArray.size_append, ByteArray.size_append, e1, e2]; omega
        go_wp2_with fail
        go_region_held3 (fun w' => SE w w.heap.size k (u : Int) w') (first | (refine SE_below hS ?_ (Nat.le_of_lt hwz) hk6 hwz (by assumption); exact SE_isOv hSE (by repeat (first | with_reducible exact IsOv.refl _ | with_reducible apply IsOv.dr | with_reducible apply IsOv.drewN | with_reducible apply IsOv.drew | with_reducible apply IsOv.alloc | with_reducible apply IsOv.ov))) | exact SE_isOv hSE (by repeat (first | with_reducible exact IsOv.refl _ | with_reducible apply IsOv.dr | with_reducible apply IsOv.drewN | with_reducible apply IsOv.drew | with_reducible apply IsOv.alloc | with_reducible apply IsOv.ov))) (first | (go_at_call 21; refine (itoaN_gives u hu2 _ (hS.of_isOv (IsOv.trans hovw (by repeat (first | with_reducible exact IsOv.refl _ | with_reducible apply IsOv.dr | with_reducible apply IsOv.drewN | with_reducible apply IsOv.drew | with_reducible apply IsOv.alloc | with_reducible apply IsOv.ov))))).mono ?_; rintro e w' ⟨rfl, x, rfl⟩; rw [HDG.out]) | (go_at_call 19; go_loud (refine Calls.mono (putS_calls w1.heap.size w1.heap.size (showK ⟨l0, l1, l2, l3, l4, l5, t⟩ k) _ _ ?_ ?_ ?_) ?_; exact (isBuilderF_isOv hbld.out (by repeat (first | with_reducible exact IsOv.refl _ | with_reducible apply IsOv.dr | with_reducible apply IsOv.drewN | with_reducible apply IsOv.drew | with_reducible apply IsOv.alloc | with_reducible apply IsOv.ov))); exact g5; (simp [go_sem]; omega); rintro e w5 ⟨⟨v, rfl⟩, hbb, hbel⟩)))
        rename_i hSE5
        have hb5 : Lib.IsBuilderF 51 5 w1.heap.size w1.heap.size (Lib.byteCells (showK ⟨l0, l1, l2, l3, l4, l5, t⟩ (k + 1))) w5 := by
          rw [hST.out]; exact hbb
        have HB5 := Lib.hid hb5
        have hbox5 := Lib.hid ((hbel.block w.heap.size hwz).trans (IsOv.heap (by repeat (first | with_reducible exact IsOv.refl _ | with_reducible apply IsOv.dr | with_reducible apply IsOv.drewN | with_reducible apply IsOv.drew | with_reducible apply IsOv.alloc | with_reducible apply IsOv.ov)) hbox.out))
        have hsz5 : w1.heap.size < w5.heap.size := by have := hbel.size; simp [go_sem] at this; omega
        have hov5 := hSE5.2.1
        clear hbb hbel hb5 hSE5 hSE
        go_wp2_with fail
        go_roundw
        case rel => exact ⟨k + 1, by go_num, by omega, hov5, hsz5, hbox5, HB5⟩
        case measure => simp [intOf]; omega
      · obtain rfl : k = 6 := by omega
        have ht6 : wr.cell? ⟨w.heap.size, 6, none⟩ = some (.bool t) := by rw [cell_of_heap hbox.out]; rfl
        have hE := HEND.out
        have hkl := HL.out 6 (by decide)
        cases t
        · have HE : Hid (showK ⟨l0, l1, l2, l3, l4, l5, false⟩ 6 = showF ⟨l0, l1, l2, l3, l4, l5, false⟩) := Lib.hid (by rw [hE]; simp)
          have HB := Lib.hid (by rw [HE.out] at hbld; exact hbld.out)
          clear hE HL HG HSTEP HEND hbld hbox
          go_wp2_with (go_at_call 22; refine Calls.mono (Tryd.Builder_String_any_k w1.heap.size w1.heap.size _ wr HB.out (Nat.le_of_lt hszr)) ?_; rintro e w6 ⟨rfl, hbb6, hbel6, hk6⟩)
          have hov6 := ov_below hovw (Nat.le_of_lt hwz) hbel6
          exact bodyPost_ret (v := .tuple #[.string ⟨(showF ⟨l0, l1, l2, l3, l4, l5, false⟩).toArray⟩, .int .i64 0]) (by simp [results, Tryd.results9, go_sem, ↓IntWalk.iteOmega]) rfl ⟨by rw [HV.out], hov6⟩
        · have HE : Hid (showK ⟨l0, l1, l2, l3, l4, l5, true⟩ 6 ++ (⟨#[116, 117, 114, 110, 101, 100, 10]⟩ : ByteArray).data.toList = showF ⟨l0, l1, l2, l3, l4, l5, true⟩) := Lib.hid (by rw [hE]; simp [turnedW])
          have HBL := Lib.hid hbld.out
          clear hE HL HG HSTEP HEND hbld hbox
          go_wp2_with (go_at_call 19; refine Calls.mono (putS_calls w1.heap.size w1.heap.size (showK ⟨l0, l1, l2, l3, l4, l5, true⟩ 6) _ wr HBL.out (by have : (⟨#[116, 117, 114, 110, 101, 100, 10]⟩ : ByteArray).size = 7 := rfl; omega) (Nat.le_of_lt hszr)) ?_; rintro e w5 ⟨⟨v, rfl⟩, hbb, hbel⟩; rw [HE.out] at hbb)
          have hov5 := ov_below hovw (Nat.le_of_lt hwz) hbel
          have hsz5 : w1.heap.size ≤ w5.heap.size := by have := hbel.size; omega
          have HBB := Lib.hid hbb
          clear hbel hbb
          go_wp2_with (go_at_call 22; refine Calls.mono (Tryd.Builder_String_any_k w1.heap.size w1.heap.size _ w5 HBB.out hsz5) ?_; rintro e w6 ⟨rfl, hbb6, hbel6, hk6⟩)
          have hov6 := ov_below hov5 (Nat.le_of_lt hwz) hbel6
          exact bodyPost_ret (v := .tuple #[.string ⟨(showF ⟨l0, l1, l2, l3, l4, l5, true⟩).toArray⟩, .int .i64 0]) (by simp [results, Tryd.results9, go_sem, ↓IntWalk.iteOmega]) rfl ⟨by rw [HV.out], hov6⟩
end Go.Proofs.YtaibjaienhnckaaDoor
