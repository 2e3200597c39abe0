/- Layer 22: Report of the one finding that the law asks for. Condition: the variables lie as the program lays them. -/
import Derived.Test.YtaibjaienhnckaaDoorO
import Derived.Test.YtaibjaienhnckaaDoorVi
import Derived.Deep.RegionWith
set_option linter.unusedVariables false
set_option linter.unusedSimpArgs false
namespace Go.Proofs.YtaibjaienhnckaaDoor
open Go.RowKit
theorem dig1 : Lib.decDigits 1 = [49] := by decide +kernel
theorem dig2 : Lib.decDigits 2 = [50] := by decide +kernel
theorem dig35 : Lib.decDigits 35 = [51, 53] := by decide +kernel
theorem itoa1_gives (w : World) : Gives Tryd.prog 21 #[.int .i64 1] w (.string ⟨#[49]⟩) := by
  have := itoa_gives 1 (by decide) w
  rw [dig1] at this
  exact this
theorem itoa2_gives (w : World) : Gives Tryd.prog 21 #[.int .i64 2] w (.string ⟨#[50]⟩) := by
  have := itoa_gives 2 (by decide) w
  rw [dig2] at this
  exact this
theorem itoa35_gives (w : World) : Gives Tryd.prog 21 #[.int .i64 35] w (.string ⟨#[51, 53]⟩) := by
  have := itoa_gives 35 (by decide) w
  rw [dig35] at this
  exact this
theorem cells_new (W : World) (cs : List ByteArray) (N : Nat) (hN : N = W.heap.size) : ∀ (j : Nat) x, cs[j]? = some x → (W.alloc (.cells (cs.map Value.string).toArray 9)).cell? ⟨N, 0 + j, none⟩ = some (.string x) := by
  intro j x hj
  subst hN
  rw [World.cell_alloc_cells, if_neg (Nat.lt_irrefl _), if_pos rfl, Nat.zero_add]
  simp [hj]
abbrev XS (b g : Nat) (W : World) : Prop := W.cell? ⟨b, 0, none⟩ = some (.string ⟨#[117, 110, 115, 97, 102, 101]⟩) ∧ W.cell? ⟨b, 1, none⟩ = some (.slice (some ⟨g, 0, none⟩) 1 1) ∧ W.cell? ⟨b, 2, none⟩ = some (.int .i64 4) ∧ W.cell? ⟨b, 3, none⟩ = some (.int .i64 1) ∧ W.cell? ⟨b, 4, none⟩ = some (.int .i64 35) ∧ W.cell? ⟨b, 6, none⟩ = some (.int .i64 2) ∧ W.cell? ⟨b, 7, none⟩ = some (.int .i64 1) ∧ W.cell? ⟨g, 0, none⟩ = some (.int .u64 9)
theorem XS_ov {b g : Nat} {W : World} {x : Ext} (h : XS b g W) : XS b g (W.ov x) := ⟨cellk_ov h.1 x, cellk_ov h.2.1 x, cellk_ov h.2.2.1 x, cellk_ov h.2.2.2.1 x, cellk_ov h.2.2.2.2.1 x, cellk_ov h.2.2.2.2.2.1 x, cellk_ov h.2.2.2.2.2.2.1 x, cellk_ov h.2.2.2.2.2.2.2 x⟩
theorem XS_alloc {b g : Nat} {W : World} {o : Obj} (h : XS b g W) : XS b g (W.alloc o) := ⟨cellk_alloc h.1 o, cellk_alloc h.2.1 o, cellk_alloc h.2.2.1 o, cellk_alloc h.2.2.2.1 o, cellk_alloc h.2.2.2.2.1 o, cellk_alloc h.2.2.2.2.2.1 o, cellk_alloc h.2.2.2.2.2.2.1 o, cellk_alloc h.2.2.2.2.2.2.2 o⟩
theorem XS_below {b g B : Nat} {W W' : World} (h : XS b g W) (hp : b < B) (hg : g < B) (hb : Below B W W') : XS b g W' := ⟨cellk_below h.1 hb hp, cellk_below h.2.1 hb hp, cellk_below h.2.2.1 hb hp, cellk_below h.2.2.2.1 hb hp, cellk_below h.2.2.2.2.1 hb hp, cellk_below h.2.2.2.2.2.1 hb hp, cellk_below h.2.2.2.2.2.2.1 hb hp, cellk_below h.2.2.2.2.2.2.2 hb hg⟩
theorem XS_isOv {b g : Nat} {W W' : World} (h : XS b g W) (hb : IsOv W W') : XS b g W' := by obtain ⟨x, rfl⟩ := hb; exact XS_ov h
theorem txt1 : (([] : List UInt8) ++ (Lib.join (([⟨#[117, 110, 115, 97, 102, 101]⟩, ⟨#[97, 115, 115, 101, 114, 116]⟩, ⟨#[97, 116]⟩, ⟨#[49]⟩, ⟨#[51, 53]⟩] : List ByteArray).map (·.data.toList)) [32] ++ [10])) = [117, 110, 115, 97, 102, 101, 32, 97, 115, 115, 101, 114, 116, 32, 97, 116, 32, 49, 32, 51, 53, 10] := by decide +kernel
theorem txt2 : (([117, 110, 115, 97, 102, 101, 32, 97, 115, 115, 101, 114, 116, 32, 97, 116, 32, 49, 32, 51, 53, 10] : List UInt8) ++ (Lib.join (([⟨#[100, 114, 97, 119, 115]⟩, ⟨#[57]⟩] : List ByteArray).map (·.data.toList)) [32] ++ [10])) = [117, 110, 115, 97, 102, 101, 32, 97, 115, 115, 101, 114, 116, 32, 97, 116, 32, 49, 32, 51, 53, 10, 100, 114, 97, 119, 115, 32, 57, 10] := by decide +kernel
theorem txt3 : (([117, 110, 115, 97, 102, 101, 32, 97, 115, 115, 101, 114, 116, 32, 97, 116, 32, 49, 32, 51, 53, 10, 100, 114, 97, 119, 115, 32, 57, 10] : List UInt8) ++ (Lib.join (([⟨#[114, 111, 117, 110, 100, 115]⟩, ⟨#[50]⟩, ⟨#[97, 115, 107, 115]⟩, ⟨#[49]⟩] : List ByteArray).map (·.data.toList)) [32] ++ [10])) = [117, 110, 115, 97, 102, 101, 32, 97, 115, 115, 101, 114, 116, 32, 97, 116, 32, 49, 32, 51, 53, 10, 100, 114, 97, 119, 115, 32, 57, 10, 114, 111, 117, 110, 100, 115, 32, 50, 32, 97, 115, 107, 115, 32, 49, 10] := by decide +kernel
theorem str_info : (Tryd.prog.info? 9).map (fun i => (i.zero, i.size, i.bytes)) = some (some (.string ⟨#[]⟩), 1, 16) := by kernel_rfl
set_option maxRecDepth 100000 in
set_option maxHeartbeats 2000000 in
theorem Report_gives (w : World) (hL : LaidV w) (g : Nat) (hg : w.cell? ⟨g, 0, none⟩ = some (.int .u64 9)) : Gives Tryd.prog 14 #[.agg #[.string ⟨#[117, 110, 115, 97, 102, 101]⟩, .slice (some ⟨g, 0, none⟩) 1 1, .int .i64 4, .int .i64 1, .int .i64 35, .string ⟨#[]⟩, .int .i64 2, .int .i64 1]] w (.string ⟨#[117, 110, 115, 97, 102, 101, 32, 97, 115, 115, 101, 114, 116, 32, 97, 116, 32, 49, 32, 51, 53, 10, 100, 114, 97, 119, 115, 32, 57, 10, 114, 111, 117, 110, 100, 115, 32, 50, 32, 97, 115, 107, 115, 32, 49, 10]⟩) := by
  unfold Gives
  go_enter Tryd.func14, Tryd.ntmps14
  go_wp2_with fail
  have hB0 : Lib.IsBuilderF 51 5 (w.heap.size + 1) (w.heap.size + 1) (Lib.byteCells []) ((w.alloc (.cells #[.string ⟨#[117, 110, 115, 97, 102, 101]⟩, .slice (some ⟨g, 0, none⟩) 1 1, .int .i64 4, .int .i64 1, .int .i64 35, .string ⟨#[]⟩, .int .i64 2, .int .i64 1] 40)).alloc (.cells #[.pointer none, .slice none 0 0] 51)) := by
    refine .inl ⟨Nat.le_refl _, .slice none 0 0, ?_, ⟨rfl, .inl ⟨rfl, rfl⟩⟩, by simp [Value.ownBlock]⟩
    have := heap_alloc_new (w.alloc (.cells #[.string ⟨#[117, 110, 115, 97, 102, 101]⟩, .slice (some ⟨g, 0, none⟩) 1 1, .int .i64 4, .int .i64 1, .int .i64 35, .string ⟨#[]⟩, .int .i64 2, .int .i64 1] 40)) (.cells #[.pointer none, .slice none 0 0] 51)
    simpa using this
  have hgN : g < w.heap.size + 1 := Nat.lt_succ_of_lt (World.block_lt_of_cell? w _ hg)
  have hX0 : XS w.heap.size g ((w.alloc (.cells #[.string ⟨#[117, 110, 115, 97, 102, 101]⟩, .slice (some ⟨g, 0, none⟩) 1 1, .int .i64 4, .int .i64 1, .int .i64 35, .string ⟨#[]⟩, .int .i64 2, .int .i64 1] 40)).alloc (.cells #[.pointer none, .slice none 0 0] 51)) := by
    refine XS_alloc ⟨?_, ?_, ?_, ?_, ?_, ?_, ?_, cellk_alloc hg _⟩ <;> (rw [World.cell_alloc_cells, if_neg (Nat.lt_irrefl _), if_pos rfl]; rfl)
  go_region_held3 (fun w' => XS w.heap.size g w') (first | exact XS_ov (by assumption) | exact XS_alloc (by assumption) | exact XS_below (by assumption) (Nat.lt_succ_self _) hgN (by assumption) | exact hX0) (first | (go_at_call 27; refine Calls.mono (put_calls (w.heap.size + 1) (w.heap.size + 1) [] _ _ [⟨#[117, 110, 115, 97, 102, 101]⟩, ⟨#[97, 115, 115, 101, 114, 116]⟩, ⟨#[97, 116]⟩, ⟨#[49]⟩, ⟨#[51, 53]⟩] _ ?_ ?_ ?_ (by decide) (by decide) (by decide +kernel) (by decide) ?_) ?_; exact (isBuilderF_isOv hB0 (by repeat (first | with_reducible exact IsOv.refl _ | with_reducible apply IsOv.dr | with_reducible apply IsOv.drewN | with_reducible apply IsOv.drew | with_reducible apply IsOv.alloc | with_reducible apply IsOv.ov))); exact (cells_new _ _ _ (by first | rfl | simp [go_sem])); (simp [go_sem]; try omega); (simp [go_sem]; try omega); rintro e w' ⟨rfl, hbb, hbel⟩; rw [txt1] at hbb) | (go_at_call 29; refine (name_gives _).mono ?_; rintro e w' ⟨rfl, x, rfl⟩) | (go_at_call 21; refine (itoa1_gives _).mono ?_; rintro e w' ⟨rfl, x, rfl⟩) | (go_at_call 21; refine (itoa35_gives _).mono ?_; rintro e w' ⟨rfl, x, rfl⟩))
  rename_i hX
  have hov := ov_below (w := w) (by repeat (first | with_reducible exact IsOv.refl _ | with_reducible apply IsOv.dr | with_reducible apply IsOv.drewN | with_reducible apply IsOv.drew | with_reducible apply IsOv.alloc | with_reducible apply IsOv.ov)) (Nat.le_succ _) hbel
  have hsz := hbel.size
  simp [go_sem] at hsz
  replace hsz : w.heap.size + 2 ≤ w'.heap.size := by omega
  clear hbel hB0 hX0
  obtain ⟨i0, hi, hz0, hz1, hz2⟩ := info_parts str_info
  go_wp2_with fail
  have hown0 : (w'.alloc (.cells #[.string ⟨#[100, 114, 97, 119, 115]⟩] 9)).ownsRow w'.heap.size 9 1 (.slice (some ⟨w'.heap.size, 0, none⟩) 1 1) 1 ([⟨#[100, 114, 97, 119, 115]⟩].map Value.string) := ⟨rfl, .inr ⟨_, 1, _, rfl, Nat.le_refl _, heap_alloc_new _ _, by decide, by decide, rfl, rfl⟩⟩
  have hXa : XS w.heap.size g (w'.alloc (.cells #[.string ⟨#[100, 114, 97, 119, 115]⟩] 9)) := XS_alloc hX
  refine wp_loop_rounds 2 ?_
  rw [rounds_succ]
  go_wp2_with (first | (go_at_call 30; refine (formatUint_gives _).mono ?_; rintro e w'' ⟨rfl, x9, rfl⟩) | (at_builtin; go_loud (refine wpList_append_lies _ rfl _ _ 29 rfl w'.heap.size 9 i0 _ 1 16 Tryd.underlying29 hi hz0 hz1 hz2 rfl (by decide) _ _ _ rfl (ownsRow_isOv hown0 (by repeat (first | with_reducible exact IsOv.refl _ | with_reducible apply IsOv.dr | with_reducible apply IsOv.drewN | with_reducible apply IsOv.drew | with_reducible apply IsOv.alloc | with_reducible apply IsOv.ov))) ⟨w'.heap.size + 1 + x9.blocks.size, 0, none⟩ 1 1 [.string ⟨#[57]⟩] rfl rfl (news_new _ #[.string ⟨#[57]⟩] _ _ _ (by simp [go_sem])) (by simp [Value.oneCell']) (by decide) (by decide) (by decide) (by simp [go_sem]; omega) _ rfl ?_; intro g2 cap w3 hown3 hgrow hat hlt3; have hov3 : IsOv w' w3 := IsOv.grown (v := .slice (some ⟨w'.heap.size, 0, none⟩) 1 1) (by repeat (first | with_reducible exact IsOv.refl _ | with_reducible apply IsOv.dr | with_reducible apply IsOv.drewN | with_reducible apply IsOv.drew | with_reducible apply IsOv.alloc | with_reducible apply IsOv.ov)) hgrow (fun q hq => ownsRow_block hown0 q hq); have hX3 := XS_isOv hX hov3; clear hgrow hat)))
  rw [rounds_succ]
  go_wp2_with ((go_at_call 27; go_loud (refine Calls.mono (put_calls (w.heap.size + 1) (w.heap.size + 1) [117, 110, 115, 97, 102, 101, 32, 97, 115, 115, 101, 114, 116, 32, 97, 116, 32, 49, 32, 51, 53, 10] _ _ [⟨#[100, 114, 97, 119, 115]⟩, ⟨#[57]⟩] _ (isBuilderF_isOv hbb hov3) (ownsRow_texts (xs := [⟨#[100, 114, 97, 119, 115]⟩, ⟨#[57]⟩]) hown3) hlt3 (by decide) (ownsRow_cap hown3) (by decide +kernel) (by decide +kernel) ?_) ?_; (have := hov3.below.size; omega); rintro e w4 ⟨rfl, hbb4, hbel4⟩; rw [txt2] at hbb4; have hov4 := ov_below (hov.trans hov3) (Nat.le_succ _) hbel4; have hX4 := XS_below hX3 (Nat.lt_succ_self _) hgN hbel4; (have hsz4 : w.heap.size + 2 ≤ w4.heap.size := (by have := hov3.below.size; have := hbel4.size; omega)); clear hbel4 hX3 hXa hX hbb hown0 hown3 hov hov3 hlt3 hsz)))
  go_region_held3 (fun w' => XS w.heap.size g w') (first | exact XS_ov (by assumption) | exact XS_alloc (by assumption) | exact XS_below (by assumption) (Nat.lt_succ_self _) hgN (by assumption) | exact hX4) (first | (go_at_call 27; go_loud (refine Calls.mono (put_calls (w.heap.size + 1) (w.heap.size + 1) [117, 110, 115, 97, 102, 101, 32, 97, 115, 115, 101, 114, 116, 32, 97, 116, 32, 49, 32, 51, 53, 10, 100, 114, 97, 119, 115, 32, 57, 10] _ _ [⟨#[114, 111, 117, 110, 100, 115]⟩, ⟨#[50]⟩, ⟨#[97, 115, 107, 115]⟩, ⟨#[49]⟩] _ ?_ ?_ ?_ (by decide) (by decide) (by decide +kernel) (by decide +kernel) ?_) ?_; exact (isBuilderF_isOv hbb4 (by repeat (first | with_reducible exact IsOv.refl _ | with_reducible apply IsOv.dr | with_reducible apply IsOv.drewN | with_reducible apply IsOv.drew | with_reducible apply IsOv.alloc | with_reducible apply IsOv.ov))); exact (cells_new _ _ _ (by first | rfl | simp [go_sem])); (simp [go_sem]; try omega); (simp [go_sem]; omega); rintro e w5 ⟨rfl, hbb5, hbel5⟩; rw [txt3] at hbb5)) | (go_at_call 21; refine (itoa1_gives _).mono ?_; rintro e w' ⟨rfl, x, rfl⟩) | (go_at_call 21; refine (itoa2_gives _).mono ?_; rintro e w' ⟨rfl, x, rfl⟩))
  have hov5 := ov_below (w := w) (W' := w5) (B := w.heap.size + 1) (hov4.trans (by repeat (first | with_reducible exact IsOv.refl _ | with_reducible apply IsOv.dr | with_reducible apply IsOv.drewN | with_reducible apply IsOv.drew | with_reducible apply IsOv.alloc | with_reducible apply IsOv.ov))) (Nat.le_succ _) hbel5
  have hsz5 := hbel5.size
  simp [go_sem] at hsz5
  replace hsz5 : w.heap.size + 1 ≤ w5.heap.size := by omega
  clear hbel5
  go_wp2_with (go_at_call 22; refine Calls.mono (Tryd.Builder_String_any_k (w.heap.size + 1) (w.heap.size + 1) _ w5 hbb5 hsz5) ?_; rintro e w6 ⟨rfl, hbb6, hbel6, hk6⟩)
  have hov6 := ov_below hov5 (Nat.le_succ _) hbel6
  exact bodyPost_ret (v := .string ⟨#[117, 110, 115, 97, 102, 101, 32, 97, 115, 115, 101, 114, 116, 32, 97, 116, 32, 49, 32, 51, 53, 10, 100, 114, 97, 119, 115, 32, 57, 10, 114, 111, 117, 110, 100, 115, 32, 50, 32, 97, 115, 107, 115, 32, 49, 10]⟩) (by simp [results, Tryd.results14, go_sem, ↓IntWalk.iteOmega]) rfl ⟨rfl, hov6⟩
end Go.Proofs.YtaibjaienhnckaaDoor
