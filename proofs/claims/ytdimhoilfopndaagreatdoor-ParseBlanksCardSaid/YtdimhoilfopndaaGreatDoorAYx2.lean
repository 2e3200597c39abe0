/- The lexer's word Show over a row of tokens: their texts with blanks between, but the ends'. Condition: at most 70000 tokens; the texts together take less than 2^46 bytes. -/
import Derived.Test.YtdimhoilfopndaaGreatDoorAYs2
import Derived.Test.YtdimhoilfopndaaGreatDoorA5
set_option linter.unusedVariables false
set_option linter.unusedSimpArgs false
section
namespace Go.Proofs.YtdimhoilfopndaaGreatDoor
open Go.RowKit
def txts (ts : List Tok) : List ByteArray := (ts.filter fun t => !(t.kind == 3)).map (·.text)
theorem txts_len (ts : List Tok) : (txts ts).length ≤ ts.length := by unfold txts; rw [List.length_map]; exact List.length_filter_le _ _
theorem txts_take {ts : List Tok} {k : Nat} (h : k < ts.length) : txts (ts.take (k + 1)) = txts (ts.take k) ++ (if ts[k].kind == 3 then [] else [ts[k].text]) := by
 rw [List.take_succ_eq_append_getElem h]
 unfold txts
 rw [List.filter_append, List.map_append]
 congr 1
 cases hk : (ts[k].kind == 3) <;> simp [List.filter, hk]
theorem str_info : (Tryz.prog.info? 9).map (fun i => (i.zero, i.size, i.bytes)) = some (some (.string ⟨#[]⟩), 1, 16) := by kernel_rfl
set_option maxHeartbeats 1000000 in
set_option maxRecDepth 20000 in
theorem lexShow_gives (w : World) (v : Value) (ts : List Tok) (ht : Toks w v ts) (hn : ts.length ≤ 70000) (hjl : (Lib.join ((txts ts).map (·.data.toList)) [32]).length ≤ 140737488355328) : Gives Tryz.prog 18 #[v] w (.string ⟨(Lib.join ((txts ts).map (·.data.toList)) [32]).toArray⟩) := by
 obtain ⟨a, c, rfl, hp⟩ := ht.form
 have hJ := hid hjl
 clear hjl
 unfold Gives
 go_enter Tryz.func18, Tryz.ntmps18
 go_wp2_with fail
 obtain ⟨i0, hi, hz0, hz1, hz2⟩ := info_parts str_info
 go_loopw [8, 3] (fun i v wr => ∃ k : Nat, i = .int .i64 (k : Int) ∧ k ≤ ts.length ∧ IsOv w wr ∧ wr.ownsRow w.heap.size 9 1 v (txts (ts.take k)).length ((txts (ts.take k)).map Value.string)) (fun i v wr => (ts.length - intOf i).toNat)
 case atStart => exact ⟨0, rfl, Nat.zero_le _, IsOv.refl _, World.ownsRow_nil _ _ _ _⟩
 case round =>
  obtain ⟨k, rfl, hk, hov, hown⟩ := hrel
  by_cases hlt : k < ts.length
  ·
   have hlt2 : (k : Int) < ts.length := by omega
   obtain ⟨g, rfl, hg, hc⟩ := hp (by omega)
   have qa := fun (j : Nat) (hj : j < 5) (u : Value) (hu : (ts[k].cells)[j]? = some u) => hov.cell (hc (k * 5 + j) u ((flat_cell ts k j hlt hj).trans hu))
   have hwz : w.heap.size ≤ wr.heap.size := hov.below.size
   have htk := txts_take hlt
   have hlen := txts_len (ts.take k)
   rw [List.length_take] at hlen
   rcases hX : ts[k] with ⟨t0, t1, t2, t3, t4⟩
   rw [hX] at qa htk
   have f0 : wr.cell? ⟨g, k * 5, none⟩ = some (.int .i64 t0) := qa 0 (by decide) (.int .i64 t0) rfl
   have f1 := qa 1 (by decide) (.string t1) rfl
   have f2 := qa 2 (by decide) (.int .u64 t2) rfl
   have f3 := qa 3 (by decide) (.int .i64 t3) rfl
   have f4 := qa 4 (by decide) (.int .i64 t4) rfl
   clear qa hc hp ht hX
   dsimp only at htk
   cases hk3 : (t0 == 3)
   ·
    rw [hk3] at htk
    have H2 := hid htk
    clear htk
    go_wp2_with (first | (at_builtin; go_loud (refine wpList_append_lies _ rfl _ _ 51 rfl w.heap.size 9 i0 _ 1 16 Tryz.underlying51 hi hz0 hz1 hz2 rfl (by decide) _ _ _ rfl (ownsRow_isOv hown (by repeat (first | with_reducible exact IsOv.refl _ | (with_reducible refine IsOv.setCell ?_ ?_ _; rotate_left; (first | exact Nat.le_refl _ | exact Nat.le_succ _)) | with_reducible apply IsOv.dr | with_reducible apply IsOv.drewN | with_reducible apply IsOv.drew | with_reducible apply IsOv.alloc | with_reducible apply IsOv.ov))) ⟨wr.heap.size + 1, 0, none⟩ 1 1 [.string t1] rfl rfl (news_second wr _ #[.string t1] _ _) (by simp [Value.oneCell']) (by decide) (by simp only [maxLen]; omega) (by omega) (by simp; omega) _ rfl ?_; intro g1 cap w3 hown3 hgrow hat hlt3; have hov3 : IsOv w w3 := IsOv.grown ((hov.alloc _).alloc _) hgrow (fun q hq => ownsRow_block hown q hq); clear hgrow hat)))
    go_roundw
    case rel => exact ⟨k + 1, by go_num, by omega, hov3, by rw [H2.out]; simpa using hown3⟩
    case measure => simp [intOf]; omega
   ·
    rw [hk3] at htk
    have H2 := hid htk
    clear htk
    go_wp2_with fail
    go_roundw
    case rel => exact ⟨k + 1, by go_num, by omega, hov.trans (by repeat (first | with_reducible exact IsOv.refl _ | (with_reducible refine IsOv.setCell ?_ ?_ _; rotate_left; (first | exact Nat.le_refl _ | exact Nat.le_succ _)) | with_reducible apply IsOv.dr | with_reducible apply IsOv.drewN | with_reducible apply IsOv.drew | with_reducible apply IsOv.alloc | with_reducible apply IsOv.ov)), by rw [H2.out]; simpa using ownsRow_isOv hown (by repeat (first | with_reducible exact IsOv.refl _ | (with_reducible refine IsOv.setCell ?_ ?_ _; rotate_left; (first | exact Nat.le_refl _ | exact Nat.le_succ _)) | with_reducible apply IsOv.dr | with_reducible apply IsOv.drewN | with_reducible apply IsOv.drew | with_reducible apply IsOv.alloc | with_reducible apply IsOv.ov))⟩
    case measure => simp [intOf]; omega
  ·
   obtain rfl : k = ts.length := by omega
   rw [List.take_length] at hown
   go_wp2_with fail
   have hnl := txts_len ts
   have hov2 : ∀ W, Below wr.heap.size wr W → IsOv w W := fun W hb => hov.trans (IsOv.of_below hb)
   clear hp ht
   by_cases hx : 0 < (txts ts).length
   ·
    obtain ⟨g, cap, rfl, hg0, hg1⟩ := hown.form hx
    have hcells : ∀ (j : Nat) x, (txts ts)[j]? = some x → wr.cell? ⟨g, 0 + j, none⟩ = some (.string x) := fun j x hj => by
     have := hown.cells (g := g) rfl j (.string x) (by rw [List.getElem?_map, hj]; rfl)
     rw [addr_add0] at this
     rwa [Nat.zero_add]
    have hcap : (txts ts).length ≤ cap := by
     rcases hown.2 with ⟨hv, _⟩ | ⟨g', cap', cur, hv, _, _, hc, _⟩
     · cases hv
     · injection hv with _ _ h3; rw [h3]; exact hc
    refine (Tryz.strings_Join g 0 cap (txts ts) ⟨#[32]⟩ wr hcells hg1 (by omega) hcap hJ.out).mono ?_
    rintro e w4 ⟨rfl, hb4⟩
    have hov4 := hov2 _ hb4
    clear hcells hown hb4 hov2
    generalize hq : (Lib.join ((txts ts).map (·.data.toList)) (⟨#[32]⟩ : ByteArray).data.toList).toArray = q
    have HQ := hid hq
    clear hq
    go_wp2_with fail
    exact bodyPost_ret (v := .string ⟨q⟩) (by simp [results, Tryz.results18, go_sem, ↓IntWalk.iteOmega]) rfl ⟨by rw [← HQ.out], hov4⟩
   ·
    have hx0 : txts ts = [] := List.eq_nil_of_length_eq_zero (by omega)
    have hvv : ∃ a c, u3 = .slice a 0 c := by
     rcases hown.2 with ⟨hv, hn0⟩ | ⟨g, cap, cur, hv, _⟩
     · exact ⟨none, 0, by rw [hv]⟩
     · exact ⟨some ⟨g, 0, none⟩, cap, by rw [hv, hx0]; rfl⟩
    obtain ⟨a2, c2, rfl⟩ := hvv
    refine (Tryz.strings_Join_none a2 c2 ⟨#[32]⟩ wr).mono ?_
    rintro e w4 ⟨rfl, rfl⟩
    clear hown
    go_wp2_with fail
    exact bodyPost_ret (v := .string ⟨#[]⟩) (by simp [results, Tryz.results18, go_sem, ↓IntWalk.iteOmega]) rfl ⟨by rw [hx0]; rfl, hov⟩
end Go.Proofs.YtdimhoilfopndaaGreatDoor
end
