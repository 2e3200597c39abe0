/- Texts of one proof, put together: Yl. Conditions: as each lemma says. -/
import Derived.OwnWalk
import Derived.Deep.AppendLies
import Derived.Test.YtdimhoilfopndaaGreatDoorA5
set_option linter.unusedVariables false
set_option linter.unusedSimpArgs false
section
namespace Go.Proofs.YtdimhoilfopndaaGreatDoor
open Go.RowKit
def Tok.val (t : Tok) : Value := .agg t.cells.toArray
theorem Tok.val_mk (a : Int) (b : ByteArray) (c d e : Int) : (Tok.mk a b c d e).val = .agg #[.int .i64 a, .string b, .int .u64 c, .int .i64 d, .int .i64 e] := rfl
theorem next_gives (w : World) (p : Nat) (src : ByteArray) (a : Nat) (hc0 : w.cell? ⟨p, 0, none⟩ = some (.string src)) (hc1 : w.cell? ⟨p, 1, none⟩ = some (.int .i64 (a : Int))) (hc2 : w.cell? ⟨p, 2, none⟩ = some (.int .i64 (lcAt src a).1)) (hc3 : w.cell? ⟨p, 3, none⟩ = some (.int .i64 (lcAt src a).2)) (hs : src.size ≤ 65536) (hL : LaidX w) (ha : a ≤ src.size) :
  Gives Tryz.prog 27 #[.pointer (some ⟨p, 0, none⟩)] w (.tuple #[(nextF src a).1.val, .int .i64 (nextF src a).2]) := by
 by_cases h : a = src.size
 ·
  have hn : nextF src a = (⟨3, ⟨#[]⟩, 0, (lcAt src a).1, (lcAt src a).2⟩, 0) := by unfold nextF; rw [if_pos h]
  rw [hn]
  exact next_end w p src a _ _ hc0 hc1 hc2 hc3 hs h
 ·
  have q := spanN_le (p := letterB) ha
  by_cases h2 : 0 < spanN letterB src a
  ·
   cases hd : digitB (byteAt src a)
   ·
    have hn : nextF src a = (⟨0, src.extract a (a + spanN letterB src a), 0, (lcAt src a).1, (lcAt src a).2⟩, 0) := by unfold nextF; rw [if_neg h, if_pos h2, hd]; rfl
    rw [hn]
    exact next_name w p src a _ _ hc0 hc1 hc2 hc3 hs hL _ h2 rfl q hd
   ·
    cases hv : numV (src.extract a (a + spanN letterB src a)) with
    | none =>
     have hn : nextF src a = (⟨0, src.extract a (a + spanN letterB src a), 0, (lcAt src a).1, (lcAt src a).2⟩, 21) := by unfold nextF; rw [if_neg h, if_pos h2, hd, hv]; rfl
     rw [hn]
     exact next_bad w p src a _ _ hc0 hc1 hc2 hc3 hs hL _ h2 rfl q hd hv
    | some v =>
     have hn : nextF src a = (⟨1, src.extract a (a + spanN letterB src a), v, (lcAt src a).1, (lcAt src a).2⟩, 0) := by unfold nextF; rw [if_neg h, if_pos h2, hd, hv]; rfl
     rw [hn]
     exact next_number w p src a _ _ hc0 hc1 hc2 hc3 hs hL _ h2 rfl q hd v hv
  ·
   have hz : spanN letterB src a = 0 := by omega
   have := next_sign w p src a _ _ hc0 hc1 hc2 hc3 hs hL hz (by omega)
   cases hg : sgFind (src.data.toList.drop a) with
   | none =>
    have hn : nextF src a = (⟨3, ⟨#[]⟩, 0, (lcAt src a).1, (lcAt src a).2⟩, 20) := by unfold nextF; rw [if_neg h, if_neg h2, hg]
    rw [hn]; rw [hg] at this; exact this
   | some i =>
    have hn : nextF src a = (⟨2, sgAt i, 0, (lcAt src a).1, (lcAt src a).2⟩, 0) := by unfold nextF; rw [if_neg h, if_neg h2, hg]
    rw [hn]; rw [hg] at this; exact this
def LexA.after (ts : List Tok) (r : LexA) : LexA := if r.err = 0 then ⟨ts ++ r.toks, r.line, r.col, r.err⟩ else r
theorem LexA.after_cons (ts : List Tok) (t : Tok) (r : LexA) : LexA.after ts (LexA.cons t r) = LexA.after (ts ++ [t]) r := by
 unfold LexA.after LexA.cons
 by_cases h : r.err = 0
 · simp [h]
 · simp [h]
theorem LexA.after_nil (r : LexA) : LexA.after [] r = r := by unfold LexA.after; split <;> simp
theorem lcAt_range (src : ByteArray) (b : Nat) : (1 ≤ (lcAt src b).1 ∧ (lcAt src b).1 ≤ b + 1) ∧ (1 ≤ (lcAt src b).2 ∧ (lcAt src b).2 ≤ b + 1) := by
 have := lcI_range (src := src) (a := 0) (line := 1) (col := 1) ⟨by omega, by omega⟩ ⟨by omega, by omega⟩ b
 unfold lcAt; simpa using this
theorem lcAt_add (src : ByteArray) (a n : Nat) : lcI src a ((lcAt src a).1, (lcAt src a).2) n = lcAt src (a + n) := by
 have := lcI_add src 0 (1, 1) a n
 simpa [lcAt] using this
theorem ownsRow_isOv {w w' : World} {base : Nat} {e : TypeId} {size : Nat} {v : Value} {n : Nat} {xs : List Value} (h : w.ownsRow base e size v n xs) (hb : IsOv w w') : w'.ownsRow base e size v n xs := by
 obtain ⟨x, rfl⟩ := hb
 refine ⟨h.1, ?_⟩
 rcases h.2 with h2 | ⟨g, cap, cur, hv, hb, hg, h3⟩
 · exact .inl h2
 ·
  refine .inr ⟨g, cap, cur, hv, hb, ?_, h3⟩
  rw [World.heap_ov w x (by
   rcases Nat.lt_or_ge g w.heap.size with hlt | hge
   · exact hlt
   · rw [Array.getElem?_eq_none hge] at hg; cases hg)]
  exact hg
theorem ownsRow_turn {W : World} {c c' : Array Value} {t : TypeId} {fr : Nat × Nat} {x : Ext} {d d' : Nat} {e : TypeId} {size : Nat} {v : Value} {n : Nat} {xs : List Value} {base : Nat} (hb0 : W.heap.size < base)
  (h : (((W.alloc (.cells c t fr)).ov x).dr d).ownsRow base e size v n xs) : (((W.alloc (.cells c' t fr)).ov x).dr d').ownsRow base e size v n xs := by
 refine ⟨h.1, ?_⟩
 rcases h.2 with h2 | ⟨g, cap, cur, hv, hb, hg, h3⟩
 · exact .inl h2
 ·
  refine .inr ⟨g, cap, cur, hv, hb, ?_, h3⟩
  rw [← hg]
  show (((W.heap.push _) ++ x.blocks)[g]?) = (((W.heap.push _) ++ x.blocks)[g]?)
  rw [Array.getElem?_append_right (by simp; omega), Array.getElem?_append_right (by simp; omega)]
  simp
theorem IsOv.grown {W w w' : World} {v : Value} (h : IsOv W w) (hg : w.grownBy w' v.ownBlock) (hv : ∀ b, v.ownBlock = some b → W.heap.size ≤ b) : IsOv W w' := by
 have hb := h.below
 refine IsOv.of_below ⟨hg.os.trans hb.os, hg.tape.trans hb.tape, hg.output.trans hb.output, Nat.le_trans hb.size hg.size, fun k hk => ?_⟩
 rw [hg.block k (Nat.lt_of_lt_of_le hk hb.size) (fun e => absurd (hv k e.symm) (by omega))]
 exact hb.block k hk
theorem ownsRow_block {w : World} {base : Nat} {e : TypeId} {size : Nat} {v : Value} {n : Nat} {xs : List Value} (h : w.ownsRow base e size v n xs) : ∀ b, v.ownBlock = some b → base ≤ b := by
 intro b hb
 rcases h.2 with ⟨rfl, _⟩ | ⟨g, cap, cur, rfl, hb2, _⟩
 · simp [Value.ownBlock] at hb
 · simp [Value.ownBlock] at hb; omega
theorem news_second (w : World) (o : Obj) (cs : Array Value) (t : TypeId) (fr : Nat × Nat) : ∀ j u, cs.toList[j]? = some u → ((w.alloc o).alloc (.cells cs t fr)).cell? ((⟨w.heap.size + 1, 0, none⟩ : Addr).add j) = some u :=
 World.news_of_block (t := t) (fr := fr) (by have := heap_alloc_new (w.alloc o) (.cells cs t fr); simpa using this)
theorem ownsRow_low {w : World} {base : Nat} {e : TypeId} {size : Nat} {v : Value} {n : Nat} {xs : List Value} (h : w.ownsRow (base + 1) e size v n xs) : w.ownsRow base e size v n xs := by
 refine ⟨h.1, ?_⟩
 rcases h.2 with h2 | ⟨g, cap, cur, hv, hb, h3⟩
 · exact .inl h2
 · exact .inr ⟨g, cap, cur, hv, by omega, h3⟩
theorem ownsRow_lt {w : World} {base : Nat} {e : TypeId} {size : Nat} {v : Value} {n : Nat} {xs : List Value} (h : w.ownsRow base e size v n xs) : ∀ b, v.ownBlock = some b → b < w.heap.size := by
 intro b hb
 rcases h.2 with ⟨rfl, _⟩ | ⟨g, cap, cur, rfl, hb2, hg, _⟩
 · simp [Value.ownBlock] at hb
 ·
  simp [Value.ownBlock] at hb
  subst hb
  rcases Nat.lt_or_ge g w.heap.size with hlt | hge
  · exact hlt
  · rw [Array.getElem?_eq_none hge] at hg; cases hg
theorem aft_cell {w w' : World} {c c2 : Array Value} {t t2 : TypeId} {fr fr2 : Nat × Nat} {base : Nat} {e : TypeId} {size : Nat} {v : Value} {n : Nat} {xs : List Value} (hg : ((w.alloc (.cells c t fr)).alloc (.cells c2 t2 fr2)).grownBy w' v.ownBlock) (h : w.ownsRow base e size v n xs) (i : Nat) {u : Value} (hu : c[i]? = some u) : w'.cell? ⟨w.heap.size, i, none⟩ = some u := by
 rw [hg.cell_far ⟨w.heap.size, i, none⟩ (by simp; omega) (fun e => absurd (ownsRow_lt h _ e.symm) (by simp))]
 rw [World.cell?_alloc_lt _ _ ⟨w.heap.size, i, none⟩ (by simp)]
 unfold World.cell?
 rw [heap_alloc_new]; exact hu
theorem tok_info : (Tryz.prog.info? 60).map (fun i => (i.zero, i.size, i.bytes)) = some (some (.agg #[.int .i64 0, .string ⟨#[]⟩, .int .u64 0, .int .i64 0, .int .i64 0]), 5, 48) := by kernel_rfl
set_option maxRecDepth 100000 in
set_option maxHeartbeats 400000 in
theorem Lex_calls (w : World) (src : ByteArray) (hL : LaidX w) : Calls Tryz.prog 17 #[.string src] w fun e w' => ∃ v, e = .returned (.tuple #[v, .int .i64 (lexR src).line, .int .i64 (lexR src).col, .int .i64 (lexR src).err]) ∧ IsOv w w' ∧ w'.ownsRow w.heap.size 60 5 v (lexR src).toks.length ((lexR src).toks.flatMap Tok.cells) := by
 by_cases hs : src.size ≤ 65536
 ·
  obtain ⟨r, hr⟩ := lexF_some src (src.size + 1) 0 (Nat.zero_le _) (by omega)
  have hlr : lexR src = r := by unfold lexR; rw [if_neg (by omega), hr]; rfl
  rw [hlr]
  have hs2 : (src.size : Int) ≤ 65536 := by omega
  go_enter Tryz.func17, Tryz.ntmps17
  go_wp2_with fail
  obtain ⟨i0, hi, hz0, hz1, hz2⟩ := info_parts tok_info
  go_loopg [7] (src.size + 1) (fun n v wr => ∃ (c : Nat) (ts : List Tok) (r2 : LexA), c ≤ src.size ∧ ts.length ≤ c ∧ lexF n src c = some r2 ∧ r = LexA.after ts r2 ∧ IsOv (w.alloc (.cells #[.string src, .int .i64 (c : Int), .int .i64 (lcAt src c).1, .int .i64 (lcAt src c).2] 58)) wr ∧ wr.ownsRow (w.heap.size + 1) 60 5 v ts.length (ts.flatMap Tok.cells))
  case atStart => exact ⟨0, [], r, Nat.zero_le _, Nat.le_refl _, hr, (LexA.after_nil r).symm, IsOv.refl _, World.ownsRow_nil _ _ _ _⟩
  case round =>
   obtain ⟨c, ts, r2, hcs, htc, hlex, hrr, ⟨x, rfl⟩, hown⟩ := hrel
   cases gk with
   | zero => simp [lexF] at hlex
   | succ m =>
   obtain ⟨b, hb, hcb, hbs⟩ := skipF_some src (src.size + 1) c hcs (by omega)
   simp only [lexF, hb] at hlex
   have hrg := lcAt_range src c
   have hrgb := lcAt_range src b
   go_wp2_with fail
   refine (skip_calls w src (src.size + 1) c b _ _ x x.drawn hs hcs hrg.1 hrg.2 hb).mono ?_
   rintro e w' ⟨rfl, _, _, d1, rfl⟩
   rw [lcAt_add, show c + (b - c) = b by omega]
   have hown1 := ownsRow_turn (c' := #[.string src, .int .i64 (b : Int), .int .i64 (lcAt src b).1, .int .i64 (lcAt src b).2]) (d' := d1) (Nat.lt_succ_self _) (d := x.drawn) hown
   generalize hW1 : ((w.alloc (.cells #[.string src, .int .i64 (b : Int), .int .i64 (lcAt src b).1, .int .i64 (lcAt src b).2] 58)).ov x).dr d1 = w1 at *
   go_wp2_with fail
   have c0 : w1.cell? ⟨w.heap.size, 0, none⟩ = some (.string src) := by rw [← hW1]; exact (World.LW_cell _ _ _ _ _ _ _).trans rfl
   have c1 : w1.cell? ⟨w.heap.size, 1, none⟩ = some (.int .i64 (b : Int)) := by rw [← hW1]; exact (World.LW_cell _ _ _ _ _ _ _).trans rfl
   have c2 : w1.cell? ⟨w.heap.size, 2, none⟩ = some (.int .i64 (lcAt src b).1) := by rw [← hW1]; exact (World.LW_cell _ _ _ _ _ _ _).trans rfl
   have c3 : w1.cell? ⟨w.heap.size, 3, none⟩ = some (.int .i64 (lcAt src b).2) := by rw [← hW1]; exact (World.LW_cell _ _ _ _ _ _ _).trans rfl
   have hovA : IsOv (w.alloc (.cells #[.string src, .int .i64 (b : Int), .int .i64 (lcAt src b).1, .int .i64 (lcAt src b).2] 58)) w1 := by rw [← hW1]; exact ((IsOv.refl _).ov _).dr _
   have hov1 : IsOv w w1 := ((IsOv.refl w).alloc _).trans hovA
   clear hW1 hown
   refine (next_gives w1 w.heap.size src b c0 c1 c2 c3 hs (hL.of_isOv hov1) hbs).mono ?_
   rintro e w2 ⟨rfl, hov2⟩
   have e0 := hov2.cell c0
   have hb2 : w.heap.size < w2.heap.size := block_lt_of_cell (a := ⟨w.heap.size, 0, none⟩) e0
   have hown2 := ownsRow_isOv hown1 hov2
   have hovB := hovA.trans hov2
   clear hown1 hov1 hovA hov2 c0 c1 c2 c3 e0
   cases hn : nextF src b with
   | mk t te =>
   have hsz := nextF_size (src := src) (a := b) hbs
   rw [hn] at hlex hsz
   obtain ⟨tk, tt, tn, tl, tc⟩ := t
   dsimp only at hlex hsz
   simp only [Tok.val_mk]
   by_cases he : te = 0
   ·
    subst he
    rw [if_pos rfl] at hlex
    by_cases hk : tk = 3
    ·
     have hk2 : (tk == 3) = true := by simpa using hk
     rw [if_pos hk] at hlex
     obtain rfl := Option.some.inj hlex
     have HR := Lib.hid hrr
     clear hrr hn hb hr hlr hlex hrg hrgb hk hsz
     go_wp2_with (first | (at_builtin; go_loud (refine wpList_append_lies _ rfl _ _ 41 rfl (w.heap.size + 1) 60 i0 _ 5 48 Tryz.underlying41 hi hz0 hz1 hz2 rfl (by decide) _ _ _ rfl (ownsRow_isOv hown2 (by repeat (first | with_reducible exact IsOv.refl _ | (with_reducible refine IsOv.setCell ?_ ?_ _; rotate_left; (first | exact Nat.le_refl _ | exact Nat.le_succ _)) | with_reducible apply IsOv.dr | with_reducible apply IsOv.drewN | with_reducible apply IsOv.drew | with_reducible apply IsOv.alloc | with_reducible apply IsOv.ov))) ⟨w2.heap.size + 1, 0, none⟩ 1 1 [.int .i64 tk, .string tt, .int .u64 tn, .int .i64 tl, .int .i64 tc] rfl rfl (news_second w2 _ #[.int .i64 tk, .string tt, .int .u64 tn, .int .i64 tl, .int .i64 tc] _ _) (by simp [Value.oneCell']) (by decide) (by simp only [maxLen]; omega) (by omega) (by simp; omega) _ rfl ?_; intro g cap w3 hown3 hgrow hat hlt3; have f0 : w3.cell? ⟨w2.heap.size, 0, none⟩ = some (.int .i64 tk) := (aft_cell (w := w2) hgrow hown2 0 (by rfl)); have f1 : w3.cell? ⟨w2.heap.size, 1, none⟩ = some (.string tt) := (aft_cell (w := w2) hgrow hown2 1 (by rfl)); have hov3 : IsOv (w.alloc (.cells #[.string src, .int .i64 (b : Int), .int .i64 (lcAt src b).1, .int .i64 (lcAt src b).2] 58)) w3 := IsOv.grown ((hovB.alloc _).alloc _) hgrow (fun q hq => by have := ownsRow_block hown2 q hq; simpa using this); clear hgrow hat)))
     exact bodyPost_ret (v := .tuple #[.slice (some ⟨g, 0, none⟩) (ts.length + 1) cap, .int .i64 0, .int .i64 0, .int .i64 0]) (by simp [results, Tryz.results17, go_sem, ↓IntWalk.iteOmega]) rfl ⟨_, by rw [HR.out]; rfl, by exact ((IsOv.refl w).alloc _).trans hov3, by rw [HR.out]; simpa [LexA.after, Tok.cells] using ownsRow_low hown3⟩
    ·
     have hk2 : (tk == 3) = false := by simpa using hk
     have hz := hsz rfl hk
     clear hsz
     rw [if_neg hk] at hlex
     obtain ⟨r3, hr3, rfl⟩ := Option.map_eq_some_iff.1 hlex
     rw [LexA.after_cons] at hrr
     have HR := Lib.hid hrr
     clear hrr hn hb hr hlr hlex hrg hk
     go_wp2_with (first | (at_builtin; go_loud (refine wpList_append_lies _ rfl _ _ 41 rfl (w.heap.size + 1) 60 i0 _ 5 48 Tryz.underlying41 hi hz0 hz1 hz2 rfl (by decide) _ _ _ rfl (ownsRow_isOv hown2 (by repeat (first | with_reducible exact IsOv.refl _ | (with_reducible refine IsOv.setCell ?_ ?_ _; rotate_left; (first | exact Nat.le_refl _ | exact Nat.le_succ _)) | with_reducible apply IsOv.dr | with_reducible apply IsOv.drewN | with_reducible apply IsOv.drew | with_reducible apply IsOv.alloc | with_reducible apply IsOv.ov))) ⟨w2.heap.size + 1, 0, none⟩ 1 1 [.int .i64 tk, .string tt, .int .u64 tn, .int .i64 tl, .int .i64 tc] rfl rfl (news_second w2 _ #[.int .i64 tk, .string tt, .int .u64 tn, .int .i64 tl, .int .i64 tc] _ _) (by simp [Value.oneCell']) (by decide) (by simp only [maxLen]; omega) (by omega) (by simp; omega) _ rfl ?_; intro g cap w3 hown3 hgrow hat hlt3; have f0 : w3.cell? ⟨w2.heap.size, 0, none⟩ = some (.int .i64 tk) := (aft_cell (w := w2) hgrow hown2 0 (by rfl)); have f1 : w3.cell? ⟨w2.heap.size, 1, none⟩ = some (.string tt) := (aft_cell (w := w2) hgrow hown2 1 (by rfl)); have hov3 : IsOv (w.alloc (.cells #[.string src, .int .i64 (b : Int), .int .i64 (lcAt src b).1, .int .i64 (lcAt src b).2] 58)) w3 := IsOv.grown ((hovB.alloc _).alloc _) hgrow (fun q hq => by have := ownsRow_block hown2 q hq; simpa using this); clear hgrow hat)))
     obtain ⟨x3, rfl⟩ := hov3
     refine (move_calls w src b tt.size _ _ x3 x3.drawn hs hz.2 hrgb.1 hrgb.2).mono ?_
     rintro e w' ⟨rfl, d4, rfl⟩
     rw [lcAt_add]
     have hown4 := ownsRow_turn (c' := #[.string src, .int .i64 ((b + tt.size : Nat) : Int), .int .i64 (lcAt src (b + tt.size)).1, .int .i64 (lcAt src (b + tt.size)).2]) (d' := d4) (Nat.lt_succ_self _) (d := x3.drawn) hown3
     clear hown3 f0 f1
     go_wp2_with fail
     go_roundg m
     case rel => exact ⟨b + tt.size, ts ++ [⟨tk, tt, tn, tl, tc⟩], r3, hz.2, by simp; omega, hr3, HR.out, ((IsOv.refl _).ov _).dr _, by simpa [Tok.cells] using hown4⟩
     case measure => omega
   ·
    have he2 : (te == 0) = false := by simpa using he
    rw [if_neg he] at hlex
    obtain rfl := Option.some.inj hlex
    have hr2 : r = ⟨[], tl, tc, te⟩ := by rw [hrr]; unfold LexA.after; rw [if_neg he]
    clear hrr
    subst hr2
    clear hn hb hr hlr hlex hrg hrgb hsz
    go_wp2_with (first | (refine wp_region_dr (by kernel_rfl) (by kernel_rfl) ?_; (repeat (go_big_quiet_step ((fail)))); refine wpQuiet_nil ?_; rintro _ ⟨nq, rfl⟩))
    exact bodyPost_ret (v := .tuple #[.slice none 0 0, .int .i64 tl, .int .i64 tc, .int .i64 te]) (by simp [results, Tryz.results17, go_sem, ↓IntWalk.iteOmega]) rfl ⟨_, rfl, ((IsOv.refl w).alloc _).trans (hovB.trans (by repeat (first | with_reducible exact IsOv.refl _ | (with_reducible refine IsOv.setCell ?_ ?_ _; rotate_left; (first | exact Nat.le_refl _ | exact Nat.le_succ _)) | with_reducible apply IsOv.dr | with_reducible apply IsOv.drewN | with_reducible apply IsOv.drew | with_reducible apply IsOv.alloc | with_reducible apply IsOv.ov))), World.ownsRow_nil _ _ _ _⟩
 ·
  have hlr : lexR src = ⟨[], 0, 0, 22⟩ := by unfold lexR; rw [if_pos (by omega)]
  rw [hlr]
  have hs2 : (65536 : Int) < src.size := by omega
  go_enter Tryz.func17, Tryz.ntmps17
  go_wp2_with fail
  exact bodyPost_ret (v := .tuple #[.slice none 0 0, .int .i64 0, .int .i64 0, .int .i64 22]) (by simp [results, Tryz.results17, go_sem, ↓IntWalk.iteOmega]) rfl ⟨_, rfl, IsOv.refl _, World.ownsRow_nil _ _ _ _⟩
end Go.Proofs.YtdimhoilfopndaaGreatDoor
end
