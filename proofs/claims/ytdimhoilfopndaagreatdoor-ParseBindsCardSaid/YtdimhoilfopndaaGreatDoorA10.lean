/- Texts of one proof, put together: Px Pza Pzb. Conditions: as each lemma says. -/
import Derived.Test.YtdimhoilfopndaaGreatDoorA9
import Derived.Test.YtdimhoilfopndaaGreatDoorA8
set_option linter.unusedVariables false
set_option linter.unusedSimpArgs false
section
namespace Go.Proofs.YtdimhoilfopndaaGreatDoor
open Go.RowKit Go.Proofs.YtdimhoilfopndaaGreatDoorW.PrintWords
theorem field_kind (n : Tok) : ∀ (W : World), (Instr.field 60 (.agg #[.int .i64 n.kind, .string n.text, .int .u64 n.num, .int .i64 n.line, .int .i64 n.col]) 0).run Tryz.prog W = .ok (.int .i64 n.kind) W := fun _ => by kernel_rfl
set_option maxRecDepth 20000 in
set_option maxHeartbeats 400000 in
theorem item_void (c : PC) (hc : c.Ok) (g : Nat) (hg : g ≤ 1000000000) (w : World) (ts ts3 : List Tok) (r : PR Node) (t x : Node) (hps : PS c w ts) (bv : isF ts ⟨#[118, 111, 105, 100]⟩ = true) (HT : Hid (leafN ⟨#[116, 121, 112, 101]⟩ (nowT ts) = t)) (HN : Hid (nameF ts.tail = .ok x ts3)) (bp : isF ts3 ⟨#[40]⟩ = false) (HB : Hid (some (badAt ts3 30) = some r)) : Calls Tryz.prog 31 #[.pointer (some ⟨c.p, 0, none⟩)] w (PostN c w r) := by
 have hlt := hps.lt
 have HS1 := hid (Sta.start hps)
 clear hps
 go_enter Tryz.func31, Tryz.ntmps31
 have HS2 : Hid (Sta c w ((w.alloc (.cells #[.string ⟨#[]⟩, .string ⟨#[]⟩, .int .u64 0, .int .i64 0, .int .i64 0, .slice none 0 0] 26)).alloc (.cells #[.string ⟨#[]⟩, .string ⟨#[]⟩, .int .u64 0, .int .i64 0, .int .i64 0, .slice none 0 0] 26)) ts [(w.heap.size + 1, (.cells #[.string ⟨#[]⟩, .string ⟨#[]⟩, .int .u64 0, .int .i64 0, .int .i64 0, .slice none 0 0] 26)), (w.heap.size, (.cells #[.string ⟨#[]⟩, .string ⟨#[]⟩, .int .u64 0, .int .i64 0, .int .i64 0, .slice none 0 0] 26))] []) := hid (by have h9 := (HS1.out.alloc (.cells #[.string ⟨#[]⟩, .string ⟨#[]⟩, .int .u64 0, .int .i64 0, .int .i64 0, .slice none 0 0] 26)).alloc (.cells #[.string ⟨#[]⟩, .string ⟨#[]⟩, .int .u64 0, .int .i64 0, .int .i64 0, .slice none 0 0] 26); rw [World.size_alloc] at h9; exact h9)
 clear HS1
 go_wp2_with fail
 refine cmo (is_gives c hc _ (ts) ⟨#[118, 111, 105, 100]⟩ HS2.out.ps) ?_
 rintro e9 w1 ⟨rfl, hov⟩
 rw [bv]
 have HS3 := hid (HS2.out.isOv hov)
 clear HS2
 have hz1 := hov.size_le
 try simp only [WZ] at hz1
 clear hov
 have hy1 : w.heap.size + 1 < w1.heap.size := lt_of_heap HS3.out.h0
 obtain ⟨t0, t1, t2, t3, t4, t5, tf⟩ := cells6 HS3.out.h0
 go_wp2_with fail
 refine cmo (leaf_calls c hc _ (ts) (⟨#[116, 121, 112, 101]⟩) HS3.out.ps (isF_kind bv)) ?_
 rintro e9 w2 ⟨rfl, hpt, hkt⟩
 have HS4 := hid (HS3.out.call hkt hpt)
 clear HS3
 clear hpt hkt
 rw [HT.out]
 have HK_t : Hid (t.kids = []) := hid (by rw [← HT.out]; exact leaf_kids _ _)
 have hy2 : w.heap.size + 1 < w2.heap.size := lt_of_heap HS4.out.h0
 clear t0 t1 t2 t3 t4 t5 tf
 obtain ⟨t0, t1, t2, t3, t4, t5, tf⟩ := cells6 HS4.out.h0
 go_wp2_with fail
 have HS5 := hid (HS4.out.set6 hc (by omega) (by simp <;> omega) (.string t.kind) (.string t.text) (.int .u64 t.num) (.int .i64 t.line) (.int .i64 t.col) (.slice none 0 0))
 clear HS4
 refine cmo (name_calls c hc _ (ts.tail) HS5.out.ps) ?_
 rintro e9 w3 ⟨hkp, hp9⟩
 rw [HN.out] at hp9
 obtain ⟨rfl, hk_x, hps9⟩ := hp9
 clear hk_x
 have HS6 := hid (HS5.out.call hkp hps9)
 clear HS5
 have hy3 : w.heap.size + 1 < w3.heap.size := lt_of_heap HS6.out.h0
 unfold nodeV
 clear hkp hps9 t0 t1 t2 t3 t4 t5 tf
 obtain ⟨t0, t1, t2, t3, t4, t5, tf⟩ := cells6 HS6.out.h0
 go_wp2_with fail
 have HS7 : Hid (Sta c w (((w3.alloc (.cells #[.string x.kind, .string x.text, .int .u64 x.num, .int .i64 x.line, .int .i64 x.col, .slice none 0 0] 26)).alloc (.cells #[.string t.kind, .string t.text, .int .u64 t.num, .int .i64 t.line, .int .i64 t.col, .slice none 0 0] 26)).alloc (.cells #[.string ⟨#[103, 108, 111, 98, 97, 108]⟩, .string x.text, .int .u64 0, .int .i64 t.line, .int .i64 t.col, (.slice (some ⟨w3.heap.size + 1, 0, none⟩) 1 1)] 26)) ts3 [(w3.heap.size + 1 + 1, (.cells #[.string ⟨#[103, 108, 111, 98, 97, 108]⟩, .string x.text, .int .u64 0, .int .i64 t.line, .int .i64 t.col, (.slice (some ⟨w3.heap.size + 1, 0, none⟩) 1 1)] 26)), (w3.heap.size, (.cells #[.string x.kind, .string x.text, .int .u64 x.num, .int .i64 x.line, .int .i64 x.col, .slice none 0 0] 26)), (w.heap.size + 1, (.cells #[.string t.kind, .string t.text, .int .u64 t.num, .int .i64 t.line, .int .i64 t.col, .slice none 0 0] 26)), (w.heap.size, (.cells #[.string ⟨#[]⟩, .string ⟨#[]⟩, .int .u64 0, .int .i64 0, .int .i64 0, .slice none 0 0] 26))] [(w3.heap.size + 1, (.slice (some ⟨w3.heap.size + 1, 0, none⟩) 1 1), [t])]) := hid (by have h9 := (((HS6.out.alloc (.cells #[.string x.kind, .string x.text, .int .u64 x.num, .int .i64 x.line, .int .i64 x.col, .slice none 0 0] 26)).nilK HK_t.out (w3.heap.size + 1) (by omega)).made1 (by simp)).alloc (.cells #[.string ⟨#[103, 108, 111, 98, 97, 108]⟩, .string x.text, .int .u64 0, .int .i64 t.line, .int .i64 t.col, (.slice (some ⟨w3.heap.size + 1, 0, none⟩) 1 1)] 26); simp only [World.size_alloc] at h9; exact h9)
 clear HS6
 clear t0 t1 t2 t3 t4 t5 tf
 refine cmo (take_calls c hc _ (ts3) ⟨#[40]⟩ HS7.out.ps) ?_
 rintro e9 w4 ⟨rfl, hpt, hkt⟩
 rw [bp] at hpt ⊢
 have hpt2 : PS c w4 (ts3) := hpt
 have HS8 := hid (HS7.out.call hkt hpt2)
 clear HS7
 have hz4 := hkt.size_le
 try simp only [WZ] at hz4
 clear hpt hkt hpt2
 have hy4 : w3.heap.size + 1 + 1 < w4.heap.size := lt_of_heap HS8.out.h0
 obtain ⟨n0, n1, n2, n3, n4, n5, nf⟩ := cells6 HS8.out.h0
 obtain ⟨r0, r1, r2, r3, r4, r5, rf⟩ := cells6 HS8.out.h3
 go_wp2_with fail
 refine cmo (give_calls c hc _ ts3 30 HS8.out.ps) ?_
 rintro e9 w99 ⟨rfl, hpt, hkp⟩
 rw [(Option.some.inj HB.out).symm]
 exact ⟨rfl, HS8.out.kp.trans hkp, rfl⟩
set_option maxRecDepth 20000 in
set_option maxHeartbeats 400000 in
theorem item_glob (c : PC) (hc : c.Ok) (g : Nat) (hg : g ≤ 1000000000) (w : World) (ts ts3 : List Tok) (r : PR Node) (t x : Node) (hps : PS c w ts) (ts2 : List Tok) (bv : isF ts ⟨#[118, 111, 105, 100]⟩ = false) (HT : Hid (typF ts = .ok t ts2)) (HN : Hid (nameF ts2 = .ok x ts3)) (bp : isF ts3 ⟨#[40]⟩ = false) (bq : isF ts3 ⟨#[91]⟩ = false) (HB : Hid (semiF ⟨⟨#[103, 108, 111, 98, 97, 108]⟩, x.text, 0, t.line, t.col, [t]⟩ ts3 = some r)) : Calls Tryz.prog 31 #[.pointer (some ⟨c.p, 0, none⟩)] w (PostN c w r) := by
 have hlt := hps.lt
 have HS1 := hid (Sta.start hps)
 clear hps
 go_enter Tryz.func31, Tryz.ntmps31
 have HS2 : Hid (Sta c w ((w.alloc (.cells #[.string ⟨#[]⟩, .string ⟨#[]⟩, .int .u64 0, .int .i64 0, .int .i64 0, .slice none 0 0] 26)).alloc (.cells #[.string ⟨#[]⟩, .string ⟨#[]⟩, .int .u64 0, .int .i64 0, .int .i64 0, .slice none 0 0] 26)) ts [(w.heap.size + 1, (.cells #[.string ⟨#[]⟩, .string ⟨#[]⟩, .int .u64 0, .int .i64 0, .int .i64 0, .slice none 0 0] 26)), (w.heap.size, (.cells #[.string ⟨#[]⟩, .string ⟨#[]⟩, .int .u64 0, .int .i64 0, .int .i64 0, .slice none 0 0] 26))] []) := hid (by have h9 := (HS1.out.alloc (.cells #[.string ⟨#[]⟩, .string ⟨#[]⟩, .int .u64 0, .int .i64 0, .int .i64 0, .slice none 0 0] 26)).alloc (.cells #[.string ⟨#[]⟩, .string ⟨#[]⟩, .int .u64 0, .int .i64 0, .int .i64 0, .slice none 0 0] 26); rw [World.size_alloc] at h9; exact h9)
 clear HS1
 go_wp2_with fail
 refine cmo (is_gives c hc _ (ts) ⟨#[118, 111, 105, 100]⟩ HS2.out.ps) ?_
 rintro e9 w1 ⟨rfl, hov⟩
 rw [bv]
 have HS3 := hid (HS2.out.isOv hov)
 clear HS2
 have hz1 := hov.size_le
 try simp only [WZ] at hz1
 clear hov
 have hy1 : w.heap.size + 1 < w1.heap.size := lt_of_heap HS3.out.h0
 obtain ⟨t0, t1, t2, t3, t4, t5, tf⟩ := cells6 HS3.out.h0
 go_wp2_with fail
 refine cmo (typ_calls c hc _ ts HS3.out.ps) ?_
 rintro e9 w2 ⟨hkp, hp9⟩
 rw [HT.out] at hp9
 obtain ⟨rfl, hk_t, hps9⟩ := hp9
 have HK_t := hid hk_t
 clear hk_t
 have HS4 := hid (HS3.out.call hkp hps9)
 clear HS3
 clear hkp hps9
 unfold nodeV
 have hy2 : w.heap.size + 1 < w2.heap.size := lt_of_heap HS4.out.h0
 clear t0 t1 t2 t3 t4 t5 tf
 obtain ⟨t0, t1, t2, t3, t4, t5, tf⟩ := cells6 HS4.out.h0
 go_wp2_with fail
 have HS5 := hid (HS4.out.set6 hc (by omega) (by simp <;> omega) (.string t.kind) (.string t.text) (.int .u64 t.num) (.int .i64 t.line) (.int .i64 t.col) (.slice none 0 0))
 clear HS4
 refine cmo (name_calls c hc _ (ts2) HS5.out.ps) ?_
 rintro e9 w3 ⟨hkp, hp9⟩
 rw [HN.out] at hp9
 obtain ⟨rfl, hk_x, hps9⟩ := hp9
 clear hk_x
 have HS6 := hid (HS5.out.call hkp hps9)
 clear HS5
 have hy3 : w.heap.size + 1 < w3.heap.size := lt_of_heap HS6.out.h0
 unfold nodeV
 clear hkp hps9 t0 t1 t2 t3 t4 t5 tf
 obtain ⟨t0, t1, t2, t3, t4, t5, tf⟩ := cells6 HS6.out.h0
 go_wp2_with fail
 have HS7 : Hid (Sta c w (((w3.alloc (.cells #[.string x.kind, .string x.text, .int .u64 x.num, .int .i64 x.line, .int .i64 x.col, .slice none 0 0] 26)).alloc (.cells #[.string t.kind, .string t.text, .int .u64 t.num, .int .i64 t.line, .int .i64 t.col, .slice none 0 0] 26)).alloc (.cells #[.string ⟨#[103, 108, 111, 98, 97, 108]⟩, .string x.text, .int .u64 0, .int .i64 t.line, .int .i64 t.col, (.slice (some ⟨w3.heap.size + 1, 0, none⟩) 1 1)] 26)) ts3 [(w3.heap.size + 1 + 1, (.cells #[.string ⟨#[103, 108, 111, 98, 97, 108]⟩, .string x.text, .int .u64 0, .int .i64 t.line, .int .i64 t.col, (.slice (some ⟨w3.heap.size + 1, 0, none⟩) 1 1)] 26)), (w3.heap.size, (.cells #[.string x.kind, .string x.text, .int .u64 x.num, .int .i64 x.line, .int .i64 x.col, .slice none 0 0] 26)), (w.heap.size + 1, (.cells #[.string t.kind, .string t.text, .int .u64 t.num, .int .i64 t.line, .int .i64 t.col, .slice none 0 0] 26)), (w.heap.size, (.cells #[.string ⟨#[]⟩, .string ⟨#[]⟩, .int .u64 0, .int .i64 0, .int .i64 0, .slice none 0 0] 26))] [(w3.heap.size + 1, (.slice (some ⟨w3.heap.size + 1, 0, none⟩) 1 1), [t])]) := hid (by have h9 := (((HS6.out.alloc (.cells #[.string x.kind, .string x.text, .int .u64 x.num, .int .i64 x.line, .int .i64 x.col, .slice none 0 0] 26)).nilK HK_t.out (w3.heap.size + 1) (by omega)).made1 (by simp)).alloc (.cells #[.string ⟨#[103, 108, 111, 98, 97, 108]⟩, .string x.text, .int .u64 0, .int .i64 t.line, .int .i64 t.col, (.slice (some ⟨w3.heap.size + 1, 0, none⟩) 1 1)] 26); simp only [World.size_alloc] at h9; exact h9)
 clear HS6
 clear t0 t1 t2 t3 t4 t5 tf
 refine cmo (take_calls c hc _ (ts3) ⟨#[40]⟩ HS7.out.ps) ?_
 rintro e9 w4 ⟨rfl, hpt, hkt⟩
 rw [bp] at hpt ⊢
 have hpt2 : PS c w4 (ts3) := hpt
 have HS8 := hid (HS7.out.call hkt hpt2)
 clear HS7
 have hz4 := hkt.size_le
 try simp only [WZ] at hz4
 clear hpt hkt hpt2
 have hy4 : w3.heap.size + 1 + 1 < w4.heap.size := lt_of_heap HS8.out.h0
 obtain ⟨n0, n1, n2, n3, n4, n5, nf⟩ := cells6 HS8.out.h0
 obtain ⟨r0, r1, r2, r3, r4, r5, rf⟩ := cells6 HS8.out.h3
 go_wp2_with fail
 refine cmo (take_calls c hc _ (ts3) ⟨#[91]⟩ HS8.out.ps) ?_
 rintro e9 w5 ⟨rfl, hpt, hkt⟩
 rw [bq] at hpt ⊢
 have hpt2 : PS c w5 (ts3) := hpt
 have HS9 := hid (HS8.out.call hkt hpt2)
 clear HS8
 have hz5 := hkt.size_le
 try simp only [WZ] at hz5
 clear hpt hkt hpt2
 have hy5 : w3.heap.size + 1 + 1 < w5.heap.size := lt_of_heap HS9.out.h0
 clear n0 n1 n2 n3 n4 n5 nf r0 r1 r2 r3 r4 r5 rf
 obtain ⟨n0, n1, n2, n3, n4, n5, nf⟩ := cells6 HS9.out.h0
 obtain ⟨r0, r1, r2, r3, r4, r5, rf⟩ := cells6 HS9.out.h3
 go_wp2_with fail
 refine cmo (need_calls c hc _ (ts3) ⟨#[59]⟩ HS9.out.ps) ?_
 rintro e9 w6 ⟨hkp, hp9⟩
 rcases bnd_some HB.out with ⟨l, k, er, he, rfl⟩ | ⟨t9, ts4, he, hB9⟩
 ·
  rw [Option.some.inj he] at hp9
  subst hp9
  exact ⟨rfl, HS9.out.kp.trans hkp, rfl⟩
 ·
  rw [Option.some.inj he] at hp9
  obtain ⟨rfl, hps9⟩ := hp9
  have HB3 := hid hB9
  clear hB9
  have HS10 := hid (HS9.out.call hkp hps9)
  clear HS9
  have hz6 := hkp.size_le
  try simp only [WZ] at hz6
  clear hkp hps9 he HB
  have hy6 : w3.heap.size + 1 + 1 < w6.heap.size := lt_of_heap HS10.out.h0
  clear n0 n1 n2 n3 n4 n5 nf r0 r1 r2 r3 r4 r5 rf
  obtain ⟨n0, n1, n2, n3, n4, n5, nf⟩ := cells6 HS10.out.h0
  obtain ⟨r0, r1, r2, r3, r4, r5, rf⟩ := cells6 HS10.out.h3
  go_wp2_with fail
  rw [(Option.some.inj HB3.out).symm]
  exact ret_sta hc (n := ⟨⟨#[103, 108, 111, 98, 97, 108]⟩, x.text, 0, t.line, t.col, [t]⟩) (A := some ⟨w3.heap.size + 1, 0, none⟩) (cap := 1) (base := w3.heap.size + 1) Tryz.results31 (by rfl) (HS10.out.rot4) (by omega) (by omega) (by simp <;> omega)
set_option maxRecDepth 20000 in
set_option maxHeartbeats 400000 in
theorem item_arrbad (c : PC) (hc : c.Ok) (g : Nat) (hg : g ≤ 1000000000) (w : World) (ts ts3 : List Tok) (r : PR Node) (t x : Node) (hps : PS c w ts) (ts2 : List Tok) (bv : isF ts ⟨#[118, 111, 105, 100]⟩ = false) (HT : Hid (typF ts = .ok t ts2)) (HN : Hid (nameF ts2 = .ok x ts3)) (bp : isF ts3 ⟨#[40]⟩ = false) (bq : isF ts3 ⟨#[91]⟩ = true) (bk : ((nowT ts3.tail).kind == 1) = false) (bk2 : ((nowT ts3.tail).kind != 1) = true) (HB : Hid (some (badAt ts3.tail 30) = some r)) : Calls Tryz.prog 31 #[.pointer (some ⟨c.p, 0, none⟩)] w (PostN c w r) := by
 have hlt := hps.lt
 have HS1 := hid (Sta.start hps)
 clear hps
 go_enter Tryz.func31, Tryz.ntmps31
 have HS2 : Hid (Sta c w ((w.alloc (.cells #[.string ⟨#[]⟩, .string ⟨#[]⟩, .int .u64 0, .int .i64 0, .int .i64 0, .slice none 0 0] 26)).alloc (.cells #[.string ⟨#[]⟩, .string ⟨#[]⟩, .int .u64 0, .int .i64 0, .int .i64 0, .slice none 0 0] 26)) ts [(w.heap.size + 1, (.cells #[.string ⟨#[]⟩, .string ⟨#[]⟩, .int .u64 0, .int .i64 0, .int .i64 0, .slice none 0 0] 26)), (w.heap.size, (.cells #[.string ⟨#[]⟩, .string ⟨#[]⟩, .int .u64 0, .int .i64 0, .int .i64 0, .slice none 0 0] 26))] []) := hid (by have h9 := (HS1.out.alloc (.cells #[.string ⟨#[]⟩, .string ⟨#[]⟩, .int .u64 0, .int .i64 0, .int .i64 0, .slice none 0 0] 26)).alloc (.cells #[.string ⟨#[]⟩, .string ⟨#[]⟩, .int .u64 0, .int .i64 0, .int .i64 0, .slice none 0 0] 26); rw [World.size_alloc] at h9; exact h9)
 clear HS1
 go_wp2_with fail
 refine cmo (is_gives c hc _ (ts) ⟨#[118, 111, 105, 100]⟩ HS2.out.ps) ?_
 rintro e9 w1 ⟨rfl, hov⟩
 rw [bv]
 have HS3 := hid (HS2.out.isOv hov)
 clear HS2
 have hz1 := hov.size_le
 try simp only [WZ] at hz1
 clear hov
 have hy1 : w.heap.size + 1 < w1.heap.size := lt_of_heap HS3.out.h0
 obtain ⟨t0, t1, t2, t3, t4, t5, tf⟩ := cells6 HS3.out.h0
 go_wp2_with fail
 refine cmo (typ_calls c hc _ ts HS3.out.ps) ?_
 rintro e9 w2 ⟨hkp, hp9⟩
 rw [HT.out] at hp9
 obtain ⟨rfl, hk_t, hps9⟩ := hp9
 have HK_t := hid hk_t
 clear hk_t
 have HS4 := hid (HS3.out.call hkp hps9)
 clear HS3
 clear hkp hps9
 unfold nodeV
 have hy2 : w.heap.size + 1 < w2.heap.size := lt_of_heap HS4.out.h0
 clear t0 t1 t2 t3 t4 t5 tf
 obtain ⟨t0, t1, t2, t3, t4, t5, tf⟩ := cells6 HS4.out.h0
 go_wp2_with fail
 have HS5 := hid (HS4.out.set6 hc (by omega) (by simp <;> omega) (.string t.kind) (.string t.text) (.int .u64 t.num) (.int .i64 t.line) (.int .i64 t.col) (.slice none 0 0))
 clear HS4
 refine cmo (name_calls c hc _ (ts2) HS5.out.ps) ?_
 rintro e9 w3 ⟨hkp, hp9⟩
 rw [HN.out] at hp9
 obtain ⟨rfl, hk_x, hps9⟩ := hp9
 clear hk_x
 have HS6 := hid (HS5.out.call hkp hps9)
 clear HS5
 have hy3 : w.heap.size + 1 < w3.heap.size := lt_of_heap HS6.out.h0
 unfold nodeV
 clear hkp hps9 t0 t1 t2 t3 t4 t5 tf
 obtain ⟨t0, t1, t2, t3, t4, t5, tf⟩ := cells6 HS6.out.h0
 go_wp2_with fail
 have HS7 : Hid (Sta c w (((w3.alloc (.cells #[.string x.kind, .string x.text, .int .u64 x.num, .int .i64 x.line, .int .i64 x.col, .slice none 0 0] 26)).alloc (.cells #[.string t.kind, .string t.text, .int .u64 t.num, .int .i64 t.line, .int .i64 t.col, .slice none 0 0] 26)).alloc (.cells #[.string ⟨#[103, 108, 111, 98, 97, 108]⟩, .string x.text, .int .u64 0, .int .i64 t.line, .int .i64 t.col, (.slice (some ⟨w3.heap.size + 1, 0, none⟩) 1 1)] 26)) ts3 [(w3.heap.size + 1 + 1, (.cells #[.string ⟨#[103, 108, 111, 98, 97, 108]⟩, .string x.text, .int .u64 0, .int .i64 t.line, .int .i64 t.col, (.slice (some ⟨w3.heap.size + 1, 0, none⟩) 1 1)] 26)), (w3.heap.size, (.cells #[.string x.kind, .string x.text, .int .u64 x.num, .int .i64 x.line, .int .i64 x.col, .slice none 0 0] 26)), (w.heap.size + 1, (.cells #[.string t.kind, .string t.text, .int .u64 t.num, .int .i64 t.line, .int .i64 t.col, .slice none 0 0] 26)), (w.heap.size, (.cells #[.string ⟨#[]⟩, .string ⟨#[]⟩, .int .u64 0, .int .i64 0, .int .i64 0, .slice none 0 0] 26))] [(w3.heap.size + 1, (.slice (some ⟨w3.heap.size + 1, 0, none⟩) 1 1), [t])]) := hid (by have h9 := (((HS6.out.alloc (.cells #[.string x.kind, .string x.text, .int .u64 x.num, .int .i64 x.line, .int .i64 x.col, .slice none 0 0] 26)).nilK HK_t.out (w3.heap.size + 1) (by omega)).made1 (by simp)).alloc (.cells #[.string ⟨#[103, 108, 111, 98, 97, 108]⟩, .string x.text, .int .u64 0, .int .i64 t.line, .int .i64 t.col, (.slice (some ⟨w3.heap.size + 1, 0, none⟩) 1 1)] 26); simp only [World.size_alloc] at h9; exact h9)
 clear HS6
 clear t0 t1 t2 t3 t4 t5 tf
 refine cmo (take_calls c hc _ (ts3) ⟨#[40]⟩ HS7.out.ps) ?_
 rintro e9 w4 ⟨rfl, hpt, hkt⟩
 rw [bp] at hpt ⊢
 have hpt2 : PS c w4 (ts3) := hpt
 have HS8 := hid (HS7.out.call hkt hpt2)
 clear HS7
 have hz4 := hkt.size_le
 try simp only [WZ] at hz4
 clear hpt hkt hpt2
 have hy4 : w3.heap.size + 1 + 1 < w4.heap.size := lt_of_heap HS8.out.h0
 obtain ⟨n0, n1, n2, n3, n4, n5, nf⟩ := cells6 HS8.out.h0
 obtain ⟨r0, r1, r2, r3, r4, r5, rf⟩ := cells6 HS8.out.h3
 go_wp2_with fail
 refine cmo (take_calls c hc _ (ts3) ⟨#[91]⟩ HS8.out.ps) ?_
 rintro e9 w5 ⟨rfl, hpt, hkt⟩
 rw [bq] at hpt ⊢
 have hpt2 : PS c w5 (ts3.tail) := hpt
 have HS9 := hid (HS8.out.call hkt hpt2)
 clear HS8
 have hz5 := hkt.size_le
 try simp only [WZ] at hz5
 clear hpt hkt hpt2
 have hy5 : w3.heap.size + 1 + 1 < w5.heap.size := lt_of_heap HS9.out.h0
 clear n0 n1 n2 n3 n4 n5 nf r0 r1 r2 r3 r4 r5 rf
 obtain ⟨n0, n1, n2, n3, n4, n5, nf⟩ := cells6 HS9.out.h0
 obtain ⟨r0, r1, r2, r3, r4, r5, rf⟩ := cells6 HS9.out.h3
 go_wp2_with fail
 refine cmo (now_gives c hc _ (ts3.tail) HS9.out.ps) ?_
 rintro e9 w6 ⟨rfl, hov⟩
 have HS10 := hid (HS9.out.isOv hov)
 clear HS9
 have hz6 := hov.size_le
 try simp only [WZ] at hz6
 clear hov
 have hy6 : w3.heap.size + 1 + 1 < w6.heap.size := lt_of_heap HS10.out.h0
 clear n0 n1 n2 n3 n4 n5 nf r0 r1 r2 r3 r4 r5 rf
 obtain ⟨n0, n1, n2, n3, n4, n5, nf⟩ := cells6 HS10.out.h0
 obtain ⟨r0, r1, r2, r3, r4, r5, rf⟩ := cells6 HS10.out.h3
 generalize hv : nowT ts3.tail = v at *
 have HV := hid hv
 clear hv
 rw [show v.val = .agg #[.int .i64 v.kind, .string v.text, .int .u64 v.num, .int .i64 v.line, .int .i64 v.col] from rfl]
 have hfd := field_kind v
 go_wp2_with fail
 clear hfd
 refine cmo (give_calls c hc _ ts3.tail 30 HS10.out.ps) ?_
 rintro e9 w99 ⟨rfl, hpt, hkp⟩
 rw [(Option.some.inj HB.out).symm]
 exact ⟨rfl, HS10.out.kp.trans hkp, rfl⟩
set_option maxRecDepth 20000 in
set_option maxHeartbeats 400000 in
theorem item_bad1 (c : PC) (hc : c.Ok) (g : Nat) (hg : g ≤ 1000000000) (w : World) (ts ts3 : List Tok) (r : PR Node) (t x : Node) (hps : PS c w ts) (l9 k9 er : Int) (bv : isF ts ⟨#[118, 111, 105, 100]⟩ = true) (HT : Hid (leafN ⟨#[116, 121, 112, 101]⟩ (nowT ts) = t)) (HN : Hid (nameF ts.tail = .bad l9 k9 er)) (HB : Hid (some (PR.bad l9 k9 er : PR Node) = some r)) : Calls Tryz.prog 31 #[.pointer (some ⟨c.p, 0, none⟩)] w (PostN c w r) := by
 have hlt := hps.lt
 have HS1 := hid (Sta.start hps)
 clear hps
 go_enter Tryz.func31, Tryz.ntmps31
 have HS2 : Hid (Sta c w ((w.alloc (.cells #[.string ⟨#[]⟩, .string ⟨#[]⟩, .int .u64 0, .int .i64 0, .int .i64 0, .slice none 0 0] 26)).alloc (.cells #[.string ⟨#[]⟩, .string ⟨#[]⟩, .int .u64 0, .int .i64 0, .int .i64 0, .slice none 0 0] 26)) ts [(w.heap.size + 1, (.cells #[.string ⟨#[]⟩, .string ⟨#[]⟩, .int .u64 0, .int .i64 0, .int .i64 0, .slice none 0 0] 26)), (w.heap.size, (.cells #[.string ⟨#[]⟩, .string ⟨#[]⟩, .int .u64 0, .int .i64 0, .int .i64 0, .slice none 0 0] 26))] []) := hid (by have h9 := (HS1.out.alloc (.cells #[.string ⟨#[]⟩, .string ⟨#[]⟩, .int .u64 0, .int .i64 0, .int .i64 0, .slice none 0 0] 26)).alloc (.cells #[.string ⟨#[]⟩, .string ⟨#[]⟩, .int .u64 0, .int .i64 0, .int .i64 0, .slice none 0 0] 26); rw [World.size_alloc] at h9; exact h9)
 clear HS1
 go_wp2_with fail
 refine cmo (is_gives c hc _ (ts) ⟨#[118, 111, 105, 100]⟩ HS2.out.ps) ?_
 rintro e9 w1 ⟨rfl, hov⟩
 rw [bv]
 have HS3 := hid (HS2.out.isOv hov)
 clear HS2
 have hz1 := hov.size_le
 try simp only [WZ] at hz1
 clear hov
 have hy1 : w.heap.size + 1 < w1.heap.size := lt_of_heap HS3.out.h0
 obtain ⟨t0, t1, t2, t3, t4, t5, tf⟩ := cells6 HS3.out.h0
 go_wp2_with fail
 refine cmo (leaf_calls c hc _ (ts) (⟨#[116, 121, 112, 101]⟩) HS3.out.ps (isF_kind bv)) ?_
 rintro e9 w2 ⟨rfl, hpt, hkt⟩
 have HS4 := hid (HS3.out.call hkt hpt)
 clear HS3
 clear hpt hkt
 rw [HT.out]
 have HK_t : Hid (t.kids = []) := hid (by rw [← HT.out]; exact leaf_kids _ _)
 have hy2 : w.heap.size + 1 < w2.heap.size := lt_of_heap HS4.out.h0
 clear t0 t1 t2 t3 t4 t5 tf
 obtain ⟨t0, t1, t2, t3, t4, t5, tf⟩ := cells6 HS4.out.h0
 go_wp2_with fail
 have HS5 := hid (HS4.out.set6 hc (by omega) (by simp <;> omega) (.string t.kind) (.string t.text) (.int .u64 t.num) (.int .i64 t.line) (.int .i64 t.col) (.slice none 0 0))
 clear HS4
 refine cmo (name_calls c hc _ ts.tail HS5.out.ps) ?_
 rintro e9 w3 ⟨hkp, hp9⟩
 rw [HN.out] at hp9
 rw [(Option.some.inj HB.out).symm]
 subst hp9
 exact ⟨rfl, HS5.out.kp.trans hkp, rfl⟩
set_option maxRecDepth 20000 in
set_option maxHeartbeats 400000 in
theorem item_bad0 (c : PC) (hc : c.Ok) (g : Nat) (hg : g ≤ 1000000000) (w : World) (ts ts3 : List Tok) (r : PR Node) (t x : Node) (hps : PS c w ts) (ts2 : List Tok) (l9 k9 er : Int) (bv : isF ts ⟨#[118, 111, 105, 100]⟩ = false) (HT : Hid (typF ts = .ok t ts2)) (HN : Hid (nameF ts2 = .bad l9 k9 er)) (HB : Hid (some (PR.bad l9 k9 er : PR Node) = some r)) : Calls Tryz.prog 31 #[.pointer (some ⟨c.p, 0, none⟩)] w (PostN c w r) := by
 have hlt := hps.lt
 have HS1 := hid (Sta.start hps)
 clear hps
 go_enter Tryz.func31, Tryz.ntmps31
 have HS2 : Hid (Sta c w ((w.alloc (.cells #[.string ⟨#[]⟩, .string ⟨#[]⟩, .int .u64 0, .int .i64 0, .int .i64 0, .slice none 0 0] 26)).alloc (.cells #[.string ⟨#[]⟩, .string ⟨#[]⟩, .int .u64 0, .int .i64 0, .int .i64 0, .slice none 0 0] 26)) ts [(w.heap.size + 1, (.cells #[.string ⟨#[]⟩, .string ⟨#[]⟩, .int .u64 0, .int .i64 0, .int .i64 0, .slice none 0 0] 26)), (w.heap.size, (.cells #[.string ⟨#[]⟩, .string ⟨#[]⟩, .int .u64 0, .int .i64 0, .int .i64 0, .slice none 0 0] 26))] []) := hid (by have h9 := (HS1.out.alloc (.cells #[.string ⟨#[]⟩, .string ⟨#[]⟩, .int .u64 0, .int .i64 0, .int .i64 0, .slice none 0 0] 26)).alloc (.cells #[.string ⟨#[]⟩, .string ⟨#[]⟩, .int .u64 0, .int .i64 0, .int .i64 0, .slice none 0 0] 26); rw [World.size_alloc] at h9; exact h9)
 clear HS1
 go_wp2_with fail
 refine cmo (is_gives c hc _ (ts) ⟨#[118, 111, 105, 100]⟩ HS2.out.ps) ?_
 rintro e9 w1 ⟨rfl, hov⟩
 rw [bv]
 have HS3 := hid (HS2.out.isOv hov)
 clear HS2
 have hz1 := hov.size_le
 try simp only [WZ] at hz1
 clear hov
 have hy1 : w.heap.size + 1 < w1.heap.size := lt_of_heap HS3.out.h0
 obtain ⟨t0, t1, t2, t3, t4, t5, tf⟩ := cells6 HS3.out.h0
 go_wp2_with fail
 refine cmo (typ_calls c hc _ ts HS3.out.ps) ?_
 rintro e9 w2 ⟨hkp, hp9⟩
 rw [HT.out] at hp9
 obtain ⟨rfl, hk_t, hps9⟩ := hp9
 have HK_t := hid hk_t
 clear hk_t
 have HS4 := hid (HS3.out.call hkp hps9)
 clear HS3
 clear hkp hps9
 unfold nodeV
 have hy2 : w.heap.size + 1 < w2.heap.size := lt_of_heap HS4.out.h0
 clear t0 t1 t2 t3 t4 t5 tf
 obtain ⟨t0, t1, t2, t3, t4, t5, tf⟩ := cells6 HS4.out.h0
 go_wp2_with fail
 have HS5 := hid (HS4.out.set6 hc (by omega) (by simp <;> omega) (.string t.kind) (.string t.text) (.int .u64 t.num) (.int .i64 t.line) (.int .i64 t.col) (.slice none 0 0))
 clear HS4
 refine cmo (name_calls c hc _ ts2 HS5.out.ps) ?_
 rintro e9 w3 ⟨hkp, hp9⟩
 rw [HN.out] at hp9
 rw [(Option.some.inj HB.out).symm]
 subst hp9
 exact ⟨rfl, HS5.out.kp.trans hkp, rfl⟩
set_option maxRecDepth 20000 in
set_option maxHeartbeats 400000 in
theorem item_badt (c : PC) (hc : c.Ok) (g : Nat) (hg : g ≤ 1000000000) (w : World) (ts ts3 : List Tok) (r : PR Node) (t x : Node) (hps : PS c w ts) (l9 k9 er : Int) (bv : isF ts ⟨#[118, 111, 105, 100]⟩ = false) (HT : Hid (typF ts = .bad l9 k9 er)) (HB : Hid (some (PR.bad l9 k9 er : PR Node) = some r)) : Calls Tryz.prog 31 #[.pointer (some ⟨c.p, 0, none⟩)] w (PostN c w r) := by
 have hlt := hps.lt
 have HS1 := hid (Sta.start hps)
 clear hps
 go_enter Tryz.func31, Tryz.ntmps31
 have HS2 : Hid (Sta c w ((w.alloc (.cells #[.string ⟨#[]⟩, .string ⟨#[]⟩, .int .u64 0, .int .i64 0, .int .i64 0, .slice none 0 0] 26)).alloc (.cells #[.string ⟨#[]⟩, .string ⟨#[]⟩, .int .u64 0, .int .i64 0, .int .i64 0, .slice none 0 0] 26)) ts [(w.heap.size + 1, (.cells #[.string ⟨#[]⟩, .string ⟨#[]⟩, .int .u64 0, .int .i64 0, .int .i64 0, .slice none 0 0] 26)), (w.heap.size, (.cells #[.string ⟨#[]⟩, .string ⟨#[]⟩, .int .u64 0, .int .i64 0, .int .i64 0, .slice none 0 0] 26))] []) := hid (by have h9 := (HS1.out.alloc (.cells #[.string ⟨#[]⟩, .string ⟨#[]⟩, .int .u64 0, .int .i64 0, .int .i64 0, .slice none 0 0] 26)).alloc (.cells #[.string ⟨#[]⟩, .string ⟨#[]⟩, .int .u64 0, .int .i64 0, .int .i64 0, .slice none 0 0] 26); rw [World.size_alloc] at h9; exact h9)
 clear HS1
 go_wp2_with fail
 refine cmo (is_gives c hc _ (ts) ⟨#[118, 111, 105, 100]⟩ HS2.out.ps) ?_
 rintro e9 w1 ⟨rfl, hov⟩
 rw [bv]
 have HS3 := hid (HS2.out.isOv hov)
 clear HS2
 have hz1 := hov.size_le
 try simp only [WZ] at hz1
 clear hov
 have hy1 : w.heap.size + 1 < w1.heap.size := lt_of_heap HS3.out.h0
 obtain ⟨t0, t1, t2, t3, t4, t5, tf⟩ := cells6 HS3.out.h0
 go_wp2_with fail
 refine cmo (typ_calls c hc _ ts HS3.out.ps) ?_
 rintro e9 w3 ⟨hkp, hp9⟩
 rw [HT.out] at hp9
 rw [(Option.some.inj HB.out).symm]
 subst hp9
 exact ⟨rfl, HS3.out.kp.trans hkp, rfl⟩
set_option maxRecDepth 20000 in
set_option maxHeartbeats 800000 in
theorem item_arr (c : PC) (hc : c.Ok) (g : Nat) (hg : g ≤ 1000000000) (w : World) (ts ts3 : List Tok) (r : PR Node) (t x : Node) (hps : PS c w ts) (ts2 : List Tok) (bv : isF ts ⟨#[118, 111, 105, 100]⟩ = false) (HT : Hid (typF ts = .ok t ts2)) (HN : Hid (nameF ts2 = .ok x ts3)) (bp : isF ts3 ⟨#[40]⟩ = false) (bq : isF ts3 ⟨#[91]⟩ = true) (bk : ((nowT ts3.tail).kind == 1) = true) (bk2 : ((nowT ts3.tail).kind != 1) = false) (HB : Hid (bnd (some (needF ts3.tail.tail ⟨#[93]⟩)) (fun _ r3 => semiF ⟨⟨#[103, 108, 111, 98, 97, 108]⟩, x.text, 0, t.line, t.col, [t, leafN ⟨#[110, 117, 109]⟩ (nowT ts3.tail)]⟩ r3) = some r)) : Calls Tryz.prog 31 #[.pointer (some ⟨c.p, 0, none⟩)] w (PostN c w r) := by
 have hlt := hps.lt
 have HS1 := hid (Sta.start hps)
 clear hps
 go_enter Tryz.func31, Tryz.ntmps31
 have HS2 : Hid (Sta c w ((w.alloc (.cells #[.string ⟨#[]⟩, .string ⟨#[]⟩, .int .u64 0, .int .i64 0, .int .i64 0, .slice none 0 0] 26)).alloc (.cells #[.string ⟨#[]⟩, .string ⟨#[]⟩, .int .u64 0, .int .i64 0, .int .i64 0, .slice none 0 0] 26)) ts [(w.heap.size + 1, (.cells #[.string ⟨#[]⟩, .string ⟨#[]⟩, .int .u64 0, .int .i64 0, .int .i64 0, .slice none 0 0] 26)), (w.heap.size, (.cells #[.string ⟨#[]⟩, .string ⟨#[]⟩, .int .u64 0, .int .i64 0, .int .i64 0, .slice none 0 0] 26))] []) := hid (by have h9 := (HS1.out.alloc (.cells #[.string ⟨#[]⟩, .string ⟨#[]⟩, .int .u64 0, .int .i64 0, .int .i64 0, .slice none 0 0] 26)).alloc (.cells #[.string ⟨#[]⟩, .string ⟨#[]⟩, .int .u64 0, .int .i64 0, .int .i64 0, .slice none 0 0] 26); rw [World.size_alloc] at h9; exact h9)
 clear HS1
 go_wp2_with fail
 refine cmo (is_gives c hc _ (ts) ⟨#[118, 111, 105, 100]⟩ HS2.out.ps) ?_
 rintro e9 w1 ⟨rfl, hov⟩
 rw [bv]
 have HS3 := hid (HS2.out.isOv hov)
 clear HS2
 have hz1 := hov.size_le
 try simp only [WZ] at hz1
 clear hov
 have hy1 : w.heap.size + 1 < w1.heap.size := lt_of_heap HS3.out.h0
 obtain ⟨t0, t1, t2, t3, t4, t5, tf⟩ := cells6 HS3.out.h0
 go_wp2_with fail
 refine cmo (typ_calls c hc _ ts HS3.out.ps) ?_
 rintro e9 w2 ⟨hkp, hp9⟩
 rw [HT.out] at hp9
 obtain ⟨rfl, hk_t, hps9⟩ := hp9
 have HK_t := hid hk_t
 clear hk_t
 have HS4 := hid (HS3.out.call hkp hps9)
 clear HS3
 clear hkp hps9
 unfold nodeV
 have hy2 : w.heap.size + 1 < w2.heap.size := lt_of_heap HS4.out.h0
 clear t0 t1 t2 t3 t4 t5 tf
 obtain ⟨t0, t1, t2, t3, t4, t5, tf⟩ := cells6 HS4.out.h0
 go_wp2_with fail
 have HS5 := hid (HS4.out.set6 hc (by omega) (by simp <;> omega) (.string t.kind) (.string t.text) (.int .u64 t.num) (.int .i64 t.line) (.int .i64 t.col) (.slice none 0 0))
 clear HS4
 refine cmo (name_calls c hc _ (ts2) HS5.out.ps) ?_
 rintro e9 w3 ⟨hkp, hp9⟩
 rw [HN.out] at hp9
 obtain ⟨rfl, hk_x, hps9⟩ := hp9
 clear hk_x
 have HS6 := hid (HS5.out.call hkp hps9)
 clear HS5
 have hy3 : w.heap.size + 1 < w3.heap.size := lt_of_heap HS6.out.h0
 unfold nodeV
 clear hkp hps9 t0 t1 t2 t3 t4 t5 tf
 obtain ⟨t0, t1, t2, t3, t4, t5, tf⟩ := cells6 HS6.out.h0
 go_wp2_with fail
 have HS7 : Hid (Sta c w (((w3.alloc (.cells #[.string x.kind, .string x.text, .int .u64 x.num, .int .i64 x.line, .int .i64 x.col, .slice none 0 0] 26)).alloc (.cells #[.string t.kind, .string t.text, .int .u64 t.num, .int .i64 t.line, .int .i64 t.col, .slice none 0 0] 26)).alloc (.cells #[.string ⟨#[103, 108, 111, 98, 97, 108]⟩, .string x.text, .int .u64 0, .int .i64 t.line, .int .i64 t.col, (.slice (some ⟨w3.heap.size + 1, 0, none⟩) 1 1)] 26)) ts3 [(w3.heap.size + 1 + 1, (.cells #[.string ⟨#[103, 108, 111, 98, 97, 108]⟩, .string x.text, .int .u64 0, .int .i64 t.line, .int .i64 t.col, (.slice (some ⟨w3.heap.size + 1, 0, none⟩) 1 1)] 26)), (w3.heap.size, (.cells #[.string x.kind, .string x.text, .int .u64 x.num, .int .i64 x.line, .int .i64 x.col, .slice none 0 0] 26)), (w.heap.size + 1, (.cells #[.string t.kind, .string t.text, .int .u64 t.num, .int .i64 t.line, .int .i64 t.col, .slice none 0 0] 26)), (w.heap.size, (.cells #[.string ⟨#[]⟩, .string ⟨#[]⟩, .int .u64 0, .int .i64 0, .int .i64 0, .slice none 0 0] 26))] [(w3.heap.size + 1, (.slice (some ⟨w3.heap.size + 1, 0, none⟩) 1 1), [t])]) := hid (by have h9 := (((HS6.out.alloc (.cells #[.string x.kind, .string x.text, .int .u64 x.num, .int .i64 x.line, .int .i64 x.col, .slice none 0 0] 26)).nilK HK_t.out (w3.heap.size + 1) (by omega)).made1 (by simp)).alloc (.cells #[.string ⟨#[103, 108, 111, 98, 97, 108]⟩, .string x.text, .int .u64 0, .int .i64 t.line, .int .i64 t.col, (.slice (some ⟨w3.heap.size + 1, 0, none⟩) 1 1)] 26); simp only [World.size_alloc] at h9; exact h9)
 clear HS6
 clear t0 t1 t2 t3 t4 t5 tf
 refine cmo (take_calls c hc _ (ts3) ⟨#[40]⟩ HS7.out.ps) ?_
 rintro e9 w4 ⟨rfl, hpt, hkt⟩
 rw [bp] at hpt ⊢
 have hpt2 : PS c w4 (ts3) := hpt
 have HS8 := hid (HS7.out.call hkt hpt2)
 clear HS7
 have hz4 := hkt.size_le
 try simp only [WZ] at hz4
 clear hpt hkt hpt2
 have hy4 : w3.heap.size + 1 + 1 < w4.heap.size := lt_of_heap HS8.out.h0
 obtain ⟨n0, n1, n2, n3, n4, n5, nf⟩ := cells6 HS8.out.h0
 obtain ⟨r0, r1, r2, r3, r4, r5, rf⟩ := cells6 HS8.out.h3
 go_wp2_with fail
 refine cmo (take_calls c hc _ (ts3) ⟨#[91]⟩ HS8.out.ps) ?_
 rintro e9 w5 ⟨rfl, hpt, hkt⟩
 rw [bq] at hpt ⊢
 have hpt2 : PS c w5 (ts3.tail) := hpt
 have HS9 := hid (HS8.out.call hkt hpt2)
 clear HS8
 have hz5 := hkt.size_le
 try simp only [WZ] at hz5
 clear hpt hkt hpt2
 have hy5 : w3.heap.size + 1 + 1 < w5.heap.size := lt_of_heap HS9.out.h0
 clear n0 n1 n2 n3 n4 n5 nf r0 r1 r2 r3 r4 r5 rf
 obtain ⟨n0, n1, n2, n3, n4, n5, nf⟩ := cells6 HS9.out.h0
 obtain ⟨r0, r1, r2, r3, r4, r5, rf⟩ := cells6 HS9.out.h3
 go_wp2_with fail
 refine cmo (now_gives c hc _ (ts3.tail) HS9.out.ps) ?_
 rintro e9 w6 ⟨rfl, hov⟩
 have HS10 := hid (HS9.out.isOv hov)
 clear HS9
 have hz6 := hov.size_le
 try simp only [WZ] at hz6
 clear hov
 have hy6 : w3.heap.size + 1 + 1 < w6.heap.size := lt_of_heap HS10.out.h0
 clear n0 n1 n2 n3 n4 n5 nf r0 r1 r2 r3 r4 r5 rf
 obtain ⟨n0, n1, n2, n3, n4, n5, nf⟩ := cells6 HS10.out.h0
 obtain ⟨r0, r1, r2, r3, r4, r5, rf⟩ := cells6 HS10.out.h3
 generalize hv : nowT ts3.tail = v at *
 have HV := hid hv
 clear hv
 rw [show v.val = .agg #[.int .i64 v.kind, .string v.text, .int .u64 v.num, .int .i64 v.line, .int .i64 v.col] from rfl]
 have hfd := field_kind v
 go_wp2_with fail
 clear hfd
 have HD := hid (HS10.out.drew)
 have hd0 : w6.drew.heap.size = w6.heap.size := rfl
 have hS0 : (fun w' : World => w'.cell? ⟨w3.heap.size + 1 + 1, 5, none⟩ = some (.slice (some ⟨w3.heap.size + 1, 0, none⟩) 1 1)) w6.drew := cell_of_heap HD.out.h0 5
 refine wp_region_K (fun w' => w'.cell? ⟨w3.heap.size + 1 + 1, 5, none⟩ = some (.slice (some ⟨w3.heap.size + 1, 0, none⟩) 1 1)) (fun j => j == 7) (by kernel_rfl) ?_
 refine wpAnyK_take (i := 0) (v := ?_) rfl (by kernel_rfl) (by kernel_rfl) (by kernel_rfl) (by kernel_rfl) (fun _ _ _ h => h) (Or.inl ⟨by rfl, ?_⟩) hS0 ?_
 rotate_left
 · intro w9 hSw; (try dsimp only at hSw); go_simp; (try with_reducible rfl)
 try simp only [Act.put, List.setIfInBounds_toArray, List.set_cons_zero, List.set_cons_succ]
 refine wpAnyK_take (i := 1) (v := ?_) rfl (by kernel_rfl) (by kernel_rfl) (by kernel_rfl) (by kernel_rfl) (fun _ _ _ h => h) (Or.inl ⟨by rfl, ?_⟩) hS0 ?_
 rotate_left
 · intro w9 hSw; (try dsimp only at hSw); go_simp; (try with_reducible rfl)
 try simp only [Act.put, List.setIfInBounds_toArray, List.set_cons_zero, List.set_cons_succ]
 refine wpAnyK_take (i := 2) (v := ?_) rfl (by kernel_rfl) (by kernel_rfl) (by kernel_rfl) (by kernel_rfl) (fun _ _ _ h => h) (Or.inl ⟨by rfl, ?_⟩) hS0 ?_
 rotate_left
 · intro w9 hSw; (try dsimp only at hSw); go_simp; (try with_reducible rfl)
 try simp only [Act.put, List.setIfInBounds_toArray, List.set_cons_zero, List.set_cons_succ]
 refine wpAnyK_one (i := 3) (by kernel_rfl) rfl (fun K hK => ?_)
 go_simp
 refine cmo (leaf_calls c hc _ ts3.tail ⟨#[110, 117, 109]⟩ HD.out.ps (by rw [HV.out]; intro e; rw [e] at bk; exact absurd bk (by decide))) ?_
 rintro e9 w30 ⟨rfl, hpt, hkp⟩
 rw [HV.out]
 generalize hu : leafN ⟨#[110, 117, 109]⟩ v = u at *
 have HU := hid hu
 have hku : u.kids = [] := by rw [← hu]; exact leaf_kids _ _
 clear hu
 have HVB : ∀ k, (Value.slice (some ⟨w3.heap.size + 1, 0, none⟩) 1 1).ownBlock = some k → k < w6.drew.heap.size := Kd.R_lt HD.out.r0
 have HST := (HD.out.call hkp hpt).nilK hku w6.drew.heap.size (by have h9 := HD.out.lt; have h8 := HD.out.size; omega)
 have hz30 : w6.heap.size ≤ w30.heap.size := hkp.size_le
 clear hkp hpt HD hS0 n0 n1 n2 n3 n4 n5 nf r0 r1 r2 r3 r4 r5 rf
 refine hK.out _ _ (fun _ => cell_of_heap HST.h0 5) ?_
 clear hK K
 refine wpAnyK_one (i := 4) (by kernel_rfl) rfl (fun K hK => ?_)
 go_simp
 refine hK.out _ _ (fun _ => cell_of_heap (hs_alloc HST.h0 _) 5) ?_
 clear hK K
 refine wpAnyK_law (i := 5) (by kernel_rfl) rfl (fun K hK => ?_)
 refine Kd.R_append kNode (w0 := w30) (W := w30) (w3.heap.size + 1) rfl (.tmp 56) (.tmp 59) 24 26 (.agg #[.string ⟨#[]⟩, .string ⟨#[]⟩, .int .u64 0, .int .i64 0, .int .i64 0, .slice none 0 0]) 80 rfl Tryz.underlying24 node_info rfl (by decide) (by decide) (.slice (some ⟨w3.heap.size + 1, 0, none⟩) 1 1) [t] u [.string u.kind, .string u.text, .int .u64 u.num, .int .i64 u.line, .int .i64 u.col, (.slice none 0 0)] _ _ rfl rfl (app_M HST) (app_ne HST HVB) (app_fresh HST) HST.r1 (Below.refl _ _) ?aS ?aL ?_
 case aS => omega
 case aL => first | omega | (simp; done) | (simp <;> omega)
 intro v9 w9 hR9 _ hg9 _
 have HS140 := hid (Sta.appended hc HST (by omega) hg9 hR9)
 have hz9 : w30.heap.size ≤ w9.heap.size := hg9.size
 clear hR9 hg9
 refine wpList_nil (hK.out _ _ (fun _ => cell_of_heap HS140.out.h0 5) ?_)
 clear hK K
 try simp only [Act.put, List.setIfInBounds_toArray, List.set_cons_zero, List.set_cons_succ]
 clear HST HVB
 obtain ⟨A19, cap19, rfl⟩ := Kd.R_slice HS140.out.r0
 have hy9 : w3.heap.size + 1 + 1 < w9.heap.size := lt_of_heap HS140.out.h0
 obtain ⟨n0, n1, n2, n3, n4, n5, nf⟩ := cells6 HS140.out.h0
 obtain ⟨r0, r1, r2, r3, r4, r5, rf⟩ := cells6 HS140.out.h3
 refine wpAnyK_one (i := 6) (by kernel_rfl) rfl (fun K hK => ?_)
 go_simp
 refine hK.out _ _ (fun _ => cell_of_heap HS140.out.h0 5) ?_
 clear hK K
 refine wpAnyK_one (i := 7) (by kernel_rfl) rfl (fun K hK => ?_)
 go_simp
 try go_wp2_with fail
 refine hK.out _ _ (fun h => absurd h (by decide)) ?_
 clear hK K
 refine wpAnyK_done (by kernel_rfl) ?_ _
 try go_wp2_with fail
 have HS141 := hid ((HS140.out.set hc (by omega) (by simp <;> omega) 5 (.slice A19 2 cap19)))
 clear HS140
 clear n0 n1 n2 n3 n4 n5 nf r0 r1 r2 r3 r4 r5 rf
 have hzg : w9.heap.size ≤ (w9.setCell ⟨w3.heap.size + 1 + 1, 5, none⟩ (.slice A19 2 cap19)).heap.size := by simp only [World.size_setCell, World.size_alloc]; omega
 have HSG := HS141.out
 clear HS141
 revert hzg HSG
 generalize w9.setCell ⟨w3.heap.size + 1 + 1, 5, none⟩ (.slice A19 2 cap19) = w10
 intro hz10 HSG
 have HS142 := hid HSG
 clear HSG
 have hy10 : w3.heap.size + 1 + 1 < w10.heap.size := lt_of_heap HS142.out.h0
 obtain ⟨n0, n1, n2, n3, n4, n5, nf⟩ := cells6 HS142.out.h0
 obtain ⟨r0, r1, r2, r3, r4, r5, rf⟩ := cells6 HS142.out.h3
 go_wp2_with fail
 refine cmo (need_calls c hc _ (ts3.tail.tail) ⟨#[93]⟩ HS142.out.ps) ?_
 rintro e9 w11 ⟨hkp, hp9⟩
 rcases bnd_some HB.out with ⟨l, k, er, he, rfl⟩ | ⟨t9, ts4, he, hB9⟩
 ·
  rw [Option.some.inj he] at hp9
  subst hp9
  exact ⟨rfl, HS142.out.kp.trans hkp, rfl⟩
 ·
  rw [Option.some.inj he] at hp9
  obtain ⟨rfl, hps9⟩ := hp9
  have HB3 := hid hB9
  clear hB9
  have HS143 := hid (HS142.out.call hkp hps9)
  clear HS142
  have hz11 := hkp.size_le
  try simp only [WZ] at hz11
  clear hkp hps9 he HB
  have hy11 : w3.heap.size + 1 + 1 < w11.heap.size := lt_of_heap HS143.out.h0
  clear n0 n1 n2 n3 n4 n5 nf r0 r1 r2 r3 r4 r5 rf
  obtain ⟨n0, n1, n2, n3, n4, n5, nf⟩ := cells6 HS143.out.h0
  obtain ⟨r0, r1, r2, r3, r4, r5, rf⟩ := cells6 HS143.out.h3
  go_wp2_with fail
  refine cmo (need_calls c hc _ (ts4) ⟨#[59]⟩ HS143.out.ps) ?_
  rintro e9 w12 ⟨hkp, hp9⟩
  rcases bnd_some HB3.out with ⟨l, k, er, he, rfl⟩ | ⟨t8, ts5, he, hB9⟩
  ·
   rw [Option.some.inj he] at hp9
   subst hp9
   exact ⟨rfl, HS143.out.kp.trans hkp, rfl⟩
  ·
   rw [Option.some.inj he] at hp9
   obtain ⟨rfl, hps9⟩ := hp9
   have HB4 := hid hB9
   clear hB9
   have HS144 := hid (HS143.out.call hkp hps9)
   clear HS143
   have hz12 := hkp.size_le
   try simp only [WZ] at hz12
   clear hkp hps9 he HB3
   have hy12 : w3.heap.size + 1 + 1 < w12.heap.size := lt_of_heap HS144.out.h0
   clear n0 n1 n2 n3 n4 n5 nf r0 r1 r2 r3 r4 r5 rf
   obtain ⟨n0, n1, n2, n3, n4, n5, nf⟩ := cells6 HS144.out.h0
   obtain ⟨r0, r1, r2, r3, r4, r5, rf⟩ := cells6 HS144.out.h3
   go_wp2_with fail
   rw [(Option.some.inj HB4.out).symm]
   exact ret_sta hc (n := ⟨⟨#[103, 108, 111, 98, 97, 108]⟩, x.text, 0, t.line, t.col, [t, u]⟩) (A := A19) (cap := cap19) (base := w3.heap.size + 1) Tryz.results31 (by rfl) (HS144.out.rot4) (by omega) (by omega) (by simp <;> omega)
theorem item_calls (c : PC) (hc : c.Ok) (g : Nat) (hg : g ≤ 1000000000) (w : World) (ts : List Tok) (r : PR Node) (h : itemF g ts = some r) (hps : PS c w ts) : Calls Tryz.prog 31 #[.pointer (some ⟨c.p, 0, none⟩)] w (PostN c w r) := by
 simp only [itemF] at h
 cases bv : isF ts ⟨#[118, 111, 105, 100]⟩
 ·
  simp only [bv, Bool.false_eq_true, ↓reduceIte] at h
  cases hT : typF ts with
  | bad l k e => rw [hT] at h; exact item_badt c hc g hg w ts ts r zNode zNode hps l k e bv (hid hT) (hid h)
  | ok t ts2 =>
   rw [hT] at h
   simp only [bnd] at h
   cases hN : nameF ts2 with
   | bad l k e => rw [hN] at h; exact item_bad0 c hc g hg w ts ts r t zNode hps ts2 l k e bv (hid hT) (hid hN) (hid h)
   | ok x ts3 =>
    rw [hN] at h
    simp only [bnd] at h
    cases bp : isF ts3 ⟨#[40]⟩
    ·
     simp only [bp, Bool.false_eq_true, ↓reduceIte] at h
     cases bq : isF ts3 ⟨#[91]⟩
     ·
      simp only [bq, Bool.false_eq_true, ↓reduceIte] at h
      exact item_glob c hc g hg w ts ts3 r t x hps ts2 bv (hid hT) (hid hN) bp bq (hid h)
     ·
      simp only [bq, ↓reduceIte] at h
      cases bk2 : ((nowT ts3.tail).kind != 1)
      ·
       simp only [bk2, Bool.false_eq_true, ↓reduceIte] at h
       exact item_arr c hc g hg w ts ts3 r t x hps ts2 bv (hid hT) (hid hN) bp bq (by simpa using bk2) bk2 (hid h)
      ·
       simp only [bk2, ↓reduceIte] at h
       exact item_arrbad c hc g hg w ts ts3 r t x hps ts2 bv (hid hT) (hid hN) bp bq (by simpa using bk2) bk2 (hid h)
    ·
     simp only [bp, ↓reduceIte] at h
     exact item_func0 c hc g hg w ts ts3 r t x hps ts2 bv (hid hT) (hid hN) bp (hid h)
 ·
  simp only [bv, ↓reduceIte, bnd] at h
  cases hN : nameF ts.tail with
  | bad l k e => rw [hN] at h; exact item_bad1 c hc g hg w ts ts r _ zNode hps l k e bv (hid rfl) (hid hN) (hid h)
  | ok x ts3 =>
   rw [hN] at h
   simp only [bnd] at h
   cases bp : isF ts3 ⟨#[40]⟩
   ·
    simp only [bp, Bool.false_eq_true, ↓reduceIte] at h
    exact item_void c hc g hg w ts ts3 r _ x hps bv (hid rfl) (hid hN) bp (hid h)
   ·
    simp only [bp, ↓reduceIte] at h
    exact item_func1 c hc g hg w ts ts3 r _ x hps bv (hid rfl) (hid hN) bp (hid h)
end Go.Proofs.YtdimhoilfopndaaGreatDoor
end
section
namespace Go.Proofs.YtdimhoilfopndaaGreatDoor
open Go.RowKit
def Tok.Z (t : Tok) : Tok := ⟨t.kind, t.text, t.num, 0, 0⟩
mutual
def Node.strip : Node → Node
 | ⟨k, t, n, _, _, ks⟩ => ⟨k, t, n, 0, 0, stripL ks⟩
def stripL : List Node → List Node
 | [] => []
 | x :: xs => x.strip :: stripL xs
end
theorem strip_mk (k t : ByteArray) (n l c : Int) (ks : List Node) : Node.strip ⟨k, t, n, l, c, ks⟩ = ⟨k, t, n, 0, 0, stripL ks⟩ := by simp only [Node.strip]
theorem strip_text (n : Node) : n.strip.text = n.text := by cases n; simp only [strip_mk]
theorem strip_num (n : Node) : n.strip.num = n.num := by cases n; simp only [strip_mk]
theorem strip_line (n : Node) : n.strip.line = 0 := by cases n; simp only [strip_mk]
theorem strip_col (n : Node) : n.strip.col = 0 := by cases n; simp only [strip_mk]
theorem stripL_nil : stripL [] = [] := by simp only [stripL]
theorem stripL_cons (x : Node) (xs : List Node) : stripL (x :: xs) = x.strip :: stripL xs := by simp only [stripL]
theorem stripL_app (xs ys : List Node) : stripL (xs ++ ys) = stripL xs ++ stripL ys := by
 induction xs with
 | nil => simp only [stripL_nil, List.nil_append]
 | cons x xs ih => simp only [List.cons_append, stripL_cons, ih]
theorem stripL_map (xs : List Node) : stripL xs = xs.map Node.strip := by
 induction xs with
 | nil => simp only [stripL_nil, List.map_nil]
 | cons x xs ih => simp only [List.map_cons, stripL_cons, ih]
def PR.Z {α β : Type} (f : α → β) : PR α → PR β
 | .ok a ts => .ok (f a) (ts.map Tok.Z)
 | .bad _ _ e => .bad 0 0 e
theorem nowT_Z (ts : List Tok) : nowT (ts.map Tok.Z) = (nowT ts).Z := by cases ts <;> rfl
theorem tail_Z (ts : List Tok) : (ts.map Tok.Z).tail = ts.tail.map Tok.Z := by cases ts <;> rfl
theorem isF_Z (ts : List Tok) (x : ByteArray) : isF (ts.map Tok.Z) x = isF ts x := by simp only [isF, nowT_Z, Tok.Z]
theorem namedF_Z (ts : List Tok) : namedF (ts.map Tok.Z) = namedF ts := by simp only [namedF, nowT_Z, Tok.Z]
theorem isTypeF_Z (ts : List Tok) : isTypeF (ts.map Tok.Z) = isTypeF ts := by simp only [isTypeF, nowT_Z, Tok.Z]
theorem badAt_Z {α β : Type} (f : α → β) (ts : List Tok) (e : Int) : badAt (ts.map Tok.Z) e = PR.Z f (badAt ts e) := by simp only [badAt, nowT_Z, Tok.Z, PR.Z]
theorem needF_Z (ts : List Tok) (x : ByteArray) : needF (ts.map Tok.Z) x = PR.Z Tok.Z (needF ts x) := by
 simp only [needF, isF_Z]
 split
 · simp only [nowT_Z, tail_Z, PR.Z]
 · exact badAt_Z _ _ _
theorem leafN_Z (k : ByteArray) (t : Tok) : leafN k t.Z = (leafN k t).strip := by
 simp only [leafN, Tok.Z]
 repeat (first | (split <;> skip) | simp only [strip_mk, stripL_nil])
 all_goals simp_all only [strip_mk, stripL_nil]
theorem bnd_Z {α β α' β' : Type} {f : α → α'} {h : β → β'} {x : Option (PR α)} {F : α → List Tok → Option (PR β)} {F' : α' → List Tok → Option (PR β')}
  (hF : ∀ a ts, F' (f a) (ts.map Tok.Z) = (F a ts).map (PR.Z h)) : bnd (x.map (PR.Z f)) F' = (bnd x F).map (PR.Z h) := by
 cases x with
 | none => rfl
 | some r =>
  cases r with
  | bad l k e => rfl
  | ok a ts => simp only [bnd, Option.map_some, PR.Z]; exact hF a ts
theorem bnd_need_Z {β β' : Type} {h : β → β'} (ts : List Tok) (x : ByteArray) {F : Tok → List Tok → Option (PR β)} {F' : Tok → List Tok → Option (PR β')}
  (hF : ∀ a ts, F' a.Z (ts.map Tok.Z) = (F a ts).map (PR.Z h)) : bnd (some (needF (ts.map Tok.Z) x)) F' = (bnd (some (needF ts x)) F).map (PR.Z h) := by
 rw [needF_Z]
 exact bnd_Z (x := some (needF ts x)) hF
theorem nameF_Z (ts : List Tok) : nameF (ts.map Tok.Z) = PR.Z Node.strip (nameF ts) := by
 simp only [nameF, namedF_Z]
 split
 · simp only [nowT_Z, tail_Z, PR.Z, leafN_Z]
 · exact badAt_Z _ _ _
theorem typF_Z (ts : List Tok) : typF (ts.map Tok.Z) = PR.Z Node.strip (typF ts) := by
 simp only [typF, isTypeF_Z]
 split
 · simp only [nowT_Z, tail_Z, PR.Z, leafN_Z]
 · exact badAt_Z _ _ _
theorem bnd_name_Z {β β' : Type} {h : β → β'} (ts : List Tok) {F : Node → List Tok → Option (PR β)} {F' : Node → List Tok → Option (PR β')}
  (hF : ∀ a ts, F' a.strip (ts.map Tok.Z) = (F a ts).map (PR.Z h)) : bnd (some (nameF (ts.map Tok.Z))) F' = (bnd (some (nameF ts)) F).map (PR.Z h) := by
 rw [nameF_Z]
 exact bnd_Z (x := some (nameF ts)) hF
theorem bnd_typ_Z {β β' : Type} {h : β → β'} (ts : List Tok) {F : Node → List Tok → Option (PR β)} {F' : Node → List Tok → Option (PR β')}
  (hF : ∀ a ts, F' a.strip (ts.map Tok.Z) = (F a ts).map (PR.Z h)) : bnd (some (typF (ts.map Tok.Z))) F' = (bnd (some (typF ts)) F).map (PR.Z h) := by
 rw [typF_Z]
 exact bnd_Z (x := some (typF ts)) hF
structure ZOk (g : Nat) : Prop where
 expr : ∀ d ts, exprF g d (ts.map Tok.Z) = (exprF g d ts).map (PR.Z Node.strip)
 binary : ∀ d i ts, binaryF g d i (ts.map Tok.Z) = (binaryF g d i ts).map (PR.Z Node.strip)
 more : ∀ d i n ts, moreF g d i n.strip (ts.map Tok.Z) = (moreF g d i n ts).map (PR.Z Node.strip)
 operand : ∀ d ts, operandF g d (ts.map Tok.Z) = (operandF g d ts).map (PR.Z Node.strip)
 index : ∀ x d ts, indexF g x.strip d (ts.map Tok.Z) = (indexF g x d ts).map (PR.Z Node.strip)
theorem some_badAt_Z {α β : Type} (f : α → β) (ts : List Tok) (e : Int) : some (badAt (ts.map Tok.Z) e) = (some (badAt ts e)).map (PR.Z f) := by rw [badAt_Z f]; rfl
theorem some_ok_Z (n m : Node) (ts : List Tok) (h : m = n.strip) : some (PR.ok m (ts.map Tok.Z)) = (some (PR.ok n ts)).map (PR.Z Node.strip) := by rw [h]; rfl
theorem zOk : ∀ g, ZOk g := by
 intro g
 induction g with
 | zero => exact ⟨fun _ _ => by simp [exprF], fun _ _ _ => by simp [binaryF], fun _ _ _ _ => by simp [moreF], fun _ _ => by simp [operandF], fun _ _ _ => by simp [indexF]⟩
 | succ g ih =>
  refine ⟨fun d ts => ?_, fun d i ts => ?_, fun d i n ts => ?_, fun d ts => ?_, fun x d ts => ?_⟩
  ·
   simp only [exprF]
   split
   · exact some_badAt_Z _ _ _
   · exact ih.binary d 0 ts
  ·
   simp only [binaryF]
   split
   · exact ih.operand d ts
   ·
    rw [ih.binary]
    exact bnd_Z fun a r => ih.more d i a r
  ·
   simp only [moreF, nowT_Z, tail_Z]
   rw [show (nowT ts).Z.kind = (nowT ts).kind from rfl, show (nowT ts).Z.text = (nowT ts).text from rfl]
   split
   ·
    rw [ih.binary]
    refine bnd_Z fun a r => ?_
    rw [← ih.more]
    simp only [strip_mk, stripL_cons, stripL_nil]
    rfl
   · rfl
  ·
   simp only [operandF, isF_Z, namedF_Z, isTypeF_Z, nowT_Z, tail_Z]
   rw [show (nowT ts).Z.kind = (nowT ts).kind from rfl, show (nowT ts).Z.text = (nowT ts).text from rfl]
   split
   · exact some_badAt_Z _ _ _
   split
   ·
    rw [ih.operand]
    exact bnd_Z fun a r => some_ok_Z _ _ _ (by simp only [strip_mk, stripL_cons, stripL_nil, stripL_app, strip_text, strip_num, strip_line, strip_col, leafN_Z] <;> rfl)
   split
   · exact some_ok_Z _ _ _ (leafN_Z _ _)
   split
   · exact some_ok_Z _ _ _ (leafN_Z _ _)
   split
   · rw [leafN_Z]; exact ih.index _ _ _
   split
   ·
    split
    ·
     refine bnd_need_Z _ _ fun a r => ?_
     rw [ih.operand]
     exact bnd_Z fun a r => some_ok_Z _ _ _ (by simp only [strip_mk, stripL_cons, stripL_nil, stripL_app, strip_text, strip_num, strip_line, strip_col, leafN_Z] <;> rfl)
    ·
     rw [ih.expr]
     exact bnd_Z fun a r => bnd_need_Z _ _ fun b r => some_ok_Z _ _ _ rfl
   · exact some_badAt_Z _ _ _
  ·
   simp only [indexF, isF_Z, tail_Z]
   split
   ·
    rw [ih.expr]
    exact bnd_Z fun a r => bnd_need_Z _ _ fun b r => some_ok_Z _ _ _ (by simp only [strip_mk, stripL_cons, stripL_nil, stripL_app, strip_text, strip_num, strip_line, strip_col, leafN_Z] <;> rfl)
   · exact some_ok_Z _ _ _ rfl
theorem listF_Z {one : List Tok → Option (PR Node)} (h1 : ∀ ts, one (ts.map Tok.Z) = (one ts).map (PR.Z Node.strip)) : ∀ g l ts, listF one g (stripL l) (ts.map Tok.Z) = (listF one g l ts).map (PR.Z stripL) := by
 intro g
 induction g with
 | zero => intro l ts; simp [listF]
 | succ g ih =>
  intro l ts
  simp only [listF]
  rw [h1]
  refine bnd_Z fun a r => ?_
  simp only [isF_Z, tail_Z]
  split
  · simp only [Option.map_some, PR.Z, stripL_app, stripL_cons, stripL_nil]
  ·
   split
   · rw [← ih]; simp only [stripL_app, stripL_cons, stripL_nil]
   · exact some_badAt_Z _ _ _
theorem listsF_Z {one : List Tok → Option (PR Node)} (h1 : ∀ ts, one (ts.map Tok.Z) = (one ts).map (PR.Z Node.strip)) (g : Nat) (ts : List Tok) : listsF one g (ts.map Tok.Z) = (listsF one g ts).map (PR.Z stripL) := by
 simp only [listsF, isF_Z, tail_Z]
 split
 · simp only [Option.map_some, PR.Z, stripL_nil]
 ·
  have := listF_Z h1 g [] ts
  rwa [stripL_nil] at this
theorem paramF_Z (ts : List Tok) : paramF (ts.map Tok.Z) = (paramF ts).map (PR.Z Node.strip) := by
 unfold paramF
 refine bnd_typ_Z _ fun t r => bnd_name_Z _ fun n r2 => some_ok_Z _ _ _ ?_
 simp only [strip_mk, stripL_cons, stripL_nil, strip_text, strip_line, strip_col]
theorem condF_Z (g : Nat) (d : Int) (ts : List Tok) : condF g d (ts.map Tok.Z) = (condF g d ts).map (PR.Z Node.strip) := by
 unfold condF
 refine bnd_need_Z _ _ fun a r => ?_
 rw [(zOk g).expr]
 exact bnd_Z fun n r => bnd_need_Z _ _ fun b r => some_ok_Z _ _ _ rfl
theorem callF_Z (g : Nat) (x : Node) (d : Int) (ts : List Tok) : callF g x.strip d (ts.map Tok.Z) = (callF g x d ts).map (PR.Z Node.strip) := by
 unfold callF
 refine bnd_need_Z _ _ fun a r => ?_
 rw [listsF_Z (fun ts => (zOk g).expr (d + 1) ts)]
 exact bnd_Z fun n r => some_ok_Z _ _ _ (by simp only [strip_mk, stripL_cons, stripL_nil, stripL_app, strip_text, strip_num, strip_line, strip_col, leafN_Z] <;> rfl)
theorem semiF_Z (n : Node) (ts : List Tok) : semiF n.strip (ts.map Tok.Z) = (semiF n ts).map (PR.Z Node.strip) := by
 unfold semiF
 exact bnd_need_Z _ _ fun a r => some_ok_Z _ _ _ rfl
theorem semiF_Z' (n m : Node) (ts : List Tok) (h : m = n.strip) : semiF m (ts.map Tok.Z) = (semiF n ts).map (PR.Z Node.strip) := by rw [h]; exact semiF_Z n ts
theorem simpleF_Z (g : Nat) (d : Int) (ts : List Tok) : simpleF g d (ts.map Tok.Z) = (simpleF g d ts).map (PR.Z Node.strip) := by
 unfold simpleF
 refine bnd_name_Z _ fun x r => ?_
 simp only [isF_Z]
 split
 · rw [callF_Z]; exact bnd_Z fun y r => semiF_Z _ _
 ·
  rw [(zOk g).index]
  refine bnd_Z fun y r => bnd_need_Z _ _ fun _ r3 => ?_
  simp only [isF_Z, namedF_Z, tail_Z, nowT_Z]
  rw [show (nowT r3.tail).Z.kind = (nowT r3.tail).kind from rfl, show (nowT r3.tail).Z.text = (nowT r3.tail).text from rfl]
  rw [show (r3.tail.map Tok.Z).isEmpty = r3.tail.isEmpty from by cases r3.tail <;> rfl]
  split
  · exact bnd_need_Z _ _ fun _ r4 => bnd_need_Z _ _ fun _ r5 => semiF_Z' _ _ _ (by simp only [strip_mk, stripL_cons, stripL_nil, stripL_app, strip_text, strip_num, strip_line, strip_col, leafN_Z] <;> rfl)
  split
  ·
   refine bnd_name_Z _ fun z r4 => ?_
   rw [callF_Z]
   exact bnd_Z fun u r => semiF_Z' _ _ _ (by simp only [strip_mk, stripL_cons, stripL_nil, stripL_app, strip_text, strip_num, strip_line, strip_col, leafN_Z] <;> rfl)
  ·
   rw [(zOk g).expr]
   exact bnd_Z fun u r => semiF_Z' _ _ _ (by simp only [strip_mk, stripL_cons, stripL_nil, stripL_app, strip_text, strip_num, strip_line, strip_col, leafN_Z] <;> rfl)
theorem withKind_Z (k : ByteArray) (n : Node) : withKind k n.strip = (withKind k n).strip := by cases n; simp only [withKind, strip_mk]
structure ZBl (g : Nat) : Prop where
 block : ∀ d ts, blockF g d (ts.map Tok.Z) = (blockF g d ts).map (PR.Z Node.strip)
 stmts : ∀ d l k ks ts, stmtsF g d 0 0 (stripL ks) (ts.map Tok.Z) = (stmtsF g d l k ks ts).map (PR.Z Node.strip)
 stmt : ∀ d ts, stmtF g d (ts.map Tok.Z) = (stmtF g d ts).map (PR.Z Node.strip)
theorem zBl : ∀ g, ZBl g := by
 intro g
 induction g with
 | zero => exact ⟨fun _ _ => by simp [blockF], fun _ _ _ _ _ => by simp [stmtsF], fun _ _ => by simp [stmtF]⟩
 | succ g ih =>
  refine ⟨fun d ts => ?_, fun d l k ks ts => ?_, fun d ts => ?_⟩
  ·
   simp only [blockF]
   split
   · exact some_badAt_Z _ _ _
   ·
    refine bnd_need_Z _ _ fun t r => ?_
    have := ih.stmts d t.line t.col [] r
    rwa [stripL_nil] at this
  ·
   simp only [stmtsF, isF_Z, tail_Z]
   split
   · exact some_ok_Z _ _ _ (by simp only [strip_mk, stripL_cons, stripL_nil, stripL_app, strip_text, strip_num, strip_line, strip_col, leafN_Z] <;> rfl)
   ·
    rw [ih.stmt]
    refine bnd_Z fun n r => ?_
    rw [← ih.stmts]
    simp only [stripL_app, stripL_cons, stripL_nil]
  ·
   simp only [stmtF, isF_Z, namedF_Z, isTypeF_Z, nowT_Z, tail_Z]
   rw [show (nowT ts).Z.kind = (nowT ts).kind from rfl, show (nowT ts).Z.text = (nowT ts).text from rfl]
   split
   ·
    rw [paramF_Z]; refine bnd_Z fun x r => ?_
    rw [withKind_Z]; exact semiF_Z _ _
   split
   · exact simpleF_Z _ _ _
   split
   · exact some_badAt_Z _ _ _
   split
   ·
    rw [condF_Z]
    refine bnd_Z fun a r => ?_
    rw [ih.block]
    refine bnd_Z fun b r2 => ?_
    simp only [isF_Z, tail_Z]
    split
    ·
     rw [ih.block]
     exact bnd_Z fun e r => some_ok_Z _ _ _ (by simp only [strip_mk, stripL_cons, stripL_nil, stripL_app, strip_text, strip_num, strip_line, strip_col, leafN_Z] <;> rfl)
    · exact some_ok_Z _ _ _ (by simp only [strip_mk, stripL_cons, stripL_nil, stripL_app, strip_text, strip_num, strip_line, strip_col, leafN_Z] <;> rfl)
   split
   ·
    split
    · exact semiF_Z' _ _ _ (by simp only [strip_mk, stripL_cons, stripL_nil, stripL_app, strip_text, strip_num, strip_line, strip_col, leafN_Z] <;> rfl)
    ·
     rw [(zOk g).expr]
     exact bnd_Z fun a r => semiF_Z' _ _ _ (by simp only [strip_mk, stripL_cons, stripL_nil, stripL_app, strip_text, strip_num, strip_line, strip_col, leafN_Z] <;> rfl)
   split
   ·
    rw [condF_Z]
    exact bnd_Z fun a r => semiF_Z' _ _ _ (by simp only [strip_mk, stripL_cons, stripL_nil, stripL_app, strip_text, strip_num, strip_line, strip_col, leafN_Z] <;> rfl)
   · exact some_badAt_Z _ _ _
theorem itemF_Z (g : Nat) (ts : List Tok) : itemF g (ts.map Tok.Z) = (itemF g ts).map (PR.Z Node.strip) := by
 unfold itemF
 simp only [isF_Z]
 have h0 : some (if isF ts ⟨#[118, 111, 105, 100]⟩ then PR.ok (leafN ⟨#[116, 121, 112, 101]⟩ (nowT (ts.map Tok.Z))) (ts.map Tok.Z).tail else typF (ts.map Tok.Z)) = (some (if isF ts ⟨#[118, 111, 105, 100]⟩ then PR.ok (leafN ⟨#[116, 121, 112, 101]⟩ (nowT ts)) ts.tail else typF ts)).map (PR.Z Node.strip) := by
  split
  · rw [nowT_Z, tail_Z]; exact some_ok_Z _ _ _ (leafN_Z _ _)
  · rw [typF_Z]; rfl
 rw [h0]
 refine bnd_Z fun t r => bnd_name_Z _ fun x r2 => ?_
 simp only [isF_Z, tail_Z, nowT_Z]
 rw [show (nowT r2.tail).Z.kind = (nowT r2.tail).kind from rfl]
 split
 ·
  rw [listsF_Z paramF_Z]
  refine bnd_Z fun l r3 => ?_
  rw [(zBl g).block]
  exact bnd_Z fun b r4 => some_ok_Z _ _ _ (by simp only [strip_mk, stripL_cons, stripL_nil, stripL_app, strip_text, strip_num, strip_line, strip_col, leafN_Z] <;> rfl)
 split
 · exact some_badAt_Z _ _ _
 split
 ·
  split
  · exact some_badAt_Z _ _ _
  · exact bnd_need_Z _ _ fun _ r3 => semiF_Z' _ _ _ (by simp only [strip_mk, stripL_cons, stripL_nil, stripL_app, strip_text, strip_num, strip_line, strip_col, leafN_Z] <;> rfl)
 · exact semiF_Z' _ _ _ (by simp only [strip_mk, stripL_cons, stripL_nil, stripL_app, strip_text, strip_num, strip_line, strip_col, leafN_Z] <;> rfl)
theorem itemsF_Z : ∀ g l k ks ts, itemsF g 0 0 (stripL ks) (ts.map Tok.Z) = (itemsF g l k ks ts).map (PR.Z Node.strip) := by
 intro g
 induction g with
 | zero => intro l k ks ts; simp [itemsF]
 | succ g ih =>
  intro l k ks ts
  simp only [itemsF, nowT_Z]
  rw [show (nowT ts).Z.kind = (nowT ts).kind from rfl]
  split
  · exact some_ok_Z _ _ _ (by simp only [strip_mk, stripL_cons, stripL_nil, stripL_app, strip_text, strip_num, strip_line, strip_col, leafN_Z] <;> rfl)
  ·
   rw [itemF_Z]
   refine bnd_Z fun n r => ?_
   rw [← ih l k]
   simp only [stripL_app, stripL_cons, stripL_nil]
theorem parseF_Z (g : Nat) (ts : List Tok) : parseF g (ts.map Tok.Z) = (parseF g ts).map (PR.Z Node.strip) := by
 unfold parseF
 rw [nowT_Z]
 have := itemsF_Z g (nowT ts).line (nowT ts).col [] ts
 rwa [stripL_nil] at this
end Go.Proofs.YtdimhoilfopndaaGreatDoor
end
section
namespace Go.Proofs.YtdimhoilfopndaaGreatDoor
open Go.RowKit
def Fin' {α : Type} (x : Option (PR α)) (n : Nat) : Prop := ∃ r, x = some r ∧ ∀ a ts, r = .ok a ts → ts.length < n
theorem Fin'.bad {α : Type} (ts : List Tok) (e : Int) (n : Nat) : Fin' (some (badAt ts e : PR α)) n := ⟨_, rfl, fun a ts h => by simp [badAt] at h⟩
theorem Fin'.ok {α : Type} (a : α) (ts : List Tok) (n : Nat) (h : ts.length < n) : Fin' (some (.ok a ts)) n := ⟨_, rfl, fun a ts h2 => by cases h2; exact h⟩
theorem Fin'.mono {α : Type} {x : Option (PR α)} {n m : Nat} (h : Fin' x n) (hm : n ≤ m) : Fin' x m := by
 obtain ⟨r, h1, h2⟩ := h
 exact ⟨r, h1, fun a ts h => Nat.lt_of_lt_of_le (h2 a ts h) hm⟩
theorem Fin'.bnd {α β : Type} {x : Option (PR α)} {F : α → List Tok → Option (PR β)} {n m : Nat} (h : Fin' x n) (hF : ∀ a ts, ts.length < n → Fin' (F a ts) m) : Fin' (bnd x F) m := by
 obtain ⟨r, rfl, h2⟩ := h
 cases r with
 | bad l k e => exact ⟨_, rfl, fun a ts h => by cases h⟩
 | ok a ts => exact hF a ts (h2 a ts rfl)
theorem isF_len {ts : List Tok} {x : ByteArray} (hx : x.data.toList ≠ []) (h : isF ts x = true) : ts.tail.length + 1 = ts.length := by
 cases ts with
 | nil =>
  simp only [isF, Bool.and_eq_true, beq_iff_eq] at h
  exact absurd h.1.symm hx
 | cons t ts => simp
theorem kind_len {ts : List Tok} (h : (nowT ts).kind ≠ 0) : ts.tail.length + 1 = ts.length := by
 cases ts with
 | nil => exact absurd rfl h
 | cons t ts => simp
theorem namedF_len {ts : List Tok} (h : namedF ts = true) : ts.tail.length + 1 = ts.length := by
 cases ts with
 | nil => exact absurd h (by decide)
 | cons t ts => simp
theorem isTypeF_len {ts : List Tok} (h : isTypeF ts = true) : ts.tail.length + 1 = ts.length := by
 cases ts with
 | nil => exact absurd h (by decide)
 | cons t ts => simp
theorem needF_fin (ts : List Tok) (x : ByteArray) (hx : x.data.toList ≠ []) : Fin' (some (needF ts x)) ts.length := by
 unfold needF
 split
 · rename_i h; exact .ok _ _ _ (by have := isF_len hx h; omega)
 · exact .bad _ _ _
theorem nameF_fin (ts : List Tok) : Fin' (some (nameF ts)) ts.length := by
 unfold nameF
 split
 · rename_i h; exact .ok _ _ _ (by have := namedF_len h; omega)
 · exact .bad _ _ _
theorem typF_fin (ts : List Tok) : Fin' (some (typF ts)) ts.length := by
 unfold typF
 split
 · rename_i h; exact .ok _ _ _ (by have := isTypeF_len h; omega)
 · exact .bad _ _ _
structure FOk (g : Nat) : Prop where
 expr : ∀ d ts, 16 * ts.length + 13 ≤ g → Fin' (exprF g d ts) ts.length
 binary : ∀ d i ts, i ≤ 10 → 16 * ts.length + 12 - i ≤ g → Fin' (binaryF g d i ts) ts.length
 more : ∀ d i n ts, i < 10 → 16 * ts.length + 1 ≤ g → Fin' (moreF g d i n ts) (ts.length + 1)
 operand : ∀ d ts, 16 * ts.length + 1 ≤ g → Fin' (operandF g d ts) ts.length
 index : ∀ x d ts, 16 * ts.length + 1 ≤ g → Fin' (indexF g x d ts) (ts.length + 1)
theorem fOk : ∀ g, FOk g := by
 intro g
 induction g with
 | zero => exact ⟨fun _ _ h => by omega, fun _ _ _ _ h => by omega, fun _ _ _ _ _ h => by omega, fun _ _ h => by omega, fun _ _ _ h => by omega⟩
 | succ g ih =>
  refine ⟨fun d ts h => ?_, fun d i ts hi h => ?_, fun d i n ts hi h => ?_, fun d ts h => ?_, fun x d ts h => ?_⟩
  ·
   simp only [exprF]
   split
   · exact .bad _ _ _
   · exact ih.binary d 0 ts (by omega) (by omega)
  ·
   simp only [binaryF]
   split
   · exact ih.operand d ts (by omega)
   ·
    refine (ih.binary d (i + 1) ts (by omega) (by omega)).bnd fun a r hr => ?_
    exact (ih.more d i a r (by omega) (by omega)).mono (by omega)
  ·
   simp only [moreF]
   split
   ·
    rename_i hk
    have hl := kind_len (ts := ts) (by simp only [Bool.and_eq_true, beq_iff_eq] at hk; omega)
    refine (ih.binary d (i + 1) ts.tail (by omega) (by omega)).bnd fun a r hr => ?_
    exact (ih.more d i _ r (by omega) (by omega)).mono (by omega)
   · exact .ok _ _ _ (by omega)
  ·
   simp only [operandF]
   split
   · exact .bad _ _ _
   split
   ·
    rename_i hk
    have hl : ts.tail.length + 1 = ts.length := by
     simp only [Bool.or_eq_true] at hk
     rcases hk with hk | hk | hk <;> exact isF_len (by decide) hk
    exact (ih.operand (d + 1) ts.tail (by omega)).bnd fun a r hr => .ok _ _ _ (by omega)
   split
   ·
    rename_i hk
    have hl := kind_len (ts := ts) (by simp only [beq_iff_eq] at hk; omega)
    exact .ok _ _ _ (by omega)
   split
   ·
    rename_i hk
    have hl : ts.tail.length + 1 = ts.length := by
     simp only [Bool.or_eq_true] at hk
     rcases hk with hk | hk <;> exact isF_len (by decide) hk
    exact .ok _ _ _ (by omega)
   split
   ·
    rename_i hk
    have hl := namedF_len hk
    exact (ih.index _ _ _ (by omega)).mono (by omega)
   split
   ·
    rename_i hk
    have hl := isF_len (by decide) hk
    split
    ·
     rename_i hk2
     have hl2 := isTypeF_len hk2
     refine (needF_fin _ _ (by decide)).bnd fun _ r hr => ?_
     exact (ih.operand (d + 1) r (by omega)).bnd fun a r hr => .ok _ _ _ (by omega)
    ·
     refine (ih.expr (d + 1) ts.tail (by omega)).bnd fun a r hr => ?_
     exact (needF_fin _ _ (by decide)).bnd fun _ r2 hr2 => .ok _ _ _ (by omega)
   · exact .bad _ _ _
  ·
   simp only [indexF]
   split
   ·
    rename_i hk
    have hl := isF_len (by decide) hk
    refine (ih.expr (d + 1) ts.tail (by omega)).bnd fun a r hr => ?_
    exact (needF_fin _ _ (by decide)).bnd fun _ r2 hr2 => .ok _ _ _ (by omega)
   · exact .ok _ _ _ (by omega)
theorem listF_fin {one : List Tok → Option (PR Node)} : ∀ (g : Nat) (l : List Node) (ts : List Tok), (∀ r, r.length ≤ ts.length → Fin' (one r) r.length) → ts.length < g → Fin' (listF one g l ts) ts.length := by
 intro g
 induction g with
 | zero => intro l ts _ h; omega
 | succ g ih =>
  intro l ts h1 h
  simp only [listF]
  refine (h1 ts (Nat.le_refl _)).bnd fun a r hr => ?_
  split
  ·
   rename_i hk
   exact .ok _ _ _ (by have := isF_len (by decide) hk; omega)
  split
  ·
   rename_i hk
   have := isF_len (by decide) hk
   exact (ih _ r.tail (fun q hq => h1 q (by omega)) (by omega)).mono (by omega)
  · exact .bad _ _ _
theorem listsF_fin {one : List Tok → Option (PR Node)} (g : Nat) (ts : List Tok) (h1 : ∀ r, r.length ≤ ts.length → Fin' (one r) r.length) (h : ts.length < g) : Fin' (listsF one g ts) ts.length := by
 simp only [listsF]
 split
 ·
  rename_i hk
  exact .ok _ _ _ (by have := isF_len (by decide) hk; omega)
 · exact listF_fin g [] ts h1 h
theorem paramF_fin (ts : List Tok) : Fin' (paramF ts) ts.length := by
 unfold paramF
 exact (typF_fin ts).bnd fun t r hr => (nameF_fin r).bnd fun n r2 hr2 => .ok _ _ _ (by omega)
theorem condF_fin (g : Nat) (d : Int) (ts : List Tok) (h : 16 * ts.length ≤ g) : Fin' (condF g d ts) ts.length := by
 unfold condF
 refine (needF_fin _ _ (by decide)).bnd fun _ r hr => ?_
 refine ((fOk g).expr d r (by omega)).bnd fun n r2 hr2 => ?_
 exact (needF_fin _ _ (by decide)).bnd fun _ r3 hr3 => .ok _ _ _ (by omega)
theorem callF_fin (g : Nat) (x : Node) (d : Int) (ts : List Tok) (h : 16 * ts.length ≤ g) : Fin' (callF g x d ts) ts.length := by
 unfold callF
 refine (needF_fin _ _ (by decide)).bnd fun _ r hr => ?_
 refine (listsF_fin g r (fun q hq => (fOk g).expr (d + 1) q (by omega)) (by omega)).bnd fun l r2 hr2 => .ok _ _ _ (by omega)
theorem semiF_fin (n : Node) (ts : List Tok) : Fin' (semiF n ts) ts.length := by
 unfold semiF
 exact (needF_fin _ _ (by decide)).bnd fun _ r hr => .ok _ _ _ (by omega)
theorem simpleF_fin (g : Nat) (d : Int) (ts : List Tok) (h : 16 * ts.length ≤ g) : Fin' (simpleF g d ts) ts.length := by
 unfold simpleF
 refine (nameF_fin ts).bnd fun x r hr => ?_
 split
 · exact (callF_fin g x d r (by omega)).bnd fun y r2 hr2 => (semiF_fin _ _).mono (by omega)
 ·
  refine ((fOk g).index x d r (by omega)).bnd fun y r2 hr2 => ?_
  refine (needF_fin _ _ (by decide)).bnd fun _ r3 hr3 => ?_
  split
  ·
   rename_i hk
   have := isF_len (by decide) hk
   exact (needF_fin _ _ (by decide)).bnd fun _ r4 hr4 => (needF_fin _ _ (by decide)).bnd fun _ r5 hr5 => (semiF_fin _ _).mono (by omega)
  split
  · exact (nameF_fin r3).bnd fun z r4 hr4 => (callF_fin g z d r4 (by omega)).bnd fun u r5 hr5 => (semiF_fin _ _).mono (by omega)
  · exact ((fOk g).expr d r3 (by omega)).bnd fun u r4 hr4 => (semiF_fin _ _).mono (by omega)
structure FBl (g : Nat) : Prop where
 block : ∀ d ts, 16 * ts.length + 3 ≤ g → Fin' (blockF g d ts) ts.length
 stmts : ∀ d l k ks ts, 16 * ts.length + 2 ≤ g → Fin' (stmtsF g d l k ks ts) ts.length
 stmt : ∀ d ts, 16 * ts.length + 1 ≤ g → Fin' (stmtF g d ts) ts.length
theorem fBl : ∀ g, FBl g := by
 intro g
 induction g with
 | zero => exact ⟨fun _ _ h => by omega, fun _ _ _ _ _ h => by omega, fun _ _ h => by omega⟩
 | succ g ih =>
  refine ⟨fun d ts h => ?_, fun d l k ks ts h => ?_, fun d ts h => ?_⟩
  ·
   simp only [blockF]
   split
   · exact .bad _ _ _
   ·
    refine (needF_fin _ _ (by decide)).bnd fun t r hr => ?_
    exact (ih.stmts d t.line t.col [] r (by omega)).mono (by omega)
  ·
   simp only [stmtsF]
   split
   ·
    rename_i hk
    exact .ok _ _ _ (by have := isF_len (by decide) hk; omega)
   ·
    refine (ih.stmt d ts (by omega)).bnd fun n r hr => ?_
    exact (ih.stmts d l k _ r (by omega)).mono (by omega)
  ·
   simp only [stmtF]
   split
   · exact (paramF_fin ts).bnd fun x r hr => (semiF_fin _ _).mono (by omega)
   split
   · exact simpleF_fin g d ts (by omega)
   split
   · exact .bad _ _ _
   split
   ·
    rename_i hk
    have hl : ts.tail.length + 1 = ts.length := by
     simp only [Bool.or_eq_true] at hk
     rcases hk with hk | hk <;> exact isF_len (by decide) hk
    refine (condF_fin g d ts.tail (by omega)).bnd fun a r hr => ?_
    refine (ih.block (d + 1) r (by omega)).bnd fun b r2 hr2 => ?_
    split
    ·
     rename_i hk2
     simp only [Bool.and_eq_true] at hk2
     have := isF_len (by decide) hk2.2
     exact (ih.block (d + 1) r2.tail (by omega)).bnd fun e r3 hr3 => .ok _ _ _ (by omega)
    · exact .ok _ _ _ (by omega)
   split
   ·
    rename_i hk
    have hl := isF_len (by decide) hk
    split
    · exact (semiF_fin _ _).mono (by omega)
    · exact ((fOk g).expr d ts.tail (by omega)).bnd fun a r hr => (semiF_fin _ _).mono (by omega)
   split
   ·
    rename_i hk
    have hl : ts.tail.length + 1 = ts.length := by
     simp only [Bool.or_eq_true] at hk
     rcases hk with hk | hk <;> exact isF_len (by decide) hk
    exact (condF_fin g d ts.tail (by omega)).bnd fun a r hr => (semiF_fin _ _).mono (by omega)
   · exact .bad _ _ _
theorem itemF_fin (g : Nat) (ts : List Tok) (h : 16 * ts.length ≤ g) : Fin' (itemF g ts) ts.length := by
 unfold itemF
 have h0 : Fin' (some (if isF ts ⟨#[118, 111, 105, 100]⟩ then PR.ok (leafN ⟨#[116, 121, 112, 101]⟩ (nowT ts)) ts.tail else typF ts)) ts.length := by
  split
  ·
   rename_i hk
   exact .ok _ _ _ (by have := isF_len (by decide) hk; omega)
  · exact typF_fin ts
 refine h0.bnd fun t r hr => (nameF_fin r).bnd fun x r2 hr2 => ?_
 split
 ·
  rename_i hk
  have := isF_len (by decide) hk
  refine (listsF_fin g r2.tail (fun q hq => paramF_fin q) (by omega)).bnd fun l r3 hr3 => ?_
  exact ((fBl g).block 1 r3 (by omega)).bnd fun b r4 hr4 => .ok _ _ _ (by omega)
 split
 · exact .bad _ _ _
 split
 ·
  rename_i hk
  have := isF_len (by decide) hk
  split
  · exact .bad _ _ _
  ·
   rename_i hk2
   have hl := kind_len (ts := r2.tail) (by simp at hk2; omega)
   exact (needF_fin _ _ (by decide)).bnd fun _ r3 hr3 => (semiF_fin _ _).mono (by omega)
 · exact (semiF_fin _ _).mono (by omega)
theorem itemsF_fin : ∀ g l k ks ts, 16 * ts.length + 1 ≤ g → Fin' (itemsF g l k ks ts) (ts.length + 1) := by
 intro g
 induction g with
 | zero => intro l k ks ts h; omega
 | succ g ih =>
  intro l k ks ts h
  simp only [itemsF]
  split
  · exact .ok _ _ _ (by omega)
  · exact (itemF_fin g ts (by omega)).bnd fun n r hr => (ih l k _ r (by omega)).mono (by omega)
theorem parseF_fin (g : Nat) (ts : List Tok) (h : 16 * ts.length + 1 ≤ g) : Fin' (parseF g ts) (ts.length + 1) := itemsF_fin g _ _ _ ts h
theorem parseF_some (g : Nat) (ts : List Tok) (h : 16 * ts.length + 1 ≤ g) : ∃ r, parseF g ts = some r := by
 obtain ⟨r, h1, _⟩ := parseF_fin g ts h
 exact ⟨r, h1⟩
theorem readF_some (g : Nat) (src : ByteArray) (h : 16 * (lexR src).toks.length + 1 ≤ g) : ∃ r, readF g src = some r := by
 unfold readF
 split
 · exact ⟨_, rfl⟩
 ·
  obtain ⟨r, h1⟩ := parseF_some g _ h
  rw [h1]
  cases r <;> exact ⟨_, rfl⟩
end Go.Proofs.YtdimhoilfopndaaGreatDoor
end
