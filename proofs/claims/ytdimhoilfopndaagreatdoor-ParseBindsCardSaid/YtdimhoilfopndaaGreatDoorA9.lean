/- Texts of one proof, put together: Pq Pr Ps Pt Pu Pv Pw PC PCa. Conditions: as each lemma says. -/
import Derived.Test.YtdimhoilfopndaaGreatDoorA8
set_option linter.unusedVariables false
set_option linter.unusedSimpArgs false
section
namespace Go.Proofs.YtdimhoilfopndaaGreatDoor
open Go.RowKit Go.Proofs.YtdimhoilfopndaaGreatDoorW.PrintWords
section
variable {P : Program} {c0 : Code} {Q : Exit → Act → World → Prop} {a : Act} {w : World}
theorem wp_cut {A : Act} (St : World → Prop) (h1 : c0.wp P (fun e a' w' => (e = .normal → a' = A ∧ St w') ∧ (e ≠ .normal → Q e a' w')) a w) (h2 : ∀ w', St w' → Q .normal A w') : c0.wp P Q a w :=
 Code.wp_mono (fun e a' w' h => by
  by_cases he : e = .normal
  · subst he; obtain ⟨rfl, h9⟩ := h.1 rfl; exact h2 w' h9
  · exact h.2 he) h1
variable {ops : Array Oper} {md : Region.Mode} {S : World → Prop} {late : Nat → Bool}
theorem wpAnyK_two {i j : Nat} {oi oj : Oper} {fuel : Nat} {listed : Array Bool} (hr : Region.ready md ops listed = [i, j]) (hi : ops[i]? = some oi) (hj : ops[j]? = some oj)
  (h : ∀ K' : Act → World → Prop, Shut (∀ a w, (late i = false → S w) → wpAnyK P md ops Q S late fuel (listed.setIfInBounds i true) a w → K' a w) → if Region.wanted oi (yielded ops a.tmps) = true then Oper.wp P oi a w K' Q else K' (a.put oi.dst undef) w)
  (h' : ∀ K' : Act → World → Prop, Shut (∀ a w, (late j = false → S w) → wpAnyK P md ops Q S late fuel (listed.setIfInBounds j true) a w → K' a w) → if Region.wanted oj (yielded ops a.tmps) = true then Oper.wp P oj a w K' Q else K' (a.put oj.dst undef) w) :
  wpAnyK P md ops Q S late (fuel + 1) listed a w := by
 refine ⟨fun h0 => (by rw [hr] at h0; cases h0), fun k hk => ?_⟩
 rw [hr] at hk
 simp only [List.mem_cons, List.not_mem_nil, or_false] at hk
 rcases hk with rfl | rfl
 · exact wpOp_step hi (fun K' hK => h K' (fun a w hS hW => hK a w ⟨hS, hW⟩))
 · exact wpOp_step hj (fun K' hK => h' K' (fun a w hS hW => hK a w ⟨hS, hW⟩))
end
abbrev XS (b : Nat) (n : Node) (A : Option Addr) (cap : Nat) (w' : World) : Prop := w'.cell? ⟨b, 0, none⟩ = some (.string n.kind) ∧ w'.cell? ⟨b, 1, none⟩ = some (.string n.text) ∧ w'.cell? ⟨b, 2, none⟩ = some (.int .u64 n.num) ∧ w'.cell? ⟨b, 3, none⟩ = some (.int .i64 n.line) ∧ w'.cell? ⟨b, 4, none⟩ = some (.int .i64 n.col) ∧ w'.cell? ⟨b, 5, none⟩ = some (.slice A n.kids.length cap)
theorem XS_of {b : Nat} {n : Node} {A : Option Addr} {cap : Nat} {w' : World} (h : w'.heap[b]? = some (.cells #[.string n.kind, .string n.text, .int .u64 n.num, .int .i64 n.line, .int .i64 n.col, .slice A n.kids.length cap] 26)) : XS b n A cap w' := ⟨cell_of_heap h 0, cell_of_heap h 1, cell_of_heap h 2, cell_of_heap h 3, cell_of_heap h 4, cell_of_heap h 5⟩
set_option maxRecDepth 20000 in
set_option maxHeartbeats 400000 in
theorem simple_call (c : PC) (hc : c.Ok) (g : Nat) (hg : g ≤ 1000000000) (w : World) (d : Int) (ts ts2 : List Tok) (x : Node) (r : PR Node) (hps : PS c w ts) (h0 : 0 ≤ d) (h1 : d ≤ 60) (HN : Hid (nameF ts = .ok x ts2)) (b0 : isF ts2 ⟨#[40]⟩ = true) (HB : Hid (bnd (callF g x d ts2) (fun y r2 => semiF y r2) = some r)) : Calls Tryz.prog 104 #[.pointer (some ⟨c.p, 0, none⟩), .int .i64 d] w (PostN c w r) := by
 have hlt := hps.lt
 have HS1 := hid (Sta.start hps)
 clear hps
 go_enter Tryz.func104, Tryz.ntmps104
 have HS2 := hid (HS1.out.alloc (.cells #[.string ⟨#[]⟩, .string ⟨#[]⟩, .int .u64 0, .int .i64 0, .int .i64 0, .slice none 0 0] 26))
 clear HS1
 go_wp2_with fail
 refine cmo (name_calls c hc _ (ts) HS2.out.ps) ?_
 rintro e9 w1 ⟨hkp, hp9⟩
 rw [HN.out] at hp9
 obtain ⟨rfl, hk_x, hps9⟩ := hp9
 have HK_x := hid hk_x
 clear hk_x
 have HS3 := hid (HS2.out.call hkp hps9)
 clear HS2
 have hz1 := hkp.size_le
 try simp only [WZ] at hz1
 unfold nodeV
 clear hkp hps9
 go_wp2_with fail
 have HS4 : Hid (Sta c w ((w1.alloc (.cells #[.string x.kind, .string x.text, .int .u64 x.num, .int .i64 x.line, .int .i64 x.col, .slice none 0 0] 26)).alloc (.cells #[.string ⟨#[]⟩, .string ⟨#[]⟩, .int .u64 0, .int .i64 x.line, .int .i64 x.col, .slice none 0 0] 26)) ts2 [(w1.heap.size + 1, (.cells #[.string ⟨#[]⟩, .string ⟨#[]⟩, .int .u64 0, .int .i64 x.line, .int .i64 x.col, .slice none 0 0] 26)), (w1.heap.size, (.cells #[.string x.kind, .string x.text, .int .u64 x.num, .int .i64 x.line, .int .i64 x.col, .slice none 0 0] 26)), (w.heap.size, (.cells #[.string ⟨#[]⟩, .string ⟨#[]⟩, .int .u64 0, .int .i64 0, .int .i64 0, .slice none 0 0] 26))] []) := hid (by have h9 := (HS3.out.alloc (.cells #[.string x.kind, .string x.text, .int .u64 x.num, .int .i64 x.line, .int .i64 x.col, .slice none 0 0] 26)).alloc (.cells #[.string ⟨#[]⟩, .string ⟨#[]⟩, .int .u64 0, .int .i64 x.line, .int .i64 x.col, .slice none 0 0] 26); rw [World.size_alloc] at h9; exact h9)
 clear HS3
 refine cmo (is_gives c hc _ (ts2) ⟨#[40]⟩ HS4.out.ps) ?_
 rintro e9 w2 ⟨rfl, hov⟩
 rw [b0]
 have HS5 := hid (HS4.out.isOv hov)
 clear HS4
 have hz2 := hov.size_le
 try simp only [WZ] at hz2
 clear hov
 have hy2 : w1.heap.size + 2 ≤ w2.heap.size := lt_of_heap HS5.out.h0
 obtain ⟨x0, x1, x2, x3, x4, x5, xf⟩ := cells6 HS5.out.h1
 obtain ⟨n0, n1, n2, n3, n4, n5, nf⟩ := cells6 HS5.out.h0
 go_wp2_with fail
 rcases bnd_some HB.out with ⟨l, k, er, he, rfl⟩ | ⟨y, ts3, he, hB9⟩
 ·
  refine cmo (call_calls c hc g hg _ x d _ _ he HS5.out.ps h0 h1) ?_
  rintro e9 w99 ⟨hkp, rfl⟩
  exact ⟨rfl, HS5.out.kp.trans hkp, rfl⟩
 ·
  have HB2 := hid hB9
  clear hB9
  refine cmo (call_calls c hc g hg _ x d _ _ he HS5.out.ps h0 h1) ?_
  clear he
  rintro e9 w3 ⟨hkp, hpt, Ay, capy, rfl, hR⟩
  have HS6 := hid (HS5.out.got hkp hpt (Nat.le_refl _) hR)
  clear HS5
  have hz3 := hkp.size_le
  try simp only [WZ] at hz3
  unfold nodeV
  clear hkp hpt hR HB
  clear x0 x1 x2 x3 x4 x5 xf n0 n1 n2 n3 n4 n5 nf
  obtain ⟨x0, x1, x2, x3, x4, x5, xf⟩ := cells6 HS6.out.h1
  obtain ⟨n0, n1, n2, n3, n4, n5, nf⟩ := cells6 HS6.out.h0
  go_wp2_with fail
  have HS7 := hid ((HS6.out.swap).set6 hc (by omega) (by simp <;> omega) (.string y.kind) (.string y.text) (.int .u64 y.num) (.int .i64 y.line) (.int .i64 y.col) (.slice Ay y.kids.length capy))
  clear HS6
  refine cmo (need_calls c hc _ (ts3) ⟨#[59]⟩ HS7.out.ps) ?_
  rintro e9 w4 ⟨hkp, hp9⟩
  rcases bnd_some HB2.out with ⟨l, k, er, he, rfl⟩ | ⟨t2, ts4, he, hB9⟩
  ·
   rw [Option.some.inj he] at hp9
   subst hp9
   exact ⟨rfl, HS7.out.kp.trans hkp, rfl⟩
  ·
   rw [Option.some.inj he] at hp9
   obtain ⟨rfl, hps9⟩ := hp9
   have HB3 := hid hB9
   clear hB9
   have HS8 := hid (HS7.out.call hkp hps9)
   clear HS7
   have hz4 := hkp.size_le
   try simp only [WZ] at hz4
   clear hkp hps9 he HB2
   obtain ⟨x0, x1, x2, x3, x4, x5, xf⟩ := cells6 HS8.out.h0
   obtain ⟨r0, r1, r2, r3, r4, r5, rf⟩ := cells6 HS8.out.h2
   go_wp2_with fail
   rw [(Option.some.inj HB3.out).symm]
   exact ret_sta hc (n := y) (A := Ay) (cap := capy) (base := w2.heap.size) Tryz.results104 (by rfl) (HS8.out.swap.drop.swap) (by omega) (by omega) (by simp <;> omega)
set_option maxRecDepth 20000 in
set_option maxHeartbeats 400000 in
theorem simple_bads (c : PC) (hc : c.Ok) (g : Nat) (w : World) (d : Int) (ts : List Tok) (r : PR Node) (hps : PS c w ts) (h0 : 0 ≤ d) (h1 : d ≤ 60) (HB : Hid (bnd (some (nameF ts)) (fun x r2 => if isF r2 ⟨#[40]⟩ then none else bnd (indexF g x d r2) fun y r2 => bnd (some (needF r2 ⟨#[61]⟩)) fun _ r3 => none) = some r)) : Calls Tryz.prog 104 #[.pointer (some ⟨c.p, 0, none⟩), .int .i64 d] w (PostN c w r) := by
 have hlt := hps.lt
 have HS1 := hid (Sta.start hps)
 clear hps
 go_enter Tryz.func104, Tryz.ntmps104
 have HS2 := hid (HS1.out.alloc (.cells #[.string ⟨#[]⟩, .string ⟨#[]⟩, .int .u64 0, .int .i64 0, .int .i64 0, .slice none 0 0] 26))
 clear HS1
 go_wp2_with fail
 refine cmo (name_calls c hc _ (ts) HS2.out.ps) ?_
 rintro e9 w1 ⟨hkp, hp9⟩
 rcases bnd_some HB.out with ⟨l, k, er, he, rfl⟩ | ⟨x, ts2, he, hB9⟩
 ·
  rw [Option.some.inj he] at hp9
  subst hp9
  exact ⟨rfl, HS2.out.kp.trans hkp, rfl⟩
 ·
  rw [Option.some.inj he] at hp9
  obtain ⟨rfl, hk_x, hps9⟩ := hp9
  have HK_x := hid hk_x
  clear hk_x
  have HB2 := hid hB9
  clear hB9
  have HS3 := hid (HS2.out.call hkp hps9)
  clear HS2
  have hz1 := hkp.size_le
  try simp only [WZ] at hz1
  unfold nodeV
  clear hkp hps9 he HB
  go_wp2_with fail
  have HS4 : Hid (Sta c w ((w1.alloc (.cells #[.string x.kind, .string x.text, .int .u64 x.num, .int .i64 x.line, .int .i64 x.col, .slice none 0 0] 26)).alloc (.cells #[.string ⟨#[]⟩, .string ⟨#[]⟩, .int .u64 0, .int .i64 x.line, .int .i64 x.col, .slice none 0 0] 26)) ts2 [(w1.heap.size + 1, (.cells #[.string ⟨#[]⟩, .string ⟨#[]⟩, .int .u64 0, .int .i64 x.line, .int .i64 x.col, .slice none 0 0] 26)), (w1.heap.size, (.cells #[.string x.kind, .string x.text, .int .u64 x.num, .int .i64 x.line, .int .i64 x.col, .slice none 0 0] 26)), (w.heap.size, (.cells #[.string ⟨#[]⟩, .string ⟨#[]⟩, .int .u64 0, .int .i64 0, .int .i64 0, .slice none 0 0] 26))] []) := hid (by have h9 := (HS3.out.alloc (.cells #[.string x.kind, .string x.text, .int .u64 x.num, .int .i64 x.line, .int .i64 x.col, .slice none 0 0] 26)).alloc (.cells #[.string ⟨#[]⟩, .string ⟨#[]⟩, .int .u64 0, .int .i64 x.line, .int .i64 x.col, .slice none 0 0] 26); rw [World.size_alloc] at h9; exact h9)
  clear HS3
  cases b0 : isF ts2 ⟨#[40]⟩
  rotate_left
  · exact absurd (show none = some r from by have h9 := HB2.out; rw [b0] at h9; exact h9) (by simp)
  have HB3 : Hid (bnd (indexF g x d ts2) (fun y r2 => bnd (some (needF r2 ⟨#[61]⟩)) fun _ r3 => none) = some r) := hid (by have h9 := HB2.out; rw [b0] at h9; exact h9)
  clear HB2
  refine cmo (is_gives c hc _ (ts2) ⟨#[40]⟩ HS4.out.ps) ?_
  rintro e9 w2 ⟨rfl, hov⟩
  rw [b0]
  have HS5 := hid (HS4.out.isOv hov)
  clear HS4
  have hz2 := hov.size_le
  try simp only [WZ] at hz2
  clear hov
  have hy2 : w1.heap.size + 2 ≤ w2.heap.size := lt_of_heap HS5.out.h0
  obtain ⟨x0, x1, x2, x3, x4, x5, xf⟩ := cells6 HS5.out.h1
  obtain ⟨n0, n1, n2, n3, n4, n5, nf⟩ := cells6 HS5.out.h0
  go_wp2_with fail
  rcases bnd_some HB3.out with ⟨l, k, er, he, rfl⟩ | ⟨y, ts3, he, hB9⟩
  ·
   refine cmo ((exprs_ok c hc g).index _ x d _ _ he HS5.out.ps h0 h1 HK_x.out) ?_
   rintro e9 w99 ⟨hkp, rfl⟩
   exact ⟨rfl, HS5.out.kp.trans hkp, rfl⟩
  ·
   have HB4 := hid hB9
   clear hB9
   refine cmo ((exprs_ok c hc g).index _ x d _ _ he HS5.out.ps h0 h1 HK_x.out) ?_
   clear he
   rintro e9 w3 ⟨hkp, hpt, Ay, capy, rfl, hR⟩
   have HS6 := hid (HS5.out.got hkp hpt (Nat.le_refl _) hR)
   clear HS5
   have hz3 := hkp.size_le
   try simp only [WZ] at hz3
   unfold nodeV
   clear hkp hpt hR HB3
   have hy3 : w1.heap.size + 2 ≤ w3.heap.size := lt_of_heap HS6.out.h0
   clear x0 x1 x2 x3 x4 x5 xf n0 n1 n2 n3 n4 n5 nf
   obtain ⟨x0, x1, x2, x3, x4, x5, xf⟩ := cells6 HS6.out.h1
   obtain ⟨n0, n1, n2, n3, n4, n5, nf⟩ := cells6 HS6.out.h0
   go_wp2_with fail
   have HS7 := hid (((HS6.out.swap).set6 hc (by omega) (by simp <;> omega) (.string y.kind) (.string y.text) (.int .u64 y.num) (.int .i64 y.line) (.int .i64 y.col) (.slice Ay y.kids.length capy)).swap)
   clear HS6
   refine cmo (need_calls c hc _ (ts3) ⟨#[61]⟩ HS7.out.ps) ?_
   rintro e9 w4 ⟨hkp, hp9⟩
   rcases bnd_some HB4.out with ⟨l, k, er, he, rfl⟩ | ⟨t2, ts4, he, hB9⟩
   ·
    rw [Option.some.inj he] at hp9
    subst hp9
    exact ⟨rfl, HS7.out.kp.trans hkp, rfl⟩
   ·
    rw [Option.some.inj he] at hp9
    obtain ⟨rfl, hps9⟩ := hp9
    have HB5 := hid hB9
    clear hB9
    have HS8 := hid (HS7.out.call hkp hps9)
    clear HS7
    have hz4 := hkp.size_le
    try simp only [WZ] at hz4
    clear hkp hps9 he HB4
    exact absurd HB5.out (by simp)
set_option maxRecDepth 20000 in
set_option maxHeartbeats 400000 in
theorem simple_nondet (c : PC) (hc : c.Ok) (g : Nat) (hg : g ≤ 1000000000) (w : World) (d : Int) (ts ts2 : List Tok) (x : Node) (r : PR Node) (hps : PS c w ts) (h0 : 0 ≤ d) (h1 : d ≤ 60) (HN : Hid (nameF ts = .ok x ts2)) (b0 : isF ts2 ⟨#[40]⟩ = false) (ts3 ts4 : List Tok) (y : Node) (t2 : Tok) (HI : Hid (indexF g x d ts2 = some (.ok y ts3))) (HE : Hid (needF ts3 ⟨#[61]⟩ = .ok t2 ts4)) (b1 : isF ts4 ⟨#[110, 111, 110, 100, 101, 116]⟩ = true) (HB : Hid (bnd (some (needF ts4.tail ⟨#[40]⟩)) (fun _ r4 => bnd (some (needF r4 ⟨#[41]⟩)) fun _ r5 => semiF ⟨⟨#[110, 111, 110, 100, 101, 116]⟩, ⟨#[]⟩, 0, x.line, x.col, [y]⟩ r5) = some r)) : Calls Tryz.prog 104 #[.pointer (some ⟨c.p, 0, none⟩), .int .i64 d] w (PostN c w r) := by
 have hlt := hps.lt
 have HS1 := hid (Sta.start hps)
 clear hps
 go_enter Tryz.func104, Tryz.ntmps104
 have HS2 := hid (HS1.out.alloc (.cells #[.string ⟨#[]⟩, .string ⟨#[]⟩, .int .u64 0, .int .i64 0, .int .i64 0, .slice none 0 0] 26))
 clear HS1
 go_wp2_with fail
 refine cmo (name_calls c hc _ (ts) HS2.out.ps) ?_
 rintro e9 w1 ⟨hkp, hp9⟩
 rw [HN.out] at hp9
 obtain ⟨rfl, hk_x, hps9⟩ := hp9
 have HK_x := hid hk_x
 clear hk_x
 have HS3 := hid (HS2.out.call hkp hps9)
 clear HS2
 have hz1 := hkp.size_le
 try simp only [WZ] at hz1
 unfold nodeV
 clear hkp hps9
 go_wp2_with fail
 have HS4 : Hid (Sta c w ((w1.alloc (.cells #[.string x.kind, .string x.text, .int .u64 x.num, .int .i64 x.line, .int .i64 x.col, .slice none 0 0] 26)).alloc (.cells #[.string ⟨#[]⟩, .string ⟨#[]⟩, .int .u64 0, .int .i64 x.line, .int .i64 x.col, .slice none 0 0] 26)) ts2 [(w1.heap.size + 1, (.cells #[.string ⟨#[]⟩, .string ⟨#[]⟩, .int .u64 0, .int .i64 x.line, .int .i64 x.col, .slice none 0 0] 26)), (w1.heap.size, (.cells #[.string x.kind, .string x.text, .int .u64 x.num, .int .i64 x.line, .int .i64 x.col, .slice none 0 0] 26)), (w.heap.size, (.cells #[.string ⟨#[]⟩, .string ⟨#[]⟩, .int .u64 0, .int .i64 0, .int .i64 0, .slice none 0 0] 26))] []) := hid (by have h9 := (HS3.out.alloc (.cells #[.string x.kind, .string x.text, .int .u64 x.num, .int .i64 x.line, .int .i64 x.col, .slice none 0 0] 26)).alloc (.cells #[.string ⟨#[]⟩, .string ⟨#[]⟩, .int .u64 0, .int .i64 x.line, .int .i64 x.col, .slice none 0 0] 26); rw [World.size_alloc] at h9; exact h9)
 clear HS3
 refine cmo (is_gives c hc _ (ts2) ⟨#[40]⟩ HS4.out.ps) ?_
 rintro e9 w2 ⟨rfl, hov⟩
 rw [b0]
 have HS5 := hid (HS4.out.isOv hov)
 clear HS4
 have hz2 := hov.size_le
 try simp only [WZ] at hz2
 clear hov
 have hy2 : w1.heap.size + 2 ≤ w2.heap.size := lt_of_heap HS5.out.h0
 obtain ⟨x0, x1, x2, x3, x4, x5, xf⟩ := cells6 HS5.out.h1
 obtain ⟨n0, n1, n2, n3, n4, n5, nf⟩ := cells6 HS5.out.h0
 go_wp2_with fail
 refine cmo ((exprs_ok c hc g).index _ x d _ _ HI.out HS5.out.ps h0 h1 HK_x.out) ?_
 rintro e9 w3 ⟨hkp, hpt, Ay, capy, rfl, hR⟩
 have HS6 := hid (HS5.out.got hkp hpt (Nat.le_refl _) hR)
 clear HS5
 have hz3 := hkp.size_le
 try simp only [WZ] at hz3
 unfold nodeV
 clear hkp hpt hR
 have hy3 : w1.heap.size + 2 ≤ w3.heap.size := lt_of_heap HS6.out.h0
 clear x0 x1 x2 x3 x4 x5 xf n0 n1 n2 n3 n4 n5 nf
 obtain ⟨x0, x1, x2, x3, x4, x5, xf⟩ := cells6 HS6.out.h1
 obtain ⟨n0, n1, n2, n3, n4, n5, nf⟩ := cells6 HS6.out.h0
 go_wp2_with fail
 have HS7 := hid (((HS6.out.swap).set6 hc (by omega) (by simp <;> omega) (.string y.kind) (.string y.text) (.int .u64 y.num) (.int .i64 y.line) (.int .i64 y.col) (.slice Ay y.kids.length capy)).swap)
 clear HS6
 refine cmo (need_calls c hc _ (ts3) ⟨#[61]⟩ HS7.out.ps) ?_
 rintro e9 w4 ⟨hkp, hp9⟩
 rw [HE.out] at hp9
 obtain ⟨rfl, hps9⟩ := hp9
 have HS8 := hid (HS7.out.call hkp hps9)
 clear HS7
 have hz4 := hkp.size_le
 try simp only [WZ] at hz4
 clear hkp hps9
 have hy4 : w1.heap.size + 2 ≤ w4.heap.size := lt_of_heap HS8.out.h0
 clear x0 x1 x2 x3 x4 x5 xf n0 n1 n2 n3 n4 n5 nf
 obtain ⟨x0, x1, x2, x3, x4, x5, xf⟩ := cells6 HS8.out.h1
 obtain ⟨n0, n1, n2, n3, n4, n5, nf⟩ := cells6 HS8.out.h0
 go_wp2_with fail
 refine cmo (take_calls c hc _ (ts4) ⟨#[110, 111, 110, 100, 101, 116]⟩ HS8.out.ps) ?_
 rintro e9 w5 ⟨rfl, hpt, hkt⟩
 rw [b1] at hpt ⊢
 have hpt2 : PS c w5 (ts4.tail) := hpt
 have HS9 := hid (HS8.out.call hkt hpt2)
 clear HS8
 have hz5 := hkt.size_le
 try simp only [WZ] at hz5
 clear hpt hkt hpt2
 have hy5 : w1.heap.size + 2 ≤ w5.heap.size := lt_of_heap HS9.out.h0
 clear x0 x1 x2 x3 x4 x5 xf n0 n1 n2 n3 n4 n5 nf
 obtain ⟨x0, x1, x2, x3, x4, x5, xf⟩ := cells6 HS9.out.h1
 obtain ⟨n0, n1, n2, n3, n4, n5, nf⟩ := cells6 HS9.out.h0
 go_wp2_with fail
 refine cmo (need_calls c hc _ (ts4.tail) ⟨#[40]⟩ HS9.out.ps) ?_
 rintro e9 w6 ⟨hkp, hp9⟩
 rcases bnd_some HB.out with ⟨l, k, er, he, rfl⟩ | ⟨t5, ts5, he, hB9⟩
 ·
  rw [Option.some.inj he] at hp9
  subst hp9
  exact ⟨rfl, HS9.out.kp.trans hkp, rfl⟩
 ·
  rw [Option.some.inj he] at hp9
  obtain ⟨rfl, hps9⟩ := hp9
  have HB2 := hid hB9
  clear hB9
  have HS10 := hid (HS9.out.call hkp hps9)
  clear HS9
  have hz6 := hkp.size_le
  try simp only [WZ] at hz6
  clear hkp hps9 he HB
  have hy6 : w1.heap.size + 2 ≤ w6.heap.size := lt_of_heap HS10.out.h0
  clear x0 x1 x2 x3 x4 x5 xf n0 n1 n2 n3 n4 n5 nf
  obtain ⟨x0, x1, x2, x3, x4, x5, xf⟩ := cells6 HS10.out.h1
  obtain ⟨n0, n1, n2, n3, n4, n5, nf⟩ := cells6 HS10.out.h0
  go_wp2_with fail
  refine cmo (need_calls c hc _ (ts5) ⟨#[41]⟩ HS10.out.ps) ?_
  rintro e9 w7 ⟨hkp, hp9⟩
  rcases bnd_some HB2.out with ⟨l, k, er, he, rfl⟩ | ⟨t6, ts6, he, hB9⟩
  ·
   rw [Option.some.inj he] at hp9
   subst hp9
   exact ⟨rfl, HS10.out.kp.trans hkp, rfl⟩
  ·
   rw [Option.some.inj he] at hp9
   obtain ⟨rfl, hps9⟩ := hp9
   have HB3 := hid hB9
   clear hB9
   have HS11 := hid (HS10.out.call hkp hps9)
   clear HS10
   have hz7 := hkp.size_le
   try simp only [WZ] at hz7
   clear hkp hps9 he HB2
   have hy7 : w1.heap.size + 2 ≤ w7.heap.size := lt_of_heap HS11.out.h0
   clear x0 x1 x2 x3 x4 x5 xf n0 n1 n2 n3 n4 n5 nf
   obtain ⟨x0, x1, x2, x3, x4, x5, xf⟩ := cells6 HS11.out.h1
   obtain ⟨n0, n1, n2, n3, n4, n5, nf⟩ := cells6 HS11.out.h0
   go_wp2_with fail
   apply wp_cut (fun W' => Sta c w W' ts6 [(w1.heap.size + 1, (.cells #[.string ⟨#[110, 111, 110, 100, 101, 116]⟩, .string ⟨#[]⟩, .int .u64 0, .int .i64 x.line, .int .i64 x.col, (.slice (some ⟨w7.heap.size, 0, none⟩) 1 1)] 26)), (w1.heap.size, (.cells #[.string y.kind, .string y.text, .int .u64 y.num, .int .i64 y.line, .int .i64 y.col, .slice Ay y.kids.length capy] 26)), (w.heap.size, (.cells #[.string ⟨#[]⟩, .string ⟨#[]⟩, .int .u64 0, .int .i64 0, .int .i64 0, .slice none 0 0] 26))] [(w2.heap.size, (.slice (some ⟨w7.heap.size, 0, none⟩) 1 1), [y])])
   case h1 =>
    have HST := HS11.out
    have HD := HST.drew
    have hS0 : XS w1.heap.size y Ay capy w7.drew := XS_of HD.h1
    refine wp_region_K (fun w' => XS w1.heap.size y Ay capy w') (fun j => false) (by kernel_rfl) ?_
    refine wpAnyK_take (i := 0) (v := ?_) rfl (by kernel_rfl) (by kernel_rfl) (by kernel_rfl) (by kernel_rfl) (fun _ _ _ h => ⟨fun h9 => (by cases h9), fun h9 => h.2 h9⟩) (Or.inl ⟨by rfl, ?_⟩) hS0 ?_
    rotate_left
    · intro w9 hSw; (try dsimp only at hSw); go_simp; (try with_reducible rfl)
    try simp only [Act.put, List.setIfInBounds_toArray, List.set_cons_zero, List.set_cons_succ]
    refine wpAnyK_take (i := 2) (v := ?_) rfl (by kernel_rfl) (by kernel_rfl) (by kernel_rfl) (by kernel_rfl) (fun _ _ _ h => ⟨fun h9 => (by cases h9), fun h9 => h.2 h9⟩) (Or.inl ⟨by rfl, ?_⟩) hS0 ?_
    rotate_left
    · intro w9 hSw; (try dsimp only at hSw); go_simp; (try with_reducible rfl)
    try simp only [Act.put, List.setIfInBounds_toArray, List.set_cons_zero, List.set_cons_succ]
    have HA := (HST.made1 (by (try simp only [World.size_setCell]); omega)).drew
    try simp only [World.size_setCell] at HA
    have HB1 := (HST.set hc (by omega) (by simp <;> omega) 0 (.string ⟨#[110, 111, 110, 100, 101, 116]⟩)).drew
    have HC := ((HST.set hc (by omega) (by simp <;> omega) 0 (.string ⟨#[110, 111, 110, 100, 101, 116]⟩)).made1 (by (try simp only [World.size_setCell]); omega)).drew
    try simp only [World.size_setCell] at HC
    have HE9 := (((HST.set hc (by omega) (by simp <;> omega) 0 (.string ⟨#[110, 111, 110, 100, 101, 116]⟩)).set hc (by omega) (by simp <;> omega) 5 (.slice (some ⟨w7.heap.size, 0, none⟩) 1 1)).made1 (by (try simp only [World.size_setCell]); omega)).drew
    try simp only [World.size_setCell] at HE9
    refine wpAnyK_two (i := 1) (j := 3) (by kernel_rfl) rfl rfl (fun K hK => ?_) (fun K hK => ?_)
    ·
     go_simp
     try go_wp2_with fail
     refine hK.out _ _ (fun _ => XS_of HA.h1) ?_
     clear hK K
     refine wpAnyK_one (i := 3) (by kernel_rfl) rfl (fun K hK => ?_)
     go_simp
     try go_wp2_with fail
     refine hK.out _ _ (fun _ => XS_of HC.h1) ?_
     clear hK K
     refine wpAnyK_one (i := 4) (by kernel_rfl) rfl (fun K hK => ?_)
     go_simp
     try go_wp2_with fail
     refine hK.out _ _ (fun _ => XS_of HC.h1) ?_
     clear hK K
     refine wpAnyK_one (i := 5) (by kernel_rfl) rfl (fun K hK => ?_)
     go_simp
     try go_wp2_with fail
     refine hK.out _ _ (fun _ => XS_of HE9.h1) ?_
     clear hK K
     exact wpAnyK_done (by kernel_rfl) ⟨fun _ => ⟨rfl, HE9⟩, fun h9 => absurd rfl h9⟩ _
    ·
     go_simp
     try go_wp2_with fail
     refine hK.out _ _ (fun _ => XS_of HB1.h1) ?_
     clear hK K
     refine wpAnyK_one (i := 1) (by kernel_rfl) rfl (fun K hK => ?_)
     go_simp
     try go_wp2_with fail
     refine hK.out _ _ (fun _ => XS_of HC.h1) ?_
     clear hK K
     refine wpAnyK_one (i := 4) (by kernel_rfl) rfl (fun K hK => ?_)
     go_simp
     try go_wp2_with fail
     refine hK.out _ _ (fun _ => XS_of HC.h1) ?_
     clear hK K
     refine wpAnyK_one (i := 5) (by kernel_rfl) rfl (fun K hK => ?_)
     go_simp
     try go_wp2_with fail
     refine hK.out _ _ (fun _ => XS_of HE9.h1) ?_
     clear hK K
     exact wpAnyK_done (by kernel_rfl) ⟨fun _ => ⟨rfl, HE9⟩, fun h9 => absurd rfl h9⟩ _
   case h2 =>
    clear x0 x1 x2 x3 x4 x5 xf n0 n1 n2 n3 n4 n5 nf
    intro w20 HS9
    have HS20 := hid HS9
    clear HS9
    have hy20 : w1.heap.size + 2 ≤ w20.heap.size := lt_of_heap HS20.out.h0
    obtain ⟨x0, x1, x2, x3, x4, x5, xf⟩ := cells6 HS20.out.h1
    obtain ⟨n0, n1, n2, n3, n4, n5, nf⟩ := cells6 HS20.out.h0
    go_wp2_with fail
    refine cmo (need_calls c hc _ (ts6) ⟨#[59]⟩ HS20.out.ps) ?_
    rintro e9 w21 ⟨hkp, hp9⟩
    rcases bnd_some HB3.out with ⟨l, k, er, he, rfl⟩ | ⟨t9, ts9, he, hB9⟩
    ·
     rw [Option.some.inj he] at hp9
     subst hp9
     exact ⟨rfl, HS20.out.kp.trans hkp, rfl⟩
    ·
     rw [Option.some.inj he] at hp9
     obtain ⟨rfl, hps9⟩ := hp9
     have HB9 := hid hB9
     clear hB9
     have HS21 := hid (HS20.out.call hkp hps9)
     clear HS20
     have hz21 := hkp.size_le
     try simp only [WZ] at hz21
     clear hkp hps9 he HB3
     have hy21 : w1.heap.size + 2 ≤ w21.heap.size := lt_of_heap HS21.out.h0
     clear x0 x1 x2 x3 x4 x5 xf n0 n1 n2 n3 n4 n5 nf
     obtain ⟨x0, x1, x2, x3, x4, x5, xf⟩ := cells6 HS21.out.h1
     obtain ⟨n0, n1, n2, n3, n4, n5, nf⟩ := cells6 HS21.out.h0
     obtain ⟨r0, r1, r2, r3, r4, r5, rf⟩ := cells6 HS21.out.h2
     go_wp2_with fail
     rw [(Option.some.inj HB9.out).symm]
     exact ret_sta hc (n := ⟨⟨#[110, 111, 110, 100, 101, 116]⟩, ⟨#[]⟩, 0, x.line, x.col, [y]⟩) (A := some ⟨w7.heap.size, 0, none⟩) (cap := 1) (base := w2.heap.size) Tryz.results104 (by rfl) (HS21.out.rot) (by omega) (by omega) (by simp <;> omega)
end Go.Proofs.YtdimhoilfopndaaGreatDoor
end
section
namespace Go.Proofs.YtdimhoilfopndaaGreatDoor
open Go.RowKit Go.Proofs.YtdimhoilfopndaaGreatDoorW.PrintWords
abbrev RS (c : PC) (i : Nat) (t : Tok) (w' : World) : Prop := w'.cell? ⟨c.p, 0, none⟩ = some (.slice (some ⟨c.g, 0, none⟩) c.toks.length c.cap) ∧ w'.cell? ⟨c.p, 1, none⟩ = some (.int .i64 (i : Int)) ∧ w'.cell? ⟨c.g, (i + 1) * 5, none⟩ = some (.int .i64 t.kind) ∧ w'.cell? ⟨c.g, (i + 1) * 5 + 1, none⟩ = some (.string t.text)
theorem RS_isOv {c : PC} {i : Nat} {t : Tok} {w w' : World} (h : RS c i t w) (hb : IsOv w w') : RS c i t w' := ⟨hb.cell h.1, hb.cell h.2.1, hb.cell h.2.2.1, hb.cell h.2.2.2⟩
theorem PS.two {c : PC} (hc : c.Ok) {w : World} {ts : List Tok} (h : PS c w ts) (hk : (nowT ts).kind ≠ 3) : ∃ i : Nat, RS c i (nowT ts.tail) w ∧ i + 1 < c.toks.length ∧ i < 100000 := by
 obtain ⟨hov, i, hi, hdr, hp⟩ := h
 have h1 := hc.ends i hi (by rw [now_getD hi, hdr]; exact hk)
 obtain ⟨a, b, _⟩ := tok_cells hc hov h1 (t := nowT ts.tail) (by rw [now_getD h1, ← hdr, List.tail_drop])
 exact ⟨i, ⟨cell_of_heap hp 0, cell_of_heap hp 1, a, b⟩, h1, by have := hc.hlen; omega⟩
abbrev XZ (b : Nat) (n : Node) (w' : World) : Prop := w'.cell? ⟨b, 0, none⟩ = some (.string n.kind) ∧ w'.cell? ⟨b, 1, none⟩ = some (.string n.text) ∧ w'.cell? ⟨b, 2, none⟩ = some (.int .u64 n.num) ∧ w'.cell? ⟨b, 3, none⟩ = some (.int .i64 n.line) ∧ w'.cell? ⟨b, 4, none⟩ = some (.int .i64 n.col) ∧ w'.cell? ⟨b, 5, none⟩ = some (.slice none 0 0)
theorem XZ_of {b : Nat} {n : Node} {w' : World} (h : w'.heap[b]? = some (.cells #[.string n.kind, .string n.text, .int .u64 n.num, .int .i64 n.line, .int .i64 n.col, .slice none 0 0] 26)) : XZ b n w' := ⟨cell_of_heap h 0, cell_of_heap h 1, cell_of_heap h 2, cell_of_heap h 3, cell_of_heap h 4, cell_of_heap h 5⟩
set_option maxRecDepth 20000 in
set_option maxHeartbeats 400000 in
theorem simple_asg0 (c : PC) (hc : c.Ok) (g : Nat) (hg : g ≤ 1000000000) (w : World) (d : Int) (ts ts2 : List Tok) (x : Node) (r : PR Node) (hps : PS c w ts) (h0 : 0 ≤ d) (h1 : d ≤ 60) (HN : Hid (nameF ts = .ok x ts2)) (b0 : isF ts2 ⟨#[40]⟩ = false) (ts3 ts4 : List Tok) (y : Node) (t2 : Tok) (HI : Hid (indexF g x d ts2 = some (.ok y ts3))) (HE : Hid (needF ts3 ⟨#[61]⟩ = .ok t2 ts4)) (b1 : isF ts4 ⟨#[110, 111, 110, 100, 101, 116]⟩ = false) (b2 : namedF ts4 = false) (HB : Hid (bnd (exprF g d ts4) (fun u r4 => semiF ⟨⟨#[97, 115, 115, 105, 103, 110]⟩, ⟨#[]⟩, 0, x.line, x.col, [y, u]⟩ r4) = some r)) : Calls Tryz.prog 104 #[.pointer (some ⟨c.p, 0, none⟩), .int .i64 d] w (PostN c w r) := by
 have hlt := hps.lt
 have HS1 := hid (Sta.start hps)
 clear hps
 go_enter Tryz.func104, Tryz.ntmps104
 have HS2 := hid (HS1.out.alloc (.cells #[.string ⟨#[]⟩, .string ⟨#[]⟩, .int .u64 0, .int .i64 0, .int .i64 0, .slice none 0 0] 26))
 clear HS1
 go_wp2_with fail
 refine cmo (name_calls c hc _ (ts) HS2.out.ps) ?_
 rintro e9 w1 ⟨hkp, hp9⟩
 rw [HN.out] at hp9
 obtain ⟨rfl, hk_x, hps9⟩ := hp9
 have HK_x := hid hk_x
 clear hk_x
 have HS3 := hid (HS2.out.call hkp hps9)
 clear HS2
 have hz1 := hkp.size_le
 try simp only [WZ] at hz1
 unfold nodeV
 clear hkp hps9
 go_wp2_with fail
 have HS4 : Hid (Sta c w ((w1.alloc (.cells #[.string x.kind, .string x.text, .int .u64 x.num, .int .i64 x.line, .int .i64 x.col, .slice none 0 0] 26)).alloc (.cells #[.string ⟨#[]⟩, .string ⟨#[]⟩, .int .u64 0, .int .i64 x.line, .int .i64 x.col, .slice none 0 0] 26)) ts2 [(w1.heap.size + 1, (.cells #[.string ⟨#[]⟩, .string ⟨#[]⟩, .int .u64 0, .int .i64 x.line, .int .i64 x.col, .slice none 0 0] 26)), (w1.heap.size, (.cells #[.string x.kind, .string x.text, .int .u64 x.num, .int .i64 x.line, .int .i64 x.col, .slice none 0 0] 26)), (w.heap.size, (.cells #[.string ⟨#[]⟩, .string ⟨#[]⟩, .int .u64 0, .int .i64 0, .int .i64 0, .slice none 0 0] 26))] []) := hid (by have h9 := (HS3.out.alloc (.cells #[.string x.kind, .string x.text, .int .u64 x.num, .int .i64 x.line, .int .i64 x.col, .slice none 0 0] 26)).alloc (.cells #[.string ⟨#[]⟩, .string ⟨#[]⟩, .int .u64 0, .int .i64 x.line, .int .i64 x.col, .slice none 0 0] 26); rw [World.size_alloc] at h9; exact h9)
 clear HS3
 refine cmo (is_gives c hc _ (ts2) ⟨#[40]⟩ HS4.out.ps) ?_
 rintro e9 w2 ⟨rfl, hov⟩
 rw [b0]
 have HS5 := hid (HS4.out.isOv hov)
 clear HS4
 have hz2 := hov.size_le
 try simp only [WZ] at hz2
 clear hov
 have hy2 : w1.heap.size + 2 ≤ w2.heap.size := lt_of_heap HS5.out.h0
 obtain ⟨x0, x1, x2, x3, x4, x5, xf⟩ := cells6 HS5.out.h1
 obtain ⟨n0, n1, n2, n3, n4, n5, nf⟩ := cells6 HS5.out.h0
 go_wp2_with fail
 refine cmo ((exprs_ok c hc g).index _ x d _ _ HI.out HS5.out.ps h0 h1 HK_x.out) ?_
 rintro e9 w3 ⟨hkp, hpt, Ay, capy, rfl, hR⟩
 have HS6 := hid (HS5.out.got hkp hpt (Nat.le_refl _) hR)
 clear HS5
 have hz3 := hkp.size_le
 try simp only [WZ] at hz3
 unfold nodeV
 clear hkp hpt hR
 have hy3 : w1.heap.size + 2 ≤ w3.heap.size := lt_of_heap HS6.out.h0
 clear x0 x1 x2 x3 x4 x5 xf n0 n1 n2 n3 n4 n5 nf
 obtain ⟨x0, x1, x2, x3, x4, x5, xf⟩ := cells6 HS6.out.h1
 obtain ⟨n0, n1, n2, n3, n4, n5, nf⟩ := cells6 HS6.out.h0
 go_wp2_with fail
 have HS7 := hid (((HS6.out.swap).set6 hc (by omega) (by simp <;> omega) (.string y.kind) (.string y.text) (.int .u64 y.num) (.int .i64 y.line) (.int .i64 y.col) (.slice Ay y.kids.length capy)).swap)
 clear HS6
 refine cmo (need_calls c hc _ (ts3) ⟨#[61]⟩ HS7.out.ps) ?_
 rintro e9 w4 ⟨hkp, hp9⟩
 rw [HE.out] at hp9
 obtain ⟨rfl, hps9⟩ := hp9
 have HS8 := hid (HS7.out.call hkp hps9)
 clear HS7
 have hz4 := hkp.size_le
 try simp only [WZ] at hz4
 clear hkp hps9
 have hy4 : w1.heap.size + 2 ≤ w4.heap.size := lt_of_heap HS8.out.h0
 clear x0 x1 x2 x3 x4 x5 xf n0 n1 n2 n3 n4 n5 nf
 obtain ⟨x0, x1, x2, x3, x4, x5, xf⟩ := cells6 HS8.out.h1
 obtain ⟨n0, n1, n2, n3, n4, n5, nf⟩ := cells6 HS8.out.h0
 go_wp2_with fail
 refine cmo (take_calls c hc _ (ts4) ⟨#[110, 111, 110, 100, 101, 116]⟩ HS8.out.ps) ?_
 rintro e9 w5 ⟨rfl, hpt, hkt⟩
 rw [b1] at hpt ⊢
 have hpt2 : PS c w5 (ts4) := hpt
 have HS9 := hid (HS8.out.call hkt hpt2)
 clear HS8
 have hz5 := hkt.size_le
 try simp only [WZ] at hz5
 clear hpt hkt hpt2
 have hy5 : w1.heap.size + 2 ≤ w5.heap.size := lt_of_heap HS9.out.h0
 clear x0 x1 x2 x3 x4 x5 xf n0 n1 n2 n3 n4 n5 nf
 obtain ⟨x0, x1, x2, x3, x4, x5, xf⟩ := cells6 HS9.out.h1
 obtain ⟨n0, n1, n2, n3, n4, n5, nf⟩ := cells6 HS9.out.h0
 go_wp2_with fail
 have HP9 := hid HS9.out.ps
 have HNQ : Hid (∀ x, Gives Tryz.prog 83 #[.pointer (some ⟨c.p, 0, none⟩)] (w5.ov x) (.bool false)) := hid (fun x => by have h9 := named_gives c hc (w5.ov x) ts4 (HP9.out.isOv ((IsOv.refl _).ov x)); rw [b2] at h9; exact h9)
 refine wp_region_ov (by kernel_rfl) (by kernel_rfl) ?_
 (repeat (go_big_quiet_step ((first | (go_at_call 83; exact (HNQ.out _).quiet)))))
 refine wpQuiet_nil ?_
 rintro _ ⟨nq, rfl⟩
 have HS10 := hid (HS9.out.isOv ((IsOv.refl _).ov nq))
 clear HS9
 have hz20 : w5.heap.size ≤ (w5.ov nq).heap.size := ((IsOv.refl w5).ov nq).size_le
 clear HP9 HNQ
 generalize w5.ov nq = w20 at *
 have hy20 : w1.heap.size + 2 ≤ w20.heap.size := lt_of_heap HS10.out.h0
 clear x0 x1 x2 x3 x4 x5 xf n0 n1 n2 n3 n4 n5 nf
 obtain ⟨x0, x1, x2, x3, x4, x5, xf⟩ := cells6 HS10.out.h1
 obtain ⟨n0, n1, n2, n3, n4, n5, nf⟩ := cells6 HS10.out.h0
 go_wp2_with fail
 obtain ⟨r0, he, hr0⟩ := bnd_some2 HB.out
 have HR0 := hid hr0
 clear hr0 HB
 have HD := hid (HS10.out.drew)
 have hd0 : w20.drew.heap.size = w20.heap.size := rfl
 have hS0 : (fun w' => XS w1.heap.size y Ay capy w') w20.drew := XS_of HD.out.h1
 refine wp_region_K (fun w' => XS w1.heap.size y Ay capy w') (fun j => false) (by kernel_rfl) ?_
 refine wpAnyK_take (i := 0) (v := ?_) rfl (by kernel_rfl) (by kernel_rfl) (by kernel_rfl) (by kernel_rfl) (fun _ _ _ h => h) (Or.inl ⟨by rfl, ?_⟩) hS0 ?_
 rotate_left
 · intro w9 hSw; (try dsimp only at hSw); go_simp; (try with_reducible rfl)
 try simp only [Act.put, List.setIfInBounds_toArray, List.set_cons_zero, List.set_cons_succ]
 refine wpAnyK_take (i := 1) (v := ?_) rfl (by kernel_rfl) (by kernel_rfl) (by kernel_rfl) (by kernel_rfl) (fun _ _ _ h => h) (Or.inl ⟨by rfl, ?_⟩) hS0 ?_
 rotate_left
 · intro w9 hSw; (try dsimp only at hSw); go_simp; (try with_reducible rfl)
 try simp only [Act.put, List.setIfInBounds_toArray, List.set_cons_zero, List.set_cons_succ]
 refine wpAnyK_take (i := 2) (v := ?_) rfl (by kernel_rfl) (by kernel_rfl) (by kernel_rfl) (by kernel_rfl) (fun _ _ _ h => h) (Or.inl ⟨by rfl, ?_⟩) hS0 ?_
 rotate_left
 · intro w9 hSw; (try dsimp only at hSw); go_simp; (try with_reducible rfl)
 try simp only [Act.put, List.setIfInBounds_toArray, List.set_cons_zero, List.set_cons_succ]
 refine wpAnyK_take (i := 5) (v := ?_) rfl (by kernel_rfl) (by kernel_rfl) (by kernel_rfl) (by kernel_rfl) (fun _ _ _ h => h) (Or.inl ⟨by rfl, ?_⟩) hS0 ?_
 rotate_left
 · intro w9 hSw; (try dsimp only at hSw); go_simp; (try with_reducible rfl)
 try simp only [Act.put, List.setIfInBounds_toArray, List.set_cons_zero, List.set_cons_succ]
 refine wpAnyK_one (i := 3) (by kernel_rfl) rfl (fun K hK => ?_)
 go_simp
 refine cmo ((exprs_ok c hc g).expr _ d _ r0 he HD.out.ps h0 (by omega)) ?_
 rintro e9 w30 ⟨hkp, hp⟩
 rcases r0 with ⟨u, ts6⟩ | ⟨l, k, er⟩
 rotate_left
 ·
  have hr9 : r = .bad l k er := HR0.out
  have hp9 : e9 = wrongE l k er := hp
  subst hp9
  subst hr9
  exact ⟨rfl, HD.out.kp.trans hkp, rfl⟩
 obtain ⟨hpt, Au, capu, rfl, hR⟩ := hp
 have HB6 : Hid (semiF ⟨⟨#[97, 115, 115, 105, 103, 110]⟩, ⟨#[]⟩, 0, x.line, x.col, [y, u]⟩ ts6 = some r) := hid HR0.out
 have HST := HD.out.got hkp hpt (Nat.le_refl _) hR
 have hz30 : w20.heap.size ≤ w30.heap.size := hkp.size_le
 unfold nodeV
 clear hkp hpt hR he HD HR0 hS0 x0 x1 x2 x3 x4 x5 xf n0 n1 n2 n3 n4 n5 nf
 have hyz : w1.heap.size + 2 ≤ w30.heap.size := lt_of_heap HST.h0
 obtain ⟨n0, n1, n2, n3, n4, n5, nf⟩ := cells6 HST.h0
 refine hK.out _ _ (fun _ => XS_of HST.h1) ?_
 clear hK K
 have HA := (HST.made2 (by (try simp only [World.size_setCell]); omega) (by (try simp only [World.size_setCell]); omega))
 try simp only [World.size_setCell] at HA
 have HB1 := (HST.set hc (by omega) (by simp <;> omega) 0 (.string ⟨#[97, 115, 115, 105, 103, 110]⟩))
 have HC := ((HST.set hc (by omega) (by simp <;> omega) 0 (.string ⟨#[97, 115, 115, 105, 103, 110]⟩)).made2 (by (try simp only [World.size_setCell]); omega) (by (try simp only [World.size_setCell]); omega))
 try simp only [World.size_setCell] at HC
 have HE9 := (((HST.set hc (by omega) (by simp <;> omega) 0 (.string ⟨#[97, 115, 115, 105, 103, 110]⟩)).set hc (by omega) (by simp <;> omega) 5 (.slice (some ⟨w30.heap.size, 0, none⟩) 2 2)).made2 (by (try simp only [World.size_setCell]); omega) (by (try simp only [World.size_setCell]); omega))
 try simp only [World.size_setCell] at HE9
 refine wpAnyK_two (i := 4) (j := 6) (by kernel_rfl) rfl rfl (fun K hK => ?_) (fun K hK => ?_)
 ·
  go_simp
  try go_wp2_with fail
  refine hK.out _ _ (fun _ => XS_of HA.h1) ?_
  clear hK K
  refine wpAnyK_one (i := 6) (by kernel_rfl) rfl (fun K hK => ?_)
  go_simp
  try go_wp2_with fail
  refine hK.out _ _ (fun _ => XS_of HC.h1) ?_
  clear hK K
  refine wpAnyK_one (i := 7) (by kernel_rfl) rfl (fun K hK => ?_)
  go_simp
  try go_wp2_with fail
  refine hK.out _ _ (fun _ => XS_of HC.h1) ?_
  clear hK K
  refine wpAnyK_one (i := 8) (by kernel_rfl) rfl (fun K hK => ?_)
  go_simp
  try go_wp2_with fail
  refine hK.out _ _ (fun _ => XS_of HE9.h1) ?_
  clear hK K
  refine wpAnyK_done (by kernel_rfl) ?_ _
  clear HST HA HB1 HC n0 n1 n2 n3 n4 n5 nf
  have hz31 : w30.heap.size ≤ (((w30.setCell ⟨w1.heap.size + 1, 0, none⟩ (.string ⟨#[97, 115, 115, 105, 103, 110]⟩)).setCell ⟨w1.heap.size + 1, 5, none⟩ (.slice (some ⟨w30.heap.size, 0, none⟩) 2 2)).alloc (.cells #[.string y.kind, .string y.text, .int .u64 y.num, .int .i64 y.line, .int .i64 y.col, .slice Ay y.kids.length capy, .string u.kind, .string u.text, .int .u64 u.num, .int .i64 u.line, .int .i64 u.col, .slice Au u.kids.length capu] 26)).heap.size := by simp only [WZ]; omega
  revert HE9 hz31
  generalize ((w30.setCell ⟨w1.heap.size + 1, 0, none⟩ (.string ⟨#[97, 115, 115, 105, 103, 110]⟩)).setCell ⟨w1.heap.size + 1, 5, none⟩ (.slice (some ⟨w30.heap.size, 0, none⟩) 2 2)).alloc (.cells #[.string y.kind, .string y.text, .int .u64 y.num, .int .i64 y.line, .int .i64 y.col, .slice Ay y.kids.length capy, .string u.kind, .string u.text, .int .u64 u.num, .int .i64 u.line, .int .i64 u.col, .slice Au u.kids.length capu] 26) = w31
  intro HE9 hz31
  have HS40 := hid HE9
  clear HE9
  have hy31 : w1.heap.size + 2 ≤ w31.heap.size := lt_of_heap HS40.out.h0
  obtain ⟨x0, x1, x2, x3, x4, x5, xf⟩ := cells6 HS40.out.h1
  obtain ⟨n0, n1, n2, n3, n4, n5, nf⟩ := cells6 HS40.out.h0
  go_wp2_with fail
  refine cmo (need_calls c hc _ (ts6) ⟨#[59]⟩ HS40.out.ps) ?_
  rintro e9 w32 ⟨hkp, hp9⟩
  rcases bnd_some HB6.out with ⟨l, k, er, he, rfl⟩ | ⟨t9, ts9, he, hB9⟩
  ·
   rw [Option.some.inj he] at hp9
   subst hp9
   exact ⟨rfl, HS40.out.kp.trans hkp, rfl⟩
  ·
   rw [Option.some.inj he] at hp9
   obtain ⟨rfl, hps9⟩ := hp9
   have HB9 := hid hB9
   clear hB9
   have HS41 := hid (HS40.out.call hkp hps9)
   clear HS40
   have hz32 := hkp.size_le
   try simp only [WZ] at hz32
   clear hkp hps9 he HB6
   have hy32 : w1.heap.size + 2 ≤ w32.heap.size := lt_of_heap HS41.out.h0
   clear x0 x1 x2 x3 x4 x5 xf n0 n1 n2 n3 n4 n5 nf
   obtain ⟨x0, x1, x2, x3, x4, x5, xf⟩ := cells6 HS41.out.h1
   obtain ⟨n0, n1, n2, n3, n4, n5, nf⟩ := cells6 HS41.out.h0
   obtain ⟨r0, r1, r2, r3, r4, r5, rf⟩ := cells6 HS41.out.h2
   go_wp2_with fail
   rw [(Option.some.inj HB9.out).symm]
   exact ret_sta hc (n := ⟨⟨#[97, 115, 115, 105, 103, 110]⟩, ⟨#[]⟩, 0, x.line, x.col, [y, u]⟩) (A := some ⟨w30.heap.size, 0, none⟩) (cap := 2) (base := w2.heap.size) Tryz.results104 (by rfl) (HS41.out.rot) (by omega) (by omega) (by simp <;> omega)
 ·
  go_simp
  try go_wp2_with fail
  refine hK.out _ _ (fun _ => XS_of HB1.h1) ?_
  clear hK K
  refine wpAnyK_one (i := 4) (by kernel_rfl) rfl (fun K hK => ?_)
  go_simp
  try go_wp2_with fail
  refine hK.out _ _ (fun _ => XS_of HC.h1) ?_
  clear hK K
  refine wpAnyK_one (i := 7) (by kernel_rfl) rfl (fun K hK => ?_)
  go_simp
  try go_wp2_with fail
  refine hK.out _ _ (fun _ => XS_of HC.h1) ?_
  clear hK K
  refine wpAnyK_one (i := 8) (by kernel_rfl) rfl (fun K hK => ?_)
  go_simp
  try go_wp2_with fail
  refine hK.out _ _ (fun _ => XS_of HE9.h1) ?_
  clear hK K
  refine wpAnyK_done (by kernel_rfl) ?_ _
  clear HST HA HB1 HC n0 n1 n2 n3 n4 n5 nf
  have hz31 : w30.heap.size ≤ (((w30.setCell ⟨w1.heap.size + 1, 0, none⟩ (.string ⟨#[97, 115, 115, 105, 103, 110]⟩)).setCell ⟨w1.heap.size + 1, 5, none⟩ (.slice (some ⟨w30.heap.size, 0, none⟩) 2 2)).alloc (.cells #[.string y.kind, .string y.text, .int .u64 y.num, .int .i64 y.line, .int .i64 y.col, .slice Ay y.kids.length capy, .string u.kind, .string u.text, .int .u64 u.num, .int .i64 u.line, .int .i64 u.col, .slice Au u.kids.length capu] 26)).heap.size := by simp only [WZ]; omega
  revert HE9 hz31
  generalize ((w30.setCell ⟨w1.heap.size + 1, 0, none⟩ (.string ⟨#[97, 115, 115, 105, 103, 110]⟩)).setCell ⟨w1.heap.size + 1, 5, none⟩ (.slice (some ⟨w30.heap.size, 0, none⟩) 2 2)).alloc (.cells #[.string y.kind, .string y.text, .int .u64 y.num, .int .i64 y.line, .int .i64 y.col, .slice Ay y.kids.length capy, .string u.kind, .string u.text, .int .u64 u.num, .int .i64 u.line, .int .i64 u.col, .slice Au u.kids.length capu] 26) = w31
  intro HE9 hz31
  have HS40 := hid HE9
  clear HE9
  have hy31 : w1.heap.size + 2 ≤ w31.heap.size := lt_of_heap HS40.out.h0
  obtain ⟨x0, x1, x2, x3, x4, x5, xf⟩ := cells6 HS40.out.h1
  obtain ⟨n0, n1, n2, n3, n4, n5, nf⟩ := cells6 HS40.out.h0
  go_wp2_with fail
  refine cmo (need_calls c hc _ (ts6) ⟨#[59]⟩ HS40.out.ps) ?_
  rintro e9 w32 ⟨hkp, hp9⟩
  rcases bnd_some HB6.out with ⟨l, k, er, he, rfl⟩ | ⟨t9, ts9, he, hB9⟩
  ·
   rw [Option.some.inj he] at hp9
   subst hp9
   exact ⟨rfl, HS40.out.kp.trans hkp, rfl⟩
  ·
   rw [Option.some.inj he] at hp9
   obtain ⟨rfl, hps9⟩ := hp9
   have HB9 := hid hB9
   clear hB9
   have HS41 := hid (HS40.out.call hkp hps9)
   clear HS40
   have hz32 := hkp.size_le
   try simp only [WZ] at hz32
   clear hkp hps9 he HB6
   have hy32 : w1.heap.size + 2 ≤ w32.heap.size := lt_of_heap HS41.out.h0
   clear x0 x1 x2 x3 x4 x5 xf n0 n1 n2 n3 n4 n5 nf
   obtain ⟨x0, x1, x2, x3, x4, x5, xf⟩ := cells6 HS41.out.h1
   obtain ⟨n0, n1, n2, n3, n4, n5, nf⟩ := cells6 HS41.out.h0
   obtain ⟨r0, r1, r2, r3, r4, r5, rf⟩ := cells6 HS41.out.h2
   go_wp2_with fail
   rw [(Option.some.inj HB9.out).symm]
   exact ret_sta hc (n := ⟨⟨#[97, 115, 115, 105, 103, 110]⟩, ⟨#[]⟩, 0, x.line, x.col, [y, u]⟩) (A := some ⟨w30.heap.size, 0, none⟩) (cap := 2) (base := w2.heap.size) Tryz.results104 (by rfl) (HS41.out.rot) (by omega) (by omega) (by simp <;> omega)
set_option maxRecDepth 20000 in
set_option maxHeartbeats 400000 in
theorem simple_asg1 (c : PC) (hc : c.Ok) (g : Nat) (hg : g ≤ 1000000000) (w : World) (d : Int) (ts ts2 : List Tok) (x : Node) (r : PR Node) (hps : PS c w ts) (h0 : 0 ≤ d) (h1 : d ≤ 60) (HN : Hid (nameF ts = .ok x ts2)) (b0 : isF ts2 ⟨#[40]⟩ = false) (ts3 ts4 : List Tok) (y : Node) (t2 : Tok) (HI : Hid (indexF g x d ts2 = some (.ok y ts3))) (HE : Hid (needF ts3 ⟨#[61]⟩ = .ok t2 ts4)) (b1 : isF ts4 ⟨#[110, 111, 110, 100, 101, 116]⟩ = false) (b2 : namedF ts4 = true) (b3 : ((nowT ts4.tail).kind == 2) = false) (HB : Hid (bnd (exprF g d ts4) (fun u r4 => semiF ⟨⟨#[97, 115, 115, 105, 103, 110]⟩, ⟨#[]⟩, 0, x.line, x.col, [y, u]⟩ r4) = some r)) : Calls Tryz.prog 104 #[.pointer (some ⟨c.p, 0, none⟩), .int .i64 d] w (PostN c w r) := by
 have hlt := hps.lt
 have HS1 := hid (Sta.start hps)
 clear hps
 go_enter Tryz.func104, Tryz.ntmps104
 have HS2 := hid (HS1.out.alloc (.cells #[.string ⟨#[]⟩, .string ⟨#[]⟩, .int .u64 0, .int .i64 0, .int .i64 0, .slice none 0 0] 26))
 clear HS1
 go_wp2_with fail
 refine cmo (name_calls c hc _ (ts) HS2.out.ps) ?_
 rintro e9 w1 ⟨hkp, hp9⟩
 rw [HN.out] at hp9
 obtain ⟨rfl, hk_x, hps9⟩ := hp9
 have HK_x := hid hk_x
 clear hk_x
 have HS3 := hid (HS2.out.call hkp hps9)
 clear HS2
 have hz1 := hkp.size_le
 try simp only [WZ] at hz1
 unfold nodeV
 clear hkp hps9
 go_wp2_with fail
 have HS4 : Hid (Sta c w ((w1.alloc (.cells #[.string x.kind, .string x.text, .int .u64 x.num, .int .i64 x.line, .int .i64 x.col, .slice none 0 0] 26)).alloc (.cells #[.string ⟨#[]⟩, .string ⟨#[]⟩, .int .u64 0, .int .i64 x.line, .int .i64 x.col, .slice none 0 0] 26)) ts2 [(w1.heap.size + 1, (.cells #[.string ⟨#[]⟩, .string ⟨#[]⟩, .int .u64 0, .int .i64 x.line, .int .i64 x.col, .slice none 0 0] 26)), (w1.heap.size, (.cells #[.string x.kind, .string x.text, .int .u64 x.num, .int .i64 x.line, .int .i64 x.col, .slice none 0 0] 26)), (w.heap.size, (.cells #[.string ⟨#[]⟩, .string ⟨#[]⟩, .int .u64 0, .int .i64 0, .int .i64 0, .slice none 0 0] 26))] []) := hid (by have h9 := (HS3.out.alloc (.cells #[.string x.kind, .string x.text, .int .u64 x.num, .int .i64 x.line, .int .i64 x.col, .slice none 0 0] 26)).alloc (.cells #[.string ⟨#[]⟩, .string ⟨#[]⟩, .int .u64 0, .int .i64 x.line, .int .i64 x.col, .slice none 0 0] 26); rw [World.size_alloc] at h9; exact h9)
 clear HS3
 refine cmo (is_gives c hc _ (ts2) ⟨#[40]⟩ HS4.out.ps) ?_
 rintro e9 w2 ⟨rfl, hov⟩
 rw [b0]
 have HS5 := hid (HS4.out.isOv hov)
 clear HS4
 have hz2 := hov.size_le
 try simp only [WZ] at hz2
 clear hov
 have hy2 : w1.heap.size + 2 ≤ w2.heap.size := lt_of_heap HS5.out.h0
 obtain ⟨x0, x1, x2, x3, x4, x5, xf⟩ := cells6 HS5.out.h1
 obtain ⟨n0, n1, n2, n3, n4, n5, nf⟩ := cells6 HS5.out.h0
 go_wp2_with fail
 refine cmo ((exprs_ok c hc g).index _ x d _ _ HI.out HS5.out.ps h0 h1 HK_x.out) ?_
 rintro e9 w3 ⟨hkp, hpt, Ay, capy, rfl, hR⟩
 have HS6 := hid (HS5.out.got hkp hpt (Nat.le_refl _) hR)
 clear HS5
 have hz3 := hkp.size_le
 try simp only [WZ] at hz3
 unfold nodeV
 clear hkp hpt hR
 have hy3 : w1.heap.size + 2 ≤ w3.heap.size := lt_of_heap HS6.out.h0
 clear x0 x1 x2 x3 x4 x5 xf n0 n1 n2 n3 n4 n5 nf
 obtain ⟨x0, x1, x2, x3, x4, x5, xf⟩ := cells6 HS6.out.h1
 obtain ⟨n0, n1, n2, n3, n4, n5, nf⟩ := cells6 HS6.out.h0
 go_wp2_with fail
 have HS7 := hid (((HS6.out.swap).set6 hc (by omega) (by simp <;> omega) (.string y.kind) (.string y.text) (.int .u64 y.num) (.int .i64 y.line) (.int .i64 y.col) (.slice Ay y.kids.length capy)).swap)
 clear HS6
 refine cmo (need_calls c hc _ (ts3) ⟨#[61]⟩ HS7.out.ps) ?_
 rintro e9 w4 ⟨hkp, hp9⟩
 rw [HE.out] at hp9
 obtain ⟨rfl, hps9⟩ := hp9
 have HS8 := hid (HS7.out.call hkp hps9)
 clear HS7
 have hz4 := hkp.size_le
 try simp only [WZ] at hz4
 clear hkp hps9
 have hy4 : w1.heap.size + 2 ≤ w4.heap.size := lt_of_heap HS8.out.h0
 clear x0 x1 x2 x3 x4 x5 xf n0 n1 n2 n3 n4 n5 nf
 obtain ⟨x0, x1, x2, x3, x4, x5, xf⟩ := cells6 HS8.out.h1
 obtain ⟨n0, n1, n2, n3, n4, n5, nf⟩ := cells6 HS8.out.h0
 go_wp2_with fail
 refine cmo (take_calls c hc _ (ts4) ⟨#[110, 111, 110, 100, 101, 116]⟩ HS8.out.ps) ?_
 rintro e9 w5 ⟨rfl, hpt, hkt⟩
 rw [b1] at hpt ⊢
 have hpt2 : PS c w5 (ts4) := hpt
 have HS9 := hid (HS8.out.call hkt hpt2)
 clear HS8
 have hz5 := hkt.size_le
 try simp only [WZ] at hz5
 clear hpt hkt hpt2
 have hy5 : w1.heap.size + 2 ≤ w5.heap.size := lt_of_heap HS9.out.h0
 clear x0 x1 x2 x3 x4 x5 xf n0 n1 n2 n3 n4 n5 nf
 obtain ⟨x0, x1, x2, x3, x4, x5, xf⟩ := cells6 HS9.out.h1
 obtain ⟨n0, n1, n2, n3, n4, n5, nf⟩ := cells6 HS9.out.h0
 go_wp2_with fail
 have HP9 := hid HS9.out.ps
 have HNQ : Hid (∀ x, Gives Tryz.prog 83 #[.pointer (some ⟨c.p, 0, none⟩)] (w5.ov x) (.bool true)) := hid (fun x => by have h9 := named_gives c hc (w5.ov x) ts4 (HP9.out.isOv ((IsOv.refl _).ov x)); rw [b2] at h9; exact h9)
 obtain ⟨i, hRS, hi1, hi2⟩ := HP9.out.two hc (named_kind b2)
 generalize nowT ts4.tail = t' at *
 have hiw : IntKind.i64.wrap ((i : Int) + 1) = (i : Int) + 1 := IntWalk.i64_in _ (by omega)
 have hi0 : (0 : Int) ≤ (i : Int) + 1 := by omega
 have hi3 : ((i : Int) + 1).toNat = i + 1 := by omega
 have hi4 : (i : Int) + 1 < (c.toks.length : Int) := by omega
 have hi5 : decide ((i : Int) + 1 < (c.toks.length : Int)) = true := decide_eq_true hi4
 obtain ⟨g0, g1, g2, g3⟩ := hRS
 have hgl : c.g < w5.heap.size := World.block_lt_of_cell? _ _ g2
 refine wp_region_ov (by kernel_rfl) (by kernel_rfl) ?_
 (repeat (go_big_quiet_step ((first | (go_at_call 83; exact (HNQ.out _).quiet)))))
 refine wpQuiet_nil ?_
 rintro _ ⟨nq, rfl⟩
 have HS10 := hid (HS9.out.isOv ((IsOv.refl _).ov nq))
 clear HS9
 have hz20 : w5.heap.size ≤ (w5.ov nq).heap.size := ((IsOv.refl w5).ov nq).size_le
 clear HP9 HNQ hgl g0 g1 g2 g3 hiw hi0 hi1 hi2 hi3 hi4 hi5
 generalize w5.ov nq = w20 at *
 have hy20 : w1.heap.size + 2 ≤ w20.heap.size := lt_of_heap HS10.out.h0
 clear x0 x1 x2 x3 x4 x5 xf n0 n1 n2 n3 n4 n5 nf
 obtain ⟨x0, x1, x2, x3, x4, x5, xf⟩ := cells6 HS10.out.h1
 obtain ⟨n0, n1, n2, n3, n4, n5, nf⟩ := cells6 HS10.out.h0
 go_wp2_with fail
 obtain ⟨r0, he, hr0⟩ := bnd_some2 HB.out
 have HR0 := hid hr0
 clear hr0 HB
 have HD := hid (HS10.out.drew)
 have hd0 : w20.drew.heap.size = w20.heap.size := rfl
 have hS0 : (fun w' => XS w1.heap.size y Ay capy w') w20.drew := XS_of HD.out.h1
 refine wp_region_K (fun w' => XS w1.heap.size y Ay capy w') (fun j => false) (by kernel_rfl) ?_
 refine wpAnyK_take (i := 0) (v := ?_) rfl (by kernel_rfl) (by kernel_rfl) (by kernel_rfl) (by kernel_rfl) (fun _ _ _ h => h) (Or.inl ⟨by rfl, ?_⟩) hS0 ?_
 rotate_left
 · intro w9 hSw; (try dsimp only at hSw); go_simp; (try with_reducible rfl)
 try simp only [Act.put, List.setIfInBounds_toArray, List.set_cons_zero, List.set_cons_succ]
 refine wpAnyK_take (i := 1) (v := ?_) rfl (by kernel_rfl) (by kernel_rfl) (by kernel_rfl) (by kernel_rfl) (fun _ _ _ h => h) (Or.inl ⟨by rfl, ?_⟩) hS0 ?_
 rotate_left
 · intro w9 hSw; (try dsimp only at hSw); go_simp; (try with_reducible rfl)
 try simp only [Act.put, List.setIfInBounds_toArray, List.set_cons_zero, List.set_cons_succ]
 refine wpAnyK_take (i := 2) (v := ?_) rfl (by kernel_rfl) (by kernel_rfl) (by kernel_rfl) (by kernel_rfl) (fun _ _ _ h => h) (Or.inl ⟨by rfl, ?_⟩) hS0 ?_
 rotate_left
 · intro w9 hSw; (try dsimp only at hSw); go_simp; (try with_reducible rfl)
 try simp only [Act.put, List.setIfInBounds_toArray, List.set_cons_zero, List.set_cons_succ]
 refine wpAnyK_take (i := 5) (v := ?_) rfl (by kernel_rfl) (by kernel_rfl) (by kernel_rfl) (by kernel_rfl) (fun _ _ _ h => h) (Or.inl ⟨by rfl, ?_⟩) hS0 ?_
 rotate_left
 · intro w9 hSw; (try dsimp only at hSw); go_simp; (try with_reducible rfl)
 try simp only [Act.put, List.setIfInBounds_toArray, List.set_cons_zero, List.set_cons_succ]
 refine wpAnyK_one (i := 3) (by kernel_rfl) rfl (fun K hK => ?_)
 go_simp
 refine cmo ((exprs_ok c hc g).expr _ d _ r0 he HD.out.ps h0 (by omega)) ?_
 rintro e9 w30 ⟨hkp, hp⟩
 rcases r0 with ⟨u, ts6⟩ | ⟨l, k, er⟩
 rotate_left
 ·
  have hr9 : r = .bad l k er := HR0.out
  have hp9 : e9 = wrongE l k er := hp
  subst hp9
  subst hr9
  exact ⟨rfl, HD.out.kp.trans hkp, rfl⟩
 obtain ⟨hpt, Au, capu, rfl, hR⟩ := hp
 have HB6 : Hid (semiF ⟨⟨#[97, 115, 115, 105, 103, 110]⟩, ⟨#[]⟩, 0, x.line, x.col, [y, u]⟩ ts6 = some r) := hid HR0.out
 have HST := HD.out.got hkp hpt (Nat.le_refl _) hR
 have hz30 : w20.heap.size ≤ w30.heap.size := hkp.size_le
 unfold nodeV
 clear hkp hpt hR he HD HR0 hS0 x0 x1 x2 x3 x4 x5 xf n0 n1 n2 n3 n4 n5 nf
 have hyz : w1.heap.size + 2 ≤ w30.heap.size := lt_of_heap HST.h0
 obtain ⟨n0, n1, n2, n3, n4, n5, nf⟩ := cells6 HST.h0
 refine hK.out _ _ (fun _ => XS_of HST.h1) ?_
 clear hK K
 have HA := (HST.made2 (by (try simp only [World.size_setCell]); omega) (by (try simp only [World.size_setCell]); omega))
 try simp only [World.size_setCell] at HA
 have HB1 := (HST.set hc (by omega) (by simp <;> omega) 0 (.string ⟨#[97, 115, 115, 105, 103, 110]⟩))
 have HC := ((HST.set hc (by omega) (by simp <;> omega) 0 (.string ⟨#[97, 115, 115, 105, 103, 110]⟩)).made2 (by (try simp only [World.size_setCell]); omega) (by (try simp only [World.size_setCell]); omega))
 try simp only [World.size_setCell] at HC
 have HE9 := (((HST.set hc (by omega) (by simp <;> omega) 0 (.string ⟨#[97, 115, 115, 105, 103, 110]⟩)).set hc (by omega) (by simp <;> omega) 5 (.slice (some ⟨w30.heap.size, 0, none⟩) 2 2)).made2 (by (try simp only [World.size_setCell]); omega) (by (try simp only [World.size_setCell]); omega))
 try simp only [World.size_setCell] at HE9
 refine wpAnyK_two (i := 4) (j := 6) (by kernel_rfl) rfl rfl (fun K hK => ?_) (fun K hK => ?_)
 ·
  go_simp
  try go_wp2_with fail
  refine hK.out _ _ (fun _ => XS_of HA.h1) ?_
  clear hK K
  refine wpAnyK_one (i := 6) (by kernel_rfl) rfl (fun K hK => ?_)
  go_simp
  try go_wp2_with fail
  refine hK.out _ _ (fun _ => XS_of HC.h1) ?_
  clear hK K
  refine wpAnyK_one (i := 7) (by kernel_rfl) rfl (fun K hK => ?_)
  go_simp
  try go_wp2_with fail
  refine hK.out _ _ (fun _ => XS_of HC.h1) ?_
  clear hK K
  refine wpAnyK_one (i := 8) (by kernel_rfl) rfl (fun K hK => ?_)
  go_simp
  try go_wp2_with fail
  refine hK.out _ _ (fun _ => XS_of HE9.h1) ?_
  clear hK K
  refine wpAnyK_done (by kernel_rfl) ?_ _
  clear HST HA HB1 HC n0 n1 n2 n3 n4 n5 nf
  have hz31 : w30.heap.size ≤ (((w30.setCell ⟨w1.heap.size + 1, 0, none⟩ (.string ⟨#[97, 115, 115, 105, 103, 110]⟩)).setCell ⟨w1.heap.size + 1, 5, none⟩ (.slice (some ⟨w30.heap.size, 0, none⟩) 2 2)).alloc (.cells #[.string y.kind, .string y.text, .int .u64 y.num, .int .i64 y.line, .int .i64 y.col, .slice Ay y.kids.length capy, .string u.kind, .string u.text, .int .u64 u.num, .int .i64 u.line, .int .i64 u.col, .slice Au u.kids.length capu] 26)).heap.size := by simp only [WZ]; omega
  revert HE9 hz31
  generalize ((w30.setCell ⟨w1.heap.size + 1, 0, none⟩ (.string ⟨#[97, 115, 115, 105, 103, 110]⟩)).setCell ⟨w1.heap.size + 1, 5, none⟩ (.slice (some ⟨w30.heap.size, 0, none⟩) 2 2)).alloc (.cells #[.string y.kind, .string y.text, .int .u64 y.num, .int .i64 y.line, .int .i64 y.col, .slice Ay y.kids.length capy, .string u.kind, .string u.text, .int .u64 u.num, .int .i64 u.line, .int .i64 u.col, .slice Au u.kids.length capu] 26) = w31
  intro HE9 hz31
  have HS40 := hid HE9
  clear HE9
  have hy31 : w1.heap.size + 2 ≤ w31.heap.size := lt_of_heap HS40.out.h0
  obtain ⟨x0, x1, x2, x3, x4, x5, xf⟩ := cells6 HS40.out.h1
  obtain ⟨n0, n1, n2, n3, n4, n5, nf⟩ := cells6 HS40.out.h0
  go_wp2_with fail
  refine cmo (need_calls c hc _ (ts6) ⟨#[59]⟩ HS40.out.ps) ?_
  rintro e9 w32 ⟨hkp, hp9⟩
  rcases bnd_some HB6.out with ⟨l, k, er, he, rfl⟩ | ⟨t9, ts9, he, hB9⟩
  ·
   rw [Option.some.inj he] at hp9
   subst hp9
   exact ⟨rfl, HS40.out.kp.trans hkp, rfl⟩
  ·
   rw [Option.some.inj he] at hp9
   obtain ⟨rfl, hps9⟩ := hp9
   have HB9 := hid hB9
   clear hB9
   have HS41 := hid (HS40.out.call hkp hps9)
   clear HS40
   have hz32 := hkp.size_le
   try simp only [WZ] at hz32
   clear hkp hps9 he HB6
   have hy32 : w1.heap.size + 2 ≤ w32.heap.size := lt_of_heap HS41.out.h0
   clear x0 x1 x2 x3 x4 x5 xf n0 n1 n2 n3 n4 n5 nf
   obtain ⟨x0, x1, x2, x3, x4, x5, xf⟩ := cells6 HS41.out.h1
   obtain ⟨n0, n1, n2, n3, n4, n5, nf⟩ := cells6 HS41.out.h0
   obtain ⟨r0, r1, r2, r3, r4, r5, rf⟩ := cells6 HS41.out.h2
   go_wp2_with fail
   rw [(Option.some.inj HB9.out).symm]
   exact ret_sta hc (n := ⟨⟨#[97, 115, 115, 105, 103, 110]⟩, ⟨#[]⟩, 0, x.line, x.col, [y, u]⟩) (A := some ⟨w30.heap.size, 0, none⟩) (cap := 2) (base := w2.heap.size) Tryz.results104 (by rfl) (HS41.out.rot) (by omega) (by omega) (by simp <;> omega)
 ·
  go_simp
  try go_wp2_with fail
  refine hK.out _ _ (fun _ => XS_of HB1.h1) ?_
  clear hK K
  refine wpAnyK_one (i := 4) (by kernel_rfl) rfl (fun K hK => ?_)
  go_simp
  try go_wp2_with fail
  refine hK.out _ _ (fun _ => XS_of HC.h1) ?_
  clear hK K
  refine wpAnyK_one (i := 7) (by kernel_rfl) rfl (fun K hK => ?_)
  go_simp
  try go_wp2_with fail
  refine hK.out _ _ (fun _ => XS_of HC.h1) ?_
  clear hK K
  refine wpAnyK_one (i := 8) (by kernel_rfl) rfl (fun K hK => ?_)
  go_simp
  try go_wp2_with fail
  refine hK.out _ _ (fun _ => XS_of HE9.h1) ?_
  clear hK K
  refine wpAnyK_done (by kernel_rfl) ?_ _
  clear HST HA HB1 HC n0 n1 n2 n3 n4 n5 nf
  have hz31 : w30.heap.size ≤ (((w30.setCell ⟨w1.heap.size + 1, 0, none⟩ (.string ⟨#[97, 115, 115, 105, 103, 110]⟩)).setCell ⟨w1.heap.size + 1, 5, none⟩ (.slice (some ⟨w30.heap.size, 0, none⟩) 2 2)).alloc (.cells #[.string y.kind, .string y.text, .int .u64 y.num, .int .i64 y.line, .int .i64 y.col, .slice Ay y.kids.length capy, .string u.kind, .string u.text, .int .u64 u.num, .int .i64 u.line, .int .i64 u.col, .slice Au u.kids.length capu] 26)).heap.size := by simp only [WZ]; omega
  revert HE9 hz31
  generalize ((w30.setCell ⟨w1.heap.size + 1, 0, none⟩ (.string ⟨#[97, 115, 115, 105, 103, 110]⟩)).setCell ⟨w1.heap.size + 1, 5, none⟩ (.slice (some ⟨w30.heap.size, 0, none⟩) 2 2)).alloc (.cells #[.string y.kind, .string y.text, .int .u64 y.num, .int .i64 y.line, .int .i64 y.col, .slice Ay y.kids.length capy, .string u.kind, .string u.text, .int .u64 u.num, .int .i64 u.line, .int .i64 u.col, .slice Au u.kids.length capu] 26) = w31
  intro HE9 hz31
  have HS40 := hid HE9
  clear HE9
  have hy31 : w1.heap.size + 2 ≤ w31.heap.size := lt_of_heap HS40.out.h0
  obtain ⟨x0, x1, x2, x3, x4, x5, xf⟩ := cells6 HS40.out.h1
  obtain ⟨n0, n1, n2, n3, n4, n5, nf⟩ := cells6 HS40.out.h0
  go_wp2_with fail
  refine cmo (need_calls c hc _ (ts6) ⟨#[59]⟩ HS40.out.ps) ?_
  rintro e9 w32 ⟨hkp, hp9⟩
  rcases bnd_some HB6.out with ⟨l, k, er, he, rfl⟩ | ⟨t9, ts9, he, hB9⟩
  ·
   rw [Option.some.inj he] at hp9
   subst hp9
   exact ⟨rfl, HS40.out.kp.trans hkp, rfl⟩
  ·
   rw [Option.some.inj he] at hp9
   obtain ⟨rfl, hps9⟩ := hp9
   have HB9 := hid hB9
   clear hB9
   have HS41 := hid (HS40.out.call hkp hps9)
   clear HS40
   have hz32 := hkp.size_le
   try simp only [WZ] at hz32
   clear hkp hps9 he HB6
   have hy32 : w1.heap.size + 2 ≤ w32.heap.size := lt_of_heap HS41.out.h0
   clear x0 x1 x2 x3 x4 x5 xf n0 n1 n2 n3 n4 n5 nf
   obtain ⟨x0, x1, x2, x3, x4, x5, xf⟩ := cells6 HS41.out.h1
   obtain ⟨n0, n1, n2, n3, n4, n5, nf⟩ := cells6 HS41.out.h0
   obtain ⟨r0, r1, r2, r3, r4, r5, rf⟩ := cells6 HS41.out.h2
   go_wp2_with fail
   rw [(Option.some.inj HB9.out).symm]
   exact ret_sta hc (n := ⟨⟨#[97, 115, 115, 105, 103, 110]⟩, ⟨#[]⟩, 0, x.line, x.col, [y, u]⟩) (A := some ⟨w30.heap.size, 0, none⟩) (cap := 2) (base := w2.heap.size) Tryz.results104 (by rfl) (HS41.out.rot) (by omega) (by omega) (by simp <;> omega)
set_option maxRecDepth 20000 in
set_option maxHeartbeats 400000 in
theorem simple_asg2 (c : PC) (hc : c.Ok) (g : Nat) (hg : g ≤ 1000000000) (w : World) (d : Int) (ts ts2 : List Tok) (x : Node) (r : PR Node) (hps : PS c w ts) (h0 : 0 ≤ d) (h1 : d ≤ 60) (HN : Hid (nameF ts = .ok x ts2)) (b0 : isF ts2 ⟨#[40]⟩ = false) (ts3 ts4 : List Tok) (y : Node) (t2 : Tok) (HI : Hid (indexF g x d ts2 = some (.ok y ts3))) (HE : Hid (needF ts3 ⟨#[61]⟩ = .ok t2 ts4)) (b1 : isF ts4 ⟨#[110, 111, 110, 100, 101, 116]⟩ = false) (b2 : namedF ts4 = true) (b3 : ((nowT ts4.tail).kind == 2) = true) (b4 : ((nowT ts4.tail).text.toList == [40]) = false) (HB : Hid (bnd (exprF g d ts4) (fun u r4 => semiF ⟨⟨#[97, 115, 115, 105, 103, 110]⟩, ⟨#[]⟩, 0, x.line, x.col, [y, u]⟩ r4) = some r)) : Calls Tryz.prog 104 #[.pointer (some ⟨c.p, 0, none⟩), .int .i64 d] w (PostN c w r) := by
 have hlt := hps.lt
 have HS1 := hid (Sta.start hps)
 clear hps
 go_enter Tryz.func104, Tryz.ntmps104
 have HS2 := hid (HS1.out.alloc (.cells #[.string ⟨#[]⟩, .string ⟨#[]⟩, .int .u64 0, .int .i64 0, .int .i64 0, .slice none 0 0] 26))
 clear HS1
 go_wp2_with fail
 refine cmo (name_calls c hc _ (ts) HS2.out.ps) ?_
 rintro e9 w1 ⟨hkp, hp9⟩
 rw [HN.out] at hp9
 obtain ⟨rfl, hk_x, hps9⟩ := hp9
 have HK_x := hid hk_x
 clear hk_x
 have HS3 := hid (HS2.out.call hkp hps9)
 clear HS2
 have hz1 := hkp.size_le
 try simp only [WZ] at hz1
 unfold nodeV
 clear hkp hps9
 go_wp2_with fail
 have HS4 : Hid (Sta c w ((w1.alloc (.cells #[.string x.kind, .string x.text, .int .u64 x.num, .int .i64 x.line, .int .i64 x.col, .slice none 0 0] 26)).alloc (.cells #[.string ⟨#[]⟩, .string ⟨#[]⟩, .int .u64 0, .int .i64 x.line, .int .i64 x.col, .slice none 0 0] 26)) ts2 [(w1.heap.size + 1, (.cells #[.string ⟨#[]⟩, .string ⟨#[]⟩, .int .u64 0, .int .i64 x.line, .int .i64 x.col, .slice none 0 0] 26)), (w1.heap.size, (.cells #[.string x.kind, .string x.text, .int .u64 x.num, .int .i64 x.line, .int .i64 x.col, .slice none 0 0] 26)), (w.heap.size, (.cells #[.string ⟨#[]⟩, .string ⟨#[]⟩, .int .u64 0, .int .i64 0, .int .i64 0, .slice none 0 0] 26))] []) := hid (by have h9 := (HS3.out.alloc (.cells #[.string x.kind, .string x.text, .int .u64 x.num, .int .i64 x.line, .int .i64 x.col, .slice none 0 0] 26)).alloc (.cells #[.string ⟨#[]⟩, .string ⟨#[]⟩, .int .u64 0, .int .i64 x.line, .int .i64 x.col, .slice none 0 0] 26); rw [World.size_alloc] at h9; exact h9)
 clear HS3
 refine cmo (is_gives c hc _ (ts2) ⟨#[40]⟩ HS4.out.ps) ?_
 rintro e9 w2 ⟨rfl, hov⟩
 rw [b0]
 have HS5 := hid (HS4.out.isOv hov)
 clear HS4
 have hz2 := hov.size_le
 try simp only [WZ] at hz2
 clear hov
 have hy2 : w1.heap.size + 2 ≤ w2.heap.size := lt_of_heap HS5.out.h0
 obtain ⟨x0, x1, x2, x3, x4, x5, xf⟩ := cells6 HS5.out.h1
 obtain ⟨n0, n1, n2, n3, n4, n5, nf⟩ := cells6 HS5.out.h0
 go_wp2_with fail
 refine cmo ((exprs_ok c hc g).index _ x d _ _ HI.out HS5.out.ps h0 h1 HK_x.out) ?_
 rintro e9 w3 ⟨hkp, hpt, Ay, capy, rfl, hR⟩
 have HS6 := hid (HS5.out.got hkp hpt (Nat.le_refl _) hR)
 clear HS5
 have hz3 := hkp.size_le
 try simp only [WZ] at hz3
 unfold nodeV
 clear hkp hpt hR
 have hy3 : w1.heap.size + 2 ≤ w3.heap.size := lt_of_heap HS6.out.h0
 clear x0 x1 x2 x3 x4 x5 xf n0 n1 n2 n3 n4 n5 nf
 obtain ⟨x0, x1, x2, x3, x4, x5, xf⟩ := cells6 HS6.out.h1
 obtain ⟨n0, n1, n2, n3, n4, n5, nf⟩ := cells6 HS6.out.h0
 go_wp2_with fail
 have HS7 := hid (((HS6.out.swap).set6 hc (by omega) (by simp <;> omega) (.string y.kind) (.string y.text) (.int .u64 y.num) (.int .i64 y.line) (.int .i64 y.col) (.slice Ay y.kids.length capy)).swap)
 clear HS6
 refine cmo (need_calls c hc _ (ts3) ⟨#[61]⟩ HS7.out.ps) ?_
 rintro e9 w4 ⟨hkp, hp9⟩
 rw [HE.out] at hp9
 obtain ⟨rfl, hps9⟩ := hp9
 have HS8 := hid (HS7.out.call hkp hps9)
 clear HS7
 have hz4 := hkp.size_le
 try simp only [WZ] at hz4
 clear hkp hps9
 have hy4 : w1.heap.size + 2 ≤ w4.heap.size := lt_of_heap HS8.out.h0
 clear x0 x1 x2 x3 x4 x5 xf n0 n1 n2 n3 n4 n5 nf
 obtain ⟨x0, x1, x2, x3, x4, x5, xf⟩ := cells6 HS8.out.h1
 obtain ⟨n0, n1, n2, n3, n4, n5, nf⟩ := cells6 HS8.out.h0
 go_wp2_with fail
 refine cmo (take_calls c hc _ (ts4) ⟨#[110, 111, 110, 100, 101, 116]⟩ HS8.out.ps) ?_
 rintro e9 w5 ⟨rfl, hpt, hkt⟩
 rw [b1] at hpt ⊢
 have hpt2 : PS c w5 (ts4) := hpt
 have HS9 := hid (HS8.out.call hkt hpt2)
 clear HS8
 have hz5 := hkt.size_le
 try simp only [WZ] at hz5
 clear hpt hkt hpt2
 have hy5 : w1.heap.size + 2 ≤ w5.heap.size := lt_of_heap HS9.out.h0
 clear x0 x1 x2 x3 x4 x5 xf n0 n1 n2 n3 n4 n5 nf
 obtain ⟨x0, x1, x2, x3, x4, x5, xf⟩ := cells6 HS9.out.h1
 obtain ⟨n0, n1, n2, n3, n4, n5, nf⟩ := cells6 HS9.out.h0
 go_wp2_with fail
 have HP9 := hid HS9.out.ps
 have HNQ : Hid (∀ x, Gives Tryz.prog 83 #[.pointer (some ⟨c.p, 0, none⟩)] (w5.ov x) (.bool true)) := hid (fun x => by have h9 := named_gives c hc (w5.ov x) ts4 (HP9.out.isOv ((IsOv.refl _).ov x)); rw [b2] at h9; exact h9)
 obtain ⟨i, hRS, hi1, hi2⟩ := HP9.out.two hc (named_kind b2)
 generalize nowT ts4.tail = t' at *
 have hiw : IntKind.i64.wrap ((i : Int) + 1) = (i : Int) + 1 := IntWalk.i64_in _ (by omega)
 have hi0 : (0 : Int) ≤ (i : Int) + 1 := by omega
 have hi3 : ((i : Int) + 1).toNat = i + 1 := by omega
 have hi4 : (i : Int) + 1 < (c.toks.length : Int) := by omega
 have hi5 : decide ((i : Int) + 1 < (c.toks.length : Int)) = true := decide_eq_true hi4
 obtain ⟨g0, g1, g2, g3⟩ := hRS
 have hgl : c.g < w5.heap.size := World.block_lt_of_cell? _ _ g2
 refine wp_region_ov (by kernel_rfl) (by kernel_rfl) ?_
 (repeat (go_big_quiet_step ((first | (go_at_call 83; exact (HNQ.out _).quiet)))))
 refine wpQuiet_nil ?_
 rintro _ ⟨nq, rfl⟩
 have HS10 := hid (HS9.out.isOv ((IsOv.refl _).ov nq))
 clear HS9
 have hz20 : w5.heap.size ≤ (w5.ov nq).heap.size := ((IsOv.refl w5).ov nq).size_le
 clear HP9 HNQ hgl g0 g1 g2 g3 hiw hi0 hi1 hi2 hi3 hi4 hi5
 generalize w5.ov nq = w20 at *
 have hy20 : w1.heap.size + 2 ≤ w20.heap.size := lt_of_heap HS10.out.h0
 clear x0 x1 x2 x3 x4 x5 xf n0 n1 n2 n3 n4 n5 nf
 obtain ⟨x0, x1, x2, x3, x4, x5, xf⟩ := cells6 HS10.out.h1
 obtain ⟨n0, n1, n2, n3, n4, n5, nf⟩ := cells6 HS10.out.h0
 go_wp2_with fail
 obtain ⟨r0, he, hr0⟩ := bnd_some2 HB.out
 have HR0 := hid hr0
 clear hr0 HB
 have HD := hid (HS10.out.drew)
 have hd0 : w20.drew.heap.size = w20.heap.size := rfl
 have hS0 : (fun w' => XS w1.heap.size y Ay capy w') w20.drew := XS_of HD.out.h1
 refine wp_region_K (fun w' => XS w1.heap.size y Ay capy w') (fun j => false) (by kernel_rfl) ?_
 refine wpAnyK_take (i := 0) (v := ?_) rfl (by kernel_rfl) (by kernel_rfl) (by kernel_rfl) (by kernel_rfl) (fun _ _ _ h => h) (Or.inl ⟨by rfl, ?_⟩) hS0 ?_
 rotate_left
 · intro w9 hSw; (try dsimp only at hSw); go_simp; (try with_reducible rfl)
 try simp only [Act.put, List.setIfInBounds_toArray, List.set_cons_zero, List.set_cons_succ]
 refine wpAnyK_take (i := 1) (v := ?_) rfl (by kernel_rfl) (by kernel_rfl) (by kernel_rfl) (by kernel_rfl) (fun _ _ _ h => h) (Or.inl ⟨by rfl, ?_⟩) hS0 ?_
 rotate_left
 · intro w9 hSw; (try dsimp only at hSw); go_simp; (try with_reducible rfl)
 try simp only [Act.put, List.setIfInBounds_toArray, List.set_cons_zero, List.set_cons_succ]
 refine wpAnyK_take (i := 2) (v := ?_) rfl (by kernel_rfl) (by kernel_rfl) (by kernel_rfl) (by kernel_rfl) (fun _ _ _ h => h) (Or.inl ⟨by rfl, ?_⟩) hS0 ?_
 rotate_left
 · intro w9 hSw; (try dsimp only at hSw); go_simp; (try with_reducible rfl)
 try simp only [Act.put, List.setIfInBounds_toArray, List.set_cons_zero, List.set_cons_succ]
 refine wpAnyK_take (i := 5) (v := ?_) rfl (by kernel_rfl) (by kernel_rfl) (by kernel_rfl) (by kernel_rfl) (fun _ _ _ h => h) (Or.inl ⟨by rfl, ?_⟩) hS0 ?_
 rotate_left
 · intro w9 hSw; (try dsimp only at hSw); go_simp; (try with_reducible rfl)
 try simp only [Act.put, List.setIfInBounds_toArray, List.set_cons_zero, List.set_cons_succ]
 refine wpAnyK_one (i := 3) (by kernel_rfl) rfl (fun K hK => ?_)
 go_simp
 refine cmo ((exprs_ok c hc g).expr _ d _ r0 he HD.out.ps h0 (by omega)) ?_
 rintro e9 w30 ⟨hkp, hp⟩
 rcases r0 with ⟨u, ts6⟩ | ⟨l, k, er⟩
 rotate_left
 ·
  have hr9 : r = .bad l k er := HR0.out
  have hp9 : e9 = wrongE l k er := hp
  subst hp9
  subst hr9
  exact ⟨rfl, HD.out.kp.trans hkp, rfl⟩
 obtain ⟨hpt, Au, capu, rfl, hR⟩ := hp
 have HB6 : Hid (semiF ⟨⟨#[97, 115, 115, 105, 103, 110]⟩, ⟨#[]⟩, 0, x.line, x.col, [y, u]⟩ ts6 = some r) := hid HR0.out
 have HST := HD.out.got hkp hpt (Nat.le_refl _) hR
 have hz30 : w20.heap.size ≤ w30.heap.size := hkp.size_le
 unfold nodeV
 clear hkp hpt hR he HD HR0 hS0 x0 x1 x2 x3 x4 x5 xf n0 n1 n2 n3 n4 n5 nf
 have hyz : w1.heap.size + 2 ≤ w30.heap.size := lt_of_heap HST.h0
 obtain ⟨n0, n1, n2, n3, n4, n5, nf⟩ := cells6 HST.h0
 refine hK.out _ _ (fun _ => XS_of HST.h1) ?_
 clear hK K
 have HA := (HST.made2 (by (try simp only [World.size_setCell]); omega) (by (try simp only [World.size_setCell]); omega))
 try simp only [World.size_setCell] at HA
 have HB1 := (HST.set hc (by omega) (by simp <;> omega) 0 (.string ⟨#[97, 115, 115, 105, 103, 110]⟩))
 have HC := ((HST.set hc (by omega) (by simp <;> omega) 0 (.string ⟨#[97, 115, 115, 105, 103, 110]⟩)).made2 (by (try simp only [World.size_setCell]); omega) (by (try simp only [World.size_setCell]); omega))
 try simp only [World.size_setCell] at HC
 have HE9 := (((HST.set hc (by omega) (by simp <;> omega) 0 (.string ⟨#[97, 115, 115, 105, 103, 110]⟩)).set hc (by omega) (by simp <;> omega) 5 (.slice (some ⟨w30.heap.size, 0, none⟩) 2 2)).made2 (by (try simp only [World.size_setCell]); omega) (by (try simp only [World.size_setCell]); omega))
 try simp only [World.size_setCell] at HE9
 refine wpAnyK_two (i := 4) (j := 6) (by kernel_rfl) rfl rfl (fun K hK => ?_) (fun K hK => ?_)
 ·
  go_simp
  try go_wp2_with fail
  refine hK.out _ _ (fun _ => XS_of HA.h1) ?_
  clear hK K
  refine wpAnyK_one (i := 6) (by kernel_rfl) rfl (fun K hK => ?_)
  go_simp
  try go_wp2_with fail
  refine hK.out _ _ (fun _ => XS_of HC.h1) ?_
  clear hK K
  refine wpAnyK_one (i := 7) (by kernel_rfl) rfl (fun K hK => ?_)
  go_simp
  try go_wp2_with fail
  refine hK.out _ _ (fun _ => XS_of HC.h1) ?_
  clear hK K
  refine wpAnyK_one (i := 8) (by kernel_rfl) rfl (fun K hK => ?_)
  go_simp
  try go_wp2_with fail
  refine hK.out _ _ (fun _ => XS_of HE9.h1) ?_
  clear hK K
  refine wpAnyK_done (by kernel_rfl) ?_ _
  clear HST HA HB1 HC n0 n1 n2 n3 n4 n5 nf
  have hz31 : w30.heap.size ≤ (((w30.setCell ⟨w1.heap.size + 1, 0, none⟩ (.string ⟨#[97, 115, 115, 105, 103, 110]⟩)).setCell ⟨w1.heap.size + 1, 5, none⟩ (.slice (some ⟨w30.heap.size, 0, none⟩) 2 2)).alloc (.cells #[.string y.kind, .string y.text, .int .u64 y.num, .int .i64 y.line, .int .i64 y.col, .slice Ay y.kids.length capy, .string u.kind, .string u.text, .int .u64 u.num, .int .i64 u.line, .int .i64 u.col, .slice Au u.kids.length capu] 26)).heap.size := by simp only [WZ]; omega
  revert HE9 hz31
  generalize ((w30.setCell ⟨w1.heap.size + 1, 0, none⟩ (.string ⟨#[97, 115, 115, 105, 103, 110]⟩)).setCell ⟨w1.heap.size + 1, 5, none⟩ (.slice (some ⟨w30.heap.size, 0, none⟩) 2 2)).alloc (.cells #[.string y.kind, .string y.text, .int .u64 y.num, .int .i64 y.line, .int .i64 y.col, .slice Ay y.kids.length capy, .string u.kind, .string u.text, .int .u64 u.num, .int .i64 u.line, .int .i64 u.col, .slice Au u.kids.length capu] 26) = w31
  intro HE9 hz31
  have HS40 := hid HE9
  clear HE9
  have hy31 : w1.heap.size + 2 ≤ w31.heap.size := lt_of_heap HS40.out.h0
  obtain ⟨x0, x1, x2, x3, x4, x5, xf⟩ := cells6 HS40.out.h1
  obtain ⟨n0, n1, n2, n3, n4, n5, nf⟩ := cells6 HS40.out.h0
  go_wp2_with fail
  refine cmo (need_calls c hc _ (ts6) ⟨#[59]⟩ HS40.out.ps) ?_
  rintro e9 w32 ⟨hkp, hp9⟩
  rcases bnd_some HB6.out with ⟨l, k, er, he, rfl⟩ | ⟨t9, ts9, he, hB9⟩
  ·
   rw [Option.some.inj he] at hp9
   subst hp9
   exact ⟨rfl, HS40.out.kp.trans hkp, rfl⟩
  ·
   rw [Option.some.inj he] at hp9
   obtain ⟨rfl, hps9⟩ := hp9
   have HB9 := hid hB9
   clear hB9
   have HS41 := hid (HS40.out.call hkp hps9)
   clear HS40
   have hz32 := hkp.size_le
   try simp only [WZ] at hz32
   clear hkp hps9 he HB6
   have hy32 : w1.heap.size + 2 ≤ w32.heap.size := lt_of_heap HS41.out.h0
   clear x0 x1 x2 x3 x4 x5 xf n0 n1 n2 n3 n4 n5 nf
   obtain ⟨x0, x1, x2, x3, x4, x5, xf⟩ := cells6 HS41.out.h1
   obtain ⟨n0, n1, n2, n3, n4, n5, nf⟩ := cells6 HS41.out.h0
   obtain ⟨r0, r1, r2, r3, r4, r5, rf⟩ := cells6 HS41.out.h2
   go_wp2_with fail
   rw [(Option.some.inj HB9.out).symm]
   exact ret_sta hc (n := ⟨⟨#[97, 115, 115, 105, 103, 110]⟩, ⟨#[]⟩, 0, x.line, x.col, [y, u]⟩) (A := some ⟨w30.heap.size, 0, none⟩) (cap := 2) (base := w2.heap.size) Tryz.results104 (by rfl) (HS41.out.rot) (by omega) (by omega) (by simp <;> omega)
 ·
  go_simp
  try go_wp2_with fail
  refine hK.out _ _ (fun _ => XS_of HB1.h1) ?_
  clear hK K
  refine wpAnyK_one (i := 4) (by kernel_rfl) rfl (fun K hK => ?_)
  go_simp
  try go_wp2_with fail
  refine hK.out _ _ (fun _ => XS_of HC.h1) ?_
  clear hK K
  refine wpAnyK_one (i := 7) (by kernel_rfl) rfl (fun K hK => ?_)
  go_simp
  try go_wp2_with fail
  refine hK.out _ _ (fun _ => XS_of HC.h1) ?_
  clear hK K
  refine wpAnyK_one (i := 8) (by kernel_rfl) rfl (fun K hK => ?_)
  go_simp
  try go_wp2_with fail
  refine hK.out _ _ (fun _ => XS_of HE9.h1) ?_
  clear hK K
  refine wpAnyK_done (by kernel_rfl) ?_ _
  clear HST HA HB1 HC n0 n1 n2 n3 n4 n5 nf
  have hz31 : w30.heap.size ≤ (((w30.setCell ⟨w1.heap.size + 1, 0, none⟩ (.string ⟨#[97, 115, 115, 105, 103, 110]⟩)).setCell ⟨w1.heap.size + 1, 5, none⟩ (.slice (some ⟨w30.heap.size, 0, none⟩) 2 2)).alloc (.cells #[.string y.kind, .string y.text, .int .u64 y.num, .int .i64 y.line, .int .i64 y.col, .slice Ay y.kids.length capy, .string u.kind, .string u.text, .int .u64 u.num, .int .i64 u.line, .int .i64 u.col, .slice Au u.kids.length capu] 26)).heap.size := by simp only [WZ]; omega
  revert HE9 hz31
  generalize ((w30.setCell ⟨w1.heap.size + 1, 0, none⟩ (.string ⟨#[97, 115, 115, 105, 103, 110]⟩)).setCell ⟨w1.heap.size + 1, 5, none⟩ (.slice (some ⟨w30.heap.size, 0, none⟩) 2 2)).alloc (.cells #[.string y.kind, .string y.text, .int .u64 y.num, .int .i64 y.line, .int .i64 y.col, .slice Ay y.kids.length capy, .string u.kind, .string u.text, .int .u64 u.num, .int .i64 u.line, .int .i64 u.col, .slice Au u.kids.length capu] 26) = w31
  intro HE9 hz31
  have HS40 := hid HE9
  clear HE9
  have hy31 : w1.heap.size + 2 ≤ w31.heap.size := lt_of_heap HS40.out.h0
  obtain ⟨x0, x1, x2, x3, x4, x5, xf⟩ := cells6 HS40.out.h1
  obtain ⟨n0, n1, n2, n3, n4, n5, nf⟩ := cells6 HS40.out.h0
  go_wp2_with fail
  refine cmo (need_calls c hc _ (ts6) ⟨#[59]⟩ HS40.out.ps) ?_
  rintro e9 w32 ⟨hkp, hp9⟩
  rcases bnd_some HB6.out with ⟨l, k, er, he, rfl⟩ | ⟨t9, ts9, he, hB9⟩
  ·
   rw [Option.some.inj he] at hp9
   subst hp9
   exact ⟨rfl, HS40.out.kp.trans hkp, rfl⟩
  ·
   rw [Option.some.inj he] at hp9
   obtain ⟨rfl, hps9⟩ := hp9
   have HB9 := hid hB9
   clear hB9
   have HS41 := hid (HS40.out.call hkp hps9)
   clear HS40
   have hz32 := hkp.size_le
   try simp only [WZ] at hz32
   clear hkp hps9 he HB6
   have hy32 : w1.heap.size + 2 ≤ w32.heap.size := lt_of_heap HS41.out.h0
   clear x0 x1 x2 x3 x4 x5 xf n0 n1 n2 n3 n4 n5 nf
   obtain ⟨x0, x1, x2, x3, x4, x5, xf⟩ := cells6 HS41.out.h1
   obtain ⟨n0, n1, n2, n3, n4, n5, nf⟩ := cells6 HS41.out.h0
   obtain ⟨r0, r1, r2, r3, r4, r5, rf⟩ := cells6 HS41.out.h2
   go_wp2_with fail
   rw [(Option.some.inj HB9.out).symm]
   exact ret_sta hc (n := ⟨⟨#[97, 115, 115, 105, 103, 110]⟩, ⟨#[]⟩, 0, x.line, x.col, [y, u]⟩) (A := some ⟨w30.heap.size, 0, none⟩) (cap := 2) (base := w2.heap.size) Tryz.results104 (by rfl) (HS41.out.rot) (by omega) (by omega) (by simp <;> omega)
end Go.Proofs.YtdimhoilfopndaaGreatDoor
end
section
namespace Go.Proofs.YtdimhoilfopndaaGreatDoor
open Go.RowKit Go.Proofs.YtdimhoilfopndaaGreatDoorW.PrintWords
set_option maxRecDepth 20000 in
set_option maxHeartbeats 1600000 in
theorem simple_result (c : PC) (hc : c.Ok) (g : Nat) (hg : g ≤ 1000000000) (w : World) (d : Int) (ts ts2 : List Tok) (x : Node) (r : PR Node) (hps : PS c w ts) (h0 : 0 ≤ d) (h1 : d ≤ 60) (HN : Hid (nameF ts = .ok x ts2)) (b0 : isF ts2 ⟨#[40]⟩ = false) (ts3 ts4 : List Tok) (y : Node) (t2 : Tok) (HI : Hid (indexF g x d ts2 = some (.ok y ts3))) (HE : Hid (needF ts3 ⟨#[61]⟩ = .ok t2 ts4)) (b1 : isF ts4 ⟨#[110, 111, 110, 100, 101, 116]⟩ = false) (b2 : namedF ts4 = true) (b3 : ((nowT ts4.tail).kind == 2) = true) (b4 : ((nowT ts4.tail).text.toList == [40]) = true) (HB : Hid (bnd (some (nameF ts4)) (fun z r4 => bnd (callF g z d r4) fun u r5 => semiF ⟨⟨#[114, 101, 115, 117, 108, 116]⟩, ⟨#[]⟩, 0, x.line, x.col, [y, u]⟩ r5) = some r)) : Calls Tryz.prog 104 #[.pointer (some ⟨c.p, 0, none⟩), .int .i64 d] w (PostN c w r) := by
 have hlt := hps.lt
 have HS1 := hid (Sta.start hps)
 clear hps
 go_enter Tryz.func104, Tryz.ntmps104
 have HS2 := hid (HS1.out.alloc (.cells #[.string ⟨#[]⟩, .string ⟨#[]⟩, .int .u64 0, .int .i64 0, .int .i64 0, .slice none 0 0] 26))
 clear HS1
 go_wp2_with fail
 refine cmo (name_calls c hc _ (ts) HS2.out.ps) ?_
 rintro e9 w1 ⟨hkp, hp9⟩
 rw [HN.out] at hp9
 obtain ⟨rfl, hk_x, hps9⟩ := hp9
 have HK_x := hid hk_x
 clear hk_x
 have HS3 := hid (HS2.out.call hkp hps9)
 clear HS2
 have hz1 := hkp.size_le
 try simp only [WZ] at hz1
 unfold nodeV
 clear hkp hps9
 go_wp2_with fail
 have HS4 : Hid (Sta c w ((w1.alloc (.cells #[.string x.kind, .string x.text, .int .u64 x.num, .int .i64 x.line, .int .i64 x.col, .slice none 0 0] 26)).alloc (.cells #[.string ⟨#[]⟩, .string ⟨#[]⟩, .int .u64 0, .int .i64 x.line, .int .i64 x.col, .slice none 0 0] 26)) ts2 [(w1.heap.size + 1, (.cells #[.string ⟨#[]⟩, .string ⟨#[]⟩, .int .u64 0, .int .i64 x.line, .int .i64 x.col, .slice none 0 0] 26)), (w1.heap.size, (.cells #[.string x.kind, .string x.text, .int .u64 x.num, .int .i64 x.line, .int .i64 x.col, .slice none 0 0] 26)), (w.heap.size, (.cells #[.string ⟨#[]⟩, .string ⟨#[]⟩, .int .u64 0, .int .i64 0, .int .i64 0, .slice none 0 0] 26))] []) := hid (by have h9 := (HS3.out.alloc (.cells #[.string x.kind, .string x.text, .int .u64 x.num, .int .i64 x.line, .int .i64 x.col, .slice none 0 0] 26)).alloc (.cells #[.string ⟨#[]⟩, .string ⟨#[]⟩, .int .u64 0, .int .i64 x.line, .int .i64 x.col, .slice none 0 0] 26); rw [World.size_alloc] at h9; exact h9)
 clear HS3
 refine cmo (is_gives c hc _ (ts2) ⟨#[40]⟩ HS4.out.ps) ?_
 rintro e9 w2 ⟨rfl, hov⟩
 rw [b0]
 have HS5 := hid (HS4.out.isOv hov)
 clear HS4
 have hz2 := hov.size_le
 try simp only [WZ] at hz2
 clear hov
 have hy2 : w1.heap.size + 2 ≤ w2.heap.size := lt_of_heap HS5.out.h0
 obtain ⟨x0, x1, x2, x3, x4, x5, xf⟩ := cells6 HS5.out.h1
 obtain ⟨n0, n1, n2, n3, n4, n5, nf⟩ := cells6 HS5.out.h0
 go_wp2_with fail
 refine cmo ((exprs_ok c hc g).index _ x d _ _ HI.out HS5.out.ps h0 h1 HK_x.out) ?_
 rintro e9 w3 ⟨hkp, hpt, Ay, capy, rfl, hR⟩
 have HS6 := hid (HS5.out.got hkp hpt (Nat.le_refl _) hR)
 clear HS5
 have hz3 := hkp.size_le
 try simp only [WZ] at hz3
 unfold nodeV
 clear hkp hpt hR
 have hy3 : w1.heap.size + 2 ≤ w3.heap.size := lt_of_heap HS6.out.h0
 clear x0 x1 x2 x3 x4 x5 xf n0 n1 n2 n3 n4 n5 nf
 obtain ⟨x0, x1, x2, x3, x4, x5, xf⟩ := cells6 HS6.out.h1
 obtain ⟨n0, n1, n2, n3, n4, n5, nf⟩ := cells6 HS6.out.h0
 go_wp2_with fail
 have HS7 := hid (((HS6.out.swap).set6 hc (by omega) (by simp <;> omega) (.string y.kind) (.string y.text) (.int .u64 y.num) (.int .i64 y.line) (.int .i64 y.col) (.slice Ay y.kids.length capy)).swap)
 clear HS6
 refine cmo (need_calls c hc _ (ts3) ⟨#[61]⟩ HS7.out.ps) ?_
 rintro e9 w4 ⟨hkp, hp9⟩
 rw [HE.out] at hp9
 obtain ⟨rfl, hps9⟩ := hp9
 have HS8 := hid (HS7.out.call hkp hps9)
 clear HS7
 have hz4 := hkp.size_le
 try simp only [WZ] at hz4
 clear hkp hps9
 have hy4 : w1.heap.size + 2 ≤ w4.heap.size := lt_of_heap HS8.out.h0
 clear x0 x1 x2 x3 x4 x5 xf n0 n1 n2 n3 n4 n5 nf
 obtain ⟨x0, x1, x2, x3, x4, x5, xf⟩ := cells6 HS8.out.h1
 obtain ⟨n0, n1, n2, n3, n4, n5, nf⟩ := cells6 HS8.out.h0
 go_wp2_with fail
 refine cmo (take_calls c hc _ (ts4) ⟨#[110, 111, 110, 100, 101, 116]⟩ HS8.out.ps) ?_
 rintro e9 w5 ⟨rfl, hpt, hkt⟩
 rw [b1] at hpt ⊢
 have hpt2 : PS c w5 (ts4) := hpt
 have HS9 := hid (HS8.out.call hkt hpt2)
 clear HS8
 have hz5 := hkt.size_le
 try simp only [WZ] at hz5
 clear hpt hkt hpt2
 have hy5 : w1.heap.size + 2 ≤ w5.heap.size := lt_of_heap HS9.out.h0
 clear x0 x1 x2 x3 x4 x5 xf n0 n1 n2 n3 n4 n5 nf
 obtain ⟨x0, x1, x2, x3, x4, x5, xf⟩ := cells6 HS9.out.h1
 obtain ⟨n0, n1, n2, n3, n4, n5, nf⟩ := cells6 HS9.out.h0
 go_wp2_with fail
 have HP9 := HS9.out.ps
 obtain ⟨i, hRS, hi1, hi2⟩ := HP9.two hc (named_kind b2)
 generalize nowT ts4.tail = t' at *
 have hiw : IntKind.i64.wrap ((i : Int) + 1) = (i : Int) + 1 := IntWalk.i64_in _ (by omega)
 have hi0 : (0 : Int) ≤ (i : Int) + 1 := by omega
 have hi3 : ((i : Int) + 1).toNat = i + 1 := by omega
 have hi4 : (i : Int) + 1 < (c.toks.length : Int) := by omega
 have hi5 : decide ((i : Int) + 1 < (c.toks.length : Int)) = true := decide_eq_true hi4
 go_region_held3 (fun w' => RS c i t' w') (exact RS_isOv hRS (by first | exact hov | (repeat (first | with_reducible exact IsOv.refl _ | with_reducible apply IsOv.dr | with_reducible apply IsOv.drewN | with_reducible apply IsOv.drew | with_reducible apply IsOv.alloc | with_reducible apply IsOv.ov)))) (first | (go_at_call 83; go_loud (refine cmo (named_gives c hc _ ts4 (HP9.drew)) ?_; rintro e w20 ⟨rfl, hov⟩; rw [b2])))
 have HS10 := hid ((HS9.out.drew).isOv hov)
 clear HS9
 have hz20 : w5.heap.size ≤ w20.heap.size := hov.size_le
 clear hov HP9 hRS hiw hi0 hi1 hi2 hi3 hi4 hi5
 have hy20 : w1.heap.size + 2 ≤ w20.heap.size := lt_of_heap HS10.out.h0
 clear x0 x1 x2 x3 x4 x5 xf n0 n1 n2 n3 n4 n5 nf
 obtain ⟨x0, x1, x2, x3, x4, x5, xf⟩ := cells6 HS10.out.h1
 obtain ⟨n0, n1, n2, n3, n4, n5, nf⟩ := cells6 HS10.out.h0
 go_wp2_with fail
 refine cmo (name_calls c hc _ (ts4) HS10.out.ps) ?_
 rintro e9 w21 ⟨hkp, hp9⟩
 rcases bnd_some HB.out with ⟨l, k, er, he, rfl⟩ | ⟨z, ts5, he, hB9⟩
 ·
  rw [Option.some.inj he] at hp9
  subst hp9
  exact ⟨rfl, HS10.out.kp.trans hkp, rfl⟩
 ·
  rw [Option.some.inj he] at hp9
  obtain ⟨rfl, hk_z, hps9⟩ := hp9
  have HK_z := hid hk_z
  clear hk_z
  have HB2 := hid hB9
  clear hB9
  have HS11 := hid (HS10.out.call hkp hps9)
  clear HS10
  have hz21 := hkp.size_le
  try simp only [WZ] at hz21
  unfold nodeV
  clear hkp hps9 he HB
  go_wp2_with fail
  have HS12 := hid ((HS11.out.alloc (.cells #[.string z.kind, .string z.text, .int .u64 z.num, .int .i64 z.line, .int .i64 z.col, .slice none 0 0] 26)).swap)
  clear HS11
  have hy21 : w1.heap.size + 2 ≤ w21.heap.size := by omega
  clear x0 x1 x2 x3 x4 x5 xf n0 n1 n2 n3 n4 n5 nf
  have hz22 : w21.heap.size ≤ (w21.alloc (.cells #[.string z.kind, .string z.text, .int .u64 z.num, .int .i64 z.line, .int .i64 z.col, .slice none 0 0] 26)).heap.size := by simp only [World.size_alloc]; omega
  have hzb : w21.heap.size < (w21.alloc (.cells #[.string z.kind, .string z.text, .int .u64 z.num, .int .i64 z.line, .int .i64 z.col, .slice none 0 0] 26)).heap.size := by simp only [World.size_alloc]; omega
  have HSG := HS12.out
  clear HS12
  revert HSG hz22 hzb
  generalize (w21.alloc (.cells #[.string z.kind, .string z.text, .int .u64 z.num, .int .i64 z.line, .int .i64 z.col, .slice none 0 0] 26)) = w22
  intro hz22 hzb HSG
  have HS60 := hid HSG
  clear HSG
  obtain ⟨x0, x1, x2, x3, x4, x5, xf⟩ := cells6 HS60.out.h2
  obtain ⟨n0, n1, n2, n3, n4, n5, nf⟩ := cells6 HS60.out.h0
  obtain ⟨z0, z1, z2, z3, z4, z5, zf⟩ := cells6 HS60.out.h1
  obtain ⟨r0, he, hr0⟩ := bnd_some2 HB2.out
  have HR0 := hid hr0
  clear hr0 HB2
  have HD := hid (HS60.out.drew)
  have hd0 : w22.drew.heap.size = w22.heap.size := rfl
  have hS0 : (fun w' => XS w1.heap.size y Ay capy w' ∧ XZ w21.heap.size z w') w22.drew := ⟨XS_of HD.out.h2, XZ_of HD.out.h1⟩
  refine wp_region_K (fun w' => XS w1.heap.size y Ay capy w' ∧ XZ w21.heap.size z w') (fun j => false) (by kernel_rfl) ?_
  refine wpAnyK_take (i := 0) (v := ?_) rfl (by kernel_rfl) (by kernel_rfl) (by kernel_rfl) (by kernel_rfl) (fun _ _ _ h => h) (Or.inl ⟨by rfl, ?_⟩) hS0 ?_
  rotate_left
  · intro w9 hSw; (try dsimp only at hSw); go_simp; (try with_reducible rfl)
  try simp only [Act.put, List.setIfInBounds_toArray, List.set_cons_zero, List.set_cons_succ]
  refine wpAnyK_take (i := 1) (v := ?_) rfl (by kernel_rfl) (by kernel_rfl) (by kernel_rfl) (by kernel_rfl) (fun _ _ _ h => h) (Or.inl ⟨by rfl, ?_⟩) hS0 ?_
  rotate_left
  · intro w9 hSw; (try dsimp only at hSw); go_simp; (try with_reducible rfl)
  try simp only [Act.put, List.setIfInBounds_toArray, List.set_cons_zero, List.set_cons_succ]
  refine wpAnyK_take (i := 2) (v := ?_) rfl (by kernel_rfl) (by kernel_rfl) (by kernel_rfl) (by kernel_rfl) (fun _ _ _ h => h) (Or.inl ⟨by rfl, ?_⟩) hS0 ?_
  rotate_left
  · intro w9 hSw; (try dsimp only at hSw); go_simp; (try with_reducible rfl)
  try simp only [Act.put, List.setIfInBounds_toArray, List.set_cons_zero, List.set_cons_succ]
  refine wpAnyK_take (i := 3) (v := ?_) rfl (by kernel_rfl) (by kernel_rfl) (by kernel_rfl) (by kernel_rfl) (fun _ _ _ h => h) (Or.inl ⟨by rfl, ?_⟩) hS0 ?_
  rotate_left
  · intro w9 hSw; (try dsimp only at hSw); go_simp; (try with_reducible rfl)
  try simp only [Act.put, List.setIfInBounds_toArray, List.set_cons_zero, List.set_cons_succ]
  refine wpAnyK_take (i := 6) (v := ?_) rfl (by kernel_rfl) (by kernel_rfl) (by kernel_rfl) (by kernel_rfl) (fun _ _ _ h => h) (Or.inl ⟨by rfl, ?_⟩) hS0 ?_
  rotate_left
  · intro w9 hSw; (try dsimp only at hSw); go_simp; (try with_reducible rfl)
  try simp only [Act.put, List.setIfInBounds_toArray, List.set_cons_zero, List.set_cons_succ]
  refine wpAnyK_one (i := 4) (by kernel_rfl) rfl (fun K hK => ?_)
  go_simp
  refine cmo (call_calls c hc g hg _ z d _ r0 he HD.out.ps h0 h1) ?_
  rintro e9 w30 ⟨hkp, hp⟩
  rcases r0 with ⟨u, ts6⟩ | ⟨l, k, er⟩
  rotate_left
  ·
   have hr9 : r = .bad l k er := HR0.out
   have hp9 : e9 = wrongE l k er := hp
   subst hp9
   subst hr9
   exact ⟨rfl, HD.out.kp.trans hkp, rfl⟩
  obtain ⟨hpt, Au, capu, rfl, hR⟩ := hp
  have HB6 : Hid (semiF ⟨⟨#[114, 101, 115, 117, 108, 116]⟩, ⟨#[]⟩, 0, x.line, x.col, [y, u]⟩ ts6 = some r) := hid HR0.out
  have HST := HD.out.got hkp hpt (Nat.le_refl _) hR
  have hz30 : w22.heap.size ≤ w30.heap.size := hkp.size_le
  unfold nodeV
  clear hkp hpt hR he HD HR0 hS0 x0 x1 x2 x3 x4 x5 xf n0 n1 n2 n3 n4 n5 nf
  have hyz : w1.heap.size + 2 ≤ w30.heap.size := lt_of_heap HST.h0
  obtain ⟨n0, n1, n2, n3, n4, n5, nf⟩ := cells6 HST.h0
  refine hK.out _ _ (fun _ => ⟨XS_of HST.h2, XZ_of HST.h1⟩) ?_
  clear hK K
  have HA := (HST.made2 (by (try simp only [World.size_setCell]); omega) (by (try simp only [World.size_setCell]); omega))
  try simp only [World.size_setCell] at HA
  have HB1 := (HST.set hc (by omega) (by simp <;> omega) 0 (.string ⟨#[114, 101, 115, 117, 108, 116]⟩))
  have HC := ((HST.set hc (by omega) (by simp <;> omega) 0 (.string ⟨#[114, 101, 115, 117, 108, 116]⟩)).made2 (by (try simp only [World.size_setCell]); omega) (by (try simp only [World.size_setCell]); omega))
  try simp only [World.size_setCell] at HC
  have HE9 := (((HST.set hc (by omega) (by simp <;> omega) 0 (.string ⟨#[114, 101, 115, 117, 108, 116]⟩)).set hc (by omega) (by simp <;> omega) 5 (.slice (some ⟨w30.heap.size, 0, none⟩) 2 2)).made2 (by (try simp only [World.size_setCell]); omega) (by (try simp only [World.size_setCell]); omega))
  try simp only [World.size_setCell] at HE9
  refine wpAnyK_two (i := 5) (j := 7) (by kernel_rfl) rfl rfl (fun K hK => ?_) (fun K hK => ?_)
  ·
   go_simp
   try go_wp2_with fail
   refine hK.out _ _ (fun _ => ⟨XS_of HA.h2, XZ_of HA.h1⟩) ?_
   clear hK K
   refine wpAnyK_one (i := 7) (by kernel_rfl) rfl (fun K hK => ?_)
   go_simp
   try go_wp2_with fail
   refine hK.out _ _ (fun _ => ⟨XS_of HC.h2, XZ_of HC.h1⟩) ?_
   clear hK K
   refine wpAnyK_one (i := 8) (by kernel_rfl) rfl (fun K hK => ?_)
   go_simp
   try go_wp2_with fail
   refine hK.out _ _ (fun _ => ⟨XS_of HC.h2, XZ_of HC.h1⟩) ?_
   clear hK K
   refine wpAnyK_one (i := 9) (by kernel_rfl) rfl (fun K hK => ?_)
   go_simp
   try go_wp2_with fail
   refine hK.out _ _ (fun _ => ⟨XS_of HE9.h2, XZ_of HE9.h1⟩) ?_
   clear hK K
   refine wpAnyK_done (by kernel_rfl) ?_ _
   clear HST HA HB1 HC n0 n1 n2 n3 n4 n5 nf
   have hz31 : w30.heap.size ≤ (((w30.setCell ⟨w1.heap.size + 1, 0, none⟩ (.string ⟨#[114, 101, 115, 117, 108, 116]⟩)).setCell ⟨w1.heap.size + 1, 5, none⟩ (.slice (some ⟨w30.heap.size, 0, none⟩) 2 2)).alloc (.cells #[.string y.kind, .string y.text, .int .u64 y.num, .int .i64 y.line, .int .i64 y.col, .slice Ay y.kids.length capy, .string u.kind, .string u.text, .int .u64 u.num, .int .i64 u.line, .int .i64 u.col, .slice Au u.kids.length capu] 26)).heap.size := by simp only [WZ]; omega
   revert HE9 hz31
   generalize ((w30.setCell ⟨w1.heap.size + 1, 0, none⟩ (.string ⟨#[114, 101, 115, 117, 108, 116]⟩)).setCell ⟨w1.heap.size + 1, 5, none⟩ (.slice (some ⟨w30.heap.size, 0, none⟩) 2 2)).alloc (.cells #[.string y.kind, .string y.text, .int .u64 y.num, .int .i64 y.line, .int .i64 y.col, .slice Ay y.kids.length capy, .string u.kind, .string u.text, .int .u64 u.num, .int .i64 u.line, .int .i64 u.col, .slice Au u.kids.length capu] 26) = w31
   intro HE9 hz31
   have HS40 := hid HE9.swap.drop
   clear HE9
   have hy31 : w1.heap.size + 2 ≤ w31.heap.size := lt_of_heap HS40.out.h0
   obtain ⟨x0, x1, x2, x3, x4, x5, xf⟩ := cells6 HS40.out.h1
   obtain ⟨n0, n1, n2, n3, n4, n5, nf⟩ := cells6 HS40.out.h0
   go_wp2_with fail
   refine cmo (need_calls c hc _ (ts6) ⟨#[59]⟩ HS40.out.ps) ?_
   rintro e9 w32 ⟨hkp, hp9⟩
   rcases bnd_some HB6.out with ⟨l, k, er, he, rfl⟩ | ⟨t9, ts9, he, hB9⟩
   ·
    rw [Option.some.inj he] at hp9
    subst hp9
    exact ⟨rfl, HS40.out.kp.trans hkp, rfl⟩
   ·
    rw [Option.some.inj he] at hp9
    obtain ⟨rfl, hps9⟩ := hp9
    have HB9 := hid hB9
    clear hB9
    have HS41 := hid (HS40.out.call hkp hps9)
    clear HS40
    have hz32 := hkp.size_le
    try simp only [WZ] at hz32
    clear hkp hps9 he HB6
    have hy32 : w1.heap.size + 2 ≤ w32.heap.size := lt_of_heap HS41.out.h0
    clear x0 x1 x2 x3 x4 x5 xf n0 n1 n2 n3 n4 n5 nf
    obtain ⟨x0, x1, x2, x3, x4, x5, xf⟩ := cells6 HS41.out.h1
    obtain ⟨n0, n1, n2, n3, n4, n5, nf⟩ := cells6 HS41.out.h0
    obtain ⟨r0, r1, r2, r3, r4, r5, rf⟩ := cells6 HS41.out.h2
    go_wp2_with fail
    rw [(Option.some.inj HB9.out).symm]
    exact ret_sta hc (n := ⟨⟨#[114, 101, 115, 117, 108, 116]⟩, ⟨#[]⟩, 0, x.line, x.col, [y, u]⟩) (A := some ⟨w30.heap.size, 0, none⟩) (cap := 2) (base := w2.heap.size) Tryz.results104 (by rfl) (HS41.out.rot) (by omega) (by omega) (by simp <;> omega)
  ·
   go_simp
   try go_wp2_with fail
   refine hK.out _ _ (fun _ => ⟨XS_of HB1.h2, XZ_of HB1.h1⟩) ?_
   clear hK K
   refine wpAnyK_one (i := 5) (by kernel_rfl) rfl (fun K hK => ?_)
   go_simp
   try go_wp2_with fail
   refine hK.out _ _ (fun _ => ⟨XS_of HC.h2, XZ_of HC.h1⟩) ?_
   clear hK K
   refine wpAnyK_one (i := 8) (by kernel_rfl) rfl (fun K hK => ?_)
   go_simp
   try go_wp2_with fail
   refine hK.out _ _ (fun _ => ⟨XS_of HC.h2, XZ_of HC.h1⟩) ?_
   clear hK K
   refine wpAnyK_one (i := 9) (by kernel_rfl) rfl (fun K hK => ?_)
   go_simp
   try go_wp2_with fail
   refine hK.out _ _ (fun _ => ⟨XS_of HE9.h2, XZ_of HE9.h1⟩) ?_
   clear hK K
   refine wpAnyK_done (by kernel_rfl) ?_ _
   clear HST HA HB1 HC n0 n1 n2 n3 n4 n5 nf
   have hz31 : w30.heap.size ≤ (((w30.setCell ⟨w1.heap.size + 1, 0, none⟩ (.string ⟨#[114, 101, 115, 117, 108, 116]⟩)).setCell ⟨w1.heap.size + 1, 5, none⟩ (.slice (some ⟨w30.heap.size, 0, none⟩) 2 2)).alloc (.cells #[.string y.kind, .string y.text, .int .u64 y.num, .int .i64 y.line, .int .i64 y.col, .slice Ay y.kids.length capy, .string u.kind, .string u.text, .int .u64 u.num, .int .i64 u.line, .int .i64 u.col, .slice Au u.kids.length capu] 26)).heap.size := by simp only [WZ]; omega
   revert HE9 hz31
   generalize ((w30.setCell ⟨w1.heap.size + 1, 0, none⟩ (.string ⟨#[114, 101, 115, 117, 108, 116]⟩)).setCell ⟨w1.heap.size + 1, 5, none⟩ (.slice (some ⟨w30.heap.size, 0, none⟩) 2 2)).alloc (.cells #[.string y.kind, .string y.text, .int .u64 y.num, .int .i64 y.line, .int .i64 y.col, .slice Ay y.kids.length capy, .string u.kind, .string u.text, .int .u64 u.num, .int .i64 u.line, .int .i64 u.col, .slice Au u.kids.length capu] 26) = w31
   intro HE9 hz31
   have HS40 := hid HE9.swap.drop
   clear HE9
   have hy31 : w1.heap.size + 2 ≤ w31.heap.size := lt_of_heap HS40.out.h0
   obtain ⟨x0, x1, x2, x3, x4, x5, xf⟩ := cells6 HS40.out.h1
   obtain ⟨n0, n1, n2, n3, n4, n5, nf⟩ := cells6 HS40.out.h0
   go_wp2_with fail
   refine cmo (need_calls c hc _ (ts6) ⟨#[59]⟩ HS40.out.ps) ?_
   rintro e9 w32 ⟨hkp, hp9⟩
   rcases bnd_some HB6.out with ⟨l, k, er, he, rfl⟩ | ⟨t9, ts9, he, hB9⟩
   ·
    rw [Option.some.inj he] at hp9
    subst hp9
    exact ⟨rfl, HS40.out.kp.trans hkp, rfl⟩
   ·
    rw [Option.some.inj he] at hp9
    obtain ⟨rfl, hps9⟩ := hp9
    have HB9 := hid hB9
    clear hB9
    have HS41 := hid (HS40.out.call hkp hps9)
    clear HS40
    have hz32 := hkp.size_le
    try simp only [WZ] at hz32
    clear hkp hps9 he HB6
    have hy32 : w1.heap.size + 2 ≤ w32.heap.size := lt_of_heap HS41.out.h0
    clear x0 x1 x2 x3 x4 x5 xf n0 n1 n2 n3 n4 n5 nf
    obtain ⟨x0, x1, x2, x3, x4, x5, xf⟩ := cells6 HS41.out.h1
    obtain ⟨n0, n1, n2, n3, n4, n5, nf⟩ := cells6 HS41.out.h0
    obtain ⟨r0, r1, r2, r3, r4, r5, rf⟩ := cells6 HS41.out.h2
    go_wp2_with fail
    rw [(Option.some.inj HB9.out).symm]
    exact ret_sta hc (n := ⟨⟨#[114, 101, 115, 117, 108, 116]⟩, ⟨#[]⟩, 0, x.line, x.col, [y, u]⟩) (A := some ⟨w30.heap.size, 0, none⟩) (cap := 2) (base := w2.heap.size) Tryz.results104 (by rfl) (HS41.out.rot) (by omega) (by omega) (by simp <;> omega)
theorem tail_two (l : List Tok) (b : Bool) : (!l.isEmpty && ((nowT l).kind == 2 && b)) = ((nowT l).kind == 2 && b) := by
 cases l with
 | nil => rfl
 | cons t l => simp
theorem simple_calls (c : PC) (hc : c.Ok) (g : Nat) (hg : g ≤ 1000000000) (w : World) (d : Int) (ts : List Tok) (r : PR Node) (h : simpleF g d ts = some r) (hps : PS c w ts) (h0 : 0 ≤ d) (h1 : d ≤ 60) : Calls Tryz.prog 104 #[.pointer (some ⟨c.p, 0, none⟩), .int .i64 d] w (PostN c w r) := by
 unfold simpleF at h
 cases hn : nameF ts with
 | bad l k e => exact simple_bads c hc g w d ts r hps h0 h1 (hid (by rw [hn] at h ⊢; exact h))
 | ok x ts2 =>
  rw [hn] at h
  simp only [bnd] at h
  cases b0 : isF ts2 ⟨#[40]⟩
  ·
   rw [b0, if_neg (by decide)] at h
   have h : bnd (indexF g x d ts2) _ = some r := h
   rcases bnd_some h with ⟨l, k, e, he, hr⟩ | ⟨y, ts3, he, h⟩
   · exact simple_bads c hc g w d ts r hps h0 h1 (hid (by rw [hn]; simp only [bnd]; rw [b0, if_neg (by decide), he, hr]))
   have h : bnd (some (needF ts3 ⟨#[61]⟩)) _ = some r := h
   cases hE : needF ts3 ⟨#[61]⟩ with
   | bad l k e => exact simple_bads c hc g w d ts r hps h0 h1 (hid (by rw [hE] at h; rw [hn]; simp only [bnd]; rw [b0, if_neg (by decide), he]; dsimp only; rw [hE]; exact h))
   | ok t2 ts4 =>
    rw [hE] at h
    simp only [bnd, tail_two] at h
    cases b1 : isF ts4 ⟨#[110, 111, 110, 100, 101, 116]⟩
    ·
     rw [b1, if_neg (by decide)] at h
     cases b2 : namedF ts4
     ·
      rw [b2, Bool.false_and, if_neg (by decide)] at h
      exact simple_asg0 c hc g hg w d ts ts2 x r hps h0 h1 (hid hn) b0 ts3 ts4 y t2 (hid he) (hid hE) b1 b2 (hid h)
     ·
      cases b3 : ((nowT ts4.tail).kind == 2)
      ·
       rw [b2, b3, Bool.false_and, Bool.and_false, if_neg (by decide)] at h
       exact simple_asg1 c hc g hg w d ts ts2 x r hps h0 h1 (hid hn) b0 ts3 ts4 y t2 (hid he) (hid hE) b1 b2 b3 (hid h)
      ·
       cases b4 : ((nowT ts4.tail).text.data.toList == [40])
       ·
        rw [b2, b3, b4, Bool.and_false, Bool.and_false, if_neg (by decide)] at h
        exact simple_asg2 c hc g hg w d ts ts2 x r hps h0 h1 (hid hn) b0 ts3 ts4 y t2 (hid he) (hid hE) b1 b2 b3 (by rw [Lib.toList_data]; exact b4) (hid h)
       ·
        rw [b2, b3, b4, Bool.and_true, Bool.and_true, if_pos rfl] at h
        exact simple_result c hc g hg w d ts ts2 x r hps h0 h1 (hid hn) b0 ts3 ts4 y t2 (hid he) (hid hE) b1 b2 b3 (by rw [Lib.toList_data]; exact b4) (hid h)
    ·
     rw [b1, if_pos rfl] at h
     exact simple_nondet c hc g hg w d ts ts2 x r hps h0 h1 (hid hn) b0 ts3 ts4 y t2 (hid he) (hid hE) b1 (hid h)
  ·
   rw [b0, if_pos rfl] at h
   exact simple_call c hc g hg w d ts ts2 x r hps h0 h1 (hid hn) b0 (hid h)
end Go.Proofs.YtdimhoilfopndaaGreatDoor
end
section
namespace Go.Proofs.YtdimhoilfopndaaGreatDoor
open Go.RowKit Go.Proofs.YtdimhoilfopndaaGreatDoorW.PrintWords
section
variable {P : Program} {ops : Array Oper} {md : Region.Mode} {Q : Exit → Act → World → Prop} {S : World → Prop} {late : Nat → Bool}
theorem wp_then {o : Oper} {a : Act} {w : World} {K K2 : Act → World → Prop} (h : o.wp P a w K (Exit.then K2 Q)) : o.wp P a w K Q := by
 unfold Oper.wp at *
 generalize (execOp a.eval o).run P w = r at *
 cases r with
 | ok n w' => cases n <;> exact h
 | halt x w' => cases x <;> exact h
theorem wpAnyK_law {i : Nat} {o : Oper} {fuel : Nat} {listed : Array Bool} {a : Act} {w : World} (hr : Region.ready md ops listed = [i]) (ho : ops[i]? = some o)
  (h : ∀ K' : Act → World → Prop, Shut (∀ a w, (late i = false → S w) → wpAnyK P md ops Q S late fuel (listed.setIfInBounds i true) a w → K' a w) → wpList P ops (Exit.then K' Q) [o] a w) :
  wpAnyK P md ops Q S late (fuel + 1) listed a w := by
 refine ⟨fun h0 => (by rw [hr] at h0; cases h0), fun k hk => ?_⟩
 rw [hr] at hk
 obtain rfl := List.mem_singleton.mp hk
 have h1 := h (fun a' w' => (late k = false → S w') ∧ wpAnyK P md ops Q S late fuel (listed.setIfInBounds k true) a' w') (fun a w hS hW => ⟨hS, hW⟩)
 unfold wpList at h1
 unfold wpOp
 rw [ho]
 simp only
 split
 ·
  rename_i hw
  rw [if_pos hw] at h1
  rcases h1 with h1 | ⟨h1, h2⟩
  · exact .inl (wp_then h1)
  · exact .inr ⟨h1, h2⟩
 ·
  rename_i hw
  rw [if_neg hw] at h1
  exact h1
end
set_option maxRecDepth 20000 in
set_option maxHeartbeats 400000 in
theorem block_deep (c : PC) (hc : c.Ok) (w : World) (d : Int) (ts : List Tok) (hps : PS c w ts) (h60 : 60 < d) : Calls Tryz.prog 61 #[.pointer (some ⟨c.p, 0, none⟩), .int .i64 d] w (PostN c w (badAt ts 31)) := by
 have hlt := hps.lt
 have HS1 := hid (Sta.start hps)
 clear hps
 go_enter Tryz.func61, Tryz.ntmps61
 have HS2 := hid (HS1.out.alloc (.cells #[.string ⟨#[]⟩, .string ⟨#[]⟩, .int .u64 0, .int .i64 0, .int .i64 0, .slice none 0 0] 26))
 clear HS1
 go_wp2_with fail
 refine cmo (deep_calls c hc _ ts d HS2.out.ps) ?_
 rintro e9 w1 ⟨hpt, hkt, hd⟩
 unfold deepF at hd
 rw [if_pos (by omega)] at hd
 subst hd
 exact ⟨rfl, HS2.out.kp.trans hkt, rfl⟩
structure BlocksOk (c : PC) (g : Nat) : Prop where
 block : ∀ (w : World) (d : Int) (ts : List Tok) (r : PR Node), blockF g d ts = some r → PS c w ts → 0 ≤ d → d ≤ 61 → Calls Tryz.prog 61 #[.pointer (some ⟨c.p, 0, none⟩), .int .i64 d] w (PostN c w r)
 stmt : ∀ (w : World) (d : Int) (ts : List Tok) (r : PR Node), stmtF g d ts = some r → PS c w ts → 0 ≤ d → d ≤ 60 → Calls Tryz.prog 85 #[.pointer (some ⟨c.p, 0, none⟩), .int .i64 d] w (PostN c w r)
set_option maxRecDepth 20000 in
set_option maxHeartbeats 1600000 in
theorem block_walk (c : PC) (hc : c.Ok) (g : Nat) (hg : g ≤ 1000000000) (IH' : ∀ q, q ≤ g → BlocksOk c q) (w : World) (d : Int) (ts : List Tok) (r : PR Node) (hps : PS c w ts) (h0 : 0 ≤ d) (h60 : ¬ 60 < d) (HB : Hid (bnd (some (needF ts ⟨#[123]⟩)) (fun t r => stmtsF g d t.line t.col [] r) = some r)) : Calls Tryz.prog 61 #[.pointer (some ⟨c.p, 0, none⟩), .int .i64 d] w (PostN c w r) := by
 have hlt := hps.lt
 have HS1 := hid (Sta.start hps)
 clear hps
 go_enter Tryz.func61, Tryz.ntmps61
 have HS2 := hid (HS1.out.alloc (.cells #[.string ⟨#[]⟩, .string ⟨#[]⟩, .int .u64 0, .int .i64 0, .int .i64 0, .slice none 0 0] 26))
 clear HS1
 go_wp2_with fail
 refine cmo (deep_calls c hc _ ts d HS2.out.ps) ?_
 rintro e9 w1 ⟨hpt, hkt, hd⟩
 unfold deepF at hd
 rw [if_neg (by omega)] at hd
 subst hd
 have HS3 := hid (HS2.out.call hkt hpt)
 clear HS2
 have hz1 := hkt.size_le
 simp only [World.size_alloc] at hz1
 clear hkt hpt
 go_wp2_with fail
 refine cmo (need_calls c hc _ (ts) ⟨#[123]⟩ HS3.out.ps) ?_
 rintro e9 w2 ⟨hkp, hp9⟩
 rcases bnd_some HB.out with ⟨l, k, er, he, rfl⟩ | ⟨t, ts2, he, hB9⟩
 ·
  rw [Option.some.inj he] at hp9
  subst hp9
  exact ⟨rfl, HS3.out.kp.trans hkp, rfl⟩
 ·
  rw [Option.some.inj he] at hp9
  obtain ⟨rfl, hps9⟩ := hp9
  have HB2 := hid hB9
  clear hB9
  have HS4 := hid (HS3.out.call hkp hps9)
  clear HS3
  have hz2 := hkp.size_le
  try simp only [WZ] at hz2
  clear hkp hps9 he HB
  rw [show t.val = .agg #[.int .i64 t.kind, .string t.text, .int .u64 t.num, .int .i64 t.line, .int .i64 t.col] from rfl]
  go_wp2_with fail
  have HS5 : Hid (Sta c w ((w2.alloc (.cells #[.int .i64 t.kind, .string t.text, .int .u64 t.num, .int .i64 t.line, .int .i64 t.col] 60)).alloc (.cells #[.string ⟨#[98, 108, 111, 99, 107]⟩, .string ⟨#[]⟩, .int .u64 0, .int .i64 t.line, .int .i64 t.col, .slice none 0 0] 26)) ts2 [(w2.heap.size + 1, (.cells #[.string ⟨#[98, 108, 111, 99, 107]⟩, .string ⟨#[]⟩, .int .u64 0, .int .i64 t.line, .int .i64 t.col, .slice none 0 0] 26)), (w2.heap.size, (.cells #[.int .i64 t.kind, .string t.text, .int .u64 t.num, .int .i64 t.line, .int .i64 t.col] 60)), (w.heap.size, (.cells #[.string ⟨#[]⟩, .string ⟨#[]⟩, .int .u64 0, .int .i64 0, .int .i64 0, .slice none 0 0] 26))] []) := hid (by have h9 := (HS4.out.alloc (.cells #[.int .i64 t.kind, .string t.text, .int .u64 t.num, .int .i64 t.line, .int .i64 t.col] 60)).alloc (.cells #[.string ⟨#[98, 108, 111, 99, 107]⟩, .string ⟨#[]⟩, .int .u64 0, .int .i64 t.line, .int .i64 t.col, .slice none 0 0] 26); rw [World.size_alloc] at h9; exact h9)
  clear HS4
  have HST := HS5.out
  go_loopg [] g (fun q wr => ∃ (l : List Node) (A : Option Addr) (cap : Nat) (ts3 : List Tok), q + l.length ≤ g ∧ Hid (stmtsF q d t.line t.col l ts3 = some r) ∧ w2.heap.size + 2 ≤ wr.heap.size ∧ Hid (Sta c w wr ts3 [(w2.heap.size + 1, (.cells #[.string ⟨#[98, 108, 111, 99, 107]⟩, .string ⟨#[]⟩, .int .u64 0, .int .i64 t.line, .int .i64 t.col, .slice A l.length cap] 26)), (w2.heap.size, (.cells #[.int .i64 t.kind, .string t.text, .int .u64 t.num, .int .i64 t.line, .int .i64 t.col] 60)), (w.heap.size, (.cells #[.string ⟨#[]⟩, .string ⟨#[]⟩, .int .u64 0, .int .i64 0, .int .i64 0, .slice none 0 0] 26))] [(w2.heap.size + 2, .slice A l.length cap, l)]))
  case atStart => exact ⟨[], none, 0, ts2, by simp, HB2, by simp, hid (HST.nil (w2.heap.size + 2) (by omega))⟩
  case round =>
   obtain ⟨l, A, cap, ts3, hq, HL, hzr, HS20⟩ := hrel
   clear HST HB2
   cases gk with
   | zero => exact absurd HL.out (by simp [stmtsF])
   | succ q =>
    have HL2 : Hid ((if isF ts3 ⟨#[125]⟩ then some (.ok ⟨⟨#[98, 108, 111, 99, 107]⟩, ⟨#[]⟩, 0, t.line, t.col, l⟩ ts3.tail) else bnd (stmtF q d ts3) fun n r => stmtsF q d t.line t.col (l ++ [n]) r) = some r) := hid HL.out
    clear HL
    go_wp2_with fail
    refine cmo (take_calls c hc _ ts3 ⟨#[125]⟩ HS20.out.ps) ?_
    rintro e9 w21 ⟨rfl, hpt, hkt⟩
    have hz21 := hkt.size_le
    cases hb : isF ts3 ⟨#[125]⟩
    ·
     have HL3 : Hid (bnd (stmtF q d ts3) (fun n r => stmtsF q d t.line t.col (l ++ [n]) r) = some r) := hid (by have h9 := HL2.out; rw [hb, if_neg (by decide)] at h9; exact h9)
     have hpt2 : PS c w21 ts3 := by rw [hb] at hpt; exact hpt
     have HS21 := hid (HS20.out.call hkt hpt2)
     clear HS20 hpt hkt hpt2 HL2
     obtain ⟨n0, n1, n2, n3, n4, n5, nf⟩ := cells6 HS21.out.h0
     go_wp2_with fail
     obtain ⟨r0, he, hr0⟩ := bnd_some2 HL3.out
     have HR0 := hid hr0
     clear hr0 HL3
     have HD := hid (HS21.out.drew)
     have hd0 : w21.drew.heap.size = w21.heap.size := rfl
     have hS0 : (fun w' : World => w'.cell? ⟨w2.heap.size + 1, 5, none⟩ = some (.slice A l.length cap)) w21.drew := cell_of_heap HD.out.h0 5
     refine wp_region_K (fun w' => w'.cell? ⟨w2.heap.size + 1, 5, none⟩ = some (.slice A l.length cap)) (fun j => j == 8) (by kernel_rfl) ?_
     refine wpAnyK_take (i := 0) (v := ?_) rfl (by kernel_rfl) (by kernel_rfl) (by kernel_rfl) (by kernel_rfl) (fun _ _ _ h => h) (Or.inl ⟨by rfl, ?_⟩) hS0 ?_
     rotate_left
     · intro w9 hSw; (try dsimp only at hSw); go_simp; (try with_reducible rfl)
     try simp only [Act.put, List.setIfInBounds_toArray, List.set_cons_zero, List.set_cons_succ]
     refine wpAnyK_take (i := 1) (v := ?_) rfl (by kernel_rfl) (by kernel_rfl) (by kernel_rfl) (by kernel_rfl) (fun _ _ _ h => h) (Or.inl ⟨by rfl, ?_⟩) hS0 ?_
     rotate_left
     · intro w9 hSw; (try dsimp only at hSw); go_simp; (try with_reducible rfl)
     try simp only [Act.put, List.setIfInBounds_toArray, List.set_cons_zero, List.set_cons_succ]
     refine wpAnyK_take (i := 2) (v := ?_) rfl (by kernel_rfl) (by kernel_rfl) (by kernel_rfl) (by kernel_rfl) (fun _ _ _ h => h) (Or.inl ⟨by rfl, ?_⟩) hS0 ?_
     rotate_left
     · intro w9 hSw; (try dsimp only at hSw); go_simp; (try with_reducible rfl)
     try simp only [Act.put, List.setIfInBounds_toArray, List.set_cons_zero, List.set_cons_succ]
     refine wpAnyK_take (i := 3) (v := ?_) rfl (by kernel_rfl) (by kernel_rfl) (by kernel_rfl) (by kernel_rfl) (fun _ _ _ h => h) (Or.inl ⟨by rfl, ?_⟩) hS0 ?_
     rotate_left
     · intro w9 hSw; (try dsimp only at hSw); go_simp; (try with_reducible rfl)
     try simp only [Act.put, List.setIfInBounds_toArray, List.set_cons_zero, List.set_cons_succ]
     refine wpAnyK_one (i := 4) (by kernel_rfl) rfl (fun K hK => ?_)
     go_simp
     refine cmo ((IH' q (by omega)).stmt _ d _ r0 he HD.out.ps h0 (by omega)) ?_
     rintro e9 w30 ⟨hkp, hp⟩
     rcases r0 with ⟨u, ts6⟩ | ⟨l9, k9, er⟩
     rotate_left
     ·
      have hr9 : r = .bad l9 k9 er := HR0.out
      have hp9 : e9 = wrongE l9 k9 er := hp
      subst hp9
      subst hr9
      exact ⟨rfl, HD.out.kp.trans hkp, rfl⟩
     obtain ⟨hpt, Au, capu, rfl, hR⟩ := hp
     have HB6 : Hid (stmtsF q d t.line t.col (l ++ [u]) ts6 = some r) := hid HR0.out
     have HST := HD.out.got hkp hpt (Nat.le_refl _) hR
     have HVB : ∀ k, (Value.slice A l.length cap).ownBlock = some k → k < w21.drew.heap.size := Kd.R_lt HD.out.r0
     have hz30 : w21.heap.size ≤ w30.heap.size := hkp.size_le
     unfold nodeV
     clear hkp hpt hR he HD HR0 hS0 n0 n1 n2 n3 n4 n5 nf
     refine hK.out _ _ (fun _ => cell_of_heap HST.h0 5) ?_
     clear hK K
     refine wpAnyK_one (i := 5) (by kernel_rfl) rfl (fun K hK => ?_)
     go_simp
     refine hK.out _ _ (fun _ => cell_of_heap (hs_alloc HST.h0 _) 5) ?_
     clear hK K
     refine wpAnyK_law (i := 6) (by kernel_rfl) rfl (fun K hK => ?_)
     refine Kd.R_append kNode (w0 := w30) (W := w30) (w2.heap.size + 2) rfl (.tmp 21) (.tmp 25) 24 26 (.agg #[.string ⟨#[]⟩, .string ⟨#[]⟩, .int .u64 0, .int .i64 0, .int .i64 0, .slice none 0 0]) 80 rfl Tryz.underlying24 node_info rfl (by decide) (by decide) (.slice A l.length cap) l u [.string u.kind, .string u.text, .int .u64 u.num, .int .i64 u.line, .int .i64 u.col, (.slice Au u.kids.length capu)] _ _ rfl rfl (app_M HST) (app_ne HST HVB) (app_fresh HST) HST.r1 (Below.refl _ _) ?aS ?aL ?_
     case aS => omega
     case aL => omega
     intro v9 w9 hR9 _ hg9 _
     have HS40 := hid (Sta.appended hc HST (by omega) hg9 hR9)
     have hz9 : w30.heap.size ≤ w9.heap.size := hg9.size
     clear hR9 hg9
     refine wpList_nil (hK.out _ _ (fun _ => cell_of_heap HS40.out.h0 5) ?_)
     clear hK K
     try simp only [Act.put, List.setIfInBounds_toArray, List.set_cons_zero, List.set_cons_succ]
     obtain ⟨n0, n1, n2, n3, n4, n5, nf⟩ := cells6 HS40.out.h0
     obtain ⟨A9, cap9, rfl⟩ := Kd.R_slice HS40.out.r0
     refine wpAnyK_one (i := 7) (by kernel_rfl) rfl (fun K hK => ?_)
     go_simp
     refine hK.out _ _ (fun _ => cell_of_heap HS40.out.h0 5) ?_
     clear hK K
     refine wpAnyK_one (i := 8) (by kernel_rfl) rfl (fun K hK => ?_)
     go_simp
     try go_wp2_with fail
     refine hK.out _ _ (fun h => absurd h (by decide)) ?_
     clear hK K
     refine wpAnyK_done (by kernel_rfl) ?_ _
     try go_wp2_with fail
     go_roundg q
     case rel => exact ⟨l ++ [u], A9, cap9, ts6, by simp; omega, HB6, by simp only [World.size_setCell]; omega, hid (by have h9 := HS40.out.set hc (by omega) (by simp <;> omega) 5 (.slice A9 (l ++ [u]).length cap9); rw [show (l ++ [u]).length = l.length + 1 by simp] at h9 ⊢; exact h9)⟩
     case measure => omega
    ·
     have HR : Hid (r = .ok ⟨⟨#[98, 108, 111, 99, 107]⟩, ⟨#[]⟩, 0, t.line, t.col, l⟩ ts3.tail) := hid (by have h9 := HL2.out; rw [hb, if_pos rfl] at h9; exact (Option.some.inj h9).symm)
     have hpt2 : PS c w21 ts3.tail := by rw [hb] at hpt; exact hpt
     have HS21 := hid (HS20.out.call hkt hpt2)
     clear HS20 hpt hkt hpt2 HL2
     obtain ⟨n0, n1, n2, n3, n4, n5, nf⟩ := cells6 HS21.out.h0
     obtain ⟨r0, r1, r2, r3, r4, r5, rf⟩ := cells6 HS21.out.h2
     go_wp2_with fail
     rw [HR.out]
     exact ret_sta hc (n := ⟨⟨#[98, 108, 111, 99, 107]⟩, ⟨#[]⟩, 0, t.line, t.col, l⟩) (A := A) (cap := cap) (base := w2.heap.size + 2) Tryz.results61 (by rfl) (HS21.out.rot) (by omega) (by omega) (by simp <;> omega)
end Go.Proofs.YtdimhoilfopndaaGreatDoor
end
section
namespace Go.Proofs.YtdimhoilfopndaaGreatDoor
open Go.RowKit Go.Proofs.YtdimhoilfopndaaGreatDoorW.PrintWords
theorem isF_text {ts : List Tok} {x : ByteArray} (h : isF ts x = true) : (nowT ts).text.data.toList = x.data.toList := by
 simp only [isF, Bool.and_eq_true, beq_iff_eq] at h
 exact h.1
set_option maxRecDepth 20000 in
set_option maxHeartbeats 400000 in
theorem stmt_simple (c : PC) (hc : c.Ok) (g : Nat) (hg : g ≤ 1000000000) (IH : BlocksOk c g) (w : World) (d : Int) (ts : List Tok) (r : PR Node) (t : Tok) (HT : Hid (nowT ts = t)) (hps : PS c w ts) (h0 : 0 ≤ d) (h1 : d ≤ 60) (b0 : isTypeF ts = false) (b1 : namedF ts = true) (HB : Hid (simpleF g d ts = some r)) : Calls Tryz.prog 85 #[.pointer (some ⟨c.p, 0, none⟩), .int .i64 d] w (PostN c w r) := by
 have hlt := hps.lt
 have HS1 := hid (Sta.start hps)
 clear hps
 go_enter Tryz.func85, Tryz.ntmps85
 have HS2 := hid (HS1.out.alloc (.cells #[.string ⟨#[]⟩, .string ⟨#[]⟩, .int .u64 0, .int .i64 0, .int .i64 0, .slice none 0 0] 26))
 clear HS1
 go_wp2_with fail
 refine cmo (now_gives c hc _ ts HS2.out.ps) ?_
 rintro e9 w1 ⟨rfl, hov⟩
 have HS3 := hid (HS2.out.isOv hov)
 clear HS2
 have hz1 := hov.size_le
 simp only [World.size_alloc] at hz1
 clear hov
 rw [HT.out, show t.val = .agg #[.int .i64 t.kind, .string t.text, .int .u64 t.num, .int .i64 t.line, .int .i64 t.col] from rfl]
 go_wp2_with fail
 have HS4 : Hid (Sta c w ((w1.alloc (.cells #[.int .i64 t.kind, .string t.text, .int .u64 t.num, .int .i64 t.line, .int .i64 t.col] 60)).alloc (.cells #[.string t.text, .string ⟨#[]⟩, .int .u64 0, .int .i64 t.line, .int .i64 t.col, .slice none 0 0] 26)) ts [(w1.heap.size + 1, (.cells #[.string t.text, .string ⟨#[]⟩, .int .u64 0, .int .i64 t.line, .int .i64 t.col, .slice none 0 0] 26)), (w1.heap.size, (.cells #[.int .i64 t.kind, .string t.text, .int .u64 t.num, .int .i64 t.line, .int .i64 t.col] 60)), (w.heap.size, (.cells #[.string ⟨#[]⟩, .string ⟨#[]⟩, .int .u64 0, .int .i64 0, .int .i64 0, .slice none 0 0] 26))] []) := hid (by have h9 := (HS3.out.alloc (.cells #[.int .i64 t.kind, .string t.text, .int .u64 t.num, .int .i64 t.line, .int .i64 t.col] 60)).alloc (.cells #[.string t.text, .string ⟨#[]⟩, .int .u64 0, .int .i64 t.line, .int .i64 t.col, .slice none 0 0] 26); rw [World.size_alloc] at h9; exact h9)
 clear HS3
 refine cmo (isType_gives c hc _ (ts) HS4.out.ps) ?_
 rintro e9 w2 ⟨rfl, hov⟩
 rw [b0]
 have HS5 := hid (HS4.out.isOv hov)
 clear HS4
 have hz2 := hov.size_le
 try simp only [WZ] at hz2
 clear hov
 have hy2 : w1.heap.size + 2 ≤ w2.heap.size := lt_of_heap HS5.out.h0
 obtain ⟨n0, n1, n2, n3, n4, n5, nf⟩ := cells6 HS5.out.h0
 obtain ⟨t0, t1, t2, t3, t4, tf⟩ := cells5 HS5.out.h1
 obtain ⟨r0, r1, r2, r3, r4, r5, rf⟩ := cells6 HS5.out.h2
 go_wp2_with fail
 refine cmo (named_gives c hc _ (ts) HS5.out.ps) ?_
 rintro e9 w3 ⟨rfl, hov⟩
 rw [b1]
 have HS6 := hid (HS5.out.isOv hov)
 clear HS5
 have hz3 := hov.size_le
 try simp only [WZ] at hz3
 clear hov
 have hy3 : w1.heap.size + 2 ≤ w3.heap.size := lt_of_heap HS6.out.h0
 clear n0 n1 n2 n3 n4 n5 nf t0 t1 t2 t3 t4 tf r0 r1 r2 r3 r4 r5 rf
 obtain ⟨n0, n1, n2, n3, n4, n5, nf⟩ := cells6 HS6.out.h0
 obtain ⟨t0, t1, t2, t3, t4, tf⟩ := cells5 HS6.out.h1
 obtain ⟨r0, r1, r2, r3, r4, r5, rf⟩ := cells6 HS6.out.h2
 go_wp2_with fail
 refine cmo (simple_calls c hc g hg _ d _ r HB.out HS6.out.ps h0 h1) ?_
 rintro e9 w9 ⟨hkp, hp⟩
 cases r with
 | bad l k er =>
  subst hp
  exact ⟨rfl, HS6.out.kp.trans hkp, rfl⟩
 | ok n tsr =>
  obtain ⟨hpt, A, cap, rfl, hR⟩ := hp
  have HS7 := hid (HS6.out.got hkp hpt (Nat.le_refl _) hR)
  clear HS6
  have hz9 : w3.heap.size ≤ w9.heap.size := hkp.size_le
  clear hkp hpt hR HB
  unfold nodeV
  have hy9 : w1.heap.size + 2 ≤ w9.heap.size := lt_of_heap HS7.out.h0
  clear n0 n1 n2 n3 n4 n5 nf t0 t1 t2 t3 t4 tf r0 r1 r2 r3 r4 r5 rf
  obtain ⟨n0, n1, n2, n3, n4, n5, nf⟩ := cells6 HS7.out.h0
  obtain ⟨t0, t1, t2, t3, t4, tf⟩ := cells5 HS7.out.h1
  obtain ⟨r0, r1, r2, r3, r4, r5, rf⟩ := cells6 HS7.out.h2
  go_wp2_with fail
  exact ret_sta hc (n := n) (A := A) (cap := cap) (base := w3.heap.size) Tryz.results85 (by rfl) (HS7.out.rot) (by omega) (by omega) (by simp <;> omega)
set_option maxRecDepth 20000 in
set_option maxHeartbeats 400000 in
theorem stmt_kind (c : PC) (hc : c.Ok) (g : Nat) (hg : g ≤ 1000000000) (IH : BlocksOk c g) (w : World) (d : Int) (ts : List Tok) (r : PR Node) (t : Tok) (HT : Hid (nowT ts = t)) (hps : PS c w ts) (h0 : 0 ≤ d) (h1 : d ≤ 60) (b0 : isTypeF ts = false) (b1 : namedF ts = false) (bk : (t.kind == 0) = false) (bk2 : (t.kind != 0) = true) (HB : Hid (some (badAt ts 30) = some r)) : Calls Tryz.prog 85 #[.pointer (some ⟨c.p, 0, none⟩), .int .i64 d] w (PostN c w r) := by
 have hlt := hps.lt
 have HS1 := hid (Sta.start hps)
 clear hps
 go_enter Tryz.func85, Tryz.ntmps85
 have HS2 := hid (HS1.out.alloc (.cells #[.string ⟨#[]⟩, .string ⟨#[]⟩, .int .u64 0, .int .i64 0, .int .i64 0, .slice none 0 0] 26))
 clear HS1
 go_wp2_with fail
 refine cmo (now_gives c hc _ ts HS2.out.ps) ?_
 rintro e9 w1 ⟨rfl, hov⟩
 have HS3 := hid (HS2.out.isOv hov)
 clear HS2
 have hz1 := hov.size_le
 simp only [World.size_alloc] at hz1
 clear hov
 rw [HT.out, show t.val = .agg #[.int .i64 t.kind, .string t.text, .int .u64 t.num, .int .i64 t.line, .int .i64 t.col] from rfl]
 go_wp2_with fail
 have HS4 : Hid (Sta c w ((w1.alloc (.cells #[.int .i64 t.kind, .string t.text, .int .u64 t.num, .int .i64 t.line, .int .i64 t.col] 60)).alloc (.cells #[.string t.text, .string ⟨#[]⟩, .int .u64 0, .int .i64 t.line, .int .i64 t.col, .slice none 0 0] 26)) ts [(w1.heap.size + 1, (.cells #[.string t.text, .string ⟨#[]⟩, .int .u64 0, .int .i64 t.line, .int .i64 t.col, .slice none 0 0] 26)), (w1.heap.size, (.cells #[.int .i64 t.kind, .string t.text, .int .u64 t.num, .int .i64 t.line, .int .i64 t.col] 60)), (w.heap.size, (.cells #[.string ⟨#[]⟩, .string ⟨#[]⟩, .int .u64 0, .int .i64 0, .int .i64 0, .slice none 0 0] 26))] []) := hid (by have h9 := (HS3.out.alloc (.cells #[.int .i64 t.kind, .string t.text, .int .u64 t.num, .int .i64 t.line, .int .i64 t.col] 60)).alloc (.cells #[.string t.text, .string ⟨#[]⟩, .int .u64 0, .int .i64 t.line, .int .i64 t.col, .slice none 0 0] 26); rw [World.size_alloc] at h9; exact h9)
 clear HS3
 refine cmo (isType_gives c hc _ (ts) HS4.out.ps) ?_
 rintro e9 w2 ⟨rfl, hov⟩
 rw [b0]
 have HS5 := hid (HS4.out.isOv hov)
 clear HS4
 have hz2 := hov.size_le
 try simp only [WZ] at hz2
 clear hov
 have hy2 : w1.heap.size + 2 ≤ w2.heap.size := lt_of_heap HS5.out.h0
 obtain ⟨n0, n1, n2, n3, n4, n5, nf⟩ := cells6 HS5.out.h0
 obtain ⟨t0, t1, t2, t3, t4, tf⟩ := cells5 HS5.out.h1
 obtain ⟨r0, r1, r2, r3, r4, r5, rf⟩ := cells6 HS5.out.h2
 go_wp2_with fail
 refine cmo (named_gives c hc _ (ts) HS5.out.ps) ?_
 rintro e9 w3 ⟨rfl, hov⟩
 rw [b1]
 have HS6 := hid (HS5.out.isOv hov)
 clear HS5
 have hz3 := hov.size_le
 try simp only [WZ] at hz3
 clear hov
 have hy3 : w1.heap.size + 2 ≤ w3.heap.size := lt_of_heap HS6.out.h0
 clear n0 n1 n2 n3 n4 n5 nf t0 t1 t2 t3 t4 tf r0 r1 r2 r3 r4 r5 rf
 obtain ⟨n0, n1, n2, n3, n4, n5, nf⟩ := cells6 HS6.out.h0
 obtain ⟨t0, t1, t2, t3, t4, tf⟩ := cells5 HS6.out.h1
 obtain ⟨r0, r1, r2, r3, r4, r5, rf⟩ := cells6 HS6.out.h2
 go_wp2_with fail
 refine cmo (give_calls c hc _ ts 30 HS6.out.ps) ?_
 rintro e9 w99 ⟨rfl, hpt, hkp⟩
 rw [(Option.some.inj HB.out).symm]
 exact ⟨rfl, HS6.out.kp.trans hkp, rfl⟩
set_option maxRecDepth 20000 in
set_option maxHeartbeats 400000 in
theorem stmt_none (c : PC) (hc : c.Ok) (g : Nat) (hg : g ≤ 1000000000) (IH : BlocksOk c g) (w : World) (d : Int) (ts : List Tok) (r : PR Node) (t : Tok) (HT : Hid (nowT ts = t)) (hps : PS c w ts) (h0 : 0 ≤ d) (h1 : d ≤ 60) (b0 : isTypeF ts = false) (b1 : namedF ts = false) (bk : (t.kind == 0) = true) (bk2 : (t.kind != 0) = false) (b3 : isF ts ⟨#[105, 102]⟩ = false) (b4 : isF ts ⟨#[119, 104, 105, 108, 101]⟩ = false) (b5 : isF ts ⟨#[114, 101, 116, 117, 114, 110]⟩ = false) (b6 : isF ts ⟨#[97, 115, 115, 101, 114, 116]⟩ = false) (b7 : isF ts ⟨#[97, 115, 115, 117, 109, 101]⟩ = false) (HB : Hid (some (badAt ts 30) = some r)) : Calls Tryz.prog 85 #[.pointer (some ⟨c.p, 0, none⟩), .int .i64 d] w (PostN c w r) := by
 have hlt := hps.lt
 have HS1 := hid (Sta.start hps)
 clear hps
 go_enter Tryz.func85, Tryz.ntmps85
 have HS2 := hid (HS1.out.alloc (.cells #[.string ⟨#[]⟩, .string ⟨#[]⟩, .int .u64 0, .int .i64 0, .int .i64 0, .slice none 0 0] 26))
 clear HS1
 go_wp2_with fail
 refine cmo (now_gives c hc _ ts HS2.out.ps) ?_
 rintro e9 w1 ⟨rfl, hov⟩
 have HS3 := hid (HS2.out.isOv hov)
 clear HS2
 have hz1 := hov.size_le
 simp only [World.size_alloc] at hz1
 clear hov
 rw [HT.out, show t.val = .agg #[.int .i64 t.kind, .string t.text, .int .u64 t.num, .int .i64 t.line, .int .i64 t.col] from rfl]
 go_wp2_with fail
 have HS4 : Hid (Sta c w ((w1.alloc (.cells #[.int .i64 t.kind, .string t.text, .int .u64 t.num, .int .i64 t.line, .int .i64 t.col] 60)).alloc (.cells #[.string t.text, .string ⟨#[]⟩, .int .u64 0, .int .i64 t.line, .int .i64 t.col, .slice none 0 0] 26)) ts [(w1.heap.size + 1, (.cells #[.string t.text, .string ⟨#[]⟩, .int .u64 0, .int .i64 t.line, .int .i64 t.col, .slice none 0 0] 26)), (w1.heap.size, (.cells #[.int .i64 t.kind, .string t.text, .int .u64 t.num, .int .i64 t.line, .int .i64 t.col] 60)), (w.heap.size, (.cells #[.string ⟨#[]⟩, .string ⟨#[]⟩, .int .u64 0, .int .i64 0, .int .i64 0, .slice none 0 0] 26))] []) := hid (by have h9 := (HS3.out.alloc (.cells #[.int .i64 t.kind, .string t.text, .int .u64 t.num, .int .i64 t.line, .int .i64 t.col] 60)).alloc (.cells #[.string t.text, .string ⟨#[]⟩, .int .u64 0, .int .i64 t.line, .int .i64 t.col, .slice none 0 0] 26); rw [World.size_alloc] at h9; exact h9)
 clear HS3
 refine cmo (isType_gives c hc _ (ts) HS4.out.ps) ?_
 rintro e9 w2 ⟨rfl, hov⟩
 rw [b0]
 have HS5 := hid (HS4.out.isOv hov)
 clear HS4
 have hz2 := hov.size_le
 try simp only [WZ] at hz2
 clear hov
 have hy2 : w1.heap.size + 2 ≤ w2.heap.size := lt_of_heap HS5.out.h0
 obtain ⟨n0, n1, n2, n3, n4, n5, nf⟩ := cells6 HS5.out.h0
 obtain ⟨t0, t1, t2, t3, t4, tf⟩ := cells5 HS5.out.h1
 obtain ⟨r0, r1, r2, r3, r4, r5, rf⟩ := cells6 HS5.out.h2
 go_wp2_with fail
 refine cmo (named_gives c hc _ (ts) HS5.out.ps) ?_
 rintro e9 w3 ⟨rfl, hov⟩
 rw [b1]
 have HS6 := hid (HS5.out.isOv hov)
 clear HS5
 have hz3 := hov.size_le
 try simp only [WZ] at hz3
 clear hov
 have hy3 : w1.heap.size + 2 ≤ w3.heap.size := lt_of_heap HS6.out.h0
 clear n0 n1 n2 n3 n4 n5 nf t0 t1 t2 t3 t4 tf r0 r1 r2 r3 r4 r5 rf
 obtain ⟨n0, n1, n2, n3, n4, n5, nf⟩ := cells6 HS6.out.h0
 obtain ⟨t0, t1, t2, t3, t4, tf⟩ := cells5 HS6.out.h1
 obtain ⟨r0, r1, r2, r3, r4, r5, rf⟩ := cells6 HS6.out.h2
 go_wp2_with fail
 refine cmo (take_calls c hc _ (ts) ⟨#[105, 102]⟩ HS6.out.ps) ?_
 rintro e9 w4 ⟨rfl, hpt, hkt⟩
 rw [b3] at hpt ⊢
 have hpt2 : PS c w4 (ts) := hpt
 have HS7 := hid (HS6.out.call hkt hpt2)
 clear HS6
 have hz4 := hkt.size_le
 try simp only [WZ] at hz4
 clear hpt hkt hpt2
 have hy4 : w1.heap.size + 2 ≤ w4.heap.size := lt_of_heap HS7.out.h0
 clear n0 n1 n2 n3 n4 n5 nf t0 t1 t2 t3 t4 tf r0 r1 r2 r3 r4 r5 rf
 obtain ⟨n0, n1, n2, n3, n4, n5, nf⟩ := cells6 HS7.out.h0
 obtain ⟨t0, t1, t2, t3, t4, tf⟩ := cells5 HS7.out.h1
 obtain ⟨r0, r1, r2, r3, r4, r5, rf⟩ := cells6 HS7.out.h2
 go_wp2_with fail
 refine cmo (take_calls c hc _ (ts) ⟨#[119, 104, 105, 108, 101]⟩ HS7.out.ps) ?_
 rintro e9 w5 ⟨rfl, hpt, hkt⟩
 rw [b4] at hpt ⊢
 have hpt2 : PS c w5 (ts) := hpt
 have HS8 := hid (HS7.out.call hkt hpt2)
 clear HS7
 have hz5 := hkt.size_le
 try simp only [WZ] at hz5
 clear hpt hkt hpt2
 have hy5 : w1.heap.size + 2 ≤ w5.heap.size := lt_of_heap HS8.out.h0
 clear n0 n1 n2 n3 n4 n5 nf t0 t1 t2 t3 t4 tf r0 r1 r2 r3 r4 r5 rf
 obtain ⟨n0, n1, n2, n3, n4, n5, nf⟩ := cells6 HS8.out.h0
 obtain ⟨t0, t1, t2, t3, t4, tf⟩ := cells5 HS8.out.h1
 obtain ⟨r0, r1, r2, r3, r4, r5, rf⟩ := cells6 HS8.out.h2
 go_wp2_with fail
 refine cmo (take_calls c hc _ (ts) ⟨#[114, 101, 116, 117, 114, 110]⟩ HS8.out.ps) ?_
 rintro e9 w6 ⟨rfl, hpt, hkt⟩
 rw [b5] at hpt ⊢
 have hpt2 : PS c w6 (ts) := hpt
 have HS9 := hid (HS8.out.call hkt hpt2)
 clear HS8
 have hz6 := hkt.size_le
 try simp only [WZ] at hz6
 clear hpt hkt hpt2
 have hy6 : w1.heap.size + 2 ≤ w6.heap.size := lt_of_heap HS9.out.h0
 clear n0 n1 n2 n3 n4 n5 nf t0 t1 t2 t3 t4 tf r0 r1 r2 r3 r4 r5 rf
 obtain ⟨n0, n1, n2, n3, n4, n5, nf⟩ := cells6 HS9.out.h0
 obtain ⟨t0, t1, t2, t3, t4, tf⟩ := cells5 HS9.out.h1
 obtain ⟨r0, r1, r2, r3, r4, r5, rf⟩ := cells6 HS9.out.h2
 go_wp2_with fail
 refine cmo (take_calls c hc _ (ts) ⟨#[97, 115, 115, 101, 114, 116]⟩ HS9.out.ps) ?_
 rintro e9 w7 ⟨rfl, hpt, hkt⟩
 rw [b6] at hpt ⊢
 have hpt2 : PS c w7 (ts) := hpt
 have HS10 := hid (HS9.out.call hkt hpt2)
 clear HS9
 have hz7 := hkt.size_le
 try simp only [WZ] at hz7
 clear hpt hkt hpt2
 have hy7 : w1.heap.size + 2 ≤ w7.heap.size := lt_of_heap HS10.out.h0
 clear n0 n1 n2 n3 n4 n5 nf t0 t1 t2 t3 t4 tf r0 r1 r2 r3 r4 r5 rf
 obtain ⟨n0, n1, n2, n3, n4, n5, nf⟩ := cells6 HS10.out.h0
 obtain ⟨t0, t1, t2, t3, t4, tf⟩ := cells5 HS10.out.h1
 obtain ⟨r0, r1, r2, r3, r4, r5, rf⟩ := cells6 HS10.out.h2
 go_wp2_with fail
 refine cmo (take_calls c hc _ (ts) ⟨#[97, 115, 115, 117, 109, 101]⟩ HS10.out.ps) ?_
 rintro e9 w8 ⟨rfl, hpt, hkt⟩
 rw [b7] at hpt ⊢
 have hpt2 : PS c w8 (ts) := hpt
 have HS11 := hid (HS10.out.call hkt hpt2)
 clear HS10
 have hz8 := hkt.size_le
 try simp only [WZ] at hz8
 clear hpt hkt hpt2
 have hy8 : w1.heap.size + 2 ≤ w8.heap.size := lt_of_heap HS11.out.h0
 clear n0 n1 n2 n3 n4 n5 nf t0 t1 t2 t3 t4 tf r0 r1 r2 r3 r4 r5 rf
 obtain ⟨n0, n1, n2, n3, n4, n5, nf⟩ := cells6 HS11.out.h0
 obtain ⟨t0, t1, t2, t3, t4, tf⟩ := cells5 HS11.out.h1
 obtain ⟨r0, r1, r2, r3, r4, r5, rf⟩ := cells6 HS11.out.h2
 go_wp2_with fail
 refine cmo (give_calls c hc _ ts 30 HS11.out.ps) ?_
 rintro e9 w99 ⟨rfl, hpt, hkp⟩
 rw [(Option.some.inj HB.out).symm]
 exact ⟨rfl, HS11.out.kp.trans hkp, rfl⟩
set_option maxRecDepth 20000 in
set_option maxHeartbeats 400000 in
theorem stmt_assert (c : PC) (hc : c.Ok) (g : Nat) (hg : g ≤ 1000000000) (IH : BlocksOk c g) (w : World) (d : Int) (ts : List Tok) (r : PR Node) (t : Tok) (HT : Hid (nowT ts = t)) (hps : PS c w ts) (h0 : 0 ≤ d) (h1 : d ≤ 60) (b0 : isTypeF ts = false) (b1 : namedF ts = false) (bk : (t.kind == 0) = true) (bk2 : (t.kind != 0) = false) (b3 : isF ts ⟨#[105, 102]⟩ = false) (b4 : isF ts ⟨#[119, 104, 105, 108, 101]⟩ = false) (b5 : isF ts ⟨#[114, 101, 116, 117, 114, 110]⟩ = false) (b6 : isF ts ⟨#[97, 115, 115, 101, 114, 116]⟩ = true) (HB : Hid (bnd (condF g d ts.tail) (fun a r => semiF ⟨t.text, ⟨#[]⟩, 0, t.line, t.col, [a]⟩ r) = some r)) : Calls Tryz.prog 85 #[.pointer (some ⟨c.p, 0, none⟩), .int .i64 d] w (PostN c w r) := by
 have hlt := hps.lt
 have HS1 := hid (Sta.start hps)
 clear hps
 go_enter Tryz.func85, Tryz.ntmps85
 have HS2 := hid (HS1.out.alloc (.cells #[.string ⟨#[]⟩, .string ⟨#[]⟩, .int .u64 0, .int .i64 0, .int .i64 0, .slice none 0 0] 26))
 clear HS1
 go_wp2_with fail
 refine cmo (now_gives c hc _ ts HS2.out.ps) ?_
 rintro e9 w1 ⟨rfl, hov⟩
 have HS3 := hid (HS2.out.isOv hov)
 clear HS2
 have hz1 := hov.size_le
 simp only [World.size_alloc] at hz1
 clear hov
 rw [HT.out, show t.val = .agg #[.int .i64 t.kind, .string t.text, .int .u64 t.num, .int .i64 t.line, .int .i64 t.col] from rfl]
 go_wp2_with fail
 have HS4 : Hid (Sta c w ((w1.alloc (.cells #[.int .i64 t.kind, .string t.text, .int .u64 t.num, .int .i64 t.line, .int .i64 t.col] 60)).alloc (.cells #[.string t.text, .string ⟨#[]⟩, .int .u64 0, .int .i64 t.line, .int .i64 t.col, .slice none 0 0] 26)) ts [(w1.heap.size + 1, (.cells #[.string t.text, .string ⟨#[]⟩, .int .u64 0, .int .i64 t.line, .int .i64 t.col, .slice none 0 0] 26)), (w1.heap.size, (.cells #[.int .i64 t.kind, .string t.text, .int .u64 t.num, .int .i64 t.line, .int .i64 t.col] 60)), (w.heap.size, (.cells #[.string ⟨#[]⟩, .string ⟨#[]⟩, .int .u64 0, .int .i64 0, .int .i64 0, .slice none 0 0] 26))] []) := hid (by have h9 := (HS3.out.alloc (.cells #[.int .i64 t.kind, .string t.text, .int .u64 t.num, .int .i64 t.line, .int .i64 t.col] 60)).alloc (.cells #[.string t.text, .string ⟨#[]⟩, .int .u64 0, .int .i64 t.line, .int .i64 t.col, .slice none 0 0] 26); rw [World.size_alloc] at h9; exact h9)
 clear HS3
 refine cmo (isType_gives c hc _ (ts) HS4.out.ps) ?_
 rintro e9 w2 ⟨rfl, hov⟩
 rw [b0]
 have HS5 := hid (HS4.out.isOv hov)
 clear HS4
 have hz2 := hov.size_le
 try simp only [WZ] at hz2
 clear hov
 have hy2 : w1.heap.size + 2 ≤ w2.heap.size := lt_of_heap HS5.out.h0
 obtain ⟨n0, n1, n2, n3, n4, n5, nf⟩ := cells6 HS5.out.h0
 obtain ⟨t0, t1, t2, t3, t4, tf⟩ := cells5 HS5.out.h1
 obtain ⟨r0, r1, r2, r3, r4, r5, rf⟩ := cells6 HS5.out.h2
 go_wp2_with fail
 refine cmo (named_gives c hc _ (ts) HS5.out.ps) ?_
 rintro e9 w3 ⟨rfl, hov⟩
 rw [b1]
 have HS6 := hid (HS5.out.isOv hov)
 clear HS5
 have hz3 := hov.size_le
 try simp only [WZ] at hz3
 clear hov
 have hy3 : w1.heap.size + 2 ≤ w3.heap.size := lt_of_heap HS6.out.h0
 clear n0 n1 n2 n3 n4 n5 nf t0 t1 t2 t3 t4 tf r0 r1 r2 r3 r4 r5 rf
 obtain ⟨n0, n1, n2, n3, n4, n5, nf⟩ := cells6 HS6.out.h0
 obtain ⟨t0, t1, t2, t3, t4, tf⟩ := cells5 HS6.out.h1
 obtain ⟨r0, r1, r2, r3, r4, r5, rf⟩ := cells6 HS6.out.h2
 go_wp2_with fail
 refine cmo (take_calls c hc _ (ts) ⟨#[105, 102]⟩ HS6.out.ps) ?_
 rintro e9 w4 ⟨rfl, hpt, hkt⟩
 rw [b3] at hpt ⊢
 have hpt2 : PS c w4 (ts) := hpt
 have HS7 := hid (HS6.out.call hkt hpt2)
 clear HS6
 have hz4 := hkt.size_le
 try simp only [WZ] at hz4
 clear hpt hkt hpt2
 have hy4 : w1.heap.size + 2 ≤ w4.heap.size := lt_of_heap HS7.out.h0
 clear n0 n1 n2 n3 n4 n5 nf t0 t1 t2 t3 t4 tf r0 r1 r2 r3 r4 r5 rf
 obtain ⟨n0, n1, n2, n3, n4, n5, nf⟩ := cells6 HS7.out.h0
 obtain ⟨t0, t1, t2, t3, t4, tf⟩ := cells5 HS7.out.h1
 obtain ⟨r0, r1, r2, r3, r4, r5, rf⟩ := cells6 HS7.out.h2
 go_wp2_with fail
 refine cmo (take_calls c hc _ (ts) ⟨#[119, 104, 105, 108, 101]⟩ HS7.out.ps) ?_
 rintro e9 w5 ⟨rfl, hpt, hkt⟩
 rw [b4] at hpt ⊢
 have hpt2 : PS c w5 (ts) := hpt
 have HS8 := hid (HS7.out.call hkt hpt2)
 clear HS7
 have hz5 := hkt.size_le
 try simp only [WZ] at hz5
 clear hpt hkt hpt2
 have hy5 : w1.heap.size + 2 ≤ w5.heap.size := lt_of_heap HS8.out.h0
 clear n0 n1 n2 n3 n4 n5 nf t0 t1 t2 t3 t4 tf r0 r1 r2 r3 r4 r5 rf
 obtain ⟨n0, n1, n2, n3, n4, n5, nf⟩ := cells6 HS8.out.h0
 obtain ⟨t0, t1, t2, t3, t4, tf⟩ := cells5 HS8.out.h1
 obtain ⟨r0, r1, r2, r3, r4, r5, rf⟩ := cells6 HS8.out.h2
 go_wp2_with fail
 refine cmo (take_calls c hc _ (ts) ⟨#[114, 101, 116, 117, 114, 110]⟩ HS8.out.ps) ?_
 rintro e9 w6 ⟨rfl, hpt, hkt⟩
 rw [b5] at hpt ⊢
 have hpt2 : PS c w6 (ts) := hpt
 have HS9 := hid (HS8.out.call hkt hpt2)
 clear HS8
 have hz6 := hkt.size_le
 try simp only [WZ] at hz6
 clear hpt hkt hpt2
 have hy6 : w1.heap.size + 2 ≤ w6.heap.size := lt_of_heap HS9.out.h0
 clear n0 n1 n2 n3 n4 n5 nf t0 t1 t2 t3 t4 tf r0 r1 r2 r3 r4 r5 rf
 obtain ⟨n0, n1, n2, n3, n4, n5, nf⟩ := cells6 HS9.out.h0
 obtain ⟨t0, t1, t2, t3, t4, tf⟩ := cells5 HS9.out.h1
 obtain ⟨r0, r1, r2, r3, r4, r5, rf⟩ := cells6 HS9.out.h2
 go_wp2_with fail
 refine cmo (take_calls c hc _ (ts) ⟨#[97, 115, 115, 101, 114, 116]⟩ HS9.out.ps) ?_
 rintro e9 w7 ⟨rfl, hpt, hkt⟩
 rw [b6] at hpt ⊢
 have hpt2 : PS c w7 (ts.tail) := hpt
 have HS10 := hid (HS9.out.call hkt hpt2)
 clear HS9
 have hz7 := hkt.size_le
 try simp only [WZ] at hz7
 clear hpt hkt hpt2
 have hy7 : w1.heap.size + 2 ≤ w7.heap.size := lt_of_heap HS10.out.h0
 clear n0 n1 n2 n3 n4 n5 nf t0 t1 t2 t3 t4 tf r0 r1 r2 r3 r4 r5 rf
 obtain ⟨n0, n1, n2, n3, n4, n5, nf⟩ := cells6 HS10.out.h0
 obtain ⟨t0, t1, t2, t3, t4, tf⟩ := cells5 HS10.out.h1
 obtain ⟨r0, r1, r2, r3, r4, r5, rf⟩ := cells6 HS10.out.h2
 go_wp2_with fail
 rcases bnd_some HB.out with ⟨l, k, er, he, rfl⟩ | ⟨a, ts2, he, hB9⟩
 ·
  refine cmo (condition_calls c hc g _ d _ _ he HS10.out.ps h0 h1) ?_
  rintro e9 w99 ⟨hkp, rfl⟩
  exact ⟨rfl, HS10.out.kp.trans hkp, rfl⟩
 ·
  have HB2 := hid hB9
  clear hB9
  refine cmo (condition_calls c hc g _ d _ _ he HS10.out.ps h0 h1) ?_
  clear he
  rintro e9 w8 ⟨hkp, hpt, Aa, capa, rfl, hR⟩
  have HS11 := hid (HS10.out.got hkp hpt (Nat.le_refl _) hR)
  clear HS10
  have hz8 := hkp.size_le
  try simp only [WZ] at hz8
  unfold nodeV
  clear hkp hpt hR HB
  have hy8 : w1.heap.size + 2 ≤ w8.heap.size := lt_of_heap HS11.out.h0
  clear n0 n1 n2 n3 n4 n5 nf t0 t1 t2 t3 t4 tf r0 r1 r2 r3 r4 r5 rf
  obtain ⟨n0, n1, n2, n3, n4, n5, nf⟩ := cells6 HS11.out.h0
  obtain ⟨t0, t1, t2, t3, t4, tf⟩ := cells5 HS11.out.h1
  obtain ⟨r0, r1, r2, r3, r4, r5, rf⟩ := cells6 HS11.out.h2
  go_wp2_with fail
  have HS12 := hid ((HS11.out.made1 (by omega)).set hc (by omega) (by simp <;> omega) 5 (.slice (some ⟨w8.heap.size, 0, none⟩) 1 1))
  clear HS11
  refine cmo (need_calls c hc _ (ts2) ⟨#[59]⟩ HS12.out.ps) ?_
  rintro e9 w9 ⟨hkp, hp9⟩
  rcases bnd_some HB2.out with ⟨l, k, er, he, rfl⟩ | ⟨t9, ts3, he, hB9⟩
  ·
   rw [Option.some.inj he] at hp9
   subst hp9
   exact ⟨rfl, HS12.out.kp.trans hkp, rfl⟩
  ·
   rw [Option.some.inj he] at hp9
   obtain ⟨rfl, hps9⟩ := hp9
   have HB3 := hid hB9
   clear hB9
   have HS13 := hid (HS12.out.call hkp hps9)
   clear HS12
   have hz9 := hkp.size_le
   try simp only [WZ] at hz9
   clear hkp hps9 he HB2
   have hy9 : w1.heap.size + 2 ≤ w9.heap.size := lt_of_heap HS13.out.h0
   clear n0 n1 n2 n3 n4 n5 nf t0 t1 t2 t3 t4 tf r0 r1 r2 r3 r4 r5 rf
   obtain ⟨n0, n1, n2, n3, n4, n5, nf⟩ := cells6 HS13.out.h0
   obtain ⟨t0, t1, t2, t3, t4, tf⟩ := cells5 HS13.out.h1
   obtain ⟨r0, r1, r2, r3, r4, r5, rf⟩ := cells6 HS13.out.h2
   go_wp2_with fail
   rw [(Option.some.inj HB3.out).symm]
   exact ret_sta hc (n := ⟨t.text, ⟨#[]⟩, 0, t.line, t.col, [a]⟩) (A := some ⟨w8.heap.size, 0, none⟩) (cap := 1) (base := w7.heap.size) Tryz.results85 (by rfl) (HS13.out.rot) (by omega) (by omega) (by simp <;> omega)
set_option maxRecDepth 20000 in
set_option maxHeartbeats 400000 in
theorem stmt_assume (c : PC) (hc : c.Ok) (g : Nat) (hg : g ≤ 1000000000) (IH : BlocksOk c g) (w : World) (d : Int) (ts : List Tok) (r : PR Node) (t : Tok) (HT : Hid (nowT ts = t)) (hps : PS c w ts) (h0 : 0 ≤ d) (h1 : d ≤ 60) (b0 : isTypeF ts = false) (b1 : namedF ts = false) (bk : (t.kind == 0) = true) (bk2 : (t.kind != 0) = false) (b3 : isF ts ⟨#[105, 102]⟩ = false) (b4 : isF ts ⟨#[119, 104, 105, 108, 101]⟩ = false) (b5 : isF ts ⟨#[114, 101, 116, 117, 114, 110]⟩ = false) (b6 : isF ts ⟨#[97, 115, 115, 101, 114, 116]⟩ = false) (b7 : isF ts ⟨#[97, 115, 115, 117, 109, 101]⟩ = true) (HB : Hid (bnd (condF g d ts.tail) (fun a r => semiF ⟨t.text, ⟨#[]⟩, 0, t.line, t.col, [a]⟩ r) = some r)) : Calls Tryz.prog 85 #[.pointer (some ⟨c.p, 0, none⟩), .int .i64 d] w (PostN c w r) := by
 have hlt := hps.lt
 have HS1 := hid (Sta.start hps)
 clear hps
 go_enter Tryz.func85, Tryz.ntmps85
 have HS2 := hid (HS1.out.alloc (.cells #[.string ⟨#[]⟩, .string ⟨#[]⟩, .int .u64 0, .int .i64 0, .int .i64 0, .slice none 0 0] 26))
 clear HS1
 go_wp2_with fail
 refine cmo (now_gives c hc _ ts HS2.out.ps) ?_
 rintro e9 w1 ⟨rfl, hov⟩
 have HS3 := hid (HS2.out.isOv hov)
 clear HS2
 have hz1 := hov.size_le
 simp only [World.size_alloc] at hz1
 clear hov
 rw [HT.out, show t.val = .agg #[.int .i64 t.kind, .string t.text, .int .u64 t.num, .int .i64 t.line, .int .i64 t.col] from rfl]
 go_wp2_with fail
 have HS4 : Hid (Sta c w ((w1.alloc (.cells #[.int .i64 t.kind, .string t.text, .int .u64 t.num, .int .i64 t.line, .int .i64 t.col] 60)).alloc (.cells #[.string t.text, .string ⟨#[]⟩, .int .u64 0, .int .i64 t.line, .int .i64 t.col, .slice none 0 0] 26)) ts [(w1.heap.size + 1, (.cells #[.string t.text, .string ⟨#[]⟩, .int .u64 0, .int .i64 t.line, .int .i64 t.col, .slice none 0 0] 26)), (w1.heap.size, (.cells #[.int .i64 t.kind, .string t.text, .int .u64 t.num, .int .i64 t.line, .int .i64 t.col] 60)), (w.heap.size, (.cells #[.string ⟨#[]⟩, .string ⟨#[]⟩, .int .u64 0, .int .i64 0, .int .i64 0, .slice none 0 0] 26))] []) := hid (by have h9 := (HS3.out.alloc (.cells #[.int .i64 t.kind, .string t.text, .int .u64 t.num, .int .i64 t.line, .int .i64 t.col] 60)).alloc (.cells #[.string t.text, .string ⟨#[]⟩, .int .u64 0, .int .i64 t.line, .int .i64 t.col, .slice none 0 0] 26); rw [World.size_alloc] at h9; exact h9)
 clear HS3
 refine cmo (isType_gives c hc _ (ts) HS4.out.ps) ?_
 rintro e9 w2 ⟨rfl, hov⟩
 rw [b0]
 have HS5 := hid (HS4.out.isOv hov)
 clear HS4
 have hz2 := hov.size_le
 try simp only [WZ] at hz2
 clear hov
 have hy2 : w1.heap.size + 2 ≤ w2.heap.size := lt_of_heap HS5.out.h0
 obtain ⟨n0, n1, n2, n3, n4, n5, nf⟩ := cells6 HS5.out.h0
 obtain ⟨t0, t1, t2, t3, t4, tf⟩ := cells5 HS5.out.h1
 obtain ⟨r0, r1, r2, r3, r4, r5, rf⟩ := cells6 HS5.out.h2
 go_wp2_with fail
 refine cmo (named_gives c hc _ (ts) HS5.out.ps) ?_
 rintro e9 w3 ⟨rfl, hov⟩
 rw [b1]
 have HS6 := hid (HS5.out.isOv hov)
 clear HS5
 have hz3 := hov.size_le
 try simp only [WZ] at hz3
 clear hov
 have hy3 : w1.heap.size + 2 ≤ w3.heap.size := lt_of_heap HS6.out.h0
 clear n0 n1 n2 n3 n4 n5 nf t0 t1 t2 t3 t4 tf r0 r1 r2 r3 r4 r5 rf
 obtain ⟨n0, n1, n2, n3, n4, n5, nf⟩ := cells6 HS6.out.h0
 obtain ⟨t0, t1, t2, t3, t4, tf⟩ := cells5 HS6.out.h1
 obtain ⟨r0, r1, r2, r3, r4, r5, rf⟩ := cells6 HS6.out.h2
 go_wp2_with fail
 refine cmo (take_calls c hc _ (ts) ⟨#[105, 102]⟩ HS6.out.ps) ?_
 rintro e9 w4 ⟨rfl, hpt, hkt⟩
 rw [b3] at hpt ⊢
 have hpt2 : PS c w4 (ts) := hpt
 have HS7 := hid (HS6.out.call hkt hpt2)
 clear HS6
 have hz4 := hkt.size_le
 try simp only [WZ] at hz4
 clear hpt hkt hpt2
 have hy4 : w1.heap.size + 2 ≤ w4.heap.size := lt_of_heap HS7.out.h0
 clear n0 n1 n2 n3 n4 n5 nf t0 t1 t2 t3 t4 tf r0 r1 r2 r3 r4 r5 rf
 obtain ⟨n0, n1, n2, n3, n4, n5, nf⟩ := cells6 HS7.out.h0
 obtain ⟨t0, t1, t2, t3, t4, tf⟩ := cells5 HS7.out.h1
 obtain ⟨r0, r1, r2, r3, r4, r5, rf⟩ := cells6 HS7.out.h2
 go_wp2_with fail
 refine cmo (take_calls c hc _ (ts) ⟨#[119, 104, 105, 108, 101]⟩ HS7.out.ps) ?_
 rintro e9 w5 ⟨rfl, hpt, hkt⟩
 rw [b4] at hpt ⊢
 have hpt2 : PS c w5 (ts) := hpt
 have HS8 := hid (HS7.out.call hkt hpt2)
 clear HS7
 have hz5 := hkt.size_le
 try simp only [WZ] at hz5
 clear hpt hkt hpt2
 have hy5 : w1.heap.size + 2 ≤ w5.heap.size := lt_of_heap HS8.out.h0
 clear n0 n1 n2 n3 n4 n5 nf t0 t1 t2 t3 t4 tf r0 r1 r2 r3 r4 r5 rf
 obtain ⟨n0, n1, n2, n3, n4, n5, nf⟩ := cells6 HS8.out.h0
 obtain ⟨t0, t1, t2, t3, t4, tf⟩ := cells5 HS8.out.h1
 obtain ⟨r0, r1, r2, r3, r4, r5, rf⟩ := cells6 HS8.out.h2
 go_wp2_with fail
 refine cmo (take_calls c hc _ (ts) ⟨#[114, 101, 116, 117, 114, 110]⟩ HS8.out.ps) ?_
 rintro e9 w6 ⟨rfl, hpt, hkt⟩
 rw [b5] at hpt ⊢
 have hpt2 : PS c w6 (ts) := hpt
 have HS9 := hid (HS8.out.call hkt hpt2)
 clear HS8
 have hz6 := hkt.size_le
 try simp only [WZ] at hz6
 clear hpt hkt hpt2
 have hy6 : w1.heap.size + 2 ≤ w6.heap.size := lt_of_heap HS9.out.h0
 clear n0 n1 n2 n3 n4 n5 nf t0 t1 t2 t3 t4 tf r0 r1 r2 r3 r4 r5 rf
 obtain ⟨n0, n1, n2, n3, n4, n5, nf⟩ := cells6 HS9.out.h0
 obtain ⟨t0, t1, t2, t3, t4, tf⟩ := cells5 HS9.out.h1
 obtain ⟨r0, r1, r2, r3, r4, r5, rf⟩ := cells6 HS9.out.h2
 go_wp2_with fail
 refine cmo (take_calls c hc _ (ts) ⟨#[97, 115, 115, 101, 114, 116]⟩ HS9.out.ps) ?_
 rintro e9 w7 ⟨rfl, hpt, hkt⟩
 rw [b6] at hpt ⊢
 have hpt2 : PS c w7 (ts) := hpt
 have HS10 := hid (HS9.out.call hkt hpt2)
 clear HS9
 have hz7 := hkt.size_le
 try simp only [WZ] at hz7
 clear hpt hkt hpt2
 have hy7 : w1.heap.size + 2 ≤ w7.heap.size := lt_of_heap HS10.out.h0
 clear n0 n1 n2 n3 n4 n5 nf t0 t1 t2 t3 t4 tf r0 r1 r2 r3 r4 r5 rf
 obtain ⟨n0, n1, n2, n3, n4, n5, nf⟩ := cells6 HS10.out.h0
 obtain ⟨t0, t1, t2, t3, t4, tf⟩ := cells5 HS10.out.h1
 obtain ⟨r0, r1, r2, r3, r4, r5, rf⟩ := cells6 HS10.out.h2
 go_wp2_with fail
 refine cmo (take_calls c hc _ (ts) ⟨#[97, 115, 115, 117, 109, 101]⟩ HS10.out.ps) ?_
 rintro e9 w8 ⟨rfl, hpt, hkt⟩
 rw [b7] at hpt ⊢
 have hpt2 : PS c w8 (ts.tail) := hpt
 have HS11 := hid (HS10.out.call hkt hpt2)
 clear HS10
 have hz8 := hkt.size_le
 try simp only [WZ] at hz8
 clear hpt hkt hpt2
 have hy8 : w1.heap.size + 2 ≤ w8.heap.size := lt_of_heap HS11.out.h0
 clear n0 n1 n2 n3 n4 n5 nf t0 t1 t2 t3 t4 tf r0 r1 r2 r3 r4 r5 rf
 obtain ⟨n0, n1, n2, n3, n4, n5, nf⟩ := cells6 HS11.out.h0
 obtain ⟨t0, t1, t2, t3, t4, tf⟩ := cells5 HS11.out.h1
 obtain ⟨r0, r1, r2, r3, r4, r5, rf⟩ := cells6 HS11.out.h2
 go_wp2_with fail
 rcases bnd_some HB.out with ⟨l, k, er, he, rfl⟩ | ⟨a, ts2, he, hB9⟩
 ·
  refine cmo (condition_calls c hc g _ d _ _ he HS11.out.ps h0 h1) ?_
  rintro e9 w99 ⟨hkp, rfl⟩
  exact ⟨rfl, HS11.out.kp.trans hkp, rfl⟩
 ·
  have HB2 := hid hB9
  clear hB9
  refine cmo (condition_calls c hc g _ d _ _ he HS11.out.ps h0 h1) ?_
  clear he
  rintro e9 w9 ⟨hkp, hpt, Aa, capa, rfl, hR⟩
  have HS12 := hid (HS11.out.got hkp hpt (Nat.le_refl _) hR)
  clear HS11
  have hz9 := hkp.size_le
  try simp only [WZ] at hz9
  unfold nodeV
  clear hkp hpt hR HB
  have hy9 : w1.heap.size + 2 ≤ w9.heap.size := lt_of_heap HS12.out.h0
  clear n0 n1 n2 n3 n4 n5 nf t0 t1 t2 t3 t4 tf r0 r1 r2 r3 r4 r5 rf
  obtain ⟨n0, n1, n2, n3, n4, n5, nf⟩ := cells6 HS12.out.h0
  obtain ⟨t0, t1, t2, t3, t4, tf⟩ := cells5 HS12.out.h1
  obtain ⟨r0, r1, r2, r3, r4, r5, rf⟩ := cells6 HS12.out.h2
  go_wp2_with fail
  have HS13 := hid ((HS12.out.made1 (by omega)).set hc (by omega) (by simp <;> omega) 5 (.slice (some ⟨w9.heap.size, 0, none⟩) 1 1))
  clear HS12
  refine cmo (need_calls c hc _ (ts2) ⟨#[59]⟩ HS13.out.ps) ?_
  rintro e9 w10 ⟨hkp, hp9⟩
  rcases bnd_some HB2.out with ⟨l, k, er, he, rfl⟩ | ⟨t9, ts3, he, hB9⟩
  ·
   rw [Option.some.inj he] at hp9
   subst hp9
   exact ⟨rfl, HS13.out.kp.trans hkp, rfl⟩
  ·
   rw [Option.some.inj he] at hp9
   obtain ⟨rfl, hps9⟩ := hp9
   have HB3 := hid hB9
   clear hB9
   have HS14 := hid (HS13.out.call hkp hps9)
   clear HS13
   have hz10 := hkp.size_le
   try simp only [WZ] at hz10
   clear hkp hps9 he HB2
   have hy10 : w1.heap.size + 2 ≤ w10.heap.size := lt_of_heap HS14.out.h0
   clear n0 n1 n2 n3 n4 n5 nf t0 t1 t2 t3 t4 tf r0 r1 r2 r3 r4 r5 rf
   obtain ⟨n0, n1, n2, n3, n4, n5, nf⟩ := cells6 HS14.out.h0
   obtain ⟨t0, t1, t2, t3, t4, tf⟩ := cells5 HS14.out.h1
   obtain ⟨r0, r1, r2, r3, r4, r5, rf⟩ := cells6 HS14.out.h2
   go_wp2_with fail
   rw [(Option.some.inj HB3.out).symm]
   exact ret_sta hc (n := ⟨t.text, ⟨#[]⟩, 0, t.line, t.col, [a]⟩) (A := some ⟨w9.heap.size, 0, none⟩) (cap := 1) (base := w8.heap.size) Tryz.results85 (by rfl) (HS14.out.rot) (by omega) (by omega) (by simp <;> omega)
set_option maxRecDepth 20000 in
set_option maxHeartbeats 400000 in
theorem stmt_ret0 (c : PC) (hc : c.Ok) (g : Nat) (hg : g ≤ 1000000000) (IH : BlocksOk c g) (w : World) (d : Int) (ts : List Tok) (r : PR Node) (t : Tok) (HT : Hid (nowT ts = t)) (hps : PS c w ts) (h0 : 0 ≤ d) (h1 : d ≤ 60) (b0 : isTypeF ts = false) (b1 : namedF ts = false) (bk : (t.kind == 0) = true) (bk2 : (t.kind != 0) = false) (b3 : isF ts ⟨#[105, 102]⟩ = false) (b4 : isF ts ⟨#[119, 104, 105, 108, 101]⟩ = false) (b5 : isF ts ⟨#[114, 101, 116, 117, 114, 110]⟩ = true) (bs : isF ts.tail ⟨#[59]⟩ = true) (HB : Hid (semiF ⟨t.text, ⟨#[]⟩, 0, t.line, t.col, []⟩ ts.tail = some r)) : Calls Tryz.prog 85 #[.pointer (some ⟨c.p, 0, none⟩), .int .i64 d] w (PostN c w r) := by
 have hlt := hps.lt
 have HS1 := hid (Sta.start hps)
 clear hps
 go_enter Tryz.func85, Tryz.ntmps85
 have HS2 := hid (HS1.out.alloc (.cells #[.string ⟨#[]⟩, .string ⟨#[]⟩, .int .u64 0, .int .i64 0, .int .i64 0, .slice none 0 0] 26))
 clear HS1
 go_wp2_with fail
 refine cmo (now_gives c hc _ ts HS2.out.ps) ?_
 rintro e9 w1 ⟨rfl, hov⟩
 have HS3 := hid (HS2.out.isOv hov)
 clear HS2
 have hz1 := hov.size_le
 simp only [World.size_alloc] at hz1
 clear hov
 rw [HT.out, show t.val = .agg #[.int .i64 t.kind, .string t.text, .int .u64 t.num, .int .i64 t.line, .int .i64 t.col] from rfl]
 go_wp2_with fail
 have HS4 : Hid (Sta c w ((w1.alloc (.cells #[.int .i64 t.kind, .string t.text, .int .u64 t.num, .int .i64 t.line, .int .i64 t.col] 60)).alloc (.cells #[.string t.text, .string ⟨#[]⟩, .int .u64 0, .int .i64 t.line, .int .i64 t.col, .slice none 0 0] 26)) ts [(w1.heap.size + 1, (.cells #[.string t.text, .string ⟨#[]⟩, .int .u64 0, .int .i64 t.line, .int .i64 t.col, .slice none 0 0] 26)), (w1.heap.size, (.cells #[.int .i64 t.kind, .string t.text, .int .u64 t.num, .int .i64 t.line, .int .i64 t.col] 60)), (w.heap.size, (.cells #[.string ⟨#[]⟩, .string ⟨#[]⟩, .int .u64 0, .int .i64 0, .int .i64 0, .slice none 0 0] 26))] []) := hid (by have h9 := (HS3.out.alloc (.cells #[.int .i64 t.kind, .string t.text, .int .u64 t.num, .int .i64 t.line, .int .i64 t.col] 60)).alloc (.cells #[.string t.text, .string ⟨#[]⟩, .int .u64 0, .int .i64 t.line, .int .i64 t.col, .slice none 0 0] 26); rw [World.size_alloc] at h9; exact h9)
 clear HS3
 refine cmo (isType_gives c hc _ (ts) HS4.out.ps) ?_
 rintro e9 w2 ⟨rfl, hov⟩
 rw [b0]
 have HS5 := hid (HS4.out.isOv hov)
 clear HS4
 have hz2 := hov.size_le
 try simp only [WZ] at hz2
 clear hov
 have hy2 : w1.heap.size + 2 ≤ w2.heap.size := lt_of_heap HS5.out.h0
 obtain ⟨n0, n1, n2, n3, n4, n5, nf⟩ := cells6 HS5.out.h0
 obtain ⟨t0, t1, t2, t3, t4, tf⟩ := cells5 HS5.out.h1
 obtain ⟨r0, r1, r2, r3, r4, r5, rf⟩ := cells6 HS5.out.h2
 go_wp2_with fail
 refine cmo (named_gives c hc _ (ts) HS5.out.ps) ?_
 rintro e9 w3 ⟨rfl, hov⟩
 rw [b1]
 have HS6 := hid (HS5.out.isOv hov)
 clear HS5
 have hz3 := hov.size_le
 try simp only [WZ] at hz3
 clear hov
 have hy3 : w1.heap.size + 2 ≤ w3.heap.size := lt_of_heap HS6.out.h0
 clear n0 n1 n2 n3 n4 n5 nf t0 t1 t2 t3 t4 tf r0 r1 r2 r3 r4 r5 rf
 obtain ⟨n0, n1, n2, n3, n4, n5, nf⟩ := cells6 HS6.out.h0
 obtain ⟨t0, t1, t2, t3, t4, tf⟩ := cells5 HS6.out.h1
 obtain ⟨r0, r1, r2, r3, r4, r5, rf⟩ := cells6 HS6.out.h2
 go_wp2_with fail
 refine cmo (take_calls c hc _ (ts) ⟨#[105, 102]⟩ HS6.out.ps) ?_
 rintro e9 w4 ⟨rfl, hpt, hkt⟩
 rw [b3] at hpt ⊢
 have hpt2 : PS c w4 (ts) := hpt
 have HS7 := hid (HS6.out.call hkt hpt2)
 clear HS6
 have hz4 := hkt.size_le
 try simp only [WZ] at hz4
 clear hpt hkt hpt2
 have hy4 : w1.heap.size + 2 ≤ w4.heap.size := lt_of_heap HS7.out.h0
 clear n0 n1 n2 n3 n4 n5 nf t0 t1 t2 t3 t4 tf r0 r1 r2 r3 r4 r5 rf
 obtain ⟨n0, n1, n2, n3, n4, n5, nf⟩ := cells6 HS7.out.h0
 obtain ⟨t0, t1, t2, t3, t4, tf⟩ := cells5 HS7.out.h1
 obtain ⟨r0, r1, r2, r3, r4, r5, rf⟩ := cells6 HS7.out.h2
 go_wp2_with fail
 refine cmo (take_calls c hc _ (ts) ⟨#[119, 104, 105, 108, 101]⟩ HS7.out.ps) ?_
 rintro e9 w5 ⟨rfl, hpt, hkt⟩
 rw [b4] at hpt ⊢
 have hpt2 : PS c w5 (ts) := hpt
 have HS8 := hid (HS7.out.call hkt hpt2)
 clear HS7
 have hz5 := hkt.size_le
 try simp only [WZ] at hz5
 clear hpt hkt hpt2
 have hy5 : w1.heap.size + 2 ≤ w5.heap.size := lt_of_heap HS8.out.h0
 clear n0 n1 n2 n3 n4 n5 nf t0 t1 t2 t3 t4 tf r0 r1 r2 r3 r4 r5 rf
 obtain ⟨n0, n1, n2, n3, n4, n5, nf⟩ := cells6 HS8.out.h0
 obtain ⟨t0, t1, t2, t3, t4, tf⟩ := cells5 HS8.out.h1
 obtain ⟨r0, r1, r2, r3, r4, r5, rf⟩ := cells6 HS8.out.h2
 go_wp2_with fail
 refine cmo (take_calls c hc _ (ts) ⟨#[114, 101, 116, 117, 114, 110]⟩ HS8.out.ps) ?_
 rintro e9 w6 ⟨rfl, hpt, hkt⟩
 rw [b5] at hpt ⊢
 have hpt2 : PS c w6 (ts.tail) := hpt
 have HS9 := hid (HS8.out.call hkt hpt2)
 clear HS8
 have hz6 := hkt.size_le
 try simp only [WZ] at hz6
 clear hpt hkt hpt2
 have hy6 : w1.heap.size + 2 ≤ w6.heap.size := lt_of_heap HS9.out.h0
 clear n0 n1 n2 n3 n4 n5 nf t0 t1 t2 t3 t4 tf r0 r1 r2 r3 r4 r5 rf
 obtain ⟨n0, n1, n2, n3, n4, n5, nf⟩ := cells6 HS9.out.h0
 obtain ⟨t0, t1, t2, t3, t4, tf⟩ := cells5 HS9.out.h1
 obtain ⟨r0, r1, r2, r3, r4, r5, rf⟩ := cells6 HS9.out.h2
 go_wp2_with fail
 refine cmo (is_gives c hc _ (ts.tail) ⟨#[59]⟩ HS9.out.ps) ?_
 rintro e9 w7 ⟨rfl, hov⟩
 rw [bs]
 have HS10 := hid (HS9.out.isOv hov)
 clear HS9
 have hz7 := hov.size_le
 try simp only [WZ] at hz7
 clear hov
 have hy7 : w1.heap.size + 2 ≤ w7.heap.size := lt_of_heap HS10.out.h0
 clear n0 n1 n2 n3 n4 n5 nf t0 t1 t2 t3 t4 tf r0 r1 r2 r3 r4 r5 rf
 obtain ⟨n0, n1, n2, n3, n4, n5, nf⟩ := cells6 HS10.out.h0
 obtain ⟨t0, t1, t2, t3, t4, tf⟩ := cells5 HS10.out.h1
 obtain ⟨r0, r1, r2, r3, r4, r5, rf⟩ := cells6 HS10.out.h2
 go_wp2_with fail
 refine cmo (need_calls c hc _ (ts.tail) ⟨#[59]⟩ HS10.out.ps) ?_
 rintro e9 w8 ⟨hkp, hp9⟩
 rcases bnd_some HB.out with ⟨l, k, er, he, rfl⟩ | ⟨t9, ts3, he, hB9⟩
 ·
  rw [Option.some.inj he] at hp9
  subst hp9
  exact ⟨rfl, HS10.out.kp.trans hkp, rfl⟩
 ·
  rw [Option.some.inj he] at hp9
  obtain ⟨rfl, hps9⟩ := hp9
  have HB3 := hid hB9
  clear hB9
  have HS11 := hid (HS10.out.call hkp hps9)
  clear HS10
  have hz8 := hkp.size_le
  try simp only [WZ] at hz8
  clear hkp hps9 he HB
  have hy8 : w1.heap.size + 2 ≤ w8.heap.size := lt_of_heap HS11.out.h0
  clear n0 n1 n2 n3 n4 n5 nf t0 t1 t2 t3 t4 tf r0 r1 r2 r3 r4 r5 rf
  obtain ⟨n0, n1, n2, n3, n4, n5, nf⟩ := cells6 HS11.out.h0
  obtain ⟨t0, t1, t2, t3, t4, tf⟩ := cells5 HS11.out.h1
  obtain ⟨r0, r1, r2, r3, r4, r5, rf⟩ := cells6 HS11.out.h2
  go_wp2_with fail
  rw [(Option.some.inj HB3.out).symm]
  exact ret_leaf hc (n := ⟨t.text, ⟨#[]⟩, 0, t.line, t.col, []⟩) Tryz.results85 (by rfl) (HS11.out.rot) (by omega) rfl
set_option maxRecDepth 20000 in
set_option maxHeartbeats 400000 in
theorem stmt_ret1 (c : PC) (hc : c.Ok) (g : Nat) (hg : g ≤ 1000000000) (IH : BlocksOk c g) (w : World) (d : Int) (ts : List Tok) (r : PR Node) (t : Tok) (HT : Hid (nowT ts = t)) (hps : PS c w ts) (h0 : 0 ≤ d) (h1 : d ≤ 60) (b0 : isTypeF ts = false) (b1 : namedF ts = false) (bk : (t.kind == 0) = true) (bk2 : (t.kind != 0) = false) (b3 : isF ts ⟨#[105, 102]⟩ = false) (b4 : isF ts ⟨#[119, 104, 105, 108, 101]⟩ = false) (b5 : isF ts ⟨#[114, 101, 116, 117, 114, 110]⟩ = true) (bs : isF ts.tail ⟨#[59]⟩ = false) (HB : Hid (bnd (exprF g d ts.tail) (fun a r => semiF ⟨t.text, ⟨#[]⟩, 0, t.line, t.col, [a]⟩ r) = some r)) : Calls Tryz.prog 85 #[.pointer (some ⟨c.p, 0, none⟩), .int .i64 d] w (PostN c w r) := by
 have hlt := hps.lt
 have HS1 := hid (Sta.start hps)
 clear hps
 go_enter Tryz.func85, Tryz.ntmps85
 have HS2 := hid (HS1.out.alloc (.cells #[.string ⟨#[]⟩, .string ⟨#[]⟩, .int .u64 0, .int .i64 0, .int .i64 0, .slice none 0 0] 26))
 clear HS1
 go_wp2_with fail
 refine cmo (now_gives c hc _ ts HS2.out.ps) ?_
 rintro e9 w1 ⟨rfl, hov⟩
 have HS3 := hid (HS2.out.isOv hov)
 clear HS2
 have hz1 := hov.size_le
 simp only [World.size_alloc] at hz1
 clear hov
 rw [HT.out, show t.val = .agg #[.int .i64 t.kind, .string t.text, .int .u64 t.num, .int .i64 t.line, .int .i64 t.col] from rfl]
 go_wp2_with fail
 have HS4 : Hid (Sta c w ((w1.alloc (.cells #[.int .i64 t.kind, .string t.text, .int .u64 t.num, .int .i64 t.line, .int .i64 t.col] 60)).alloc (.cells #[.string t.text, .string ⟨#[]⟩, .int .u64 0, .int .i64 t.line, .int .i64 t.col, .slice none 0 0] 26)) ts [(w1.heap.size + 1, (.cells #[.string t.text, .string ⟨#[]⟩, .int .u64 0, .int .i64 t.line, .int .i64 t.col, .slice none 0 0] 26)), (w1.heap.size, (.cells #[.int .i64 t.kind, .string t.text, .int .u64 t.num, .int .i64 t.line, .int .i64 t.col] 60)), (w.heap.size, (.cells #[.string ⟨#[]⟩, .string ⟨#[]⟩, .int .u64 0, .int .i64 0, .int .i64 0, .slice none 0 0] 26))] []) := hid (by have h9 := (HS3.out.alloc (.cells #[.int .i64 t.kind, .string t.text, .int .u64 t.num, .int .i64 t.line, .int .i64 t.col] 60)).alloc (.cells #[.string t.text, .string ⟨#[]⟩, .int .u64 0, .int .i64 t.line, .int .i64 t.col, .slice none 0 0] 26); rw [World.size_alloc] at h9; exact h9)
 clear HS3
 refine cmo (isType_gives c hc _ (ts) HS4.out.ps) ?_
 rintro e9 w2 ⟨rfl, hov⟩
 rw [b0]
 have HS5 := hid (HS4.out.isOv hov)
 clear HS4
 have hz2 := hov.size_le
 try simp only [WZ] at hz2
 clear hov
 have hy2 : w1.heap.size + 2 ≤ w2.heap.size := lt_of_heap HS5.out.h0
 obtain ⟨n0, n1, n2, n3, n4, n5, nf⟩ := cells6 HS5.out.h0
 obtain ⟨t0, t1, t2, t3, t4, tf⟩ := cells5 HS5.out.h1
 obtain ⟨r0, r1, r2, r3, r4, r5, rf⟩ := cells6 HS5.out.h2
 go_wp2_with fail
 refine cmo (named_gives c hc _ (ts) HS5.out.ps) ?_
 rintro e9 w3 ⟨rfl, hov⟩
 rw [b1]
 have HS6 := hid (HS5.out.isOv hov)
 clear HS5
 have hz3 := hov.size_le
 try simp only [WZ] at hz3
 clear hov
 have hy3 : w1.heap.size + 2 ≤ w3.heap.size := lt_of_heap HS6.out.h0
 clear n0 n1 n2 n3 n4 n5 nf t0 t1 t2 t3 t4 tf r0 r1 r2 r3 r4 r5 rf
 obtain ⟨n0, n1, n2, n3, n4, n5, nf⟩ := cells6 HS6.out.h0
 obtain ⟨t0, t1, t2, t3, t4, tf⟩ := cells5 HS6.out.h1
 obtain ⟨r0, r1, r2, r3, r4, r5, rf⟩ := cells6 HS6.out.h2
 go_wp2_with fail
 refine cmo (take_calls c hc _ (ts) ⟨#[105, 102]⟩ HS6.out.ps) ?_
 rintro e9 w4 ⟨rfl, hpt, hkt⟩
 rw [b3] at hpt ⊢
 have hpt2 : PS c w4 (ts) := hpt
 have HS7 := hid (HS6.out.call hkt hpt2)
 clear HS6
 have hz4 := hkt.size_le
 try simp only [WZ] at hz4
 clear hpt hkt hpt2
 have hy4 : w1.heap.size + 2 ≤ w4.heap.size := lt_of_heap HS7.out.h0
 clear n0 n1 n2 n3 n4 n5 nf t0 t1 t2 t3 t4 tf r0 r1 r2 r3 r4 r5 rf
 obtain ⟨n0, n1, n2, n3, n4, n5, nf⟩ := cells6 HS7.out.h0
 obtain ⟨t0, t1, t2, t3, t4, tf⟩ := cells5 HS7.out.h1
 obtain ⟨r0, r1, r2, r3, r4, r5, rf⟩ := cells6 HS7.out.h2
 go_wp2_with fail
 refine cmo (take_calls c hc _ (ts) ⟨#[119, 104, 105, 108, 101]⟩ HS7.out.ps) ?_
 rintro e9 w5 ⟨rfl, hpt, hkt⟩
 rw [b4] at hpt ⊢
 have hpt2 : PS c w5 (ts) := hpt
 have HS8 := hid (HS7.out.call hkt hpt2)
 clear HS7
 have hz5 := hkt.size_le
 try simp only [WZ] at hz5
 clear hpt hkt hpt2
 have hy5 : w1.heap.size + 2 ≤ w5.heap.size := lt_of_heap HS8.out.h0
 clear n0 n1 n2 n3 n4 n5 nf t0 t1 t2 t3 t4 tf r0 r1 r2 r3 r4 r5 rf
 obtain ⟨n0, n1, n2, n3, n4, n5, nf⟩ := cells6 HS8.out.h0
 obtain ⟨t0, t1, t2, t3, t4, tf⟩ := cells5 HS8.out.h1
 obtain ⟨r0, r1, r2, r3, r4, r5, rf⟩ := cells6 HS8.out.h2
 go_wp2_with fail
 refine cmo (take_calls c hc _ (ts) ⟨#[114, 101, 116, 117, 114, 110]⟩ HS8.out.ps) ?_
 rintro e9 w6 ⟨rfl, hpt, hkt⟩
 rw [b5] at hpt ⊢
 have hpt2 : PS c w6 (ts.tail) := hpt
 have HS9 := hid (HS8.out.call hkt hpt2)
 clear HS8
 have hz6 := hkt.size_le
 try simp only [WZ] at hz6
 clear hpt hkt hpt2
 have hy6 : w1.heap.size + 2 ≤ w6.heap.size := lt_of_heap HS9.out.h0
 clear n0 n1 n2 n3 n4 n5 nf t0 t1 t2 t3 t4 tf r0 r1 r2 r3 r4 r5 rf
 obtain ⟨n0, n1, n2, n3, n4, n5, nf⟩ := cells6 HS9.out.h0
 obtain ⟨t0, t1, t2, t3, t4, tf⟩ := cells5 HS9.out.h1
 obtain ⟨r0, r1, r2, r3, r4, r5, rf⟩ := cells6 HS9.out.h2
 go_wp2_with fail
 refine cmo (is_gives c hc _ (ts.tail) ⟨#[59]⟩ HS9.out.ps) ?_
 rintro e9 w7 ⟨rfl, hov⟩
 rw [bs]
 have HS10 := hid (HS9.out.isOv hov)
 clear HS9
 have hz7 := hov.size_le
 try simp only [WZ] at hz7
 clear hov
 have hy7 : w1.heap.size + 2 ≤ w7.heap.size := lt_of_heap HS10.out.h0
 clear n0 n1 n2 n3 n4 n5 nf t0 t1 t2 t3 t4 tf r0 r1 r2 r3 r4 r5 rf
 obtain ⟨n0, n1, n2, n3, n4, n5, nf⟩ := cells6 HS10.out.h0
 obtain ⟨t0, t1, t2, t3, t4, tf⟩ := cells5 HS10.out.h1
 obtain ⟨r0, r1, r2, r3, r4, r5, rf⟩ := cells6 HS10.out.h2
 go_wp2_with fail
 rcases bnd_some HB.out with ⟨l, k, er, he, rfl⟩ | ⟨a, ts2, he, hB9⟩
 ·
  refine cmo ((exprs_ok c hc g).expr _ d _ _ he HS10.out.ps h0 (by omega)) ?_
  rintro e9 w99 ⟨hkp, rfl⟩
  exact ⟨rfl, HS10.out.kp.trans hkp, rfl⟩
 ·
  have HB2 := hid hB9
  clear hB9
  refine cmo ((exprs_ok c hc g).expr _ d _ _ he HS10.out.ps h0 (by omega)) ?_
  clear he
  rintro e9 w8 ⟨hkp, hpt, Aa, capa, rfl, hR⟩
  have HS11 := hid (HS10.out.got hkp hpt (Nat.le_refl _) hR)
  clear HS10
  have hz8 := hkp.size_le
  try simp only [WZ] at hz8
  unfold nodeV
  clear hkp hpt hR HB
  have hy8 : w1.heap.size + 2 ≤ w8.heap.size := lt_of_heap HS11.out.h0
  clear n0 n1 n2 n3 n4 n5 nf t0 t1 t2 t3 t4 tf r0 r1 r2 r3 r4 r5 rf
  obtain ⟨n0, n1, n2, n3, n4, n5, nf⟩ := cells6 HS11.out.h0
  obtain ⟨t0, t1, t2, t3, t4, tf⟩ := cells5 HS11.out.h1
  obtain ⟨r0, r1, r2, r3, r4, r5, rf⟩ := cells6 HS11.out.h2
  go_wp2_with fail
  have HS12 := hid ((HS11.out.made1 (by omega)).set hc (by omega) (by simp <;> omega) 5 (.slice (some ⟨w8.heap.size, 0, none⟩) 1 1))
  clear HS11
  refine cmo (need_calls c hc _ (ts2) ⟨#[59]⟩ HS12.out.ps) ?_
  rintro e9 w9 ⟨hkp, hp9⟩
  rcases bnd_some HB2.out with ⟨l, k, er, he, rfl⟩ | ⟨t9, ts3, he, hB9⟩
  ·
   rw [Option.some.inj he] at hp9
   subst hp9
   exact ⟨rfl, HS12.out.kp.trans hkp, rfl⟩
  ·
   rw [Option.some.inj he] at hp9
   obtain ⟨rfl, hps9⟩ := hp9
   have HB3 := hid hB9
   clear hB9
   have HS13 := hid (HS12.out.call hkp hps9)
   clear HS12
   have hz9 := hkp.size_le
   try simp only [WZ] at hz9
   clear hkp hps9 he HB2
   have hy9 : w1.heap.size + 2 ≤ w9.heap.size := lt_of_heap HS13.out.h0
   clear n0 n1 n2 n3 n4 n5 nf t0 t1 t2 t3 t4 tf r0 r1 r2 r3 r4 r5 rf
   obtain ⟨n0, n1, n2, n3, n4, n5, nf⟩ := cells6 HS13.out.h0
   obtain ⟨t0, t1, t2, t3, t4, tf⟩ := cells5 HS13.out.h1
   obtain ⟨r0, r1, r2, r3, r4, r5, rf⟩ := cells6 HS13.out.h2
   go_wp2_with fail
   rw [(Option.some.inj HB3.out).symm]
   exact ret_sta hc (n := ⟨t.text, ⟨#[]⟩, 0, t.line, t.col, [a]⟩) (A := some ⟨w8.heap.size, 0, none⟩) (cap := 1) (base := w7.heap.size) Tryz.results85 (by rfl) (HS13.out.rot) (by omega) (by omega) (by simp <;> omega)
set_option maxRecDepth 20000 in
set_option maxHeartbeats 400000 in
theorem stmt_local (c : PC) (hc : c.Ok) (g : Nat) (hg : g ≤ 1000000000) (IH : BlocksOk c g) (w : World) (d : Int) (ts : List Tok) (r : PR Node) (t : Tok) (HT : Hid (nowT ts = t)) (hps : PS c w ts) (h0 : 0 ≤ d) (h1 : d ≤ 60) (b0 : isTypeF ts = true) (HB : Hid (bnd (paramF ts) (fun x r => semiF (withKind ⟨#[108, 111, 99, 97, 108]⟩ x) r) = some r)) : Calls Tryz.prog 85 #[.pointer (some ⟨c.p, 0, none⟩), .int .i64 d] w (PostN c w r) := by
 have hlt := hps.lt
 have HS1 := hid (Sta.start hps)
 clear hps
 go_enter Tryz.func85, Tryz.ntmps85
 have HS2 := hid (HS1.out.alloc (.cells #[.string ⟨#[]⟩, .string ⟨#[]⟩, .int .u64 0, .int .i64 0, .int .i64 0, .slice none 0 0] 26))
 clear HS1
 go_wp2_with fail
 refine cmo (now_gives c hc _ ts HS2.out.ps) ?_
 rintro e9 w1 ⟨rfl, hov⟩
 have HS3 := hid (HS2.out.isOv hov)
 clear HS2
 have hz1 := hov.size_le
 simp only [World.size_alloc] at hz1
 clear hov
 rw [HT.out, show t.val = .agg #[.int .i64 t.kind, .string t.text, .int .u64 t.num, .int .i64 t.line, .int .i64 t.col] from rfl]
 go_wp2_with fail
 have HS4 : Hid (Sta c w ((w1.alloc (.cells #[.int .i64 t.kind, .string t.text, .int .u64 t.num, .int .i64 t.line, .int .i64 t.col] 60)).alloc (.cells #[.string t.text, .string ⟨#[]⟩, .int .u64 0, .int .i64 t.line, .int .i64 t.col, .slice none 0 0] 26)) ts [(w1.heap.size + 1, (.cells #[.string t.text, .string ⟨#[]⟩, .int .u64 0, .int .i64 t.line, .int .i64 t.col, .slice none 0 0] 26)), (w1.heap.size, (.cells #[.int .i64 t.kind, .string t.text, .int .u64 t.num, .int .i64 t.line, .int .i64 t.col] 60)), (w.heap.size, (.cells #[.string ⟨#[]⟩, .string ⟨#[]⟩, .int .u64 0, .int .i64 0, .int .i64 0, .slice none 0 0] 26))] []) := hid (by have h9 := (HS3.out.alloc (.cells #[.int .i64 t.kind, .string t.text, .int .u64 t.num, .int .i64 t.line, .int .i64 t.col] 60)).alloc (.cells #[.string t.text, .string ⟨#[]⟩, .int .u64 0, .int .i64 t.line, .int .i64 t.col, .slice none 0 0] 26); rw [World.size_alloc] at h9; exact h9)
 clear HS3
 refine cmo (isType_gives c hc _ (ts) HS4.out.ps) ?_
 rintro e9 w2 ⟨rfl, hov⟩
 rw [b0]
 have HS5 := hid (HS4.out.isOv hov)
 clear HS4
 have hz2 := hov.size_le
 try simp only [WZ] at hz2
 clear hov
 have hy2 : w1.heap.size + 2 ≤ w2.heap.size := lt_of_heap HS5.out.h0
 obtain ⟨n0, n1, n2, n3, n4, n5, nf⟩ := cells6 HS5.out.h0
 obtain ⟨t0, t1, t2, t3, t4, tf⟩ := cells5 HS5.out.h1
 obtain ⟨r0, r1, r2, r3, r4, r5, rf⟩ := cells6 HS5.out.h2
 go_wp2_with fail
 rcases bnd_some HB.out with ⟨l, k, er, he, rfl⟩ | ⟨x, ts2, he, hB9⟩
 ·
  refine cmo (param_calls c hc _ ts _ he HS5.out.ps) ?_
  rintro e9 w99 ⟨hkp, rfl⟩
  exact ⟨rfl, HS5.out.kp.trans hkp, rfl⟩
 ·
  have HB2 := hid hB9
  clear hB9
  refine cmo (param_calls c hc _ ts _ he HS5.out.ps) ?_
  clear he
  rintro e9 w3 ⟨hkp, hpt, Ax, capx, rfl, hR⟩
  have HS6 := hid (HS5.out.got hkp hpt (Nat.le_refl _) hR)
  clear HS5
  have hz3 := hkp.size_le
  try simp only [WZ] at hz3
  unfold nodeV
  clear hkp hpt hR HB
  have hy3 : w1.heap.size + 2 ≤ w3.heap.size := lt_of_heap HS6.out.h0
  clear n0 n1 n2 n3 n4 n5 nf t0 t1 t2 t3 t4 tf r0 r1 r2 r3 r4 r5 rf
  obtain ⟨n0, n1, n2, n3, n4, n5, nf⟩ := cells6 HS6.out.h0
  obtain ⟨t0, t1, t2, t3, t4, tf⟩ := cells5 HS6.out.h1
  obtain ⟨r0, r1, r2, r3, r4, r5, rf⟩ := cells6 HS6.out.h2
  go_wp2_with fail
  have HS7 := hid (HS6.out.alloc (.cells #[.string ⟨#[108, 111, 99, 97, 108]⟩, .string x.text, .int .u64 x.num, .int .i64 x.line, .int .i64 x.col, .slice Ax x.kids.length capx] 26))
  clear HS6
  refine cmo (need_calls c hc _ (ts2) ⟨#[59]⟩ HS7.out.ps) ?_
  rintro e9 w4 ⟨hkp, hp9⟩
  rcases bnd_some HB2.out with ⟨l, k, er, he, rfl⟩ | ⟨t9, ts3, he, hB9⟩
  ·
   rw [Option.some.inj he] at hp9
   subst hp9
   exact ⟨rfl, HS7.out.kp.trans hkp, rfl⟩
  ·
   rw [Option.some.inj he] at hp9
   obtain ⟨rfl, hps9⟩ := hp9
   have HB3 := hid hB9
   clear hB9
   have HS8 := hid (HS7.out.call hkp hps9)
   clear HS7
   have hz4 := hkp.size_le
   try simp only [WZ] at hz4
   clear hkp hps9 he HB2
   have hyx : w3.heap.size < w4.heap.size := lt_of_heap HS8.out.h0
   obtain ⟨x0, x1, x2, x3, x4, x5, xf⟩ := cells6 HS8.out.h0
   obtain ⟨r0, r1, r2, r3, r4, r5, rf⟩ := cells6 HS8.out.h3
   go_wp2_with fail
   rw [(Option.some.inj HB3.out).symm]
   exact ret_sta hc (n := ⟨⟨#[108, 111, 99, 97, 108]⟩, x.text, x.num, x.line, x.col, x.kids⟩) (A := Ax) (cap := capx) (base := w2.heap.size) Tryz.results85 (by rfl) (HS8.out.swap.drop.rot) (by omega) (by omega) (by simp <;> omega)
end Go.Proofs.YtdimhoilfopndaaGreatDoor
end
section
namespace Go.Proofs.YtdimhoilfopndaaGreatDoor
open Go.RowKit Go.Proofs.YtdimhoilfopndaaGreatDoorW.PrintWords
set_option maxRecDepth 20000 in
set_option maxHeartbeats 400000 in
theorem stmt_while (c : PC) (hc : c.Ok) (g : Nat) (hg : g ≤ 1000000000) (IH : BlocksOk c g) (w : World) (d : Int) (ts : List Tok) (r : PR Node) (t : Tok) (HT : Hid (nowT ts = t)) (hps : PS c w ts) (h0 : 0 ≤ d) (h1 : d ≤ 60) (b0 : isTypeF ts = false) (b1 : namedF ts = false) (bk : (t.kind == 0) = true) (bk2 : (t.kind != 0) = false) (b3 : isF ts ⟨#[105, 102]⟩ = false) (b4 : isF ts ⟨#[119, 104, 105, 108, 101]⟩ = true) (HB : Hid (bnd (condF g d ts.tail) (fun a r => bnd (blockF g (d + 1) r) fun b r2 => some (.ok ⟨t.text, ⟨#[]⟩, 0, t.line, t.col, [a, b]⟩ r2)) = some r)) : Calls Tryz.prog 85 #[.pointer (some ⟨c.p, 0, none⟩), .int .i64 d] w (PostN c w r) := by
 have hlt := hps.lt
 have HS1 := hid (Sta.start hps)
 clear hps
 go_enter Tryz.func85, Tryz.ntmps85
 have HS2 := hid (HS1.out.alloc (.cells #[.string ⟨#[]⟩, .string ⟨#[]⟩, .int .u64 0, .int .i64 0, .int .i64 0, .slice none 0 0] 26))
 clear HS1
 go_wp2_with fail
 refine cmo (now_gives c hc _ ts HS2.out.ps) ?_
 rintro e9 w1 ⟨rfl, hov⟩
 have HS3 := hid (HS2.out.isOv hov)
 clear HS2
 have hz1 := hov.size_le
 simp only [World.size_alloc] at hz1
 clear hov
 rw [HT.out, show t.val = .agg #[.int .i64 t.kind, .string t.text, .int .u64 t.num, .int .i64 t.line, .int .i64 t.col] from rfl]
 go_wp2_with fail
 have HS4 : Hid (Sta c w ((w1.alloc (.cells #[.int .i64 t.kind, .string t.text, .int .u64 t.num, .int .i64 t.line, .int .i64 t.col] 60)).alloc (.cells #[.string t.text, .string ⟨#[]⟩, .int .u64 0, .int .i64 t.line, .int .i64 t.col, .slice none 0 0] 26)) ts [(w1.heap.size + 1, (.cells #[.string t.text, .string ⟨#[]⟩, .int .u64 0, .int .i64 t.line, .int .i64 t.col, .slice none 0 0] 26)), (w1.heap.size, (.cells #[.int .i64 t.kind, .string t.text, .int .u64 t.num, .int .i64 t.line, .int .i64 t.col] 60)), (w.heap.size, (.cells #[.string ⟨#[]⟩, .string ⟨#[]⟩, .int .u64 0, .int .i64 0, .int .i64 0, .slice none 0 0] 26))] []) := hid (by have h9 := (HS3.out.alloc (.cells #[.int .i64 t.kind, .string t.text, .int .u64 t.num, .int .i64 t.line, .int .i64 t.col] 60)).alloc (.cells #[.string t.text, .string ⟨#[]⟩, .int .u64 0, .int .i64 t.line, .int .i64 t.col, .slice none 0 0] 26); rw [World.size_alloc] at h9; exact h9)
 clear HS3
 refine cmo (isType_gives c hc _ (ts) HS4.out.ps) ?_
 rintro e9 w2 ⟨rfl, hov⟩
 rw [b0]
 have HS5 := hid (HS4.out.isOv hov)
 clear HS4
 have hz2 := hov.size_le
 try simp only [WZ] at hz2
 clear hov
 have hy2 : w1.heap.size + 2 ≤ w2.heap.size := lt_of_heap HS5.out.h0
 obtain ⟨n0, n1, n2, n3, n4, n5, nf⟩ := cells6 HS5.out.h0
 obtain ⟨t0, t1, t2, t3, t4, tf⟩ := cells5 HS5.out.h1
 obtain ⟨r0, r1, r2, r3, r4, r5, rf⟩ := cells6 HS5.out.h2
 go_wp2_with fail
 refine cmo (named_gives c hc _ (ts) HS5.out.ps) ?_
 rintro e9 w3 ⟨rfl, hov⟩
 rw [b1]
 have HS6 := hid (HS5.out.isOv hov)
 clear HS5
 have hz3 := hov.size_le
 try simp only [WZ] at hz3
 clear hov
 have hy3 : w1.heap.size + 2 ≤ w3.heap.size := lt_of_heap HS6.out.h0
 clear n0 n1 n2 n3 n4 n5 nf t0 t1 t2 t3 t4 tf r0 r1 r2 r3 r4 r5 rf
 obtain ⟨n0, n1, n2, n3, n4, n5, nf⟩ := cells6 HS6.out.h0
 obtain ⟨t0, t1, t2, t3, t4, tf⟩ := cells5 HS6.out.h1
 obtain ⟨r0, r1, r2, r3, r4, r5, rf⟩ := cells6 HS6.out.h2
 go_wp2_with fail
 refine cmo (take_calls c hc _ (ts) ⟨#[105, 102]⟩ HS6.out.ps) ?_
 rintro e9 w4 ⟨rfl, hpt, hkt⟩
 rw [b3] at hpt ⊢
 have hpt2 : PS c w4 (ts) := hpt
 have HS7 := hid (HS6.out.call hkt hpt2)
 clear HS6
 have hz4 := hkt.size_le
 try simp only [WZ] at hz4
 clear hpt hkt hpt2
 have hy4 : w1.heap.size + 2 ≤ w4.heap.size := lt_of_heap HS7.out.h0
 clear n0 n1 n2 n3 n4 n5 nf t0 t1 t2 t3 t4 tf r0 r1 r2 r3 r4 r5 rf
 obtain ⟨n0, n1, n2, n3, n4, n5, nf⟩ := cells6 HS7.out.h0
 obtain ⟨t0, t1, t2, t3, t4, tf⟩ := cells5 HS7.out.h1
 obtain ⟨r0, r1, r2, r3, r4, r5, rf⟩ := cells6 HS7.out.h2
 go_wp2_with fail
 refine cmo (take_calls c hc _ (ts) ⟨#[119, 104, 105, 108, 101]⟩ HS7.out.ps) ?_
 rintro e9 w5 ⟨rfl, hpt, hkt⟩
 rw [b4] at hpt ⊢
 have hpt2 : PS c w5 (ts.tail) := hpt
 have HS8 := hid (HS7.out.call hkt hpt2)
 clear HS7
 have hz5 := hkt.size_le
 try simp only [WZ] at hz5
 clear hpt hkt hpt2
 have hy5 : w1.heap.size + 2 ≤ w5.heap.size := lt_of_heap HS8.out.h0
 clear n0 n1 n2 n3 n4 n5 nf t0 t1 t2 t3 t4 tf r0 r1 r2 r3 r4 r5 rf
 obtain ⟨n0, n1, n2, n3, n4, n5, nf⟩ := cells6 HS8.out.h0
 obtain ⟨t0, t1, t2, t3, t4, tf⟩ := cells5 HS8.out.h1
 obtain ⟨r0, r1, r2, r3, r4, r5, rf⟩ := cells6 HS8.out.h2
 go_wp2_with fail
 have bt : (t.text.toList == [105, 102]) = false := by rw [Lib.toList_data, ← HT.out, isF_text b4]; rfl
 rcases bnd_some HB.out with ⟨l, k, er, he, rfl⟩ | ⟨a, ts2, he, hB9⟩
 ·
  refine cmo (condition_calls c hc g _ d _ _ he HS8.out.ps h0 h1) ?_
  rintro e9 w99 ⟨hkp, rfl⟩
  exact ⟨rfl, HS8.out.kp.trans hkp, rfl⟩
 ·
  have HB2 := hid hB9
  clear hB9
  refine cmo (condition_calls c hc g _ d _ _ he HS8.out.ps h0 h1) ?_
  clear he
  rintro e9 w6 ⟨hkp, hpt, Aa, capa, rfl, hR⟩
  have HS9 := hid (HS8.out.got hkp hpt (Nat.le_refl _) hR)
  clear HS8
  have hz6 := hkp.size_le
  try simp only [WZ] at hz6
  unfold nodeV
  clear hkp hpt hR HB
  have hy6 : w1.heap.size + 2 ≤ w6.heap.size := lt_of_heap HS9.out.h0
  clear n0 n1 n2 n3 n4 n5 nf t0 t1 t2 t3 t4 tf r0 r1 r2 r3 r4 r5 rf
  obtain ⟨n0, n1, n2, n3, n4, n5, nf⟩ := cells6 HS9.out.h0
  obtain ⟨t0, t1, t2, t3, t4, tf⟩ := cells5 HS9.out.h1
  obtain ⟨r0, r1, r2, r3, r4, r5, rf⟩ := cells6 HS9.out.h2
  go_wp2_with fail
  rcases bnd_some HB2.out with ⟨l, k, er, he, rfl⟩ | ⟨b, ts3, he, hB9⟩
  ·
   refine cmo (IH.block _ (d + 1) _ _ he HS9.out.ps (by omega) (by omega)) ?_
   rintro e9 w99 ⟨hkp, rfl⟩
   exact ⟨rfl, HS9.out.kp.trans hkp, rfl⟩
  ·
   have HB3 := hid hB9
   clear hB9
   refine cmo (IH.block _ (d + 1) _ _ he HS9.out.ps (by omega) (by omega)) ?_
   clear he
   rintro e9 w7 ⟨hkp, hpt, Ab, capb, rfl, hR⟩
   have HS10 := hid (HS9.out.got hkp hpt (Nat.le_refl _) hR)
   clear HS9
   have hz7 := hkp.size_le
   try simp only [WZ] at hz7
   unfold nodeV
   clear hkp hpt hR HB2
   have hy7 : w1.heap.size + 2 ≤ w7.heap.size := lt_of_heap HS10.out.h0
   clear n0 n1 n2 n3 n4 n5 nf t0 t1 t2 t3 t4 tf r0 r1 r2 r3 r4 r5 rf
   obtain ⟨n0, n1, n2, n3, n4, n5, nf⟩ := cells6 HS10.out.h0
   obtain ⟨t0, t1, t2, t3, t4, tf⟩ := cells5 HS10.out.h1
   obtain ⟨r0, r1, r2, r3, r4, r5, rf⟩ := cells6 HS10.out.h2
   go_wp2_with fail
   have HS11 := hid ((HS10.out.made2 (by omega) (by omega)).set hc (by omega) (by simp <;> omega) 5 (.slice (some ⟨w7.heap.size, 0, none⟩) 2 2))
   clear HS10
   rw [(Option.some.inj HB3.out).symm]
   exact ret_sta hc (n := ⟨t.text, ⟨#[]⟩, 0, t.line, t.col, [a, b]⟩) (A := some ⟨w7.heap.size, 0, none⟩) (cap := 2) (base := w5.heap.size) Tryz.results85 (by rfl) (HS11.out.rot) (by omega) (by omega) (by simp <;> omega)
set_option maxRecDepth 20000 in
set_option maxHeartbeats 1600000 in
theorem stmt_if (c : PC) (hc : c.Ok) (g : Nat) (hg : g ≤ 1000000000) (IH : BlocksOk c g) (w : World) (d : Int) (ts : List Tok) (r : PR Node) (t : Tok) (HT : Hid (nowT ts = t)) (hps : PS c w ts) (h0 : 0 ≤ d) (h1 : d ≤ 60) (b0 : isTypeF ts = false) (b1 : namedF ts = false) (bk : (t.kind == 0) = true) (bk2 : (t.kind != 0) = false) (b3 : isF ts ⟨#[105, 102]⟩ = true) (HB : Hid (bnd (condF g d ts.tail) (fun a r => bnd (blockF g (d + 1) r) fun b r2 => if isF r2 ⟨#[101, 108, 115, 101]⟩ then bnd (blockF g (d + 1) r2.tail) fun e r3 => some (.ok ⟨t.text, ⟨#[]⟩, 0, t.line, t.col, [a, b, e]⟩ r3) else some (.ok ⟨t.text, ⟨#[]⟩, 0, t.line, t.col, [a, b]⟩ r2)) = some r)) : Calls Tryz.prog 85 #[.pointer (some ⟨c.p, 0, none⟩), .int .i64 d] w (PostN c w r) := by
 have hlt := hps.lt
 have HS1 := hid (Sta.start hps)
 clear hps
 go_enter Tryz.func85, Tryz.ntmps85
 have HS2 := hid (HS1.out.alloc (.cells #[.string ⟨#[]⟩, .string ⟨#[]⟩, .int .u64 0, .int .i64 0, .int .i64 0, .slice none 0 0] 26))
 clear HS1
 go_wp2_with fail
 refine cmo (now_gives c hc _ ts HS2.out.ps) ?_
 rintro e9 w1 ⟨rfl, hov⟩
 have HS3 := hid (HS2.out.isOv hov)
 clear HS2
 have hz1 := hov.size_le
 simp only [World.size_alloc] at hz1
 clear hov
 rw [HT.out, show t.val = .agg #[.int .i64 t.kind, .string t.text, .int .u64 t.num, .int .i64 t.line, .int .i64 t.col] from rfl]
 go_wp2_with fail
 have HS4 : Hid (Sta c w ((w1.alloc (.cells #[.int .i64 t.kind, .string t.text, .int .u64 t.num, .int .i64 t.line, .int .i64 t.col] 60)).alloc (.cells #[.string t.text, .string ⟨#[]⟩, .int .u64 0, .int .i64 t.line, .int .i64 t.col, .slice none 0 0] 26)) ts [(w1.heap.size + 1, (.cells #[.string t.text, .string ⟨#[]⟩, .int .u64 0, .int .i64 t.line, .int .i64 t.col, .slice none 0 0] 26)), (w1.heap.size, (.cells #[.int .i64 t.kind, .string t.text, .int .u64 t.num, .int .i64 t.line, .int .i64 t.col] 60)), (w.heap.size, (.cells #[.string ⟨#[]⟩, .string ⟨#[]⟩, .int .u64 0, .int .i64 0, .int .i64 0, .slice none 0 0] 26))] []) := hid (by have h9 := (HS3.out.alloc (.cells #[.int .i64 t.kind, .string t.text, .int .u64 t.num, .int .i64 t.line, .int .i64 t.col] 60)).alloc (.cells #[.string t.text, .string ⟨#[]⟩, .int .u64 0, .int .i64 t.line, .int .i64 t.col, .slice none 0 0] 26); rw [World.size_alloc] at h9; exact h9)
 clear HS3
 refine cmo (isType_gives c hc _ (ts) HS4.out.ps) ?_
 rintro e9 w2 ⟨rfl, hov⟩
 rw [b0]
 have HS5 := hid (HS4.out.isOv hov)
 clear HS4
 have hz2 := hov.size_le
 try simp only [WZ] at hz2
 clear hov
 have hy2 : w1.heap.size + 2 ≤ w2.heap.size := lt_of_heap HS5.out.h0
 obtain ⟨n0, n1, n2, n3, n4, n5, nf⟩ := cells6 HS5.out.h0
 obtain ⟨t0, t1, t2, t3, t4, tf⟩ := cells5 HS5.out.h1
 obtain ⟨r0, r1, r2, r3, r4, r5, rf⟩ := cells6 HS5.out.h2
 go_wp2_with fail
 refine cmo (named_gives c hc _ (ts) HS5.out.ps) ?_
 rintro e9 w3 ⟨rfl, hov⟩
 rw [b1]
 have HS6 := hid (HS5.out.isOv hov)
 clear HS5
 have hz3 := hov.size_le
 try simp only [WZ] at hz3
 clear hov
 have hy3 : w1.heap.size + 2 ≤ w3.heap.size := lt_of_heap HS6.out.h0
 clear n0 n1 n2 n3 n4 n5 nf t0 t1 t2 t3 t4 tf r0 r1 r2 r3 r4 r5 rf
 obtain ⟨n0, n1, n2, n3, n4, n5, nf⟩ := cells6 HS6.out.h0
 obtain ⟨t0, t1, t2, t3, t4, tf⟩ := cells5 HS6.out.h1
 obtain ⟨r0, r1, r2, r3, r4, r5, rf⟩ := cells6 HS6.out.h2
 go_wp2_with fail
 refine cmo (take_calls c hc _ (ts) ⟨#[105, 102]⟩ HS6.out.ps) ?_
 rintro e9 w4 ⟨rfl, hpt, hkt⟩
 rw [b3] at hpt ⊢
 have hpt2 : PS c w4 (ts.tail) := hpt
 have HS7 := hid (HS6.out.call hkt hpt2)
 clear HS6
 have hz4 := hkt.size_le
 try simp only [WZ] at hz4
 clear hpt hkt hpt2
 have hy4 : w1.heap.size + 2 ≤ w4.heap.size := lt_of_heap HS7.out.h0
 clear n0 n1 n2 n3 n4 n5 nf t0 t1 t2 t3 t4 tf r0 r1 r2 r3 r4 r5 rf
 obtain ⟨n0, n1, n2, n3, n4, n5, nf⟩ := cells6 HS7.out.h0
 obtain ⟨t0, t1, t2, t3, t4, tf⟩ := cells5 HS7.out.h1
 obtain ⟨r0, r1, r2, r3, r4, r5, rf⟩ := cells6 HS7.out.h2
 go_wp2_with fail
 have bt : (t.text.toList == [105, 102]) = true := by rw [Lib.toList_data, ← HT.out, isF_text b3]; rfl
 rcases bnd_some HB.out with ⟨l, k, er, he, rfl⟩ | ⟨a, ts2, he, hB9⟩
 ·
  refine cmo (condition_calls c hc g _ d _ _ he HS7.out.ps h0 h1) ?_
  rintro e9 w99 ⟨hkp, rfl⟩
  exact ⟨rfl, HS7.out.kp.trans hkp, rfl⟩
 ·
  have HB2 := hid hB9
  clear hB9
  refine cmo (condition_calls c hc g _ d _ _ he HS7.out.ps h0 h1) ?_
  clear he
  rintro e9 w5 ⟨hkp, hpt, Aa, capa, rfl, hR⟩
  have HS8 := hid (HS7.out.got hkp hpt (Nat.le_refl _) hR)
  clear HS7
  have hz5 := hkp.size_le
  try simp only [WZ] at hz5
  unfold nodeV
  clear hkp hpt hR HB
  have hy5 : w1.heap.size + 2 ≤ w5.heap.size := lt_of_heap HS8.out.h0
  clear n0 n1 n2 n3 n4 n5 nf t0 t1 t2 t3 t4 tf r0 r1 r2 r3 r4 r5 rf
  obtain ⟨n0, n1, n2, n3, n4, n5, nf⟩ := cells6 HS8.out.h0
  obtain ⟨t0, t1, t2, t3, t4, tf⟩ := cells5 HS8.out.h1
  obtain ⟨r0, r1, r2, r3, r4, r5, rf⟩ := cells6 HS8.out.h2
  go_wp2_with fail
  rcases bnd_some HB2.out with ⟨l, k, er, he, rfl⟩ | ⟨b, ts3, he, hB9⟩
  ·
   refine cmo (IH.block _ (d + 1) _ _ he HS8.out.ps (by omega) (by omega)) ?_
   rintro e9 w99 ⟨hkp, rfl⟩
   exact ⟨rfl, HS8.out.kp.trans hkp, rfl⟩
  ·
   have HB3 := hid hB9
   clear hB9
   refine cmo (IH.block _ (d + 1) _ _ he HS8.out.ps (by omega) (by omega)) ?_
   clear he
   rintro e9 w6 ⟨hkp, hpt, Ab, capb, rfl, hR⟩
   have HS9 := hid (HS8.out.got hkp hpt (Nat.le_refl _) hR)
   clear HS8
   have hz6 := hkp.size_le
   try simp only [WZ] at hz6
   unfold nodeV
   clear hkp hpt hR HB2
   have hy6 : w1.heap.size + 2 ≤ w6.heap.size := lt_of_heap HS9.out.h0
   clear n0 n1 n2 n3 n4 n5 nf t0 t1 t2 t3 t4 tf r0 r1 r2 r3 r4 r5 rf
   obtain ⟨n0, n1, n2, n3, n4, n5, nf⟩ := cells6 HS9.out.h0
   obtain ⟨t0, t1, t2, t3, t4, tf⟩ := cells5 HS9.out.h1
   obtain ⟨r0, r1, r2, r3, r4, r5, rf⟩ := cells6 HS9.out.h2
   go_wp2_with fail
   have HS10 := hid ((HS9.out.made2 (by omega) (by omega)).set hc (by omega) (by simp <;> omega) 5 (.slice (some ⟨w6.heap.size, 0, none⟩) 2 2))
   clear HS9
   cases be : isF ts3 ⟨#[101, 108, 115, 101]⟩
   ·
    have HB4 := hid (show some (PR.ok ⟨t.text, ⟨#[]⟩, 0, t.line, t.col, [a, b]⟩ ts3) = some r from by have h9 := HB3.out; rw [be, if_neg (by decide)] at h9; exact h9)
    clear HB3
    refine cmo (take_calls c hc _ (ts3) ⟨#[101, 108, 115, 101]⟩ HS10.out.ps) ?_
    rintro e9 w7 ⟨rfl, hpt, hkt⟩
    rw [be] at hpt ⊢
    have hpt2 : PS c w7 (ts3) := hpt
    have HS11 := hid (HS10.out.call hkt hpt2)
    clear HS10
    have hz7 := hkt.size_le
    try simp only [WZ] at hz7
    clear hpt hkt hpt2
    have hy7 : w1.heap.size + 2 ≤ w7.heap.size := lt_of_heap HS11.out.h0
    clear n0 n1 n2 n3 n4 n5 nf t0 t1 t2 t3 t4 tf r0 r1 r2 r3 r4 r5 rf
    obtain ⟨n0, n1, n2, n3, n4, n5, nf⟩ := cells6 HS11.out.h0
    obtain ⟨t0, t1, t2, t3, t4, tf⟩ := cells5 HS11.out.h1
    obtain ⟨r0, r1, r2, r3, r4, r5, rf⟩ := cells6 HS11.out.h2
    go_wp2_with fail
    rw [(Option.some.inj HB4.out).symm]
    exact ret_sta hc (n := ⟨t.text, ⟨#[]⟩, 0, t.line, t.col, [a, b]⟩) (A := some ⟨w6.heap.size, 0, none⟩) (cap := 2) (base := w4.heap.size) Tryz.results85 (by rfl) (HS11.out.rot) (by omega) (by omega) (by simp <;> omega)
   ·
    have HB4 := hid (show bnd (blockF g (d + 1) ts3.tail) (fun e r3 => some (.ok ⟨t.text, ⟨#[]⟩, 0, t.line, t.col, [a, b, e]⟩ r3)) = some r from by have h9 := HB3.out; rw [be, if_pos rfl] at h9; exact h9)
    clear HB3
    refine cmo (take_calls c hc _ (ts3) ⟨#[101, 108, 115, 101]⟩ HS10.out.ps) ?_
    rintro e9 w7 ⟨rfl, hpt, hkt⟩
    rw [be] at hpt ⊢
    have hpt2 : PS c w7 (ts3.tail) := hpt
    have HS11 := hid (HS10.out.call hkt hpt2)
    clear HS10
    have hz7 := hkt.size_le
    try simp only [WZ] at hz7
    clear hpt hkt hpt2
    have hy7 : w1.heap.size + 2 ≤ w7.heap.size := lt_of_heap HS11.out.h0
    clear n0 n1 n2 n3 n4 n5 nf t0 t1 t2 t3 t4 tf r0 r1 r2 r3 r4 r5 rf
    obtain ⟨n0, n1, n2, n3, n4, n5, nf⟩ := cells6 HS11.out.h0
    obtain ⟨t0, t1, t2, t3, t4, tf⟩ := cells5 HS11.out.h1
    obtain ⟨r0, r1, r2, r3, r4, r5, rf⟩ := cells6 HS11.out.h2
    go_wp2_with fail
    obtain ⟨r0, he, hr0⟩ := bnd_some2 HB4.out
    have HR0 := hid hr0
    clear hr0 HB4
    have HD := hid (HS11.out.drew)
    have hd0 : w7.drew.heap.size = w7.heap.size := rfl
    have hiw : IntKind.i64.wrap (d + 1) = d + 1 := IntWalk.i64_in _ (by omega)
    have hS0 : (fun w' : World => w'.cell? ⟨w1.heap.size + 1, 5, none⟩ = some (.slice (some ⟨w6.heap.size, 0, none⟩) 2 2)) w7.drew := cell_of_heap HD.out.h0 5
    refine wp_region_K (fun w' => w'.cell? ⟨w1.heap.size + 1, 5, none⟩ = some (.slice (some ⟨w6.heap.size, 0, none⟩) 2 2)) (fun j => j == 9) (by kernel_rfl) ?_
    refine wpAnyK_take (i := 0) (v := ?_) rfl (by kernel_rfl) (by kernel_rfl) (by kernel_rfl) (by kernel_rfl) (fun _ _ _ h => h) (Or.inl ⟨by rfl, ?_⟩) hS0 ?_
    rotate_left
    · intro w9 hSw; (try dsimp only at hSw); go_simp; (try with_reducible rfl)
    try simp only [Act.put, List.setIfInBounds_toArray, List.set_cons_zero, List.set_cons_succ]
    refine wpAnyK_take (i := 1) (v := ?_) rfl (by kernel_rfl) (by kernel_rfl) (by kernel_rfl) (by kernel_rfl) (fun _ _ _ h => h) (Or.inl ⟨by rfl, ?_⟩) hS0 ?_
    rotate_left
    · intro w9 hSw; (try dsimp only at hSw); go_simp; (try with_reducible rfl)
    try simp only [Act.put, List.setIfInBounds_toArray, List.set_cons_zero, List.set_cons_succ]
    refine wpAnyK_take (i := 2) (v := ?_) rfl (by kernel_rfl) (by kernel_rfl) (by kernel_rfl) (by kernel_rfl) (fun _ _ _ h => h) (Or.inl ⟨by rfl, ?_⟩) hS0 ?_
    rotate_left
    · intro w9 hSw; (try dsimp only at hSw); go_simp; (try with_reducible rfl)
    try simp only [Act.put, List.setIfInBounds_toArray, List.set_cons_zero, List.set_cons_succ]
    refine wpAnyK_take (i := 3) (v := ?_) rfl (by kernel_rfl) (by kernel_rfl) (by kernel_rfl) (by kernel_rfl) (fun _ _ _ h => h) (Or.inl ⟨by rfl, ?_⟩) hS0 ?_
    rotate_left
    · intro w9 hSw; (try dsimp only at hSw); go_simp; (try with_reducible rfl)
    try simp only [Act.put, List.setIfInBounds_toArray, List.set_cons_zero, List.set_cons_succ]
    refine wpAnyK_take (i := 4) (v := ?_) rfl (by kernel_rfl) (by kernel_rfl) (by kernel_rfl) (by kernel_rfl) (fun _ _ _ h => h) (Or.inl ⟨by rfl, ?_⟩) hS0 ?_
    rotate_left
    · intro w9 hSw; (try dsimp only at hSw); go_simp; (try with_reducible rfl)
    try simp only [Act.put, List.setIfInBounds_toArray, List.set_cons_zero, List.set_cons_succ]
    refine wpAnyK_one (i := 5) (by kernel_rfl) rfl (fun K hK => ?_)
    go_simp
    refine cmo (IH.block _ (d + 1) _ r0 he HD.out.ps (by omega) (by omega)) ?_
    rintro e9 w30 ⟨hkp, hp⟩
    rcases r0 with ⟨u, ts6⟩ | ⟨l9, k9, er⟩
    rotate_left
    ·
     have hr9 : r = .bad l9 k9 er := HR0.out
     have hp9 : e9 = wrongE l9 k9 er := hp
     subst hp9
     subst hr9
     exact ⟨rfl, HD.out.kp.trans hkp, rfl⟩
    obtain ⟨hpt, Au, capu, rfl, hR⟩ := hp
    have HB6 : Hid (some (.ok ⟨t.text, ⟨#[]⟩, 0, t.line, t.col, [a, b, u]⟩ ts6) = some r) := hid HR0.out
    have HST := HD.out.got hkp hpt (Nat.le_refl _) hR
    have HVB : ∀ k, (Value.slice (some ⟨w6.heap.size, 0, none⟩) 2 2).ownBlock = some k → k < w7.drew.heap.size := Kd.R_lt HD.out.r0
    have hz30 : w7.heap.size ≤ w30.heap.size := hkp.size_le
    unfold nodeV
    clear hkp hpt hR he HD HR0 hS0 hiw n0 n1 n2 n3 n4 n5 nf t0 t1 t2 t3 t4 tf r0 r1 r2 r3 r4 r5 rf
    refine hK.out _ _ (fun _ => cell_of_heap HST.h0 5) ?_
    clear hK K
    refine wpAnyK_one (i := 6) (by kernel_rfl) rfl (fun K hK => ?_)
    go_simp
    refine hK.out _ _ (fun _ => cell_of_heap (hs_alloc HST.h0 _) 5) ?_
    clear hK K
    refine wpAnyK_law (i := 7) (by kernel_rfl) rfl (fun K hK => ?_)
    refine Kd.R_append kNode (w0 := w30) (W := w30) (w4.heap.size) rfl (.tmp 58) (.tmp 63) 24 26 (.agg #[.string ⟨#[]⟩, .string ⟨#[]⟩, .int .u64 0, .int .i64 0, .int .i64 0, .slice none 0 0]) 80 rfl Tryz.underlying24 node_info rfl (by decide) (by decide) (.slice (some ⟨w6.heap.size, 0, none⟩) 2 2) [a, b] u [.string u.kind, .string u.text, .int .u64 u.num, .int .i64 u.line, .int .i64 u.col, (.slice Au u.kids.length capu)] _ _ rfl rfl (app_M HST) (app_ne HST HVB) (app_fresh HST) HST.r1 (Below.refl _ _) ?aS ?aL ?_
    case aS => omega
    case aL => first | omega | (simp; done) | (simp <;> omega)
    intro v9 w9 hR9 _ hg9 _
    have HS40 := hid (Sta.appended hc HST (by omega) hg9 hR9)
    have hz9 : w30.heap.size ≤ w9.heap.size := hg9.size
    clear hR9 hg9
    refine wpList_nil (hK.out _ _ (fun _ => cell_of_heap HS40.out.h0 5) ?_)
    clear hK K
    try simp only [Act.put, List.setIfInBounds_toArray, List.set_cons_zero, List.set_cons_succ]
    have hy9 : w1.heap.size + 2 ≤ w9.heap.size := lt_of_heap HS40.out.h0
    obtain ⟨n0, n1, n2, n3, n4, n5, nf⟩ := cells6 HS40.out.h0
    obtain ⟨t0, t1, t2, t3, t4, tf⟩ := cells5 HS40.out.h1
    obtain ⟨r0, r1, r2, r3, r4, r5, rf⟩ := cells6 HS40.out.h2
    obtain ⟨A9, cap9, rfl⟩ := Kd.R_slice HS40.out.r0
    refine wpAnyK_one (i := 8) (by kernel_rfl) rfl (fun K hK => ?_)
    go_simp
    refine hK.out _ _ (fun _ => cell_of_heap HS40.out.h0 5) ?_
    clear hK K
    refine wpAnyK_one (i := 9) (by kernel_rfl) rfl (fun K hK => ?_)
    go_simp
    try go_wp2_with fail
    refine hK.out _ _ (fun h => absurd h (by decide)) ?_
    clear hK K
    refine wpAnyK_done (by kernel_rfl) ?_ _
    try go_wp2_with fail
    rw [(Option.some.inj HB6.out).symm]
    exact ret_sta hc (n := ⟨t.text, ⟨#[]⟩, 0, t.line, t.col, [a, b, u]⟩) (A := A9) (cap := cap9) (base := w4.heap.size) Tryz.results85 (by rfl) ((HS40.out.set hc (by omega) (by simp <;> omega) 5 (.slice A9 3 cap9)).rot) (by omega) (by omega) (by simp <;> omega)
theorem stmt_step (c : PC) (hc : c.Ok) (g : Nat) (hg : g ≤ 1000000000) (IH : BlocksOk c g) (w : World) (d : Int) (ts : List Tok) (r : PR Node) (h : stmtF (g + 1) d ts = some r) (hps : PS c w ts) (h0 : 0 ≤ d) (h1 : d ≤ 60) : Calls Tryz.prog 85 #[.pointer (some ⟨c.p, 0, none⟩), .int .i64 d] w (PostN c w r) := by
 simp only [stmtF] at h
 cases b0 : isTypeF ts
 ·
  cases b1 : namedF ts
  ·
   cases bk2 : ((nowT ts).kind != 0)
   ·
    have bk : ((nowT ts).kind == 0) = true := by simpa using bk2
    cases b3 : isF ts ⟨#[105, 102]⟩
    ·
     cases b4 : isF ts ⟨#[119, 104, 105, 108, 101]⟩
     ·
      cases b5 : isF ts ⟨#[114, 101, 116, 117, 114, 110]⟩
      ·
       cases b6 : isF ts ⟨#[97, 115, 115, 101, 114, 116]⟩
       ·
        cases b7 : isF ts ⟨#[97, 115, 115, 117, 109, 101]⟩
        ·
         exact stmt_none c hc g hg IH w d ts r _ (hid rfl) hps h0 h1 b0 b1 bk bk2 b3 b4 b5 b6 b7 (hid (by simpa only [Bool.or_true, Bool.true_or, Bool.or_false, Bool.false_or, Bool.or_self, Bool.false_and, Bool.true_and, Bool.false_eq_true, ↓reduceIte, b0, b1, bk2, b3, b4, b5, b6, b7] using h))
        ·
         exact stmt_assume c hc g hg IH w d ts r _ (hid rfl) hps h0 h1 b0 b1 bk bk2 b3 b4 b5 b6 b7 (hid (by simpa only [Bool.or_true, Bool.true_or, Bool.or_false, Bool.false_or, Bool.or_self, Bool.false_and, Bool.true_and, Bool.false_eq_true, ↓reduceIte, b0, b1, bk2, b3, b4, b5, b6, b7] using h))
       ·
        exact stmt_assert c hc g hg IH w d ts r _ (hid rfl) hps h0 h1 b0 b1 bk bk2 b3 b4 b5 b6 (hid (by simpa only [Bool.or_true, Bool.true_or, Bool.or_false, Bool.false_or, Bool.or_self, Bool.false_and, Bool.true_and, Bool.false_eq_true, ↓reduceIte, b0, b1, bk2, b3, b4, b5, b6] using h))
      ·
       cases bs : isF ts.tail ⟨#[59]⟩
       ·
        exact stmt_ret1 c hc g hg IH w d ts r _ (hid rfl) hps h0 h1 b0 b1 bk bk2 b3 b4 b5 bs (hid (by simpa only [Bool.or_true, Bool.true_or, Bool.or_false, Bool.false_or, Bool.or_self, Bool.false_and, Bool.true_and, Bool.false_eq_true, ↓reduceIte, b0, b1, bk2, b3, b4, b5, bs] using h))
       ·
        exact stmt_ret0 c hc g hg IH w d ts r _ (hid rfl) hps h0 h1 b0 b1 bk bk2 b3 b4 b5 bs (hid (by simpa only [Bool.or_true, Bool.true_or, Bool.or_false, Bool.false_or, Bool.or_self, Bool.false_and, Bool.true_and, Bool.false_eq_true, ↓reduceIte, b0, b1, bk2, b3, b4, b5, bs] using h))
     ·
      have bt : ((nowT ts).text.data.toList == [105, 102]) = false := by rw [isF_text b4]; rfl
      exact stmt_while c hc g hg IH w d ts r _ (hid rfl) hps h0 h1 b0 b1 bk bk2 b3 b4 (hid (by simpa only [Bool.or_true, Bool.true_or, Bool.or_false, Bool.false_or, Bool.or_self, Bool.false_and, Bool.true_and, Bool.false_eq_true, ↓reduceIte, b0, b1, bk2, b3, b4, bt] using h))
    ·
     have bt : ((nowT ts).text.data.toList == [105, 102]) = true := by rw [isF_text b3]; rfl
     exact stmt_if c hc g hg IH w d ts r _ (hid rfl) hps h0 h1 b0 b1 bk bk2 b3 (hid (by simpa only [Bool.or_true, Bool.true_or, Bool.or_false, Bool.false_or, Bool.or_self, Bool.false_and, Bool.true_and, Bool.false_eq_true, ↓reduceIte, b0, b1, bk2, b3, bt] using h))
   ·
    have bk : ((nowT ts).kind == 0) = false := by simpa using bk2
    exact stmt_kind c hc g hg IH w d ts r _ (hid rfl) hps h0 h1 b0 b1 bk bk2 (hid (by simpa only [Bool.or_true, Bool.true_or, Bool.or_false, Bool.false_or, Bool.or_self, Bool.false_and, Bool.true_and, Bool.false_eq_true, ↓reduceIte, b0, b1, bk2] using h))
  ·
   exact stmt_simple c hc g hg IH w d ts r _ (hid rfl) hps h0 h1 b0 b1 (hid (by simpa only [Bool.or_true, Bool.true_or, Bool.or_false, Bool.false_or, Bool.or_self, Bool.false_and, Bool.true_and, Bool.false_eq_true, ↓reduceIte, b0, b1] using h))
 ·
  exact stmt_local c hc g hg IH w d ts r _ (hid rfl) hps h0 h1 b0 (hid (by simpa only [Bool.or_true, Bool.true_or, Bool.or_false, Bool.false_or, Bool.or_self, Bool.false_and, Bool.true_and, Bool.false_eq_true, ↓reduceIte, b0] using h))
theorem blocks_ok (c : PC) (hc : c.Ok) : ∀ g, g ≤ 1000000000 → BlocksOk c g := by
 intro g
 induction g using Nat.strongRecOn with
 | _ g ih =>
  intro hg
  cases g with
  | zero => exact ⟨fun w d ts r h => by simp [blockF] at h, fun w d ts r h => by simp [stmtF] at h⟩
  | succ g =>
   refine ⟨fun w d ts r h hps h0 h1 => ?_, fun w d ts r h hps h0 h1 => stmt_step c hc g (by omega) (ih g (by omega) (by omega)) w d ts r h hps h0 h1⟩
   simp only [blockF] at h
   by_cases h60 : 60 < d
   ·
    rw [if_pos h60] at h
    obtain rfl := Option.some.inj h
    exact block_deep c hc w d ts hps h60
   ·
    rw [if_neg h60] at h
    exact block_walk c hc g (by omega) (fun q hq => ih q (by omega) (by omega)) w d ts r hps h0 h60 (hid h)
end Go.Proofs.YtdimhoilfopndaaGreatDoor
end
section
namespace Go.Proofs.YtdimhoilfopndaaGreatDoor
open Go.RowKit Go.Proofs.YtdimhoilfopndaaGreatDoorW.PrintWords
theorem Sta.rot4 {c : PC} {w W : World} {ts : List Tok} {p q r s : Nat × Obj} {hs : List (Nat × Obj)} {rs : List (Nat × Value × List Node)} (h : Sta c w W ts (p :: q :: r :: s :: hs) rs) : Sta c w W ts (s :: p :: q :: r :: hs) rs := h.sub (by simp +contextual) (fun _ h => h)
theorem listF_len {one : List Tok → Option (PR Node)} : ∀ (g : Nat) (a : List Node) (ts : List Tok) (l : List Node) (r : List Tok), listF one g a ts = some (.ok l r) → l.length ≤ a.length + g := by
 intro g
 induction g with
 | zero => intro a ts l r h; simp [listF] at h
 | succ g ih =>
  intro a ts l r h
  simp only [listF] at h
  rcases bnd_some h with ⟨_, _, _, _, h⟩ | ⟨n, r2, _, h⟩
  · cases h
  ·
   split at h
   ·
    injection h with h; injection h with h1 h2
    rw [← h1, List.length_append, List.length_cons, List.length_nil]; omega
   ·
    split at h
    ·
     have := ih _ _ _ _ h
     simp at this; omega
    · simp [badAt] at h
theorem listsF_len {one : List Tok → Option (PR Node)} {g : Nat} {ts : List Tok} {l : List Node} {r : List Tok} (h : listsF one g ts = some (.ok l r)) : l.length ≤ g := by
 simp only [listsF] at h
 split at h
 ·
  injection h with h; injection h with h1 h2
  rw [← h1]; exact Nat.zero_le _
 ·
  have := listF_len _ _ _ _ _ h
  simpa using this
section
variable {c : PC} {w W w1 : World} {ts : List Tok} {hs : List (Nat × Obj)} {rs : List (Nat × Value × List Node)} {b1 bl : Nat} {u v v1 : Value} {ys xs : List Node}
theorem app_rows (h : Sta c w W ts hs ((b1, u, ys) :: (bl, v, xs) :: rs)) (hb : bl ≤ b1) : kNode.R 26 W bl (fun k => (∀ p ∈ hs, k ≠ p.1) ∧ b1 ≤ k) u ys :=
 Kd.R_lower (Kd.R_mono (Kd.R_bound h.r0) (fun k hk => ⟨hk.1, hk.2.1⟩)) hb
theorem app_ne2 (h : Sta c w W ts hs ((b1, u, ys) :: (bl, v, xs) :: rs)) (hv : ∀ k, v.ownBlock = some k → k < b1) : ∀ k, ((∀ p ∈ hs, k ≠ p.1) ∧ b1 ≤ k) → (∀ p ∈ hs, k ≠ p.1) ∧ some k ≠ v.ownBlock :=
 fun k hk => ⟨hk.1, fun e => by have := hv k e.symm; omega⟩
theorem Sta.appended2 (hc : c.Ok) (h : Sta c w W ts hs [(b1, u, ys), (bl, v, xs)]) (hbl : w.heap.size ≤ bl) (hg : W.grownBy w1 v.ownBlock) (hR : kNode.R 26 w1 bl (fun k => ∀ p ∈ hs, k ≠ p.1) v1 (xs ++ ys)) : Sta c w w1 ts hs [(bl, v1, xs ++ ys)] := by
 have hlt := h.lt
 have hown : ∀ b, v.ownBlock = some b → bl ≤ b := Kd.R_base h.r1
 refine ⟨h.ps.grown hc hg (fun b hb => by have := hown b hb; omega), h.kp.grown hg (fun b hb => by have := hown b hb; omega), h.lt, fun p hp => ⟨?_, (h.held p hp).2⟩, fun q hq => ?_⟩
 ·
  rw [hg.block p.1 (h.heldLt p hp) (fun e => h.r1.1 p.1 e.symm p hp rfl)]
  exact (h.held p hp).1
 ·
  obtain rfl := List.mem_singleton.mp hq
  exact ⟨hR, by show c.p < bl; omega⟩
end
set_option maxRecDepth 20000 in
set_option maxHeartbeats 1600000 in
theorem item_func1 (c : PC) (hc : c.Ok) (g : Nat) (hg : g ≤ 1000000000) (w : World) (ts ts3 : List Tok) (r : PR Node) (t x : Node) (hps : PS c w ts) (bv : isF ts ⟨#[118, 111, 105, 100]⟩ = true) (HT : Hid (leafN ⟨#[116, 121, 112, 101]⟩ (nowT ts) = t)) (HN : Hid (nameF ts.tail = .ok x ts3)) (bp : isF ts3 ⟨#[40]⟩ = true) (HB : Hid (bnd (listsF paramF g ts3.tail) (fun l r3 => bnd (blockF g 1 r3) fun b r4 => some (.ok ⟨⟨#[102, 117, 110, 99]⟩, x.text, 0, t.line, t.col, [t] ++ l ++ [b]⟩ r4)) = some r)) : Calls Tryz.prog 31 #[.pointer (some ⟨c.p, 0, none⟩)] w (PostN c w r) := by
 have hlt := hps.lt
 have HS1 := hid (Sta.start hps)
 clear hps
 go_enter Tryz.func31, Tryz.ntmps31
 have HS2 : Hid (Sta c w ((w.alloc (.cells #[.string ⟨#[]⟩, .string ⟨#[]⟩, .int .u64 0, .int .i64 0, .int .i64 0, .slice none 0 0] 26)).alloc (.cells #[.string ⟨#[]⟩, .string ⟨#[]⟩, .int .u64 0, .int .i64 0, .int .i64 0, .slice none 0 0] 26)) ts [(w.heap.size + 1, (.cells #[.string ⟨#[]⟩, .string ⟨#[]⟩, .int .u64 0, .int .i64 0, .int .i64 0, .slice none 0 0] 26)), (w.heap.size, (.cells #[.string ⟨#[]⟩, .string ⟨#[]⟩, .int .u64 0, .int .i64 0, .int .i64 0, .slice none 0 0] 26))] []) := hid (by have h9 := (HS1.out.alloc (.cells #[.string ⟨#[]⟩, .string ⟨#[]⟩, .int .u64 0, .int .i64 0, .int .i64 0, .slice none 0 0] 26)).alloc (.cells #[.string ⟨#[]⟩, .string ⟨#[]⟩, .int .u64 0, .int .i64 0, .int .i64 0, .slice none 0 0] 26); rw [World.size_alloc] at h9; exact h9)
 clear HS1
 go_wp2_with fail
 refine cmo (is_gives c hc _ (ts) ⟨#[118, 111, 105, 100]⟩ HS2.out.ps) ?_
 rintro e9 w1 ⟨rfl, hov⟩
 rw [bv]
 have HS3 := hid (HS2.out.isOv hov)
 clear HS2
 have hz1 := hov.size_le
 try simp only [WZ] at hz1
 clear hov
 have hy1 : w.heap.size + 1 < w1.heap.size := lt_of_heap HS3.out.h0
 obtain ⟨t0, t1, t2, t3, t4, t5, tf⟩ := cells6 HS3.out.h0
 go_wp2_with fail
 refine cmo (leaf_calls c hc _ (ts) (⟨#[116, 121, 112, 101]⟩) HS3.out.ps (isF_kind bv)) ?_
 rintro e9 w2 ⟨rfl, hpt, hkt⟩
 have HS4 := hid (HS3.out.call hkt hpt)
 clear HS3
 clear hpt hkt
 rw [HT.out]
 have HK_t : Hid (t.kids = []) := hid (by rw [← HT.out]; exact leaf_kids _ _)
 have hy2 : w.heap.size + 1 < w2.heap.size := lt_of_heap HS4.out.h0
 clear t0 t1 t2 t3 t4 t5 tf
 obtain ⟨t0, t1, t2, t3, t4, t5, tf⟩ := cells6 HS4.out.h0
 go_wp2_with fail
 have HS5 := hid (HS4.out.set6 hc (by omega) (by simp <;> omega) (.string t.kind) (.string t.text) (.int .u64 t.num) (.int .i64 t.line) (.int .i64 t.col) (.slice none 0 0))
 clear HS4
 refine cmo (name_calls c hc _ (ts.tail) HS5.out.ps) ?_
 rintro e9 w3 ⟨hkp, hp9⟩
 rw [HN.out] at hp9
 obtain ⟨rfl, hk_x, hps9⟩ := hp9
 clear hk_x
 have HS6 := hid (HS5.out.call hkp hps9)
 clear HS5
 have hy3 : w.heap.size + 1 < w3.heap.size := lt_of_heap HS6.out.h0
 unfold nodeV
 clear hkp hps9 t0 t1 t2 t3 t4 t5 tf
 obtain ⟨t0, t1, t2, t3, t4, t5, tf⟩ := cells6 HS6.out.h0
 go_wp2_with fail
 have HS7 : Hid (Sta c w (((w3.alloc (.cells #[.string x.kind, .string x.text, .int .u64 x.num, .int .i64 x.line, .int .i64 x.col, .slice none 0 0] 26)).alloc (.cells #[.string t.kind, .string t.text, .int .u64 t.num, .int .i64 t.line, .int .i64 t.col, .slice none 0 0] 26)).alloc (.cells #[.string ⟨#[103, 108, 111, 98, 97, 108]⟩, .string x.text, .int .u64 0, .int .i64 t.line, .int .i64 t.col, (.slice (some ⟨w3.heap.size + 1, 0, none⟩) 1 1)] 26)) ts3 [(w3.heap.size + 1 + 1, (.cells #[.string ⟨#[103, 108, 111, 98, 97, 108]⟩, .string x.text, .int .u64 0, .int .i64 t.line, .int .i64 t.col, (.slice (some ⟨w3.heap.size + 1, 0, none⟩) 1 1)] 26)), (w3.heap.size, (.cells #[.string x.kind, .string x.text, .int .u64 x.num, .int .i64 x.line, .int .i64 x.col, .slice none 0 0] 26)), (w.heap.size + 1, (.cells #[.string t.kind, .string t.text, .int .u64 t.num, .int .i64 t.line, .int .i64 t.col, .slice none 0 0] 26)), (w.heap.size, (.cells #[.string ⟨#[]⟩, .string ⟨#[]⟩, .int .u64 0, .int .i64 0, .int .i64 0, .slice none 0 0] 26))] [(w3.heap.size + 1, (.slice (some ⟨w3.heap.size + 1, 0, none⟩) 1 1), [t])]) := hid (by have h9 := (((HS6.out.alloc (.cells #[.string x.kind, .string x.text, .int .u64 x.num, .int .i64 x.line, .int .i64 x.col, .slice none 0 0] 26)).nilK HK_t.out (w3.heap.size + 1) (by omega)).made1 (by simp)).alloc (.cells #[.string ⟨#[103, 108, 111, 98, 97, 108]⟩, .string x.text, .int .u64 0, .int .i64 t.line, .int .i64 t.col, (.slice (some ⟨w3.heap.size + 1, 0, none⟩) 1 1)] 26); simp only [World.size_alloc] at h9; exact h9)
 clear HS6
 clear t0 t1 t2 t3 t4 t5 tf
 refine cmo (take_calls c hc _ (ts3) ⟨#[40]⟩ HS7.out.ps) ?_
 rintro e9 w4 ⟨rfl, hpt, hkt⟩
 rw [bp] at hpt ⊢
 have hpt2 : PS c w4 (ts3.tail) := hpt
 have HS8 := hid (HS7.out.call hkt hpt2)
 clear HS7
 have hz4 := hkt.size_le
 try simp only [WZ] at hz4
 clear hpt hkt hpt2
 have hy4 : w3.heap.size + 1 + 1 < w4.heap.size := lt_of_heap HS8.out.h0
 obtain ⟨n0, n1, n2, n3, n4, n5, nf⟩ := cells6 HS8.out.h0
 obtain ⟨r0, r1, r2, r3, r4, r5, rf⟩ := cells6 HS8.out.h3
 go_wp2_with fail
 have HS9 : Hid (Sta c w (w4.setCell ⟨w3.heap.size + 1 + 1, 0, none⟩ (.string ⟨#[102, 117, 110, 99]⟩)) ts3.tail [(w3.heap.size + 1 + 1, (.cells #[.string ⟨#[102, 117, 110, 99]⟩, .string x.text, .int .u64 0, .int .i64 t.line, .int .i64 t.col, (.slice (some ⟨w3.heap.size + 1, 0, none⟩) 1 1)] 26)), (w3.heap.size, (.cells #[.string x.kind, .string x.text, .int .u64 x.num, .int .i64 x.line, .int .i64 x.col, .slice none 0 0] 26)), (w.heap.size + 1, (.cells #[.string t.kind, .string t.text, .int .u64 t.num, .int .i64 t.line, .int .i64 t.col, .slice none 0 0] 26)), (w.heap.size, (.cells #[.string ⟨#[]⟩, .string ⟨#[]⟩, .int .u64 0, .int .i64 0, .int .i64 0, .slice none 0 0] 26))] [(w3.heap.size + 1, (.slice (some ⟨w3.heap.size + 1, 0, none⟩) 1 1), [t])]) := hid (HS8.out.set hc (by omega) (by simp <;> omega) 0 (.string ⟨#[102, 117, 110, 99]⟩))
 clear HS8
 clear n0 n1 n2 n3 n4 n5 nf r0 r1 r2 r3 r4 r5 rf
 have hzg : w4.heap.size ≤ (w4.setCell ⟨w3.heap.size + 1 + 1, 0, none⟩ (.string ⟨#[102, 117, 110, 99]⟩)).heap.size := by simp only [World.size_setCell, World.size_alloc]; omega
 have HSG := HS9.out
 clear HS9
 revert hzg HSG
 generalize w4.setCell ⟨w3.heap.size + 1 + 1, 0, none⟩ (.string ⟨#[102, 117, 110, 99]⟩) = w5
 intro hz5 HSG
 have HS10 := hid HSG
 clear HSG
 obtain ⟨n0, n1, n2, n3, n4, n5, nf⟩ := cells6 HS10.out.h0
 obtain ⟨r0, r1, r2, r3, r4, r5, rf⟩ := cells6 HS10.out.h3
 obtain ⟨r0, he, hr0⟩ := bnd_some2 HB.out
 have HR0 := hid hr0
 clear hr0 HB
 have HD := hid (HS10.out.drew)
 have hd0 : w5.drew.heap.size = w5.heap.size := rfl
 have hS0 : (fun w' : World => w'.cell? ⟨w3.heap.size + 1 + 1, 5, none⟩ = some (.slice (some ⟨w3.heap.size + 1, 0, none⟩) 1 1)) w5.drew := cell_of_heap HD.out.h0 5
 refine wp_region_K (fun w' => w'.cell? ⟨w3.heap.size + 1 + 1, 5, none⟩ = some (.slice (some ⟨w3.heap.size + 1, 0, none⟩) 1 1)) (fun j => j == 8) (by kernel_rfl) ?_
 refine wpAnyK_take (i := 0) (v := ?_) rfl (by kernel_rfl) (by kernel_rfl) (by kernel_rfl) (by kernel_rfl) (fun _ _ _ h => h) (Or.inl ⟨by rfl, ?_⟩) hS0 ?_
 rotate_left
 · intro w9 hSw; (try dsimp only at hSw); go_simp; (try with_reducible rfl)
 try simp only [Act.put, List.setIfInBounds_toArray, List.set_cons_zero, List.set_cons_succ]
 refine wpAnyK_take (i := 1) (v := ?_) rfl (by kernel_rfl) (by kernel_rfl) (by kernel_rfl) (by kernel_rfl) (fun _ _ _ h => h) (Or.inl ⟨by rfl, ?_⟩) hS0 ?_
 rotate_left
 · intro w9 hSw; (try dsimp only at hSw); go_simp; (try with_reducible rfl)
 try simp only [Act.put, List.setIfInBounds_toArray, List.set_cons_zero, List.set_cons_succ]
 refine wpAnyK_take (i := 2) (v := ?_) rfl (by kernel_rfl) (by kernel_rfl) (by kernel_rfl) (by kernel_rfl) (fun _ _ _ h => h) (Or.inl ⟨by rfl, ?_⟩) hS0 ?_
 rotate_left
 · intro w9 hSw; (try dsimp only at hSw); go_simp; (try with_reducible rfl)
 try simp only [Act.put, List.setIfInBounds_toArray, List.set_cons_zero, List.set_cons_succ]
 refine wpAnyK_take (i := 3) (v := ?_) rfl (by kernel_rfl) (by kernel_rfl) (by kernel_rfl) (by kernel_rfl) (fun _ _ _ h => h) (Or.inl ⟨by rfl, ?_⟩) hS0 ?_
 rotate_left
 · intro w9 hSw; (try dsimp only at hSw); go_simp; (try with_reducible rfl)
 try simp only [Act.put, List.setIfInBounds_toArray, List.set_cons_zero, List.set_cons_succ]
 refine wpAnyK_take (i := 4) (v := ?_) rfl (by kernel_rfl) (by kernel_rfl) (by kernel_rfl) (by kernel_rfl) (fun _ _ _ h => h) (Or.inl ⟨by rfl, ?_⟩) hS0 ?_
 rotate_left
 · intro w9 hSw; (try dsimp only at hSw); go_simp; (try with_reducible rfl)
 try simp only [Act.put, List.setIfInBounds_toArray, List.set_cons_zero, List.set_cons_succ]
 refine wpAnyK_one (i := 5) (by kernel_rfl) rfl (fun K hK => ?_)
 go_simp
 refine cmo (list_par c hc _ [] paramF g hg (fun W ts r h hp _ => param_calls c hc W ts r h hp) _ r0 he HD.out.ps (fun p hp => by cases hp)) ?_
 rintro e9 w30 ⟨hkp, hp⟩
 rcases r0 with ⟨u, ts6⟩ | ⟨l9, k9, er⟩
 rotate_left
 ·
  have hr9 : r = .bad l9 k9 er := HR0.out
  have hp9 : e9 = wrongE l9 k9 er := hp
  subst hp9
  subst hr9
  exact ⟨rfl, HD.out.kp.trans hkp, rfl⟩
 obtain ⟨hpt, v30, rfl, hR⟩ := hp
 have HB6 : Hid (bnd (blockF g 1 ts6) (fun b r4 => some (.ok ⟨⟨#[102, 117, 110, 99]⟩, x.text, 0, t.line, t.col, [t] ++ u ++ [b]⟩ r4)) = some r) := hid HR0.out
 have hul : u.length ≤ g := listsF_len he
 have HST := HD.out.got hkp hpt (Nat.le_refl _) hR
 have HVB : ∀ k, (Value.slice (some ⟨w3.heap.size + 1, 0, none⟩) 1 1).ownBlock = some k → k < w5.drew.heap.size := Kd.R_lt HD.out.r0
 have hz30 : w5.heap.size ≤ w30.heap.size := hkp.size_le
 obtain ⟨A30, c30, rfl, hc30, hrow⟩ := OwnRow.reads (app_rows HST (by omega)).2
 clear hkp hpt hR he HD HR0 hS0 n0 n1 n2 n3 n4 n5 nf r0 r1 r2 r3 r4 r5 rf
 refine hK.out _ _ (fun _ => cell_of_heap HST.h0 5) ?_
 clear hK K
 refine wpAnyK_law (i := 6) (by kernel_rfl) rfl (fun K hK => ?_)
 refine Kd.R_append_rows kNode (w0 := w30) (W := w30) (w3.heap.size + 1) rfl (.tmp 29) (.tmp 33) 24 26 (.agg #[.string ⟨#[]⟩, .string ⟨#[]⟩, .int .u64 0, .int .i64 0, .int .i64 0, .slice none 0 0]) 80 rfl Tryz.underlying24 node_info rfl (by decide) (by decide) (.slice (some ⟨w3.heap.size + 1, 0, none⟩) 1 1) [t] u A30 u.length c30 _ _ rfl rfl HST.r1 hrow (fun _ _ h => h) (fun k hk => app_ne2 HST HVB k hk.1) (app_fresh HST) (Below.refl _ _) ?aS ?aL ?_
 case aS => omega
 case aL => simp only [List.length_cons, List.length_nil]; omega
 intro v9 w9 hR9 _ hg9 _
 have HS40 := hid (Sta.appended2 hc HST (by omega) hg9 hR9)
 have hz9 : w30.heap.size ≤ w9.heap.size := hg9.size
 clear hR9 hg9 HST hrow HVB
 refine wpList_nil (hK.out _ _ (fun _ => cell_of_heap HS40.out.h0 5) ?_)
 clear hK K
 try simp only [Act.put, List.setIfInBounds_toArray, List.set_cons_zero, List.set_cons_succ]
 obtain ⟨A9, cap9, rfl⟩ := Kd.R_slice HS40.out.r0
 have hy9 : w3.heap.size + 1 + 1 < w9.heap.size := lt_of_heap HS40.out.h0
 obtain ⟨n0, n1, n2, n3, n4, n5, nf⟩ := cells6 HS40.out.h0
 obtain ⟨r0, r1, r2, r3, r4, r5, rf⟩ := cells6 HS40.out.h3
 refine wpAnyK_one (i := 7) (by kernel_rfl) rfl (fun K hK => ?_)
 go_simp
 refine hK.out _ _ (fun _ => cell_of_heap HS40.out.h0 5) ?_
 clear hK K
 refine wpAnyK_one (i := 8) (by kernel_rfl) rfl (fun K hK => ?_)
 go_simp
 try go_wp2_with fail
 refine hK.out _ _ (fun h => absurd h (by decide)) ?_
 clear hK K
 refine wpAnyK_done (by kernel_rfl) ?_ _
 try go_wp2_with fail
 have HS41 := hid ((HS40.out.set hc (by omega) (by simp <;> omega) 5 (.slice A9 ([t] ++ u).length cap9)))
 clear HS40
 clear n0 n1 n2 n3 n4 n5 nf r0 r1 r2 r3 r4 r5 rf
 have hl9 : ([t] ++ u).length = u.length + 1 := by simp
 rw [hl9] at HS41
 have hzg : w9.heap.size ≤ (w9.setCell ⟨w3.heap.size + 1 + 1, 5, none⟩ (.slice A9 (u.length + 1) cap9)).heap.size := by simp only [World.size_setCell, World.size_alloc]; omega
 have HSG := HS41.out
 clear HS41
 revert hzg HSG
 generalize w9.setCell ⟨w3.heap.size + 1 + 1, 5, none⟩ (.slice A9 (u.length + 1) cap9) = w10
 intro hz10 HSG
 have HS42 := hid HSG
 clear HSG
 have hy10 : w3.heap.size + 1 + 1 < w10.heap.size := lt_of_heap HS42.out.h0
 obtain ⟨n0, n1, n2, n3, n4, n5, nf⟩ := cells6 HS42.out.h0
 obtain ⟨r0, r1, r2, r3, r4, r5, rf⟩ := cells6 HS42.out.h3
 skip
 obtain ⟨r0, he, hr0⟩ := bnd_some2 HB6.out
 have HR0 := hid hr0
 clear hr0 HB6
 have HD := hid (HS42.out.drew)
 have hd0 : w10.drew.heap.size = w10.heap.size := rfl
 have hS0 : (fun w' : World => w'.cell? ⟨w3.heap.size + 1 + 1, 5, none⟩ = some (.slice A9 (u.length + 1) cap9)) w10.drew := cell_of_heap HD.out.h0 5
 refine wp_region_K (fun w' => w'.cell? ⟨w3.heap.size + 1 + 1, 5, none⟩ = some (.slice A9 (u.length + 1) cap9)) (fun j => j == 7) (by kernel_rfl) ?_
 refine wpAnyK_take (i := 0) (v := ?_) rfl (by kernel_rfl) (by kernel_rfl) (by kernel_rfl) (by kernel_rfl) (fun _ _ _ h => h) (Or.inl ⟨by rfl, ?_⟩) hS0 ?_
 rotate_left
 · intro w9 hSw; (try dsimp only at hSw); go_simp; (try with_reducible rfl)
 try simp only [Act.put, List.setIfInBounds_toArray, List.set_cons_zero, List.set_cons_succ]
 refine wpAnyK_take (i := 1) (v := ?_) rfl (by kernel_rfl) (by kernel_rfl) (by kernel_rfl) (by kernel_rfl) (fun _ _ _ h => h) (Or.inl ⟨by rfl, ?_⟩) hS0 ?_
 rotate_left
 · intro w9 hSw; (try dsimp only at hSw); go_simp; (try with_reducible rfl)
 try simp only [Act.put, List.setIfInBounds_toArray, List.set_cons_zero, List.set_cons_succ]
 refine wpAnyK_take (i := 2) (v := ?_) rfl (by kernel_rfl) (by kernel_rfl) (by kernel_rfl) (by kernel_rfl) (fun _ _ _ h => h) (Or.inl ⟨by rfl, ?_⟩) hS0 ?_
 rotate_left
 · intro w9 hSw; (try dsimp only at hSw); go_simp; (try with_reducible rfl)
 try simp only [Act.put, List.setIfInBounds_toArray, List.set_cons_zero, List.set_cons_succ]
 refine wpAnyK_one (i := 3) (by kernel_rfl) rfl (fun K hK => ?_)
 go_simp
 refine cmo ((blocks_ok c hc g hg).block _ 1 _ r0 he HD.out.ps (by omega) (by omega)) ?_
 rintro e9 w40 ⟨hkp, hp⟩
 rcases r0 with ⟨b, ts7⟩ | ⟨l9, k9, er⟩
 rotate_left
 ·
  have hr9 : r = .bad l9 k9 er := HR0.out
  have hp9 : e9 = wrongE l9 k9 er := hp
  subst hp9
  subst hr9
  exact ⟨rfl, HD.out.kp.trans hkp, rfl⟩
 obtain ⟨hpt, Ab, capb, rfl, hR⟩ := hp
 have HB7 : Hid (some (.ok ⟨⟨#[102, 117, 110, 99]⟩, x.text, 0, t.line, t.col, [t] ++ u ++ [b]⟩ ts7) = some r) := hid HR0.out
 have HST := HD.out.got hkp hpt (Nat.le_refl _) hR
 have HVB : ∀ k, (Value.slice A9 (u.length + 1) cap9).ownBlock = some k → k < w10.drew.heap.size := Kd.R_lt HD.out.r0
 have hz40 : w10.heap.size ≤ w40.heap.size := hkp.size_le
 unfold nodeV
 clear hkp hpt hR he HD HR0 hS0 n0 n1 n2 n3 n4 n5 nf r0 r1 r2 r3 r4 r5 rf
 refine hK.out _ _ (fun _ => cell_of_heap HST.h0 5) ?_
 clear hK K
 refine wpAnyK_one (i := 4) (by kernel_rfl) rfl (fun K hK => ?_)
 go_simp
 refine hK.out _ _ (fun _ => cell_of_heap (hs_alloc HST.h0 _) 5) ?_
 clear hK K
 refine wpAnyK_law (i := 5) (by kernel_rfl) rfl (fun K hK => ?_)
 refine Kd.R_append kNode (w0 := w40) (W := w40) (w3.heap.size + 1) rfl (.tmp 37) (.tmp 40) 24 26 (.agg #[.string ⟨#[]⟩, .string ⟨#[]⟩, .int .u64 0, .int .i64 0, .int .i64 0, .slice none 0 0]) 80 rfl Tryz.underlying24 node_info rfl (by decide) (by decide) (.slice A9 (u.length + 1) cap9) ([t] ++ u) b [.string b.kind, .string b.text, .int .u64 b.num, .int .i64 b.line, .int .i64 b.col, (.slice Ab b.kids.length capb)] _ _ rfl rfl (app_M HST) (app_ne HST HVB) (app_fresh HST) HST.r1 (Below.refl _ _) ?aS ?aL ?_
 case aS => omega
 case aL => first | omega | (simp; done) | (simp <;> omega)
 intro v9 w9 hR9 _ hg9 _
 have HS140 := hid (Sta.appended hc HST (by omega) hg9 hR9)
 have hz9 : w40.heap.size ≤ w9.heap.size := hg9.size
 clear hR9 hg9
 refine wpList_nil (hK.out _ _ (fun _ => cell_of_heap HS140.out.h0 5) ?_)
 clear hK K
 try simp only [Act.put, List.setIfInBounds_toArray, List.set_cons_zero, List.set_cons_succ]
 clear HST HVB
 obtain ⟨A19, cap19, rfl⟩ := Kd.R_slice HS140.out.r0
 have hy9 : w3.heap.size + 1 + 1 < w9.heap.size := lt_of_heap HS140.out.h0
 obtain ⟨n0, n1, n2, n3, n4, n5, nf⟩ := cells6 HS140.out.h0
 obtain ⟨r0, r1, r2, r3, r4, r5, rf⟩ := cells6 HS140.out.h3
 refine wpAnyK_one (i := 6) (by kernel_rfl) rfl (fun K hK => ?_)
 go_simp
 refine hK.out _ _ (fun _ => cell_of_heap HS140.out.h0 5) ?_
 clear hK K
 refine wpAnyK_one (i := 7) (by kernel_rfl) rfl (fun K hK => ?_)
 go_simp
 try go_wp2_with fail
 refine hK.out _ _ (fun h => absurd h (by decide)) ?_
 clear hK K
 refine wpAnyK_done (by kernel_rfl) ?_ _
 try go_wp2_with fail
 rw [(Option.some.inj HB7.out).symm]
 rw [show u.length + 1 + 1 = ([t] ++ u ++ [b]).length by simp]
 exact ret_sta hc (n := ⟨⟨#[102, 117, 110, 99]⟩, x.text, 0, t.line, t.col, [t] ++ u ++ [b]⟩) (A := A19) (cap := cap19) (base := w3.heap.size + 1) Tryz.results31 (by rfl) ((HS140.out.set hc (by omega) (by simp <;> omega) 5 (.slice A19 ([t] ++ u ++ [b]).length cap19)).rot4) (by omega) (by omega) (by simp <;> omega)
set_option maxRecDepth 20000 in
set_option maxHeartbeats 1600000 in
theorem item_func0 (c : PC) (hc : c.Ok) (g : Nat) (hg : g ≤ 1000000000) (w : World) (ts ts3 : List Tok) (r : PR Node) (t x : Node) (hps : PS c w ts) (ts2 : List Tok) (bv : isF ts ⟨#[118, 111, 105, 100]⟩ = false) (HT : Hid (typF ts = .ok t ts2)) (HN : Hid (nameF ts2 = .ok x ts3)) (bp : isF ts3 ⟨#[40]⟩ = true) (HB : Hid (bnd (listsF paramF g ts3.tail) (fun l r3 => bnd (blockF g 1 r3) fun b r4 => some (.ok ⟨⟨#[102, 117, 110, 99]⟩, x.text, 0, t.line, t.col, [t] ++ l ++ [b]⟩ r4)) = some r)) : Calls Tryz.prog 31 #[.pointer (some ⟨c.p, 0, none⟩)] w (PostN c w r) := by
 have hlt := hps.lt
 have HS1 := hid (Sta.start hps)
 clear hps
 go_enter Tryz.func31, Tryz.ntmps31
 have HS2 : Hid (Sta c w ((w.alloc (.cells #[.string ⟨#[]⟩, .string ⟨#[]⟩, .int .u64 0, .int .i64 0, .int .i64 0, .slice none 0 0] 26)).alloc (.cells #[.string ⟨#[]⟩, .string ⟨#[]⟩, .int .u64 0, .int .i64 0, .int .i64 0, .slice none 0 0] 26)) ts [(w.heap.size + 1, (.cells #[.string ⟨#[]⟩, .string ⟨#[]⟩, .int .u64 0, .int .i64 0, .int .i64 0, .slice none 0 0] 26)), (w.heap.size, (.cells #[.string ⟨#[]⟩, .string ⟨#[]⟩, .int .u64 0, .int .i64 0, .int .i64 0, .slice none 0 0] 26))] []) := hid (by have h9 := (HS1.out.alloc (.cells #[.string ⟨#[]⟩, .string ⟨#[]⟩, .int .u64 0, .int .i64 0, .int .i64 0, .slice none 0 0] 26)).alloc (.cells #[.string ⟨#[]⟩, .string ⟨#[]⟩, .int .u64 0, .int .i64 0, .int .i64 0, .slice none 0 0] 26); rw [World.size_alloc] at h9; exact h9)
 clear HS1
 go_wp2_with fail
 refine cmo (is_gives c hc _ (ts) ⟨#[118, 111, 105, 100]⟩ HS2.out.ps) ?_
 rintro e9 w1 ⟨rfl, hov⟩
 rw [bv]
 have HS3 := hid (HS2.out.isOv hov)
 clear HS2
 have hz1 := hov.size_le
 try simp only [WZ] at hz1
 clear hov
 have hy1 : w.heap.size + 1 < w1.heap.size := lt_of_heap HS3.out.h0
 obtain ⟨t0, t1, t2, t3, t4, t5, tf⟩ := cells6 HS3.out.h0
 go_wp2_with fail
 refine cmo (typ_calls c hc _ ts HS3.out.ps) ?_
 rintro e9 w2 ⟨hkp, hp9⟩
 rw [HT.out] at hp9
 obtain ⟨rfl, hk_t, hps9⟩ := hp9
 have HK_t := hid hk_t
 clear hk_t
 have HS4 := hid (HS3.out.call hkp hps9)
 clear HS3
 clear hkp hps9
 unfold nodeV
 have hy2 : w.heap.size + 1 < w2.heap.size := lt_of_heap HS4.out.h0
 clear t0 t1 t2 t3 t4 t5 tf
 obtain ⟨t0, t1, t2, t3, t4, t5, tf⟩ := cells6 HS4.out.h0
 go_wp2_with fail
 have HS5 := hid (HS4.out.set6 hc (by omega) (by simp <;> omega) (.string t.kind) (.string t.text) (.int .u64 t.num) (.int .i64 t.line) (.int .i64 t.col) (.slice none 0 0))
 clear HS4
 refine cmo (name_calls c hc _ (ts2) HS5.out.ps) ?_
 rintro e9 w3 ⟨hkp, hp9⟩
 rw [HN.out] at hp9
 obtain ⟨rfl, hk_x, hps9⟩ := hp9
 clear hk_x
 have HS6 := hid (HS5.out.call hkp hps9)
 clear HS5
 have hy3 : w.heap.size + 1 < w3.heap.size := lt_of_heap HS6.out.h0
 unfold nodeV
 clear hkp hps9 t0 t1 t2 t3 t4 t5 tf
 obtain ⟨t0, t1, t2, t3, t4, t5, tf⟩ := cells6 HS6.out.h0
 go_wp2_with fail
 have HS7 : Hid (Sta c w (((w3.alloc (.cells #[.string x.kind, .string x.text, .int .u64 x.num, .int .i64 x.line, .int .i64 x.col, .slice none 0 0] 26)).alloc (.cells #[.string t.kind, .string t.text, .int .u64 t.num, .int .i64 t.line, .int .i64 t.col, .slice none 0 0] 26)).alloc (.cells #[.string ⟨#[103, 108, 111, 98, 97, 108]⟩, .string x.text, .int .u64 0, .int .i64 t.line, .int .i64 t.col, (.slice (some ⟨w3.heap.size + 1, 0, none⟩) 1 1)] 26)) ts3 [(w3.heap.size + 1 + 1, (.cells #[.string ⟨#[103, 108, 111, 98, 97, 108]⟩, .string x.text, .int .u64 0, .int .i64 t.line, .int .i64 t.col, (.slice (some ⟨w3.heap.size + 1, 0, none⟩) 1 1)] 26)), (w3.heap.size, (.cells #[.string x.kind, .string x.text, .int .u64 x.num, .int .i64 x.line, .int .i64 x.col, .slice none 0 0] 26)), (w.heap.size + 1, (.cells #[.string t.kind, .string t.text, .int .u64 t.num, .int .i64 t.line, .int .i64 t.col, .slice none 0 0] 26)), (w.heap.size, (.cells #[.string ⟨#[]⟩, .string ⟨#[]⟩, .int .u64 0, .int .i64 0, .int .i64 0, .slice none 0 0] 26))] [(w3.heap.size + 1, (.slice (some ⟨w3.heap.size + 1, 0, none⟩) 1 1), [t])]) := hid (by have h9 := (((HS6.out.alloc (.cells #[.string x.kind, .string x.text, .int .u64 x.num, .int .i64 x.line, .int .i64 x.col, .slice none 0 0] 26)).nilK HK_t.out (w3.heap.size + 1) (by omega)).made1 (by simp)).alloc (.cells #[.string ⟨#[103, 108, 111, 98, 97, 108]⟩, .string x.text, .int .u64 0, .int .i64 t.line, .int .i64 t.col, (.slice (some ⟨w3.heap.size + 1, 0, none⟩) 1 1)] 26); simp only [World.size_alloc] at h9; exact h9)
 clear HS6
 clear t0 t1 t2 t3 t4 t5 tf
 refine cmo (take_calls c hc _ (ts3) ⟨#[40]⟩ HS7.out.ps) ?_
 rintro e9 w4 ⟨rfl, hpt, hkt⟩
 rw [bp] at hpt ⊢
 have hpt2 : PS c w4 (ts3.tail) := hpt
 have HS8 := hid (HS7.out.call hkt hpt2)
 clear HS7
 have hz4 := hkt.size_le
 try simp only [WZ] at hz4
 clear hpt hkt hpt2
 have hy4 : w3.heap.size + 1 + 1 < w4.heap.size := lt_of_heap HS8.out.h0
 obtain ⟨n0, n1, n2, n3, n4, n5, nf⟩ := cells6 HS8.out.h0
 obtain ⟨r0, r1, r2, r3, r4, r5, rf⟩ := cells6 HS8.out.h3
 go_wp2_with fail
 have HS9 : Hid (Sta c w (w4.setCell ⟨w3.heap.size + 1 + 1, 0, none⟩ (.string ⟨#[102, 117, 110, 99]⟩)) ts3.tail [(w3.heap.size + 1 + 1, (.cells #[.string ⟨#[102, 117, 110, 99]⟩, .string x.text, .int .u64 0, .int .i64 t.line, .int .i64 t.col, (.slice (some ⟨w3.heap.size + 1, 0, none⟩) 1 1)] 26)), (w3.heap.size, (.cells #[.string x.kind, .string x.text, .int .u64 x.num, .int .i64 x.line, .int .i64 x.col, .slice none 0 0] 26)), (w.heap.size + 1, (.cells #[.string t.kind, .string t.text, .int .u64 t.num, .int .i64 t.line, .int .i64 t.col, .slice none 0 0] 26)), (w.heap.size, (.cells #[.string ⟨#[]⟩, .string ⟨#[]⟩, .int .u64 0, .int .i64 0, .int .i64 0, .slice none 0 0] 26))] [(w3.heap.size + 1, (.slice (some ⟨w3.heap.size + 1, 0, none⟩) 1 1), [t])]) := hid (HS8.out.set hc (by omega) (by simp <;> omega) 0 (.string ⟨#[102, 117, 110, 99]⟩))
 clear HS8
 clear n0 n1 n2 n3 n4 n5 nf r0 r1 r2 r3 r4 r5 rf
 have hzg : w4.heap.size ≤ (w4.setCell ⟨w3.heap.size + 1 + 1, 0, none⟩ (.string ⟨#[102, 117, 110, 99]⟩)).heap.size := by simp only [World.size_setCell, World.size_alloc]; omega
 have HSG := HS9.out
 clear HS9
 revert hzg HSG
 generalize w4.setCell ⟨w3.heap.size + 1 + 1, 0, none⟩ (.string ⟨#[102, 117, 110, 99]⟩) = w5
 intro hz5 HSG
 have HS10 := hid HSG
 clear HSG
 obtain ⟨n0, n1, n2, n3, n4, n5, nf⟩ := cells6 HS10.out.h0
 obtain ⟨r0, r1, r2, r3, r4, r5, rf⟩ := cells6 HS10.out.h3
 obtain ⟨r0, he, hr0⟩ := bnd_some2 HB.out
 have HR0 := hid hr0
 clear hr0 HB
 have HD := hid (HS10.out.drew)
 have hd0 : w5.drew.heap.size = w5.heap.size := rfl
 have hS0 : (fun w' : World => w'.cell? ⟨w3.heap.size + 1 + 1, 5, none⟩ = some (.slice (some ⟨w3.heap.size + 1, 0, none⟩) 1 1)) w5.drew := cell_of_heap HD.out.h0 5
 refine wp_region_K (fun w' => w'.cell? ⟨w3.heap.size + 1 + 1, 5, none⟩ = some (.slice (some ⟨w3.heap.size + 1, 0, none⟩) 1 1)) (fun j => j == 8) (by kernel_rfl) ?_
 refine wpAnyK_take (i := 0) (v := ?_) rfl (by kernel_rfl) (by kernel_rfl) (by kernel_rfl) (by kernel_rfl) (fun _ _ _ h => h) (Or.inl ⟨by rfl, ?_⟩) hS0 ?_
 rotate_left
 · intro w9 hSw; (try dsimp only at hSw); go_simp; (try with_reducible rfl)
 try simp only [Act.put, List.setIfInBounds_toArray, List.set_cons_zero, List.set_cons_succ]
 refine wpAnyK_take (i := 1) (v := ?_) rfl (by kernel_rfl) (by kernel_rfl) (by kernel_rfl) (by kernel_rfl) (fun _ _ _ h => h) (Or.inl ⟨by rfl, ?_⟩) hS0 ?_
 rotate_left
 · intro w9 hSw; (try dsimp only at hSw); go_simp; (try with_reducible rfl)
 try simp only [Act.put, List.setIfInBounds_toArray, List.set_cons_zero, List.set_cons_succ]
 refine wpAnyK_take (i := 2) (v := ?_) rfl (by kernel_rfl) (by kernel_rfl) (by kernel_rfl) (by kernel_rfl) (fun _ _ _ h => h) (Or.inl ⟨by rfl, ?_⟩) hS0 ?_
 rotate_left
 · intro w9 hSw; (try dsimp only at hSw); go_simp; (try with_reducible rfl)
 try simp only [Act.put, List.setIfInBounds_toArray, List.set_cons_zero, List.set_cons_succ]
 refine wpAnyK_take (i := 3) (v := ?_) rfl (by kernel_rfl) (by kernel_rfl) (by kernel_rfl) (by kernel_rfl) (fun _ _ _ h => h) (Or.inl ⟨by rfl, ?_⟩) hS0 ?_
 rotate_left
 · intro w9 hSw; (try dsimp only at hSw); go_simp; (try with_reducible rfl)
 try simp only [Act.put, List.setIfInBounds_toArray, List.set_cons_zero, List.set_cons_succ]
 refine wpAnyK_take (i := 4) (v := ?_) rfl (by kernel_rfl) (by kernel_rfl) (by kernel_rfl) (by kernel_rfl) (fun _ _ _ h => h) (Or.inl ⟨by rfl, ?_⟩) hS0 ?_
 rotate_left
 · intro w9 hSw; (try dsimp only at hSw); go_simp; (try with_reducible rfl)
 try simp only [Act.put, List.setIfInBounds_toArray, List.set_cons_zero, List.set_cons_succ]
 refine wpAnyK_one (i := 5) (by kernel_rfl) rfl (fun K hK => ?_)
 go_simp
 refine cmo (list_par c hc _ [] paramF g hg (fun W ts r h hp _ => param_calls c hc W ts r h hp) _ r0 he HD.out.ps (fun p hp => by cases hp)) ?_
 rintro e9 w30 ⟨hkp, hp⟩
 rcases r0 with ⟨u, ts6⟩ | ⟨l9, k9, er⟩
 rotate_left
 ·
  have hr9 : r = .bad l9 k9 er := HR0.out
  have hp9 : e9 = wrongE l9 k9 er := hp
  subst hp9
  subst hr9
  exact ⟨rfl, HD.out.kp.trans hkp, rfl⟩
 obtain ⟨hpt, v30, rfl, hR⟩ := hp
 have HB6 : Hid (bnd (blockF g 1 ts6) (fun b r4 => some (.ok ⟨⟨#[102, 117, 110, 99]⟩, x.text, 0, t.line, t.col, [t] ++ u ++ [b]⟩ r4)) = some r) := hid HR0.out
 have hul : u.length ≤ g := listsF_len he
 have HST := HD.out.got hkp hpt (Nat.le_refl _) hR
 have HVB : ∀ k, (Value.slice (some ⟨w3.heap.size + 1, 0, none⟩) 1 1).ownBlock = some k → k < w5.drew.heap.size := Kd.R_lt HD.out.r0
 have hz30 : w5.heap.size ≤ w30.heap.size := hkp.size_le
 obtain ⟨A30, c30, rfl, hc30, hrow⟩ := OwnRow.reads (app_rows HST (by omega)).2
 clear hkp hpt hR he HD HR0 hS0 n0 n1 n2 n3 n4 n5 nf r0 r1 r2 r3 r4 r5 rf
 refine hK.out _ _ (fun _ => cell_of_heap HST.h0 5) ?_
 clear hK K
 refine wpAnyK_law (i := 6) (by kernel_rfl) rfl (fun K hK => ?_)
 refine Kd.R_append_rows kNode (w0 := w30) (W := w30) (w3.heap.size + 1) rfl (.tmp 29) (.tmp 33) 24 26 (.agg #[.string ⟨#[]⟩, .string ⟨#[]⟩, .int .u64 0, .int .i64 0, .int .i64 0, .slice none 0 0]) 80 rfl Tryz.underlying24 node_info rfl (by decide) (by decide) (.slice (some ⟨w3.heap.size + 1, 0, none⟩) 1 1) [t] u A30 u.length c30 _ _ rfl rfl HST.r1 hrow (fun _ _ h => h) (fun k hk => app_ne2 HST HVB k hk.1) (app_fresh HST) (Below.refl _ _) ?aS ?aL ?_
 case aS => omega
 case aL => simp only [List.length_cons, List.length_nil]; omega
 intro v9 w9 hR9 _ hg9 _
 have HS40 := hid (Sta.appended2 hc HST (by omega) hg9 hR9)
 have hz9 : w30.heap.size ≤ w9.heap.size := hg9.size
 clear hR9 hg9 HST hrow HVB
 refine wpList_nil (hK.out _ _ (fun _ => cell_of_heap HS40.out.h0 5) ?_)
 clear hK K
 try simp only [Act.put, List.setIfInBounds_toArray, List.set_cons_zero, List.set_cons_succ]
 obtain ⟨A9, cap9, rfl⟩ := Kd.R_slice HS40.out.r0
 have hy9 : w3.heap.size + 1 + 1 < w9.heap.size := lt_of_heap HS40.out.h0
 obtain ⟨n0, n1, n2, n3, n4, n5, nf⟩ := cells6 HS40.out.h0
 obtain ⟨r0, r1, r2, r3, r4, r5, rf⟩ := cells6 HS40.out.h3
 refine wpAnyK_one (i := 7) (by kernel_rfl) rfl (fun K hK => ?_)
 go_simp
 refine hK.out _ _ (fun _ => cell_of_heap HS40.out.h0 5) ?_
 clear hK K
 refine wpAnyK_one (i := 8) (by kernel_rfl) rfl (fun K hK => ?_)
 go_simp
 try go_wp2_with fail
 refine hK.out _ _ (fun h => absurd h (by decide)) ?_
 clear hK K
 refine wpAnyK_done (by kernel_rfl) ?_ _
 try go_wp2_with fail
 have HS41 := hid ((HS40.out.set hc (by omega) (by simp <;> omega) 5 (.slice A9 ([t] ++ u).length cap9)))
 clear HS40
 clear n0 n1 n2 n3 n4 n5 nf r0 r1 r2 r3 r4 r5 rf
 have hl9 : ([t] ++ u).length = u.length + 1 := by simp
 rw [hl9] at HS41
 have hzg : w9.heap.size ≤ (w9.setCell ⟨w3.heap.size + 1 + 1, 5, none⟩ (.slice A9 (u.length + 1) cap9)).heap.size := by simp only [World.size_setCell, World.size_alloc]; omega
 have HSG := HS41.out
 clear HS41
 revert hzg HSG
 generalize w9.setCell ⟨w3.heap.size + 1 + 1, 5, none⟩ (.slice A9 (u.length + 1) cap9) = w10
 intro hz10 HSG
 have HS42 := hid HSG
 clear HSG
 have hy10 : w3.heap.size + 1 + 1 < w10.heap.size := lt_of_heap HS42.out.h0
 obtain ⟨n0, n1, n2, n3, n4, n5, nf⟩ := cells6 HS42.out.h0
 obtain ⟨r0, r1, r2, r3, r4, r5, rf⟩ := cells6 HS42.out.h3
 skip
 obtain ⟨r0, he, hr0⟩ := bnd_some2 HB6.out
 have HR0 := hid hr0
 clear hr0 HB6
 have HD := hid (HS42.out.drew)
 have hd0 : w10.drew.heap.size = w10.heap.size := rfl
 have hS0 : (fun w' : World => w'.cell? ⟨w3.heap.size + 1 + 1, 5, none⟩ = some (.slice A9 (u.length + 1) cap9)) w10.drew := cell_of_heap HD.out.h0 5
 refine wp_region_K (fun w' => w'.cell? ⟨w3.heap.size + 1 + 1, 5, none⟩ = some (.slice A9 (u.length + 1) cap9)) (fun j => j == 7) (by kernel_rfl) ?_
 refine wpAnyK_take (i := 0) (v := ?_) rfl (by kernel_rfl) (by kernel_rfl) (by kernel_rfl) (by kernel_rfl) (fun _ _ _ h => h) (Or.inl ⟨by rfl, ?_⟩) hS0 ?_
 rotate_left
 · intro w9 hSw; (try dsimp only at hSw); go_simp; (try with_reducible rfl)
 try simp only [Act.put, List.setIfInBounds_toArray, List.set_cons_zero, List.set_cons_succ]
 refine wpAnyK_take (i := 1) (v := ?_) rfl (by kernel_rfl) (by kernel_rfl) (by kernel_rfl) (by kernel_rfl) (fun _ _ _ h => h) (Or.inl ⟨by rfl, ?_⟩) hS0 ?_
 rotate_left
 · intro w9 hSw; (try dsimp only at hSw); go_simp; (try with_reducible rfl)
 try simp only [Act.put, List.setIfInBounds_toArray, List.set_cons_zero, List.set_cons_succ]
 refine wpAnyK_take (i := 2) (v := ?_) rfl (by kernel_rfl) (by kernel_rfl) (by kernel_rfl) (by kernel_rfl) (fun _ _ _ h => h) (Or.inl ⟨by rfl, ?_⟩) hS0 ?_
 rotate_left
 · intro w9 hSw; (try dsimp only at hSw); go_simp; (try with_reducible rfl)
 try simp only [Act.put, List.setIfInBounds_toArray, List.set_cons_zero, List.set_cons_succ]
 refine wpAnyK_one (i := 3) (by kernel_rfl) rfl (fun K hK => ?_)
 go_simp
 refine cmo ((blocks_ok c hc g hg).block _ 1 _ r0 he HD.out.ps (by omega) (by omega)) ?_
 rintro e9 w40 ⟨hkp, hp⟩
 rcases r0 with ⟨b, ts7⟩ | ⟨l9, k9, er⟩
 rotate_left
 ·
  have hr9 : r = .bad l9 k9 er := HR0.out
  have hp9 : e9 = wrongE l9 k9 er := hp
  subst hp9
  subst hr9
  exact ⟨rfl, HD.out.kp.trans hkp, rfl⟩
 obtain ⟨hpt, Ab, capb, rfl, hR⟩ := hp
 have HB7 : Hid (some (.ok ⟨⟨#[102, 117, 110, 99]⟩, x.text, 0, t.line, t.col, [t] ++ u ++ [b]⟩ ts7) = some r) := hid HR0.out
 have HST := HD.out.got hkp hpt (Nat.le_refl _) hR
 have HVB : ∀ k, (Value.slice A9 (u.length + 1) cap9).ownBlock = some k → k < w10.drew.heap.size := Kd.R_lt HD.out.r0
 have hz40 : w10.heap.size ≤ w40.heap.size := hkp.size_le
 unfold nodeV
 clear hkp hpt hR he HD HR0 hS0 n0 n1 n2 n3 n4 n5 nf r0 r1 r2 r3 r4 r5 rf
 refine hK.out _ _ (fun _ => cell_of_heap HST.h0 5) ?_
 clear hK K
 refine wpAnyK_one (i := 4) (by kernel_rfl) rfl (fun K hK => ?_)
 go_simp
 refine hK.out _ _ (fun _ => cell_of_heap (hs_alloc HST.h0 _) 5) ?_
 clear hK K
 refine wpAnyK_law (i := 5) (by kernel_rfl) rfl (fun K hK => ?_)
 refine Kd.R_append kNode (w0 := w40) (W := w40) (w3.heap.size + 1) rfl (.tmp 37) (.tmp 40) 24 26 (.agg #[.string ⟨#[]⟩, .string ⟨#[]⟩, .int .u64 0, .int .i64 0, .int .i64 0, .slice none 0 0]) 80 rfl Tryz.underlying24 node_info rfl (by decide) (by decide) (.slice A9 (u.length + 1) cap9) ([t] ++ u) b [.string b.kind, .string b.text, .int .u64 b.num, .int .i64 b.line, .int .i64 b.col, (.slice Ab b.kids.length capb)] _ _ rfl rfl (app_M HST) (app_ne HST HVB) (app_fresh HST) HST.r1 (Below.refl _ _) ?aS ?aL ?_
 case aS => omega
 case aL => first | omega | (simp; done) | (simp <;> omega)
 intro v9 w9 hR9 _ hg9 _
 have HS140 := hid (Sta.appended hc HST (by omega) hg9 hR9)
 have hz9 : w40.heap.size ≤ w9.heap.size := hg9.size
 clear hR9 hg9
 refine wpList_nil (hK.out _ _ (fun _ => cell_of_heap HS140.out.h0 5) ?_)
 clear hK K
 try simp only [Act.put, List.setIfInBounds_toArray, List.set_cons_zero, List.set_cons_succ]
 clear HST HVB
 obtain ⟨A19, cap19, rfl⟩ := Kd.R_slice HS140.out.r0
 have hy9 : w3.heap.size + 1 + 1 < w9.heap.size := lt_of_heap HS140.out.h0
 obtain ⟨n0, n1, n2, n3, n4, n5, nf⟩ := cells6 HS140.out.h0
 obtain ⟨r0, r1, r2, r3, r4, r5, rf⟩ := cells6 HS140.out.h3
 refine wpAnyK_one (i := 6) (by kernel_rfl) rfl (fun K hK => ?_)
 go_simp
 refine hK.out _ _ (fun _ => cell_of_heap HS140.out.h0 5) ?_
 clear hK K
 refine wpAnyK_one (i := 7) (by kernel_rfl) rfl (fun K hK => ?_)
 go_simp
 try go_wp2_with fail
 refine hK.out _ _ (fun h => absurd h (by decide)) ?_
 clear hK K
 refine wpAnyK_done (by kernel_rfl) ?_ _
 try go_wp2_with fail
 rw [(Option.some.inj HB7.out).symm]
 rw [show u.length + 1 + 1 = ([t] ++ u ++ [b]).length by simp]
 exact ret_sta hc (n := ⟨⟨#[102, 117, 110, 99]⟩, x.text, 0, t.line, t.col, [t] ++ u ++ [b]⟩) (A := A19) (cap := cap19) (base := w3.heap.size + 1) Tryz.results31 (by rfl) ((HS140.out.set hc (by omega) (by simp <;> omega) 5 (.slice A19 ([t] ++ u ++ [b]).length cap19)).rot4) (by omega) (by omega) (by simp <;> omega)
end Go.Proofs.YtdimhoilfopndaaGreatDoor
end
section
namespace Go.Proofs.YtdimhoilfopndaaGreatDoor
open Go.RowKit
abbrev Out := Option (List ByteArray)
def sq (a b : Out) : Out := a.bind fun x => b.map fun y => x ++ y
def eqB (a b : ByteArray) : Bool := a.data.toList == b.data.toList
def plainB (n : Node) (kind : ByteArray) (kids : Int) (text num : Bool) : Bool := eqB n.kind kind && (((n.kids.length : Int) == kids) && ((text || eqB n.text ⟨#[]⟩) && (num || n.num == 0)))
def givenB (s : ByteArray) : Bool := ((lexR s).err == 0) && (((lexR s).toks.length == 2) && (((nowT (lexR s).toks).kind == 0) && (eqB (nowT (lexR s).toks).text s && !kwB s.data.toList)))
def nameS (n : Node) : Out := if givenB n.text then some [n.text] else none
def typS (n : Node) (void : Bool) : Out := if plainB n ⟨#[116, 121, 112, 101]⟩ 0 true false && (typedB n.text || (void && eqB n.text ⟨#[118, 111, 105, 100]⟩)) then some [n.text] else none
def kidN (n : Node) (i : Nat) : Node := n.kids.getD i zNode
def bindingB (op : ByteArray) : Bool := !(eqB op ⟨#[]⟩) && (List.range 10).any fun i => levelB i op
def digitsB (v : Int) : ByteArray := ⟨(Lib.decDigits v.toNat).toArray⟩
def commas (f : Node → Out) : Bool → List Node → Out
 | _, [] => some []
 | first, k :: ks => sq (sq (if first then some [] else some [⟨#[44]⟩]) (f k)) (commas f false ks)
def each (f : Node → Out) : List Node → Out
 | [] => some []
 | k :: ks => sq (f k) (each f ks)
mutual
def targetS : Nat → Node → Out
 | 0, _ => none
 | g + 1, n => if eqB n.kind ⟨#[110, 97, 109, 101]⟩ then (if plainB n ⟨#[110, 97, 109, 101]⟩ 0 true false then nameS n else none)
  else if plainB n ⟨#[105, 110, 100, 101, 120]⟩ 1 true false then sq (nameS n) (sq (some [⟨#[91]⟩]) (sq (exprS g (kidN n 0) true) (some [⟨#[93]⟩]))) else none
def coreS : Nat → Node → Out
 | 0, _ => none
 | g + 1, n =>
  if eqB n.kind ⟨#[110, 117, 109]⟩ then (if plainB n ⟨#[110, 117, 109]⟩ 0 false true then some [digitsB n.num] else none)
  else if eqB n.kind ⟨#[116, 114, 117, 101]⟩ || eqB n.kind ⟨#[102, 97, 108, 115, 101]⟩ then (if plainB n n.kind 0 false false then some [n.kind] else none)
  else if eqB n.kind ⟨#[117, 110, 97, 114, 121]⟩ then (if plainB n ⟨#[117, 110, 97, 114, 121]⟩ 1 true false && (eqB n.text ⟨#[33]⟩ || (eqB n.text ⟨#[126]⟩ || eqB n.text ⟨#[45]⟩)) then sq (some [n.text]) (exprS g (kidN n 0) false) else none)
  else if eqB n.kind ⟨#[98, 105, 110, 97, 114, 121]⟩ then (if plainB n ⟨#[98, 105, 110, 97, 114, 121]⟩ 2 true false && bindingB n.text then sq (exprS g (kidN n 0) false) (sq (some [n.text]) (exprS g (kidN n 1) false)) else none)
  else if eqB n.kind ⟨#[99, 97, 115, 116]⟩ then (if plainB n ⟨#[99, 97, 115, 116]⟩ 1 true false && typedB n.text then sq (some [⟨#[40]⟩, n.text, ⟨#[41]⟩]) (exprS g (kidN n 0) false) else none)
  else targetS g n
def exprS : Nat → Node → Bool → Out
 | 0, _, _ => none
 | g + 1, n, whole =>
  if (eqB n.kind ⟨#[117, 110, 97, 114, 121]⟩ || (eqB n.kind ⟨#[98, 105, 110, 97, 114, 121]⟩ || eqB n.kind ⟨#[99, 97, 115, 116]⟩)) && !whole then sq (some [⟨#[40]⟩]) (sq (coreS g n) (some [⟨#[41]⟩])) else coreS g n
end
def callS (g : Nat) (n : Node) : Out := if plainB n ⟨#[99, 97, 108, 108]⟩ n.kids.length true false then sq (nameS n) (sq (some [⟨#[40]⟩]) (sq (commas (fun k => exprS g k true) true n.kids) (some [⟨#[41]⟩]))) else none
mutual
def blockS : Nat → Node → Out
 | 0, _ => none
 | g + 1, n => if plainB n ⟨#[98, 108, 111, 99, 107]⟩ n.kids.length false false then sq (some [⟨#[123]⟩]) (sq (each (stmtS g) n.kids) (some [⟨#[125]⟩])) else none
def branchS : Nat → Node → Out
 | 0, _ => none
 | g + 1, n => if plainB n n.kind n.kids.length false false && ((n.kids.length == 2) || (eqB n.kind ⟨#[105, 102]⟩ && (n.kids.length == 3))) then
   sq (some [n.kind, ⟨#[40]⟩]) (sq (exprS g (kidN n 0) true) (sq (some [⟨#[41]⟩]) (sq (blockS g (kidN n 1)) (if n.kids.length == 3 then sq (some [⟨#[101, 108, 115, 101]⟩]) (blockS g (kidN n 2)) else some [])))) else none
def stmtS : Nat → Node → Out
 | 0, _ => none
 | g + 1, n =>
  if eqB n.kind ⟨#[105, 102]⟩ || eqB n.kind ⟨#[119, 104, 105, 108, 101]⟩ then branchS g n
  else sq (
   if eqB n.kind ⟨#[108, 111, 99, 97, 108]⟩ then (if plainB n ⟨#[108, 111, 99, 97, 108]⟩ 1 true false then sq (typS (kidN n 0) false) (nameS n) else none)
   else if eqB n.kind ⟨#[97, 115, 115, 105, 103, 110]⟩ || eqB n.kind ⟨#[114, 101, 115, 117, 108, 116]⟩ then (if plainB n n.kind 2 false false then sq (targetS g (kidN n 0)) (sq (some [⟨#[61]⟩]) (if eqB n.kind ⟨#[114, 101, 115, 117, 108, 116]⟩ then callS g (kidN n 1) else exprS g (kidN n 1) true)) else none)
   else if eqB n.kind ⟨#[110, 111, 110, 100, 101, 116]⟩ then (if plainB n ⟨#[110, 111, 110, 100, 101, 116]⟩ 1 false false then sq (targetS g (kidN n 0)) (some [⟨#[61]⟩, ⟨#[110, 111, 110, 100, 101, 116]⟩, ⟨#[40]⟩, ⟨#[41]⟩]) else none)
   else if eqB n.kind ⟨#[114, 101, 116, 117, 114, 110]⟩ then (if plainB n ⟨#[114, 101, 116, 117, 114, 110]⟩ n.kids.length false false && decide (n.kids.length ≤ 1) then sq (some [⟨#[114, 101, 116, 117, 114, 110]⟩]) (each (fun k => exprS g k true) n.kids) else none)
   else if eqB n.kind ⟨#[97, 115, 115, 101, 114, 116]⟩ || eqB n.kind ⟨#[97, 115, 115, 117, 109, 101]⟩ then (if plainB n n.kind 1 false false then sq (some [n.kind, ⟨#[40]⟩]) (sq (exprS g (kidN n 0) true) (some [⟨#[41]⟩])) else none)
   else callS g n) (some [⟨#[59]⟩])
end
def paramS (n : Node) : Out := if plainB n ⟨#[112, 97, 114, 97, 109]⟩ 1 true false then sq (typS (kidN n 0) false) (nameS n) else none
def itemS (g : Nat) (n : Node) : Out :=
 if decide (0 < n.kids.length) && (n.num == 0) then sq (typS (kidN n 0) (eqB n.kind ⟨#[102, 117, 110, 99]⟩)) (sq (nameS n) (
  if eqB n.kind ⟨#[103, 108, 111, 98, 97, 108]⟩ then
   (if n.kids.length ≤ 2 then sq (if n.kids.length == 2 then (if plainB (kidN n 1) ⟨#[110, 117, 109]⟩ 0 false true then some [⟨#[91]⟩, digitsB (kidN n 1).num, ⟨#[93]⟩] else none) else some []) (some [⟨#[59]⟩]) else none)
  else if eqB n.kind ⟨#[102, 117, 110, 99]⟩ && decide (1 < n.kids.length) then sq (some [⟨#[40]⟩]) (sq (commas paramS true ((n.kids.drop 1).take (n.kids.length - 2))) (sq (some [⟨#[41]⟩]) (blockS g (kidN n (n.kids.length - 1))))) else none)) else none
def showS (g : Nat) (n : Node) : Out := if plainB n ⟨#[112, 114, 111, 103, 114, 97, 109]⟩ n.kids.length false false then each (itemS g) n.kids else none
end Go.Proofs.YtdimhoilfopndaaGreatDoor
end
section
namespace Go.Proofs.YtdimhoilfopndaaGreatDoor
open Go.RowKit
mutual
def nodesN : Node → Nat
 | ⟨_, _, _, _, _, ks⟩ => 1 + nodesL ks
def nodesL : List Node → Nat
 | [] => 0
 | x :: xs => nodesN x + nodesL xs
end
mutual
def depthN : Node → Nat
 | ⟨_, _, _, _, _, ks⟩ => 1 + depthL ks
def depthL : List Node → Nat
 | [] => 0
 | x :: xs => max (depthN x) (depthL xs)
end
mutual
def numsOk : Node → Bool
 | ⟨_, _, n, _, _, ks⟩ => (decide (0 ≤ n) && decide (n < 18446744073709551616)) && numsL ks
def numsL : List Node → Bool
 | [] => true
 | x :: xs => numsOk x && numsL xs
end
theorem nodesN_eq (n : Node) : nodesN n = 1 + nodesL n.kids := by cases n; simp only [nodesN]
theorem depthN_eq (n : Node) : depthN n = 1 + depthL n.kids := by cases n; simp only [depthN]
theorem nodesN_pos (n : Node) : 1 ≤ nodesN n := by rw [nodesN_eq]; omega
theorem depthN_pos (n : Node) : 1 ≤ depthN n := by rw [depthN_eq]; omega
theorem nodesL_nil : nodesL [] = 0 := by simp only [nodesL]
theorem nodesL_cons (x : Node) (xs : List Node) : nodesL (x :: xs) = nodesN x + nodesL xs := by simp only [nodesL]
theorem depthL_nil : depthL [] = 0 := by simp only [depthL]
theorem depthL_cons (x : Node) (xs : List Node) : depthL (x :: xs) = max (depthN x) (depthL xs) := by simp only [depthL]
theorem nodesL_app (xs ys : List Node) : nodesL (xs ++ ys) = nodesL xs + nodesL ys := by
 induction xs with
 | nil => simp only [nodesL_nil, List.nil_append, Nat.zero_add]
 | cons x xs ih => simp only [List.cons_append, nodesL_cons, ih, Nat.add_assoc]
theorem depthL_mem {x : Node} : ∀ {xs : List Node}, x ∈ xs → depthN x ≤ depthL xs
 | y :: ys, h => by
  rw [depthL_cons]
  rcases List.mem_cons.mp h with rfl | h
  · omega
  · have := depthL_mem h; omega
theorem nodesL_mem {x : Node} : ∀ {xs : List Node}, x ∈ xs → nodesN x ≤ nodesL xs
 | y :: ys, h => by
  rw [nodesL_cons]
  rcases List.mem_cons.mp h with rfl | h
  · omega
  · have := nodesL_mem h; omega
theorem numsL_mem {x : Node} : ∀ {xs : List Node}, x ∈ xs → numsL xs = true → numsOk x = true
 | y :: ys, h, hn => by
  simp only [numsL, Bool.and_eq_true] at hn
  rcases List.mem_cons.mp h with rfl | h
  · exact hn.1
  · exact numsL_mem h hn.2
theorem numsOk_eq (n : Node) : numsOk n = true ↔ (0 ≤ n.num ∧ n.num < 18446744073709551616) ∧ numsL n.kids = true := by
 cases n; simp only [numsOk, Bool.and_eq_true, decide_eq_true_eq]
theorem kid_mem {n : Node} {i : Nat} (h : i < n.kids.length) : kidN n i ∈ n.kids := by
 unfold kidN
 rw [List.getD_eq_getElem?_getD, List.getElem?_eq_getElem h]
 exact List.getElem_mem h
theorem kid_depth {n : Node} {i : Nat} (h : i < n.kids.length) : depthN (kidN n i) + 1 ≤ depthN n := by
 have := depthL_mem (kid_mem h)
 rw [depthN_eq n]; omega
theorem kid_nums {n : Node} {i : Nat} (h : i < n.kids.length) (hn : numsOk n = true) : numsOk (kidN n i) = true := numsL_mem (kid_mem h) ((numsOk_eq n).1 hn).2
theorem kids1 {n : Node} (h : n.kids.length = 1) : n.kids = [kidN n 0] := by
 match hk : n.kids, h with
 | [a], _ => simp [kidN, hk]
theorem kids2 {n : Node} (h : n.kids.length = 2) : n.kids = [kidN n 0, kidN n 1] := by
 match hk : n.kids, h with
 | [a, b], _ => simp [kidN, hk]
theorem kids3 {n : Node} (h : n.kids.length = 3) : n.kids = [kidN n 0, kidN n 1, kidN n 2] := by
 match hk : n.kids, h with
 | [a, b, c], _ => simp [kidN, hk]
theorem nodes1 {n : Node} (h : n.kids.length = 1) : nodesN n = 1 + nodesN (kidN n 0) := by
 rw [nodesN_eq, kids1 h]; simp only [nodesL_cons, nodesL_nil, kidN, List.getD_cons_zero]; rfl
theorem nodes2 {n : Node} (h : n.kids.length = 2) : nodesN n = 1 + (nodesN (kidN n 0) + nodesN (kidN n 1)) := by
 rw [nodesN_eq, kids2 h]; simp only [nodesL_cons, nodesL_nil]; rfl
theorem nodes3 {n : Node} (h : n.kids.length = 3) : nodesN n = 1 + (nodesN (kidN n 0) + (nodesN (kidN n 1) + nodesN (kidN n 2))) := by
 rw [nodesN_eq, kids3 h]; simp only [nodesL_cons, nodesL_nil]; rfl
theorem plainB_len {n : Node} {k : ByteArray} {d : Int} {t u : Bool} (h : plainB n k d t u = true) : (n.kids.length : Int) = d := by
 simp only [plainB, Bool.and_eq_true, beq_iff_eq] at h
 exact h.2.1
def AtMost (r : Out) (k : Nat) : Prop := ∀ ys, r = some ys → ys.length ≤ k
theorem AtMost.none (k : Nat) : AtMost none k := fun _ h => by cases h
theorem AtMost.some (l : List ByteArray) : AtMost (some l) l.length := fun ys h => by cases h; exact Nat.le_refl _
theorem AtMost.mono {r : Out} {k m : Nat} (h : AtMost r k) (hm : k ≤ m) : AtMost r m := fun ys he => Nat.le_trans (h ys he) hm
theorem AtMost.sq {a b : Out} {k m : Nat} (h : AtMost a k) (h2 : AtMost b m) : AtMost (sq a b) (k + m) := by
 intro ys he
 cases a with
 | none => cases he
 | some x =>
  cases b with
  | none => cases he
  | some y =>
   cases he
   have := h x rfl
   have := h2 y rfl
   rw [List.length_append]; omega
theorem AtMost.ite {p : Prop} [Decidable p] {a b : Out} {k : Nat} (h : p → AtMost a k) (h2 : ¬ p → AtMost b k) : AtMost (if p then a else b) k := by
 by_cases hp : p
 · rw [if_pos hp]; exact h hp
 · rw [if_neg hp]; exact h2 hp
theorem name_most (n : Node) : AtMost (nameS n) 1 := .ite (fun _ => .some _) (fun _ => .none _)
theorem typ_most (n : Node) (v : Bool) : AtMost (typS n v) 1 := .ite (fun _ => .some _) (fun _ => .none _)
theorem each_most {f : Node → Out} : ∀ (ks : List Node), (∀ k ∈ ks, AtMost (f k) (10 * nodesN k)) → AtMost (each f ks) (10 * nodesL ks)
 | [], _ => (AtMost.some []).mono (by simp)
 | k :: ks, h => by
  rw [nodesL_cons]
  exact ((h k (List.mem_cons_self ..)).sq (each_most ks fun x hx => h x (List.mem_cons_of_mem _ hx))).mono (by omega)
theorem commas_most {f : Node → Out} : ∀ (b : Bool) (ks : List Node), (∀ k ∈ ks, AtMost (f k) (10 * nodesN k - 1)) → AtMost (commas f b ks) (10 * nodesL ks)
 | _, [], _ => (AtMost.some []).mono (by simp)
 | b, k :: ks, h => by
  rw [nodesL_cons]
  have hp := nodesN_pos k
  have h0 : AtMost (if b then some [] else some [⟨#[44]⟩] : Out) 1 := .ite (fun _ => (AtMost.some []).mono (by simp)) (fun _ => (AtMost.some _).mono (by simp))
  exact ((h0.sq (h k (List.mem_cons_self ..))).sq (commas_most false ks fun x hx => h x (List.mem_cons_of_mem _ hx))).mono (by omega)
structure MostE (g : Nat) : Prop where
 expr : ∀ n w, AtMost (exprS g n w) (10 * nodesN n - 1)
 core : ∀ n, AtMost (coreS g n) (10 * nodesN n - 3)
 target : ∀ n, AtMost (targetS g n) (10 * nodesN n - 3)
theorem mostE : ∀ g, MostE g := by
 intro g
 induction g with
 | zero => exact ⟨fun _ _ => .none _, fun _ => .none _, fun _ => .none _⟩
 | succ g ih =>
  refine ⟨fun n w => ?_, fun n => ?_, fun n => ?_⟩
  ·
   have hp := nodesN_pos n
   simp only [exprS]
   exact .ite (fun _ => (((AtMost.some _).sq ((ih.core n).sq (.some _)))).mono (by simp only [List.length_cons, List.length_nil]; omega)) (fun _ => (ih.core n).mono (by omega))
  ·
   have hp := nodesN_pos n
   simp only [coreS]
   refine .ite (fun _ => .ite (fun _ => (AtMost.some _).mono (by simp only [List.length_cons, List.length_nil]; omega)) fun _ => .none _) fun _ => ?_
   refine .ite (fun _ => .ite (fun _ => (AtMost.some _).mono (by simp only [List.length_cons, List.length_nil]; omega)) fun _ => .none _) fun _ => ?_
   refine .ite (fun _ => .ite (fun h => ?_) fun _ => .none _) fun _ => ?_
   ·
    have hl := plainB_len (by simp only [Bool.and_eq_true] at h; exact h.1)
    have hn := nodes1 (n := n) (by omega)
    have := nodesN_pos (kidN n 0)
    exact ((AtMost.some _).sq (ih.expr (kidN n 0) false)).mono (by simp only [List.length_cons, List.length_nil]; omega)
   refine .ite (fun _ => .ite (fun h => ?_) fun _ => .none _) fun _ => ?_
   ·
    have hl := plainB_len (by simp only [Bool.and_eq_true] at h; exact h.1)
    have hn := nodes2 (n := n) (by omega)
    have := nodesN_pos (kidN n 0)
    have := nodesN_pos (kidN n 1)
    exact ((ih.expr (kidN n 0) false).sq ((AtMost.some _).sq (ih.expr (kidN n 1) false))).mono (by simp only [List.length_cons, List.length_nil]; omega)
   refine .ite (fun _ => .ite (fun h => ?_) fun _ => .none _) fun _ => ih.target n
   ·
    have hl := plainB_len (by simp only [Bool.and_eq_true] at h; exact h.1)
    have hn := nodes1 (n := n) (by omega)
    have := nodesN_pos (kidN n 0)
    exact ((AtMost.some _).sq (ih.expr (kidN n 0) false)).mono (by simp only [List.length_cons, List.length_nil]; omega)
  ·
   have hp := nodesN_pos n
   simp only [targetS]
   refine .ite (fun _ => .ite (fun _ => (name_most n).mono (by omega)) fun _ => .none _) fun _ => .ite (fun h => ?_) fun _ => .none _
   have hl := plainB_len h
   have hn := nodes1 (n := n) (by omega)
   have := nodesN_pos (kidN n 0)
   exact ((name_most n).sq ((AtMost.some _).sq ((ih.expr (kidN n 0) true).sq (.some _)))).mono (by simp only [List.length_cons, List.length_nil]; omega)
theorem call_most (g : Nat) (n : Node) : AtMost (callS g n) (10 * nodesN n - 3) := by
 have hp := nodesN_eq n
 unfold callS
 refine .ite (fun _ => ?_) fun _ => .none _
 exact ((name_most n).sq ((AtMost.some _).sq ((commas_most true n.kids fun k _ => (mostE g).expr k true).sq (.some _)))).mono (by simp only [List.length_cons, List.length_nil]; omega)
structure MostB (g : Nat) : Prop where
 block : ∀ n, AtMost (blockS g n) (10 * nodesN n - 3)
 branch : ∀ n, AtMost (branchS g n) (10 * nodesN n - 3)
 stmt : ∀ n, AtMost (stmtS g n) (10 * nodesN n - 1)
theorem mostB : ∀ g, MostB g := by
 intro g
 induction g with
 | zero => exact ⟨fun _ => .none _, fun _ => .none _, fun _ => .none _⟩
 | succ g ih =>
  refine ⟨fun n => ?_, fun n => ?_, fun n => ?_⟩
  ·
   have hp := nodesN_eq n
   simp only [blockS]
   refine .ite (fun _ => ?_) fun _ => .none _
   exact ((AtMost.some _).sq ((each_most n.kids fun k _ => ((ih.stmt k).mono (by omega))).sq (.some _))).mono (by simp only [List.length_cons, List.length_nil]; omega)
  ·
   simp only [branchS]
   refine .ite (fun h => ?_) fun _ => .none _
   simp only [Bool.and_eq_true, Bool.or_eq_true, beq_iff_eq] at h
   rcases h.2 with h2 | ⟨_, h3⟩
   ·
    have hn := nodes2 h2
    have := nodesN_pos (kidN n 0)
    have := nodesN_pos (kidN n 1)
    have h9 : (n.kids.length == 3) = false := by rw [h2]; rfl
    rw [h9, if_neg (by decide)]
    exact ((AtMost.some _).sq (((mostE g).expr (kidN n 0) true).sq ((AtMost.some _).sq ((ih.block (kidN n 1)).sq (.some _))))).mono (by simp only [List.length_cons, List.length_nil]; omega)
   ·
    have hn := nodes3 h3
    have := nodesN_pos (kidN n 0)
    have := nodesN_pos (kidN n 1)
    have := nodesN_pos (kidN n 2)
    have h9 : (n.kids.length == 3) = true := by rw [h3]; rfl
    rw [h9, if_pos rfl]
    exact ((AtMost.some _).sq (((mostE g).expr (kidN n 0) true).sq ((AtMost.some _).sq ((ih.block (kidN n 1)).sq ((AtMost.some _).sq (ih.block (kidN n 2))))))).mono (by simp only [List.length_cons, List.length_nil]; omega)
  ·
   have hp := nodesN_eq n
   simp only [stmtS]
   refine .ite (fun _ => (ih.branch n).mono (by omega)) fun _ => ?_
   refine AtMost.mono (AtMost.sq (k := 10 * nodesN n - 2) ?_ (.some _)) (by simp only [List.length_cons, List.length_nil]; omega)
   refine .ite (fun _ => .ite (fun h => ?_) fun _ => .none _) fun _ => ?_
   · exact ((typ_most _ _).sq (name_most n)).mono (by omega)
   refine .ite (fun _ => .ite (fun h => ?_) fun _ => .none _) fun _ => ?_
   ·
    have hl := plainB_len h
    have hn := nodes2 (n := n) (by omega)
    have := nodesN_pos (kidN n 0)
    have := nodesN_pos (kidN n 1)
    exact (((mostE g).target (kidN n 0)).sq ((AtMost.some _).sq (AtMost.ite (k := 10 * nodesN (kidN n 1) - 1) (fun _ => (call_most g _).mono (by omega)) (fun _ => (mostE g).expr _ true)))).mono (by simp only [List.length_cons, List.length_nil]; omega)
   refine .ite (fun _ => .ite (fun h => ?_) fun _ => .none _) fun _ => ?_
   ·
    have hl := plainB_len h
    have hn := nodes1 (n := n) (by omega)
    have := nodesN_pos (kidN n 0)
    exact (((mostE g).target (kidN n 0)).sq (.some _)).mono (by simp only [List.length_cons, List.length_nil]; omega)
   refine .ite (fun _ => .ite (fun h => ?_) fun _ => .none _) fun _ => ?_
   · exact ((AtMost.some _).sq (each_most n.kids fun k _ => ((mostE g).expr k true).mono (by omega))).mono (by simp only [List.length_cons, List.length_nil]; omega)
   refine .ite (fun _ => .ite (fun h => ?_) fun _ => .none _) fun _ => (call_most g n).mono (by omega)
   ·
    have hl := plainB_len h
    have hn := nodes1 (n := n) (by omega)
    have := nodesN_pos (kidN n 0)
    exact ((AtMost.some _).sq (((mostE g).expr (kidN n 0) true).sq (.some _))).mono (by simp only [List.length_cons, List.length_nil]; omega)
end Go.Proofs.YtdimhoilfopndaaGreatDoor
end
