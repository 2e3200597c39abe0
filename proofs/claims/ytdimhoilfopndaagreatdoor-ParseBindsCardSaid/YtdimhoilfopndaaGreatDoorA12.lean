/- Texts of one proof, put together: PH PI PJ PK PL PT PTa PM PN PNb. Conditions: as each lemma says. -/
import Derived.Lib.ItoaMem
import Derived.Lib.LaidTab
import Derived.Lib.Walk
import Derived.BigCall
import Derived.BigGuard
import Derived.BarOnce
import Derived.Test.YtdimhoilfopndaaGreatDoorA11
import Derived.Test.YtdimhoilfopndaaGreatDoorShb
import Derived.Test.YtdimhoilfopndaaGreatDoorA10
import Derived.Test.YtdimhoilfopndaaGreatDoorA8
set_option linter.unusedVariables false
set_option linter.unusedSimpArgs false
section
namespace Go.Proofs.YtdimhoilfopndaaGreatDoor
open Go.RowKit Go.Sort Go.Proofs.YtdimhoilfopndaaGreatDoorW.PrintWords
structure LaidP (w : World) : Prop where
 v : LaidX w
 tab : Lib.TabIs Tryz.prog w "internal/strconv.uint64pow10" .u64 Lib.pow10Tab
 ml : ∃ m : Int, w.cell? ⟨3, 0, none⟩ = some (.int .i64 m)
theorem LaidP.of_isOv {w w' : World} (h : LaidP w) (hb : IsOv w w') : LaidP w' := by
 refine ⟨h.v.of_isOv hb, ?_, by obtain ⟨m, h9⟩ := h.ml; exact ⟨m, hb.cell h9⟩⟩
 obtain ⟨x, rfl⟩ := hb
 exact World.var?_append (bs := x.blocks) rfl h.tab
theorem holds_zero0 (w : World) (T : TypeId) (nd : Nat) (hs : nd ≤ 24) : Holds (fun (b : UInt8) => Value.int .u8 (b.toNat : Int)) (w.alloc (.cells Lib.zeros24 T)) w.heap.size 0 (Array.replicate nd (0 : UInt8)) := fun j hj => by
 have hj' : j < nd := by simpa using hj
 refine ⟨?_, World.frozen?_alloc_new _ _ _ _⟩
 rw [World.cell?_alloc_new, Lib.zeros24_at _ (by omega), getElem!_pos _ j hj]
 simp
theorem fin_pos0 (w : World) (o : Obj) (dk : Array UInt8) (k : Nat) : ∃ os, (putRow (fun (b : UInt8) => Value.int .u8 (b.toNat : Int)) (w.alloc o) w.heap.size 0 dk).drewN k = grow (w.drewN k) os := by
 rw [alloc_eq_grow]
 obtain ⟨os', _, e⟩ := putRow_grow_new (fun (b : UInt8) => Value.int .u8 (b.toNat : Int)) w #[o] w.heap.size 0 dk (Nat.le_refl _)
 exact ⟨os', by rw [e]; rfl⟩
set_option maxHeartbeats 3200000 in
set_option maxRecDepth 100000 in
theorem formatUint_inner (u : Nat) (hu64 : u < 18446744073709551616) (w : World) (htab : Lib.TabIs Tryz.prog w "internal/strconv.uint64pow10" .u64 Lib.pow10Tab) :
  Calls Tryz.prog 66 #[.int .u64 (u : Int), .int .i64 10] w fun e w' => e = .returned (.string ⟨(Lib.decDigits u).toArray⟩) ∧ ∃ k os, w' = grow (w.drewN k) os := by
 by_cases hs : u < 100
 ·
  have hsi : (u : Int) < 100 := by omega
  have hw : IntKind.i64.wrap (u : Int) = (u : Int) := IntWalk.i64_in _ (by omega)
  go_enter Tryz.func66, Tryz.ntmps66
  go_wp2_with fail
  refine (Tryz.internal_strconv_small u hs _).mono ?_
  rintro e w' ⟨rfl, rfl⟩
  go_wp2_with fail
  exact bodyPost_ret (v := .string ⟨(Lib.decDigits u).toArray⟩) (by simp [results, Tryz.results66, go_sem, ↓IntWalk.iteOmega]) rfl ⟨rfl, 0, #[], by simp [World.drewN_zero, grow]⟩
 ·
  have hsi : ¬ (u : Int) < 100 := by omega
  have hu1 : 1 ≤ u := by omega
  have hnd20 : Lib.nDigits u ≤ 20 := by have := Lib.numDigits_eq u hu1 hu64; split at this <;> omega
  have hb3 : Lib.nDigits u ≤ 24 := by omega
  have hal : Tryz.prog.arrayLen 115 = 24 := by kernel_rfl
  have hsl1 : ∀ W, (Instr.sliceAt 115 (.pointer (some ⟨w.heap.size, 0, none⟩)) none (some (.int .i64 (Lib.nDigits u : Int))) none).run Tryz.prog W = .ok (.slice (some ⟨w.heap.size, 0, none⟩) (Lib.nDigits u) 24) W := fun W => by
   rw [run_sliceAt_array_h W 115 ⟨w.heap.size, 0, none⟩ (by kernel_rfl) .i64 (Lib.nDigits u : Int) (by omega) (by rw [hal]; omega)]
   rw [hal]
   go_simp
  have hH0 := holds_zero0 w 115 (Lib.nDigits u) (by omega)
  have hfmt := Tryz.internal_strconv_formatBase10 w.heap.size 0 24 u (Array.replicate (Lib.nDigits u) 0) (w.alloc (.cells Lib.zeros24 115)) hH0 (by rw [Array.size_replicate]; exact Lib.lt_pow_nDigits u) hu64 (by rw [Array.size_replicate]; omega)
  rw [Array.size_replicate] at hfmt
  have HH0 := hid hH0
  clear hH0 hal
  go_enter Tryz.func66, Tryz.ntmps66
  go_wp2_with fail
  refine (Tryz.internal_strconv_numDigits u hu1 hu64 _ (Lib.tabIs_alloc htab _)).mono ?_
  rintro e w' ⟨rfl, rfl⟩
  go_wp2_with fail
  refine hfmt.mono ?_
  rintro e w' ⟨rfl, k, v', dk, rfl, hF⟩
  have hcv : (convert 77 9 (.slice (some ⟨w.heap.size, 0, none⟩) (Lib.nDigits u) 24)).run Tryz.prog ((putRow (fun (b : UInt8) => Value.int .u8 (b.toNat : Int)) (w.alloc (.cells Lib.zeros24 115)) w.heap.size 0 dk).drewN k) = .ok (.string ⟨(Lib.decDigits u).toArray⟩) ((putRow (fun (b : UInt8) => Value.int .u8 (b.toNat : Int)) (w.alloc (.cells Lib.zeros24 115)) w.heap.size 0 dk).drewN k) := by
   have h := run_convert_bytes_back (P := Tryz.prog) ((putRow (fun (b : UInt8) => Value.int .u8 (b.toNat : Int)) (w.alloc (.cells Lib.zeros24 115)) w.heap.size 0 dk).drewN k) 77 9 5 ⟨w.heap.size, 0, none⟩ 24 (Lib.decDigits u) Tryz.underlying77 Tryz.underlying5 Tryz.underlying9 (fun j hj => by
    rw [Lib.row_is_numeral hF j hj, Lib.add_plain, World.cell?_drewN]
    exact cell?_putRow (fun (b : UInt8) => Value.int .u8 (b.toNat : Int)) _ w.heap.size 0 _ dk HH0.out (by rw [hF.size, Array.size_replicate]) j (by rw [hF.size]; rw [Lib.decDigits_length] at hj; exact hj))
   rw [Lib.decDigits_length] at h
   exact h
  go_wp2_with fail
  obtain ⟨os, eo⟩ := fin_pos0 w (.cells Lib.zeros24 115) dk k
  exact bodyPost_ret (v := .string ⟨(Lib.decDigits u).toArray⟩) (by simp [results, Tryz.results66, go_sem, ↓IntWalk.iteOmega]) rfl ⟨rfl, k, os, eo⟩
theorem formatUint_gives (v : Int) (h0 : 0 ≤ v) (h1 : v < 18446744073709551616) (w : World) (h : LaidP w) : Gives Tryz.prog 36 #[.int .u64 v, .int .i64 10] w (.string (digitsB v)) := by
 obtain ⟨u, rfl⟩ : ∃ u : Nat, v = (u : Int) := ⟨v.toNat, by omega⟩
 unfold Gives digitsB
 rw [Int.toNat_natCast]
 have H := hid (formatUint_inner u (by omega) w h.tab)
 go_enter Tryz.func36, Tryz.ntmps36
 go_wp2_with fail
 refine H.out.mono ?_
 rintro e w' ⟨rfl, k, os, rfl⟩
 go_wp2_with fail
 exact bodyPost_ret (v := .string ⟨(Lib.decDigits u).toArray⟩) (by simp [results, Tryz.results36, go_sem, ↓IntWalk.iteOmega]) rfl ⟨rfl, ⟨⟨os, w.drawn + k⟩, rfl⟩⟩
end Go.Proofs.YtdimhoilfopndaaGreatDoor
end
section
namespace Go.Proofs.YtdimhoilfopndaaGreatDoor
open Go.RowKit Go.Proofs.YtdimhoilfopndaaGreatDoorW.PrintWords
structure ShE (c : SC) (g : Nat) : Prop where
 expr : ∀ (w : World) (xs : List ByteArray) (hs : List (Nat × Obj)) (n : Node) (A : Option Addr) (cap : Nat) (whole : Bool), 3 * depthN n ≤ g → numsOk n = true → SS c w xs hs → Tr c.W (.slice A n.kids.length cap) n.kids → xs.length + 10 * nodesN n ≤ 1000000000 → Calls Tryz.prog 94 #[.pointer (some ⟨c.p, 0, none⟩), nodeV n (.slice A n.kids.length cap), .bool whole] w (PostS c xs (exprS g n whole) hs)
 target : ∀ (w : World) (xs : List ByteArray) (hs : List (Nat × Obj)) (n : Node) (A : Option Addr) (cap : Nat), 3 * depthN n ≤ g + 2 → numsOk n = true → SS c w xs hs → Tr c.W (.slice A n.kids.length cap) n.kids → xs.length + 10 * nodesN n ≤ 1000000000 → Calls Tryz.prog 92 #[.pointer (some ⟨c.p, 0, none⟩), nodeV n (.slice A n.kids.length cap)] w (PostS c xs (targetS g n) hs)
set_option maxRecDepth 20000 in
set_option maxHeartbeats 1600000 in
theorem target_name (c : SC) (HL0 : LaidP c.W) (g : Nat) (IH : ShE c g) (w : World) (xs : List ByteArray) (hs : List (Nat × Obj)) (n : Node) (A : Option Addr) (cap : Nat) (k0 : (n.kind.toList == [110, 97, 109, 101]) = true) (hd : 3 * depthN n ≤ g + 3) (hn : numsOk n = true) (h : SS c w xs hs) (ht : Tr c.W (.slice A n.kids.length cap) n.kids) (hl : xs.length + 10 * nodesN n ≤ 1000000000) (r : Out) (hr : r = (if plainB n ⟨#[110, 97, 109, 101]⟩ 0 true false then nameS n else none)) : Calls Tryz.prog 92 #[.pointer (some ⟨c.p, 0, none⟩), nodeV n (.slice A n.kids.length cap)] w (PostS c xs r hs) := by
 have HL := hid HL0.v
 have HLP := hid HL0
 have HTR := hid ht
 have HR0 := hid hr
 clear hr HL0 ht
 have hnp := nodesN_pos n
 unfold nodeV
 have hlt := h.lt
 have HS0 := hid h
 clear h
 go_enter Tryz.func92, Tryz.ntmps92
 have HS1 := hid (HS0.out.alloc (.cells #[.string n.kind, .string n.text, .int .u64 n.num, .int .i64 n.line, .int .i64 n.col, .slice A n.kids.length cap] 26))
 go_wp2_with fail
 cases bp : plainB n ⟨#[110, 97, 109, 101]⟩ 0 true false
 ·
  refine cmo (plain_calls _ _ _ _ _ _ _ _) ?_
  rintro e9 w1 ⟨hov, rfl⟩
  rw [bp]
  have HS2 := hid (HS1.out.isOv hov)
  clear HS1
  clear hov
  obtain rfl : r = none := by rw [HR0.out]; simp only [bp, SQ0, ↓reduceIte]
  exact ⟨rfl, rfl, HS2.out.ov⟩
 ·
  refine cmo (plain_calls _ _ _ _ _ _ _ _) ?_
  rintro e9 w1 ⟨hov, rfl⟩
  rw [bp]
  have HS2 := hid (HS1.out.isOv hov)
  clear HS1
  clear hov
  have hzb1 : w.heap.size < w1.heap.size := lt_of_heap HS2.out.h0
  obtain ⟨n0, n1, n2, n3, n4, n5, nf⟩ := cells6 HS2.out.h0
  go_wp2_with fail
  have HR1 : Hid (r = nameS n) := hid (by rw [HR0.out, bp]; simp only [SQ0, ↓reduceIte])
  clear HR0
  cases h_a : nameS n with
  | none =>
   refine cmo (name_shows c HL.out _ (xs) _ n A cap HS2.out (by omega)) ?_
   rw [h_a]
   rintro e9 w99 ⟨rfl, hov⟩
   obtain rfl : r = none := by rw [HR1.out]; simp only [SQ0, ↓reduceIte, h_a]
   exact ⟨rfl, rfl, hov⟩
  | some ys_a =>
   refine cmo (name_shows c HL.out _ (xs) _ n A cap HS2.out (by omega)) ?_
   rw [h_a]
   rintro e9 w2 ⟨rfl, hss⟩
   have HS3 := hid (hss)
   clear HS2
   clear hss
   have HR2 := hid (by have h9 := HR1.out; rw [h_a] at h9; exact h9)
   clear HR1
   go_wp2_with fail
   have hys := HR2.out
   try simp only [SQ0, ↓reduceIte] at hys
   subst hys
   exact bodyPost_end (v := .tuple #[]) (by simp [results, Tryz.results92]) rfl ⟨rfl, by have h9 := HS3.out.drop; simpa only [List.append_assoc, List.append_nil, List.nil_append, List.cons_append] using h9⟩
set_option maxRecDepth 20000 in
set_option maxHeartbeats 1600000 in
theorem target_index (c : SC) (HL0 : LaidP c.W) (g : Nat) (IH : ShE c g) (w : World) (xs : List ByteArray) (hs : List (Nat × Obj)) (n : Node) (A : Option Addr) (cap : Nat) (k0 : (n.kind.toList == [110, 97, 109, 101]) = false) (hd : 3 * depthN n ≤ g + 3) (hn : numsOk n = true) (h : SS c w xs hs) (ht : Tr c.W (.slice A n.kids.length cap) n.kids) (hl : xs.length + 10 * nodesN n ≤ 1000000000) (r : Out) (hr : r = (if plainB n ⟨#[105, 110, 100, 101, 120]⟩ 1 true false then sq (nameS n) (sq (some [⟨#[91]⟩]) (sq (exprS g (kidN n 0) true) (some [⟨#[93]⟩]))) else none)) : Calls Tryz.prog 92 #[.pointer (some ⟨c.p, 0, none⟩), nodeV n (.slice A n.kids.length cap)] w (PostS c xs r hs) := by
 have HL := hid HL0.v
 have HLP := hid HL0
 have HTR := hid ht
 have HR0 := hid hr
 clear hr HL0 ht
 have hnp := nodesN_pos n
 unfold nodeV
 have hlt := h.lt
 have HS0 := hid h
 clear h
 go_enter Tryz.func92, Tryz.ntmps92
 have HS1 := hid (HS0.out.alloc (.cells #[.string n.kind, .string n.text, .int .u64 n.num, .int .i64 n.line, .int .i64 n.col, .slice A n.kids.length cap] 26))
 go_wp2_with fail
 cases bp : plainB n ⟨#[105, 110, 100, 101, 120]⟩ 1 true false
 ·
  refine cmo (plain_calls _ _ _ _ _ _ _ _) ?_
  rintro e9 w1 ⟨hov, rfl⟩
  rw [bp]
  have HS2 := hid (HS1.out.isOv hov)
  clear HS1
  clear hov
  obtain rfl : r = none := by rw [HR0.out]; simp only [bp, SQ0, ↓reduceIte]
  exact ⟨rfl, rfl, HS2.out.ov⟩
 ·
  refine cmo (plain_calls _ _ _ _ _ _ _ _) ?_
  rintro e9 w1 ⟨hov, rfl⟩
  rw [bp]
  have HS2 := hid (HS1.out.isOv hov)
  clear HS1
  clear hov
  have hzb1 : w.heap.size < w1.heap.size := lt_of_heap HS2.out.h0
  obtain ⟨n0, n1, n2, n3, n4, n5, nf⟩ := cells6 HS2.out.h0
  have hkl : (n.kids.length : Int) = 1 := plainB_len bp
  have hkn := nodes1 (n := n) (by omega)
  have hkd := kid_depth (n := n) (i := 0) (by omega)
  have hknp := nodesN_pos (kidN n 0)
  go_wp2_with fail
  have HR1 : Hid (r = sq (nameS n) (sq (some [⟨#[91]⟩]) (sq (exprS g (kidN n 0) true) (some [⟨#[93]⟩])))) := hid (by rw [HR0.out, bp]; simp only [SQ0, ↓reduceIte])
  clear HR0
  cases h_a : nameS n with
  | none =>
   refine cmo (name_shows c HL.out _ (xs) _ n A cap HS2.out (by omega)) ?_
   rw [h_a]
   rintro e9 w99 ⟨rfl, hov⟩
   obtain rfl : r = none := by rw [HR1.out]; simp only [SQ0, ↓reduceIte, h_a]
   exact ⟨rfl, rfl, hov⟩
  | some ys_a =>
   refine cmo (name_shows c HL.out _ (xs) _ n A cap HS2.out (by omega)) ?_
   rw [h_a]
   rintro e9 w2 ⟨rfl, hss⟩
   have HS3 := hid (hss)
   clear HS2
   clear hss
   have HR2 := hid (by have h9 := HR1.out; rw [h_a] at h9; exact h9)
   clear HR1
   have hla := name_most n _ h_a
   go_wp2_with fail
   refine cmo (put_calls c _ (xs ++ ys_a) [⟨#[91]⟩] _ _ 1 (strs_read (by simp) (heap_alloc_new _ _)) (HS3.out.alloc _) (by simp only [List.length_append, List.length_cons, List.length_nil]; omega)) ?_
   rintro e9 w3 ⟨rfl, hss⟩
   have HS4 := hid (hss.drop)
   clear HS3
   clear hss
   have hzb3 : w.heap.size < w3.heap.size := lt_of_heap HS4.out.h0
   clear n0 n1 n2 n3 n4 n5 nf
   obtain ⟨n0, n1, n2, n3, n4, n5, nf⟩ := cells6 HS4.out.h0
   obtain ⟨gk0, Ak0, ck0, hA0, hg0, q0, q1, q2, q3, q4, q5, HTr0⟩ := kid_at HTR.out HS4.out.ov 0 (by omega)
   have HT0 := hid HTr0
   clear HTr0
   subst hA0
   have p0 : w3.cell? ⟨gk0, 0, none⟩ = _ := q0
   have p1 : w3.cell? ⟨gk0, 1, none⟩ = _ := q1
   have p2 : w3.cell? ⟨gk0, 2, none⟩ = _ := q2
   have p3 : w3.cell? ⟨gk0, 3, none⟩ = _ := q3
   have p4 : w3.cell? ⟨gk0, 4, none⟩ = _ := q4
   have p5 : w3.cell? ⟨gk0, 5, none⟩ = _ := q5
   clear q0 q1 q2 q3 q4 q5
   have hkl0 : (0 : Int) ≤ (n.kids.length : Int) := by omega
   go_wp2_with fail
   clear p0 p1 p2 p3 p4 p5
   cases h_b : exprS g (kidN n 0) true with
   | none =>
    refine cmo (IH.expr _ (xs ++ ys_a ++ [⟨#[91]⟩]) _ (kidN n 0) _ _ true (by omega) (kid_nums (by omega) hn) HS4.out HT0.out (by simp only [List.length_append, List.length_cons, List.length_nil]; omega)) ?_
    rw [h_b]
    rintro e9 w99 ⟨rfl, hov⟩
    obtain rfl : r = none := by rw [HR2.out]; simp only [SQ0, ↓reduceIte, h_b]
    exact ⟨rfl, rfl, hov⟩
   | some ys_b =>
    refine cmo (IH.expr _ (xs ++ ys_a ++ [⟨#[91]⟩]) _ (kidN n 0) _ _ true (by omega) (kid_nums (by omega) hn) HS4.out HT0.out (by simp only [List.length_append, List.length_cons, List.length_nil]; omega)) ?_
    rw [h_b]
    rintro e9 w4 ⟨rfl, hss⟩
    have HS5 := hid (hss)
    clear HS4
    clear hss
    have HR3 := hid (by have h9 := HR2.out; rw [h_b] at h9; exact h9)
    clear HR2
    have hlb := (mostE g).expr (kidN n 0) true _ h_b
    go_wp2_with fail
    refine cmo (put_calls c _ (xs ++ ys_a ++ [⟨#[91]⟩] ++ ys_b) [⟨#[93]⟩] _ _ 1 (strs_read (by simp) (heap_alloc_new _ _)) (HS5.out.alloc _) (by simp only [List.length_append, List.length_cons, List.length_nil]; omega)) ?_
    rintro e9 w5 ⟨rfl, hss⟩
    have HS6 := hid (hss.drop)
    clear HS5
    clear hss
    go_wp2_with fail
    have hys := HR3.out
    try simp only [SQ0, ↓reduceIte] at hys
    subst hys
    exact bodyPost_end (v := .tuple #[]) (by simp [results, Tryz.results92]) rfl ⟨rfl, by have h9 := HS6.out.drop; simpa only [List.append_assoc, List.append_nil, List.nil_append, List.cons_append] using h9⟩
end Go.Proofs.YtdimhoilfopndaaGreatDoor
end
section
namespace Go.Proofs.YtdimhoilfopndaaGreatDoor
open Go.RowKit Go.Proofs.YtdimhoilfopndaaGreatDoorW.PrintWords
set_option maxRecDepth 20000 in
set_option maxHeartbeats 1600000 in
theorem expr_num_w (c : SC) (HL0 : LaidP c.W) (g : Nat) (IH : ShE c g) (w : World) (xs : List ByteArray) (hs : List (Nat × Obj)) (n : Node) (A : Option Addr) (cap : Nat) (k_num : (n.kind.toList == [110, 117, 109]) = true) (k_true : (n.kind.toList == [116, 114, 117, 101]) = false) (k_false : (n.kind.toList == [102, 97, 108, 115, 101]) = false) (k_unary : (n.kind.toList == [117, 110, 97, 114, 121]) = false) (k_binary : (n.kind.toList == [98, 105, 110, 97, 114, 121]) = false) (k_cast : (n.kind.toList == [99, 97, 115, 116]) = false) (hd : 3 * depthN n ≤ g + 2) (hn : numsOk n = true) (h : SS c w xs hs) (ht : Tr c.W (.slice A n.kids.length cap) n.kids) (hl : xs.length + 10 * nodesN n ≤ 1000000000) (r : Out) (hr : r = (if plainB n ⟨#[110, 117, 109]⟩ 0 false true then some [digitsB n.num] else none)) : Calls Tryz.prog 94 #[.pointer (some ⟨c.p, 0, none⟩), nodeV n (.slice A n.kids.length cap), .bool true] w (PostS c xs r hs) := by
 have HL := hid HL0.v
 have HLP := hid HL0
 have HTR := hid ht
 have HR0 := hid hr
 clear hr HL0 ht
 have hnp := nodesN_pos n
 unfold nodeV
 have hlt := h.lt
 have HS0 := hid h
 clear h
 go_enter Tryz.func94, Tryz.ntmps94
 have HS1 := hid (HS0.out.alloc (.cells #[.string n.kind, .string n.text, .int .u64 n.num, .int .i64 n.line, .int .i64 n.col, .slice A n.kids.length cap] 26))
 go_wp2_with fail
 cases bp : plainB n ⟨#[110, 117, 109]⟩ 0 false true
 ·
  refine cmo (plain_calls _ _ _ _ _ _ _ _) ?_
  rintro e9 w1 ⟨hov, rfl⟩
  rw [bp]
  have HS2 := hid (HS1.out.isOv hov)
  clear HS1
  clear hov
  obtain rfl : r = none := by rw [HR0.out]; simp only [bp, SQ0, ↓reduceIte]
  exact ⟨rfl, rfl, HS2.out.ov⟩
 ·
  refine cmo (plain_calls _ _ _ _ _ _ _ _) ?_
  rintro e9 w1 ⟨hov, rfl⟩
  rw [bp]
  have HS2 := hid (HS1.out.isOv hov)
  clear HS1
  clear hov
  have hzb1 : w.heap.size < w1.heap.size := lt_of_heap HS2.out.h0
  obtain ⟨n0, n1, n2, n3, n4, n5, nf⟩ := cells6 HS2.out.h0
  go_wp2_with fail
  have HR1 : Hid (r = some [digitsB n.num]) := hid (by rw [HR0.out]; simp only [bp, SQ0, ↓reduceIte])
  clear HR0
  have hnr := ((numsOk_eq n).1 hn).1
  refine cmo (formatUint_gives n.num hnr.1 hnr.2 _ (HLP.out.of_isOv HS2.out.ov)) ?_
  rintro e9 w2 ⟨rfl, hov⟩
  have HS3 := hid (HS2.out.isOv hov)
  clear HS2
  clear hov
  go_wp2_with fail
  refine cmo (put_calls c _ (xs) [digitsB n.num] _ _ 1 (strs_read (by simp) (heap_alloc_new _ _)) (HS3.out.alloc _) (by (try simp only [List.length_append, List.length_cons, List.length_nil]); omega)) ?_
  rintro e9 w3 ⟨rfl, hss⟩
  have HS4 := hid (hss.drop)
  clear HS3
  clear hss
  go_wp2_with fail
  have hys := HR1.out
  try simp only [SQ0, ↓reduceIte] at hys
  subst hys
  exact bodyPost_end (v := .tuple #[]) (by simp [results, Tryz.results94]) rfl ⟨rfl, by have h9 := HS4.out.drop; simpa only [List.append_assoc, List.append_nil, List.nil_append, List.cons_append] using h9⟩
set_option maxRecDepth 20000 in
set_option maxHeartbeats 1600000 in
theorem expr_true_w (c : SC) (HL0 : LaidP c.W) (g : Nat) (IH : ShE c g) (w : World) (xs : List ByteArray) (hs : List (Nat × Obj)) (n : Node) (A : Option Addr) (cap : Nat) (k_num : (n.kind.toList == [110, 117, 109]) = false) (k_true : (n.kind.toList == [116, 114, 117, 101]) = true) (k_false : (n.kind.toList == [102, 97, 108, 115, 101]) = false) (k_unary : (n.kind.toList == [117, 110, 97, 114, 121]) = false) (k_binary : (n.kind.toList == [98, 105, 110, 97, 114, 121]) = false) (k_cast : (n.kind.toList == [99, 97, 115, 116]) = false) (hd : 3 * depthN n ≤ g + 2) (hn : numsOk n = true) (h : SS c w xs hs) (ht : Tr c.W (.slice A n.kids.length cap) n.kids) (hl : xs.length + 10 * nodesN n ≤ 1000000000) (r : Out) (hr : r = (if plainB n n.kind 0 false false then some [n.kind] else none)) : Calls Tryz.prog 94 #[.pointer (some ⟨c.p, 0, none⟩), nodeV n (.slice A n.kids.length cap), .bool true] w (PostS c xs r hs) := by
 have HL := hid HL0.v
 have HLP := hid HL0
 have HTR := hid ht
 have HR0 := hid hr
 clear hr HL0 ht
 have hnp := nodesN_pos n
 unfold nodeV
 have hlt := h.lt
 have HS0 := hid h
 clear h
 go_enter Tryz.func94, Tryz.ntmps94
 have HS1 := hid (HS0.out.alloc (.cells #[.string n.kind, .string n.text, .int .u64 n.num, .int .i64 n.line, .int .i64 n.col, .slice A n.kids.length cap] 26))
 go_wp2_with fail
 cases bp : plainB n n.kind 0 false false
 ·
  refine cmo (plain_calls _ _ _ _ _ _ _ _) ?_
  rintro e9 w1 ⟨hov, rfl⟩
  rw [bp]
  have HS2 := hid (HS1.out.isOv hov)
  clear HS1
  clear hov
  obtain rfl : r = none := by rw [HR0.out]; simp only [bp, SQ0, ↓reduceIte]
  exact ⟨rfl, rfl, HS2.out.ov⟩
 ·
  refine cmo (plain_calls _ _ _ _ _ _ _ _) ?_
  rintro e9 w1 ⟨hov, rfl⟩
  rw [bp]
  have HS2 := hid (HS1.out.isOv hov)
  clear HS1
  clear hov
  have hzb1 : w.heap.size < w1.heap.size := lt_of_heap HS2.out.h0
  obtain ⟨n0, n1, n2, n3, n4, n5, nf⟩ := cells6 HS2.out.h0
  go_wp2_with fail
  have HR1 : Hid (r = some [n.kind]) := hid (by rw [HR0.out]; simp only [bp, SQ0, ↓reduceIte])
  clear HR0
  refine cmo (put_calls c _ (xs) [n.kind] _ _ 1 (strs_read (by simp) (heap_alloc_new _ _)) (HS2.out.alloc _) (by (try simp only [List.length_append, List.length_cons, List.length_nil]); omega)) ?_
  rintro e9 w2 ⟨rfl, hss⟩
  have HS3 := hid (hss.drop)
  clear HS2
  clear hss
  go_wp2_with fail
  have hys := HR1.out
  try simp only [SQ0, ↓reduceIte] at hys
  subst hys
  exact bodyPost_end (v := .tuple #[]) (by simp [results, Tryz.results94]) rfl ⟨rfl, by have h9 := HS3.out.drop; simpa only [List.append_assoc, List.append_nil, List.nil_append, List.cons_append] using h9⟩
set_option maxRecDepth 20000 in
set_option maxHeartbeats 1600000 in
theorem expr_false_w (c : SC) (HL0 : LaidP c.W) (g : Nat) (IH : ShE c g) (w : World) (xs : List ByteArray) (hs : List (Nat × Obj)) (n : Node) (A : Option Addr) (cap : Nat) (k_num : (n.kind.toList == [110, 117, 109]) = false) (k_true : (n.kind.toList == [116, 114, 117, 101]) = false) (k_false : (n.kind.toList == [102, 97, 108, 115, 101]) = true) (k_unary : (n.kind.toList == [117, 110, 97, 114, 121]) = false) (k_binary : (n.kind.toList == [98, 105, 110, 97, 114, 121]) = false) (k_cast : (n.kind.toList == [99, 97, 115, 116]) = false) (hd : 3 * depthN n ≤ g + 2) (hn : numsOk n = true) (h : SS c w xs hs) (ht : Tr c.W (.slice A n.kids.length cap) n.kids) (hl : xs.length + 10 * nodesN n ≤ 1000000000) (r : Out) (hr : r = (if plainB n n.kind 0 false false then some [n.kind] else none)) : Calls Tryz.prog 94 #[.pointer (some ⟨c.p, 0, none⟩), nodeV n (.slice A n.kids.length cap), .bool true] w (PostS c xs r hs) := by
 have HL := hid HL0.v
 have HLP := hid HL0
 have HTR := hid ht
 have HR0 := hid hr
 clear hr HL0 ht
 have hnp := nodesN_pos n
 unfold nodeV
 have hlt := h.lt
 have HS0 := hid h
 clear h
 go_enter Tryz.func94, Tryz.ntmps94
 have HS1 := hid (HS0.out.alloc (.cells #[.string n.kind, .string n.text, .int .u64 n.num, .int .i64 n.line, .int .i64 n.col, .slice A n.kids.length cap] 26))
 go_wp2_with fail
 cases bp : plainB n n.kind 0 false false
 ·
  refine cmo (plain_calls _ _ _ _ _ _ _ _) ?_
  rintro e9 w1 ⟨hov, rfl⟩
  rw [bp]
  have HS2 := hid (HS1.out.isOv hov)
  clear HS1
  clear hov
  obtain rfl : r = none := by rw [HR0.out]; simp only [bp, SQ0, ↓reduceIte]
  exact ⟨rfl, rfl, HS2.out.ov⟩
 ·
  refine cmo (plain_calls _ _ _ _ _ _ _ _) ?_
  rintro e9 w1 ⟨hov, rfl⟩
  rw [bp]
  have HS2 := hid (HS1.out.isOv hov)
  clear HS1
  clear hov
  have hzb1 : w.heap.size < w1.heap.size := lt_of_heap HS2.out.h0
  obtain ⟨n0, n1, n2, n3, n4, n5, nf⟩ := cells6 HS2.out.h0
  go_wp2_with fail
  have HR1 : Hid (r = some [n.kind]) := hid (by rw [HR0.out]; simp only [bp, SQ0, ↓reduceIte])
  clear HR0
  refine cmo (put_calls c _ (xs) [n.kind] _ _ 1 (strs_read (by simp) (heap_alloc_new _ _)) (HS2.out.alloc _) (by (try simp only [List.length_append, List.length_cons, List.length_nil]); omega)) ?_
  rintro e9 w2 ⟨rfl, hss⟩
  have HS3 := hid (hss.drop)
  clear HS2
  clear hss
  go_wp2_with fail
  have hys := HR1.out
  try simp only [SQ0, ↓reduceIte] at hys
  subst hys
  exact bodyPost_end (v := .tuple #[]) (by simp [results, Tryz.results94]) rfl ⟨rfl, by have h9 := HS3.out.drop; simpa only [List.append_assoc, List.append_nil, List.nil_append, List.cons_append] using h9⟩
set_option maxRecDepth 20000 in
set_option maxHeartbeats 1600000 in
theorem expr_num_p (c : SC) (HL0 : LaidP c.W) (g : Nat) (IH : ShE c g) (w : World) (xs : List ByteArray) (hs : List (Nat × Obj)) (n : Node) (A : Option Addr) (cap : Nat) (k_num : (n.kind.toList == [110, 117, 109]) = true) (k_true : (n.kind.toList == [116, 114, 117, 101]) = false) (k_false : (n.kind.toList == [102, 97, 108, 115, 101]) = false) (k_unary : (n.kind.toList == [117, 110, 97, 114, 121]) = false) (k_binary : (n.kind.toList == [98, 105, 110, 97, 114, 121]) = false) (k_cast : (n.kind.toList == [99, 97, 115, 116]) = false) (hd : 3 * depthN n ≤ g + 2) (hn : numsOk n = true) (h : SS c w xs hs) (ht : Tr c.W (.slice A n.kids.length cap) n.kids) (hl : xs.length + 10 * nodesN n ≤ 1000000000) (r : Out) (hr : r = (if plainB n ⟨#[110, 117, 109]⟩ 0 false true then some [digitsB n.num] else none)) : Calls Tryz.prog 94 #[.pointer (some ⟨c.p, 0, none⟩), nodeV n (.slice A n.kids.length cap), .bool false] w (PostS c xs r hs) := by
 have HL := hid HL0.v
 have HLP := hid HL0
 have HTR := hid ht
 have HR0 := hid hr
 clear hr HL0 ht
 have hnp := nodesN_pos n
 unfold nodeV
 have hlt := h.lt
 have HS0 := hid h
 clear h
 go_enter Tryz.func94, Tryz.ntmps94
 have HS1 := hid (HS0.out.alloc (.cells #[.string n.kind, .string n.text, .int .u64 n.num, .int .i64 n.line, .int .i64 n.col, .slice A n.kids.length cap] 26))
 go_wp2_with fail
 cases bp : plainB n ⟨#[110, 117, 109]⟩ 0 false true
 ·
  refine cmo (plain_calls _ _ _ _ _ _ _ _) ?_
  rintro e9 w1 ⟨hov, rfl⟩
  rw [bp]
  have HS2 := hid (HS1.out.isOv hov)
  clear HS1
  clear hov
  obtain rfl : r = none := by rw [HR0.out]; simp only [bp, SQ0, ↓reduceIte]
  exact ⟨rfl, rfl, HS2.out.ov⟩
 ·
  refine cmo (plain_calls _ _ _ _ _ _ _ _) ?_
  rintro e9 w1 ⟨hov, rfl⟩
  rw [bp]
  have HS2 := hid (HS1.out.isOv hov)
  clear HS1
  clear hov
  have hzb1 : w.heap.size < w1.heap.size := lt_of_heap HS2.out.h0
  obtain ⟨n0, n1, n2, n3, n4, n5, nf⟩ := cells6 HS2.out.h0
  go_wp2_with fail
  have HR1 : Hid (r = some [digitsB n.num]) := hid (by rw [HR0.out]; simp only [bp, SQ0, ↓reduceIte])
  clear HR0
  have hnr := ((numsOk_eq n).1 hn).1
  refine cmo (formatUint_gives n.num hnr.1 hnr.2 _ (HLP.out.of_isOv HS2.out.ov)) ?_
  rintro e9 w2 ⟨rfl, hov⟩
  have HS3 := hid (HS2.out.isOv hov)
  clear HS2
  clear hov
  go_wp2_with fail
  refine cmo (put_calls c _ (xs) [digitsB n.num] _ _ 1 (strs_read (by simp) (heap_alloc_new _ _)) (HS3.out.alloc _) (by (try simp only [List.length_append, List.length_cons, List.length_nil]); omega)) ?_
  rintro e9 w3 ⟨rfl, hss⟩
  have HS4 := hid (hss.drop)
  clear HS3
  clear hss
  go_wp2_with fail
  have hys := HR1.out
  try simp only [SQ0, ↓reduceIte] at hys
  subst hys
  exact bodyPost_end (v := .tuple #[]) (by simp [results, Tryz.results94]) rfl ⟨rfl, by have h9 := HS4.out.drop; simpa only [List.append_assoc, List.append_nil, List.nil_append, List.cons_append] using h9⟩
set_option maxRecDepth 20000 in
set_option maxHeartbeats 1600000 in
theorem expr_true_p (c : SC) (HL0 : LaidP c.W) (g : Nat) (IH : ShE c g) (w : World) (xs : List ByteArray) (hs : List (Nat × Obj)) (n : Node) (A : Option Addr) (cap : Nat) (k_num : (n.kind.toList == [110, 117, 109]) = false) (k_true : (n.kind.toList == [116, 114, 117, 101]) = true) (k_false : (n.kind.toList == [102, 97, 108, 115, 101]) = false) (k_unary : (n.kind.toList == [117, 110, 97, 114, 121]) = false) (k_binary : (n.kind.toList == [98, 105, 110, 97, 114, 121]) = false) (k_cast : (n.kind.toList == [99, 97, 115, 116]) = false) (hd : 3 * depthN n ≤ g + 2) (hn : numsOk n = true) (h : SS c w xs hs) (ht : Tr c.W (.slice A n.kids.length cap) n.kids) (hl : xs.length + 10 * nodesN n ≤ 1000000000) (r : Out) (hr : r = (if plainB n n.kind 0 false false then some [n.kind] else none)) : Calls Tryz.prog 94 #[.pointer (some ⟨c.p, 0, none⟩), nodeV n (.slice A n.kids.length cap), .bool false] w (PostS c xs r hs) := by
 have HL := hid HL0.v
 have HLP := hid HL0
 have HTR := hid ht
 have HR0 := hid hr
 clear hr HL0 ht
 have hnp := nodesN_pos n
 unfold nodeV
 have hlt := h.lt
 have HS0 := hid h
 clear h
 go_enter Tryz.func94, Tryz.ntmps94
 have HS1 := hid (HS0.out.alloc (.cells #[.string n.kind, .string n.text, .int .u64 n.num, .int .i64 n.line, .int .i64 n.col, .slice A n.kids.length cap] 26))
 go_wp2_with fail
 cases bp : plainB n n.kind 0 false false
 ·
  refine cmo (plain_calls _ _ _ _ _ _ _ _) ?_
  rintro e9 w1 ⟨hov, rfl⟩
  rw [bp]
  have HS2 := hid (HS1.out.isOv hov)
  clear HS1
  clear hov
  obtain rfl : r = none := by rw [HR0.out]; simp only [bp, SQ0, ↓reduceIte]
  exact ⟨rfl, rfl, HS2.out.ov⟩
 ·
  refine cmo (plain_calls _ _ _ _ _ _ _ _) ?_
  rintro e9 w1 ⟨hov, rfl⟩
  rw [bp]
  have HS2 := hid (HS1.out.isOv hov)
  clear HS1
  clear hov
  have hzb1 : w.heap.size < w1.heap.size := lt_of_heap HS2.out.h0
  obtain ⟨n0, n1, n2, n3, n4, n5, nf⟩ := cells6 HS2.out.h0
  go_wp2_with fail
  have HR1 : Hid (r = some [n.kind]) := hid (by rw [HR0.out]; simp only [bp, SQ0, ↓reduceIte])
  clear HR0
  refine cmo (put_calls c _ (xs) [n.kind] _ _ 1 (strs_read (by simp) (heap_alloc_new _ _)) (HS2.out.alloc _) (by (try simp only [List.length_append, List.length_cons, List.length_nil]); omega)) ?_
  rintro e9 w2 ⟨rfl, hss⟩
  have HS3 := hid (hss.drop)
  clear HS2
  clear hss
  go_wp2_with fail
  have hys := HR1.out
  try simp only [SQ0, ↓reduceIte] at hys
  subst hys
  exact bodyPost_end (v := .tuple #[]) (by simp [results, Tryz.results94]) rfl ⟨rfl, by have h9 := HS3.out.drop; simpa only [List.append_assoc, List.append_nil, List.nil_append, List.cons_append] using h9⟩
set_option maxRecDepth 20000 in
set_option maxHeartbeats 1600000 in
theorem expr_false_p (c : SC) (HL0 : LaidP c.W) (g : Nat) (IH : ShE c g) (w : World) (xs : List ByteArray) (hs : List (Nat × Obj)) (n : Node) (A : Option Addr) (cap : Nat) (k_num : (n.kind.toList == [110, 117, 109]) = false) (k_true : (n.kind.toList == [116, 114, 117, 101]) = false) (k_false : (n.kind.toList == [102, 97, 108, 115, 101]) = true) (k_unary : (n.kind.toList == [117, 110, 97, 114, 121]) = false) (k_binary : (n.kind.toList == [98, 105, 110, 97, 114, 121]) = false) (k_cast : (n.kind.toList == [99, 97, 115, 116]) = false) (hd : 3 * depthN n ≤ g + 2) (hn : numsOk n = true) (h : SS c w xs hs) (ht : Tr c.W (.slice A n.kids.length cap) n.kids) (hl : xs.length + 10 * nodesN n ≤ 1000000000) (r : Out) (hr : r = (if plainB n n.kind 0 false false then some [n.kind] else none)) : Calls Tryz.prog 94 #[.pointer (some ⟨c.p, 0, none⟩), nodeV n (.slice A n.kids.length cap), .bool false] w (PostS c xs r hs) := by
 have HL := hid HL0.v
 have HLP := hid HL0
 have HTR := hid ht
 have HR0 := hid hr
 clear hr HL0 ht
 have hnp := nodesN_pos n
 unfold nodeV
 have hlt := h.lt
 have HS0 := hid h
 clear h
 go_enter Tryz.func94, Tryz.ntmps94
 have HS1 := hid (HS0.out.alloc (.cells #[.string n.kind, .string n.text, .int .u64 n.num, .int .i64 n.line, .int .i64 n.col, .slice A n.kids.length cap] 26))
 go_wp2_with fail
 cases bp : plainB n n.kind 0 false false
 ·
  refine cmo (plain_calls _ _ _ _ _ _ _ _) ?_
  rintro e9 w1 ⟨hov, rfl⟩
  rw [bp]
  have HS2 := hid (HS1.out.isOv hov)
  clear HS1
  clear hov
  obtain rfl : r = none := by rw [HR0.out]; simp only [bp, SQ0, ↓reduceIte]
  exact ⟨rfl, rfl, HS2.out.ov⟩
 ·
  refine cmo (plain_calls _ _ _ _ _ _ _ _) ?_
  rintro e9 w1 ⟨hov, rfl⟩
  rw [bp]
  have HS2 := hid (HS1.out.isOv hov)
  clear HS1
  clear hov
  have hzb1 : w.heap.size < w1.heap.size := lt_of_heap HS2.out.h0
  obtain ⟨n0, n1, n2, n3, n4, n5, nf⟩ := cells6 HS2.out.h0
  go_wp2_with fail
  have HR1 : Hid (r = some [n.kind]) := hid (by rw [HR0.out]; simp only [bp, SQ0, ↓reduceIte])
  clear HR0
  refine cmo (put_calls c _ (xs) [n.kind] _ _ 1 (strs_read (by simp) (heap_alloc_new _ _)) (HS2.out.alloc _) (by (try simp only [List.length_append, List.length_cons, List.length_nil]); omega)) ?_
  rintro e9 w2 ⟨rfl, hss⟩
  have HS3 := hid (hss.drop)
  clear HS2
  clear hss
  go_wp2_with fail
  have hys := HR1.out
  try simp only [SQ0, ↓reduceIte] at hys
  subst hys
  exact bodyPost_end (v := .tuple #[]) (by simp [results, Tryz.results94]) rfl ⟨rfl, by have h9 := HS3.out.drop; simpa only [List.append_assoc, List.append_nil, List.nil_append, List.cons_append] using h9⟩
set_option maxRecDepth 20000 in
set_option maxHeartbeats 1600000 in
theorem expr_target_w (c : SC) (HL0 : LaidP c.W) (g : Nat) (IH : ShE c g) (w : World) (xs : List ByteArray) (hs : List (Nat × Obj)) (n : Node) (A : Option Addr) (cap : Nat) (k_num : (n.kind.toList == [110, 117, 109]) = false) (k_true : (n.kind.toList == [116, 114, 117, 101]) = false) (k_false : (n.kind.toList == [102, 97, 108, 115, 101]) = false) (k_unary : (n.kind.toList == [117, 110, 97, 114, 121]) = false) (k_binary : (n.kind.toList == [98, 105, 110, 97, 114, 121]) = false) (k_cast : (n.kind.toList == [99, 97, 115, 116]) = false) (hd : 3 * depthN n ≤ g + 2) (hn : numsOk n = true) (h : SS c w xs hs) (ht : Tr c.W (.slice A n.kids.length cap) n.kids) (hl : xs.length + 10 * nodesN n ≤ 1000000000) (r : Out) (hr : r = targetS g n) : Calls Tryz.prog 94 #[.pointer (some ⟨c.p, 0, none⟩), nodeV n (.slice A n.kids.length cap), .bool true] w (PostS c xs r hs) := by
 have HL := hid HL0.v
 have HLP := hid HL0
 have HTR := hid ht
 have HR0 := hid hr
 clear hr HL0 ht
 have hnp := nodesN_pos n
 unfold nodeV
 have hlt := h.lt
 have HS0 := hid h
 clear h
 go_enter Tryz.func94, Tryz.ntmps94
 have HS1 := hid (HS0.out.alloc (.cells #[.string n.kind, .string n.text, .int .u64 n.num, .int .i64 n.line, .int .i64 n.col, .slice A n.kids.length cap] 26))
 go_wp2_with fail
 cases h_a : targetS g n with
 | none =>
  refine cmo (IH.target _ (xs) _ n A cap (by omega) hn HS1.out HTR.out (by omega)) ?_
  rw [h_a]
  rintro e9 w99 ⟨rfl, hov⟩
  obtain rfl : r = none := by rw [HR0.out]; simp only [SQ0, ↓reduceIte, h_a]
  exact ⟨rfl, rfl, hov⟩
 | some ys_a =>
  refine cmo (IH.target _ (xs) _ n A cap (by omega) hn HS1.out HTR.out (by omega)) ?_
  rw [h_a]
  rintro e9 w1 ⟨rfl, hss⟩
  have HS2 := hid (hss)
  clear HS1
  clear hss
  have HR1 := hid (by have h9 := HR0.out; rw [h_a] at h9; exact h9)
  clear HR0
  go_wp2_with fail
  have hys := HR1.out
  try simp only [SQ0, ↓reduceIte] at hys
  subst hys
  exact bodyPost_end (v := .tuple #[]) (by simp [results, Tryz.results94]) rfl ⟨rfl, by have h9 := HS2.out.drop; simpa only [List.append_assoc, List.append_nil, List.nil_append, List.cons_append] using h9⟩
set_option maxRecDepth 20000 in
set_option maxHeartbeats 1600000 in
theorem expr_target_p (c : SC) (HL0 : LaidP c.W) (g : Nat) (IH : ShE c g) (w : World) (xs : List ByteArray) (hs : List (Nat × Obj)) (n : Node) (A : Option Addr) (cap : Nat) (k_num : (n.kind.toList == [110, 117, 109]) = false) (k_true : (n.kind.toList == [116, 114, 117, 101]) = false) (k_false : (n.kind.toList == [102, 97, 108, 115, 101]) = false) (k_unary : (n.kind.toList == [117, 110, 97, 114, 121]) = false) (k_binary : (n.kind.toList == [98, 105, 110, 97, 114, 121]) = false) (k_cast : (n.kind.toList == [99, 97, 115, 116]) = false) (hd : 3 * depthN n ≤ g + 2) (hn : numsOk n = true) (h : SS c w xs hs) (ht : Tr c.W (.slice A n.kids.length cap) n.kids) (hl : xs.length + 10 * nodesN n ≤ 1000000000) (r : Out) (hr : r = targetS g n) : Calls Tryz.prog 94 #[.pointer (some ⟨c.p, 0, none⟩), nodeV n (.slice A n.kids.length cap), .bool false] w (PostS c xs r hs) := by
 have HL := hid HL0.v
 have HLP := hid HL0
 have HTR := hid ht
 have HR0 := hid hr
 clear hr HL0 ht
 have hnp := nodesN_pos n
 unfold nodeV
 have hlt := h.lt
 have HS0 := hid h
 clear h
 go_enter Tryz.func94, Tryz.ntmps94
 have HS1 := hid (HS0.out.alloc (.cells #[.string n.kind, .string n.text, .int .u64 n.num, .int .i64 n.line, .int .i64 n.col, .slice A n.kids.length cap] 26))
 go_wp2_with fail
 cases h_a : targetS g n with
 | none =>
  refine cmo (IH.target _ (xs) _ n A cap (by omega) hn HS1.out HTR.out (by omega)) ?_
  rw [h_a]
  rintro e9 w99 ⟨rfl, hov⟩
  obtain rfl : r = none := by rw [HR0.out]; simp only [SQ0, ↓reduceIte, h_a]
  exact ⟨rfl, rfl, hov⟩
 | some ys_a =>
  refine cmo (IH.target _ (xs) _ n A cap (by omega) hn HS1.out HTR.out (by omega)) ?_
  rw [h_a]
  rintro e9 w1 ⟨rfl, hss⟩
  have HS2 := hid (hss)
  clear HS1
  clear hss
  have HR1 := hid (by have h9 := HR0.out; rw [h_a] at h9; exact h9)
  clear HR0
  go_wp2_with fail
  have hys := HR1.out
  try simp only [SQ0, ↓reduceIte] at hys
  subst hys
  exact bodyPost_end (v := .tuple #[]) (by simp [results, Tryz.results94]) rfl ⟨rfl, by have h9 := HS2.out.drop; simpa only [List.append_assoc, List.append_nil, List.nil_append, List.cons_append] using h9⟩
set_option maxRecDepth 20000 in
set_option maxHeartbeats 1600000 in
theorem expr_cast_w (c : SC) (HL0 : LaidP c.W) (g : Nat) (IH : ShE c g) (w : World) (xs : List ByteArray) (hs : List (Nat × Obj)) (n : Node) (A : Option Addr) (cap : Nat) (k_num : (n.kind.toList == [110, 117, 109]) = false) (k_true : (n.kind.toList == [116, 114, 117, 101]) = false) (k_false : (n.kind.toList == [102, 97, 108, 115, 101]) = false) (k_unary : (n.kind.toList == [117, 110, 97, 114, 121]) = false) (k_binary : (n.kind.toList == [98, 105, 110, 97, 114, 121]) = false) (k_cast : (n.kind.toList == [99, 97, 115, 116]) = true) (hd : 3 * depthN n ≤ g + 2) (hn : numsOk n = true) (h : SS c w xs hs) (ht : Tr c.W (.slice A n.kids.length cap) n.kids) (hl : xs.length + 10 * nodesN n ≤ 1000000000) (r : Out) (hr : r = (if plainB n ⟨#[99, 97, 115, 116]⟩ 1 true false && typedB n.text then sq (some [⟨#[40]⟩, n.text, ⟨#[41]⟩]) (exprS g (kidN n 0) false) else none)) : Calls Tryz.prog 94 #[.pointer (some ⟨c.p, 0, none⟩), nodeV n (.slice A n.kids.length cap), .bool true] w (PostS c xs r hs) := by
 have HL := hid HL0.v
 have HLP := hid HL0
 have HTR := hid ht
 have HR0 := hid hr
 clear hr HL0 ht
 have hnp := nodesN_pos n
 unfold nodeV
 have hlt := h.lt
 have HS0 := hid h
 clear h
 go_enter Tryz.func94, Tryz.ntmps94
 have HS1 := hid (HS0.out.alloc (.cells #[.string n.kind, .string n.text, .int .u64 n.num, .int .i64 n.line, .int .i64 n.col, .slice A n.kids.length cap] 26))
 go_wp2_with fail
 cases bp : plainB n ⟨#[99, 97, 115, 116]⟩ 1 true false
 ·
  refine cmo (plain_calls _ _ _ _ _ _ _ _) ?_
  rintro e9 w1 ⟨hov, rfl⟩
  rw [bp]
  have HS2 := hid (HS1.out.isOv hov)
  clear HS1
  clear hov
  obtain rfl : r = none := by rw [HR0.out]; simp only [bp, SQ0, ↓reduceIte]
  exact ⟨rfl, rfl, HS2.out.ov⟩
 ·
  refine cmo (plain_calls _ _ _ _ _ _ _ _) ?_
  rintro e9 w1 ⟨hov, rfl⟩
  rw [bp]
  have HS2 := hid (HS1.out.isOv hov)
  clear HS1
  clear hov
  have hzb1 : w.heap.size < w1.heap.size := lt_of_heap HS2.out.h0
  obtain ⟨n0, n1, n2, n3, n4, n5, nf⟩ := cells6 HS2.out.h0
  have hkl : (n.kids.length : Int) = 1 := plainB_len bp
  have hkn := nodes1 (n := n) (by omega)
  have hkd := kid_depth (n := n) (i := 0) (by omega)
  have hknp := nodesN_pos (kidN n 0)
  go_wp2_with fail
  cases bb : typedB n.text
  ·
   refine cmo (typed_gives n.text _) ?_
   rintro e9 w2 ⟨rfl, hov⟩
   rw [bb]
   have HS3 := hid (HS2.out.isOv hov)
   clear HS2
   clear hov
   have hzb2 : w.heap.size < w2.heap.size := lt_of_heap HS3.out.h0
   clear n0 n1 n2 n3 n4 n5 nf
   obtain ⟨n0, n1, n2, n3, n4, n5, nf⟩ := cells6 HS3.out.h0
   go_wp2_with fail
   refine cmo (must_calls false _) ?_
   rintro e9 w99 ⟨hw9, rfl⟩
   obtain rfl := hw9.symm
   clear hw9
   obtain rfl : r = none := by rw [HR0.out]; simp only [bp, bb, SQ0, ↓reduceIte]
   exact ⟨rfl, rfl, HS3.out.ov⟩
  ·
   refine cmo (typed_gives n.text _) ?_
   rintro e9 w2 ⟨rfl, hov⟩
   rw [bb]
   have HS3 := hid (HS2.out.isOv hov)
   clear HS2
   clear hov
   have hzb2 : w.heap.size < w2.heap.size := lt_of_heap HS3.out.h0
   clear n0 n1 n2 n3 n4 n5 nf
   obtain ⟨n0, n1, n2, n3, n4, n5, nf⟩ := cells6 HS3.out.h0
   go_wp2_with fail
   refine cmo (must_calls true _) ?_
   rintro e9 w99 ⟨hw9, rfl⟩
   obtain rfl := hw9.symm
   clear hw9
   go_wp2_with fail
   have HR1 : Hid (r = sq (some [⟨#[40]⟩, n.text, ⟨#[41]⟩]) (exprS g (kidN n 0) false)) := hid (by rw [HR0.out]; simp only [bp, bb, SQ0, ↓reduceIte])
   clear HR0
   refine cmo (put_calls c _ (xs) [⟨#[40]⟩, n.text, ⟨#[41]⟩] _ _ 3 (strs_read (by simp) (heap_alloc_new _ _)) (HS3.out.alloc _) (by (try simp only [List.length_append, List.length_cons, List.length_nil]); omega)) ?_
   rintro e9 w3 ⟨rfl, hss⟩
   have HS4 := hid (hss.drop)
   clear HS3
   clear hss
   have hzb3 : w.heap.size < w3.heap.size := lt_of_heap HS4.out.h0
   clear n0 n1 n2 n3 n4 n5 nf
   obtain ⟨n0, n1, n2, n3, n4, n5, nf⟩ := cells6 HS4.out.h0
   obtain ⟨gk0, Ak0, ck0, hA0, hg0, q0, q1, q2, q3, q4, q5, HTr0⟩ := kid_at HTR.out HS4.out.ov 0 (by omega)
   have HT0 := hid HTr0
   clear HTr0
   subst hA0
   have p0 : w3.cell? ⟨gk0, 0, none⟩ = _ := q0
   have p1 : w3.cell? ⟨gk0, 1, none⟩ = _ := q1
   have p2 : w3.cell? ⟨gk0, 2, none⟩ = _ := q2
   have p3 : w3.cell? ⟨gk0, 3, none⟩ = _ := q3
   have p4 : w3.cell? ⟨gk0, 4, none⟩ = _ := q4
   have p5 : w3.cell? ⟨gk0, 5, none⟩ = _ := q5
   clear q0 q1 q2 q3 q4 q5
   have hkl0 : (0 : Int) ≤ (n.kids.length : Int) := by omega
   go_wp2_with fail
   clear p0 p1 p2 p3 p4 p5
   cases h_b : exprS g (kidN n 0) false with
   | none =>
    refine cmo (IH.expr _ (xs ++ [⟨#[40]⟩, n.text, ⟨#[41]⟩]) _ (kidN n 0) _ _ false (by omega) (kid_nums (by omega) hn) HS4.out HT0.out (by (try simp only [List.length_append, List.length_cons, List.length_nil]); omega)) ?_
    rw [h_b]
    rintro e9 w99 ⟨rfl, hov⟩
    obtain rfl : r = none := by rw [HR1.out]; simp only [SQ0, ↓reduceIte, h_b]
    exact ⟨rfl, rfl, hov⟩
   | some ys_b =>
    refine cmo (IH.expr _ (xs ++ [⟨#[40]⟩, n.text, ⟨#[41]⟩]) _ (kidN n 0) _ _ false (by omega) (kid_nums (by omega) hn) HS4.out HT0.out (by (try simp only [List.length_append, List.length_cons, List.length_nil]); omega)) ?_
    rw [h_b]
    rintro e9 w4 ⟨rfl, hss⟩
    have HS5 := hid (hss)
    clear HS4
    clear hss
    have HR2 := hid (by have h9 := HR1.out; rw [h_b] at h9; exact h9)
    clear HR1
    have hlb := (mostE g).expr (kidN n 0) false _ h_b
    go_wp2_with fail
    have hys := HR2.out
    try simp only [SQ0, ↓reduceIte] at hys
    subst hys
    exact bodyPost_end (v := .tuple #[]) (by simp [results, Tryz.results94]) rfl ⟨rfl, by have h9 := HS5.out.drop; simpa only [List.append_assoc, List.append_nil, List.nil_append, List.cons_append] using h9⟩
set_option maxRecDepth 20000 in
set_option maxHeartbeats 1600000 in
theorem expr_cast_p (c : SC) (HL0 : LaidP c.W) (g : Nat) (IH : ShE c g) (w : World) (xs : List ByteArray) (hs : List (Nat × Obj)) (n : Node) (A : Option Addr) (cap : Nat) (k_num : (n.kind.toList == [110, 117, 109]) = false) (k_true : (n.kind.toList == [116, 114, 117, 101]) = false) (k_false : (n.kind.toList == [102, 97, 108, 115, 101]) = false) (k_unary : (n.kind.toList == [117, 110, 97, 114, 121]) = false) (k_binary : (n.kind.toList == [98, 105, 110, 97, 114, 121]) = false) (k_cast : (n.kind.toList == [99, 97, 115, 116]) = true) (hd : 3 * depthN n ≤ g + 2) (hn : numsOk n = true) (h : SS c w xs hs) (ht : Tr c.W (.slice A n.kids.length cap) n.kids) (hl : xs.length + 10 * nodesN n ≤ 1000000000) (r : Out) (hr : r = sq (some [⟨#[40]⟩]) (sq ((if plainB n ⟨#[99, 97, 115, 116]⟩ 1 true false && typedB n.text then sq (some [⟨#[40]⟩, n.text, ⟨#[41]⟩]) (exprS g (kidN n 0) false) else none)) (some [⟨#[41]⟩]))) : Calls Tryz.prog 94 #[.pointer (some ⟨c.p, 0, none⟩), nodeV n (.slice A n.kids.length cap), .bool false] w (PostS c xs r hs) := by
 have HL := hid HL0.v
 have HLP := hid HL0
 have HTR := hid ht
 have HR0 := hid hr
 clear hr HL0 ht
 have hnp := nodesN_pos n
 unfold nodeV
 have hlt := h.lt
 have HS0 := hid h
 clear h
 go_enter Tryz.func94, Tryz.ntmps94
 have HS1 := hid (HS0.out.alloc (.cells #[.string n.kind, .string n.text, .int .u64 n.num, .int .i64 n.line, .int .i64 n.col, .slice A n.kids.length cap] 26))
 go_wp2_with fail
 refine cmo (put_calls c _ (xs) [⟨#[40]⟩] _ _ 1 (strs_read (by simp) (by have h9 := heap_alloc_new (w.alloc (.cells #[.string n.kind, .string n.text, .int .u64 n.num, .int .i64 n.line, .int .i64 n.col, .slice A n.kids.length cap] 26)) (.cells (List.map Value.string [⟨#[40]⟩]).toArray 9); rw [World.size_alloc] at h9; exact h9)) (HS1.out.alloc _) (by simp only [List.length_append, List.length_cons, List.length_nil]; omega)) ?_
 rintro e9 w1 ⟨rfl, hss⟩
 have HS2 := hid (hss.drop)
 clear HS1
 clear hss
 have hzb1 : w.heap.size < w1.heap.size := lt_of_heap HS2.out.h0
 obtain ⟨n0, n1, n2, n3, n4, n5, nf⟩ := cells6 HS2.out.h0
 go_wp2_with fail
 cases bp : plainB n ⟨#[99, 97, 115, 116]⟩ 1 true false
 ·
  refine cmo (plain_calls _ _ _ _ _ _ _ _) ?_
  rintro e9 w2 ⟨hov, rfl⟩
  rw [bp]
  have HS3 := hid (HS2.out.isOv hov)
  clear HS2
  clear hov
  obtain rfl : r = none := by rw [HR0.out]; simp only [bp, SQ0, ↓reduceIte]
  exact ⟨rfl, rfl, HS3.out.ov⟩
 ·
  refine cmo (plain_calls _ _ _ _ _ _ _ _) ?_
  rintro e9 w2 ⟨hov, rfl⟩
  rw [bp]
  have HS3 := hid (HS2.out.isOv hov)
  clear HS2
  clear hov
  have hzb2 : w.heap.size < w2.heap.size := lt_of_heap HS3.out.h0
  clear n0 n1 n2 n3 n4 n5 nf
  obtain ⟨n0, n1, n2, n3, n4, n5, nf⟩ := cells6 HS3.out.h0
  have hkl : (n.kids.length : Int) = 1 := plainB_len bp
  have hkn := nodes1 (n := n) (by omega)
  have hkd := kid_depth (n := n) (i := 0) (by omega)
  have hknp := nodesN_pos (kidN n 0)
  go_wp2_with fail
  cases bb : typedB n.text
  ·
   refine cmo (typed_gives n.text _) ?_
   rintro e9 w3 ⟨rfl, hov⟩
   rw [bb]
   have HS4 := hid (HS3.out.isOv hov)
   clear HS3
   clear hov
   have hzb3 : w.heap.size < w3.heap.size := lt_of_heap HS4.out.h0
   clear n0 n1 n2 n3 n4 n5 nf
   obtain ⟨n0, n1, n2, n3, n4, n5, nf⟩ := cells6 HS4.out.h0
   go_wp2_with fail
   refine cmo (must_calls false _) ?_
   rintro e9 w99 ⟨hw9, rfl⟩
   obtain rfl := hw9.symm
   clear hw9
   obtain rfl : r = none := by rw [HR0.out]; simp only [bp, bb, SQ0, ↓reduceIte]
   exact ⟨rfl, rfl, HS4.out.ov⟩
  ·
   refine cmo (typed_gives n.text _) ?_
   rintro e9 w3 ⟨rfl, hov⟩
   rw [bb]
   have HS4 := hid (HS3.out.isOv hov)
   clear HS3
   clear hov
   have hzb3 : w.heap.size < w3.heap.size := lt_of_heap HS4.out.h0
   clear n0 n1 n2 n3 n4 n5 nf
   obtain ⟨n0, n1, n2, n3, n4, n5, nf⟩ := cells6 HS4.out.h0
   go_wp2_with fail
   refine cmo (must_calls true _) ?_
   rintro e9 w99 ⟨hw9, rfl⟩
   obtain rfl := hw9.symm
   clear hw9
   go_wp2_with fail
   have HR1 : Hid (r = sq (some [⟨#[40]⟩]) (sq (sq (some [⟨#[40]⟩, n.text, ⟨#[41]⟩]) (exprS g (kidN n 0) false)) (some [⟨#[41]⟩]))) := hid (by rw [HR0.out]; simp only [bp, bb, SQ0, ↓reduceIte])
   clear HR0
   refine cmo (put_calls c _ (xs ++ [⟨#[40]⟩]) [⟨#[40]⟩, n.text, ⟨#[41]⟩] _ _ 3 (strs_read (by simp) (heap_alloc_new _ _)) (HS4.out.alloc _) (by (try simp only [List.length_append, List.length_cons, List.length_nil]); omega)) ?_
   rintro e9 w4 ⟨rfl, hss⟩
   have HS5 := hid (hss.drop)
   clear HS4
   clear hss
   have hzb4 : w.heap.size < w4.heap.size := lt_of_heap HS5.out.h0
   clear n0 n1 n2 n3 n4 n5 nf
   obtain ⟨n0, n1, n2, n3, n4, n5, nf⟩ := cells6 HS5.out.h0
   obtain ⟨gk0, Ak0, ck0, hA0, hg0, q0, q1, q2, q3, q4, q5, HTr0⟩ := kid_at HTR.out HS5.out.ov 0 (by omega)
   have HT0 := hid HTr0
   clear HTr0
   subst hA0
   have p0 : w4.cell? ⟨gk0, 0, none⟩ = _ := q0
   have p1 : w4.cell? ⟨gk0, 1, none⟩ = _ := q1
   have p2 : w4.cell? ⟨gk0, 2, none⟩ = _ := q2
   have p3 : w4.cell? ⟨gk0, 3, none⟩ = _ := q3
   have p4 : w4.cell? ⟨gk0, 4, none⟩ = _ := q4
   have p5 : w4.cell? ⟨gk0, 5, none⟩ = _ := q5
   clear q0 q1 q2 q3 q4 q5
   have hkl0 : (0 : Int) ≤ (n.kids.length : Int) := by omega
   go_wp2_with fail
   clear p0 p1 p2 p3 p4 p5
   cases h_b : exprS g (kidN n 0) false with
   | none =>
    refine cmo (IH.expr _ (xs ++ [⟨#[40]⟩] ++ [⟨#[40]⟩, n.text, ⟨#[41]⟩]) _ (kidN n 0) _ _ false (by omega) (kid_nums (by omega) hn) HS5.out HT0.out (by (try simp only [List.length_append, List.length_cons, List.length_nil]); omega)) ?_
    rw [h_b]
    rintro e9 w99 ⟨rfl, hov⟩
    obtain rfl : r = none := by rw [HR1.out]; simp only [SQ0, ↓reduceIte, h_b]
    exact ⟨rfl, rfl, hov⟩
   | some ys_b =>
    refine cmo (IH.expr _ (xs ++ [⟨#[40]⟩] ++ [⟨#[40]⟩, n.text, ⟨#[41]⟩]) _ (kidN n 0) _ _ false (by omega) (kid_nums (by omega) hn) HS5.out HT0.out (by (try simp only [List.length_append, List.length_cons, List.length_nil]); omega)) ?_
    rw [h_b]
    rintro e9 w5 ⟨rfl, hss⟩
    have HS6 := hid (hss)
    clear HS5
    clear hss
    have HR2 := hid (by have h9 := HR1.out; rw [h_b] at h9; exact h9)
    clear HR1
    have hlb := (mostE g).expr (kidN n 0) false _ h_b
    go_wp2_with fail
    refine cmo (put_calls c _ (xs ++ [⟨#[40]⟩] ++ [⟨#[40]⟩, n.text, ⟨#[41]⟩] ++ ys_b) [⟨#[41]⟩] _ _ 1 (strs_read (by simp) (heap_alloc_new _ _)) (HS6.out.alloc _) (by simp only [List.length_append, List.length_cons, List.length_nil]; omega)) ?_
    rintro e9 w6 ⟨rfl, hss⟩
    have HS7 := hid (hss.drop)
    clear HS6
    clear hss
    go_wp2_with fail
    have hys := HR2.out
    try simp only [SQ0, ↓reduceIte] at hys
    subst hys
    exact bodyPost_end (v := .tuple #[]) (by simp [results, Tryz.results94]) rfl ⟨rfl, by have h9 := HS7.out.drop; simpa only [List.append_assoc, List.append_nil, List.nil_append, List.cons_append] using h9⟩
set_option maxRecDepth 20000 in
set_option maxHeartbeats 1600000 in
theorem expr_unary_w (c : SC) (HL0 : LaidP c.W) (g : Nat) (IH : ShE c g) (w : World) (xs : List ByteArray) (hs : List (Nat × Obj)) (n : Node) (A : Option Addr) (cap : Nat) (k_num : (n.kind.toList == [110, 117, 109]) = false) (k_true : (n.kind.toList == [116, 114, 117, 101]) = false) (k_false : (n.kind.toList == [102, 97, 108, 115, 101]) = false) (k_unary : (n.kind.toList == [117, 110, 97, 114, 121]) = true) (k_binary : (n.kind.toList == [98, 105, 110, 97, 114, 121]) = false) (k_cast : (n.kind.toList == [99, 97, 115, 116]) = false) (hd : 3 * depthN n ≤ g + 2) (hn : numsOk n = true) (h : SS c w xs hs) (ht : Tr c.W (.slice A n.kids.length cap) n.kids) (hl : xs.length + 10 * nodesN n ≤ 1000000000) (r : Out) (hr : r = (if plainB n ⟨#[117, 110, 97, 114, 121]⟩ 1 true false && (eqB n.text ⟨#[33]⟩ || (eqB n.text ⟨#[126]⟩ || eqB n.text ⟨#[45]⟩)) then sq (some [n.text]) (exprS g (kidN n 0) false) else none)) : Calls Tryz.prog 94 #[.pointer (some ⟨c.p, 0, none⟩), nodeV n (.slice A n.kids.length cap), .bool true] w (PostS c xs r hs) := by
 have HL := hid HL0.v
 have HLP := hid HL0
 have HTR := hid ht
 have HR0 := hid hr
 clear hr HL0 ht
 have hnp := nodesN_pos n
 unfold nodeV
 have hlt := h.lt
 have HS0 := hid h
 clear h
 go_enter Tryz.func94, Tryz.ntmps94
 have HS1 := hid (HS0.out.alloc (.cells #[.string n.kind, .string n.text, .int .u64 n.num, .int .i64 n.line, .int .i64 n.col, .slice A n.kids.length cap] 26))
 go_wp2_with fail
 cases bp : plainB n ⟨#[117, 110, 97, 114, 121]⟩ 1 true false
 ·
  refine cmo (plain_calls _ _ _ _ _ _ _ _) ?_
  rintro e9 w1 ⟨hov, rfl⟩
  rw [bp]
  have HS2 := hid (HS1.out.isOv hov)
  clear HS1
  clear hov
  obtain rfl : r = none := by rw [HR0.out]; simp only [bp, SQ0, ↓reduceIte]
  exact ⟨rfl, rfl, HS2.out.ov⟩
 ·
  refine cmo (plain_calls _ _ _ _ _ _ _ _) ?_
  rintro e9 w1 ⟨hov, rfl⟩
  rw [bp]
  have HS2 := hid (HS1.out.isOv hov)
  clear HS1
  clear hov
  have hzb1 : w.heap.size < w1.heap.size := lt_of_heap HS2.out.h0
  obtain ⟨n0, n1, n2, n3, n4, n5, nf⟩ := cells6 HS2.out.h0
  have hkl : (n.kids.length : Int) = 1 := plainB_len bp
  have hkn := nodes1 (n := n) (by omega)
  have hkd := kid_depth (n := n) (i := 0) (by omega)
  have hknp := nodesN_pos (kidN n 0)
  cases b1 : (n.text.toList == [33])
  ·
   have b1d : eqB n.text ⟨#[33]⟩ = false := by rw [Lib.toList_data] at b1; exact b1
   cases b2 : (n.text.toList == [126])
   ·
    have b2d : eqB n.text ⟨#[126]⟩ = false := by rw [Lib.toList_data] at b2; exact b2
    cases b3 : (n.text.toList == [45])
    ·
     have b3d : eqB n.text ⟨#[45]⟩ = false := by rw [Lib.toList_data] at b3; exact b3
     go_wp2_with fail
     refine cmo (must_calls false _) ?_
     rintro e9 w99 ⟨hw9, rfl⟩
     obtain rfl := hw9.symm
     clear hw9
     obtain rfl : r = none := by rw [HR0.out]; simp only [bp, b1d, b2d, b3d, SQ0, ↓reduceIte]
     exact ⟨rfl, rfl, HS2.out.ov⟩
    ·
     have b3d : eqB n.text ⟨#[45]⟩ = true := by rw [Lib.toList_data] at b3; exact b3
     go_wp2_with fail
     refine cmo (must_calls true _) ?_
     rintro e9 w99 ⟨hw9, rfl⟩
     obtain rfl := hw9.symm
     clear hw9
     go_wp2_with fail
     have HR1 : Hid (r = sq (some [n.text]) (exprS g (kidN n 0) false)) := hid (by rw [HR0.out]; simp only [bp, b1d, b2d, b3d, SQ0, ↓reduceIte])
     clear HR0
     refine cmo (put_calls c _ (xs) [n.text] _ _ 1 (strs_read (by simp) (heap_alloc_new _ _)) (HS2.out.alloc _) (by (try simp only [List.length_append, List.length_cons, List.length_nil]); omega)) ?_
     rintro e9 w2 ⟨rfl, hss⟩
     have HS3 := hid (hss.drop)
     clear HS2
     clear hss
     have hzb2 : w.heap.size < w2.heap.size := lt_of_heap HS3.out.h0
     clear n0 n1 n2 n3 n4 n5 nf
     obtain ⟨n0, n1, n2, n3, n4, n5, nf⟩ := cells6 HS3.out.h0
     obtain ⟨gk0, Ak0, ck0, hA0, hg0, q0, q1, q2, q3, q4, q5, HTr0⟩ := kid_at HTR.out HS3.out.ov 0 (by omega)
     have HT0 := hid HTr0
     clear HTr0
     subst hA0
     have p0 : w2.cell? ⟨gk0, 0, none⟩ = _ := q0
     have p1 : w2.cell? ⟨gk0, 1, none⟩ = _ := q1
     have p2 : w2.cell? ⟨gk0, 2, none⟩ = _ := q2
     have p3 : w2.cell? ⟨gk0, 3, none⟩ = _ := q3
     have p4 : w2.cell? ⟨gk0, 4, none⟩ = _ := q4
     have p5 : w2.cell? ⟨gk0, 5, none⟩ = _ := q5
     clear q0 q1 q2 q3 q4 q5
     have hkl0 : (0 : Int) ≤ (n.kids.length : Int) := by omega
     go_wp2_with fail
     clear p0 p1 p2 p3 p4 p5
     cases h_b : exprS g (kidN n 0) false with
     | none =>
      refine cmo (IH.expr _ (xs ++ [n.text]) _ (kidN n 0) _ _ false (by omega) (kid_nums (by omega) hn) HS3.out HT0.out (by (try simp only [List.length_append, List.length_cons, List.length_nil]); omega)) ?_
      rw [h_b]
      rintro e9 w99 ⟨rfl, hov⟩
      obtain rfl : r = none := by rw [HR1.out]; simp only [SQ0, ↓reduceIte, h_b]
      exact ⟨rfl, rfl, hov⟩
     | some ys_b =>
      refine cmo (IH.expr _ (xs ++ [n.text]) _ (kidN n 0) _ _ false (by omega) (kid_nums (by omega) hn) HS3.out HT0.out (by (try simp only [List.length_append, List.length_cons, List.length_nil]); omega)) ?_
      rw [h_b]
      rintro e9 w3 ⟨rfl, hss⟩
      have HS4 := hid (hss)
      clear HS3
      clear hss
      have HR2 := hid (by have h9 := HR1.out; rw [h_b] at h9; exact h9)
      clear HR1
      have hlb := (mostE g).expr (kidN n 0) false _ h_b
      go_wp2_with fail
      have hys := HR2.out
      try simp only [SQ0, ↓reduceIte] at hys
      subst hys
      exact bodyPost_end (v := .tuple #[]) (by simp [results, Tryz.results94]) rfl ⟨rfl, by have h9 := HS4.out.drop; simpa only [List.append_assoc, List.append_nil, List.nil_append, List.cons_append] using h9⟩
   ·
    have b2d : eqB n.text ⟨#[126]⟩ = true := by rw [Lib.toList_data] at b2; exact b2
    go_wp2_with fail
    refine cmo (must_calls true _) ?_
    rintro e9 w99 ⟨hw9, rfl⟩
    obtain rfl := hw9.symm
    clear hw9
    go_wp2_with fail
    have HR1 : Hid (r = sq (some [n.text]) (exprS g (kidN n 0) false)) := hid (by rw [HR0.out]; simp only [bp, b1d, b2d, SQ0, ↓reduceIte])
    clear HR0
    refine cmo (put_calls c _ (xs) [n.text] _ _ 1 (strs_read (by simp) (heap_alloc_new _ _)) (HS2.out.alloc _) (by (try simp only [List.length_append, List.length_cons, List.length_nil]); omega)) ?_
    rintro e9 w2 ⟨rfl, hss⟩
    have HS3 := hid (hss.drop)
    clear HS2
    clear hss
    have hzb2 : w.heap.size < w2.heap.size := lt_of_heap HS3.out.h0
    clear n0 n1 n2 n3 n4 n5 nf
    obtain ⟨n0, n1, n2, n3, n4, n5, nf⟩ := cells6 HS3.out.h0
    obtain ⟨gk0, Ak0, ck0, hA0, hg0, q0, q1, q2, q3, q4, q5, HTr0⟩ := kid_at HTR.out HS3.out.ov 0 (by omega)
    have HT0 := hid HTr0
    clear HTr0
    subst hA0
    have p0 : w2.cell? ⟨gk0, 0, none⟩ = _ := q0
    have p1 : w2.cell? ⟨gk0, 1, none⟩ = _ := q1
    have p2 : w2.cell? ⟨gk0, 2, none⟩ = _ := q2
    have p3 : w2.cell? ⟨gk0, 3, none⟩ = _ := q3
    have p4 : w2.cell? ⟨gk0, 4, none⟩ = _ := q4
    have p5 : w2.cell? ⟨gk0, 5, none⟩ = _ := q5
    clear q0 q1 q2 q3 q4 q5
    have hkl0 : (0 : Int) ≤ (n.kids.length : Int) := by omega
    go_wp2_with fail
    clear p0 p1 p2 p3 p4 p5
    cases h_b : exprS g (kidN n 0) false with
    | none =>
     refine cmo (IH.expr _ (xs ++ [n.text]) _ (kidN n 0) _ _ false (by omega) (kid_nums (by omega) hn) HS3.out HT0.out (by (try simp only [List.length_append, List.length_cons, List.length_nil]); omega)) ?_
     rw [h_b]
     rintro e9 w99 ⟨rfl, hov⟩
     obtain rfl : r = none := by rw [HR1.out]; simp only [SQ0, ↓reduceIte, h_b]
     exact ⟨rfl, rfl, hov⟩
    | some ys_b =>
     refine cmo (IH.expr _ (xs ++ [n.text]) _ (kidN n 0) _ _ false (by omega) (kid_nums (by omega) hn) HS3.out HT0.out (by (try simp only [List.length_append, List.length_cons, List.length_nil]); omega)) ?_
     rw [h_b]
     rintro e9 w3 ⟨rfl, hss⟩
     have HS4 := hid (hss)
     clear HS3
     clear hss
     have HR2 := hid (by have h9 := HR1.out; rw [h_b] at h9; exact h9)
     clear HR1
     have hlb := (mostE g).expr (kidN n 0) false _ h_b
     go_wp2_with fail
     have hys := HR2.out
     try simp only [SQ0, ↓reduceIte] at hys
     subst hys
     exact bodyPost_end (v := .tuple #[]) (by simp [results, Tryz.results94]) rfl ⟨rfl, by have h9 := HS4.out.drop; simpa only [List.append_assoc, List.append_nil, List.nil_append, List.cons_append] using h9⟩
  ·
   have b1d : eqB n.text ⟨#[33]⟩ = true := by rw [Lib.toList_data] at b1; exact b1
   go_wp2_with fail
   refine cmo (must_calls true _) ?_
   rintro e9 w99 ⟨hw9, rfl⟩
   obtain rfl := hw9.symm
   clear hw9
   go_wp2_with fail
   have HR1 : Hid (r = sq (some [n.text]) (exprS g (kidN n 0) false)) := hid (by rw [HR0.out]; simp only [bp, b1d, SQ0, ↓reduceIte])
   clear HR0
   refine cmo (put_calls c _ (xs) [n.text] _ _ 1 (strs_read (by simp) (heap_alloc_new _ _)) (HS2.out.alloc _) (by (try simp only [List.length_append, List.length_cons, List.length_nil]); omega)) ?_
   rintro e9 w2 ⟨rfl, hss⟩
   have HS3 := hid (hss.drop)
   clear HS2
   clear hss
   have hzb2 : w.heap.size < w2.heap.size := lt_of_heap HS3.out.h0
   clear n0 n1 n2 n3 n4 n5 nf
   obtain ⟨n0, n1, n2, n3, n4, n5, nf⟩ := cells6 HS3.out.h0
   obtain ⟨gk0, Ak0, ck0, hA0, hg0, q0, q1, q2, q3, q4, q5, HTr0⟩ := kid_at HTR.out HS3.out.ov 0 (by omega)
   have HT0 := hid HTr0
   clear HTr0
   subst hA0
   have p0 : w2.cell? ⟨gk0, 0, none⟩ = _ := q0
   have p1 : w2.cell? ⟨gk0, 1, none⟩ = _ := q1
   have p2 : w2.cell? ⟨gk0, 2, none⟩ = _ := q2
   have p3 : w2.cell? ⟨gk0, 3, none⟩ = _ := q3
   have p4 : w2.cell? ⟨gk0, 4, none⟩ = _ := q4
   have p5 : w2.cell? ⟨gk0, 5, none⟩ = _ := q5
   clear q0 q1 q2 q3 q4 q5
   have hkl0 : (0 : Int) ≤ (n.kids.length : Int) := by omega
   go_wp2_with fail
   clear p0 p1 p2 p3 p4 p5
   cases h_b : exprS g (kidN n 0) false with
   | none =>
    refine cmo (IH.expr _ (xs ++ [n.text]) _ (kidN n 0) _ _ false (by omega) (kid_nums (by omega) hn) HS3.out HT0.out (by (try simp only [List.length_append, List.length_cons, List.length_nil]); omega)) ?_
    rw [h_b]
    rintro e9 w99 ⟨rfl, hov⟩
    obtain rfl : r = none := by rw [HR1.out]; simp only [SQ0, ↓reduceIte, h_b]
    exact ⟨rfl, rfl, hov⟩
   | some ys_b =>
    refine cmo (IH.expr _ (xs ++ [n.text]) _ (kidN n 0) _ _ false (by omega) (kid_nums (by omega) hn) HS3.out HT0.out (by (try simp only [List.length_append, List.length_cons, List.length_nil]); omega)) ?_
    rw [h_b]
    rintro e9 w3 ⟨rfl, hss⟩
    have HS4 := hid (hss)
    clear HS3
    clear hss
    have HR2 := hid (by have h9 := HR1.out; rw [h_b] at h9; exact h9)
    clear HR1
    have hlb := (mostE g).expr (kidN n 0) false _ h_b
    go_wp2_with fail
    have hys := HR2.out
    try simp only [SQ0, ↓reduceIte] at hys
    subst hys
    exact bodyPost_end (v := .tuple #[]) (by simp [results, Tryz.results94]) rfl ⟨rfl, by have h9 := HS4.out.drop; simpa only [List.append_assoc, List.append_nil, List.nil_append, List.cons_append] using h9⟩
set_option maxRecDepth 20000 in
set_option maxHeartbeats 1600000 in
theorem expr_unary_p (c : SC) (HL0 : LaidP c.W) (g : Nat) (IH : ShE c g) (w : World) (xs : List ByteArray) (hs : List (Nat × Obj)) (n : Node) (A : Option Addr) (cap : Nat) (k_num : (n.kind.toList == [110, 117, 109]) = false) (k_true : (n.kind.toList == [116, 114, 117, 101]) = false) (k_false : (n.kind.toList == [102, 97, 108, 115, 101]) = false) (k_unary : (n.kind.toList == [117, 110, 97, 114, 121]) = true) (k_binary : (n.kind.toList == [98, 105, 110, 97, 114, 121]) = false) (k_cast : (n.kind.toList == [99, 97, 115, 116]) = false) (hd : 3 * depthN n ≤ g + 2) (hn : numsOk n = true) (h : SS c w xs hs) (ht : Tr c.W (.slice A n.kids.length cap) n.kids) (hl : xs.length + 10 * nodesN n ≤ 1000000000) (r : Out) (hr : r = sq (some [⟨#[40]⟩]) (sq ((if plainB n ⟨#[117, 110, 97, 114, 121]⟩ 1 true false && (eqB n.text ⟨#[33]⟩ || (eqB n.text ⟨#[126]⟩ || eqB n.text ⟨#[45]⟩)) then sq (some [n.text]) (exprS g (kidN n 0) false) else none)) (some [⟨#[41]⟩]))) : Calls Tryz.prog 94 #[.pointer (some ⟨c.p, 0, none⟩), nodeV n (.slice A n.kids.length cap), .bool false] w (PostS c xs r hs) := by
 have HL := hid HL0.v
 have HLP := hid HL0
 have HTR := hid ht
 have HR0 := hid hr
 clear hr HL0 ht
 have hnp := nodesN_pos n
 unfold nodeV
 have hlt := h.lt
 have HS0 := hid h
 clear h
 go_enter Tryz.func94, Tryz.ntmps94
 have HS1 := hid (HS0.out.alloc (.cells #[.string n.kind, .string n.text, .int .u64 n.num, .int .i64 n.line, .int .i64 n.col, .slice A n.kids.length cap] 26))
 go_wp2_with fail
 refine cmo (put_calls c _ (xs) [⟨#[40]⟩] _ _ 1 (strs_read (by simp) (by have h9 := heap_alloc_new (w.alloc (.cells #[.string n.kind, .string n.text, .int .u64 n.num, .int .i64 n.line, .int .i64 n.col, .slice A n.kids.length cap] 26)) (.cells (List.map Value.string [⟨#[40]⟩]).toArray 9); rw [World.size_alloc] at h9; exact h9)) (HS1.out.alloc _) (by simp only [List.length_append, List.length_cons, List.length_nil]; omega)) ?_
 rintro e9 w1 ⟨rfl, hss⟩
 have HS2 := hid (hss.drop)
 clear HS1
 clear hss
 have hzb1 : w.heap.size < w1.heap.size := lt_of_heap HS2.out.h0
 obtain ⟨n0, n1, n2, n3, n4, n5, nf⟩ := cells6 HS2.out.h0
 go_wp2_with fail
 cases bp : plainB n ⟨#[117, 110, 97, 114, 121]⟩ 1 true false
 ·
  refine cmo (plain_calls _ _ _ _ _ _ _ _) ?_
  rintro e9 w2 ⟨hov, rfl⟩
  rw [bp]
  have HS3 := hid (HS2.out.isOv hov)
  clear HS2
  clear hov
  obtain rfl : r = none := by rw [HR0.out]; simp only [bp, SQ0, ↓reduceIte]
  exact ⟨rfl, rfl, HS3.out.ov⟩
 ·
  refine cmo (plain_calls _ _ _ _ _ _ _ _) ?_
  rintro e9 w2 ⟨hov, rfl⟩
  rw [bp]
  have HS3 := hid (HS2.out.isOv hov)
  clear HS2
  clear hov
  have hzb2 : w.heap.size < w2.heap.size := lt_of_heap HS3.out.h0
  clear n0 n1 n2 n3 n4 n5 nf
  obtain ⟨n0, n1, n2, n3, n4, n5, nf⟩ := cells6 HS3.out.h0
  have hkl : (n.kids.length : Int) = 1 := plainB_len bp
  have hkn := nodes1 (n := n) (by omega)
  have hkd := kid_depth (n := n) (i := 0) (by omega)
  have hknp := nodesN_pos (kidN n 0)
  cases b1 : (n.text.toList == [33])
  ·
   have b1d : eqB n.text ⟨#[33]⟩ = false := by rw [Lib.toList_data] at b1; exact b1
   cases b2 : (n.text.toList == [126])
   ·
    have b2d : eqB n.text ⟨#[126]⟩ = false := by rw [Lib.toList_data] at b2; exact b2
    cases b3 : (n.text.toList == [45])
    ·
     have b3d : eqB n.text ⟨#[45]⟩ = false := by rw [Lib.toList_data] at b3; exact b3
     go_wp2_with fail
     refine cmo (must_calls false _) ?_
     rintro e9 w99 ⟨hw9, rfl⟩
     obtain rfl := hw9.symm
     clear hw9
     obtain rfl : r = none := by rw [HR0.out]; simp only [bp, b1d, b2d, b3d, SQ0, ↓reduceIte]
     exact ⟨rfl, rfl, HS3.out.ov⟩
    ·
     have b3d : eqB n.text ⟨#[45]⟩ = true := by rw [Lib.toList_data] at b3; exact b3
     go_wp2_with fail
     refine cmo (must_calls true _) ?_
     rintro e9 w99 ⟨hw9, rfl⟩
     obtain rfl := hw9.symm
     clear hw9
     go_wp2_with fail
     have HR1 : Hid (r = sq (some [⟨#[40]⟩]) (sq (sq (some [n.text]) (exprS g (kidN n 0) false)) (some [⟨#[41]⟩]))) := hid (by rw [HR0.out]; simp only [bp, b1d, b2d, b3d, SQ0, ↓reduceIte])
     clear HR0
     refine cmo (put_calls c _ (xs ++ [⟨#[40]⟩]) [n.text] _ _ 1 (strs_read (by simp) (heap_alloc_new _ _)) (HS3.out.alloc _) (by (try simp only [List.length_append, List.length_cons, List.length_nil]); omega)) ?_
     rintro e9 w3 ⟨rfl, hss⟩
     have HS4 := hid (hss.drop)
     clear HS3
     clear hss
     have hzb3 : w.heap.size < w3.heap.size := lt_of_heap HS4.out.h0
     clear n0 n1 n2 n3 n4 n5 nf
     obtain ⟨n0, n1, n2, n3, n4, n5, nf⟩ := cells6 HS4.out.h0
     obtain ⟨gk0, Ak0, ck0, hA0, hg0, q0, q1, q2, q3, q4, q5, HTr0⟩ := kid_at HTR.out HS4.out.ov 0 (by omega)
     have HT0 := hid HTr0
     clear HTr0
     subst hA0
     have p0 : w3.cell? ⟨gk0, 0, none⟩ = _ := q0
     have p1 : w3.cell? ⟨gk0, 1, none⟩ = _ := q1
     have p2 : w3.cell? ⟨gk0, 2, none⟩ = _ := q2
     have p3 : w3.cell? ⟨gk0, 3, none⟩ = _ := q3
     have p4 : w3.cell? ⟨gk0, 4, none⟩ = _ := q4
     have p5 : w3.cell? ⟨gk0, 5, none⟩ = _ := q5
     clear q0 q1 q2 q3 q4 q5
     have hkl0 : (0 : Int) ≤ (n.kids.length : Int) := by omega
     go_wp2_with fail
     clear p0 p1 p2 p3 p4 p5
     cases h_b : exprS g (kidN n 0) false with
     | none =>
      refine cmo (IH.expr _ (xs ++ [⟨#[40]⟩] ++ [n.text]) _ (kidN n 0) _ _ false (by omega) (kid_nums (by omega) hn) HS4.out HT0.out (by (try simp only [List.length_append, List.length_cons, List.length_nil]); omega)) ?_
      rw [h_b]
      rintro e9 w99 ⟨rfl, hov⟩
      obtain rfl : r = none := by rw [HR1.out]; simp only [SQ0, ↓reduceIte, h_b]
      exact ⟨rfl, rfl, hov⟩
     | some ys_b =>
      refine cmo (IH.expr _ (xs ++ [⟨#[40]⟩] ++ [n.text]) _ (kidN n 0) _ _ false (by omega) (kid_nums (by omega) hn) HS4.out HT0.out (by (try simp only [List.length_append, List.length_cons, List.length_nil]); omega)) ?_
      rw [h_b]
      rintro e9 w4 ⟨rfl, hss⟩
      have HS5 := hid (hss)
      clear HS4
      clear hss
      have HR2 := hid (by have h9 := HR1.out; rw [h_b] at h9; exact h9)
      clear HR1
      have hlb := (mostE g).expr (kidN n 0) false _ h_b
      go_wp2_with fail
      refine cmo (put_calls c _ (xs ++ [⟨#[40]⟩] ++ [n.text] ++ ys_b) [⟨#[41]⟩] _ _ 1 (strs_read (by simp) (heap_alloc_new _ _)) (HS5.out.alloc _) (by simp only [List.length_append, List.length_cons, List.length_nil]; omega)) ?_
      rintro e9 w5 ⟨rfl, hss⟩
      have HS6 := hid (hss.drop)
      clear HS5
      clear hss
      go_wp2_with fail
      have hys := HR2.out
      try simp only [SQ0, ↓reduceIte] at hys
      subst hys
      exact bodyPost_end (v := .tuple #[]) (by simp [results, Tryz.results94]) rfl ⟨rfl, by have h9 := HS6.out.drop; simpa only [List.append_assoc, List.append_nil, List.nil_append, List.cons_append] using h9⟩
   ·
    have b2d : eqB n.text ⟨#[126]⟩ = true := by rw [Lib.toList_data] at b2; exact b2
    go_wp2_with fail
    refine cmo (must_calls true _) ?_
    rintro e9 w99 ⟨hw9, rfl⟩
    obtain rfl := hw9.symm
    clear hw9
    go_wp2_with fail
    have HR1 : Hid (r = sq (some [⟨#[40]⟩]) (sq (sq (some [n.text]) (exprS g (kidN n 0) false)) (some [⟨#[41]⟩]))) := hid (by rw [HR0.out]; simp only [bp, b1d, b2d, SQ0, ↓reduceIte])
    clear HR0
    refine cmo (put_calls c _ (xs ++ [⟨#[40]⟩]) [n.text] _ _ 1 (strs_read (by simp) (heap_alloc_new _ _)) (HS3.out.alloc _) (by (try simp only [List.length_append, List.length_cons, List.length_nil]); omega)) ?_
    rintro e9 w3 ⟨rfl, hss⟩
    have HS4 := hid (hss.drop)
    clear HS3
    clear hss
    have hzb3 : w.heap.size < w3.heap.size := lt_of_heap HS4.out.h0
    clear n0 n1 n2 n3 n4 n5 nf
    obtain ⟨n0, n1, n2, n3, n4, n5, nf⟩ := cells6 HS4.out.h0
    obtain ⟨gk0, Ak0, ck0, hA0, hg0, q0, q1, q2, q3, q4, q5, HTr0⟩ := kid_at HTR.out HS4.out.ov 0 (by omega)
    have HT0 := hid HTr0
    clear HTr0
    subst hA0
    have p0 : w3.cell? ⟨gk0, 0, none⟩ = _ := q0
    have p1 : w3.cell? ⟨gk0, 1, none⟩ = _ := q1
    have p2 : w3.cell? ⟨gk0, 2, none⟩ = _ := q2
    have p3 : w3.cell? ⟨gk0, 3, none⟩ = _ := q3
    have p4 : w3.cell? ⟨gk0, 4, none⟩ = _ := q4
    have p5 : w3.cell? ⟨gk0, 5, none⟩ = _ := q5
    clear q0 q1 q2 q3 q4 q5
    have hkl0 : (0 : Int) ≤ (n.kids.length : Int) := by omega
    go_wp2_with fail
    clear p0 p1 p2 p3 p4 p5
    cases h_b : exprS g (kidN n 0) false with
    | none =>
     refine cmo (IH.expr _ (xs ++ [⟨#[40]⟩] ++ [n.text]) _ (kidN n 0) _ _ false (by omega) (kid_nums (by omega) hn) HS4.out HT0.out (by (try simp only [List.length_append, List.length_cons, List.length_nil]); omega)) ?_
     rw [h_b]
     rintro e9 w99 ⟨rfl, hov⟩
     obtain rfl : r = none := by rw [HR1.out]; simp only [SQ0, ↓reduceIte, h_b]
     exact ⟨rfl, rfl, hov⟩
    | some ys_b =>
     refine cmo (IH.expr _ (xs ++ [⟨#[40]⟩] ++ [n.text]) _ (kidN n 0) _ _ false (by omega) (kid_nums (by omega) hn) HS4.out HT0.out (by (try simp only [List.length_append, List.length_cons, List.length_nil]); omega)) ?_
     rw [h_b]
     rintro e9 w4 ⟨rfl, hss⟩
     have HS5 := hid (hss)
     clear HS4
     clear hss
     have HR2 := hid (by have h9 := HR1.out; rw [h_b] at h9; exact h9)
     clear HR1
     have hlb := (mostE g).expr (kidN n 0) false _ h_b
     go_wp2_with fail
     refine cmo (put_calls c _ (xs ++ [⟨#[40]⟩] ++ [n.text] ++ ys_b) [⟨#[41]⟩] _ _ 1 (strs_read (by simp) (heap_alloc_new _ _)) (HS5.out.alloc _) (by simp only [List.length_append, List.length_cons, List.length_nil]; omega)) ?_
     rintro e9 w5 ⟨rfl, hss⟩
     have HS6 := hid (hss.drop)
     clear HS5
     clear hss
     go_wp2_with fail
     have hys := HR2.out
     try simp only [SQ0, ↓reduceIte] at hys
     subst hys
     exact bodyPost_end (v := .tuple #[]) (by simp [results, Tryz.results94]) rfl ⟨rfl, by have h9 := HS6.out.drop; simpa only [List.append_assoc, List.append_nil, List.nil_append, List.cons_append] using h9⟩
  ·
   have b1d : eqB n.text ⟨#[33]⟩ = true := by rw [Lib.toList_data] at b1; exact b1
   go_wp2_with fail
   refine cmo (must_calls true _) ?_
   rintro e9 w99 ⟨hw9, rfl⟩
   obtain rfl := hw9.symm
   clear hw9
   go_wp2_with fail
   have HR1 : Hid (r = sq (some [⟨#[40]⟩]) (sq (sq (some [n.text]) (exprS g (kidN n 0) false)) (some [⟨#[41]⟩]))) := hid (by rw [HR0.out]; simp only [bp, b1d, SQ0, ↓reduceIte])
   clear HR0
   refine cmo (put_calls c _ (xs ++ [⟨#[40]⟩]) [n.text] _ _ 1 (strs_read (by simp) (heap_alloc_new _ _)) (HS3.out.alloc _) (by (try simp only [List.length_append, List.length_cons, List.length_nil]); omega)) ?_
   rintro e9 w3 ⟨rfl, hss⟩
   have HS4 := hid (hss.drop)
   clear HS3
   clear hss
   have hzb3 : w.heap.size < w3.heap.size := lt_of_heap HS4.out.h0
   clear n0 n1 n2 n3 n4 n5 nf
   obtain ⟨n0, n1, n2, n3, n4, n5, nf⟩ := cells6 HS4.out.h0
   obtain ⟨gk0, Ak0, ck0, hA0, hg0, q0, q1, q2, q3, q4, q5, HTr0⟩ := kid_at HTR.out HS4.out.ov 0 (by omega)
   have HT0 := hid HTr0
   clear HTr0
   subst hA0
   have p0 : w3.cell? ⟨gk0, 0, none⟩ = _ := q0
   have p1 : w3.cell? ⟨gk0, 1, none⟩ = _ := q1
   have p2 : w3.cell? ⟨gk0, 2, none⟩ = _ := q2
   have p3 : w3.cell? ⟨gk0, 3, none⟩ = _ := q3
   have p4 : w3.cell? ⟨gk0, 4, none⟩ = _ := q4
   have p5 : w3.cell? ⟨gk0, 5, none⟩ = _ := q5
   clear q0 q1 q2 q3 q4 q5
   have hkl0 : (0 : Int) ≤ (n.kids.length : Int) := by omega
   go_wp2_with fail
   clear p0 p1 p2 p3 p4 p5
   cases h_b : exprS g (kidN n 0) false with
   | none =>
    refine cmo (IH.expr _ (xs ++ [⟨#[40]⟩] ++ [n.text]) _ (kidN n 0) _ _ false (by omega) (kid_nums (by omega) hn) HS4.out HT0.out (by (try simp only [List.length_append, List.length_cons, List.length_nil]); omega)) ?_
    rw [h_b]
    rintro e9 w99 ⟨rfl, hov⟩
    obtain rfl : r = none := by rw [HR1.out]; simp only [SQ0, ↓reduceIte, h_b]
    exact ⟨rfl, rfl, hov⟩
   | some ys_b =>
    refine cmo (IH.expr _ (xs ++ [⟨#[40]⟩] ++ [n.text]) _ (kidN n 0) _ _ false (by omega) (kid_nums (by omega) hn) HS4.out HT0.out (by (try simp only [List.length_append, List.length_cons, List.length_nil]); omega)) ?_
    rw [h_b]
    rintro e9 w4 ⟨rfl, hss⟩
    have HS5 := hid (hss)
    clear HS4
    clear hss
    have HR2 := hid (by have h9 := HR1.out; rw [h_b] at h9; exact h9)
    clear HR1
    have hlb := (mostE g).expr (kidN n 0) false _ h_b
    go_wp2_with fail
    refine cmo (put_calls c _ (xs ++ [⟨#[40]⟩] ++ [n.text] ++ ys_b) [⟨#[41]⟩] _ _ 1 (strs_read (by simp) (heap_alloc_new _ _)) (HS5.out.alloc _) (by simp only [List.length_append, List.length_cons, List.length_nil]; omega)) ?_
    rintro e9 w5 ⟨rfl, hss⟩
    have HS6 := hid (hss.drop)
    clear HS5
    clear hss
    go_wp2_with fail
    have hys := HR2.out
    try simp only [SQ0, ↓reduceIte] at hys
    subst hys
    exact bodyPost_end (v := .tuple #[]) (by simp [results, Tryz.results94]) rfl ⟨rfl, by have h9 := HS6.out.drop; simpa only [List.append_assoc, List.append_nil, List.nil_append, List.cons_append] using h9⟩
set_option maxRecDepth 20000 in
set_option maxHeartbeats 1600000 in
theorem expr_binary_w (c : SC) (HL0 : LaidP c.W) (g : Nat) (IH : ShE c g) (w : World) (xs : List ByteArray) (hs : List (Nat × Obj)) (n : Node) (A : Option Addr) (cap : Nat) (k_num : (n.kind.toList == [110, 117, 109]) = false) (k_true : (n.kind.toList == [116, 114, 117, 101]) = false) (k_false : (n.kind.toList == [102, 97, 108, 115, 101]) = false) (k_unary : (n.kind.toList == [117, 110, 97, 114, 121]) = false) (k_binary : (n.kind.toList == [98, 105, 110, 97, 114, 121]) = true) (k_cast : (n.kind.toList == [99, 97, 115, 116]) = false) (hd : 3 * depthN n ≤ g + 2) (hn : numsOk n = true) (h : SS c w xs hs) (ht : Tr c.W (.slice A n.kids.length cap) n.kids) (hl : xs.length + 10 * nodesN n ≤ 1000000000) (r : Out) (hr : r = (if plainB n ⟨#[98, 105, 110, 97, 114, 121]⟩ 2 true false && bindingB n.text then sq (exprS g (kidN n 0) false) (sq (some [n.text]) (exprS g (kidN n 1) false)) else none)) : Calls Tryz.prog 94 #[.pointer (some ⟨c.p, 0, none⟩), nodeV n (.slice A n.kids.length cap), .bool true] w (PostS c xs r hs) := by
 have HL := hid HL0.v
 have HLP := hid HL0
 have HTR := hid ht
 have HR0 := hid hr
 clear hr HL0 ht
 have hnp := nodesN_pos n
 unfold nodeV
 have hlt := h.lt
 have HS0 := hid h
 clear h
 go_enter Tryz.func94, Tryz.ntmps94
 have HS1 := hid (HS0.out.alloc (.cells #[.string n.kind, .string n.text, .int .u64 n.num, .int .i64 n.line, .int .i64 n.col, .slice A n.kids.length cap] 26))
 go_wp2_with fail
 cases bp : plainB n ⟨#[98, 105, 110, 97, 114, 121]⟩ 2 true false
 ·
  refine cmo (plain_calls _ _ _ _ _ _ _ _) ?_
  rintro e9 w1 ⟨hov, rfl⟩
  rw [bp]
  have HS2 := hid (HS1.out.isOv hov)
  clear HS1
  clear hov
  obtain rfl : r = none := by rw [HR0.out]; simp only [bp, SQ0, ↓reduceIte]
  exact ⟨rfl, rfl, HS2.out.ov⟩
 ·
  refine cmo (plain_calls _ _ _ _ _ _ _ _) ?_
  rintro e9 w1 ⟨hov, rfl⟩
  rw [bp]
  have HS2 := hid (HS1.out.isOv hov)
  clear HS1
  clear hov
  have hzb1 : w.heap.size < w1.heap.size := lt_of_heap HS2.out.h0
  obtain ⟨n0, n1, n2, n3, n4, n5, nf⟩ := cells6 HS2.out.h0
  have hkl : (n.kids.length : Int) = 2 := plainB_len bp
  have hkn := nodes2 (n := n) (by omega)
  have hkd := kid_depth (n := n) (i := 0) (by omega)
  have hkd1 := kid_depth (n := n) (i := 1) (by omega)
  have hknp := nodesN_pos (kidN n 0)
  have hknp1 := nodesN_pos (kidN n 1)
  obtain ⟨m9, hm9⟩ := HLP.out.ml
  go_wp2_with fail
  cases bb : bindingB n.text
  ·
   refine cmo (binding_gives n.text _ m9 (HS2.out.ov.cell hm9)) ?_
   rintro e9 w2 ⟨rfl, hov⟩
   rw [bb]
   have HS3 := hid (HS2.out.isOv hov)
   clear HS2
   clear hov
   have hzb2 : w.heap.size < w2.heap.size := lt_of_heap HS3.out.h0
   clear n0 n1 n2 n3 n4 n5 nf
   obtain ⟨n0, n1, n2, n3, n4, n5, nf⟩ := cells6 HS3.out.h0
   go_wp2_with fail
   refine cmo (must_calls false _) ?_
   rintro e9 w99 ⟨hw9, rfl⟩
   obtain rfl := hw9.symm
   clear hw9
   obtain rfl : r = none := by rw [HR0.out]; simp only [bp, bb, SQ0, ↓reduceIte]
   exact ⟨rfl, rfl, HS3.out.ov⟩
  ·
   refine cmo (binding_gives n.text _ m9 (HS2.out.ov.cell hm9)) ?_
   rintro e9 w2 ⟨rfl, hov⟩
   rw [bb]
   have HS3 := hid (HS2.out.isOv hov)
   clear HS2
   clear hov
   have hzb2 : w.heap.size < w2.heap.size := lt_of_heap HS3.out.h0
   clear n0 n1 n2 n3 n4 n5 nf
   obtain ⟨n0, n1, n2, n3, n4, n5, nf⟩ := cells6 HS3.out.h0
   go_wp2_with fail
   refine cmo (must_calls true _) ?_
   rintro e9 w99 ⟨hw9, rfl⟩
   obtain rfl := hw9.symm
   clear hw9
   obtain ⟨gk0, Ak0, ck0, hA0, hg0, q0, q1, q2, q3, q4, q5, HTr0⟩ := kid_at HTR.out HS3.out.ov 0 (by omega)
   have HT0 := hid HTr0
   clear HTr0
   subst hA0
   have p0 : w2.cell? ⟨gk0, 0, none⟩ = _ := q0
   have p1 : w2.cell? ⟨gk0, 1, none⟩ = _ := q1
   have p2 : w2.cell? ⟨gk0, 2, none⟩ = _ := q2
   have p3 : w2.cell? ⟨gk0, 3, none⟩ = _ := q3
   have p4 : w2.cell? ⟨gk0, 4, none⟩ = _ := q4
   have p5 : w2.cell? ⟨gk0, 5, none⟩ = _ := q5
   clear q0 q1 q2 q3 q4 q5
   have hkl0 : (0 : Int) ≤ (n.kids.length : Int) := by omega
   go_wp2_with fail
   clear p0 p1 p2 p3 p4 p5
   have HR1 : Hid (r = sq (exprS g (kidN n 0) false) (sq (some [n.text]) (exprS g (kidN n 1) false))) := hid (by rw [HR0.out]; simp only [bp, bb, SQ0, ↓reduceIte])
   clear HR0
   cases h_b : exprS g (kidN n 0) false with
   | none =>
    refine cmo (IH.expr _ (xs) _ (kidN n 0) _ _ false (by omega) (kid_nums (by omega) hn) HS3.out HT0.out (by (try simp only [List.length_append, List.length_cons, List.length_nil]); omega)) ?_
    rw [h_b]
    rintro e9 w99 ⟨rfl, hov⟩
    obtain rfl : r = none := by rw [HR1.out]; simp only [SQ0, ↓reduceIte, h_b]
    exact ⟨rfl, rfl, hov⟩
   | some ys_b =>
    refine cmo (IH.expr _ (xs) _ (kidN n 0) _ _ false (by omega) (kid_nums (by omega) hn) HS3.out HT0.out (by (try simp only [List.length_append, List.length_cons, List.length_nil]); omega)) ?_
    rw [h_b]
    rintro e9 w3 ⟨rfl, hss⟩
    have HS4 := hid (hss)
    clear HS3
    clear hss
    have HR2 := hid (by have h9 := HR1.out; rw [h_b] at h9; exact h9)
    clear HR1
    have hlb := (mostE g).expr (kidN n 0) false _ h_b
    have hzb3 : w.heap.size < w3.heap.size := lt_of_heap HS4.out.h0
    clear n0 n1 n2 n3 n4 n5 nf
    obtain ⟨n0, n1, n2, n3, n4, n5, nf⟩ := cells6 HS4.out.h0
    go_wp2_with fail
    refine cmo (put_calls c _ (xs ++ ys_b) [n.text] _ _ 1 (strs_read (by simp) (heap_alloc_new _ _)) (HS4.out.alloc _) (by (try simp only [List.length_append, List.length_cons, List.length_nil]); omega)) ?_
    rintro e9 w4 ⟨rfl, hss⟩
    have HS5 := hid (hss.drop)
    clear HS4
    clear hss
    have hzb4 : w.heap.size < w4.heap.size := lt_of_heap HS5.out.h0
    clear n0 n1 n2 n3 n4 n5 nf
    obtain ⟨n0, n1, n2, n3, n4, n5, nf⟩ := cells6 HS5.out.h0
    obtain ⟨gk1, Ak1, ck1, hA1, hg1, q0, q1, q2, q3, q4, q5, HTr1⟩ := kid_at HTR.out HS5.out.ov 1 (by omega)
    have HT1 := hid HTr1
    clear HTr1
    obtain rfl : gk0 = gk1 := by have := Option.some.inj hA1; exact congrArg Addr.block this
    have p0 : w4.cell? ⟨gk0, 6, none⟩ = _ := q0
    have p1 : w4.cell? ⟨gk0, 7, none⟩ = _ := q1
    have p2 : w4.cell? ⟨gk0, 8, none⟩ = _ := q2
    have p3 : w4.cell? ⟨gk0, 9, none⟩ = _ := q3
    have p4 : w4.cell? ⟨gk0, 10, none⟩ = _ := q4
    have p5 : w4.cell? ⟨gk0, 11, none⟩ = _ := q5
    clear q0 q1 q2 q3 q4 q5
    have hkl0 : (0 : Int) ≤ (n.kids.length : Int) := by omega
    go_wp2_with fail
    clear p0 p1 p2 p3 p4 p5
    cases h_d : exprS g (kidN n 1) false with
    | none =>
     refine cmo (IH.expr _ (xs ++ ys_b ++ [n.text]) _ (kidN n 1) _ _ false (by omega) (kid_nums (by omega) hn) HS5.out HT1.out (by (try simp only [List.length_append, List.length_cons, List.length_nil]); omega)) ?_
     rw [h_d]
     rintro e9 w99 ⟨rfl, hov⟩
     obtain rfl : r = none := by rw [HR2.out]; simp only [SQ0, ↓reduceIte, h_d]
     exact ⟨rfl, rfl, hov⟩
    | some ys_d =>
     refine cmo (IH.expr _ (xs ++ ys_b ++ [n.text]) _ (kidN n 1) _ _ false (by omega) (kid_nums (by omega) hn) HS5.out HT1.out (by (try simp only [List.length_append, List.length_cons, List.length_nil]); omega)) ?_
     rw [h_d]
     rintro e9 w5 ⟨rfl, hss⟩
     have HS6 := hid (hss)
     clear HS5
     clear hss
     have HR3 := hid (by have h9 := HR2.out; rw [h_d] at h9; exact h9)
     clear HR2
     have hld := (mostE g).expr (kidN n 1) false _ h_d
     go_wp2_with fail
     have hys := HR3.out
     try simp only [SQ0, ↓reduceIte] at hys
     subst hys
     exact bodyPost_end (v := .tuple #[]) (by simp [results, Tryz.results94]) rfl ⟨rfl, by have h9 := HS6.out.drop; simpa only [List.append_assoc, List.append_nil, List.nil_append, List.cons_append] using h9⟩
set_option maxRecDepth 20000 in
set_option maxHeartbeats 1600000 in
theorem expr_binary_p (c : SC) (HL0 : LaidP c.W) (g : Nat) (IH : ShE c g) (w : World) (xs : List ByteArray) (hs : List (Nat × Obj)) (n : Node) (A : Option Addr) (cap : Nat) (k_num : (n.kind.toList == [110, 117, 109]) = false) (k_true : (n.kind.toList == [116, 114, 117, 101]) = false) (k_false : (n.kind.toList == [102, 97, 108, 115, 101]) = false) (k_unary : (n.kind.toList == [117, 110, 97, 114, 121]) = false) (k_binary : (n.kind.toList == [98, 105, 110, 97, 114, 121]) = true) (k_cast : (n.kind.toList == [99, 97, 115, 116]) = false) (hd : 3 * depthN n ≤ g + 2) (hn : numsOk n = true) (h : SS c w xs hs) (ht : Tr c.W (.slice A n.kids.length cap) n.kids) (hl : xs.length + 10 * nodesN n ≤ 1000000000) (r : Out) (hr : r = sq (some [⟨#[40]⟩]) (sq ((if plainB n ⟨#[98, 105, 110, 97, 114, 121]⟩ 2 true false && bindingB n.text then sq (exprS g (kidN n 0) false) (sq (some [n.text]) (exprS g (kidN n 1) false)) else none)) (some [⟨#[41]⟩]))) : Calls Tryz.prog 94 #[.pointer (some ⟨c.p, 0, none⟩), nodeV n (.slice A n.kids.length cap), .bool false] w (PostS c xs r hs) := by
 have HL := hid HL0.v
 have HLP := hid HL0
 have HTR := hid ht
 have HR0 := hid hr
 clear hr HL0 ht
 have hnp := nodesN_pos n
 unfold nodeV
 have hlt := h.lt
 have HS0 := hid h
 clear h
 go_enter Tryz.func94, Tryz.ntmps94
 have HS1 := hid (HS0.out.alloc (.cells #[.string n.kind, .string n.text, .int .u64 n.num, .int .i64 n.line, .int .i64 n.col, .slice A n.kids.length cap] 26))
 go_wp2_with fail
 refine cmo (put_calls c _ (xs) [⟨#[40]⟩] _ _ 1 (strs_read (by simp) (by have h9 := heap_alloc_new (w.alloc (.cells #[.string n.kind, .string n.text, .int .u64 n.num, .int .i64 n.line, .int .i64 n.col, .slice A n.kids.length cap] 26)) (.cells (List.map Value.string [⟨#[40]⟩]).toArray 9); rw [World.size_alloc] at h9; exact h9)) (HS1.out.alloc _) (by simp only [List.length_append, List.length_cons, List.length_nil]; omega)) ?_
 rintro e9 w1 ⟨rfl, hss⟩
 have HS2 := hid (hss.drop)
 clear HS1
 clear hss
 have hzb1 : w.heap.size < w1.heap.size := lt_of_heap HS2.out.h0
 obtain ⟨n0, n1, n2, n3, n4, n5, nf⟩ := cells6 HS2.out.h0
 go_wp2_with fail
 cases bp : plainB n ⟨#[98, 105, 110, 97, 114, 121]⟩ 2 true false
 ·
  refine cmo (plain_calls _ _ _ _ _ _ _ _) ?_
  rintro e9 w2 ⟨hov, rfl⟩
  rw [bp]
  have HS3 := hid (HS2.out.isOv hov)
  clear HS2
  clear hov
  obtain rfl : r = none := by rw [HR0.out]; simp only [bp, SQ0, ↓reduceIte]
  exact ⟨rfl, rfl, HS3.out.ov⟩
 ·
  refine cmo (plain_calls _ _ _ _ _ _ _ _) ?_
  rintro e9 w2 ⟨hov, rfl⟩
  rw [bp]
  have HS3 := hid (HS2.out.isOv hov)
  clear HS2
  clear hov
  have hzb2 : w.heap.size < w2.heap.size := lt_of_heap HS3.out.h0
  clear n0 n1 n2 n3 n4 n5 nf
  obtain ⟨n0, n1, n2, n3, n4, n5, nf⟩ := cells6 HS3.out.h0
  have hkl : (n.kids.length : Int) = 2 := plainB_len bp
  have hkn := nodes2 (n := n) (by omega)
  have hkd := kid_depth (n := n) (i := 0) (by omega)
  have hkd1 := kid_depth (n := n) (i := 1) (by omega)
  have hknp := nodesN_pos (kidN n 0)
  have hknp1 := nodesN_pos (kidN n 1)
  obtain ⟨m9, hm9⟩ := HLP.out.ml
  go_wp2_with fail
  cases bb : bindingB n.text
  ·
   refine cmo (binding_gives n.text _ m9 (HS3.out.ov.cell hm9)) ?_
   rintro e9 w3 ⟨rfl, hov⟩
   rw [bb]
   have HS4 := hid (HS3.out.isOv hov)
   clear HS3
   clear hov
   have hzb3 : w.heap.size < w3.heap.size := lt_of_heap HS4.out.h0
   clear n0 n1 n2 n3 n4 n5 nf
   obtain ⟨n0, n1, n2, n3, n4, n5, nf⟩ := cells6 HS4.out.h0
   go_wp2_with fail
   refine cmo (must_calls false _) ?_
   rintro e9 w99 ⟨hw9, rfl⟩
   obtain rfl := hw9.symm
   clear hw9
   obtain rfl : r = none := by rw [HR0.out]; simp only [bp, bb, SQ0, ↓reduceIte]
   exact ⟨rfl, rfl, HS4.out.ov⟩
  ·
   refine cmo (binding_gives n.text _ m9 (HS3.out.ov.cell hm9)) ?_
   rintro e9 w3 ⟨rfl, hov⟩
   rw [bb]
   have HS4 := hid (HS3.out.isOv hov)
   clear HS3
   clear hov
   have hzb3 : w.heap.size < w3.heap.size := lt_of_heap HS4.out.h0
   clear n0 n1 n2 n3 n4 n5 nf
   obtain ⟨n0, n1, n2, n3, n4, n5, nf⟩ := cells6 HS4.out.h0
   go_wp2_with fail
   refine cmo (must_calls true _) ?_
   rintro e9 w99 ⟨hw9, rfl⟩
   obtain rfl := hw9.symm
   clear hw9
   obtain ⟨gk0, Ak0, ck0, hA0, hg0, q0, q1, q2, q3, q4, q5, HTr0⟩ := kid_at HTR.out HS4.out.ov 0 (by omega)
   have HT0 := hid HTr0
   clear HTr0
   subst hA0
   have p0 : w3.cell? ⟨gk0, 0, none⟩ = _ := q0
   have p1 : w3.cell? ⟨gk0, 1, none⟩ = _ := q1
   have p2 : w3.cell? ⟨gk0, 2, none⟩ = _ := q2
   have p3 : w3.cell? ⟨gk0, 3, none⟩ = _ := q3
   have p4 : w3.cell? ⟨gk0, 4, none⟩ = _ := q4
   have p5 : w3.cell? ⟨gk0, 5, none⟩ = _ := q5
   clear q0 q1 q2 q3 q4 q5
   have hkl0 : (0 : Int) ≤ (n.kids.length : Int) := by omega
   go_wp2_with fail
   clear p0 p1 p2 p3 p4 p5
   have HR1 : Hid (r = sq (some [⟨#[40]⟩]) (sq (sq (exprS g (kidN n 0) false) (sq (some [n.text]) (exprS g (kidN n 1) false))) (some [⟨#[41]⟩]))) := hid (by rw [HR0.out]; simp only [bp, bb, SQ0, ↓reduceIte])
   clear HR0
   cases h_b : exprS g (kidN n 0) false with
   | none =>
    refine cmo (IH.expr _ (xs ++ [⟨#[40]⟩]) _ (kidN n 0) _ _ false (by omega) (kid_nums (by omega) hn) HS4.out HT0.out (by (try simp only [List.length_append, List.length_cons, List.length_nil]); omega)) ?_
    rw [h_b]
    rintro e9 w99 ⟨rfl, hov⟩
    obtain rfl : r = none := by rw [HR1.out]; simp only [SQ0, ↓reduceIte, h_b]
    exact ⟨rfl, rfl, hov⟩
   | some ys_b =>
    refine cmo (IH.expr _ (xs ++ [⟨#[40]⟩]) _ (kidN n 0) _ _ false (by omega) (kid_nums (by omega) hn) HS4.out HT0.out (by (try simp only [List.length_append, List.length_cons, List.length_nil]); omega)) ?_
    rw [h_b]
    rintro e9 w4 ⟨rfl, hss⟩
    have HS5 := hid (hss)
    clear HS4
    clear hss
    have HR2 := hid (by have h9 := HR1.out; rw [h_b] at h9; exact h9)
    clear HR1
    have hlb := (mostE g).expr (kidN n 0) false _ h_b
    have hzb4 : w.heap.size < w4.heap.size := lt_of_heap HS5.out.h0
    clear n0 n1 n2 n3 n4 n5 nf
    obtain ⟨n0, n1, n2, n3, n4, n5, nf⟩ := cells6 HS5.out.h0
    go_wp2_with fail
    refine cmo (put_calls c _ (xs ++ [⟨#[40]⟩] ++ ys_b) [n.text] _ _ 1 (strs_read (by simp) (heap_alloc_new _ _)) (HS5.out.alloc _) (by (try simp only [List.length_append, List.length_cons, List.length_nil]); omega)) ?_
    rintro e9 w5 ⟨rfl, hss⟩
    have HS6 := hid (hss.drop)
    clear HS5
    clear hss
    have hzb5 : w.heap.size < w5.heap.size := lt_of_heap HS6.out.h0
    clear n0 n1 n2 n3 n4 n5 nf
    obtain ⟨n0, n1, n2, n3, n4, n5, nf⟩ := cells6 HS6.out.h0
    obtain ⟨gk1, Ak1, ck1, hA1, hg1, q0, q1, q2, q3, q4, q5, HTr1⟩ := kid_at HTR.out HS6.out.ov 1 (by omega)
    have HT1 := hid HTr1
    clear HTr1
    obtain rfl : gk0 = gk1 := by have := Option.some.inj hA1; exact congrArg Addr.block this
    have p0 : w5.cell? ⟨gk0, 6, none⟩ = _ := q0
    have p1 : w5.cell? ⟨gk0, 7, none⟩ = _ := q1
    have p2 : w5.cell? ⟨gk0, 8, none⟩ = _ := q2
    have p3 : w5.cell? ⟨gk0, 9, none⟩ = _ := q3
    have p4 : w5.cell? ⟨gk0, 10, none⟩ = _ := q4
    have p5 : w5.cell? ⟨gk0, 11, none⟩ = _ := q5
    clear q0 q1 q2 q3 q4 q5
    have hkl0 : (0 : Int) ≤ (n.kids.length : Int) := by omega
    go_wp2_with fail
    clear p0 p1 p2 p3 p4 p5
    cases h_d : exprS g (kidN n 1) false with
    | none =>
     refine cmo (IH.expr _ (xs ++ [⟨#[40]⟩] ++ ys_b ++ [n.text]) _ (kidN n 1) _ _ false (by omega) (kid_nums (by omega) hn) HS6.out HT1.out (by (try simp only [List.length_append, List.length_cons, List.length_nil]); omega)) ?_
     rw [h_d]
     rintro e9 w99 ⟨rfl, hov⟩
     obtain rfl : r = none := by rw [HR2.out]; simp only [SQ0, ↓reduceIte, h_d]
     exact ⟨rfl, rfl, hov⟩
    | some ys_d =>
     refine cmo (IH.expr _ (xs ++ [⟨#[40]⟩] ++ ys_b ++ [n.text]) _ (kidN n 1) _ _ false (by omega) (kid_nums (by omega) hn) HS6.out HT1.out (by (try simp only [List.length_append, List.length_cons, List.length_nil]); omega)) ?_
     rw [h_d]
     rintro e9 w6 ⟨rfl, hss⟩
     have HS7 := hid (hss)
     clear HS6
     clear hss
     have HR3 := hid (by have h9 := HR2.out; rw [h_d] at h9; exact h9)
     clear HR2
     have hld := (mostE g).expr (kidN n 1) false _ h_d
     go_wp2_with fail
     refine cmo (put_calls c _ (xs ++ [⟨#[40]⟩] ++ ys_b ++ [n.text] ++ ys_d) [⟨#[41]⟩] _ _ 1 (strs_read (by simp) (heap_alloc_new _ _)) (HS7.out.alloc _) (by simp only [List.length_append, List.length_cons, List.length_nil]; omega)) ?_
     rintro e9 w7 ⟨rfl, hss⟩
     have HS8 := hid (hss.drop)
     clear HS7
     clear hss
     go_wp2_with fail
     have hys := HR3.out
     try simp only [SQ0, ↓reduceIte] at hys
     subst hys
     exact bodyPost_end (v := .tuple #[]) (by simp [results, Tryz.results94]) rfl ⟨rfl, by have h9 := HS8.out.drop; simpa only [List.append_assoc, List.append_nil, List.nil_append, List.cons_append] using h9⟩
end Go.Proofs.YtdimhoilfopndaaGreatDoor
end
section
namespace Go.Proofs.YtdimhoilfopndaaGreatDoor
open Go.RowKit Go.Proofs.YtdimhoilfopndaaGreatDoorW.PrintWords
theorem expr_shows (c : SC) (HL : LaidP c.W) (g : Nat) (I : ShE c g) (w : World) (xs : List ByteArray) (hs : List (Nat × Obj)) (n : Node) (A : Option Addr) (cap : Nat) (whole : Bool) (hd : 3 * depthN n ≤ g + 2) (hn : numsOk n = true) (h : SS c w xs hs) (ht : Tr c.W (.slice A n.kids.length cap) n.kids) (hl : xs.length + 10 * nodesN n ≤ 1000000000) : Calls Tryz.prog 94 #[.pointer (some ⟨c.p, 0, none⟩), nodeV n (.slice A n.kids.length cap), .bool whole] w (PostS c xs (exprS (g + 2) n whole) hs) := by
 cases k_num : (n.kind.toList == [110, 117, 109])
 ·
  cases k_true : (n.kind.toList == [116, 114, 117, 101])
  ·
   cases k_false : (n.kind.toList == [102, 97, 108, 115, 101])
   ·
    cases k_unary : (n.kind.toList == [117, 110, 97, 114, 121])
    ·
     cases k_binary : (n.kind.toList == [98, 105, 110, 97, 114, 121])
     ·
      cases k_cast : (n.kind.toList == [99, 97, 115, 116])
      ·
       have e_num : eqB n.kind ⟨#[110, 117, 109]⟩ = false := by have h9 := k_num; rw [Lib.toList_data] at h9; exact h9
       have e_true : eqB n.kind ⟨#[116, 114, 117, 101]⟩ = false := by have h9 := k_true; rw [Lib.toList_data] at h9; exact h9
       have e_false : eqB n.kind ⟨#[102, 97, 108, 115, 101]⟩ = false := by have h9 := k_false; rw [Lib.toList_data] at h9; exact h9
       have e_unary : eqB n.kind ⟨#[117, 110, 97, 114, 121]⟩ = false := by have h9 := k_unary; rw [Lib.toList_data] at h9; exact h9
       have e_binary : eqB n.kind ⟨#[98, 105, 110, 97, 114, 121]⟩ = false := by have h9 := k_binary; rw [Lib.toList_data] at h9; exact h9
       have e_cast : eqB n.kind ⟨#[99, 97, 115, 116]⟩ = false := by have h9 := k_cast; rw [Lib.toList_data] at h9; exact h9
       cases whole
       · exact expr_target_p c HL g I w xs hs n A cap k_num k_true k_false k_unary k_binary k_cast hd hn h ht hl _ (by simp only [exprS, coreS, Bool.or_true, Bool.true_or, Bool.or_false, Bool.false_or, Bool.or_self, Bool.false_and, Bool.true_and, Bool.and_true, Bool.and_false, Bool.not_true, Bool.not_false, Bool.false_eq_true, ↓reduceIte, e_num, e_true, e_false, e_unary, e_binary, e_cast])
       · exact expr_target_w c HL g I w xs hs n A cap k_num k_true k_false k_unary k_binary k_cast hd hn h ht hl _ (by simp only [exprS, coreS, Bool.or_true, Bool.true_or, Bool.or_false, Bool.false_or, Bool.or_self, Bool.false_and, Bool.true_and, Bool.and_true, Bool.and_false, Bool.not_true, Bool.not_false, Bool.false_eq_true, ↓reduceIte, e_num, e_true, e_false, e_unary, e_binary, e_cast])
      ·
       have hk9 : n.kind.toList = [99, 97, 115, 116] := by simpa using k_cast
       have k_num : (n.kind.toList == [110, 117, 109]) = false := by rw [hk9]; rfl
       have k_true : (n.kind.toList == [116, 114, 117, 101]) = false := by rw [hk9]; rfl
       have k_false : (n.kind.toList == [102, 97, 108, 115, 101]) = false := by rw [hk9]; rfl
       have k_unary : (n.kind.toList == [117, 110, 97, 114, 121]) = false := by rw [hk9]; rfl
       have k_binary : (n.kind.toList == [98, 105, 110, 97, 114, 121]) = false := by rw [hk9]; rfl
       have e_num : eqB n.kind ⟨#[110, 117, 109]⟩ = false := by have h9 := k_num; rw [Lib.toList_data] at h9; exact h9
       have e_true : eqB n.kind ⟨#[116, 114, 117, 101]⟩ = false := by have h9 := k_true; rw [Lib.toList_data] at h9; exact h9
       have e_false : eqB n.kind ⟨#[102, 97, 108, 115, 101]⟩ = false := by have h9 := k_false; rw [Lib.toList_data] at h9; exact h9
       have e_unary : eqB n.kind ⟨#[117, 110, 97, 114, 121]⟩ = false := by have h9 := k_unary; rw [Lib.toList_data] at h9; exact h9
       have e_binary : eqB n.kind ⟨#[98, 105, 110, 97, 114, 121]⟩ = false := by have h9 := k_binary; rw [Lib.toList_data] at h9; exact h9
       have e_cast : eqB n.kind ⟨#[99, 97, 115, 116]⟩ = true := by have h9 := k_cast; rw [Lib.toList_data] at h9; exact h9
       cases whole
       · exact expr_cast_p c HL g I w xs hs n A cap k_num k_true k_false k_unary k_binary k_cast hd hn h ht hl _ (by simp only [exprS, coreS, Bool.or_true, Bool.true_or, Bool.or_false, Bool.false_or, Bool.or_self, Bool.false_and, Bool.true_and, Bool.and_true, Bool.and_false, Bool.not_true, Bool.not_false, Bool.false_eq_true, ↓reduceIte, e_num, e_true, e_false, e_unary, e_binary, e_cast])
       · exact expr_cast_w c HL g I w xs hs n A cap k_num k_true k_false k_unary k_binary k_cast hd hn h ht hl _ (by simp only [exprS, coreS, Bool.or_true, Bool.true_or, Bool.or_false, Bool.false_or, Bool.or_self, Bool.false_and, Bool.true_and, Bool.and_true, Bool.and_false, Bool.not_true, Bool.not_false, Bool.false_eq_true, ↓reduceIte, e_num, e_true, e_false, e_unary, e_binary, e_cast])
     ·
      have hk9 : n.kind.toList = [98, 105, 110, 97, 114, 121] := by simpa using k_binary
      have k_num : (n.kind.toList == [110, 117, 109]) = false := by rw [hk9]; rfl
      have k_true : (n.kind.toList == [116, 114, 117, 101]) = false := by rw [hk9]; rfl
      have k_false : (n.kind.toList == [102, 97, 108, 115, 101]) = false := by rw [hk9]; rfl
      have k_unary : (n.kind.toList == [117, 110, 97, 114, 121]) = false := by rw [hk9]; rfl
      have k_cast : (n.kind.toList == [99, 97, 115, 116]) = false := by rw [hk9]; rfl
      have e_num : eqB n.kind ⟨#[110, 117, 109]⟩ = false := by have h9 := k_num; rw [Lib.toList_data] at h9; exact h9
      have e_true : eqB n.kind ⟨#[116, 114, 117, 101]⟩ = false := by have h9 := k_true; rw [Lib.toList_data] at h9; exact h9
      have e_false : eqB n.kind ⟨#[102, 97, 108, 115, 101]⟩ = false := by have h9 := k_false; rw [Lib.toList_data] at h9; exact h9
      have e_unary : eqB n.kind ⟨#[117, 110, 97, 114, 121]⟩ = false := by have h9 := k_unary; rw [Lib.toList_data] at h9; exact h9
      have e_binary : eqB n.kind ⟨#[98, 105, 110, 97, 114, 121]⟩ = true := by have h9 := k_binary; rw [Lib.toList_data] at h9; exact h9
      have e_cast : eqB n.kind ⟨#[99, 97, 115, 116]⟩ = false := by have h9 := k_cast; rw [Lib.toList_data] at h9; exact h9
      cases whole
      · exact expr_binary_p c HL g I w xs hs n A cap k_num k_true k_false k_unary k_binary k_cast hd hn h ht hl _ (by simp only [exprS, coreS, Bool.or_true, Bool.true_or, Bool.or_false, Bool.false_or, Bool.or_self, Bool.false_and, Bool.true_and, Bool.and_true, Bool.and_false, Bool.not_true, Bool.not_false, Bool.false_eq_true, ↓reduceIte, e_num, e_true, e_false, e_unary, e_binary, e_cast])
      · exact expr_binary_w c HL g I w xs hs n A cap k_num k_true k_false k_unary k_binary k_cast hd hn h ht hl _ (by simp only [exprS, coreS, Bool.or_true, Bool.true_or, Bool.or_false, Bool.false_or, Bool.or_self, Bool.false_and, Bool.true_and, Bool.and_true, Bool.and_false, Bool.not_true, Bool.not_false, Bool.false_eq_true, ↓reduceIte, e_num, e_true, e_false, e_unary, e_binary, e_cast])
    ·
     have hk9 : n.kind.toList = [117, 110, 97, 114, 121] := by simpa using k_unary
     have k_num : (n.kind.toList == [110, 117, 109]) = false := by rw [hk9]; rfl
     have k_true : (n.kind.toList == [116, 114, 117, 101]) = false := by rw [hk9]; rfl
     have k_false : (n.kind.toList == [102, 97, 108, 115, 101]) = false := by rw [hk9]; rfl
     have k_binary : (n.kind.toList == [98, 105, 110, 97, 114, 121]) = false := by rw [hk9]; rfl
     have k_cast : (n.kind.toList == [99, 97, 115, 116]) = false := by rw [hk9]; rfl
     have e_num : eqB n.kind ⟨#[110, 117, 109]⟩ = false := by have h9 := k_num; rw [Lib.toList_data] at h9; exact h9
     have e_true : eqB n.kind ⟨#[116, 114, 117, 101]⟩ = false := by have h9 := k_true; rw [Lib.toList_data] at h9; exact h9
     have e_false : eqB n.kind ⟨#[102, 97, 108, 115, 101]⟩ = false := by have h9 := k_false; rw [Lib.toList_data] at h9; exact h9
     have e_unary : eqB n.kind ⟨#[117, 110, 97, 114, 121]⟩ = true := by have h9 := k_unary; rw [Lib.toList_data] at h9; exact h9
     have e_binary : eqB n.kind ⟨#[98, 105, 110, 97, 114, 121]⟩ = false := by have h9 := k_binary; rw [Lib.toList_data] at h9; exact h9
     have e_cast : eqB n.kind ⟨#[99, 97, 115, 116]⟩ = false := by have h9 := k_cast; rw [Lib.toList_data] at h9; exact h9
     cases whole
     · exact expr_unary_p c HL g I w xs hs n A cap k_num k_true k_false k_unary k_binary k_cast hd hn h ht hl _ (by simp only [exprS, coreS, Bool.or_true, Bool.true_or, Bool.or_false, Bool.false_or, Bool.or_self, Bool.false_and, Bool.true_and, Bool.and_true, Bool.and_false, Bool.not_true, Bool.not_false, Bool.false_eq_true, ↓reduceIte, e_num, e_true, e_false, e_unary, e_binary, e_cast])
     · exact expr_unary_w c HL g I w xs hs n A cap k_num k_true k_false k_unary k_binary k_cast hd hn h ht hl _ (by simp only [exprS, coreS, Bool.or_true, Bool.true_or, Bool.or_false, Bool.false_or, Bool.or_self, Bool.false_and, Bool.true_and, Bool.and_true, Bool.and_false, Bool.not_true, Bool.not_false, Bool.false_eq_true, ↓reduceIte, e_num, e_true, e_false, e_unary, e_binary, e_cast])
   ·
    have hk9 : n.kind.toList = [102, 97, 108, 115, 101] := by simpa using k_false
    have k_num : (n.kind.toList == [110, 117, 109]) = false := by rw [hk9]; rfl
    have k_true : (n.kind.toList == [116, 114, 117, 101]) = false := by rw [hk9]; rfl
    have k_unary : (n.kind.toList == [117, 110, 97, 114, 121]) = false := by rw [hk9]; rfl
    have k_binary : (n.kind.toList == [98, 105, 110, 97, 114, 121]) = false := by rw [hk9]; rfl
    have k_cast : (n.kind.toList == [99, 97, 115, 116]) = false := by rw [hk9]; rfl
    have e_num : eqB n.kind ⟨#[110, 117, 109]⟩ = false := by have h9 := k_num; rw [Lib.toList_data] at h9; exact h9
    have e_true : eqB n.kind ⟨#[116, 114, 117, 101]⟩ = false := by have h9 := k_true; rw [Lib.toList_data] at h9; exact h9
    have e_false : eqB n.kind ⟨#[102, 97, 108, 115, 101]⟩ = true := by have h9 := k_false; rw [Lib.toList_data] at h9; exact h9
    have e_unary : eqB n.kind ⟨#[117, 110, 97, 114, 121]⟩ = false := by have h9 := k_unary; rw [Lib.toList_data] at h9; exact h9
    have e_binary : eqB n.kind ⟨#[98, 105, 110, 97, 114, 121]⟩ = false := by have h9 := k_binary; rw [Lib.toList_data] at h9; exact h9
    have e_cast : eqB n.kind ⟨#[99, 97, 115, 116]⟩ = false := by have h9 := k_cast; rw [Lib.toList_data] at h9; exact h9
    cases whole
    · exact expr_false_p c HL g I w xs hs n A cap k_num k_true k_false k_unary k_binary k_cast hd hn h ht hl _ (by simp only [exprS, coreS, Bool.or_true, Bool.true_or, Bool.or_false, Bool.false_or, Bool.or_self, Bool.false_and, Bool.true_and, Bool.and_true, Bool.and_false, Bool.not_true, Bool.not_false, Bool.false_eq_true, ↓reduceIte, e_num, e_true, e_false, e_unary, e_binary, e_cast])
    · exact expr_false_w c HL g I w xs hs n A cap k_num k_true k_false k_unary k_binary k_cast hd hn h ht hl _ (by simp only [exprS, coreS, Bool.or_true, Bool.true_or, Bool.or_false, Bool.false_or, Bool.or_self, Bool.false_and, Bool.true_and, Bool.and_true, Bool.and_false, Bool.not_true, Bool.not_false, Bool.false_eq_true, ↓reduceIte, e_num, e_true, e_false, e_unary, e_binary, e_cast])
  ·
   have hk9 : n.kind.toList = [116, 114, 117, 101] := by simpa using k_true
   have k_num : (n.kind.toList == [110, 117, 109]) = false := by rw [hk9]; rfl
   have k_false : (n.kind.toList == [102, 97, 108, 115, 101]) = false := by rw [hk9]; rfl
   have k_unary : (n.kind.toList == [117, 110, 97, 114, 121]) = false := by rw [hk9]; rfl
   have k_binary : (n.kind.toList == [98, 105, 110, 97, 114, 121]) = false := by rw [hk9]; rfl
   have k_cast : (n.kind.toList == [99, 97, 115, 116]) = false := by rw [hk9]; rfl
   have e_num : eqB n.kind ⟨#[110, 117, 109]⟩ = false := by have h9 := k_num; rw [Lib.toList_data] at h9; exact h9
   have e_true : eqB n.kind ⟨#[116, 114, 117, 101]⟩ = true := by have h9 := k_true; rw [Lib.toList_data] at h9; exact h9
   have e_false : eqB n.kind ⟨#[102, 97, 108, 115, 101]⟩ = false := by have h9 := k_false; rw [Lib.toList_data] at h9; exact h9
   have e_unary : eqB n.kind ⟨#[117, 110, 97, 114, 121]⟩ = false := by have h9 := k_unary; rw [Lib.toList_data] at h9; exact h9
   have e_binary : eqB n.kind ⟨#[98, 105, 110, 97, 114, 121]⟩ = false := by have h9 := k_binary; rw [Lib.toList_data] at h9; exact h9
   have e_cast : eqB n.kind ⟨#[99, 97, 115, 116]⟩ = false := by have h9 := k_cast; rw [Lib.toList_data] at h9; exact h9
   cases whole
   · exact expr_true_p c HL g I w xs hs n A cap k_num k_true k_false k_unary k_binary k_cast hd hn h ht hl _ (by simp only [exprS, coreS, Bool.or_true, Bool.true_or, Bool.or_false, Bool.false_or, Bool.or_self, Bool.false_and, Bool.true_and, Bool.and_true, Bool.and_false, Bool.not_true, Bool.not_false, Bool.false_eq_true, ↓reduceIte, e_num, e_true, e_false, e_unary, e_binary, e_cast])
   · exact expr_true_w c HL g I w xs hs n A cap k_num k_true k_false k_unary k_binary k_cast hd hn h ht hl _ (by simp only [exprS, coreS, Bool.or_true, Bool.true_or, Bool.or_false, Bool.false_or, Bool.or_self, Bool.false_and, Bool.true_and, Bool.and_true, Bool.and_false, Bool.not_true, Bool.not_false, Bool.false_eq_true, ↓reduceIte, e_num, e_true, e_false, e_unary, e_binary, e_cast])
 ·
  have hk9 : n.kind.toList = [110, 117, 109] := by simpa using k_num
  have k_true : (n.kind.toList == [116, 114, 117, 101]) = false := by rw [hk9]; rfl
  have k_false : (n.kind.toList == [102, 97, 108, 115, 101]) = false := by rw [hk9]; rfl
  have k_unary : (n.kind.toList == [117, 110, 97, 114, 121]) = false := by rw [hk9]; rfl
  have k_binary : (n.kind.toList == [98, 105, 110, 97, 114, 121]) = false := by rw [hk9]; rfl
  have k_cast : (n.kind.toList == [99, 97, 115, 116]) = false := by rw [hk9]; rfl
  have e_num : eqB n.kind ⟨#[110, 117, 109]⟩ = true := by have h9 := k_num; rw [Lib.toList_data] at h9; exact h9
  have e_true : eqB n.kind ⟨#[116, 114, 117, 101]⟩ = false := by have h9 := k_true; rw [Lib.toList_data] at h9; exact h9
  have e_false : eqB n.kind ⟨#[102, 97, 108, 115, 101]⟩ = false := by have h9 := k_false; rw [Lib.toList_data] at h9; exact h9
  have e_unary : eqB n.kind ⟨#[117, 110, 97, 114, 121]⟩ = false := by have h9 := k_unary; rw [Lib.toList_data] at h9; exact h9
  have e_binary : eqB n.kind ⟨#[98, 105, 110, 97, 114, 121]⟩ = false := by have h9 := k_binary; rw [Lib.toList_data] at h9; exact h9
  have e_cast : eqB n.kind ⟨#[99, 97, 115, 116]⟩ = false := by have h9 := k_cast; rw [Lib.toList_data] at h9; exact h9
  cases whole
  · exact expr_num_p c HL g I w xs hs n A cap k_num k_true k_false k_unary k_binary k_cast hd hn h ht hl _ (by simp only [exprS, coreS, Bool.or_true, Bool.true_or, Bool.or_false, Bool.false_or, Bool.or_self, Bool.false_and, Bool.true_and, Bool.and_true, Bool.and_false, Bool.not_true, Bool.not_false, Bool.false_eq_true, ↓reduceIte, e_num, e_true, e_false, e_unary, e_binary, e_cast])
  · exact expr_num_w c HL g I w xs hs n A cap k_num k_true k_false k_unary k_binary k_cast hd hn h ht hl _ (by simp only [exprS, coreS, Bool.or_true, Bool.true_or, Bool.or_false, Bool.false_or, Bool.or_self, Bool.false_and, Bool.true_and, Bool.and_true, Bool.and_false, Bool.not_true, Bool.not_false, Bool.false_eq_true, ↓reduceIte, e_num, e_true, e_false, e_unary, e_binary, e_cast])
theorem she (c : SC) (HL : LaidP c.W) : ∀ g, ShE c g := by
 intro g
 induction g using Nat.strongRecOn with
 | _ g ih =>
  refine ⟨fun w xs hs n A cap whole hd hn h ht hl => ?_, fun w xs hs n A cap hd hn h ht hl => ?_⟩
  ·
   have := depthN_pos n
   obtain ⟨q, rfl⟩ : ∃ q, g = q + 2 := ⟨g - 2, by omega⟩
   exact expr_shows c HL q (ih q (by omega)) w xs hs n A cap whole hd hn h ht hl
  ·
   have := depthN_pos n
   obtain ⟨q, rfl⟩ : ∃ q, g = q + 1 := ⟨g - 1, by omega⟩
   cases k0 : (n.kind.toList == [110, 97, 109, 101])
   ·
    have e0 : eqB n.kind ⟨#[110, 97, 109, 101]⟩ = false := by have h9 := k0; rw [Lib.toList_data] at h9; exact h9
    exact target_index c HL q (ih q (by omega)) w xs hs n A cap k0 hd hn h ht hl _ (by simp only [targetS, e0, Bool.false_eq_true, ↓reduceIte])
   ·
    have e0 : eqB n.kind ⟨#[110, 97, 109, 101]⟩ = true := by have h9 := k0; rw [Lib.toList_data] at h9; exact h9
    exact target_name c HL q (ih q (by omega)) w xs hs n A cap k0 hd hn h ht hl _ (by simp only [targetS, e0, ↓reduceIte])
end Go.Proofs.YtdimhoilfopndaaGreatDoor
end
section
namespace Go.Proofs.YtdimhoilfopndaaGreatDoor
open Go.RowKit Go.Proofs.YtdimhoilfopndaaGreatDoorW.PrintWords
theorem sq3 (a b : List ByteArray) (x : Out) : sq (some a) (sq (some b) x) = sq (some (a ++ b)) x := by
 cases x <;> simp [sq]
theorem sq_assoc (a b x : Out) : sq (sq a b) x = sq a (sq b x) := by
 cases a <;> cases b <;> cases x <;> simp [sq]
theorem sq_nil (x : Out) : sq (some []) x = x := by cases x <;> simp [sq]
theorem sq_nn (a : Out) : sq a none = none := by cases a <;> rfl
theorem drop_kid {n : Node} {i : Nat} (h : i < n.kids.length) : n.kids.drop i = kidN n i :: n.kids.drop (i + 1) := by
 rw [List.drop_eq_getElem_cons h]
 congr 1
 unfold kidN
 rw [List.getD_eq_getElem?_getD, List.getElem?_eq_getElem h]; rfl
theorem len_nodesL : ∀ ks : List Node, ks.length ≤ nodesL ks
 | [] => by simp
 | k :: ks => by have := len_nodesL ks; have := nodesN_pos k; rw [nodesL_cons, List.length_cons]; omega
theorem commas_cons (f : Node → Out) (b : Bool) (k : Node) (ks : List Node) : commas f b (k :: ks) = sq (sq (if b then some [] else some [⟨#[44]⟩]) (f k)) (commas f false ks) := by simp only [commas]
theorem each_cons (f : Node → Out) (k : Node) (ks : List Node) : each f (k :: ks) = sq (f k) (each f ks) := by simp only [each]
set_option maxRecDepth 20000 in
set_option maxHeartbeats 1600000 in
theorem call_shows (c : SC) (HL0 : LaidP c.W) (g : Nat) (w : World) (xs : List ByteArray) (hs : List (Nat × Obj)) (n : Node) (A : Option Addr) (cap : Nat) (hd : 3 * depthN n ≤ g + 2) (hn : numsOk n = true) (h : SS c w xs hs) (ht : Tr c.W (.slice A n.kids.length cap) n.kids) (hl : xs.length + 10 * nodesN n ≤ 1000000000) (r : Out) (hr : r = callS g n) : Calls Tryz.prog 93 #[.pointer (some ⟨c.p, 0, none⟩), nodeV n (.slice A n.kids.length cap)] w (PostS c xs r hs) := by
 have HL := hid HL0.v
 have HLP := hid HL0
 have HTR := hid ht
 have HR0 := hid hr
 clear hr ht
 have hnp := nodesN_pos n
 have hne := nodesN_eq n
 have hlk := len_nodesL n.kids
 have hkl0 : (0 : Int) ≤ (n.kids.length : Int) := by omega
 unfold callS at HR0
 unfold nodeV
 have hlt := h.lt
 have HS0 := hid h
 clear h
 go_enter Tryz.func93, Tryz.ntmps93
 have HS1 := hid (HS0.out.alloc (.cells #[.string n.kind, .string n.text, .int .u64 n.num, .int .i64 n.line, .int .i64 n.col, .slice A n.kids.length cap] 26))
 go_wp2_with fail
 cases bp : plainB n ⟨#[99, 97, 108, 108]⟩ n.kids.length true false
 ·
  refine cmo (plain_calls _ _ _ _ _ _ _ _) ?_
  rintro e9 w1 ⟨hov, rfl⟩
  rw [bp]
  have HS2 := hid (HS1.out.isOv hov)
  clear HS1
  clear hov
  obtain rfl : r = none := by rw [HR0.out]; simp only [bp, SQ0, ↓reduceIte]
  exact ⟨rfl, rfl, HS2.out.ov⟩
 ·
  refine cmo (plain_calls _ _ _ _ _ _ _ _) ?_
  rintro e9 w1 ⟨hov, rfl⟩
  rw [bp]
  have HS2 := hid (HS1.out.isOv hov)
  clear HS1
  clear hov
  have hzb1 : w.heap.size < w1.heap.size := lt_of_heap HS2.out.h0
  obtain ⟨n0, n1, n2, n3, n4, n5, nf⟩ := cells6 HS2.out.h0
  go_wp2_with fail
  have HR1 : Hid (r = sq (nameS n) (sq (some [⟨#[40]⟩]) (sq (commas (fun k => exprS g k true) true n.kids) (some [⟨#[41]⟩])))) := hid (by rw [HR0.out]; simp only [bp, SQ0, ↓reduceIte])
  clear HR0
  cases h_a : nameS n with
  | none =>
   refine cmo (name_shows c HL.out _ (xs) _ n A cap HS2.out (by omega)) ?_
   rw [h_a]
   rintro e9 w99 ⟨rfl, hov⟩
   obtain rfl : r = none := by rw [HR1.out]; simp only [SQ0, ↓reduceIte, h_a]
   exact ⟨rfl, rfl, hov⟩
  | some ys_a =>
   refine cmo (name_shows c HL.out _ (xs) _ n A cap HS2.out (by omega)) ?_
   rw [h_a]
   rintro e9 w2 ⟨rfl, hss⟩
   have HS3 := hid (hss)
   clear HS2
   clear hss
   have HR2 := hid (by have h9 := HR1.out; rw [h_a] at h9; exact h9)
   clear HR1
   have hla := name_most n _ h_a
   go_wp2_with fail
   refine cmo (put_calls c _ (xs ++ ys_a) [⟨#[40]⟩] _ _ 1 (strs_read (by simp) (heap_alloc_new _ _)) (HS3.out.alloc _) (by (try simp only [List.length_append, List.length_cons, List.length_nil]); omega)) ?_
   rintro e9 w3 ⟨rfl, hss⟩
   have HS4 := hid (hss.drop)
   clear HS3
   clear hss
   have hzb3 : w.heap.size < w3.heap.size := lt_of_heap HS4.out.h0
   clear n0 n1 n2 n3 n4 n5 nf
   obtain ⟨n0, n1, n2, n3, n4, n5, nf⟩ := cells6 HS4.out.h0
   go_wp2_with fail
   clear n0 n1 n2 n3 n4 n5 nf
   have HRL : Hid (r = sq (some (ys_a ++ [⟨#[40]⟩])) (sq (commas (fun k => exprS g k true) true n.kids) (some [⟨#[41]⟩]))) := hid (by rw [HR2.out, sq3])
   have HSL : Hid (SS c w3 (xs ++ (ys_a ++ [⟨#[40]⟩])) ((w.heap.size, (.cells #[.string n.kind, .string n.text, .int .u64 n.num, .int .i64 n.line, .int .i64 n.col, .slice A n.kids.length cap] 26)) :: hs)) := hid (by have h9 := HS4.out; rw [List.append_assoc] at h9; exact h9)
   have HPL : (ys_a ++ ([⟨#[40]⟩] : List ByteArray)).length + 10 * nodesL n.kids + 8 ≤ 10 * nodesN n := by simp only [List.length_append, List.length_cons, List.length_nil]; omega
   clear HS4 HR2
   go_loopg [20] (n.kids.length + 1) (fun gq b wr => ∃ (i : Nat) (pre : List ByteArray), b = .int .i64 (i : Int) ∧ i + gq = n.kids.length + 1 ∧ i ≤ n.kids.length ∧ pre.length + 10 * nodesL (n.kids.drop i) + 8 ≤ 10 * nodesN n ∧ Hid (r = sq (some pre) (sq (commas (fun k => exprS g k true) (decide (i = 0)) (n.kids.drop i)) (some [⟨#[41]⟩]))) ∧ Hid (SS c wr (xs ++ pre) ((w.heap.size, (.cells #[.string n.kind, .string n.text, .int .u64 n.num, .int .i64 n.line, .int .i64 n.col, .slice A n.kids.length cap] 26)) :: hs)))
   case atStart => exact ⟨0, _, rfl, by omega, by omega, HPL, HRL, HSL⟩
   case round =>
    obtain ⟨i, pre, rfl, hi1, hi2, hpre, HR20, HS20⟩ := hrel
    clear HRL HSL HPL
    by_cases hi : i < n.kids.length
    ·
     have hib : (i : Int) < (n.kids.length : Int) := by omega
     have hibb : decide ((i : Int) < (n.kids.length : Int)) = true := decide_eq_true hib
     have hib0 : (0 : Int) ≤ (i : Int) := by omega
     have hkd := kid_depth hi
     have hdk := drop_kid hi
     have hnk : nodesL (n.kids.drop i) = nodesN (kidN n i) + nodesL (n.kids.drop (i + 1)) := by rw [hdk, nodesL_cons]
     have hknp := nodesN_pos (kidN n i)
     have hd1 : decide (i + 1 = 0) = false := decide_eq_false (by omega)
     have hiw : IntKind.i64.wrap ((i : Int) + 1) = (i : Int) + 1 := IntWalk.i64_in _ (by omega)
     have hwr := HS20.out.heldLt (w.heap.size, _) (List.mem_cons_self ..)
     obtain ⟨gk, Ak, ck, rfl, hgk, q0, q1, q2, q3, q4, q5, HTk⟩ := kid_at HTR.out HS20.out.ov i hi
     have HTK := hid HTk
     clear HTk
     have HR21 : Hid (r = sq (some pre) (sq (commas (fun k => exprS g k true) (decide (i = 0)) (kidN n i :: n.kids.drop (i + 1))) (some [⟨#[41]⟩]))) := hid (by rw [← hdk]; exact HR20.out)
     clear HR20 hdk
     by_cases hz : i = 0
     ·
      obtain rfl := hz
      have hd0 : decide ((0 : Nat) = 0) = true := rfl
      have hgt : decide ((0 : Int) < ((0 : Nat) : Int)) = false := rfl
      have p0 : wr.cell? ⟨gk, 0, none⟩ = some (.string (kidN n 0).kind) := q0
      have p1 : wr.cell? ⟨gk, 1, none⟩ = some (.string (kidN n 0).text) := q1
      have p2 : wr.cell? ⟨gk, 2, none⟩ = some (.int .u64 (kidN n 0).num) := q2
      have p3 : wr.cell? ⟨gk, 3, none⟩ = some (.int .i64 (kidN n 0).line) := q3
      have p4 : wr.cell? ⟨gk, 4, none⟩ = some (.int .i64 (kidN n 0).col) := q4
      have p5 : wr.cell? ⟨gk, 5, none⟩ = some (.slice Ak (kidN n 0).kids.length ck) := q5
      clear q0 q1 q2 q3 q4 q5
      have HR22 : Hid (r = sq (some pre) (sq (sq (sq (some []) (exprS g (kidN n 0) true)) (commas (fun k => exprS g k true) false (n.kids.drop (0 + 1)))) (some [⟨#[41]⟩]))) := hid (by have h9 := HR21.out; rw [commas_cons, hd0] at h9; exact h9)
      clear HR21
      go_wp2_with fail
      have HS21 := hid (HS20.out.alloc (.cells #[.string (kidN n 0).kind, .string (kidN n 0).text, .int .u64 (kidN n 0).num, .int .i64 (kidN n 0).line, .int .i64 (kidN n 0).col, .slice Ak (kidN n 0).kids.length ck] 26))
      clear HS20
      cases h_k : exprS g (kidN n 0) true with
      | none =>
       refine cmo ((she c HL0 g).expr _ (xs ++ pre) _ (kidN n 0) _ _ true (by omega) (kid_nums hi hn) HS21.out HTK.out (by (try simp only [List.length_append, List.length_cons, List.length_nil]); omega)) ?_
       try rw [show (exprS g (kidN n 0) true) = none from h_k]
       rintro e9 w99 ⟨rfl, hov⟩
       obtain rfl : r = none := by rw [HR22.out, h_k]; simp only [sq_n, sq_sn, sq_nn]
       exact ⟨rfl, rfl, hov⟩
      | some yk =>
       refine cmo ((she c HL0 g).expr _ (xs ++ pre) _ (kidN n 0) _ _ true (by omega) (kid_nums hi hn) HS21.out HTK.out (by (try simp only [List.length_append, List.length_cons, List.length_nil]); omega)) ?_
       try rw [show (exprS g (kidN n 0) true) = some yk from h_k]
       rintro e9 w30 ⟨rfl, hss⟩
       have hyk := (mostE g).expr (kidN n 0) true _ h_k
       have HS40 := hid hss.drop
       clear hss
       have HR40 : Hid (r = sq (some (pre ++ yk)) (sq (commas (fun k => exprS g k true) (decide (0 + 1 = 0)) (n.kids.drop (0 + 1))) (some [⟨#[41]⟩]))) := hid (by rw [HR22.out, h_k]; simp only [sq_ss, sq_assoc, sq3, List.nil_append, hd1])
       go_wp2_with fail
       go_roundg (n.kids.length - 0)
       case rel => exact ⟨0 + 1, pre ++ yk, by push_cast; rfl, by omega, by omega, by (try simp only [List.length_append, List.length_cons, List.length_nil] at *); omega, HR40, by simpa only [List.append_assoc] using HS40⟩
       case measure => omega
     ·
      have hd0 : decide (i = 0) = false := decide_eq_false hz
      have hgt2 : (0 : Int) < (i : Int) := by omega
      have hgt : decide ((0 : Int) < (i : Int)) = true := decide_eq_true hgt2
      have HR22 : Hid (r = sq (some pre) (sq (sq (sq (some [⟨#[44]⟩]) (exprS g (kidN n i) true)) (commas (fun k => exprS g k true) false (n.kids.drop (i + 1)))) (some [⟨#[41]⟩]))) := hid (by have h9 := HR21.out; rw [commas_cons, hd0] at h9; exact h9)
      clear HR21
      go_wp2_with fail
      have HS21 := hid (HS20.out.alloc (.cells #[.string (kidN n i).kind, .string (kidN n i).text, .int .u64 (kidN n i).num, .int .i64 (kidN n i).line, .int .i64 (kidN n i).col, .slice Ak (kidN n i).kids.length ck] 26))
      clear HS20
      refine cmo (put_calls c _ (xs ++ pre) [⟨#[44]⟩] _ _ 1 (strs_read (by simp) (by first | exact heap_alloc_new _ _ | (have h9 := heap_alloc_new (wr.alloc (.cells #[.string (kidN n i).kind, .string (kidN n i).text, .int .u64 (kidN n i).num, .int .i64 (kidN n i).line, .int .i64 (kidN n i).col, .slice Ak (kidN n i).kids.length ck] 26)) (.cells (List.map Value.string [⟨#[44]⟩]).toArray 9); rw [World.size_alloc] at h9; exact h9))) (HS21.out.alloc _) (by (try simp only [List.length_append, List.length_cons, List.length_nil]); omega)) ?_
      rintro e9 w21 ⟨rfl, hss⟩
      have HS22 := hid (hss.drop)
      clear HS21
      clear hss
      have hkb := lt_of_heap HS22.out.h0
      obtain ⟨m0, m1, m2, m3, m4, m5, mf⟩ := cells6 HS22.out.h0
      go_wp2_with fail
      cases h_k : exprS g (kidN n i) true with
      | none =>
       refine cmo ((she c HL0 g).expr _ (xs ++ pre ++ [⟨#[44]⟩]) _ (kidN n i) _ _ true (by omega) (kid_nums hi hn) HS22.out HTK.out (by (try simp only [List.length_append, List.length_cons, List.length_nil]); omega)) ?_
       try rw [show (exprS g (kidN n i) true) = none from h_k]
       rintro e9 w99 ⟨rfl, hov⟩
       obtain rfl : r = none := by rw [HR22.out, h_k]; simp only [sq_n, sq_sn, sq_nn]
       exact ⟨rfl, rfl, hov⟩
      | some yk =>
       refine cmo ((she c HL0 g).expr _ (xs ++ pre ++ [⟨#[44]⟩]) _ (kidN n i) _ _ true (by omega) (kid_nums hi hn) HS22.out HTK.out (by (try simp only [List.length_append, List.length_cons, List.length_nil]); omega)) ?_
       try rw [show (exprS g (kidN n i) true) = some yk from h_k]
       rintro e9 w30 ⟨rfl, hss⟩
       have hyk := (mostE g).expr (kidN n i) true _ h_k
       have HS40 := hid hss.drop
       clear hss
       have HR40 : Hid (r = sq (some (pre ++ ([⟨#[44]⟩] ++ yk))) (sq (commas (fun k => exprS g k true) (decide (i + 1 = 0)) (n.kids.drop (i + 1))) (some [⟨#[41]⟩]))) := hid (by rw [HR22.out, h_k]; simp only [sq_ss, sq_assoc, sq3, List.nil_append, hd1])
       go_wp2_with fail
       go_roundg (n.kids.length - i)
       case rel => exact ⟨i + 1, pre ++ ([⟨#[44]⟩] ++ yk), by push_cast; rfl, by omega, by omega, by (try simp only [List.length_append, List.length_cons, List.length_nil] at *); omega, HR40, by simpa only [List.append_assoc] using HS40⟩
       case measure => omega
    ·
     have hib : ¬ (i : Int) < (n.kids.length : Int) := by omega
     have hibb : decide ((i : Int) < (n.kids.length : Int)) = false := decide_eq_false hib
     have hwr := HS20.out.heldLt (w.heap.size, _) (List.mem_cons_self ..)
     have hnil : n.kids.drop i = [] := List.drop_eq_nil_of_le (by omega)
     have HR21 : Hid (r = sq (some pre) (some [⟨#[41]⟩])) := hid (by rw [HR20.out, hnil]; simp only [commas, each, sq_nil])
     clear HR20
     go_wp2_with fail
     refine cmo (put_calls c _ (xs ++ pre) [⟨#[41]⟩] _ _ 1 (strs_read (by simp) (heap_alloc_new _ _)) (HS20.out.alloc _) (by (try simp only [List.length_append, List.length_cons, List.length_nil]); omega)) ?_
     rintro e9 w21 ⟨rfl, hss⟩
     have HS21 := hid (hss.drop)
     clear HS20
     clear hss
     go_wp2_with fail
     have hys := HR21.out
     try simp only [SQ0, ↓reduceIte] at hys
     subst hys
     exact bodyPost_end (v := .tuple #[]) (by simp [results, Tryz.results93]) rfl ⟨rfl, by have h9 := HS21.out.drop; simpa only [List.append_assoc, List.append_nil, List.nil_append, List.cons_append] using h9⟩
end Go.Proofs.YtdimhoilfopndaaGreatDoor
end
section
namespace Go.Proofs.YtdimhoilfopndaaGreatDoor
open Go.RowKit Go.Proofs.YtdimhoilfopndaaGreatDoorW.PrintWords
theorem depthL_take {ks : List Node} {i : Nat} (h : i < ks.length) : depthL (ks.take (i + 1)) = max (depthL (ks.take i)) (depthN (ks.getD i zNode)) := by
 induction ks generalizing i with
 | nil => simp at h
 | cons k ks ih =>
  cases i with
  | zero => simp only [List.take_succ_cons, List.take_zero, depthL_cons, depthL_nil, List.getD_cons_zero, Nat.zero_max]; omega
  | succ i =>
   simp only [List.take_succ_cons, depthL_cons, List.getD_cons_succ]
   rw [ih (by simpa using h)]
   omega
theorem depth_take (ks : List Node) (i : Nat) : depthL (ks.take i) ≤ depthL ks := by
 induction ks generalizing i with
 | nil => simp
 | cons k ks ih =>
  cases i with
  | zero => simp [depthL_nil]
  | succ i => have := ih i; simp only [List.take_succ_cons, depthL_cons]; omega
mutual
theorem depth_nodes : ∀ n : Node, depthN n ≤ nodesN n
 | ⟨k, t, v, l, c, ks⟩ => by rw [depthN_eq, nodesN_eq]; have := depth_nodesL ks; dsimp only; omega
theorem depth_nodesL : ∀ ks : List Node, depthL ks ≤ nodesL ks
 | [] => by rw [depthL_nil]; omega
 | k :: ks => by rw [depthL_cons, nodesL_cons]; have := depth_nodes k; have := depth_nodesL ks; omega
end
theorem kid_nodes {n : Node} {i : Nat} (h : i < n.kids.length) : nodesN (kidN n i) + 1 ≤ nodesN n := by
 have := nodesL_mem (kid_mem h)
 rw [nodesN_eq n]; omega
set_option maxRecDepth 20000 in
set_option maxHeartbeats 1600000 in
theorem Deep_gives : ∀ (m : Nat) (w : World) (n : Node) (A : Option Addr) (cap : Nat), nodesN n ≤ m → m ≤ 1000000000 → Tr w (.slice A n.kids.length cap) n.kids → Gives Tryz.prog 10 #[nodeV n (.slice A n.kids.length cap)] w (.int .i64 (depthN n : Int)) := by
 intro m
 induction m with
 | zero => intro w n A cap h; have := nodesN_pos n; omega
 | succ m ih =>
  intro w n A cap hd hm ht
  have HT := hid ht
  have hde := depthN_eq n
  have hne := nodesN_eq n
  have hlk := len_nodesL n.kids
  have hdn := depth_nodesL n.kids
  have hkl0 : (0 : Int) ≤ (n.kids.length : Int) := by omega
  clear ht
  unfold Gives nodeV
  go_enter Tryz.func10, Tryz.ntmps10
  go_wp2_with fail
  go_loopg [3, 9] (n.kids.length + 1) (fun gq d b wr => ∃ (i : Nat), d = .int .i64 (depthL (n.kids.take i) : Int) ∧ b = .int .i64 (i : Int) ∧ i + gq = n.kids.length + 1 ∧ i ≤ n.kids.length ∧ IsOv w wr)
  case atStart => exact ⟨0, by rw [List.take_zero, depthL_nil]; rfl, rfl, by omega, by omega, (by repeat (first | with_reducible exact IsOv.refl _ | (with_reducible refine IsOv.setCell ?_ ?_ _; rotate_left; (first | exact Nat.le_refl _ | exact Nat.le_succ _ | (dsimp only; omega))) | with_reducible apply IsOv.dr | with_reducible apply IsOv.drewN | with_reducible apply IsOv.drew | with_reducible apply IsOv.alloc | with_reducible apply IsOv.ov | with_reducible assumption))⟩
  case round =>
   obtain ⟨i, rfl, rfl, hi1, hi2, hov⟩ := hrel
   have htk := depth_take n.kids i
   by_cases hi : i < n.kids.length
   ·
    have hib : (i : Int) < (n.kids.length : Int) := by omega
    have hib0 : (0 : Int) ≤ (i : Int) := by omega
    have hkd := kid_nodes hi
    have hkdn := depth_nodes (kidN n i)
    have hiw : IntKind.i64.wrap ((i : Int) + 1) = (i : Int) + 1 := IntWalk.i64_in _ (by omega)
    obtain ⟨gk, Ak, ck, rfl, hgk, q0, q1, q2, q3, q4, q5, HTk⟩ := kid_at HT.out hov i hi
    have HTK := hid HTk
    have HOV := hid hov
    have HDT := hid (depthL_take hi)
    clear HTk hov
    go_wp2_with fail
    refine cmo (ih _ (kidN n i) Ak ck (by omega) (by omega) (Kd.R_below HTK.out ((HOV.out.alloc _).below))) ?_
    rintro e9 w9 ⟨rfl, hov9⟩
    have HOV9 := hid ((HOV.out.alloc _).trans hov9)
    clear hov9
    go_wp2_with fail
    go_roundg (n.kids.length - i)
    case rel => exact ⟨i + 1, by rw [HDT.out, show n.kids.getD i zNode = kidN n i from rfl]; push_cast; first | rfl | (congr 1; omega), by push_cast; rfl, by omega, by omega, HOV9.out⟩
    case measure => omega
   ·
    obtain rfl : i = n.kids.length := by omega
    have hib : ¬ ((n.kids.length : Int)) < (n.kids.length : Int) := by omega
    rw [List.take_length]
    rw [List.take_length] at htk
    have hiw : IntKind.i64.wrap ((depthL n.kids : Int) + 1) = (depthL n.kids : Int) + 1 := IntWalk.i64_in _ (by omega)
    have HOV := hid hov
    clear hov
    go_wp2_with fail
    exact bodyPost_ret (v := .int .i64 ((depthL n.kids : Int) + 1)) (by simp [results, Tryz.results10, go_sem, ↓IntWalk.iteOmega]) rfl ⟨by rw [Int.add_comm], HOV.out⟩
end Go.Proofs.YtdimhoilfopndaaGreatDoor
end
section
namespace Go.Proofs.YtdimhoilfopndaaGreatDoor
open Go.RowKit Go.Proofs.YtdimhoilfopndaaGreatDoorW.PrintWords
mutual
def sameN : Node → Node → Bool
 | ⟨k, t, n, _, _, ks⟩, b => (k.data.toList == b.kind.data.toList) && ((t.data.toList == b.text.data.toList) && ((n == b.num) && ((ks.length == b.kids.length) && sameL ks b.kids)))
def sameL : List Node → List Node → Bool
 | [], _ => true
 | k :: ks, bs => sameN k (bs.headD zNode) && sameL ks bs.tail
end
theorem sameN_eq (a b : Node) : sameN a b = ((a.kind.data.toList == b.kind.data.toList) && ((a.text.data.toList == b.text.data.toList) && ((a.num == b.num) && ((a.kids.length == b.kids.length) && sameL a.kids b.kids)))) := by cases a; simp only [sameN]
theorem sameL_step {a b : Node} {i : Nat} (h : i < a.kids.length) (h2 : i < b.kids.length) : sameL (a.kids.drop i) (b.kids.drop i) = (sameN (kidN a i) (kidN b i) && sameL (a.kids.drop (i + 1)) (b.kids.drop (i + 1))) := by
 rw [drop_kid h, drop_kid h2]
 simp only [sameL, List.headD_cons, List.tail_cons]
theorem bytesExt {a b : ByteArray} (h : a.data.toList = b.data.toList) : a = b := by
 cases a; cases b; congr 1; exact Array.toList_inj.1 h
mutual
theorem sameN_strip : ∀ a b : Node, sameN a b = true ↔ a.strip = b.strip
 | ⟨k, t, n, l, c, ks⟩, b => by
  rw [sameN_eq, strip_mk]
  have hb : b.strip = ⟨b.kind, b.text, b.num, 0, 0, stripL b.kids⟩ := by cases b; exact strip_mk ..
  rw [hb]
  simp only [Bool.and_eq_true, beq_iff_eq, Node.mk.injEq, true_and]
  constructor
  ·
   rintro ⟨h1, h2, h3, h4, h5⟩
   exact ⟨bytesExt h1, bytesExt h2, h3, (sameL_strip ks b.kids h4).1 h5⟩
  ·
   rintro ⟨h1, h2, h3, h5⟩
   have h4 : ks.length = b.kids.length := by
    have := congrArg List.length h5
    rw [stripL_map, stripL_map, List.length_map, List.length_map] at this
    exact this
   exact ⟨by rw [h1], by rw [h2], h3, h4, (sameL_strip ks b.kids h4).2 h5⟩
theorem sameL_strip : ∀ xs ys : List Node, xs.length = ys.length → (sameL xs ys = true ↔ stripL xs = stripL ys)
 | [], [], _ => by simp only [sameL]
 | k :: ks, b :: bs, h => by
  simp only [sameL, List.headD_cons, List.tail_cons, stripL_cons, Bool.and_eq_true, List.cons.injEq]
  rw [sameN_strip k b, sameL_strip ks bs (by simpa using h)]
end
set_option maxRecDepth 20000 in
set_option maxHeartbeats 3200000 in
theorem Same_gives : ∀ (m : Nat) (w : World) (a b : Node) (A B : Option Addr) (ca cb : Nat), nodesN a ≤ m → m ≤ 1000000000 → Tr w (.slice A a.kids.length ca) a.kids → Tr w (.slice B b.kids.length cb) b.kids →
  Gives Tryz.prog 11 #[nodeV a (.slice A a.kids.length ca), nodeV b (.slice B b.kids.length cb)] w (.bool (sameN a b)) := by
 intro m
 induction m with
 | zero => intro w a b A B ca cb h; have := nodesN_pos a; omega
 | succ m ih =>
  intro w a b A B ca cb hd hm ht1 ht2
  have HT1 := hid ht1
  have HT2 := hid ht2
  obtain ⟨r, hr⟩ : ∃ r, r = sameN a b := ⟨_, rfl⟩
  rw [← hr]
  rw [sameN_eq, ← txt_eq, ← txt_eq] at hr
  have HR := hid hr
  have hne := nodesN_eq a
  have hlk := len_nodesL a.kids
  have hkl0 : (0 : Int) ≤ (a.kids.length : Int) := by omega
  clear ht1 ht2 hr
  unfold Gives nodeV
  go_enter Tryz.func11, Tryz.ntmps11
  cases h0 : (a.kind.toList == b.kind.toList)
  ·
   go_wp2_with fail
   exact bodyPost_ret (v := .bool false) (by simp [results, Tryz.results11, go_sem, ↓IntWalk.iteOmega]) rfl ⟨by rw [HR.out, h0]; rfl, (by repeat (first | with_reducible exact IsOv.refl _ | with_reducible assumption | with_reducible apply IsOv.drew | with_reducible apply IsOv.drewN | with_reducible apply IsOv.alloc))⟩
  cases h1 : (a.text.toList == b.text.toList)
  ·
   go_wp2_with fail
   exact bodyPost_ret (v := .bool false) (by simp [results, Tryz.results11, go_sem, ↓IntWalk.iteOmega]) rfl ⟨by rw [HR.out, h0, h1]; rfl, (by repeat (first | with_reducible exact IsOv.refl _ | with_reducible assumption | with_reducible apply IsOv.drew | with_reducible apply IsOv.drewN | with_reducible apply IsOv.alloc))⟩
  cases h2 : (a.num == b.num)
  ·
   have h2n : (a.num != b.num) = true := by rw [bne, h2]; rfl
   go_wp2_with fail
   exact bodyPost_ret (v := .bool false) (by simp [results, Tryz.results11, go_sem, ↓IntWalk.iteOmega]) rfl ⟨by rw [HR.out, h0, h1, h2]; rfl, (by repeat (first | with_reducible exact IsOv.refl _ | with_reducible assumption | with_reducible apply IsOv.drew | with_reducible apply IsOv.drewN | with_reducible apply IsOv.alloc))⟩
  have h2n : (a.num != b.num) = false := by rw [bne, h2]; rfl
  by_cases h3 : a.kids.length = b.kids.length
  rotate_left
  ·
   have h3b : ((a.kids.length : Int) == (b.kids.length : Int)) = false := beq_eq_false_iff_ne.2 (by omega)
   have h3n : ((a.kids.length : Int) != (b.kids.length : Int)) = true := by rw [bne, h3b]; rfl
   have h3c : (a.kids.length == b.kids.length) = false := by simpa using h3
   have h3d : ¬ (a.kids.length : Int) = (b.kids.length : Int) := by omega
   go_wp2_with fail
   exact bodyPost_ret (v := .bool false) (by simp [results, Tryz.results11, go_sem, ↓IntWalk.iteOmega]) rfl ⟨by rw [HR.out, h0, h1, h2, h3c]; rfl, (by repeat (first | with_reducible exact IsOv.refl _ | with_reducible assumption | with_reducible apply IsOv.drew | with_reducible apply IsOv.drewN | with_reducible apply IsOv.alloc))⟩
  have h3b : ((a.kids.length : Int) == (b.kids.length : Int)) = true := beq_iff_eq.2 (by omega)
  have h3n : ((a.kids.length : Int) != (b.kids.length : Int)) = false := by rw [bne, h3b]; rfl
  have h3c : (a.kids.length == b.kids.length) = true := by simpa using h3
  have HR1 : Hid (r = sameL a.kids b.kids) := hid (by rw [HR.out, h0, h1, h2, h3c]; rfl)
  have H3 := hid h3
  clear HR h3 h3c
  go_wp2_with fail
  go_loopg [37] (a.kids.length + 1) (fun gq ib wr => ∃ (i : Nat), ib = .int .i64 (i : Int) ∧ i + gq = a.kids.length + 1 ∧ i ≤ a.kids.length ∧ IsOv ((w.alloc (.cells #[.string a.kind, .string a.text, .int .u64 a.num, .int .i64 a.line, .int .i64 a.col, .slice A a.kids.length ca] 26)).alloc (.cells #[.string b.kind, .string b.text, .int .u64 b.num, .int .i64 b.line, .int .i64 b.col, .slice B b.kids.length cb] 26)) wr ∧ Hid (r = sameL (a.kids.drop i) (b.kids.drop i)))
  case atStart => exact ⟨0, rfl, by omega, by omega, IsOv.refl _, by rw [List.drop_zero, List.drop_zero]; exact HR1⟩
  case round =>
   obtain ⟨i, rfl, hi1, hi2, hov, HR2⟩ := hrel
   have hb0 := hov.heap (((IsOv.refl _).alloc _).heap (heap_alloc_new w (.cells #[.string a.kind, .string a.text, .int .u64 a.num, .int .i64 a.line, .int .i64 a.col, .slice A a.kids.length ca] 26)))
   have hb1 := hov.heap (heap_alloc_new (w.alloc (.cells #[.string a.kind, .string a.text, .int .u64 a.num, .int .i64 a.line, .int .i64 a.col, .slice A a.kids.length ca] 26)) (.cells #[.string b.kind, .string b.text, .int .u64 b.num, .int .i64 b.line, .int .i64 b.col, .slice B b.kids.length cb] 26))
   rw [World.size_alloc] at hb1
   have p5 : wr.cell? ⟨w.heap.size, 5, none⟩ = some (.slice A a.kids.length ca) := cell_of_heap hb0 5
   have r5 : wr.cell? ⟨w.heap.size + 1, 5, none⟩ = some (.slice B b.kids.length cb) := cell_of_heap hb1 5
   have hovw : IsOv w wr := (((IsOv.refl w).alloc _).alloc _).trans hov
   have HOV := hid hov
   clear hov hb0 hb1 HR1
   by_cases hi : i < a.kids.length
   ·
    have hib : (i : Int) < (a.kids.length : Int) := by omega
    have hi9 : i < b.kids.length := by rw [← H3.out]; exact hi
    have hib9 : (i : Int) < (b.kids.length : Int) := by omega
    have hib0 : (0 : Int) ≤ (i : Int) := by omega
    have hkd := kid_nodes hi
    have hiw : IntKind.i64.wrap ((i : Int) + 1) = (i : Int) + 1 := IntWalk.i64_in _ (by omega)
    obtain ⟨gk, Ak, ck, rfl, hgk, q0, q1, q2, q3, q4, q5, HTk⟩ := kid_at HT1.out hovw i hi
    obtain ⟨gj, Aj, cj, rfl, hgj, s0, s1, s2, s3, s4, s5, HTj⟩ := kid_at HT2.out hovw i hi9
    have HTK := hid HTk
    have HTJ := hid HTj
    have HOVW := hid hovw
    have HST := hid (sameL_step hi hi9)
    clear HTk HTj hovw
    go_wp2_with fail
    have hS0 : (fun w' : World => IsOv wr w') wr.drew := (IsOv.refl wr).drew
    refine wp_region_K (fun w' : World => IsOv wr w') (fun j => false) (by kernel_rfl) ?_
    refine wpAnyK_take (i := 0) (v := ?_) rfl (by kernel_rfl) (by kernel_rfl) (by kernel_rfl) (by kernel_rfl) (fun _ _ _ h => h) (Or.inl ⟨by rfl, ?_⟩) hS0 ?_
    rotate_left
    · intro w9 hSw; (try dsimp only at hSw); have tp5 := hSw.cell p5; have tr5 := hSw.cell r5; have tq0 := hSw.cell q0; have tq1 := hSw.cell q1; have tq2 := hSw.cell q2; have tq3 := hSw.cell q3; have tq4 := hSw.cell q4; have tq5 := hSw.cell q5; have ts0 := hSw.cell s0; have ts1 := hSw.cell s1; have ts2 := hSw.cell s2; have ts3 := hSw.cell s3; have ts4 := hSw.cell s4; have ts5 := hSw.cell s5; go_simp; (try with_reducible rfl)
    try simp only [Act.put, List.setIfInBounds_toArray, List.set_cons_zero, List.set_cons_succ]
    refine wpAnyK_take (i := 1) (v := ?_) rfl (by kernel_rfl) (by kernel_rfl) (by kernel_rfl) (by kernel_rfl) (fun _ _ _ h => h) (Or.inl ⟨by rfl, ?_⟩) hS0 ?_
    rotate_left
    · intro w9 hSw; (try dsimp only at hSw); have tp5 := hSw.cell p5; have tr5 := hSw.cell r5; have tq0 := hSw.cell q0; have tq1 := hSw.cell q1; have tq2 := hSw.cell q2; have tq3 := hSw.cell q3; have tq4 := hSw.cell q4; have tq5 := hSw.cell q5; have ts0 := hSw.cell s0; have ts1 := hSw.cell s1; have ts2 := hSw.cell s2; have ts3 := hSw.cell s3; have ts4 := hSw.cell s4; have ts5 := hSw.cell s5; go_simp; (try with_reducible rfl)
    try simp only [Act.put, List.setIfInBounds_toArray, List.set_cons_zero, List.set_cons_succ]
    refine wpAnyK_take (i := 2) (v := ?_) rfl (by kernel_rfl) (by kernel_rfl) (by kernel_rfl) (by kernel_rfl) (fun _ _ _ h => h) (Or.inl ⟨by rfl, ?_⟩) hS0 ?_
    rotate_left
    · intro w9 hSw; (try dsimp only at hSw); have tp5 := hSw.cell p5; have tr5 := hSw.cell r5; have tq0 := hSw.cell q0; have tq1 := hSw.cell q1; have tq2 := hSw.cell q2; have tq3 := hSw.cell q3; have tq4 := hSw.cell q4; have tq5 := hSw.cell q5; have ts0 := hSw.cell s0; have ts1 := hSw.cell s1; have ts2 := hSw.cell s2; have ts3 := hSw.cell s3; have ts4 := hSw.cell s4; have ts5 := hSw.cell s5; go_simp; (try with_reducible rfl)
    try simp only [Act.put, List.setIfInBounds_toArray, List.set_cons_zero, List.set_cons_succ]
    refine wpAnyK_take (i := 3) (v := ?_) rfl (by kernel_rfl) (by kernel_rfl) (by kernel_rfl) (by kernel_rfl) (fun _ _ _ h => h) (Or.inl ⟨by rfl, ?_⟩) hS0 ?_
    rotate_left
    · intro w9 hSw; (try dsimp only at hSw); have tp5 := hSw.cell p5; have tr5 := hSw.cell r5; have tq0 := hSw.cell q0; have tq1 := hSw.cell q1; have tq2 := hSw.cell q2; have tq3 := hSw.cell q3; have tq4 := hSw.cell q4; have tq5 := hSw.cell q5; have ts0 := hSw.cell s0; have ts1 := hSw.cell s1; have ts2 := hSw.cell s2; have ts3 := hSw.cell s3; have ts4 := hSw.cell s4; have ts5 := hSw.cell s5; go_simp; (try with_reducible rfl)
    try simp only [Act.put, List.setIfInBounds_toArray, List.set_cons_zero, List.set_cons_succ]
    refine wpAnyK_take (i := 4) (v := ?_) rfl (by kernel_rfl) (by kernel_rfl) (by kernel_rfl) (by kernel_rfl) (fun _ _ _ h => h) (Or.inl ⟨by rfl, ?_⟩) hS0 ?_
    rotate_left
    · intro w9 hSw; (try dsimp only at hSw); have tp5 := hSw.cell p5; have tr5 := hSw.cell r5; have tq0 := hSw.cell q0; have tq1 := hSw.cell q1; have tq2 := hSw.cell q2; have tq3 := hSw.cell q3; have tq4 := hSw.cell q4; have tq5 := hSw.cell q5; have ts0 := hSw.cell s0; have ts1 := hSw.cell s1; have ts2 := hSw.cell s2; have ts3 := hSw.cell s3; have ts4 := hSw.cell s4; have ts5 := hSw.cell s5; go_simp; (try with_reducible rfl)
    try simp only [Act.put, List.setIfInBounds_toArray, List.set_cons_zero, List.set_cons_succ]
    refine wpAnyK_take (i := 5) (v := ?_) rfl (by kernel_rfl) (by kernel_rfl) (by kernel_rfl) (by kernel_rfl) (fun _ _ _ h => h) (Or.inl ⟨by rfl, ?_⟩) hS0 ?_
    rotate_left
    · intro w9 hSw; (try dsimp only at hSw); have tp5 := hSw.cell p5; have tr5 := hSw.cell r5; have tq0 := hSw.cell q0; have tq1 := hSw.cell q1; have tq2 := hSw.cell q2; have tq3 := hSw.cell q3; have tq4 := hSw.cell q4; have tq5 := hSw.cell q5; have ts0 := hSw.cell s0; have ts1 := hSw.cell s1; have ts2 := hSw.cell s2; have ts3 := hSw.cell s3; have ts4 := hSw.cell s4; have ts5 := hSw.cell s5; go_simp; (try with_reducible rfl)
    try simp only [Act.put, List.setIfInBounds_toArray, List.set_cons_zero, List.set_cons_succ]
    refine wpAnyK_take (i := 6) (v := ?_) rfl (by kernel_rfl) (by kernel_rfl) (by kernel_rfl) (by kernel_rfl) (fun _ _ _ h => h) (Or.inl ⟨by rfl, ?_⟩) hS0 ?_
    rotate_left
    · intro w9 hSw; (try dsimp only at hSw); have tp5 := hSw.cell p5; have tr5 := hSw.cell r5; have tq0 := hSw.cell q0; have tq1 := hSw.cell q1; have tq2 := hSw.cell q2; have tq3 := hSw.cell q3; have tq4 := hSw.cell q4; have tq5 := hSw.cell q5; have ts0 := hSw.cell s0; have ts1 := hSw.cell s1; have ts2 := hSw.cell s2; have ts3 := hSw.cell s3; have ts4 := hSw.cell s4; have ts5 := hSw.cell s5; go_simp; (try with_reducible rfl)
    try simp only [Act.put, List.setIfInBounds_toArray, List.set_cons_zero, List.set_cons_succ]
    refine wpAnyK_take (i := 7) (v := ?_) rfl (by kernel_rfl) (by kernel_rfl) (by kernel_rfl) (by kernel_rfl) (fun _ _ _ h => h) (Or.inl ⟨by rfl, ?_⟩) hS0 ?_
    rotate_left
    · intro w9 hSw; (try dsimp only at hSw); have tp5 := hSw.cell p5; have tr5 := hSw.cell r5; have tq0 := hSw.cell q0; have tq1 := hSw.cell q1; have tq2 := hSw.cell q2; have tq3 := hSw.cell q3; have tq4 := hSw.cell q4; have tq5 := hSw.cell q5; have ts0 := hSw.cell s0; have ts1 := hSw.cell s1; have ts2 := hSw.cell s2; have ts3 := hSw.cell s3; have ts4 := hSw.cell s4; have ts5 := hSw.cell s5; go_simp; (try with_reducible rfl)
    try simp only [Act.put, List.setIfInBounds_toArray, List.set_cons_zero, List.set_cons_succ]
    refine wpAnyK_take (i := 8) (v := ?_) rfl (by kernel_rfl) (by kernel_rfl) (by kernel_rfl) (by kernel_rfl) (fun _ _ _ h => h) (Or.inl ⟨by rfl, ?_⟩) hS0 ?_
    rotate_left
    · intro w9 hSw; (try dsimp only at hSw); have tp5 := hSw.cell p5; have tr5 := hSw.cell r5; have tq0 := hSw.cell q0; have tq1 := hSw.cell q1; have tq2 := hSw.cell q2; have tq3 := hSw.cell q3; have tq4 := hSw.cell q4; have tq5 := hSw.cell q5; have ts0 := hSw.cell s0; have ts1 := hSw.cell s1; have ts2 := hSw.cell s2; have ts3 := hSw.cell s3; have ts4 := hSw.cell s4; have ts5 := hSw.cell s5; go_simp; (try with_reducible rfl)
    try simp only [Act.put, List.setIfInBounds_toArray, List.set_cons_zero, List.set_cons_succ]
    refine wpAnyK_take (i := 9) (v := ?_) rfl (by kernel_rfl) (by kernel_rfl) (by kernel_rfl) (by kernel_rfl) (fun _ _ _ h => h) (Or.inl ⟨by rfl, ?_⟩) hS0 ?_
    rotate_left
    · intro w9 hSw; (try dsimp only at hSw); have tp5 := hSw.cell p5; have tr5 := hSw.cell r5; have tq0 := hSw.cell q0; have tq1 := hSw.cell q1; have tq2 := hSw.cell q2; have tq3 := hSw.cell q3; have tq4 := hSw.cell q4; have tq5 := hSw.cell q5; have ts0 := hSw.cell s0; have ts1 := hSw.cell s1; have ts2 := hSw.cell s2; have ts3 := hSw.cell s3; have ts4 := hSw.cell s4; have ts5 := hSw.cell s5; go_simp; (try with_reducible rfl)
    try simp only [Act.put, List.setIfInBounds_toArray, List.set_cons_zero, List.set_cons_succ]
    refine wpAnyK_one (i := 10) (by kernel_rfl) rfl (fun K hK => ?_)
    go_simp
    try go_wp2_with fail
    refine cmo (ih _ (kidN a i) (kidN b i) Ak Aj ck cj (by omega) (by omega) (Kd.R_below HTK.out (HOVW.out.drew).below) (Kd.R_below HTJ.out (HOVW.out.drew).below)) ?_
    rintro e9 w9 ⟨rfl, hov9⟩
    have HOV9 := hid ((IsOv.refl wr).drew.trans hov9)
    clear hov9 p5 r5 q0 q1 q2 q3 q4 q5 s0 s1 s2 s3 s4 s5
    cases hc : sameN (kidN a i) (kidN b i)
    ·
     refine hK.out _ _ (fun _ => HOV9.out) ?_
     clear hK K
     refine wpAnyK_take (i := 11) (v := .bool true) rfl (by kernel_rfl) (by kernel_rfl) (by kernel_rfl) (by kernel_rfl) (fun _ _ _ h => h) (Or.inl ⟨by rfl, ?_⟩) HOV9.out ?_
     · intro w8 hSw; go_simp; (try with_reducible rfl)
     try simp only [Act.put, List.setIfInBounds_toArray, List.set_cons_zero, List.set_cons_succ]
     refine wpAnyK_done (by kernel_rfl) ?_ _
     go_wp2_with fail
     exact bodyPost_ret (v := .bool false) (by simp [results, Tryz.results11, go_sem, ↓IntWalk.iteOmega]) rfl ⟨by rw [HR2.out, HST.out, hc]; rfl, (HOVW.out.trans HOV9.out)⟩
    ·
     refine hK.out _ _ (fun _ => HOV9.out) ?_
     clear hK K
     refine wpAnyK_take (i := 11) (v := .bool false) rfl (by kernel_rfl) (by kernel_rfl) (by kernel_rfl) (by kernel_rfl) (fun _ _ _ h => h) (Or.inl ⟨by rfl, ?_⟩) HOV9.out ?_
     · intro w8 hSw; go_simp; (try with_reducible rfl)
     try simp only [Act.put, List.setIfInBounds_toArray, List.set_cons_zero, List.set_cons_succ]
     refine wpAnyK_done (by kernel_rfl) ?_ _
     go_wp2_with fail
     go_roundg (a.kids.length - i)
     case rel => exact ⟨i + 1, by push_cast; rfl, by omega, by omega, HOV.out.trans HOV9.out, hid (by rw [HR2.out, HST.out, hc]; rfl)⟩
     case measure => omega
   ·
    obtain rfl : i = a.kids.length := by omega
    have hib : ¬ ((a.kids.length : Int)) < (a.kids.length : Int) := by omega
    have HOVW := hid hovw
    clear hovw
    go_wp2_with fail
    exact bodyPost_ret (v := .bool true) (by simp [results, Tryz.results11, go_sem, ↓IntWalk.iteOmega]) rfl ⟨by rw [HR2.out, List.drop_length]; simp only [sameL], HOVW.out⟩
set_option maxRecDepth 20000 in
set_option maxHeartbeats 3200000 in
theorem refSame_gives : ∀ (m : Nat) (w : World) (a b : Node) (A B : Option Addr) (ca cb : Nat), nodesN a ≤ m → m ≤ 1000000000 → Tr w (.slice A a.kids.length ca) a.kids → Tr w (.slice B b.kids.length cb) b.kids →
  Gives Tryz.prog 12 #[nodeV a (.slice A a.kids.length ca), nodeV b (.slice B b.kids.length cb), .bool false] w (.bool (sameN a b)) := by
 intro m
 induction m with
 | zero => intro w a b A B ca cb h; have := nodesN_pos a; omega
 | succ m ih =>
  intro w a b A B ca cb hd hm ht1 ht2
  have HT1 := hid ht1
  have HT2 := hid ht2
  obtain ⟨r, hr⟩ : ∃ r, r = sameN a b := ⟨_, rfl⟩
  rw [← hr]
  rw [sameN_eq, ← txt_eq, ← txt_eq] at hr
  have HR := hid hr
  have hne := nodesN_eq a
  have hlk := len_nodesL a.kids
  have hkl0 : (0 : Int) ≤ (a.kids.length : Int) := by omega
  clear ht1 ht2 hr
  unfold Gives nodeV
  go_enter Tryz.func12, Tryz.ntmps12
  cases h0 : (a.kind.toList == b.kind.toList)
  ·
   go_wp2_with fail
   exact bodyPost_ret (v := .bool false) (by simp [results, Tryz.results12, go_sem, ↓IntWalk.iteOmega]) rfl ⟨by rw [HR.out, h0]; rfl, (by repeat (first | with_reducible exact IsOv.refl _ | with_reducible assumption | with_reducible apply IsOv.drew | with_reducible apply IsOv.drewN | with_reducible apply IsOv.alloc))⟩
  cases h1 : (a.text.toList == b.text.toList)
  ·
   go_wp2_with fail
   exact bodyPost_ret (v := .bool false) (by simp [results, Tryz.results12, go_sem, ↓IntWalk.iteOmega]) rfl ⟨by rw [HR.out, h0, h1]; rfl, (by repeat (first | with_reducible exact IsOv.refl _ | with_reducible assumption | with_reducible apply IsOv.drew | with_reducible apply IsOv.drewN | with_reducible apply IsOv.alloc))⟩
  cases h2 : (a.num == b.num)
  ·
   have h2n : (a.num != b.num) = true := by rw [bne, h2]; rfl
   go_wp2_with fail
   exact bodyPost_ret (v := .bool false) (by simp [results, Tryz.results12, go_sem, ↓IntWalk.iteOmega]) rfl ⟨by rw [HR.out, h0, h1, h2]; rfl, (by repeat (first | with_reducible exact IsOv.refl _ | with_reducible assumption | with_reducible apply IsOv.drew | with_reducible apply IsOv.drewN | with_reducible apply IsOv.alloc))⟩
  have h2n : (a.num != b.num) = false := by rw [bne, h2]; rfl
  by_cases h3 : a.kids.length = b.kids.length
  rotate_left
  ·
   have h3b : ((a.kids.length : Int) == (b.kids.length : Int)) = false := beq_eq_false_iff_ne.2 (by omega)
   have h3n : ((a.kids.length : Int) != (b.kids.length : Int)) = true := by rw [bne, h3b]; rfl
   have h3c : (a.kids.length == b.kids.length) = false := by simpa using h3
   have h3d : ¬ (a.kids.length : Int) = (b.kids.length : Int) := by omega
   go_wp2_with fail
   exact bodyPost_ret (v := .bool false) (by simp [results, Tryz.results12, go_sem, ↓IntWalk.iteOmega]) rfl ⟨by rw [HR.out, h0, h1, h2, h3c]; rfl, (by repeat (first | with_reducible exact IsOv.refl _ | with_reducible assumption | with_reducible apply IsOv.drew | with_reducible apply IsOv.drewN | with_reducible apply IsOv.alloc))⟩
  have h3b : ((a.kids.length : Int) == (b.kids.length : Int)) = true := beq_iff_eq.2 (by omega)
  have h3n : ((a.kids.length : Int) != (b.kids.length : Int)) = false := by rw [bne, h3b]; rfl
  have h3c : (a.kids.length == b.kids.length) = true := by simpa using h3
  have HR1 : Hid (r = sameL a.kids b.kids) := hid (by rw [HR.out, h0, h1, h2, h3c]; rfl)
  have H3 := hid h3
  clear HR h3 h3c
  go_wp2_with fail
  go_loopg [7] (a.kids.length + 1) (fun gq ib wr => ∃ (i : Nat), ib = .int .i64 (i : Int) ∧ i + gq = a.kids.length + 1 ∧ i ≤ a.kids.length ∧ IsOv ((w.alloc (.cells #[.string a.kind, .string a.text, .int .u64 a.num, .int .i64 a.line, .int .i64 a.col, .slice A a.kids.length ca] 26)).alloc (.cells #[.string b.kind, .string b.text, .int .u64 b.num, .int .i64 b.line, .int .i64 b.col, .slice B b.kids.length cb] 26)) wr ∧ Hid (r = sameL (a.kids.drop i) (b.kids.drop i)))
  case atStart => exact ⟨0, rfl, by omega, by omega, IsOv.refl _, by rw [List.drop_zero, List.drop_zero]; exact HR1⟩
  case round =>
   obtain ⟨i, rfl, hi1, hi2, hov, HR2⟩ := hrel
   have hb0 := hov.heap (((IsOv.refl _).alloc _).heap (heap_alloc_new w (.cells #[.string a.kind, .string a.text, .int .u64 a.num, .int .i64 a.line, .int .i64 a.col, .slice A a.kids.length ca] 26)))
   have hb1 := hov.heap (heap_alloc_new (w.alloc (.cells #[.string a.kind, .string a.text, .int .u64 a.num, .int .i64 a.line, .int .i64 a.col, .slice A a.kids.length ca] 26)) (.cells #[.string b.kind, .string b.text, .int .u64 b.num, .int .i64 b.line, .int .i64 b.col, .slice B b.kids.length cb] 26))
   rw [World.size_alloc] at hb1
   have p5 : wr.cell? ⟨w.heap.size, 5, none⟩ = some (.slice A a.kids.length ca) := cell_of_heap hb0 5
   have r5 : wr.cell? ⟨w.heap.size + 1, 5, none⟩ = some (.slice B b.kids.length cb) := cell_of_heap hb1 5
   have hovw : IsOv w wr := (((IsOv.refl w).alloc _).alloc _).trans hov
   have HOV := hid hov
   clear hov hb0 hb1 HR1
   by_cases hi : i < a.kids.length
   ·
    have hib : (i : Int) < (a.kids.length : Int) := by omega
    have hi9 : i < b.kids.length := by rw [← H3.out]; exact hi
    have hib9 : (i : Int) < (b.kids.length : Int) := by omega
    have hib0 : (0 : Int) ≤ (i : Int) := by omega
    have hkd := kid_nodes hi
    have hiw : IntKind.i64.wrap ((i : Int) + 1) = (i : Int) + 1 := IntWalk.i64_in _ (by omega)
    obtain ⟨gk, Ak, ck, rfl, hgk, q0, q1, q2, q3, q4, q5, HTk⟩ := kid_at HT1.out hovw i hi
    obtain ⟨gj, Aj, cj, rfl, hgj, s0, s1, s2, s3, s4, s5, HTj⟩ := kid_at HT2.out hovw i hi9
    have HTK := hid HTk
    have HTJ := hid HTj
    have HOVW := hid hovw
    have HST := hid (sameL_step hi hi9)
    clear HTk HTj hovw
    go_wp2_with fail
    have hS0 : (fun w' : World => IsOv wr w') wr.drew := (IsOv.refl wr).drew
    refine wp_region_K (fun w' : World => IsOv wr w') (fun j => false) (by kernel_rfl) ?_
    refine wpAnyK_take (i := 0) (v := ?_) rfl (by kernel_rfl) (by kernel_rfl) (by kernel_rfl) (by kernel_rfl) (fun _ _ _ h => h) (Or.inl ⟨by rfl, ?_⟩) hS0 ?_
    rotate_left
    · intro w9 hSw; (try dsimp only at hSw); have tp5 := hSw.cell p5; have tr5 := hSw.cell r5; have tq0 := hSw.cell q0; have tq1 := hSw.cell q1; have tq2 := hSw.cell q2; have tq3 := hSw.cell q3; have tq4 := hSw.cell q4; have tq5 := hSw.cell q5; have ts0 := hSw.cell s0; have ts1 := hSw.cell s1; have ts2 := hSw.cell s2; have ts3 := hSw.cell s3; have ts4 := hSw.cell s4; have ts5 := hSw.cell s5; go_simp; (try with_reducible rfl)
    try simp only [Act.put, List.setIfInBounds_toArray, List.set_cons_zero, List.set_cons_succ]
    refine wpAnyK_take (i := 1) (v := ?_) rfl (by kernel_rfl) (by kernel_rfl) (by kernel_rfl) (by kernel_rfl) (fun _ _ _ h => h) (Or.inl ⟨by rfl, ?_⟩) hS0 ?_
    rotate_left
    · intro w9 hSw; (try dsimp only at hSw); have tp5 := hSw.cell p5; have tr5 := hSw.cell r5; have tq0 := hSw.cell q0; have tq1 := hSw.cell q1; have tq2 := hSw.cell q2; have tq3 := hSw.cell q3; have tq4 := hSw.cell q4; have tq5 := hSw.cell q5; have ts0 := hSw.cell s0; have ts1 := hSw.cell s1; have ts2 := hSw.cell s2; have ts3 := hSw.cell s3; have ts4 := hSw.cell s4; have ts5 := hSw.cell s5; go_simp; (try with_reducible rfl)
    try simp only [Act.put, List.setIfInBounds_toArray, List.set_cons_zero, List.set_cons_succ]
    refine wpAnyK_take (i := 2) (v := ?_) rfl (by kernel_rfl) (by kernel_rfl) (by kernel_rfl) (by kernel_rfl) (fun _ _ _ h => h) (Or.inl ⟨by rfl, ?_⟩) hS0 ?_
    rotate_left
    · intro w9 hSw; (try dsimp only at hSw); have tp5 := hSw.cell p5; have tr5 := hSw.cell r5; have tq0 := hSw.cell q0; have tq1 := hSw.cell q1; have tq2 := hSw.cell q2; have tq3 := hSw.cell q3; have tq4 := hSw.cell q4; have tq5 := hSw.cell q5; have ts0 := hSw.cell s0; have ts1 := hSw.cell s1; have ts2 := hSw.cell s2; have ts3 := hSw.cell s3; have ts4 := hSw.cell s4; have ts5 := hSw.cell s5; go_simp; (try with_reducible rfl)
    try simp only [Act.put, List.setIfInBounds_toArray, List.set_cons_zero, List.set_cons_succ]
    refine wpAnyK_take (i := 3) (v := ?_) rfl (by kernel_rfl) (by kernel_rfl) (by kernel_rfl) (by kernel_rfl) (fun _ _ _ h => h) (Or.inl ⟨by rfl, ?_⟩) hS0 ?_
    rotate_left
    · intro w9 hSw; (try dsimp only at hSw); have tp5 := hSw.cell p5; have tr5 := hSw.cell r5; have tq0 := hSw.cell q0; have tq1 := hSw.cell q1; have tq2 := hSw.cell q2; have tq3 := hSw.cell q3; have tq4 := hSw.cell q4; have tq5 := hSw.cell q5; have ts0 := hSw.cell s0; have ts1 := hSw.cell s1; have ts2 := hSw.cell s2; have ts3 := hSw.cell s3; have ts4 := hSw.cell s4; have ts5 := hSw.cell s5; go_simp; (try with_reducible rfl)
    try simp only [Act.put, List.setIfInBounds_toArray, List.set_cons_zero, List.set_cons_succ]
    refine wpAnyK_take (i := 4) (v := ?_) rfl (by kernel_rfl) (by kernel_rfl) (by kernel_rfl) (by kernel_rfl) (fun _ _ _ h => h) (Or.inl ⟨by rfl, ?_⟩) hS0 ?_
    rotate_left
    · intro w9 hSw; (try dsimp only at hSw); have tp5 := hSw.cell p5; have tr5 := hSw.cell r5; have tq0 := hSw.cell q0; have tq1 := hSw.cell q1; have tq2 := hSw.cell q2; have tq3 := hSw.cell q3; have tq4 := hSw.cell q4; have tq5 := hSw.cell q5; have ts0 := hSw.cell s0; have ts1 := hSw.cell s1; have ts2 := hSw.cell s2; have ts3 := hSw.cell s3; have ts4 := hSw.cell s4; have ts5 := hSw.cell s5; go_simp; (try with_reducible rfl)
    try simp only [Act.put, List.setIfInBounds_toArray, List.set_cons_zero, List.set_cons_succ]
    refine wpAnyK_take (i := 5) (v := ?_) rfl (by kernel_rfl) (by kernel_rfl) (by kernel_rfl) (by kernel_rfl) (fun _ _ _ h => h) (Or.inl ⟨by rfl, ?_⟩) hS0 ?_
    rotate_left
    · intro w9 hSw; (try dsimp only at hSw); have tp5 := hSw.cell p5; have tr5 := hSw.cell r5; have tq0 := hSw.cell q0; have tq1 := hSw.cell q1; have tq2 := hSw.cell q2; have tq3 := hSw.cell q3; have tq4 := hSw.cell q4; have tq5 := hSw.cell q5; have ts0 := hSw.cell s0; have ts1 := hSw.cell s1; have ts2 := hSw.cell s2; have ts3 := hSw.cell s3; have ts4 := hSw.cell s4; have ts5 := hSw.cell s5; go_simp; (try with_reducible rfl)
    try simp only [Act.put, List.setIfInBounds_toArray, List.set_cons_zero, List.set_cons_succ]
    refine wpAnyK_take (i := 6) (v := ?_) rfl (by kernel_rfl) (by kernel_rfl) (by kernel_rfl) (by kernel_rfl) (fun _ _ _ h => h) (Or.inl ⟨by rfl, ?_⟩) hS0 ?_
    rotate_left
    · intro w9 hSw; (try dsimp only at hSw); have tp5 := hSw.cell p5; have tr5 := hSw.cell r5; have tq0 := hSw.cell q0; have tq1 := hSw.cell q1; have tq2 := hSw.cell q2; have tq3 := hSw.cell q3; have tq4 := hSw.cell q4; have tq5 := hSw.cell q5; have ts0 := hSw.cell s0; have ts1 := hSw.cell s1; have ts2 := hSw.cell s2; have ts3 := hSw.cell s3; have ts4 := hSw.cell s4; have ts5 := hSw.cell s5; go_simp; (try with_reducible rfl)
    try simp only [Act.put, List.setIfInBounds_toArray, List.set_cons_zero, List.set_cons_succ]
    refine wpAnyK_take (i := 7) (v := ?_) rfl (by kernel_rfl) (by kernel_rfl) (by kernel_rfl) (by kernel_rfl) (fun _ _ _ h => h) (Or.inl ⟨by rfl, ?_⟩) hS0 ?_
    rotate_left
    · intro w9 hSw; (try dsimp only at hSw); have tp5 := hSw.cell p5; have tr5 := hSw.cell r5; have tq0 := hSw.cell q0; have tq1 := hSw.cell q1; have tq2 := hSw.cell q2; have tq3 := hSw.cell q3; have tq4 := hSw.cell q4; have tq5 := hSw.cell q5; have ts0 := hSw.cell s0; have ts1 := hSw.cell s1; have ts2 := hSw.cell s2; have ts3 := hSw.cell s3; have ts4 := hSw.cell s4; have ts5 := hSw.cell s5; go_simp; (try with_reducible rfl)
    try simp only [Act.put, List.setIfInBounds_toArray, List.set_cons_zero, List.set_cons_succ]
    refine wpAnyK_take (i := 8) (v := ?_) rfl (by kernel_rfl) (by kernel_rfl) (by kernel_rfl) (by kernel_rfl) (fun _ _ _ h => h) (Or.inl ⟨by rfl, ?_⟩) hS0 ?_
    rotate_left
    · intro w9 hSw; (try dsimp only at hSw); have tp5 := hSw.cell p5; have tr5 := hSw.cell r5; have tq0 := hSw.cell q0; have tq1 := hSw.cell q1; have tq2 := hSw.cell q2; have tq3 := hSw.cell q3; have tq4 := hSw.cell q4; have tq5 := hSw.cell q5; have ts0 := hSw.cell s0; have ts1 := hSw.cell s1; have ts2 := hSw.cell s2; have ts3 := hSw.cell s3; have ts4 := hSw.cell s4; have ts5 := hSw.cell s5; go_simp; (try with_reducible rfl)
    try simp only [Act.put, List.setIfInBounds_toArray, List.set_cons_zero, List.set_cons_succ]
    refine wpAnyK_take (i := 9) (v := ?_) rfl (by kernel_rfl) (by kernel_rfl) (by kernel_rfl) (by kernel_rfl) (fun _ _ _ h => h) (Or.inl ⟨by rfl, ?_⟩) hS0 ?_
    rotate_left
    · intro w9 hSw; (try dsimp only at hSw); have tp5 := hSw.cell p5; have tr5 := hSw.cell r5; have tq0 := hSw.cell q0; have tq1 := hSw.cell q1; have tq2 := hSw.cell q2; have tq3 := hSw.cell q3; have tq4 := hSw.cell q4; have tq5 := hSw.cell q5; have ts0 := hSw.cell s0; have ts1 := hSw.cell s1; have ts2 := hSw.cell s2; have ts3 := hSw.cell s3; have ts4 := hSw.cell s4; have ts5 := hSw.cell s5; go_simp; (try with_reducible rfl)
    try simp only [Act.put, List.setIfInBounds_toArray, List.set_cons_zero, List.set_cons_succ]
    refine wpAnyK_take (i := 10) (v := ?_) rfl (by kernel_rfl) (by kernel_rfl) (by kernel_rfl) (by kernel_rfl) (fun _ _ _ h => h) (Or.inl ⟨by rfl, ?_⟩) hS0 ?_
    rotate_left
    · intro w9 hSw; (try dsimp only at hSw); have tp5 := hSw.cell p5; have tr5 := hSw.cell r5; have tq0 := hSw.cell q0; have tq1 := hSw.cell q1; have tq2 := hSw.cell q2; have tq3 := hSw.cell q3; have tq4 := hSw.cell q4; have tq5 := hSw.cell q5; have ts0 := hSw.cell s0; have ts1 := hSw.cell s1; have ts2 := hSw.cell s2; have ts3 := hSw.cell s3; have ts4 := hSw.cell s4; have ts5 := hSw.cell s5; go_simp; (try with_reducible rfl)
    try simp only [Act.put, List.setIfInBounds_toArray, List.set_cons_zero, List.set_cons_succ]
    refine wpAnyK_one (i := 11) (by kernel_rfl) rfl (fun K hK => ?_)
    go_simp
    try go_wp2_with fail
    refine cmo (ih _ (kidN a i) (kidN b i) Ak Aj ck cj (by omega) (by omega) (Kd.R_below HTK.out (HOVW.out.drew).below) (Kd.R_below HTJ.out (HOVW.out.drew).below)) ?_
    rintro e9 w9 ⟨rfl, hov9⟩
    have HOV9 := hid ((IsOv.refl wr).drew.trans hov9)
    clear hov9 p5 r5 q0 q1 q2 q3 q4 q5 s0 s1 s2 s3 s4 s5
    cases hc : sameN (kidN a i) (kidN b i)
    ·
     refine hK.out _ _ (fun _ => HOV9.out) ?_
     clear hK K
     refine wpAnyK_take (i := 12) (v := .bool true) rfl (by kernel_rfl) (by kernel_rfl) (by kernel_rfl) (by kernel_rfl) (fun _ _ _ h => h) (Or.inl ⟨by rfl, ?_⟩) HOV9.out ?_
     · intro w8 hSw; go_simp; (try with_reducible rfl)
     try simp only [Act.put, List.setIfInBounds_toArray, List.set_cons_zero, List.set_cons_succ]
     refine wpAnyK_done (by kernel_rfl) ?_ _
     go_wp2_with fail
     exact bodyPost_ret (v := .bool false) (by simp [results, Tryz.results12, go_sem, ↓IntWalk.iteOmega]) rfl ⟨by rw [HR2.out, HST.out, hc]; rfl, (HOVW.out.trans HOV9.out)⟩
    ·
     refine hK.out _ _ (fun _ => HOV9.out) ?_
     clear hK K
     refine wpAnyK_take (i := 12) (v := .bool false) rfl (by kernel_rfl) (by kernel_rfl) (by kernel_rfl) (by kernel_rfl) (fun _ _ _ h => h) (Or.inl ⟨by rfl, ?_⟩) HOV9.out ?_
     · intro w8 hSw; go_simp; (try with_reducible rfl)
     try simp only [Act.put, List.setIfInBounds_toArray, List.set_cons_zero, List.set_cons_succ]
     refine wpAnyK_done (by kernel_rfl) ?_ _
     go_wp2_with fail
     go_roundg (a.kids.length - i)
     case rel => exact ⟨i + 1, by push_cast; rfl, by omega, by omega, HOV.out.trans HOV9.out, hid (by rw [HR2.out, HST.out, hc]; rfl)⟩
     case measure => omega
   ·
    obtain rfl : i = a.kids.length := by omega
    have hib : ¬ ((a.kids.length : Int)) < (a.kids.length : Int) := by omega
    have HOVW := hid hovw
    clear hovw
    go_wp2_with fail
    exact bodyPost_ret (v := .bool true) (by simp [results, Tryz.results12, go_sem, ↓IntWalk.iteOmega]) rfl ⟨by rw [HR2.out, List.drop_length]; simp only [sameL], HOVW.out⟩
end Go.Proofs.YtdimhoilfopndaaGreatDoor
end
section
namespace Go.Proofs.YtdimhoilfopndaaGreatDoor
open Go.RowKit Go.Proofs.YtdimhoilfopndaaGreatDoorW.PrintWords
structure ShS (c : SC) (g : Nat) : Prop where
 block : ∀ (w : World) (xs : List ByteArray) (hs : List (Nat × Obj)) (n : Node) (A : Option Addr) (cap : Nat), 3 * depthN n ≤ g + 2 → numsOk n = true → SS c w xs hs → Tr c.W (.slice A n.kids.length cap) n.kids → xs.length + 10 * nodesN n ≤ 1000000000 → Calls Tryz.prog 37 #[.pointer (some ⟨c.p, 0, none⟩), nodeV n (.slice A n.kids.length cap)] w (PostS c xs (blockS g n) hs)
 branch : ∀ (w : World) (xs : List ByteArray) (hs : List (Nat × Obj)) (n : Node) (A : Option Addr) (cap : Nat), 3 * depthN n ≤ g + 2 → numsOk n = true → SS c w xs hs → Tr c.W (.slice A n.kids.length cap) n.kids → xs.length + 10 * nodesN n ≤ 1000000000 → Calls Tryz.prog 91 #[.pointer (some ⟨c.p, 0, none⟩), nodeV n (.slice A n.kids.length cap)] w (PostS c xs (branchS g n) hs)
 stmt : ∀ (w : World) (xs : List ByteArray) (hs : List (Nat × Obj)) (n : Node) (A : Option Addr) (cap : Nat), 3 * depthN n ≤ g + 1 → numsOk n = true → SS c w xs hs → Tr c.W (.slice A n.kids.length cap) n.kids → xs.length + 10 * nodesN n ≤ 1000000000 → Calls Tryz.prog 67 #[.pointer (some ⟨c.p, 0, none⟩), nodeV n (.slice A n.kids.length cap)] w (PostS c xs (stmtS g n) hs)
set_option maxRecDepth 20000 in
set_option maxHeartbeats 1600000 in
theorem block_shows (c : SC) (HL0 : LaidP c.W) (g : Nat) (IH : ShS c g) (w : World) (xs : List ByteArray) (hs : List (Nat × Obj)) (n : Node) (A : Option Addr) (cap : Nat) (hd : 3 * depthN n ≤ g + 3) (hn : numsOk n = true) (h : SS c w xs hs) (ht : Tr c.W (.slice A n.kids.length cap) n.kids) (hl : xs.length + 10 * nodesN n ≤ 1000000000) (r : Out) (hr : r = (if plainB n ⟨#[98, 108, 111, 99, 107]⟩ n.kids.length false false then sq (some [⟨#[123]⟩]) (sq (each (stmtS g) n.kids) (some [⟨#[125]⟩])) else none)) : Calls Tryz.prog 37 #[.pointer (some ⟨c.p, 0, none⟩), nodeV n (.slice A n.kids.length cap)] w (PostS c xs r hs) := by
 have HL := hid HL0.v
 have HLP := hid HL0
 have HTR := hid ht
 have HR0 := hid hr
 clear hr ht
 have hnp := nodesN_pos n
 have hne := nodesN_eq n
 have hlk := len_nodesL n.kids
 have hkl0 : (0 : Int) ≤ (n.kids.length : Int) := by omega
 unfold nodeV
 have hlt := h.lt
 have HS0 := hid h
 clear h
 go_enter Tryz.func37, Tryz.ntmps37
 have HS1 := hid (HS0.out.alloc (.cells #[.string n.kind, .string n.text, .int .u64 n.num, .int .i64 n.line, .int .i64 n.col, .slice A n.kids.length cap] 26))
 go_wp2_with fail
 cases bp : plainB n ⟨#[98, 108, 111, 99, 107]⟩ n.kids.length false false
 ·
  refine cmo (plain_calls _ _ _ _ _ _ _ _) ?_
  rintro e9 w1 ⟨hov, rfl⟩
  rw [bp]
  have HS2 := hid (HS1.out.isOv hov)
  clear HS1
  clear hov
  obtain rfl : r = none := by rw [HR0.out]; simp only [bp, SQ0, ↓reduceIte]
  exact ⟨rfl, rfl, HS2.out.ov⟩
 ·
  refine cmo (plain_calls _ _ _ _ _ _ _ _) ?_
  rintro e9 w1 ⟨hov, rfl⟩
  rw [bp]
  have HS2 := hid (HS1.out.isOv hov)
  clear HS1
  clear hov
  have hzb1 : w.heap.size < w1.heap.size := lt_of_heap HS2.out.h0
  obtain ⟨n0, n1, n2, n3, n4, n5, nf⟩ := cells6 HS2.out.h0
  go_wp2_with fail
  refine cmo (put_calls c _ (xs) [⟨#[123]⟩] _ _ 1 (strs_read (by simp) (heap_alloc_new _ _)) (HS2.out.alloc _) (by (try simp only [List.length_append, List.length_cons, List.length_nil]); omega)) ?_
  rintro e9 w2 ⟨rfl, hss⟩
  have HS3 := hid (hss.drop)
  clear HS2
  clear hss
  have hzb2 : w.heap.size < w2.heap.size := lt_of_heap HS3.out.h0
  clear n0 n1 n2 n3 n4 n5 nf
  obtain ⟨n0, n1, n2, n3, n4, n5, nf⟩ := cells6 HS3.out.h0
  go_wp2_with fail
  clear n0 n1 n2 n3 n4 n5 nf
  have HRL : Hid (r = sq (some [⟨#[123]⟩]) (sq (each (stmtS g) n.kids) (some [⟨#[125]⟩]))) := hid (by rw [HR0.out]; simp only [bp, SQ0, ↓reduceIte])
  have HSL := HS3
  have HPL : ([⟨#[123]⟩] : List ByteArray).length + 10 * nodesL n.kids + 8 ≤ 10 * nodesN n := by simp only [List.length_cons, List.length_nil]; omega
  clear HR0 HS3
  go_loopg [17] (n.kids.length + 1) (fun gq b wr => ∃ (i : Nat) (pre : List ByteArray), b = .int .i64 (i : Int) ∧ i + gq = n.kids.length + 1 ∧ i ≤ n.kids.length ∧ pre.length + 10 * nodesL (n.kids.drop i) + 8 ≤ 10 * nodesN n ∧ Hid (r = sq (some pre) (sq (each (stmtS g) (n.kids.drop i)) (some [⟨#[125]⟩]))) ∧ Hid (SS c wr (xs ++ pre) ((w.heap.size, (.cells #[.string n.kind, .string n.text, .int .u64 n.num, .int .i64 n.line, .int .i64 n.col, .slice A n.kids.length cap] 26)) :: hs)))
  case atStart => exact ⟨0, _, rfl, by omega, by omega, HPL, HRL, HSL⟩
  case round =>
   obtain ⟨i, pre, rfl, hi1, hi2, hpre, HR20, HS20⟩ := hrel
   clear HRL HSL HPL
   by_cases hi : i < n.kids.length
   ·
    have hib : (i : Int) < (n.kids.length : Int) := by omega
    have hibb : decide ((i : Int) < (n.kids.length : Int)) = true := decide_eq_true hib
    have hib0 : (0 : Int) ≤ (i : Int) := by omega
    have hkd := kid_depth hi
    have hdk := drop_kid hi
    have hnk : nodesL (n.kids.drop i) = nodesN (kidN n i) + nodesL (n.kids.drop (i + 1)) := by rw [hdk, nodesL_cons]
    have hknp := nodesN_pos (kidN n i)
    have hd1 : decide (i + 1 = 0) = false := decide_eq_false (by omega)
    have hiw : IntKind.i64.wrap ((i : Int) + 1) = (i : Int) + 1 := IntWalk.i64_in _ (by omega)
    have hwr := HS20.out.heldLt (w.heap.size, _) (List.mem_cons_self ..)
    obtain ⟨gk, Ak, ck, rfl, hgk, q0, q1, q2, q3, q4, q5, HTk⟩ := kid_at HTR.out HS20.out.ov i hi
    have HTK := hid HTk
    clear HTk
    have HR21 : Hid (r = sq (some pre) (sq (each (stmtS g) (kidN n i :: n.kids.drop (i + 1))) (some [⟨#[125]⟩]))) := hid (by rw [← hdk]; exact HR20.out)
    clear HR20 hdk
    have HR22 : Hid (r = sq (some pre) (sq (sq ((stmtS g) (kidN n i)) (each (stmtS g) (n.kids.drop (i + 1)))) (some [⟨#[125]⟩]))) := hid (by have h9 := HR21.out; rw [each_cons] at h9; exact h9)
    clear HR21
    go_wp2_with fail
    have HS21 := hid (HS20.out.alloc (.cells #[.string (kidN n i).kind, .string (kidN n i).text, .int .u64 (kidN n i).num, .int .i64 (kidN n i).line, .int .i64 (kidN n i).col, .slice Ak (kidN n i).kids.length ck] 26))
    clear HS20
    cases h_k : (stmtS g) (kidN n i) with
    | none =>
     refine cmo (IH.stmt _ (xs ++ pre) _ (kidN n i) _ _ (by omega) (kid_nums hi hn) HS21.out HTK.out (by (try simp only [List.length_append, List.length_cons, List.length_nil]); omega)) ?_
     try rw [show ((stmtS g) (kidN n i)) = none from h_k]
     rintro e9 w99 ⟨rfl, hov⟩
     obtain rfl : r = none := by rw [HR22.out, h_k]; simp only [sq_n, sq_sn, sq_nn]
     exact ⟨rfl, rfl, hov⟩
    | some yk =>
     refine cmo (IH.stmt _ (xs ++ pre) _ (kidN n i) _ _ (by omega) (kid_nums hi hn) HS21.out HTK.out (by (try simp only [List.length_append, List.length_cons, List.length_nil]); omega)) ?_
     try rw [show ((stmtS g) (kidN n i)) = some yk from h_k]
     rintro e9 w30 ⟨rfl, hss⟩
     have hyk := (mostB g).stmt (kidN n i) _ h_k
     have HS40 := hid hss.drop
     clear hss
     have HR40 : Hid (r = sq (some (pre ++ yk)) (sq (each (stmtS g) (n.kids.drop (i + 1))) (some [⟨#[125]⟩]))) := hid (by rw [HR22.out, h_k]; simp only [sq_ss, sq_assoc, sq3, List.nil_append, hd1])
     go_wp2_with fail
     go_roundg (n.kids.length - i)
     case rel => exact ⟨i + 1, pre ++ yk, by push_cast; rfl, by omega, by omega, by (try simp only [List.length_append, List.length_cons, List.length_nil] at *); omega, HR40, by simpa only [List.append_assoc] using HS40⟩
     case measure => omega
   ·
    have hib : ¬ (i : Int) < (n.kids.length : Int) := by omega
    have hibb : decide ((i : Int) < (n.kids.length : Int)) = false := decide_eq_false hib
    have hwr := HS20.out.heldLt (w.heap.size, _) (List.mem_cons_self ..)
    have hnil : n.kids.drop i = [] := List.drop_eq_nil_of_le (by omega)
    have HR21 : Hid (r = sq (some pre) (some [⟨#[125]⟩])) := hid (by rw [HR20.out, hnil]; simp only [commas, each, sq_nil])
    clear HR20
    go_wp2_with fail
    refine cmo (put_calls c _ (xs ++ pre) [⟨#[125]⟩] _ _ 1 (strs_read (by simp) (heap_alloc_new _ _)) (HS20.out.alloc _) (by (try simp only [List.length_append, List.length_cons, List.length_nil]); omega)) ?_
    rintro e9 w21 ⟨rfl, hss⟩
    have HS21 := hid (hss.drop)
    clear HS20
    clear hss
    go_wp2_with fail
    have hys := HR21.out
    try simp only [SQ0, ↓reduceIte] at hys
    subst hys
    exact bodyPost_end (v := .tuple #[]) (by simp [results, Tryz.results37]) rfl ⟨rfl, by have h9 := HS21.out.drop; simpa only [List.append_assoc, List.append_nil, List.nil_append, List.cons_append] using h9⟩
set_option maxRecDepth 20000 in
set_option maxHeartbeats 1600000 in
theorem branch_shows (c : SC) (HL0 : LaidP c.W) (g : Nat) (IH : ShS c g) (w : World) (xs : List ByteArray) (hs : List (Nat × Obj)) (n : Node) (A : Option Addr) (cap : Nat) (hd : 3 * depthN n ≤ g + 3) (hn : numsOk n = true) (h : SS c w xs hs) (ht : Tr c.W (.slice A n.kids.length cap) n.kids) (hl : xs.length + 10 * nodesN n ≤ 1000000000) (r : Out) (hr : r = (if plainB n n.kind n.kids.length false false && ((n.kids.length == 2) || (eqB n.kind ⟨#[105, 102]⟩ && (n.kids.length == 3))) then sq (some [n.kind, ⟨#[40]⟩]) (sq (exprS g (kidN n 0) true) (sq (some [⟨#[41]⟩]) (sq (blockS g (kidN n 1)) (if n.kids.length == 3 then sq (some [⟨#[101, 108, 115, 101]⟩]) (blockS g (kidN n 2)) else some [])))) else none)) : Calls Tryz.prog 91 #[.pointer (some ⟨c.p, 0, none⟩), nodeV n (.slice A n.kids.length cap)] w (PostS c xs r hs) := by
 have HL := hid HL0.v
 have HLP := hid HL0
 have HTR := hid ht
 have HR0 := hid hr
 clear hr ht
 have hnp := nodesN_pos n
 have hne := nodesN_eq n
 have hlk := len_nodesL n.kids
 have hkl0 : (0 : Int) ≤ (n.kids.length : Int) := by omega
 unfold nodeV
 have hlt := h.lt
 have HS0 := hid h
 clear h
 go_enter Tryz.func91, Tryz.ntmps91
 have HS1 := hid (HS0.out.alloc (.cells #[.string n.kind, .string n.text, .int .u64 n.num, .int .i64 n.line, .int .i64 n.col, .slice A n.kids.length cap] 26))
 go_wp2_with fail
 cases bp : plainB n n.kind n.kids.length false false
 ·
  refine cmo (plain_calls _ _ _ _ _ _ _ _) ?_
  rintro e9 w1 ⟨hov, rfl⟩
  rw [bp]
  have HS2 := hid (HS1.out.isOv hov)
  clear HS1
  clear hov
  obtain rfl : r = none := by rw [HR0.out]; simp only [bp, SQ0, ↓reduceIte]
  exact ⟨rfl, rfl, HS2.out.ov⟩
 ·
  refine cmo (plain_calls _ _ _ _ _ _ _ _) ?_
  rintro e9 w1 ⟨hov, rfl⟩
  rw [bp]
  have HS2 := hid (HS1.out.isOv hov)
  clear HS1
  clear hov
  have hzb1 : w.heap.size < w1.heap.size := lt_of_heap HS2.out.h0
  obtain ⟨n0, n1, n2, n3, n4, n5, nf⟩ := cells6 HS2.out.h0
  cases h2 : (n.kids.length == 2)
  ·
   have h2n : ¬ n.kids.length = 2 := by simpa using h2
   have hkl2 : ((n.kids.length : Int) == 2) = false := beq_eq_false_iff_ne.mpr (by omega)
   cases bi : (n.kind.toList == [105, 102])
   ·
    have bi2 : eqB n.kind ⟨#[105, 102]⟩ = false := by have h9 := bi; rw [Lib.toList_data] at h9; exact h9
    go_wp2_with fail
    refine cmo (must_calls false _) ?_
    rintro e9 w99 ⟨hw9, rfl⟩
    obtain rfl := hw9.symm
    clear hw9
    obtain rfl : r = none := by rw [HR0.out]; simp only [bp, h2, bi2, SQ0, ↓reduceIte]
    exact ⟨rfl, rfl, HS2.out.ov⟩
   ·
    have bi2 : eqB n.kind ⟨#[105, 102]⟩ = true := by have h9 := bi; rw [Lib.toList_data] at h9; exact h9
    cases h3 : (n.kids.length == 3)
    ·
     have h3n : ¬ n.kids.length = 3 := by simpa using h3
     have hkl3 : ((n.kids.length : Int) == 3) = false := beq_eq_false_iff_ne.mpr (by omega)
     go_wp2_with fail
     refine cmo (must_calls false _) ?_
     rintro e9 w99 ⟨hw9, rfl⟩
     obtain rfl := hw9.symm
     clear hw9
     obtain rfl : r = none := by rw [HR0.out]; simp only [bp, h2, bi2, h3, SQ0, ↓reduceIte]
     exact ⟨rfl, rfl, HS2.out.ov⟩
    ·
     have h3n : n.kids.length = 3 := by simpa using h3
     have hkl3 : (n.kids.length : Int) = 3 := by omega
     go_wp2_with fail
     refine cmo (must_calls true _) ?_
     rintro e9 w99 ⟨hw9, rfl⟩
     obtain rfl := hw9.symm
     clear hw9
     have hzb1 : w.heap.size < w1.heap.size := lt_of_heap HS2.out.h0
     clear n0 n1 n2 n3 n4 n5 nf
     obtain ⟨n0, n1, n2, n3, n4, n5, nf⟩ := cells6 HS2.out.h0
     go_wp2_with fail
     have HR1 : Hid (r = sq (some [n.kind, ⟨#[40]⟩]) (sq (exprS g (kidN n 0) true) (sq (some [⟨#[41]⟩]) (sq (blockS g (kidN n 1)) (sq (some [⟨#[101, 108, 115, 101]⟩]) (blockS g (kidN n 2))))))) := hid (by rw [HR0.out]; simp only [bp, h2, bi2, h3, SQ0, ↓reduceIte])
     clear HR0
     have hkn := nodes3 (n := n) (by omega)
     have hkd0 := kid_depth (n := n) (i := 0) (by omega)
     have hknp0 := nodesN_pos (kidN n 0)
     have hkd1 := kid_depth (n := n) (i := 1) (by omega)
     have hknp1 := nodesN_pos (kidN n 1)
     have hkd2 := kid_depth (n := n) (i := 2) (by omega)
     have hknp2 := nodesN_pos (kidN n 2)
     refine cmo (put_calls c _ (xs) [n.kind, ⟨#[40]⟩] _ _ 2 (strs_read (by simp) (heap_alloc_new _ _)) (HS2.out.alloc _) (by (try simp only [List.length_append, List.length_cons, List.length_nil]); omega)) ?_
     rintro e9 w2 ⟨rfl, hss⟩
     have HS3 := hid (hss.drop)
     clear HS2
     clear hss
     have hzb2 : w.heap.size < w2.heap.size := lt_of_heap HS3.out.h0
     clear n0 n1 n2 n3 n4 n5 nf
     obtain ⟨n0, n1, n2, n3, n4, n5, nf⟩ := cells6 HS3.out.h0
     obtain ⟨gk0, Ak0, ck0, hA0, hg0, q0, q1, q2, q3, q4, q5, HTr0⟩ := kid_at HTR.out HS3.out.ov 0 (by omega)
     have HT0 := hid HTr0
     clear HTr0
     subst hA0
     have p0 : w2.cell? ⟨gk0, 0, none⟩ = _ := q0
     have p1 : w2.cell? ⟨gk0, 1, none⟩ = _ := q1
     have p2 : w2.cell? ⟨gk0, 2, none⟩ = _ := q2
     have p3 : w2.cell? ⟨gk0, 3, none⟩ = _ := q3
     have p4 : w2.cell? ⟨gk0, 4, none⟩ = _ := q4
     have p5 : w2.cell? ⟨gk0, 5, none⟩ = _ := q5
     clear q0 q1 q2 q3 q4 q5
     have hkl0 : (0 : Int) ≤ (n.kids.length : Int) := by omega
     go_wp2_with fail
     clear p0 p1 p2 p3 p4 p5
     cases h_a : exprS g (kidN n 0) true with
     | none =>
      refine cmo ((she c HL0 g).expr _ (xs ++ [n.kind, ⟨#[40]⟩]) _ (kidN n 0) _ _ true (by omega) (kid_nums (by omega) hn) HS3.out HT0.out (by (try simp only [List.length_append, List.length_cons, List.length_nil]); omega)) ?_
      rw [h_a]
      rintro e9 w99 ⟨rfl, hov⟩
      obtain rfl : r = none := by rw [HR1.out]; simp only [SQ0, ↓reduceIte, h_a]
      exact ⟨rfl, rfl, hov⟩
     | some ys_a =>
      refine cmo ((she c HL0 g).expr _ (xs ++ [n.kind, ⟨#[40]⟩]) _ (kidN n 0) _ _ true (by omega) (kid_nums (by omega) hn) HS3.out HT0.out (by (try simp only [List.length_append, List.length_cons, List.length_nil]); omega)) ?_
      rw [h_a]
      rintro e9 w3 ⟨rfl, hss⟩
      have HS4 := hid (hss)
      clear HS3
      clear hss
      have HR2 := hid (by have h9 := HR1.out; rw [h_a] at h9; exact h9)
      clear HR1
      have hla := (mostE g).expr (kidN n 0) true _ h_a
      go_wp2_with fail
      refine cmo (put_calls c _ (xs ++ [n.kind, ⟨#[40]⟩] ++ ys_a) [⟨#[41]⟩] _ _ 1 (strs_read (by simp) (heap_alloc_new _ _)) (HS4.out.alloc _) (by (try simp only [List.length_append, List.length_cons, List.length_nil]); omega)) ?_
      rintro e9 w4 ⟨rfl, hss⟩
      have HS5 := hid (hss.drop)
      clear HS4
      clear hss
      have hzb4 : w.heap.size < w4.heap.size := lt_of_heap HS5.out.h0
      clear n0 n1 n2 n3 n4 n5 nf
      obtain ⟨n0, n1, n2, n3, n4, n5, nf⟩ := cells6 HS5.out.h0
      obtain ⟨gk1, Ak1, ck1, hA1, hg1, q0, q1, q2, q3, q4, q5, HTr1⟩ := kid_at HTR.out HS5.out.ov 1 (by omega)
      have HT1 := hid HTr1
      clear HTr1
      obtain rfl : gk0 = gk1 := by have := Option.some.inj hA1; exact congrArg Addr.block this
      have p0 : w4.cell? ⟨gk0, 6, none⟩ = _ := q0
      have p1 : w4.cell? ⟨gk0, 7, none⟩ = _ := q1
      have p2 : w4.cell? ⟨gk0, 8, none⟩ = _ := q2
      have p3 : w4.cell? ⟨gk0, 9, none⟩ = _ := q3
      have p4 : w4.cell? ⟨gk0, 10, none⟩ = _ := q4
      have p5 : w4.cell? ⟨gk0, 11, none⟩ = _ := q5
      clear q0 q1 q2 q3 q4 q5
      have hkl0 : (0 : Int) ≤ (n.kids.length : Int) := by omega
      go_wp2_with fail
      clear p0 p1 p2 p3 p4 p5
      cases h_b : blockS g (kidN n 1) with
      | none =>
       refine cmo (IH.block _ (xs ++ [n.kind, ⟨#[40]⟩] ++ ys_a ++ [⟨#[41]⟩]) _ (kidN n 1) _ _ (by omega) (kid_nums (by omega) hn) HS5.out HT1.out (by (try simp only [List.length_append, List.length_cons, List.length_nil]); omega)) ?_
       rw [h_b]
       rintro e9 w99 ⟨rfl, hov⟩
       obtain rfl : r = none := by rw [HR2.out]; simp only [SQ0, ↓reduceIte, h_b]
       exact ⟨rfl, rfl, hov⟩
      | some ys_b =>
       refine cmo (IH.block _ (xs ++ [n.kind, ⟨#[40]⟩] ++ ys_a ++ [⟨#[41]⟩]) _ (kidN n 1) _ _ (by omega) (kid_nums (by omega) hn) HS5.out HT1.out (by (try simp only [List.length_append, List.length_cons, List.length_nil]); omega)) ?_
       rw [h_b]
       rintro e9 w5 ⟨rfl, hss⟩
       have HS6 := hid (hss)
       clear HS5
       clear hss
       have HR3 := hid (by have h9 := HR2.out; rw [h_b] at h9; exact h9)
       clear HR2
       have hlb := (mostB g).block (kidN n 1) _ h_b
       have hzb5 : w.heap.size < w5.heap.size := lt_of_heap HS6.out.h0
       clear n0 n1 n2 n3 n4 n5 nf
       obtain ⟨n0, n1, n2, n3, n4, n5, nf⟩ := cells6 HS6.out.h0
       go_wp2_with fail
       refine cmo (put_calls c _ (xs ++ [n.kind, ⟨#[40]⟩] ++ ys_a ++ [⟨#[41]⟩] ++ ys_b) [⟨#[101, 108, 115, 101]⟩] _ _ 1 (strs_read (by simp) (heap_alloc_new _ _)) (HS6.out.alloc _) (by (try simp only [List.length_append, List.length_cons, List.length_nil]); omega)) ?_
       rintro e9 w6 ⟨rfl, hss⟩
       have HS7 := hid (hss.drop)
       clear HS6
       clear hss
       have hzb6 : w.heap.size < w6.heap.size := lt_of_heap HS7.out.h0
       clear n0 n1 n2 n3 n4 n5 nf
       obtain ⟨n0, n1, n2, n3, n4, n5, nf⟩ := cells6 HS7.out.h0
       obtain ⟨gk2, Ak2, ck2, hA2, hg2, q0, q1, q2, q3, q4, q5, HTr2⟩ := kid_at HTR.out HS7.out.ov 2 (by omega)
       have HT2 := hid HTr2
       clear HTr2
       obtain rfl : gk0 = gk2 := by have := Option.some.inj hA2; exact congrArg Addr.block this
       have p0 : w6.cell? ⟨gk0, 12, none⟩ = _ := q0
       have p1 : w6.cell? ⟨gk0, 13, none⟩ = _ := q1
       have p2 : w6.cell? ⟨gk0, 14, none⟩ = _ := q2
       have p3 : w6.cell? ⟨gk0, 15, none⟩ = _ := q3
       have p4 : w6.cell? ⟨gk0, 16, none⟩ = _ := q4
       have p5 : w6.cell? ⟨gk0, 17, none⟩ = _ := q5
       clear q0 q1 q2 q3 q4 q5
       have hkl0 : (0 : Int) ≤ (n.kids.length : Int) := by omega
       go_wp2_with fail
       clear p0 p1 p2 p3 p4 p5
       cases h_d : blockS g (kidN n 2) with
       | none =>
        refine cmo (IH.block _ (xs ++ [n.kind, ⟨#[40]⟩] ++ ys_a ++ [⟨#[41]⟩] ++ ys_b ++ [⟨#[101, 108, 115, 101]⟩]) _ (kidN n 2) _ _ (by omega) (kid_nums (by omega) hn) HS7.out HT2.out (by (try simp only [List.length_append, List.length_cons, List.length_nil]); omega)) ?_
        rw [h_d]
        rintro e9 w99 ⟨rfl, hov⟩
        obtain rfl : r = none := by rw [HR3.out]; simp only [SQ0, ↓reduceIte, h_d]
        exact ⟨rfl, rfl, hov⟩
       | some ys_d =>
        refine cmo (IH.block _ (xs ++ [n.kind, ⟨#[40]⟩] ++ ys_a ++ [⟨#[41]⟩] ++ ys_b ++ [⟨#[101, 108, 115, 101]⟩]) _ (kidN n 2) _ _ (by omega) (kid_nums (by omega) hn) HS7.out HT2.out (by (try simp only [List.length_append, List.length_cons, List.length_nil]); omega)) ?_
        rw [h_d]
        rintro e9 w7 ⟨rfl, hss⟩
        have HS8 := hid (hss)
        clear HS7
        clear hss
        have HR4 := hid (by have h9 := HR3.out; rw [h_d] at h9; exact h9)
        clear HR3
        go_wp2_with fail
        have hys := HR4.out
        try simp only [SQ0, ↓reduceIte] at hys
        subst hys
        exact bodyPost_end (v := .tuple #[]) (by simp [results, Tryz.results91]) rfl ⟨rfl, by have h9 := HS8.out.drop; simpa only [List.append_assoc, List.append_nil, List.nil_append, List.cons_append] using h9⟩
  ·
   have h2n : n.kids.length = 2 := by simpa using h2
   have hkl : (n.kids.length : Int) = 2 := by omega
   have h3 : (n.kids.length == 3) = false := by rw [h2n]; rfl
   go_wp2_with fail
   refine cmo (must_calls true _) ?_
   rintro e9 w99 ⟨hw9, rfl⟩
   obtain rfl := hw9.symm
   clear hw9
   have hzb1 : w.heap.size < w1.heap.size := lt_of_heap HS2.out.h0
   clear n0 n1 n2 n3 n4 n5 nf
   obtain ⟨n0, n1, n2, n3, n4, n5, nf⟩ := cells6 HS2.out.h0
   go_wp2_with fail
   have HR1 : Hid (r = sq (some [n.kind, ⟨#[40]⟩]) (sq (exprS g (kidN n 0) true) (sq (some [⟨#[41]⟩]) (sq (blockS g (kidN n 1)) (some []))))) := hid (by rw [HR0.out]; simp only [bp, h2, h3, SQ0, ↓reduceIte])
   clear HR0
   have hkn := nodes2 (n := n) (by omega)
   have hkd0 := kid_depth (n := n) (i := 0) (by omega)
   have hknp0 := nodesN_pos (kidN n 0)
   have hkd1 := kid_depth (n := n) (i := 1) (by omega)
   have hknp1 := nodesN_pos (kidN n 1)
   refine cmo (put_calls c _ (xs) [n.kind, ⟨#[40]⟩] _ _ 2 (strs_read (by simp) (heap_alloc_new _ _)) (HS2.out.alloc _) (by (try simp only [List.length_append, List.length_cons, List.length_nil]); omega)) ?_
   rintro e9 w2 ⟨rfl, hss⟩
   have HS3 := hid (hss.drop)
   clear HS2
   clear hss
   have hzb2 : w.heap.size < w2.heap.size := lt_of_heap HS3.out.h0
   clear n0 n1 n2 n3 n4 n5 nf
   obtain ⟨n0, n1, n2, n3, n4, n5, nf⟩ := cells6 HS3.out.h0
   obtain ⟨gk0, Ak0, ck0, hA0, hg0, q0, q1, q2, q3, q4, q5, HTr0⟩ := kid_at HTR.out HS3.out.ov 0 (by omega)
   have HT0 := hid HTr0
   clear HTr0
   subst hA0
   have p0 : w2.cell? ⟨gk0, 0, none⟩ = _ := q0
   have p1 : w2.cell? ⟨gk0, 1, none⟩ = _ := q1
   have p2 : w2.cell? ⟨gk0, 2, none⟩ = _ := q2
   have p3 : w2.cell? ⟨gk0, 3, none⟩ = _ := q3
   have p4 : w2.cell? ⟨gk0, 4, none⟩ = _ := q4
   have p5 : w2.cell? ⟨gk0, 5, none⟩ = _ := q5
   clear q0 q1 q2 q3 q4 q5
   have hkl0 : (0 : Int) ≤ (n.kids.length : Int) := by omega
   go_wp2_with fail
   clear p0 p1 p2 p3 p4 p5
   cases h_a : exprS g (kidN n 0) true with
   | none =>
    refine cmo ((she c HL0 g).expr _ (xs ++ [n.kind, ⟨#[40]⟩]) _ (kidN n 0) _ _ true (by omega) (kid_nums (by omega) hn) HS3.out HT0.out (by (try simp only [List.length_append, List.length_cons, List.length_nil]); omega)) ?_
    rw [h_a]
    rintro e9 w99 ⟨rfl, hov⟩
    obtain rfl : r = none := by rw [HR1.out]; simp only [SQ0, ↓reduceIte, h_a]
    exact ⟨rfl, rfl, hov⟩
   | some ys_a =>
    refine cmo ((she c HL0 g).expr _ (xs ++ [n.kind, ⟨#[40]⟩]) _ (kidN n 0) _ _ true (by omega) (kid_nums (by omega) hn) HS3.out HT0.out (by (try simp only [List.length_append, List.length_cons, List.length_nil]); omega)) ?_
    rw [h_a]
    rintro e9 w3 ⟨rfl, hss⟩
    have HS4 := hid (hss)
    clear HS3
    clear hss
    have HR2 := hid (by have h9 := HR1.out; rw [h_a] at h9; exact h9)
    clear HR1
    have hla := (mostE g).expr (kidN n 0) true _ h_a
    go_wp2_with fail
    refine cmo (put_calls c _ (xs ++ [n.kind, ⟨#[40]⟩] ++ ys_a) [⟨#[41]⟩] _ _ 1 (strs_read (by simp) (heap_alloc_new _ _)) (HS4.out.alloc _) (by (try simp only [List.length_append, List.length_cons, List.length_nil]); omega)) ?_
    rintro e9 w4 ⟨rfl, hss⟩
    have HS5 := hid (hss.drop)
    clear HS4
    clear hss
    have hzb4 : w.heap.size < w4.heap.size := lt_of_heap HS5.out.h0
    clear n0 n1 n2 n3 n4 n5 nf
    obtain ⟨n0, n1, n2, n3, n4, n5, nf⟩ := cells6 HS5.out.h0
    obtain ⟨gk1, Ak1, ck1, hA1, hg1, q0, q1, q2, q3, q4, q5, HTr1⟩ := kid_at HTR.out HS5.out.ov 1 (by omega)
    have HT1 := hid HTr1
    clear HTr1
    obtain rfl : gk0 = gk1 := by have := Option.some.inj hA1; exact congrArg Addr.block this
    have p0 : w4.cell? ⟨gk0, 6, none⟩ = _ := q0
    have p1 : w4.cell? ⟨gk0, 7, none⟩ = _ := q1
    have p2 : w4.cell? ⟨gk0, 8, none⟩ = _ := q2
    have p3 : w4.cell? ⟨gk0, 9, none⟩ = _ := q3
    have p4 : w4.cell? ⟨gk0, 10, none⟩ = _ := q4
    have p5 : w4.cell? ⟨gk0, 11, none⟩ = _ := q5
    clear q0 q1 q2 q3 q4 q5
    have hkl0 : (0 : Int) ≤ (n.kids.length : Int) := by omega
    go_wp2_with fail
    clear p0 p1 p2 p3 p4 p5
    cases h_b : blockS g (kidN n 1) with
    | none =>
     refine cmo (IH.block _ (xs ++ [n.kind, ⟨#[40]⟩] ++ ys_a ++ [⟨#[41]⟩]) _ (kidN n 1) _ _ (by omega) (kid_nums (by omega) hn) HS5.out HT1.out (by (try simp only [List.length_append, List.length_cons, List.length_nil]); omega)) ?_
     rw [h_b]
     rintro e9 w99 ⟨rfl, hov⟩
     obtain rfl : r = none := by rw [HR2.out]; simp only [SQ0, ↓reduceIte, h_b]
     exact ⟨rfl, rfl, hov⟩
    | some ys_b =>
     refine cmo (IH.block _ (xs ++ [n.kind, ⟨#[40]⟩] ++ ys_a ++ [⟨#[41]⟩]) _ (kidN n 1) _ _ (by omega) (kid_nums (by omega) hn) HS5.out HT1.out (by (try simp only [List.length_append, List.length_cons, List.length_nil]); omega)) ?_
     rw [h_b]
     rintro e9 w5 ⟨rfl, hss⟩
     have HS6 := hid (hss)
     clear HS5
     clear hss
     have HR3 := hid (by have h9 := HR2.out; rw [h_b] at h9; exact h9)
     clear HR2
     have hlb := (mostB g).block (kidN n 1) _ h_b
     have hzb5 : w.heap.size < w5.heap.size := lt_of_heap HS6.out.h0
     clear n0 n1 n2 n3 n4 n5 nf
     obtain ⟨n0, n1, n2, n3, n4, n5, nf⟩ := cells6 HS6.out.h0
     go_wp2_with fail
     have hys := HR3.out
     try simp only [SQ0, ↓reduceIte] at hys
     subst hys
     exact bodyPost_end (v := .tuple #[]) (by simp [results, Tryz.results91]) rfl ⟨rfl, by have h9 := HS6.out.drop; simpa only [List.append_assoc, List.append_nil, List.nil_append, List.cons_append] using h9⟩
end Go.Proofs.YtdimhoilfopndaaGreatDoor
end
section
namespace Go.Proofs.YtdimhoilfopndaaGreatDoor
open Go.RowKit Go.Proofs.YtdimhoilfopndaaGreatDoorW.PrintWords
set_option maxRecDepth 20000 in
set_option maxHeartbeats 1600000 in
theorem shst_if (c : SC) (HL0 : LaidP c.W) (g : Nat) (IH : ShS c g) (w : World) (xs : List ByteArray) (hs : List (Nat × Obj)) (n : Node) (A : Option Addr) (cap : Nat) (k_if : (n.kind.toList == [105, 102]) = true) (k_while : (n.kind.toList == [119, 104, 105, 108, 101]) = false) (k_local : (n.kind.toList == [108, 111, 99, 97, 108]) = false) (k_assign : (n.kind.toList == [97, 115, 115, 105, 103, 110]) = false) (k_result : (n.kind.toList == [114, 101, 115, 117, 108, 116]) = false) (k_nondet : (n.kind.toList == [110, 111, 110, 100, 101, 116]) = false) (k_return : (n.kind.toList == [114, 101, 116, 117, 114, 110]) = false) (k_assert : (n.kind.toList == [97, 115, 115, 101, 114, 116]) = false) (k_assume : (n.kind.toList == [97, 115, 115, 117, 109, 101]) = false) (hd : 3 * depthN n ≤ g + 2) (hn : numsOk n = true) (h : SS c w xs hs) (ht : Tr c.W (.slice A n.kids.length cap) n.kids) (hl : xs.length + 10 * nodesN n ≤ 1000000000) (r : Out) (hr : r = branchS g n) : Calls Tryz.prog 67 #[.pointer (some ⟨c.p, 0, none⟩), nodeV n (.slice A n.kids.length cap)] w (PostS c xs r hs) := by
 have HL := hid HL0.v
 have HLP := hid HL0
 have HTR := hid ht
 have HR0 := hid hr
 clear hr ht
 have hnp := nodesN_pos n
 have hne := nodesN_eq n
 have hlk := len_nodesL n.kids
 have hkl0 : (0 : Int) ≤ (n.kids.length : Int) := by omega
 unfold nodeV
 have hlt := h.lt
 have HS0 := hid h
 clear h
 go_enter Tryz.func67, Tryz.ntmps67
 have HS1 := hid (HS0.out.alloc (.cells #[.string n.kind, .string n.text, .int .u64 n.num, .int .i64 n.line, .int .i64 n.col, .slice A n.kids.length cap] 26))
 go_wp2_with fail
 cases h_a : branchS g n with
 | none =>
  refine cmo (IH.branch _ (xs) _ n A cap (by omega) hn HS1.out HTR.out (by omega)) ?_
  rw [h_a]
  rintro e9 w99 ⟨rfl, hov⟩
  obtain rfl : r = none := by rw [HR0.out]; simp only [SQ0, ↓reduceIte, h_a]
  exact ⟨rfl, rfl, hov⟩
 | some ys_a =>
  refine cmo (IH.branch _ (xs) _ n A cap (by omega) hn HS1.out HTR.out (by omega)) ?_
  rw [h_a]
  rintro e9 w1 ⟨rfl, hss⟩
  have HS2 := hid (hss)
  clear HS1
  clear hss
  have HR1 := hid (by have h9 := HR0.out; rw [h_a] at h9; exact h9)
  clear HR0
  go_wp2_with fail
  have hys := HR1.out
  try simp only [SQ0, ↓reduceIte] at hys
  subst hys
  exact bodyPost_end (v := .tuple #[]) (by simp [results, Tryz.results67]) rfl ⟨rfl, by have h9 := HS2.out.drop; simpa only [List.append_assoc, List.append_nil, List.nil_append, List.cons_append] using h9⟩
set_option maxRecDepth 20000 in
set_option maxHeartbeats 1600000 in
theorem shst_while (c : SC) (HL0 : LaidP c.W) (g : Nat) (IH : ShS c g) (w : World) (xs : List ByteArray) (hs : List (Nat × Obj)) (n : Node) (A : Option Addr) (cap : Nat) (k_if : (n.kind.toList == [105, 102]) = false) (k_while : (n.kind.toList == [119, 104, 105, 108, 101]) = true) (k_local : (n.kind.toList == [108, 111, 99, 97, 108]) = false) (k_assign : (n.kind.toList == [97, 115, 115, 105, 103, 110]) = false) (k_result : (n.kind.toList == [114, 101, 115, 117, 108, 116]) = false) (k_nondet : (n.kind.toList == [110, 111, 110, 100, 101, 116]) = false) (k_return : (n.kind.toList == [114, 101, 116, 117, 114, 110]) = false) (k_assert : (n.kind.toList == [97, 115, 115, 101, 114, 116]) = false) (k_assume : (n.kind.toList == [97, 115, 115, 117, 109, 101]) = false) (hd : 3 * depthN n ≤ g + 2) (hn : numsOk n = true) (h : SS c w xs hs) (ht : Tr c.W (.slice A n.kids.length cap) n.kids) (hl : xs.length + 10 * nodesN n ≤ 1000000000) (r : Out) (hr : r = branchS g n) : Calls Tryz.prog 67 #[.pointer (some ⟨c.p, 0, none⟩), nodeV n (.slice A n.kids.length cap)] w (PostS c xs r hs) := by
 have HL := hid HL0.v
 have HLP := hid HL0
 have HTR := hid ht
 have HR0 := hid hr
 clear hr ht
 have hnp := nodesN_pos n
 have hne := nodesN_eq n
 have hlk := len_nodesL n.kids
 have hkl0 : (0 : Int) ≤ (n.kids.length : Int) := by omega
 unfold nodeV
 have hlt := h.lt
 have HS0 := hid h
 clear h
 go_enter Tryz.func67, Tryz.ntmps67
 have HS1 := hid (HS0.out.alloc (.cells #[.string n.kind, .string n.text, .int .u64 n.num, .int .i64 n.line, .int .i64 n.col, .slice A n.kids.length cap] 26))
 go_wp2_with fail
 cases h_a : branchS g n with
 | none =>
  refine cmo (IH.branch _ (xs) _ n A cap (by omega) hn HS1.out HTR.out (by omega)) ?_
  rw [h_a]
  rintro e9 w99 ⟨rfl, hov⟩
  obtain rfl : r = none := by rw [HR0.out]; simp only [SQ0, ↓reduceIte, h_a]
  exact ⟨rfl, rfl, hov⟩
 | some ys_a =>
  refine cmo (IH.branch _ (xs) _ n A cap (by omega) hn HS1.out HTR.out (by omega)) ?_
  rw [h_a]
  rintro e9 w1 ⟨rfl, hss⟩
  have HS2 := hid (hss)
  clear HS1
  clear hss
  have HR1 := hid (by have h9 := HR0.out; rw [h_a] at h9; exact h9)
  clear HR0
  go_wp2_with fail
  have hys := HR1.out
  try simp only [SQ0, ↓reduceIte] at hys
  subst hys
  exact bodyPost_end (v := .tuple #[]) (by simp [results, Tryz.results67]) rfl ⟨rfl, by have h9 := HS2.out.drop; simpa only [List.append_assoc, List.append_nil, List.nil_append, List.cons_append] using h9⟩
set_option maxRecDepth 20000 in
set_option maxHeartbeats 1600000 in
theorem shst_call (c : SC) (HL0 : LaidP c.W) (g : Nat) (IH : ShS c g) (w : World) (xs : List ByteArray) (hs : List (Nat × Obj)) (n : Node) (A : Option Addr) (cap : Nat) (k_if : (n.kind.toList == [105, 102]) = false) (k_while : (n.kind.toList == [119, 104, 105, 108, 101]) = false) (k_local : (n.kind.toList == [108, 111, 99, 97, 108]) = false) (k_assign : (n.kind.toList == [97, 115, 115, 105, 103, 110]) = false) (k_result : (n.kind.toList == [114, 101, 115, 117, 108, 116]) = false) (k_nondet : (n.kind.toList == [110, 111, 110, 100, 101, 116]) = false) (k_return : (n.kind.toList == [114, 101, 116, 117, 114, 110]) = false) (k_assert : (n.kind.toList == [97, 115, 115, 101, 114, 116]) = false) (k_assume : (n.kind.toList == [97, 115, 115, 117, 109, 101]) = false) (hd : 3 * depthN n ≤ g + 2) (hn : numsOk n = true) (h : SS c w xs hs) (ht : Tr c.W (.slice A n.kids.length cap) n.kids) (hl : xs.length + 10 * nodesN n ≤ 1000000000) (r : Out) (hr : r = sq (callS g n) (some [⟨#[59]⟩])) : Calls Tryz.prog 67 #[.pointer (some ⟨c.p, 0, none⟩), nodeV n (.slice A n.kids.length cap)] w (PostS c xs r hs) := by
 have HL := hid HL0.v
 have HLP := hid HL0
 have HTR := hid ht
 have HR0 := hid hr
 clear hr ht
 have hnp := nodesN_pos n
 have hne := nodesN_eq n
 have hlk := len_nodesL n.kids
 have hkl0 : (0 : Int) ≤ (n.kids.length : Int) := by omega
 unfold nodeV
 have hlt := h.lt
 have HS0 := hid h
 clear h
 go_enter Tryz.func67, Tryz.ntmps67
 have HS1 := hid (HS0.out.alloc (.cells #[.string n.kind, .string n.text, .int .u64 n.num, .int .i64 n.line, .int .i64 n.col, .slice A n.kids.length cap] 26))
 go_wp2_with fail
 cases h_a : callS g n with
 | none =>
  refine cmo (call_shows c HL0 g _ (xs) _ n A cap (by omega) hn HS1.out HTR.out (by omega) _ rfl) ?_
  rw [h_a]
  rintro e9 w99 ⟨rfl, hov⟩
  obtain rfl : r = none := by rw [HR0.out]; simp only [SQ0, ↓reduceIte, h_a]
  exact ⟨rfl, rfl, hov⟩
 | some ys_a =>
  refine cmo (call_shows c HL0 g _ (xs) _ n A cap (by omega) hn HS1.out HTR.out (by omega) _ rfl) ?_
  rw [h_a]
  rintro e9 w1 ⟨rfl, hss⟩
  have HS2 := hid (hss)
  clear HS1
  clear hss
  have HR1 := hid (by have h9 := HR0.out; rw [h_a] at h9; exact h9)
  clear HR0
  have hla := call_most g n _ h_a
  go_wp2_with fail
  refine cmo (put_calls c _ (xs ++ ys_a) [⟨#[59]⟩] _ _ 1 (strs_read (by simp) (heap_alloc_new _ _)) (HS2.out.alloc _) (by (try simp only [List.length_append, List.length_cons, List.length_nil]); omega)) ?_
  rintro e9 w2 ⟨rfl, hss⟩
  have HS3 := hid (hss.drop)
  clear HS2
  clear hss
  go_wp2_with fail
  have hys := HR1.out
  try simp only [SQ0, ↓reduceIte] at hys
  subst hys
  exact bodyPost_end (v := .tuple #[]) (by simp [results, Tryz.results67]) rfl ⟨rfl, by have h9 := HS3.out.drop; simpa only [List.append_assoc, List.append_nil, List.nil_append, List.cons_append] using h9⟩
set_option maxRecDepth 20000 in
set_option maxHeartbeats 1600000 in
theorem shst_local (c : SC) (HL0 : LaidP c.W) (g : Nat) (IH : ShS c g) (w : World) (xs : List ByteArray) (hs : List (Nat × Obj)) (n : Node) (A : Option Addr) (cap : Nat) (k_if : (n.kind.toList == [105, 102]) = false) (k_while : (n.kind.toList == [119, 104, 105, 108, 101]) = false) (k_local : (n.kind.toList == [108, 111, 99, 97, 108]) = true) (k_assign : (n.kind.toList == [97, 115, 115, 105, 103, 110]) = false) (k_result : (n.kind.toList == [114, 101, 115, 117, 108, 116]) = false) (k_nondet : (n.kind.toList == [110, 111, 110, 100, 101, 116]) = false) (k_return : (n.kind.toList == [114, 101, 116, 117, 114, 110]) = false) (k_assert : (n.kind.toList == [97, 115, 115, 101, 114, 116]) = false) (k_assume : (n.kind.toList == [97, 115, 115, 117, 109, 101]) = false) (hd : 3 * depthN n ≤ g + 2) (hn : numsOk n = true) (h : SS c w xs hs) (ht : Tr c.W (.slice A n.kids.length cap) n.kids) (hl : xs.length + 10 * nodesN n ≤ 1000000000) (r : Out) (hr : r = sq ((if plainB n ⟨#[108, 111, 99, 97, 108]⟩ 1 true false then sq (typS (kidN n 0) false) (nameS n) else none)) (some [⟨#[59]⟩])) : Calls Tryz.prog 67 #[.pointer (some ⟨c.p, 0, none⟩), nodeV n (.slice A n.kids.length cap)] w (PostS c xs r hs) := by
 have HL := hid HL0.v
 have HLP := hid HL0
 have HTR := hid ht
 have HR0 := hid hr
 clear hr ht
 have hnp := nodesN_pos n
 have hne := nodesN_eq n
 have hlk := len_nodesL n.kids
 have hkl0 : (0 : Int) ≤ (n.kids.length : Int) := by omega
 unfold nodeV
 have hlt := h.lt
 have HS0 := hid h
 clear h
 go_enter Tryz.func67, Tryz.ntmps67
 have HS1 := hid (HS0.out.alloc (.cells #[.string n.kind, .string n.text, .int .u64 n.num, .int .i64 n.line, .int .i64 n.col, .slice A n.kids.length cap] 26))
 go_wp2_with fail
 cases bp : plainB n ⟨#[108, 111, 99, 97, 108]⟩ 1 true false
 ·
  refine cmo (plain_calls _ _ _ _ _ _ _ _) ?_
  rintro e9 w1 ⟨hov, rfl⟩
  rw [bp]
  have HS2 := hid (HS1.out.isOv hov)
  clear HS1
  clear hov
  obtain rfl : r = none := by rw [HR0.out]; simp only [bp, SQ0, ↓reduceIte]
  exact ⟨rfl, rfl, HS2.out.ov⟩
 ·
  refine cmo (plain_calls _ _ _ _ _ _ _ _) ?_
  rintro e9 w1 ⟨hov, rfl⟩
  rw [bp]
  have HS2 := hid (HS1.out.isOv hov)
  clear HS1
  clear hov
  have hzb1 : w.heap.size < w1.heap.size := lt_of_heap HS2.out.h0
  obtain ⟨n0, n1, n2, n3, n4, n5, nf⟩ := cells6 HS2.out.h0
  have hkl : (n.kids.length : Int) = 1 := plainB_len bp
  have hkn := nodes1 (n := n) (by omega)
  have hkd0 := kid_depth (n := n) (i := 0) (by omega)
  have hknp0 := nodesN_pos (kidN n 0)
  obtain ⟨gk0, Ak0, ck0, hA0, hg0, q0, q1, q2, q3, q4, q5, HTr0⟩ := kid_at HTR.out HS2.out.ov 0 (by omega)
  have HT0 := hid HTr0
  clear HTr0
  subst hA0
  have p0 : w1.cell? ⟨gk0, 0, none⟩ = _ := q0
  have p1 : w1.cell? ⟨gk0, 1, none⟩ = _ := q1
  have p2 : w1.cell? ⟨gk0, 2, none⟩ = _ := q2
  have p3 : w1.cell? ⟨gk0, 3, none⟩ = _ := q3
  have p4 : w1.cell? ⟨gk0, 4, none⟩ = _ := q4
  have p5 : w1.cell? ⟨gk0, 5, none⟩ = _ := q5
  clear q0 q1 q2 q3 q4 q5
  have hkl0 : (0 : Int) ≤ (n.kids.length : Int) := by omega
  go_wp2_with fail
  clear p0 p1 p2 p3 p4 p5
  have HR1 : Hid (r = sq (sq (typS (kidN n 0) false) (nameS n)) (some [⟨#[59]⟩])) := hid (by rw [HR0.out]; simp only [bp, SQ0, ↓reduceIte])
  clear HR0
  cases h_a : typS (kidN n 0) false with
  | none =>
   refine cmo (typ_shows c _ (xs) _ (kidN n 0) _ _ false HS2.out (by omega)) ?_
   rw [h_a]
   rintro e9 w99 ⟨rfl, hov⟩
   obtain rfl : r = none := by rw [HR1.out]; simp only [SQ0, ↓reduceIte, h_a]
   exact ⟨rfl, rfl, hov⟩
  | some ys_a =>
   refine cmo (typ_shows c _ (xs) _ (kidN n 0) _ _ false HS2.out (by omega)) ?_
   rw [h_a]
   rintro e9 w2 ⟨rfl, hss⟩
   have HS3 := hid (hss)
   clear HS2
   clear hss
   have HR2 := hid (by have h9 := HR1.out; rw [h_a] at h9; exact h9)
   clear HR1
   have hla := typ_most (kidN n 0) false _ h_a
   have hzb2 : w.heap.size < w2.heap.size := lt_of_heap HS3.out.h0
   clear n0 n1 n2 n3 n4 n5 nf
   obtain ⟨n0, n1, n2, n3, n4, n5, nf⟩ := cells6 HS3.out.h0
   go_wp2_with fail
   cases h_b : nameS n with
   | none =>
    refine cmo (name_shows c HL.out _ (xs ++ ys_a) _ n _ cap HS3.out (by (try simp only [List.length_append, List.length_cons, List.length_nil]); omega)) ?_
    rw [h_b]
    rintro e9 w99 ⟨rfl, hov⟩
    obtain rfl : r = none := by rw [HR2.out]; simp only [SQ0, ↓reduceIte, h_b]
    exact ⟨rfl, rfl, hov⟩
   | some ys_b =>
    refine cmo (name_shows c HL.out _ (xs ++ ys_a) _ n _ cap HS3.out (by (try simp only [List.length_append, List.length_cons, List.length_nil]); omega)) ?_
    rw [h_b]
    rintro e9 w3 ⟨rfl, hss⟩
    have HS4 := hid (hss)
    clear HS3
    clear hss
    have HR3 := hid (by have h9 := HR2.out; rw [h_b] at h9; exact h9)
    clear HR2
    have hlb := name_most n _ h_b
    go_wp2_with fail
    refine cmo (put_calls c _ (xs ++ ys_a ++ ys_b) [⟨#[59]⟩] _ _ 1 (strs_read (by simp) (heap_alloc_new _ _)) (HS4.out.alloc _) (by (try simp only [List.length_append, List.length_cons, List.length_nil]); omega)) ?_
    rintro e9 w4 ⟨rfl, hss⟩
    have HS5 := hid (hss.drop)
    clear HS4
    clear hss
    go_wp2_with fail
    have hys := HR3.out
    try simp only [SQ0, ↓reduceIte] at hys
    subst hys
    exact bodyPost_end (v := .tuple #[]) (by simp [results, Tryz.results67]) rfl ⟨rfl, by have h9 := HS5.out.drop; simpa only [List.append_assoc, List.append_nil, List.nil_append, List.cons_append] using h9⟩
set_option maxRecDepth 20000 in
set_option maxHeartbeats 1600000 in
theorem shst_assign (c : SC) (HL0 : LaidP c.W) (g : Nat) (IH : ShS c g) (w : World) (xs : List ByteArray) (hs : List (Nat × Obj)) (n : Node) (A : Option Addr) (cap : Nat) (k_if : (n.kind.toList == [105, 102]) = false) (k_while : (n.kind.toList == [119, 104, 105, 108, 101]) = false) (k_local : (n.kind.toList == [108, 111, 99, 97, 108]) = false) (k_assign : (n.kind.toList == [97, 115, 115, 105, 103, 110]) = true) (k_result : (n.kind.toList == [114, 101, 115, 117, 108, 116]) = false) (k_nondet : (n.kind.toList == [110, 111, 110, 100, 101, 116]) = false) (k_return : (n.kind.toList == [114, 101, 116, 117, 114, 110]) = false) (k_assert : (n.kind.toList == [97, 115, 115, 101, 114, 116]) = false) (k_assume : (n.kind.toList == [97, 115, 115, 117, 109, 101]) = false) (hd : 3 * depthN n ≤ g + 2) (hn : numsOk n = true) (h : SS c w xs hs) (ht : Tr c.W (.slice A n.kids.length cap) n.kids) (hl : xs.length + 10 * nodesN n ≤ 1000000000) (r : Out) (hr : r = sq ((if plainB n n.kind 2 false false then sq (targetS g (kidN n 0)) (sq (some [⟨#[61]⟩]) (exprS g (kidN n 1) true)) else none)) (some [⟨#[59]⟩])) : Calls Tryz.prog 67 #[.pointer (some ⟨c.p, 0, none⟩), nodeV n (.slice A n.kids.length cap)] w (PostS c xs r hs) := by
 have HL := hid HL0.v
 have HLP := hid HL0
 have HTR := hid ht
 have HR0 := hid hr
 clear hr ht
 have hnp := nodesN_pos n
 have hne := nodesN_eq n
 have hlk := len_nodesL n.kids
 have hkl0 : (0 : Int) ≤ (n.kids.length : Int) := by omega
 unfold nodeV
 have hlt := h.lt
 have HS0 := hid h
 clear h
 go_enter Tryz.func67, Tryz.ntmps67
 have HS1 := hid (HS0.out.alloc (.cells #[.string n.kind, .string n.text, .int .u64 n.num, .int .i64 n.line, .int .i64 n.col, .slice A n.kids.length cap] 26))
 go_wp2_with fail
 cases bp : plainB n n.kind 2 false false
 ·
  refine cmo (plain_calls _ _ _ _ _ _ _ _) ?_
  rintro e9 w1 ⟨hov, rfl⟩
  rw [bp]
  have HS2 := hid (HS1.out.isOv hov)
  clear HS1
  clear hov
  obtain rfl : r = none := by rw [HR0.out]; simp only [bp, SQ0, ↓reduceIte]
  exact ⟨rfl, rfl, HS2.out.ov⟩
 ·
  refine cmo (plain_calls _ _ _ _ _ _ _ _) ?_
  rintro e9 w1 ⟨hov, rfl⟩
  rw [bp]
  have HS2 := hid (HS1.out.isOv hov)
  clear HS1
  clear hov
  have hzb1 : w.heap.size < w1.heap.size := lt_of_heap HS2.out.h0
  obtain ⟨n0, n1, n2, n3, n4, n5, nf⟩ := cells6 HS2.out.h0
  have hkl : (n.kids.length : Int) = 2 := plainB_len bp
  have hkn := nodes2 (n := n) (by omega)
  have hkd0 := kid_depth (n := n) (i := 0) (by omega)
  have hknp0 := nodesN_pos (kidN n 0)
  have hkd1 := kid_depth (n := n) (i := 1) (by omega)
  have hknp1 := nodesN_pos (kidN n 1)
  obtain ⟨gk0, Ak0, ck0, hA0, hg0, q0, q1, q2, q3, q4, q5, HTr0⟩ := kid_at HTR.out HS2.out.ov 0 (by omega)
  have HT0 := hid HTr0
  clear HTr0
  subst hA0
  have p0 : w1.cell? ⟨gk0, 0, none⟩ = _ := q0
  have p1 : w1.cell? ⟨gk0, 1, none⟩ = _ := q1
  have p2 : w1.cell? ⟨gk0, 2, none⟩ = _ := q2
  have p3 : w1.cell? ⟨gk0, 3, none⟩ = _ := q3
  have p4 : w1.cell? ⟨gk0, 4, none⟩ = _ := q4
  have p5 : w1.cell? ⟨gk0, 5, none⟩ = _ := q5
  clear q0 q1 q2 q3 q4 q5
  have hkl0 : (0 : Int) ≤ (n.kids.length : Int) := by omega
  go_wp2_with fail
  clear p0 p1 p2 p3 p4 p5
  have HR1 : Hid (r = sq (sq (targetS g (kidN n 0)) (sq (some [⟨#[61]⟩]) (exprS g (kidN n 1) true))) (some [⟨#[59]⟩])) := hid (by rw [HR0.out]; simp only [bp, SQ0, ↓reduceIte])
  clear HR0
  cases h_a : targetS g (kidN n 0) with
  | none =>
   refine cmo ((she c HL0 g).target _ (xs) _ (kidN n 0) _ _ (by omega) (kid_nums (by omega) hn) HS2.out HT0.out (by (try simp only [List.length_append, List.length_cons, List.length_nil]); omega)) ?_
   rw [h_a]
   rintro e9 w99 ⟨rfl, hov⟩
   obtain rfl : r = none := by rw [HR1.out]; simp only [SQ0, ↓reduceIte, h_a]
   exact ⟨rfl, rfl, hov⟩
  | some ys_a =>
   refine cmo ((she c HL0 g).target _ (xs) _ (kidN n 0) _ _ (by omega) (kid_nums (by omega) hn) HS2.out HT0.out (by (try simp only [List.length_append, List.length_cons, List.length_nil]); omega)) ?_
   rw [h_a]
   rintro e9 w2 ⟨rfl, hss⟩
   have HS3 := hid (hss)
   clear HS2
   clear hss
   have HR2 := hid (by have h9 := HR1.out; rw [h_a] at h9; exact h9)
   clear HR1
   have hla := (mostE g).target (kidN n 0) _ h_a
   go_wp2_with fail
   refine cmo (put_calls c _ (xs ++ ys_a) [⟨#[61]⟩] _ _ 1 (strs_read (by simp) (heap_alloc_new _ _)) (HS3.out.alloc _) (by (try simp only [List.length_append, List.length_cons, List.length_nil]); omega)) ?_
   rintro e9 w3 ⟨rfl, hss⟩
   have HS4 := hid (hss.drop)
   clear HS3
   clear hss
   have hzb3 : w.heap.size < w3.heap.size := lt_of_heap HS4.out.h0
   clear n0 n1 n2 n3 n4 n5 nf
   obtain ⟨n0, n1, n2, n3, n4, n5, nf⟩ := cells6 HS4.out.h0
   obtain ⟨gk1, Ak1, ck1, hA1, hg1, q0, q1, q2, q3, q4, q5, HTr1⟩ := kid_at HTR.out HS4.out.ov 1 (by omega)
   have HT1 := hid HTr1
   clear HTr1
   obtain rfl : gk0 = gk1 := by have := Option.some.inj hA1; exact congrArg Addr.block this
   have p0 : w3.cell? ⟨gk0, 6, none⟩ = _ := q0
   have p1 : w3.cell? ⟨gk0, 7, none⟩ = _ := q1
   have p2 : w3.cell? ⟨gk0, 8, none⟩ = _ := q2
   have p3 : w3.cell? ⟨gk0, 9, none⟩ = _ := q3
   have p4 : w3.cell? ⟨gk0, 10, none⟩ = _ := q4
   have p5 : w3.cell? ⟨gk0, 11, none⟩ = _ := q5
   clear q0 q1 q2 q3 q4 q5
   have hkl0 : (0 : Int) ≤ (n.kids.length : Int) := by omega
   go_wp2_with fail
   clear p0 p1 p2 p3 p4 p5
   cases h_b : exprS g (kidN n 1) true with
   | none =>
    refine cmo ((she c HL0 g).expr _ (xs ++ ys_a ++ [⟨#[61]⟩]) _ (kidN n 1) _ _ true (by omega) (kid_nums (by omega) hn) HS4.out HT1.out (by (try simp only [List.length_append, List.length_cons, List.length_nil]); omega)) ?_
    rw [h_b]
    rintro e9 w99 ⟨rfl, hov⟩
    obtain rfl : r = none := by rw [HR2.out]; simp only [SQ0, ↓reduceIte, h_b]
    exact ⟨rfl, rfl, hov⟩
   | some ys_b =>
    refine cmo ((she c HL0 g).expr _ (xs ++ ys_a ++ [⟨#[61]⟩]) _ (kidN n 1) _ _ true (by omega) (kid_nums (by omega) hn) HS4.out HT1.out (by (try simp only [List.length_append, List.length_cons, List.length_nil]); omega)) ?_
    rw [h_b]
    rintro e9 w4 ⟨rfl, hss⟩
    have HS5 := hid (hss)
    clear HS4
    clear hss
    have HR3 := hid (by have h9 := HR2.out; rw [h_b] at h9; exact h9)
    clear HR2
    have hlb := (mostE g).expr (kidN n 1) true _ h_b
    go_wp2_with fail
    refine cmo (put_calls c _ (xs ++ ys_a ++ [⟨#[61]⟩] ++ ys_b) [⟨#[59]⟩] _ _ 1 (strs_read (by simp) (heap_alloc_new _ _)) (HS5.out.alloc _) (by (try simp only [List.length_append, List.length_cons, List.length_nil]); omega)) ?_
    rintro e9 w5 ⟨rfl, hss⟩
    have HS6 := hid (hss.drop)
    clear HS5
    clear hss
    go_wp2_with fail
    have hys := HR3.out
    try simp only [SQ0, ↓reduceIte] at hys
    subst hys
    exact bodyPost_end (v := .tuple #[]) (by simp [results, Tryz.results67]) rfl ⟨rfl, by have h9 := HS6.out.drop; simpa only [List.append_assoc, List.append_nil, List.nil_append, List.cons_append] using h9⟩
set_option maxRecDepth 20000 in
set_option maxHeartbeats 1600000 in
theorem shst_result (c : SC) (HL0 : LaidP c.W) (g : Nat) (IH : ShS c g) (w : World) (xs : List ByteArray) (hs : List (Nat × Obj)) (n : Node) (A : Option Addr) (cap : Nat) (k_if : (n.kind.toList == [105, 102]) = false) (k_while : (n.kind.toList == [119, 104, 105, 108, 101]) = false) (k_local : (n.kind.toList == [108, 111, 99, 97, 108]) = false) (k_assign : (n.kind.toList == [97, 115, 115, 105, 103, 110]) = false) (k_result : (n.kind.toList == [114, 101, 115, 117, 108, 116]) = true) (k_nondet : (n.kind.toList == [110, 111, 110, 100, 101, 116]) = false) (k_return : (n.kind.toList == [114, 101, 116, 117, 114, 110]) = false) (k_assert : (n.kind.toList == [97, 115, 115, 101, 114, 116]) = false) (k_assume : (n.kind.toList == [97, 115, 115, 117, 109, 101]) = false) (hd : 3 * depthN n ≤ g + 2) (hn : numsOk n = true) (h : SS c w xs hs) (ht : Tr c.W (.slice A n.kids.length cap) n.kids) (hl : xs.length + 10 * nodesN n ≤ 1000000000) (r : Out) (hr : r = sq ((if plainB n n.kind 2 false false then sq (targetS g (kidN n 0)) (sq (some [⟨#[61]⟩]) (callS g (kidN n 1))) else none)) (some [⟨#[59]⟩])) : Calls Tryz.prog 67 #[.pointer (some ⟨c.p, 0, none⟩), nodeV n (.slice A n.kids.length cap)] w (PostS c xs r hs) := by
 have HL := hid HL0.v
 have HLP := hid HL0
 have HTR := hid ht
 have HR0 := hid hr
 clear hr ht
 have hnp := nodesN_pos n
 have hne := nodesN_eq n
 have hlk := len_nodesL n.kids
 have hkl0 : (0 : Int) ≤ (n.kids.length : Int) := by omega
 unfold nodeV
 have hlt := h.lt
 have HS0 := hid h
 clear h
 go_enter Tryz.func67, Tryz.ntmps67
 have HS1 := hid (HS0.out.alloc (.cells #[.string n.kind, .string n.text, .int .u64 n.num, .int .i64 n.line, .int .i64 n.col, .slice A n.kids.length cap] 26))
 go_wp2_with fail
 cases bp : plainB n n.kind 2 false false
 ·
  refine cmo (plain_calls _ _ _ _ _ _ _ _) ?_
  rintro e9 w1 ⟨hov, rfl⟩
  rw [bp]
  have HS2 := hid (HS1.out.isOv hov)
  clear HS1
  clear hov
  obtain rfl : r = none := by rw [HR0.out]; simp only [bp, SQ0, ↓reduceIte]
  exact ⟨rfl, rfl, HS2.out.ov⟩
 ·
  refine cmo (plain_calls _ _ _ _ _ _ _ _) ?_
  rintro e9 w1 ⟨hov, rfl⟩
  rw [bp]
  have HS2 := hid (HS1.out.isOv hov)
  clear HS1
  clear hov
  have hzb1 : w.heap.size < w1.heap.size := lt_of_heap HS2.out.h0
  obtain ⟨n0, n1, n2, n3, n4, n5, nf⟩ := cells6 HS2.out.h0
  have hkl : (n.kids.length : Int) = 2 := plainB_len bp
  have hkn := nodes2 (n := n) (by omega)
  have hkd0 := kid_depth (n := n) (i := 0) (by omega)
  have hknp0 := nodesN_pos (kidN n 0)
  have hkd1 := kid_depth (n := n) (i := 1) (by omega)
  have hknp1 := nodesN_pos (kidN n 1)
  obtain ⟨gk0, Ak0, ck0, hA0, hg0, q0, q1, q2, q3, q4, q5, HTr0⟩ := kid_at HTR.out HS2.out.ov 0 (by omega)
  have HT0 := hid HTr0
  clear HTr0
  subst hA0
  have p0 : w1.cell? ⟨gk0, 0, none⟩ = _ := q0
  have p1 : w1.cell? ⟨gk0, 1, none⟩ = _ := q1
  have p2 : w1.cell? ⟨gk0, 2, none⟩ = _ := q2
  have p3 : w1.cell? ⟨gk0, 3, none⟩ = _ := q3
  have p4 : w1.cell? ⟨gk0, 4, none⟩ = _ := q4
  have p5 : w1.cell? ⟨gk0, 5, none⟩ = _ := q5
  clear q0 q1 q2 q3 q4 q5
  have hkl0 : (0 : Int) ≤ (n.kids.length : Int) := by omega
  go_wp2_with fail
  clear p0 p1 p2 p3 p4 p5
  have HR1 : Hid (r = sq (sq (targetS g (kidN n 0)) (sq (some [⟨#[61]⟩]) (callS g (kidN n 1)))) (some [⟨#[59]⟩])) := hid (by rw [HR0.out]; simp only [bp, SQ0, ↓reduceIte])
  clear HR0
  cases h_a : targetS g (kidN n 0) with
  | none =>
   refine cmo ((she c HL0 g).target _ (xs) _ (kidN n 0) _ _ (by omega) (kid_nums (by omega) hn) HS2.out HT0.out (by (try simp only [List.length_append, List.length_cons, List.length_nil]); omega)) ?_
   rw [h_a]
   rintro e9 w99 ⟨rfl, hov⟩
   obtain rfl : r = none := by rw [HR1.out]; simp only [SQ0, ↓reduceIte, h_a]
   exact ⟨rfl, rfl, hov⟩
  | some ys_a =>
   refine cmo ((she c HL0 g).target _ (xs) _ (kidN n 0) _ _ (by omega) (kid_nums (by omega) hn) HS2.out HT0.out (by (try simp only [List.length_append, List.length_cons, List.length_nil]); omega)) ?_
   rw [h_a]
   rintro e9 w2 ⟨rfl, hss⟩
   have HS3 := hid (hss)
   clear HS2
   clear hss
   have HR2 := hid (by have h9 := HR1.out; rw [h_a] at h9; exact h9)
   clear HR1
   have hla := (mostE g).target (kidN n 0) _ h_a
   go_wp2_with fail
   refine cmo (put_calls c _ (xs ++ ys_a) [⟨#[61]⟩] _ _ 1 (strs_read (by simp) (heap_alloc_new _ _)) (HS3.out.alloc _) (by (try simp only [List.length_append, List.length_cons, List.length_nil]); omega)) ?_
   rintro e9 w3 ⟨rfl, hss⟩
   have HS4 := hid (hss.drop)
   clear HS3
   clear hss
   have hzb3 : w.heap.size < w3.heap.size := lt_of_heap HS4.out.h0
   clear n0 n1 n2 n3 n4 n5 nf
   obtain ⟨n0, n1, n2, n3, n4, n5, nf⟩ := cells6 HS4.out.h0
   obtain ⟨gk1, Ak1, ck1, hA1, hg1, q0, q1, q2, q3, q4, q5, HTr1⟩ := kid_at HTR.out HS4.out.ov 1 (by omega)
   have HT1 := hid HTr1
   clear HTr1
   obtain rfl : gk0 = gk1 := by have := Option.some.inj hA1; exact congrArg Addr.block this
   have p0 : w3.cell? ⟨gk0, 6, none⟩ = _ := q0
   have p1 : w3.cell? ⟨gk0, 7, none⟩ = _ := q1
   have p2 : w3.cell? ⟨gk0, 8, none⟩ = _ := q2
   have p3 : w3.cell? ⟨gk0, 9, none⟩ = _ := q3
   have p4 : w3.cell? ⟨gk0, 10, none⟩ = _ := q4
   have p5 : w3.cell? ⟨gk0, 11, none⟩ = _ := q5
   clear q0 q1 q2 q3 q4 q5
   have hkl0 : (0 : Int) ≤ (n.kids.length : Int) := by omega
   go_wp2_with fail
   clear p0 p1 p2 p3 p4 p5
   cases h_b : callS g (kidN n 1) with
   | none =>
    refine cmo (call_shows c HL0 g _ (xs ++ ys_a ++ [⟨#[61]⟩]) _ (kidN n 1) _ _ (by omega) (kid_nums (by omega) hn) HS4.out HT1.out (by (try simp only [List.length_append, List.length_cons, List.length_nil]); omega) _ rfl) ?_
    rw [h_b]
    rintro e9 w99 ⟨rfl, hov⟩
    obtain rfl : r = none := by rw [HR2.out]; simp only [SQ0, ↓reduceIte, h_b]
    exact ⟨rfl, rfl, hov⟩
   | some ys_b =>
    refine cmo (call_shows c HL0 g _ (xs ++ ys_a ++ [⟨#[61]⟩]) _ (kidN n 1) _ _ (by omega) (kid_nums (by omega) hn) HS4.out HT1.out (by (try simp only [List.length_append, List.length_cons, List.length_nil]); omega) _ rfl) ?_
    rw [h_b]
    rintro e9 w4 ⟨rfl, hss⟩
    have HS5 := hid (hss)
    clear HS4
    clear hss
    have HR3 := hid (by have h9 := HR2.out; rw [h_b] at h9; exact h9)
    clear HR2
    have hlb := call_most g (kidN n 1) _ h_b
    go_wp2_with fail
    refine cmo (put_calls c _ (xs ++ ys_a ++ [⟨#[61]⟩] ++ ys_b) [⟨#[59]⟩] _ _ 1 (strs_read (by simp) (heap_alloc_new _ _)) (HS5.out.alloc _) (by (try simp only [List.length_append, List.length_cons, List.length_nil]); omega)) ?_
    rintro e9 w5 ⟨rfl, hss⟩
    have HS6 := hid (hss.drop)
    clear HS5
    clear hss
    go_wp2_with fail
    have hys := HR3.out
    try simp only [SQ0, ↓reduceIte] at hys
    subst hys
    exact bodyPost_end (v := .tuple #[]) (by simp [results, Tryz.results67]) rfl ⟨rfl, by have h9 := HS6.out.drop; simpa only [List.append_assoc, List.append_nil, List.nil_append, List.cons_append] using h9⟩
end Go.Proofs.YtdimhoilfopndaaGreatDoor
end
section
namespace Go.Proofs.YtdimhoilfopndaaGreatDoor
open Go.RowKit Go.Proofs.YtdimhoilfopndaaGreatDoorW.PrintWords
set_option maxRecDepth 20000 in
set_option maxHeartbeats 1600000 in
theorem shst_nondet (c : SC) (HL0 : LaidP c.W) (g : Nat) (IH : ShS c g) (w : World) (xs : List ByteArray) (hs : List (Nat × Obj)) (n : Node) (A : Option Addr) (cap : Nat) (k_if : (n.kind.toList == [105, 102]) = false) (k_while : (n.kind.toList == [119, 104, 105, 108, 101]) = false) (k_local : (n.kind.toList == [108, 111, 99, 97, 108]) = false) (k_assign : (n.kind.toList == [97, 115, 115, 105, 103, 110]) = false) (k_result : (n.kind.toList == [114, 101, 115, 117, 108, 116]) = false) (k_nondet : (n.kind.toList == [110, 111, 110, 100, 101, 116]) = true) (k_return : (n.kind.toList == [114, 101, 116, 117, 114, 110]) = false) (k_assert : (n.kind.toList == [97, 115, 115, 101, 114, 116]) = false) (k_assume : (n.kind.toList == [97, 115, 115, 117, 109, 101]) = false) (hd : 3 * depthN n ≤ g + 2) (hn : numsOk n = true) (h : SS c w xs hs) (ht : Tr c.W (.slice A n.kids.length cap) n.kids) (hl : xs.length + 10 * nodesN n ≤ 1000000000) (r : Out) (hr : r = sq ((if plainB n ⟨#[110, 111, 110, 100, 101, 116]⟩ 1 false false then sq (targetS g (kidN n 0)) (some [⟨#[61]⟩, ⟨#[110, 111, 110, 100, 101, 116]⟩, ⟨#[40]⟩, ⟨#[41]⟩]) else none)) (some [⟨#[59]⟩])) : Calls Tryz.prog 67 #[.pointer (some ⟨c.p, 0, none⟩), nodeV n (.slice A n.kids.length cap)] w (PostS c xs r hs) := by
 have HL := hid HL0.v
 have HLP := hid HL0
 have HTR := hid ht
 have HR0 := hid hr
 clear hr ht
 have hnp := nodesN_pos n
 have hne := nodesN_eq n
 have hlk := len_nodesL n.kids
 have hkl0 : (0 : Int) ≤ (n.kids.length : Int) := by omega
 unfold nodeV
 have hlt := h.lt
 have HS0 := hid h
 clear h
 go_enter Tryz.func67, Tryz.ntmps67
 have HS1 := hid (HS0.out.alloc (.cells #[.string n.kind, .string n.text, .int .u64 n.num, .int .i64 n.line, .int .i64 n.col, .slice A n.kids.length cap] 26))
 go_wp2_with fail
 cases bp : plainB n ⟨#[110, 111, 110, 100, 101, 116]⟩ 1 false false
 ·
  refine cmo (plain_calls _ _ _ _ _ _ _ _) ?_
  rintro e9 w1 ⟨hov, rfl⟩
  rw [bp]
  have HS2 := hid (HS1.out.isOv hov)
  clear HS1
  clear hov
  obtain rfl : r = none := by rw [HR0.out]; simp only [bp, SQ0, ↓reduceIte]
  exact ⟨rfl, rfl, HS2.out.ov⟩
 ·
  refine cmo (plain_calls _ _ _ _ _ _ _ _) ?_
  rintro e9 w1 ⟨hov, rfl⟩
  rw [bp]
  have HS2 := hid (HS1.out.isOv hov)
  clear HS1
  clear hov
  have hzb1 : w.heap.size < w1.heap.size := lt_of_heap HS2.out.h0
  obtain ⟨n0, n1, n2, n3, n4, n5, nf⟩ := cells6 HS2.out.h0
  have hkl : (n.kids.length : Int) = 1 := plainB_len bp
  have hkn := nodes1 (n := n) (by omega)
  have hkd0 := kid_depth (n := n) (i := 0) (by omega)
  have hknp0 := nodesN_pos (kidN n 0)
  obtain ⟨gk0, Ak0, ck0, hA0, hg0, q0, q1, q2, q3, q4, q5, HTr0⟩ := kid_at HTR.out HS2.out.ov 0 (by omega)
  have HT0 := hid HTr0
  clear HTr0
  subst hA0
  have p0 : w1.cell? ⟨gk0, 0, none⟩ = _ := q0
  have p1 : w1.cell? ⟨gk0, 1, none⟩ = _ := q1
  have p2 : w1.cell? ⟨gk0, 2, none⟩ = _ := q2
  have p3 : w1.cell? ⟨gk0, 3, none⟩ = _ := q3
  have p4 : w1.cell? ⟨gk0, 4, none⟩ = _ := q4
  have p5 : w1.cell? ⟨gk0, 5, none⟩ = _ := q5
  clear q0 q1 q2 q3 q4 q5
  have hkl0 : (0 : Int) ≤ (n.kids.length : Int) := by omega
  go_wp2_with fail
  clear p0 p1 p2 p3 p4 p5
  have HR1 : Hid (r = sq (sq (targetS g (kidN n 0)) (some [⟨#[61]⟩, ⟨#[110, 111, 110, 100, 101, 116]⟩, ⟨#[40]⟩, ⟨#[41]⟩])) (some [⟨#[59]⟩])) := hid (by rw [HR0.out]; simp only [bp, SQ0, ↓reduceIte])
  clear HR0
  cases h_a : targetS g (kidN n 0) with
  | none =>
   refine cmo ((she c HL0 g).target _ (xs) _ (kidN n 0) _ _ (by omega) (kid_nums (by omega) hn) HS2.out HT0.out (by (try simp only [List.length_append, List.length_cons, List.length_nil]); omega)) ?_
   rw [h_a]
   rintro e9 w99 ⟨rfl, hov⟩
   obtain rfl : r = none := by rw [HR1.out]; simp only [SQ0, ↓reduceIte, h_a]
   exact ⟨rfl, rfl, hov⟩
  | some ys_a =>
   refine cmo ((she c HL0 g).target _ (xs) _ (kidN n 0) _ _ (by omega) (kid_nums (by omega) hn) HS2.out HT0.out (by (try simp only [List.length_append, List.length_cons, List.length_nil]); omega)) ?_
   rw [h_a]
   rintro e9 w2 ⟨rfl, hss⟩
   have HS3 := hid (hss)
   clear HS2
   clear hss
   have HR2 := hid (by have h9 := HR1.out; rw [h_a] at h9; exact h9)
   clear HR1
   have hla := (mostE g).target (kidN n 0) _ h_a
   go_wp2_with fail
   refine cmo (put_calls c _ (xs ++ ys_a) [⟨#[61]⟩, ⟨#[110, 111, 110, 100, 101, 116]⟩, ⟨#[40]⟩, ⟨#[41]⟩] _ _ 4 (strs_read (by simp) (heap_alloc_new _ _)) (HS3.out.alloc _) (by (try simp only [List.length_append, List.length_cons, List.length_nil]); omega)) ?_
   rintro e9 w3 ⟨rfl, hss⟩
   have HS4 := hid (hss.drop)
   clear HS3
   clear hss
   go_wp2_with fail
   refine cmo (put_calls c _ (xs ++ ys_a ++ [⟨#[61]⟩, ⟨#[110, 111, 110, 100, 101, 116]⟩, ⟨#[40]⟩, ⟨#[41]⟩]) [⟨#[59]⟩] _ _ 1 (strs_read (by simp) (heap_alloc_new _ _)) (HS4.out.alloc _) (by (try simp only [List.length_append, List.length_cons, List.length_nil]); omega)) ?_
   rintro e9 w4 ⟨rfl, hss⟩
   have HS5 := hid (hss.drop)
   clear HS4
   clear hss
   go_wp2_with fail
   have hys := HR2.out
   try simp only [SQ0, ↓reduceIte] at hys
   subst hys
   exact bodyPost_end (v := .tuple #[]) (by simp [results, Tryz.results67]) rfl ⟨rfl, by have h9 := HS5.out.drop; simpa only [List.append_assoc, List.append_nil, List.nil_append, List.cons_append] using h9⟩
set_option maxRecDepth 20000 in
set_option maxHeartbeats 1600000 in
theorem shst_assert (c : SC) (HL0 : LaidP c.W) (g : Nat) (IH : ShS c g) (w : World) (xs : List ByteArray) (hs : List (Nat × Obj)) (n : Node) (A : Option Addr) (cap : Nat) (k_if : (n.kind.toList == [105, 102]) = false) (k_while : (n.kind.toList == [119, 104, 105, 108, 101]) = false) (k_local : (n.kind.toList == [108, 111, 99, 97, 108]) = false) (k_assign : (n.kind.toList == [97, 115, 115, 105, 103, 110]) = false) (k_result : (n.kind.toList == [114, 101, 115, 117, 108, 116]) = false) (k_nondet : (n.kind.toList == [110, 111, 110, 100, 101, 116]) = false) (k_return : (n.kind.toList == [114, 101, 116, 117, 114, 110]) = false) (k_assert : (n.kind.toList == [97, 115, 115, 101, 114, 116]) = true) (k_assume : (n.kind.toList == [97, 115, 115, 117, 109, 101]) = false) (hd : 3 * depthN n ≤ g + 2) (hn : numsOk n = true) (h : SS c w xs hs) (ht : Tr c.W (.slice A n.kids.length cap) n.kids) (hl : xs.length + 10 * nodesN n ≤ 1000000000) (r : Out) (hr : r = sq ((if plainB n n.kind 1 false false then sq (some [n.kind, ⟨#[40]⟩]) (sq (exprS g (kidN n 0) true) (some [⟨#[41]⟩])) else none)) (some [⟨#[59]⟩])) : Calls Tryz.prog 67 #[.pointer (some ⟨c.p, 0, none⟩), nodeV n (.slice A n.kids.length cap)] w (PostS c xs r hs) := by
 have HL := hid HL0.v
 have HLP := hid HL0
 have HTR := hid ht
 have HR0 := hid hr
 clear hr ht
 have hnp := nodesN_pos n
 have hne := nodesN_eq n
 have hlk := len_nodesL n.kids
 have hkl0 : (0 : Int) ≤ (n.kids.length : Int) := by omega
 unfold nodeV
 have hlt := h.lt
 have HS0 := hid h
 clear h
 go_enter Tryz.func67, Tryz.ntmps67
 have HS1 := hid (HS0.out.alloc (.cells #[.string n.kind, .string n.text, .int .u64 n.num, .int .i64 n.line, .int .i64 n.col, .slice A n.kids.length cap] 26))
 go_wp2_with fail
 cases bp : plainB n n.kind 1 false false
 ·
  refine cmo (plain_calls _ _ _ _ _ _ _ _) ?_
  rintro e9 w1 ⟨hov, rfl⟩
  rw [bp]
  have HS2 := hid (HS1.out.isOv hov)
  clear HS1
  clear hov
  obtain rfl : r = none := by rw [HR0.out]; simp only [bp, SQ0, ↓reduceIte]
  exact ⟨rfl, rfl, HS2.out.ov⟩
 ·
  refine cmo (plain_calls _ _ _ _ _ _ _ _) ?_
  rintro e9 w1 ⟨hov, rfl⟩
  rw [bp]
  have HS2 := hid (HS1.out.isOv hov)
  clear HS1
  clear hov
  have hzb1 : w.heap.size < w1.heap.size := lt_of_heap HS2.out.h0
  obtain ⟨n0, n1, n2, n3, n4, n5, nf⟩ := cells6 HS2.out.h0
  have hkl : (n.kids.length : Int) = 1 := plainB_len bp
  have hkn := nodes1 (n := n) (by omega)
  have hkd0 := kid_depth (n := n) (i := 0) (by omega)
  have hknp0 := nodesN_pos (kidN n 0)
  go_wp2_with fail
  have HR1 : Hid (r = sq (sq (some [n.kind, ⟨#[40]⟩]) (sq (exprS g (kidN n 0) true) (some [⟨#[41]⟩]))) (some [⟨#[59]⟩])) := hid (by rw [HR0.out]; simp only [bp, SQ0, ↓reduceIte])
  clear HR0
  refine cmo (put_calls c _ (xs) [n.kind, ⟨#[40]⟩] _ _ 2 (strs_read (by simp) (heap_alloc_new _ _)) (HS2.out.alloc _) (by (try simp only [List.length_append, List.length_cons, List.length_nil]); omega)) ?_
  rintro e9 w2 ⟨rfl, hss⟩
  have HS3 := hid (hss.drop)
  clear HS2
  clear hss
  have hzb2 : w.heap.size < w2.heap.size := lt_of_heap HS3.out.h0
  clear n0 n1 n2 n3 n4 n5 nf
  obtain ⟨n0, n1, n2, n3, n4, n5, nf⟩ := cells6 HS3.out.h0
  obtain ⟨gk0, Ak0, ck0, hA0, hg0, q0, q1, q2, q3, q4, q5, HTr0⟩ := kid_at HTR.out HS3.out.ov 0 (by omega)
  have HT0 := hid HTr0
  clear HTr0
  subst hA0
  have p0 : w2.cell? ⟨gk0, 0, none⟩ = _ := q0
  have p1 : w2.cell? ⟨gk0, 1, none⟩ = _ := q1
  have p2 : w2.cell? ⟨gk0, 2, none⟩ = _ := q2
  have p3 : w2.cell? ⟨gk0, 3, none⟩ = _ := q3
  have p4 : w2.cell? ⟨gk0, 4, none⟩ = _ := q4
  have p5 : w2.cell? ⟨gk0, 5, none⟩ = _ := q5
  clear q0 q1 q2 q3 q4 q5
  have hkl0 : (0 : Int) ≤ (n.kids.length : Int) := by omega
  go_wp2_with fail
  clear p0 p1 p2 p3 p4 p5
  cases h_a : exprS g (kidN n 0) true with
  | none =>
   refine cmo ((she c HL0 g).expr _ (xs ++ [n.kind, ⟨#[40]⟩]) _ (kidN n 0) _ _ true (by omega) (kid_nums (by omega) hn) HS3.out HT0.out (by (try simp only [List.length_append, List.length_cons, List.length_nil]); omega)) ?_
   rw [h_a]
   rintro e9 w99 ⟨rfl, hov⟩
   obtain rfl : r = none := by rw [HR1.out]; simp only [SQ0, ↓reduceIte, h_a]
   exact ⟨rfl, rfl, hov⟩
  | some ys_a =>
   refine cmo ((she c HL0 g).expr _ (xs ++ [n.kind, ⟨#[40]⟩]) _ (kidN n 0) _ _ true (by omega) (kid_nums (by omega) hn) HS3.out HT0.out (by (try simp only [List.length_append, List.length_cons, List.length_nil]); omega)) ?_
   rw [h_a]
   rintro e9 w3 ⟨rfl, hss⟩
   have HS4 := hid (hss)
   clear HS3
   clear hss
   have HR2 := hid (by have h9 := HR1.out; rw [h_a] at h9; exact h9)
   clear HR1
   have hla := (mostE g).expr (kidN n 0) true _ h_a
   go_wp2_with fail
   refine cmo (put_calls c _ (xs ++ [n.kind, ⟨#[40]⟩] ++ ys_a) [⟨#[41]⟩] _ _ 1 (strs_read (by simp) (heap_alloc_new _ _)) (HS4.out.alloc _) (by (try simp only [List.length_append, List.length_cons, List.length_nil]); omega)) ?_
   rintro e9 w4 ⟨rfl, hss⟩
   have HS5 := hid (hss.drop)
   clear HS4
   clear hss
   go_wp2_with fail
   refine cmo (put_calls c _ (xs ++ [n.kind, ⟨#[40]⟩] ++ ys_a ++ [⟨#[41]⟩]) [⟨#[59]⟩] _ _ 1 (strs_read (by simp) (heap_alloc_new _ _)) (HS5.out.alloc _) (by (try simp only [List.length_append, List.length_cons, List.length_nil]); omega)) ?_
   rintro e9 w5 ⟨rfl, hss⟩
   have HS6 := hid (hss.drop)
   clear HS5
   clear hss
   go_wp2_with fail
   have hys := HR2.out
   try simp only [SQ0, ↓reduceIte] at hys
   subst hys
   exact bodyPost_end (v := .tuple #[]) (by simp [results, Tryz.results67]) rfl ⟨rfl, by have h9 := HS6.out.drop; simpa only [List.append_assoc, List.append_nil, List.nil_append, List.cons_append] using h9⟩
set_option maxRecDepth 20000 in
set_option maxHeartbeats 1600000 in
theorem shst_assume (c : SC) (HL0 : LaidP c.W) (g : Nat) (IH : ShS c g) (w : World) (xs : List ByteArray) (hs : List (Nat × Obj)) (n : Node) (A : Option Addr) (cap : Nat) (k_if : (n.kind.toList == [105, 102]) = false) (k_while : (n.kind.toList == [119, 104, 105, 108, 101]) = false) (k_local : (n.kind.toList == [108, 111, 99, 97, 108]) = false) (k_assign : (n.kind.toList == [97, 115, 115, 105, 103, 110]) = false) (k_result : (n.kind.toList == [114, 101, 115, 117, 108, 116]) = false) (k_nondet : (n.kind.toList == [110, 111, 110, 100, 101, 116]) = false) (k_return : (n.kind.toList == [114, 101, 116, 117, 114, 110]) = false) (k_assert : (n.kind.toList == [97, 115, 115, 101, 114, 116]) = false) (k_assume : (n.kind.toList == [97, 115, 115, 117, 109, 101]) = true) (hd : 3 * depthN n ≤ g + 2) (hn : numsOk n = true) (h : SS c w xs hs) (ht : Tr c.W (.slice A n.kids.length cap) n.kids) (hl : xs.length + 10 * nodesN n ≤ 1000000000) (r : Out) (hr : r = sq ((if plainB n n.kind 1 false false then sq (some [n.kind, ⟨#[40]⟩]) (sq (exprS g (kidN n 0) true) (some [⟨#[41]⟩])) else none)) (some [⟨#[59]⟩])) : Calls Tryz.prog 67 #[.pointer (some ⟨c.p, 0, none⟩), nodeV n (.slice A n.kids.length cap)] w (PostS c xs r hs) := by
 have HL := hid HL0.v
 have HLP := hid HL0
 have HTR := hid ht
 have HR0 := hid hr
 clear hr ht
 have hnp := nodesN_pos n
 have hne := nodesN_eq n
 have hlk := len_nodesL n.kids
 have hkl0 : (0 : Int) ≤ (n.kids.length : Int) := by omega
 unfold nodeV
 have hlt := h.lt
 have HS0 := hid h
 clear h
 go_enter Tryz.func67, Tryz.ntmps67
 have HS1 := hid (HS0.out.alloc (.cells #[.string n.kind, .string n.text, .int .u64 n.num, .int .i64 n.line, .int .i64 n.col, .slice A n.kids.length cap] 26))
 go_wp2_with fail
 cases bp : plainB n n.kind 1 false false
 ·
  refine cmo (plain_calls _ _ _ _ _ _ _ _) ?_
  rintro e9 w1 ⟨hov, rfl⟩
  rw [bp]
  have HS2 := hid (HS1.out.isOv hov)
  clear HS1
  clear hov
  obtain rfl : r = none := by rw [HR0.out]; simp only [bp, SQ0, ↓reduceIte]
  exact ⟨rfl, rfl, HS2.out.ov⟩
 ·
  refine cmo (plain_calls _ _ _ _ _ _ _ _) ?_
  rintro e9 w1 ⟨hov, rfl⟩
  rw [bp]
  have HS2 := hid (HS1.out.isOv hov)
  clear HS1
  clear hov
  have hzb1 : w.heap.size < w1.heap.size := lt_of_heap HS2.out.h0
  obtain ⟨n0, n1, n2, n3, n4, n5, nf⟩ := cells6 HS2.out.h0
  have hkl : (n.kids.length : Int) = 1 := plainB_len bp
  have hkn := nodes1 (n := n) (by omega)
  have hkd0 := kid_depth (n := n) (i := 0) (by omega)
  have hknp0 := nodesN_pos (kidN n 0)
  go_wp2_with fail
  have HR1 : Hid (r = sq (sq (some [n.kind, ⟨#[40]⟩]) (sq (exprS g (kidN n 0) true) (some [⟨#[41]⟩]))) (some [⟨#[59]⟩])) := hid (by rw [HR0.out]; simp only [bp, SQ0, ↓reduceIte])
  clear HR0
  refine cmo (put_calls c _ (xs) [n.kind, ⟨#[40]⟩] _ _ 2 (strs_read (by simp) (heap_alloc_new _ _)) (HS2.out.alloc _) (by (try simp only [List.length_append, List.length_cons, List.length_nil]); omega)) ?_
  rintro e9 w2 ⟨rfl, hss⟩
  have HS3 := hid (hss.drop)
  clear HS2
  clear hss
  have hzb2 : w.heap.size < w2.heap.size := lt_of_heap HS3.out.h0
  clear n0 n1 n2 n3 n4 n5 nf
  obtain ⟨n0, n1, n2, n3, n4, n5, nf⟩ := cells6 HS3.out.h0
  obtain ⟨gk0, Ak0, ck0, hA0, hg0, q0, q1, q2, q3, q4, q5, HTr0⟩ := kid_at HTR.out HS3.out.ov 0 (by omega)
  have HT0 := hid HTr0
  clear HTr0
  subst hA0
  have p0 : w2.cell? ⟨gk0, 0, none⟩ = _ := q0
  have p1 : w2.cell? ⟨gk0, 1, none⟩ = _ := q1
  have p2 : w2.cell? ⟨gk0, 2, none⟩ = _ := q2
  have p3 : w2.cell? ⟨gk0, 3, none⟩ = _ := q3
  have p4 : w2.cell? ⟨gk0, 4, none⟩ = _ := q4
  have p5 : w2.cell? ⟨gk0, 5, none⟩ = _ := q5
  clear q0 q1 q2 q3 q4 q5
  have hkl0 : (0 : Int) ≤ (n.kids.length : Int) := by omega
  go_wp2_with fail
  clear p0 p1 p2 p3 p4 p5
  cases h_a : exprS g (kidN n 0) true with
  | none =>
   refine cmo ((she c HL0 g).expr _ (xs ++ [n.kind, ⟨#[40]⟩]) _ (kidN n 0) _ _ true (by omega) (kid_nums (by omega) hn) HS3.out HT0.out (by (try simp only [List.length_append, List.length_cons, List.length_nil]); omega)) ?_
   rw [h_a]
   rintro e9 w99 ⟨rfl, hov⟩
   obtain rfl : r = none := by rw [HR1.out]; simp only [SQ0, ↓reduceIte, h_a]
   exact ⟨rfl, rfl, hov⟩
  | some ys_a =>
   refine cmo ((she c HL0 g).expr _ (xs ++ [n.kind, ⟨#[40]⟩]) _ (kidN n 0) _ _ true (by omega) (kid_nums (by omega) hn) HS3.out HT0.out (by (try simp only [List.length_append, List.length_cons, List.length_nil]); omega)) ?_
   rw [h_a]
   rintro e9 w3 ⟨rfl, hss⟩
   have HS4 := hid (hss)
   clear HS3
   clear hss
   have HR2 := hid (by have h9 := HR1.out; rw [h_a] at h9; exact h9)
   clear HR1
   have hla := (mostE g).expr (kidN n 0) true _ h_a
   go_wp2_with fail
   refine cmo (put_calls c _ (xs ++ [n.kind, ⟨#[40]⟩] ++ ys_a) [⟨#[41]⟩] _ _ 1 (strs_read (by simp) (heap_alloc_new _ _)) (HS4.out.alloc _) (by (try simp only [List.length_append, List.length_cons, List.length_nil]); omega)) ?_
   rintro e9 w4 ⟨rfl, hss⟩
   have HS5 := hid (hss.drop)
   clear HS4
   clear hss
   go_wp2_with fail
   refine cmo (put_calls c _ (xs ++ [n.kind, ⟨#[40]⟩] ++ ys_a ++ [⟨#[41]⟩]) [⟨#[59]⟩] _ _ 1 (strs_read (by simp) (heap_alloc_new _ _)) (HS5.out.alloc _) (by (try simp only [List.length_append, List.length_cons, List.length_nil]); omega)) ?_
   rintro e9 w5 ⟨rfl, hss⟩
   have HS6 := hid (hss.drop)
   clear HS5
   clear hss
   go_wp2_with fail
   have hys := HR2.out
   try simp only [SQ0, ↓reduceIte] at hys
   subst hys
   exact bodyPost_end (v := .tuple #[]) (by simp [results, Tryz.results67]) rfl ⟨rfl, by have h9 := HS6.out.drop; simpa only [List.append_assoc, List.append_nil, List.nil_append, List.cons_append] using h9⟩
set_option maxRecDepth 20000 in
set_option maxHeartbeats 1600000 in
theorem shst_return (c : SC) (HL0 : LaidP c.W) (g : Nat) (IH : ShS c g) (w : World) (xs : List ByteArray) (hs : List (Nat × Obj)) (n : Node) (A : Option Addr) (cap : Nat) (k_if : (n.kind.toList == [105, 102]) = false) (k_while : (n.kind.toList == [119, 104, 105, 108, 101]) = false) (k_local : (n.kind.toList == [108, 111, 99, 97, 108]) = false) (k_assign : (n.kind.toList == [97, 115, 115, 105, 103, 110]) = false) (k_result : (n.kind.toList == [114, 101, 115, 117, 108, 116]) = false) (k_nondet : (n.kind.toList == [110, 111, 110, 100, 101, 116]) = false) (k_return : (n.kind.toList == [114, 101, 116, 117, 114, 110]) = true) (k_assert : (n.kind.toList == [97, 115, 115, 101, 114, 116]) = false) (k_assume : (n.kind.toList == [97, 115, 115, 117, 109, 101]) = false) (hd : 3 * depthN n ≤ g + 2) (hn : numsOk n = true) (h : SS c w xs hs) (ht : Tr c.W (.slice A n.kids.length cap) n.kids) (hl : xs.length + 10 * nodesN n ≤ 1000000000) (r : Out) (hr : r = sq ((if plainB n ⟨#[114, 101, 116, 117, 114, 110]⟩ n.kids.length false false && decide (n.kids.length ≤ 1) then sq (some [⟨#[114, 101, 116, 117, 114, 110]⟩]) (each (fun k => exprS g k true) n.kids) else none)) (some [⟨#[59]⟩])) : Calls Tryz.prog 67 #[.pointer (some ⟨c.p, 0, none⟩), nodeV n (.slice A n.kids.length cap)] w (PostS c xs r hs) := by
 have HL := hid HL0.v
 have HLP := hid HL0
 have HTR := hid ht
 have HR0 := hid hr
 clear hr ht
 have hnp := nodesN_pos n
 have hne := nodesN_eq n
 have hlk := len_nodesL n.kids
 have hkl0 : (0 : Int) ≤ (n.kids.length : Int) := by omega
 unfold nodeV
 have hlt := h.lt
 have HS0 := hid h
 clear h
 go_enter Tryz.func67, Tryz.ntmps67
 have HS1 := hid (HS0.out.alloc (.cells #[.string n.kind, .string n.text, .int .u64 n.num, .int .i64 n.line, .int .i64 n.col, .slice A n.kids.length cap] 26))
 go_wp2_with fail
 cases bp : plainB n ⟨#[114, 101, 116, 117, 114, 110]⟩ n.kids.length false false
 ·
  refine cmo (plain_calls _ _ _ _ _ _ _ _) ?_
  rintro e9 w1 ⟨hov, rfl⟩
  rw [bp]
  have HS2 := hid (HS1.out.isOv hov)
  clear HS1
  clear hov
  obtain rfl : r = none := by rw [HR0.out]; simp only [bp, SQ0, ↓reduceIte]
  exact ⟨rfl, rfl, HS2.out.ov⟩
 ·
  refine cmo (plain_calls _ _ _ _ _ _ _ _) ?_
  rintro e9 w1 ⟨hov, rfl⟩
  rw [bp]
  have HS2 := hid (HS1.out.isOv hov)
  clear HS1
  clear hov
  have hzb1 : w.heap.size < w1.heap.size := lt_of_heap HS2.out.h0
  obtain ⟨n0, n1, n2, n3, n4, n5, nf⟩ := cells6 HS2.out.h0
  cases hk1 : decide (n.kids.length ≤ 1)
  ·
   have hk1n : ¬ n.kids.length ≤ 1 := by simpa using hk1
   have hk1b : decide ((n.kids.length : Int) ≤ 1) = false := decide_eq_false (by omega)
   go_wp2_with fail
   refine cmo (must_calls false _) ?_
   rintro e9 w99 ⟨hw9, rfl⟩
   obtain rfl := hw9.symm
   clear hw9
   obtain rfl : r = none := by rw [HR0.out]; simp only [bp, hk1, SQ0, ↓reduceIte]
   exact ⟨rfl, rfl, HS2.out.ov⟩
  ·
   have hk1n : n.kids.length ≤ 1 := by simpa using hk1
   have hk1b : decide ((n.kids.length : Int) ≤ 1) = true := decide_eq_true (by omega)
   go_wp2_with fail
   refine cmo (must_calls true _) ?_
   rintro e9 w99 ⟨hw9, rfl⟩
   obtain rfl := hw9.symm
   clear hw9
   go_wp2_with fail
   refine cmo (put_calls c _ (xs) [⟨#[114, 101, 116, 117, 114, 110]⟩] _ _ 1 (strs_read (by simp) (heap_alloc_new _ _)) (HS2.out.alloc _) (by (try simp only [List.length_append, List.length_cons, List.length_nil]); omega)) ?_
   rintro e9 w2 ⟨rfl, hss⟩
   have HS3 := hid (hss.drop)
   clear HS2
   clear hss
   have hzb2 : w.heap.size < w2.heap.size := lt_of_heap HS3.out.h0
   clear n0 n1 n2 n3 n4 n5 nf
   obtain ⟨n0, n1, n2, n3, n4, n5, nf⟩ := cells6 HS3.out.h0
   go_wp2_with fail
   clear n0 n1 n2 n3 n4 n5 nf
   have HRL : Hid (r = sq (some [⟨#[114, 101, 116, 117, 114, 110]⟩]) (sq (each (fun k => exprS g k true) n.kids) (some [⟨#[59]⟩]))) := hid (by rw [HR0.out]; simp only [bp, hk1, SQ0, ↓reduceIte]; rw [sq_assoc])
   have HSL := HS3
   have HPL : ([⟨#[114, 101, 116, 117, 114, 110]⟩] : List ByteArray).length + 10 * nodesL n.kids + 8 ≤ 10 * nodesN n := by simp only [List.length_cons, List.length_nil]; omega
   clear HR0 HS3
   go_loopg [92] (n.kids.length + 1) (fun gq b wr => ∃ (i : Nat) (pre : List ByteArray), b = .int .i64 (i : Int) ∧ i + gq = n.kids.length + 1 ∧ i ≤ n.kids.length ∧ pre.length + 10 * nodesL (n.kids.drop i) + 8 ≤ 10 * nodesN n ∧ Hid (r = sq (some pre) (sq (each (fun k => exprS g k true) (n.kids.drop i)) (some [⟨#[59]⟩]))) ∧ Hid (SS c wr (xs ++ pre) ((w.heap.size, (.cells #[.string n.kind, .string n.text, .int .u64 n.num, .int .i64 n.line, .int .i64 n.col, .slice A n.kids.length cap] 26)) :: hs)))
   case atStart => exact ⟨0, _, rfl, by omega, by omega, HPL, HRL, HSL⟩
   case round =>
    obtain ⟨i, pre, rfl, hi1, hi2, hpre, HR20, HS20⟩ := hrel
    clear HRL HSL HPL
    by_cases hi : i < n.kids.length
    ·
     have hib : (i : Int) < (n.kids.length : Int) := by omega
     have hibb : decide ((i : Int) < (n.kids.length : Int)) = true := decide_eq_true hib
     have hib0 : (0 : Int) ≤ (i : Int) := by omega
     have hkd := kid_depth hi
     have hdk := drop_kid hi
     have hnk : nodesL (n.kids.drop i) = nodesN (kidN n i) + nodesL (n.kids.drop (i + 1)) := by rw [hdk, nodesL_cons]
     have hknp := nodesN_pos (kidN n i)
     have hd1 : decide (i + 1 = 0) = false := decide_eq_false (by omega)
     have hiw : IntKind.i64.wrap ((i : Int) + 1) = (i : Int) + 1 := IntWalk.i64_in _ (by omega)
     have hwr := HS20.out.heldLt (w.heap.size, _) (List.mem_cons_self ..)
     obtain ⟨gk, Ak, ck, rfl, hgk, q0, q1, q2, q3, q4, q5, HTk⟩ := kid_at HTR.out HS20.out.ov i hi
     have HTK := hid HTk
     clear HTk
     have HR21 : Hid (r = sq (some pre) (sq (each (fun k => exprS g k true) (kidN n i :: n.kids.drop (i + 1))) (some [⟨#[59]⟩]))) := hid (by rw [← hdk]; exact HR20.out)
     clear HR20 hdk
     have HR22 : Hid (r = sq (some pre) (sq (sq (exprS g (kidN n i) true) (each (fun k => exprS g k true) (n.kids.drop (i + 1)))) (some [⟨#[59]⟩]))) := hid (by have h9 := HR21.out; rw [each_cons] at h9; exact h9)
     clear HR21
     go_wp2_with fail
     have HS21 := hid (HS20.out.alloc (.cells #[.string (kidN n i).kind, .string (kidN n i).text, .int .u64 (kidN n i).num, .int .i64 (kidN n i).line, .int .i64 (kidN n i).col, .slice Ak (kidN n i).kids.length ck] 26))
     clear HS20
     cases h_k : exprS g (kidN n i) true with
     | none =>
      refine cmo ((she c HL0 g).expr _ (xs ++ pre) _ (kidN n i) _ _ true (by omega) (kid_nums hi hn) HS21.out HTK.out (by (try simp only [List.length_append, List.length_cons, List.length_nil]); omega)) ?_
      try rw [show (exprS g (kidN n i) true) = none from h_k]
      rintro e9 w99 ⟨rfl, hov⟩
      obtain rfl : r = none := by rw [HR22.out, h_k]; simp only [sq_n, sq_sn, sq_nn]
      exact ⟨rfl, rfl, hov⟩
     | some yk =>
      refine cmo ((she c HL0 g).expr _ (xs ++ pre) _ (kidN n i) _ _ true (by omega) (kid_nums hi hn) HS21.out HTK.out (by (try simp only [List.length_append, List.length_cons, List.length_nil]); omega)) ?_
      try rw [show (exprS g (kidN n i) true) = some yk from h_k]
      rintro e9 w30 ⟨rfl, hss⟩
      have hyk := (mostE g).expr (kidN n i) true _ h_k
      have HS40 := hid hss.drop
      clear hss
      have HR40 : Hid (r = sq (some (pre ++ yk)) (sq (each (fun k => exprS g k true) (n.kids.drop (i + 1))) (some [⟨#[59]⟩]))) := hid (by rw [HR22.out, h_k]; simp only [sq_ss, sq_assoc, sq3, List.nil_append, hd1])
      go_wp2_with fail
      go_roundg (n.kids.length - i)
      case rel => exact ⟨i + 1, pre ++ yk, by push_cast; rfl, by omega, by omega, by (try simp only [List.length_append, List.length_cons, List.length_nil] at *); omega, HR40, by simpa only [List.append_assoc] using HS40⟩
      case measure => omega
    ·
     have hib : ¬ (i : Int) < (n.kids.length : Int) := by omega
     have hibb : decide ((i : Int) < (n.kids.length : Int)) = false := decide_eq_false hib
     have hwr := HS20.out.heldLt (w.heap.size, _) (List.mem_cons_self ..)
     have hnil : n.kids.drop i = [] := List.drop_eq_nil_of_le (by omega)
     have HR21 : Hid (r = sq (some pre) (some [⟨#[59]⟩])) := hid (by rw [HR20.out, hnil]; simp only [commas, each, sq_nil])
     clear HR20
     go_wp2_with fail
     refine cmo (put_calls c _ (xs ++ pre) [⟨#[59]⟩] _ _ 1 (strs_read (by simp) (heap_alloc_new _ _)) (HS20.out.alloc _) (by (try simp only [List.length_append, List.length_cons, List.length_nil]); omega)) ?_
     rintro e9 w21 ⟨rfl, hss⟩
     have HS21 := hid (hss.drop)
     clear HS20
     clear hss
     go_wp2_with fail
     have hys := HR21.out
     try simp only [SQ0, ↓reduceIte] at hys
     subst hys
     exact bodyPost_end (v := .tuple #[]) (by simp [results, Tryz.results67]) rfl ⟨rfl, by have h9 := HS21.out.drop; simpa only [List.append_assoc, List.append_nil, List.nil_append, List.cons_append] using h9⟩
end Go.Proofs.YtdimhoilfopndaaGreatDoor
end
