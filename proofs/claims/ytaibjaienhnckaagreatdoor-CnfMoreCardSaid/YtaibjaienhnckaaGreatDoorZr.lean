/- cnf.Show: clauses as a text. Conditions: all literals may be; at most 100 clauses of at most 100 literals; the table of powers lies as the program lays it. -/
import Derived.Test.YtaibjaienhnckaaGreatDoorVg
import Derived.Test.YtaibjaienhnckaaGreatDoorZj
import Derived.Test.YtaibjaienhnckaaGreatDoorZe
import Derived.Lib.LaidTab
import Derived.BarOnce
set_option linter.unusedVariables false
set_option linter.unusedSimpArgs false
namespace Go.Proofs.YtaibjaienhnckaaGreatDoor
open Go.RowKit Go.Proofs.YtaibjaienhnckaaGreatDoorW.PrintWords Go.Proofs.YtaibjaienhnckaaGreatDoorW.PrintLast Go.Proofs.YtaibjaienhnckaaGreatDoorW.PrintMore Go.Proofs.YtaibjaienhnckaaGreatDoor.PCnfFollows
/-- The variables that the walks come to. -/
structure LaidZ (w : World) : Prop where
  tab : Lib.TabIs Tryz.prog w "internal/strconv.uint64pow10" .u64 Lib.pow10Tab
  ml : ∃ m : Int, w.cell? ⟨0, 0, none⟩ = some (.int .i64 m)
theorem LaidZ.of_isOv {w w' : World} (h : LaidZ w) (hb : IsOv w w') : LaidZ w' := by
  refine ⟨?_, ?_⟩
  · obtain ⟨x, rfl⟩ := hb
    exact World.var?_append (bs := x.blocks) rfl h.tab
  · obtain ⟨m, hm⟩ := h.ml
    exact ⟨m, hb.cell hm⟩
theorem isBuilderF_isOv {T e : TypeId} {B b : Nat} {bs : List Value} {w w' : World} (h : Lib.IsBuilderF T e B b bs w) (hb : IsOv w w') : Lib.IsBuilderF T e B b bs w' := by
  have key : ∀ p, Lib.BuilderAtF T e B b p bs w → Lib.BuilderAtF T e B b p bs w' := by
    rintro p ⟨h1, v, h2, h3, h4⟩
    refine ⟨h1, v, hb.heap h2, ⟨h3.1, ?_⟩, h4⟩
    rcases h3.2 with h5 | ⟨g, cap, cur, fz, h5, h6, h7, h8⟩
    · exact .inl h5
    · exact .inr ⟨g, cap, cur, fz, h5, h6, hb.heap h7, h8⟩
  exact h.elim (fun h => .inl (key _ h)) (fun h => .inr (key _ h))
theorem itoa_gives (n : Int) (h0 : -9223372036854775808 ≤ n) (h1 : n ≤ 9223372036854775807) (w : World) (h : LaidZ w) : Gives Tryz.prog 32 #[.int .i64 n] w (.string ⟨(Lib.itoa n).toArray⟩) := by
  refine (Tryz.strconv_Itoa n h0 h1 w h.tab).mono ?_
  rintro e w' ⟨rfl, k, os, rfl⟩
  exact ⟨rfl, ⟨⟨os, w.drawn + k⟩, rfl⟩⟩
set_option maxRecDepth 100000 in
set_option maxHeartbeats 1000000 in
theorem putS_calls (B b : Nat) (l : List UInt8) (s : ByteArray) (w : World) (h : Lib.IsBuilderF 57 5 B b (Lib.byteCells l) w) (hlen : l.length + s.size ≤ 1000000000) (hBw : B ≤ w.heap.size) :
    Calls Tryz.prog 31 #[.pointer (some ⟨b, 0, none⟩), .string s] w fun e w' => (∃ v, e = .returned v) ∧ Lib.IsBuilderF 57 5 B b (Lib.byteCells (l ++ s.data.toList)) w' ∧ Below B w w' := by
  refine (WriteString_calls B b (Lib.byteCells l) s w h (by rw [Lib.byteCells_length]; omega) hBw).mono ?_
  rintro e w' ⟨rfl, h1, h2⟩
  rw [Lib.strCells_eq, ← Lib.byteCells_append] at h1
  exact ⟨⟨_, rfl⟩, .inr h1, h2⟩
/-- A clause's text, and all clauses'. -/
def lineF (c : List Int) : List UInt8 := c.flatMap fun n => Lib.itoa n ++ [32]
def showF (l : List (List Int)) : List UInt8 := l.flatMap fun c => lineF c ++ [48, 10]
/-- The text goes on: what is written, and what is left. -/
theorem showF_cons {l : List (List Int)} {i : Nat} (h : i < l.length) : showF (l.drop i) = lineF (rd_L1 l i) ++ [48, 10] ++ showF (l.drop (i + 1)) := by
  rw [rdL_drop h]; rfl
theorem lineF_cons {c : List Int} {k : Nat} (h : k < c.length) : lineF (c.drop k) = (Lib.itoa (rd c k) ++ [32]) ++ lineF (c.drop (k + 1)) := by
  rw [rd_drop h]; rfl
def bldZ (w : World) (B : Nat) (bs : List UInt8) : Prop := Lib.IsBuilderF 57 5 B B (Lib.byteCells bs) w
set_option maxRecDepth 20000 in
set_option maxHeartbeats 1000000 in
theorem Show_calls (w : World) (A0 : Option Addr) (c0 : Nat) (l : List (List Int)) (hl : Kd.C (Kd.slice 3 (Kd.int .i64)) w A0 l.length l) (hc0 : l.length ≤ c0) (hll : l.length ≤ 100) (hcl : ∀ c ∈ l, c.length ≤ 100 ∧ ∀ n ∈ c, -9223372036854775808 ≤ n ∧ n ≤ 9223372036854775807) (hck : checkF l = true) (hsz : (showF l).length ≤ 1000000) (hZ : LaidZ w) :
    Gives Tryz.prog 19 #[.slice A0 l.length c0] w (.tuple #[.string ⟨(showF l).toArray⟩, .int .i64 0]) := by
  unfold Gives
  have HLC := Lib.hid hl
  have HCL := Lib.hid hcl
  have HCK := Lib.hid (show checkE l = 0 by unfold checkE; rw [if_pos hck])
  have HC0 := Lib.hid hc0
  clear hl hcl hck hc0
  go_enter Tryz.func19, Tryz.ntmps19
  go_wp2_with fail
  refine Calls.mono (Check_calls w A0 c0 l HLC.out HC0.out (by omega) (fun c hc => ⟨by have := (HCL.out c hc).1; omega, (HCL.out c hc).2⟩)) ?_
  rintro e w' ⟨rfl, rfl⟩
  rw [HCK.out]
  have hB0 : Hid (bldZ (w'.alloc (.cells #[.pointer none, .slice none 0 0] 57)) w'.heap.size []) := Lib.hid (.inl ⟨Nat.le_refl _, .slice none 0 0, heap_alloc_new w' _, ⟨rfl, .inl ⟨rfl, rfl⟩⟩, by simp [Value.ownBlock]⟩)
  go_wp2_with fail
  go_loopw [17] (fun iv wr => ∃ (i : Nat) (bs : List UInt8), iv = .int .i64 (i : Int) ∧ i ≤ l.length ∧ IsOv w' wr ∧ w'.heap.size < wr.heap.size ∧ Hid (bldZ wr w'.heap.size bs) ∧ Hid (bs ++ showF (l.drop i) = showF l)) (fun iv wr => (l.length - intOf iv).toNat)
  case atStart => exact ⟨0, [], rfl, Nat.zero_le _, (IsOv.refl _).alloc _, by simp [go_sem], hB0, Lib.hid rfl⟩
  case round =>
    clear hB0
    obtain ⟨i, bs, rfl, hi, hov, hsw, hB, hT⟩ := hrel
    by_cases hin : i < l.length
    · obtain ⟨ad, A9, c9, rfl, hx, hc9, hC9⟩ := at_L1 HLC.out (i : Int) (by omega) (by omega)
      have hb := HCL.out _ (rdL_mem hin)
      have hd := showF_cons hin
      rw [hd] at hT
      have hxc : wr.cell? (ad.add i) = some (Value.slice A9 (rd_L1 l i).length c9) := hov.cell hx
      clear hx hd
      generalize rd_L1 l (i : Int) = c at *
      have HC9 := Lib.hid hC9
      have HB := Lib.hid hb
      have hcl9 : c.length ≤ 100 := hb.1
      clear hC9 hb
      go_wp2_with fail
      obtain ⟨wo, hwo⟩ : ∃ u, u = wr := ⟨_, rfl⟩
      subst wr
      go_loopw [23] (fun kv wr => ∃ (k : Nat) (bs2 : List UInt8), kv = .int .i64 (k : Int) ∧ k ≤ c.length ∧ IsOv w' wr ∧ w'.heap.size < wr.heap.size ∧ Hid (bldZ wr w'.heap.size bs2) ∧ Hid (bs2 ++ (lineF (c.drop k) ++ [48, 10] ++ showF (l.drop (i + 1))) = showF l)) (fun kv wr => (c.length - intOf kv).toNat)
      case atStart => exact ⟨0, bs, rfl, Nat.zero_le _, hov, hsw, hB, hT⟩
      case round =>
        clear hB hT hov hsw hxc
        obtain ⟨k, bs2, rfl, hk, hov, hsw, hB, hT⟩ := hrel
        by_cases hkn : k < c.length
        · obtain ⟨ad2, rfl, hx⟩ := Kd.at_int (Kd.C_below HC9.out hov.below) (k : Int) (by omega) (by omega)
          have hb := HB.out.2 _ (rd_mem hkn)
          have hd := lineF_cons hkn
          rw [hd] at hT
          have hxc : wr.cell? (ad2.add k) = some (.int .i64 (rd c k)) := hx
          clear hx hd
          generalize rd c (k : Int) = n at *
          have hTL := congrArg List.length hT.out
          simp only [List.length_append, List.length_cons, List.length_nil] at hTL
          have HX : Hid ((bs2 ++ (⟨(Lib.itoa n).toArray⟩ ++ ⟨#[32]⟩ : ByteArray).data.toList) ++ (lineF (c.drop (k + 1)) ++ [48, 10] ++ showF (l.drop (i + 1))) = showF l) := Lib.hid (by
            rw [← hT.out]
            simp [ByteArray.data_append])
          have hdz : (⟨(Lib.itoa n).toArray⟩ : ByteArray).size ≤ 1000000 := by
            show (Lib.itoa n).toArray.size ≤ 1000000
            rw [List.size_toArray]; omega
          have hbl : bs2.length ≤ 1000000 := by omega
          clear hTL hT
          go_wp2_with fail
          refine Calls.mono (itoa_gives n hb.1 hb.2 _ (hZ.of_isOv hov)) ?_
          rintro e w1 ⟨rfl, hov1⟩
          generalize hdg : (⟨(Lib.itoa n).toArray⟩ : ByteArray) = dg at *
          have HDG := Lib.hid hdg
          clear hdg
          have g5 : bs2.length + (dg ++ ⟨#[32]⟩ : ByteArray).size ≤ 1000000000 := by
            have e1 : (⟨#[32]⟩ : ByteArray).size = 1 := rfl
            rw [ByteArray.size_append, e1]; omega
          have hB1 := isBuilderF_isOv hB.out hov1
          have hov1w := hov.trans hov1
          have hsz1 : w'.heap.size ≤ w1.heap.size := hov1w.size_le
          clear hB
          go_wp2_with fail
          refine Calls.mono (putS_calls w'.heap.size w'.heap.size bs2 _ _ hB1 g5 hsz1) ?_
          rintro e w2 ⟨⟨v, rfl⟩, hbb, hbel⟩
          have hov2 := ov_below hov1w (Nat.le_refl _) hbel
          have hsw2 : w'.heap.size < w2.heap.size := by
            have h1 := hbel.size
            have h2 := hov1.size_le
            omega
          have HBB : Hid (bldZ w2 w'.heap.size _) := Lib.hid hbb
          clear hbb hbel hB1
          go_wp2_with fail
          go_roundw
          case rel => exact ⟨k + 1, bs2 ++ (dg ++ ⟨#[32]⟩ : ByteArray).data.toList, by go_num, by omega, hov2, hsw2, HBB, HX⟩
          case measure => simp [intOf]; omega
        · obtain rfl : k = c.length := by omega
          have HX : Hid ((bs2 ++ (⟨#[48, 10]⟩ : ByteArray).data.toList) ++ showF (l.drop (i + 1)) = showF l) := Lib.hid (by
            rw [← hT.out, List.drop_length]
            simp [lineF])
          have hTL := congrArg List.length hT.out
          simp only [List.length_append, List.length_cons, List.length_nil] at hTL
          have g5 : bs2.length + (⟨#[48, 10]⟩ : ByteArray).size ≤ 1000000000 := by
            have e1 : (⟨#[48, 10]⟩ : ByteArray).size = 2 := rfl
            rw [e1]; omega
          clear hTL hT
          go_wp2_with fail
          refine Calls.mono (putS_calls w'.heap.size w'.heap.size bs2 _ _ hB.out g5 hov.size_le) ?_
          rintro e w2 ⟨⟨v, rfl⟩, hbb, hbel⟩
          have hov2 := ov_below hov (Nat.le_refl _) hbel
          have hsw2 : w'.heap.size < w2.heap.size := by
            have h1 := hbel.size
            omega
          have HBB : Hid (bldZ w2 w'.heap.size _) := Lib.hid hbb
          clear hbb hbel hB
          go_wp2_with fail
          go_roundw
          case rel => exact ⟨i + 1, bs2 ++ (⟨#[48, 10]⟩ : ByteArray).data.toList, by go_num, by omega, hov2, hsw2, HBB, HX⟩
          case measure => simp [intOf]; omega
    · obtain rfl : i = l.length := by omega
      have HX : Hid (bs = showF l) := Lib.hid (by
        rw [← hT.out, List.drop_length]
        simp [showF])
      clear hT
      go_wp2_with fail
      refine Calls.mono (Tryz.Builder_String_any_k w'.heap.size w'.heap.size _ wr hB.out (Nat.le_of_lt hsw)) ?_
      rintro e w6 ⟨rfl, hbb6, hbel6, hk6⟩
      have hov6 := ov_below hov (Nat.le_refl _) hbel6
      clear hB hbb6 hbel6 hk6
      go_wp2_with fail
      exact bodyPost_ret (v := .tuple #[.string ⟨bs.toArray⟩, .int .i64 0]) (by simp [results, Tryz.results19, go_sem, ↓IntWalk.iteOmega]) rfl ⟨by rw [HX.out], hov6⟩
end Go.Proofs.YtaibjaienhnckaaGreatDoor
