/- The law LexPlaces comes to true, whatever the text. Condition: the tables lie as the program lays them. -/
import Derived.Test.YtdimhoilfopndaaDoorYz0
set_option linter.unusedVariables false
set_option linter.unusedSimpArgs false
namespace Go.Proofs.YtdimhoilfopndaaDoor
open Go.RowKit
/-- Where the law's loop stands. -/
def PlI (s : ByteArray) (ts : List Tok) (k i : Nat) (line col : Value) : Prop :=
  (k < ts.length ∧ i ≤ s.size ∧ line = .int .i64 (lcAt s i).1 ∧ col = .int .i64 (lcAt s i).2 ∧ Placed s i (ts.drop k)) ∨ k = ts.length
set_option maxRecDepth 20000 in
set_option maxHeartbeats 2000000 in
theorem LexPlaces_gives (s : ByteArray) (w : World) (hL : LaidX w) : Gives Tryd.prog 5 #[.string s] w (.bool true) := by
  unfold Gives
  by_cases h : s.size ≤ 2000
  · have h2 : (s.size : Int) ≤ 2000 := by omega
    have hP := Lib.hid (lexR_placed s (by omega))
    have hT := toks_len s (by omega)
    go_enter Tryd.func5, Tryd.ntmps5
    go_wp2_with fail
    refine Calls.mono (Lex_calls _ _ (hL.of_isOv (by repeat (first | with_reducible exact IsOv.refl _ | with_reducible apply IsOv.dr | with_reducible apply IsOv.drewN | with_reducible apply IsOv.drew | with_reducible apply IsOv.alloc | with_reducible apply IsOv.ov)))) ?_
    rintro e w3 ⟨va, rfl, hovC, hown3⟩
    have hL3 : LaidX w3 := hL.of_isOv hovC
    have ta := Toks.of_owns hown3
    clear hown3
    generalize lexR s = r1 at *
    by_cases he : r1.err = 0
    · have he1 : (r1.err == 0) = true := by simpa using he
      obtain ⟨a, c, rfl, hp⟩ := ta.form
      have hPl := Lib.hid (hP.out he)
      clear hP he
      go_wp2_with (first | (go_at_call 7; refine (awake_gives _ (by repeat (first | exact hL3 | apply LaidX.alloc | apply LaidX.ov | apply LaidX.dr | apply LaidX.drew))).mono ?_; rintro e w' ⟨rfl, x, rfl⟩))
      obtain ⟨hpos, hlast⟩ := hPl.out.last
      go_loopw [9, 8, 7, 10] (fun kv cv lv iv wr => ∃ k i : Nat, kv = .int .i64 (k : Int) ∧ iv = .int .i64 (i : Int) ∧ k ≤ r1.toks.length ∧ i ≤ s.size + 1 ∧ Hid (PlI s r1.toks k i lv cv) ∧ IsOv w3 wr) (fun kv cv lv iv wr => (s.size + 2 - intOf iv).toNat)
      case atStart => exact ⟨0, 0, rfl, rfl, Nat.zero_le _, Nat.zero_le _, .inl ⟨hpos, Nat.zero_le _, rfl, rfl, hPl.out⟩, by repeat (first | with_reducible exact IsOv.refl _ | with_reducible apply IsOv.dr | with_reducible apply IsOv.drewN | with_reducible apply IsOv.drew | with_reducible apply IsOv.alloc | with_reducible apply IsOv.ov)⟩
      case round =>
        obtain ⟨k, i, rfl, rfl, hk, hi, hPI, hov⟩ := hrel
        rcases hPI.out with ⟨hkn, his, rfl, rfl, hpl⟩ | hkn
        · have hlt2 : (k : Int) < r1.toks.length := by omega
          have hle2 : (i : Int) ≤ s.size := by omega
          obtain ⟨g, rfl, hg, hc⟩ := hp (by omega)
          have hdr : r1.toks.drop k = r1.toks[k] :: r1.toks.drop (k + 1) := List.drop_eq_getElem_cons hkn
          have qa := fun (j : Nat) (hj : j < 5) (u : Value) (hu : (r1.toks[k].cells)[j]? = some u) => hov.cell (hc (k * 5 + j) u ((flat_cell r1.toks k j hkn hj).trans hu))
          rcases hX : r1.toks[k] with ⟨t0, t1, t2, t3, t4⟩
          rw [hX] at qa hdr
          rw [hdr] at hpl
          obtain ⟨b, hab, hbs, hl, hcl, hex, hkind⟩ := hpl.head
          dsimp only at hbs hl hcl hex hkind
          have f0 : wr.cell? ⟨g, k * 5, none⟩ = some (.int .i64 t0) := qa 0 (by decide) (.int .i64 t0) rfl
          have f1 := qa 1 (by decide) (.string t1) rfl
          have f3 := qa 3 (by decide) (.int .i64 t3) rfl
          have f4 := qa 4 (by decide) (.int .i64 t4) rfl
          have hpl0 := Lib.hid hpl
          have hdr0 := Lib.hid hdr
          clear qa hc hp ta hX hdr hpl hPI hPl
          have hrg := lcAt_range s i
          have hsucc := lcAt_succ s i
          by_cases hib : i = b
          · subst hib
            subst hl hcl
            have hi0 : (0 : Int) ≤ (i : Int) := by omega
            have hi1 : (i : Int) ≤ (i : Int) + t1.size := by omega
            have hi2 : (i : Int) + t1.size ≤ s.size := by omega
            have hww : IntKind.i64.wrap ((i : Int) + t1.size) = (i : Int) + t1.size := by rw [IntKind.wrap_i64]; omega
            have hsl : ∀ w' : World, (Instr.slice 9 (.string s) (some (.int .i64 (i : Int))) (some (.int .i64 ((i : Int) + t1.size))) none).run Tryd.prog w' = .ok (.string t1) w' := fun w' => by
              rw [run_slice_string (P := Tryd.prog) (w := w') 9 s .i64 .i64 i (i + t1.size) Tryd.underlying9 hi0 hi1 hi2, Int.toNat_natCast, show ((i : Int) + t1.size).toNat = i + t1.size by omega, hex]
            have HEX := Lib.hid hex
            clear hex
            generalize hL : (lcAt s i).1 = Ln at *
            generalize hC : (lcAt s i).2 = Cn at *
            rcases hkind with ⟨hk3, hz, hbe, hr⟩ | ⟨hk3, hz, hr, hPn⟩
            · have q1 : (t0 == 3) = true := by simpa using hk3
              have q2 : ((t1.size : Int) == 0) = true := by rw [hz]; rfl
              have q3 : ((i : Int) == s.size) = true := by rw [hbe]; simp
              have hkl : k + 1 = r1.toks.length := by have := congrArg List.length hr; rw [List.length_drop] at this; simp at this; omega
              have q4 : ¬ (i : Int) < s.size := by omega
              have q8 : decide ((s.size : Int) < (i : Int) + t1.size) = false := decide_eq_false (by omega)
              have hkl2 := Lib.hid hkl
              clear hsucc hL hC hr hz hab hbs hkl hbe hk3
              go_wp2_with (first | (refine wp_region_dr (by kernel_rfl) (by kernel_rfl) ?_; (repeat (go_big_quiet_step ((fail)))); refine wpQuiet_nil ?_; rintro _ ⟨nq, rfl⟩))
              go_roundw
              case rel => exact ⟨k + 1, i + 1, by go_num, by go_num, by have := hkl2.out; omega, by omega, .inr hkl2.out, hov.trans (by repeat (first | with_reducible exact IsOv.refl _ | (with_reducible refine IsOv.setCell ?_ ?_ _; rotate_left; (first | exact Nat.le_refl _ | exact Nat.le_succ _)) | with_reducible apply IsOv.dr | with_reducible apply IsOv.drewN | with_reducible apply IsOv.drew | with_reducible apply IsOv.alloc | with_reducible apply IsOv.ov))⟩
              case measure => simp [intOf]; omega
            · have q1 : (t0 == 3) = false := by simpa using hk3
              have q2 : ((t1.size : Int) == 0) = false := by rw [beq_eq_false_iff_ne]; omega
              have q4 : (i : Int) < s.size := by omega
              have q5 : i < s.size := by omega
              have hkl : k + 1 < r1.toks.length := by
                have h5 : (r1.toks.drop (k + 1)).length ≠ 0 := fun e => hr (List.eq_nil_of_length_eq_zero e)
                rw [List.length_drop] at h5; omega
              have q8 : decide ((s.size : Int) < (i : Int) + t1.size) = false := decide_eq_false (by omega)
              have hPn2 := Lib.hid (hPn.low (show i + 1 ≤ i + t1.size by omega))
              clear hPn hk3 hz hr
              rw [byteAt_lt q5] at hsucc
              have hb0 := (s[i]'q5).toNat_lt
              by_cases h10 : ((s[i]'q5).toNat : Int) = 10
              · have h11 : (((s[i]'q5).toNat : Int) == 10) = true := by simpa using h10
                have hs1 : (lcAt s (i + 1)).1 = Ln + 1 := by rw [hsucc]; unfold stepLC; rw [h11, ← hL]; rfl
                have hs2 : (lcAt s (i + 1)).2 = 1 := by rw [hsucc]; unfold stepLC; rw [h11]; rfl
                have HS := Lib.hid (And.intro hs1 hs2)
                clear hsucc hs1 hs2 hL hC
                go_wp2_with (first | (refine wp_region_dr (by kernel_rfl) (by kernel_rfl) ?_; (repeat (go_big_quiet_step ((fail)))); refine wpQuiet_nil ?_; rintro _ ⟨nq, rfl⟩))
                go_roundw
                case rel => exact ⟨k + 1, i + 1, by go_num, by go_num, by omega, by omega, .inl ⟨hkl, by omega, by rw [HS.out.1], by rw [HS.out.2], hPn2.out⟩, hov.trans (by repeat (first | with_reducible exact IsOv.refl _ | (with_reducible refine IsOv.setCell ?_ ?_ _; rotate_left; (first | exact Nat.le_refl _ | exact Nat.le_succ _)) | with_reducible apply IsOv.dr | with_reducible apply IsOv.drewN | with_reducible apply IsOv.drew | with_reducible apply IsOv.alloc | with_reducible apply IsOv.ov))⟩
                case measure => simp [intOf]; omega
              · have h11 : (((s[i]'q5).toNat : Int) == 10) = false := by simpa using h10
                have hs1 : (lcAt s (i + 1)).1 = Ln := by rw [hsucc]; unfold stepLC; rw [h11, ← hL]; rfl
                have hs2 : (lcAt s (i + 1)).2 = Cn + 1 := by rw [hsucc]; unfold stepLC; rw [h11, ← hC]; rfl
                have HS := Lib.hid (And.intro hs1 hs2)
                clear hsucc hs1 hs2 hL hC
                go_wp2_with (first | (refine wp_region_dr (by kernel_rfl) (by kernel_rfl) ?_; (repeat (go_big_quiet_step ((fail)))); refine wpQuiet_nil ?_; rintro _ ⟨nq, rfl⟩))
                go_roundw
                case rel => exact ⟨k + 1, i + 1, by go_num, by go_num, by omega, by omega, .inl ⟨hkl, by omega, by rw [HS.out.1], by rw [HS.out.2], hPn2.out⟩, hov.trans (by repeat (first | with_reducible exact IsOv.refl _ | (with_reducible refine IsOv.setCell ?_ ?_ _; rotate_left; (first | exact Nat.le_refl _ | exact Nat.le_succ _)) | with_reducible apply IsOv.dr | with_reducible apply IsOv.drewN | with_reducible apply IsOv.drew | with_reducible apply IsOv.alloc | with_reducible apply IsOv.ov))⟩
                case measure => simp [intOf]; omega
          · have hlt := lcAt_lt s i (b - i - 1)
            rw [show i + (b - i - 1 + 1) = b by omega, ← hl, ← hcl] at hlt
            have q4 : (i : Int) < s.size := by omega
            have q5 : i < s.size := by omega
            have hne : ¬ (t3 = (lcAt s i).1 ∧ t4 = (lcAt s i).2) := by rintro ⟨e1, e2⟩; rcases hlt with h5 | h5 <;> omega
            clear hl hcl hex
            have hPn2 : Hid (Placed s (i + 1) (r1.toks.drop k)) := Lib.hid (by rw [hdr0.out]; exact hpl0.out.up hne)
            generalize hL : (lcAt s i).1 = Ln at *
            generalize hC : (lcAt s i).2 = Cn at *
            by_cases hll : t3 = Ln
            · have q6 : (t3 == Ln) = true := by simpa using hll
              have q7 : (t4 == Cn) = false := by rw [beq_eq_false_iff_ne]; omega
              rw [byteAt_lt q5] at hsucc
              have hb0 := (s[i]'q5).toNat_lt
              by_cases h10 : ((s[i]'q5).toNat : Int) = 10
              · have h11 : (((s[i]'q5).toNat : Int) == 10) = true := by simpa using h10
                have hs1 : (lcAt s (i + 1)).1 = Ln + 1 := by rw [hsucc]; unfold stepLC; rw [h11, ← hL]; rfl
                have hs2 : (lcAt s (i + 1)).2 = 1 := by rw [hsucc]; unfold stepLC; rw [h11]; rfl
                have HS := Lib.hid (And.intro hs1 hs2)
                clear hsucc hs1 hs2 hL hC
                go_wp2_with (first | (refine wp_region_dr (by kernel_rfl) (by kernel_rfl) ?_; (repeat (go_big_quiet_step ((fail)))); refine wpQuiet_nil ?_; rintro _ ⟨nq, rfl⟩))
                go_roundw
                case rel => exact ⟨k, i + 1, rfl, by go_num, by omega, by omega, .inl ⟨hkn, by omega, by rw [HS.out.1], by rw [HS.out.2], hPn2.out⟩, hov.trans (by repeat (first | with_reducible exact IsOv.refl _ | (with_reducible refine IsOv.setCell ?_ ?_ _; rotate_left; (first | exact Nat.le_refl _ | exact Nat.le_succ _)) | with_reducible apply IsOv.dr | with_reducible apply IsOv.drewN | with_reducible apply IsOv.drew | with_reducible apply IsOv.alloc | with_reducible apply IsOv.ov))⟩
                case measure => simp [intOf]; omega
              · have h11 : (((s[i]'q5).toNat : Int) == 10) = false := by simpa using h10
                have hs1 : (lcAt s (i + 1)).1 = Ln := by rw [hsucc]; unfold stepLC; rw [h11, ← hL]; rfl
                have hs2 : (lcAt s (i + 1)).2 = Cn + 1 := by rw [hsucc]; unfold stepLC; rw [h11, ← hC]; rfl
                have HS := Lib.hid (And.intro hs1 hs2)
                clear hsucc hs1 hs2 hL hC
                go_wp2_with (first | (refine wp_region_dr (by kernel_rfl) (by kernel_rfl) ?_; (repeat (go_big_quiet_step ((fail)))); refine wpQuiet_nil ?_; rintro _ ⟨nq, rfl⟩))
                go_roundw
                case rel => exact ⟨k, i + 1, rfl, by go_num, by omega, by omega, .inl ⟨hkn, by omega, by rw [HS.out.1], by rw [HS.out.2], hPn2.out⟩, hov.trans (by repeat (first | with_reducible exact IsOv.refl _ | (with_reducible refine IsOv.setCell ?_ ?_ _; rotate_left; (first | exact Nat.le_refl _ | exact Nat.le_succ _)) | with_reducible apply IsOv.dr | with_reducible apply IsOv.drewN | with_reducible apply IsOv.drew | with_reducible apply IsOv.alloc | with_reducible apply IsOv.ov))⟩
                case measure => simp [intOf]; omega
            · have q6 : (t3 == Ln) = false := by simpa using hll
              rw [byteAt_lt q5] at hsucc
              have hb0 := (s[i]'q5).toNat_lt
              by_cases h10 : ((s[i]'q5).toNat : Int) = 10
              · have h11 : (((s[i]'q5).toNat : Int) == 10) = true := by simpa using h10
                have hs1 : (lcAt s (i + 1)).1 = Ln + 1 := by rw [hsucc]; unfold stepLC; rw [h11, ← hL]; rfl
                have hs2 : (lcAt s (i + 1)).2 = 1 := by rw [hsucc]; unfold stepLC; rw [h11]; rfl
                have HS := Lib.hid (And.intro hs1 hs2)
                clear hsucc hs1 hs2 hL hC
                go_wp2_with (first | (refine wp_region_dr (by kernel_rfl) (by kernel_rfl) ?_; (repeat (go_big_quiet_step ((fail)))); refine wpQuiet_nil ?_; rintro _ ⟨nq, rfl⟩))
                go_roundw
                case rel => exact ⟨k, i + 1, rfl, by go_num, by omega, by omega, .inl ⟨hkn, by omega, by rw [HS.out.1], by rw [HS.out.2], hPn2.out⟩, hov.trans (by repeat (first | with_reducible exact IsOv.refl _ | (with_reducible refine IsOv.setCell ?_ ?_ _; rotate_left; (first | exact Nat.le_refl _ | exact Nat.le_succ _)) | with_reducible apply IsOv.dr | with_reducible apply IsOv.drewN | with_reducible apply IsOv.drew | with_reducible apply IsOv.alloc | with_reducible apply IsOv.ov))⟩
                case measure => simp [intOf]; omega
              · have h11 : (((s[i]'q5).toNat : Int) == 10) = false := by simpa using h10
                have hs1 : (lcAt s (i + 1)).1 = Ln := by rw [hsucc]; unfold stepLC; rw [h11, ← hL]; rfl
                have hs2 : (lcAt s (i + 1)).2 = Cn + 1 := by rw [hsucc]; unfold stepLC; rw [h11, ← hC]; rfl
                have HS := Lib.hid (And.intro hs1 hs2)
                clear hsucc hs1 hs2 hL hC
                go_wp2_with (first | (refine wp_region_dr (by kernel_rfl) (by kernel_rfl) ?_; (repeat (go_big_quiet_step ((fail)))); refine wpQuiet_nil ?_; rintro _ ⟨nq, rfl⟩))
                go_roundw
                case rel => exact ⟨k, i + 1, rfl, by go_num, by omega, by omega, .inl ⟨hkn, by omega, by rw [HS.out.1], by rw [HS.out.2], hPn2.out⟩, hov.trans (by repeat (first | with_reducible exact IsOv.refl _ | (with_reducible refine IsOv.setCell ?_ ?_ _; rotate_left; (first | exact Nat.le_refl _ | exact Nat.le_succ _)) | with_reducible apply IsOv.dr | with_reducible apply IsOv.drewN | with_reducible apply IsOv.drew | with_reducible apply IsOv.alloc | with_reducible apply IsOv.ov))⟩
                case measure => simp [intOf]; omega
        · obtain ⟨m, hm⟩ : ∃ m, r1.toks.length = m + 1 := ⟨r1.toks.length - 1, by omega⟩
          obtain rfl : k = m + 1 := by omega
          obtain ⟨g, rfl, hg, hc⟩ := hp (by omega)
          have hmk : m < r1.toks.length := by omega
          have hlk : (r1.toks[m]).kind = 3 := by
            rw [hm, Nat.add_sub_cancel, List.getD_eq_getElem?_getD, List.getElem?_eq_getElem hmk] at hlast
            exact hlast
          have f0 : wr.cell? ⟨g, m * 5, none⟩ = some (.int .i64 3) := by
            have := hov.cell (hc (m * 5 + 0) (.int .i64 (r1.toks[m]).kind) ((flat_cell r1.toks m 0 hmk (by omega)).trans rfl))
            rwa [hlk] at this
          have hkk : ¬ ((m + 1 : Nat) : Int) < ((m + 1 : Nat) : Int) := by omega
          rw [hm] at hT ⊢
          clear hc hp ta hPI hPl hlast hlk hm hkn hk hmk hpos
          go_wp2_with fail
          all_goals exact bodyPost_ret (v := .bool true) (by simp [results, Tryd.results5, go_sem, ↓IntWalk.iteOmega]) rfl ⟨rfl, hovC.trans (IsOv.trans hov (IsOv.refl _))⟩
    · have he1 : (r1.err == 0) = false := by simpa using he
      clear ta hP
      go_wp2_with (first | (go_at_call 7; refine (awake_gives _ (by repeat (first | exact hL3 | apply LaidX.alloc | apply LaidX.ov | apply LaidX.dr | apply LaidX.drew))).mono ?_; rintro e w' ⟨rfl, x, rfl⟩))
      exact bodyPost_ret (v := .bool true) (by simp [results, Tryd.results5, go_sem, ↓IntWalk.iteOmega]) rfl ⟨rfl, hovC.trans (by repeat (first | with_reducible exact IsOv.refl _ | with_reducible apply IsOv.dr | with_reducible apply IsOv.drewN | with_reducible apply IsOv.drew | with_reducible apply IsOv.alloc | with_reducible apply IsOv.ov))⟩
  · have h2 : (2000 : Int) < s.size := by omega
    go_enter Tryd.func5, Tryd.ntmps5
    go_wp2_with (first | (go_at_call 7; refine (awake_gives _ (hL.of_isOv (by repeat (first | with_reducible exact IsOv.refl _ | with_reducible apply IsOv.dr | with_reducible apply IsOv.drewN | with_reducible apply IsOv.drew | with_reducible apply IsOv.alloc | with_reducible apply IsOv.ov)))).mono ?_; rintro e w' ⟨rfl, x, rfl⟩))
    exact bodyPost_ret (v := .bool true) (by simp [results, Tryd.results5, go_sem, ↓IntWalk.iteOmega]) rfl ⟨rfl, by repeat (first | with_reducible exact IsOv.refl _ | with_reducible apply IsOv.dr | with_reducible apply IsOv.drewN | with_reducible apply IsOv.drew | with_reducible apply IsOv.alloc | with_reducible apply IsOv.ov)⟩
end Go.Proofs.YtdimhoilfopndaaDoor
