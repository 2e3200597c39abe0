/- The law SetupLines holds: called with any value of its parameter, it returns true, and the argument reads as it did; the listed variables read as the program lays them when the call began (the card ties them to the program's text). No other condition. -/
import Derived.Test.YtaibjaienhnckaaDoorGs
import Derived.Test.YtaibjaienhnckaaDoorCards
import Derived.Test.YtaibjaienhnckaaDoorTie
import Derived.Test.YtaibjaienhnckaaDoorVo
import Derived.SevenTiedAt
set_option linter.unusedVariables false
set_option linter.unusedSimpArgs false
namespace Go.Proofs.YtaibjaienhnckaaDoor
open Go.ChangeShapes Go.WideShapes Go.ChangeAt Go.RowKit Go.Joins
open Go.ChangeMaps (open_string shut_string)
set_option maxRecDepth 100000 in
theorem setupLines_lifted (os : Os) (started : os.Started) (H : Type) (enc : TypeId × Value → H) :
    ReturnsInHanded {} Tryd.checked os 4 .any (fun w args => (Rows.setupLinesSpec.pre enc Tryd.prog Tryd.f4 [] false w args ∧ laidMetH Tryd.prog laidTypes w) ∧ sizedMet enc Tryd.prog Tryd.f4 (OpenSpec.ofChange Rows.setupLinesSpec) false w args)
      (Rows.setupLinesSpec.post enc Tryd.prog Tryd.f4 false true false false) := by
  refine handed_and_shaped (C := Tryd.checked) (X := fun w _ => laidMetH Tryd.prog laidTypes w) (fun _ _ _ hh h => h.of_heap hh) own started (by kernel_rfl) Tryd.func4
    (ChangeSpec.witness_shaped (enc := enc) (C := Tryd.checked) (os := os) (X := fun w _ => laidMetH Tryd.prog laidTypes w) false (World.laidAll Tryd.prog os laidTypes) #[.slice none 0 0] 8 (World.laidAll_os _ _ _) (World.shaped_of_ZipB (by kernel_rfl) (by kernel_rfl)) (by kernel_rfl) (by kernel_rfl) (by kernel_rfl)
      (by rw [MakeChecks.laidMetH_plain _ _ _ (by kernel_rfl)]; exact laidMet_laidAll _ (by kernel_rfl) (by kernel_rfl))) ?_
  intro W base args ds gs before hval0 hW hL hsh
  have hval : ∀ (j : Nat) t v, Tryd.f4.params[j]? = some t → args[j]? = some v → Value.okWide Tryd.prog W .any base t v := hval0
  have hW' := hW
  obtain ⟨p, q, hA0, hV, rfl, hfz, hnd⟩ := hW
  have hA : DataW.TrodAll enc Tryd.prog W 0 (fun _ => true) true Tryd.f4.params.toList args.toList ds p := hA0
  rw [Tryd.params4] at hA hval
  obtain ⟨v0, vs0, d0, ds0, p0, q0, hargs, rfl, rfl, h0, r0⟩ := trodAll_cons hA
  obtain ⟨rfl, rfl, rfl⟩ := trodAll_nil r0
  obtain rfl : args = #[v0] := by cases args; simp_all
  obtain ⟨rfl, rfl⟩ := trodVars_none hV
  have k0 := h0
  have lt0 : ∀ x ∈ p0, x.block < W.heap.size := by obtain ⟨m, hm⟩ := k0; exact DataW.trod_lt m _ _ _ hm
  obtain ⟨ao, ln, cp, rfl⟩ := okWide_slice Tryd.underlying29 (hval 0 29 v0 rfl rfl)
  obtain ⟨fuel0, hf0⟩ := h0
  have hf1 : DataW.trod enc Tryd.prog W 0 (fun _ => true) true fuel0 29 [.slice ao ln cp] = some (d0, p0) := hf0
  clear hA0 hval0
  have HL := of_laid hL hsh
  have hG : Gives Tryd.prog 4 #[.slice ao ln cp] W (.bool true) := by
    rcases open_strings Tryd.underlying29 Tryd.underlying9 (by kernel_rfl) hf1 with ⟨e1, _⟩ | ⟨a, len, cap, ss, e1, _, hlc, _, hss, _, hcell, _⟩
    · obtain ⟨rfl, rfl, rfl⟩ : ao = none ∧ ln = 0 ∧ cp = 0 := by simpa using e1
      exact SetupLines_nil W HL
    · obtain ⟨rfl, rfl, rfl⟩ : ao = some a ∧ ln = len ∧ cp = cap := by simpa using e1
      have hss2 : ss.length = cp := by simpa using hss
      have hl : (ss.take ln).length = ln := by rw [List.length_take]; omega
      have := SetupLines_some W a cp (ss.take ln) (fun i hi => by
        rw [hl] at hi
        rw [hcell i (by omega)]
        simp [List.getD, List.getElem?_take, hi]) HL
      rw [hl] at this
      exact this
  refine (hG).mono fun e W' ⟨he, hov⟩ => ?_
  subst he
  have bel := hov.below
  exact ⟨_, rfl, _, _, _, [], _, [], hW', trodAll_mk1 (shut_bool Tryd.underlying4 _), (trodAll_cons_mk (Below.trod laidOut (by kernel_rfl) (of_decide_eq_true (by kernel_rfl)) k0 bel lt0) trodAll_mk0), rfl, bel.frame _, fun h => by cases h⟩
theorem setupLines_holds : Rows.SetupLinesSaid :=
  OpenClaim.holds_of_wide 4 Tryd.f4 rfl rfl rfl rfl rfl rfl rfl ⟨rfl, rfl, rfl, rfl, rfl⟩ rfl rfl rfl rfl rfl (by kernel_rfl) Tryd.func4 (by kernel_rfl)
    (of_decide_eq_true (by kernel_rfl)) (by unfold Func.isWrapper; first | (rw [if_pos (by decide +kernel)]; kernel_rfl) | (rw [if_neg (by decide +kernel)]; exact ⟨rfl, rfl⟩))
    (fun os started H enc _ => setupLines_lifted os started H enc)
theorem setupLines_card_holds : Rows.SetupLinesCardSaid :=
  Claim7.holds_tied_plain_at .later [] Rows.setupLinesCard.laidKinds Rows.setupLinesCard.laidTests Rows.setupLinesCard.stood.harness Rows.setupLinesCard.stood.looks
    setupLines_holds (fun _ h => by cases h) (by kernel_rfl) (fun _ h => by cases h) setupLines_row_tie rfl ⟨rfl, rfl⟩ (by kernel_rfl) rfl
    (fun f fn hf hfn => by
      obtain rfl : f = 4 := Option.some.inj ((show Tryd.prog.funcNamed "skua/skualaw22.SetupLines" = some 4 by kernel_rfl).symm.trans hf) |>.symm
      obtain rfl : fn = Tryd.f4 := (Option.some.inj (Tryd.func4.symm.trans hfn)).symm
      exact ⟨by kernel_rfl, fun j t ht => by
        rw [Tryd.params4] at ht
        have hm : t ∈ [29] := by simpa using Array.mem_of_getElem? ht
        have hall : ([29].all fun u => !Tryd.prog.wantsStandIn u) = true := by kernel_rfl
        exact (show Tryd.prog.wantsStandIn t = false by simpa using List.all_eq_true.1 hall t hm)⟩)
    (by kernel_rfl)
#print axioms setupLines_card_holds
end Go.Proofs.YtaibjaienhnckaaDoor
