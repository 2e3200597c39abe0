-- PRINTED BY print.sh 35421559b90ae4d0a3588c463048766b98c2df88dd9212a6774a882060cdf62d: not written by this session
import Derived.Test.YtggelmnahggdgaaDoorPWordDoesx0
import Derived.Test.YtggelmnahggdgaaDoorPWordDoesx1
import Derived.Test.YtggelmnahggdgaaDoorPWordDoesx2
import Derived.Test.YtggelmnahggdgaaDoorPWordDoesx4
import Derived.Test.YtggelmnahggdgaaDoorPWordDoesx5
namespace Go.Proofs.YtggelmnahggdgaaDoor.PWordDoes
open Go.RowKit Go.Proofs.YtggelmnahggdgaaDoorW.PrintWords Go.Proofs.YtggelmnahggdgaaDoorW.PrintLast Go.Proofs.YtggelmnahggdgaaDoorW.PrintMore
attribute [local go_sem] max2_int min2_int max_two min_two max_three min_three max_four min_four   -- for this text's walks alone
set_option linter.unusedVariables false
set_option linter.unusedSimpArgs false

/-! ### skuaref01_Do: function 19 -/
mutual
def skuaref01_Do.j0 : Nat → ByteArray → Int → Int → Bool → Int → Bool → Option (Int × Int)
  | 0, _, _, _, _, _, _ => none
  | k + 1, x1, x2, x3, x31, x207000, x207001 => if x31 = true then ((skuaref01_each.f k x207000 x207001 x1 x2 x3).bind fun t210 => (some (t210, 0))) else (if x207000 = 1 then (some (0, 12)) else (if x1.toList = ([43] : List UInt8) then ((skuaref01_Norm.f k x207000 x207001 (IntKind.u64.wrap (x2 + x3))).bind fun t211 => (some (t211, 0))) else (if x1.toList = ([45] : List UInt8) then ((skuaref01_Norm.f k x207000 x207001 (IntKind.u64.wrap (x2 - x3))).bind fun t212 => (some (t212, 0))) else (if x1.toList = ([42] : List UInt8) then ((skuaref01_Norm.f k x207000 x207001 (IntKind.u64.wrap (x2 * x3))).bind fun t213 => (some (t213, 0))) else (if x1.toList = ([47] : List UInt8) then (skuaref01_Do.j1 k x1 x2 x3 x1 (x1.toList == ([47] : List UInt8)) x207000 x207001) else (skuaref01_Do.j1 k x1 x2 x3 x1 (x1.toList == ([37] : List UInt8)) x207000 x207001))))))
def skuaref01_Do.j1 : Nat → ByteArray → Int → Int → ByteArray → Bool → Int → Bool → Option (Int × Int)
  | 0, _, _, _, _, _, _, _ => none
  | k + 1, x1, x2, x3, x40, x56, x207000, x207001 => if x56 = true then (if x3 = 0 then (some (0, 11)) else ((skuaref01_divide.f k x207000 x207001 x2 x3).bind fun bt214 => (if x1.toList = ([37] : List UInt8) then ((skuaref01_Norm.f k x207000 x207001 bt214.2).bind fun t216 => (some (t216, 0))) else ((skuaref01_Norm.f k x207000 x207001 bt214.1).bind fun t217 => (some (t217, 0)))))) else (if x40.toList = ([60, 60] : List UInt8) then ((skuaref01_shift.f k x207000 x207001 x2 x3 true).bind fun t218 => ((skuaref01_Norm.f k x207000 x207001 t218).bind fun t219 => (some (t219, 0)))) else (if x40.toList = ([62, 62] : List UInt8) then ((skuaref01_shift.f k x207000 x207001 x2 x3 false).bind fun t220 => ((skuaref01_Norm.f k x207000 x207001 t220).bind fun t221 => (some (t221, 0)))) else (some (0, 12))))
end
def skuaref01_Do.f (k : Nat) (a0_0 : Int) (a0_1 : Bool) (a1 : ByteArray) (a2 : Int) (a3 : Int) : Option (Int × Int) := (skuaref01_Right.f a0_0 a0_1).bind fun t207 => (if t207 = true then ((skuaref01_Norm.f k a0_0 a0_1 a2).bind fun t208 => ((skuaref01_Norm.f k a0_0 a0_1 a3).bind fun t209 => (if a1.toList = ([38] : List UInt8) then (skuaref01_Do.j0 k a1 t208 t209 true a0_0 a0_1) else (if a1.toList = ([124] : List UInt8) then (skuaref01_Do.j0 k a1 t208 t209 true a0_0 a0_1) else (skuaref01_Do.j0 k a1 t208 t209 (a1.toList == ([94] : List UInt8)) a0_0 a0_1))))) else (some (0, 10)))
theorem skuaref01_Do.mono_l : ∀ k, (∀ y0 y1 y2 y3 y4 y5, LeO (skuaref01_Do.j0 k y0 y1 y2 y3 y4 y5) (skuaref01_Do.j0 (k + 1) y0 y1 y2 y3 y4 y5)) ∧ (∀ y0 y1 y2 y3 y4 y5 y6, LeO (skuaref01_Do.j1 k y0 y1 y2 y3 y4 y5 y6) (skuaref01_Do.j1 (k + 1) y0 y1 y2 y3 y4 y5 y6))
  | 0 => ⟨fun _ _ _ _ _ _ r h => by simp [skuaref01_Do.j0] at h, fun _ _ _ _ _ _ _ r h => by simp [skuaref01_Do.j1] at h⟩
  | k + 1 => by
    obtain ⟨ih0, ih1⟩ := skuaref01_Do.mono_l k
    refine ⟨?_, ?_⟩
    · intro y0 y1 y2 y3 y4 y5
      unfold skuaref01_Do.j0
      repeat' first
      | (with_reducible exact ih0 _ _ _ _ _ _)
      | (with_reducible exact ih1 _ _ _ _ _ _ _)
      | (with_reducible exact skuaref01_Norm.mono _ _ _ _)
      | (with_reducible exact skuaref01_divide.mono _ _ _ _ _)
      | (with_reducible exact skuaref01_each.mono _ _ _ _ _ _)
      | (with_reducible exact skuaref01_shift.mono _ _ _ _ _ _)
      | (with_reducible exact LeO.refl _)
      | (with_reducible exact LeO.none _)
      | (with_reducible refine LeO.ite ?_ ?_)
      | (with_reducible refine LeO.bind ?_ (fun _ => ?_))
      | exact ih0 _ _ _ _ _ _
      | exact ih1 _ _ _ _ _ _ _
      | exact skuaref01_Norm.mono _ _ _ _
      | exact skuaref01_divide.mono _ _ _ _ _
      | exact skuaref01_each.mono _ _ _ _ _ _
      | exact skuaref01_shift.mono _ _ _ _ _ _
      | exact LeO.none _
      | refine LeO.ite ?_ ?_
      | refine LeO.bind ?_ (fun _ => ?_)
    · intro y0 y1 y2 y3 y4 y5 y6
      unfold skuaref01_Do.j1
      repeat' first
      | (with_reducible exact ih0 _ _ _ _ _ _)
      | (with_reducible exact ih1 _ _ _ _ _ _ _)
      | (with_reducible exact skuaref01_Norm.mono _ _ _ _)
      | (with_reducible exact skuaref01_divide.mono _ _ _ _ _)
      | (with_reducible exact skuaref01_each.mono _ _ _ _ _ _)
      | (with_reducible exact skuaref01_shift.mono _ _ _ _ _ _)
      | (with_reducible exact LeO.refl _)
      | (with_reducible exact LeO.none _)
      | (with_reducible refine LeO.ite ?_ ?_)
      | (with_reducible refine LeO.bind ?_ (fun _ => ?_))
      | exact ih0 _ _ _ _ _ _
      | exact ih1 _ _ _ _ _ _ _
      | exact skuaref01_Norm.mono _ _ _ _
      | exact skuaref01_divide.mono _ _ _ _ _
      | exact skuaref01_each.mono _ _ _ _ _ _
      | exact skuaref01_shift.mono _ _ _ _ _ _
      | exact LeO.none _
      | refine LeO.ite ?_ ?_
      | refine LeO.bind ?_ (fun _ => ?_)
theorem skuaref01_Do.mono : ∀ a0 a1 a2 a3 a4 k, LeO (skuaref01_Do.f k a0 a1 a2 a3 a4) (skuaref01_Do.f (k + 1) a0 a1 a2 a3 a4) := by
  intro a0 a1 a2 a3 a4 k
  obtain ⟨ih0, ih1⟩ := skuaref01_Do.mono_l k
  unfold skuaref01_Do.f
  repeat' first
      | (with_reducible exact ih0 _ _ _ _ _ _)
      | (with_reducible exact ih1 _ _ _ _ _ _ _)
      | (with_reducible exact skuaref01_Norm.mono _ _ _ _)
      | (with_reducible exact skuaref01_divide.mono _ _ _ _ _)
      | (with_reducible exact skuaref01_each.mono _ _ _ _ _ _)
      | (with_reducible exact skuaref01_shift.mono _ _ _ _ _ _)
      | (with_reducible exact LeO.refl _)
      | (with_reducible exact LeO.none _)
      | (with_reducible refine LeO.ite ?_ ?_)
      | (with_reducible refine LeO.bind ?_ (fun _ => ?_))
      | exact ih0 _ _ _ _ _ _
      | exact ih1 _ _ _ _ _ _ _
      | exact skuaref01_Norm.mono _ _ _ _
      | exact skuaref01_divide.mono _ _ _ _ _
      | exact skuaref01_each.mono _ _ _ _ _ _
      | exact skuaref01_shift.mono _ _ _ _ _ _
      | exact LeO.none _
      | refine LeO.ite ?_ ?_
      | refine LeO.bind ?_ (fun _ => ?_)
def skuaref01_Do.T3 : Bool × List (List Nat × List Nat) := (true, [([], []), ([], []), ([0, 1], [0, 1]), ([], []), ([], []), ([3, 4, 2], [3, 4]), ([2, 5, 0, 1, 2], [1, 2]), ([5, 6, 0, 1, 2, 3, 4, 5, 6], [4, 5])])
def skuaref01_Do.B3 : List Nat := [0, 0, 3, 0, 0, 31, 63, 127]
theorem skuaref01_Do.tab3 : rtab .any (opsOf Tryd.f19 3) = skuaref01_Do.T3 := by kernel_rfl
theorem skuaref01_Do.bits3 : waitsOk skuaref01_Do.T3.2 skuaref01_Do.B3 = true := by kernel_rfl
set_option maxHeartbeats 8000000 in
set_option maxRecDepth 100000 in
theorem skuaref01_Do.calls (k : Nat) (a0_0 : Int) (a0_1 : Bool) (a1 : ByteArray) (a2 : Int) (a3 : Int) (r1 : Int) (r2 : Int) (w : World) (h : skuaref01_Do.f k a0_0 a0_1 a1 a2 a3 = some (r1, r2)) :
    Calls Tryd.prog 19 #[.agg #[.int .i64 a0_0, .bool a0_1], .string a1, .int .u64 a2, .int .u64 a3] w fun e w' => e = .returned (.tuple #[.int .u64 r1, .int .i64 r2]) ∧ Below w.heap.size w w' := by
  have hu23 := Tryd.underlying23
  have HB := Aside0.mk (Below.refl w.heap.size w)
  have H : ((skuaref01_Right.f a0_0 a0_1).bind fun t207 => (if t207 = true then ((skuaref01_Norm.f k a0_0 a0_1 a2).bind fun t208 => ((skuaref01_Norm.f k a0_0 a0_1 a3).bind fun t209 => (if a1.toList = ([38] : List UInt8) then (skuaref01_Do.j0 k a1 t208 t209 true a0_0 a0_1) else (if a1.toList = ([124] : List UInt8) then (skuaref01_Do.j0 k a1 t208 t209 true a0_0 a0_1) else (skuaref01_Do.j0 k a1 t208 t209 (a1.toList == ([94] : List UInt8)) a0_0 a0_1))))) else (some (0, 10)))) = some (r1, r2) := h
  clear h
  replace H := Option.bind_eq_some_iff.mp H
  obtain ⟨t207, A50, H⟩ := H
  replace H : (if t207 = true then ((skuaref01_Norm.f k a0_0 a0_1 a2).bind fun t208 => ((skuaref01_Norm.f k a0_0 a0_1 a3).bind fun t209 => (if a1.toList = ([38] : List UInt8) then (skuaref01_Do.j0 k a1 t208 t209 true a0_0 a0_1) else (if a1.toList = ([124] : List UInt8) then (skuaref01_Do.j0 k a1 t208 t209 true a0_0 a0_1) else (skuaref01_Do.j0 k a1 t208 t209 (a1.toList == ([94] : List UInt8)) a0_0 a0_1))))) else (some (0, 10))) = some (r1, r2) := H
  have A5 := Aside0.mk A50
  clear A50
  by_cases c6 : t207 = true
  · subst c6
    have H1 : ((skuaref01_Norm.f k a0_0 a0_1 a2).bind fun t208 => ((skuaref01_Norm.f k a0_0 a0_1 a3).bind fun t209 => (if a1.toList = ([38] : List UInt8) then (skuaref01_Do.j0 k a1 t208 t209 true a0_0 a0_1) else (if a1.toList = ([124] : List UInt8) then (skuaref01_Do.j0 k a1 t208 t209 true a0_0 a0_1) else (skuaref01_Do.j0 k a1 t208 t209 (a1.toList == ([94] : List UInt8)) a0_0 a0_1))))) = some (r1, r2) := by rw [if_pos rfl] at H; exact H
    clear H
    have H := H1
    clear H1
    replace H := Option.bind_eq_some_iff.mp H
    obtain ⟨t208, A70, H⟩ := H
    replace H : ((skuaref01_Norm.f k a0_0 a0_1 a3).bind fun t209 => (if a1.toList = ([38] : List UInt8) then (skuaref01_Do.j0 k a1 t208 t209 true a0_0 a0_1) else (if a1.toList = ([124] : List UInt8) then (skuaref01_Do.j0 k a1 t208 t209 true a0_0 a0_1) else (skuaref01_Do.j0 k a1 t208 t209 (a1.toList == ([94] : List UInt8)) a0_0 a0_1)))) = some (r1, r2) := H
    have A7 := Aside0.mk A70
    clear A70
    replace H := Option.bind_eq_some_iff.mp H
    obtain ⟨t209, A80, H⟩ := H
    replace H : (if a1.toList = ([38] : List UInt8) then (skuaref01_Do.j0 k a1 t208 t209 true a0_0 a0_1) else (if a1.toList = ([124] : List UInt8) then (skuaref01_Do.j0 k a1 t208 t209 true a0_0 a0_1) else (skuaref01_Do.j0 k a1 t208 t209 (a1.toList == ([94] : List UInt8)) a0_0 a0_1))) = some (r1, r2) := H
    have A8 := Aside0.mk A80
    clear A80
    have HC9 := Aside0.mk H
    clear H
    go_enter Tryd.func19, Tryd.ntmps19
    try go_wp2_with (first | ((with_reducible refine gate_dst (N := 4) rfl ?_); refine box_event ?hg (N := 4) ?hd (cs := #[.int .i64 a0_0, .bool a0_1]) (t := 23) ?hr ?_; (case hd => rfl); (case hg => rfl); (case hr => first | (go_simp; done) | (go_simp; rfl)); intro gb206 hg w10 hbox hb; have n0_ := Aside0.mk (below_step (by repeat (first | (with_reducible first | exact HB.out | apply below_alloc | apply pw_below_drewN | apply below_drew1) | exact HB.out)) hb); have n1_ := Aside0.mk (hbox); have n2_ := Aside0.mk ((by rw [hg]; exact (below_size (by repeat (first | (with_reducible first | exact HB.out | apply below_alloc | apply pw_below_drewN | apply below_drew1) | exact HB.out))) : w.heap.size ≤ gb206)); have n3_ := Aside0.mk ((by rw [hg]; exact (below_size (by repeat (first | (with_reducible first | exact HB.out | apply below_alloc | apply pw_below_drewN | apply below_drew1) | exact HB.out))) : w.heap.size ≤ gb206)); clear HB; have HB := n0_; have BK206 := n1_; have GW206 := n2_; have GE206 := n3_; clear n0_ n1_ n2_ n3_; clear hb hbox hg; have hcz11_0 : w10.cell? ⟨gb206, 0, none⟩ = some (.int .i64 a0_0) := (blk_cell BK206.out 0).trans rfl; have hcz11_1 : w10.cell? ⟨gb206, 1, none⟩ = some (.bool a0_1) := (blk_cell BK206.out 1).trans rfl; have hfz11_0 := blk_frozen BK206.out 0; have hfz11_1 := blk_frozen BK206.out 1) | ((with_reducible refine gate_callee (f := 24) rfl ?_); refine goesL_ (some 14) rfl rfl Tryd.func24 (by kernel_rfl) rfl #[.agg #[.int .i64 a0_0, .bool a0_1]] rfl (by (try simp only [List.map_toArray, List.map_cons, List.map_nil]); first | done | rfl | (simp only [List.length_drop, List.length_take]; rfl)) ?_; (with_reducible refine (skuaref01_Right.calls a0_0 a0_1 true _ A5.out).mono ?_); rintro e w12 ⟨rfl, hb⟩; refine ⟨_, rfl, ?_⟩; have n0_ := Aside0.mk (blk_below (g := gb206) (o := .cells #[.int .i64 a0_0, .bool a0_1] 23 (0, 0)) (by (with_reducible repeat (first | refine blk_drewN ?_ _ | refine blk_drew ?_ | refine blk_alloc ?_ _)); exact BK206.out) hb); have n1_ := Aside0.mk (below_step (by repeat (first | (with_reducible first | exact HB.out | apply below_alloc | apply pw_below_drewN | apply below_drew1 | refine below_set ?_ GE206.out) | exact HB.out)) hb); clear BK206; clear HB; have BK206 := n0_; have HB := n1_; clear n0_ n1_; (try clear hb); (try clear hb2); (try clear hk); (try clear hi)))
    have n0_ := Aside0.mk (blk_drew BK206.out)
    have n1_ := Aside0.mk (below_drew1 HB.out)
    clear BK206
    clear HB
    have BK206 := n0_
    have HB := n1_
    clear n0_ n1_
    refine start_ (n := 8) (S := fun w' => w'.cell? ⟨gb206, 0, none⟩ = some (.int .i64 a0_0) ∧ w'.cell? ⟨gb206, 1, none⟩ = some (.bool a0_1)) (ds := []) #[false, false, false, false, false, false, false, false] (by kernel_rfl) rfl rfl ⟨(blk_cell BK206.out 0).trans rfl, (blk_cell BK206.out 1).trans rfl⟩ (fun hHeld => ?_); refine with_tabW skuaref01_Do.tab3 skuaref01_Do.bits3 (fun HT_ HW_ => ?_)
    generalize w12.drew = w13 at BK206 HB hHeld ⊢
    refine pure_ (i := 1) (N := some 17) (v := ?_) (a' := ?_) #[false, true, false, false, false, false, false, false] rfl rfl (any_of HT_.out (by kernel_rfl)) (fun _ _ _ h => h) (Or.inl ⟨by rfl, ?_⟩) ?_ ?_
    rotate_left
    · intro w'
      go_simp
      with_reducible rfl
    rotate_left
    · simp only [Act.put, List.setIfInBounds_toArray, List.set_cons_zero, List.set_cons_succ, i64_w, i32_w]
      rfl
    refine pure_ (i := 4) (N := some 20) (v := ?_) (a' := ?_) #[false, true, false, false, true, false, false, false] rfl rfl (any_of HT_.out (by kernel_rfl)) (fun _ _ _ h => h) (Or.inl ⟨by rfl, ?_⟩) ?_ ?_
    rotate_left
    · intro w'
      go_simp
      with_reducible rfl
    rotate_left
    · simp only [Act.put, List.setIfInBounds_toArray, List.set_cons_zero, List.set_cons_succ, i64_w, i32_w]
      rfl
    refine take_ (i := 0) (N := some 16) (v := ?_) (a' := ?_) #[true, true, false, false, true, false, false, false] rfl rfl (take_ofW HT_.out HW_.out (by kernel_rfl)) (fun _ _ _ h => h) (Or.inl ⟨by rfl, ?_⟩) hHeld ?_ ?_
    rotate_left
    · rintro w' ⟨s0, s1⟩
      go_simp
      with_reducible rfl
    rotate_left
    · simp only [Act.put, List.setIfInBounds_toArray, List.set_cons_zero, List.set_cons_succ, i64_w, i32_w]
      rfl
    refine take_ (i := 3) (N := some 19) (v := ?_) (a' := ?_) #[true, true, false, true, true, false, false, false] rfl rfl (take_ofW HT_.out HW_.out (by kernel_rfl)) (fun _ _ _ h => h) (Or.inl ⟨by rfl, ?_⟩) hHeld ?_ ?_
    rotate_left
    · rintro w' ⟨s0, s1⟩
      go_simp
      with_reducible rfl
    rotate_left
    · simp only [Act.put, List.setIfInBounds_toArray, List.set_cons_zero, List.set_cons_succ, i64_w, i32_w]
      rfl
    refine one_ (i := 2) (N := some 18) #[true, true, true, true, true, false, false, false] rfl rfl (one_of HT_.out (by kernel_rfl)) (by decide) (fun K hK => ?_)
    refine goes_ Tryd.func15 (by kernel_rfl) rfl #[.agg #[.int .i64 a0_0, .bool a0_1], .int .u64 a2] (by rfl) rfl rfl (by (try simp only [List.map_toArray, List.map_cons, List.map_nil]); first | done | rfl | (simp only [List.length_drop, List.length_take]; rfl)) ?_
    with_reducible refine (skuaref01_Norm.calls k a0_0 a0_1 a2 t208 _ A7.out).mono ?_
    rintro e w14 ⟨rfl, hb⟩
    refine ⟨_, rfl, ?_⟩
    have n0_ := Aside0.mk (blk_below (g := gb206) (o := .cells #[.int .i64 a0_0, .bool a0_1] 23 (0, 0)) (by (with_reducible repeat (first | refine blk_drewN ?_ _ | refine blk_drew ?_ | refine blk_alloc ?_ _)); exact BK206.out) hb)
    have n1_ := Aside0.mk (below_step (by repeat (first | (with_reducible first | exact HB.out | apply below_alloc | apply pw_below_drewN | apply below_drew1 | refine below_set ?_ GE206.out) | exact HB.out)) hb)
    clear BK206
    clear HB
    have BK206 := n0_
    have HB := n1_
    clear n0_ n1_
    (try clear hb)
    (try clear hb2)
    (try clear hk)
    (try clear hi)
    refine hK.out _ _ ⟨(blk_cell BK206.out 0).trans rfl, (blk_cell BK206.out 1).trans rfl⟩ (fun hHeld => ?_)
    clear hK K
    refine norm_ (a' := ?_) ?_ ?_
    rotate_left
    · show Act.put _ (some 18) _ = _
      simp only [Act.put, List.setIfInBounds_toArray, List.set_cons_zero, List.set_cons_succ, i64_w, i32_w]
      rfl
    refine one_ (i := 5) (N := some 21) #[true, true, true, true, true, true, false, false] rfl rfl (one_of HT_.out (by kernel_rfl)) (by decide) (fun K hK => ?_)
    refine goes_ Tryd.func15 (by kernel_rfl) rfl #[.agg #[.int .i64 a0_0, .bool a0_1], .int .u64 a3] (by rfl) rfl rfl (by (try simp only [List.map_toArray, List.map_cons, List.map_nil]); first | done | rfl | (simp only [List.length_drop, List.length_take]; rfl)) ?_
    with_reducible refine (skuaref01_Norm.calls k a0_0 a0_1 a3 t209 _ A8.out).mono ?_
    rintro e w15 ⟨rfl, hb⟩
    refine ⟨_, rfl, ?_⟩
    have n0_ := Aside0.mk (blk_below (g := gb206) (o := .cells #[.int .i64 a0_0, .bool a0_1] 23 (0, 0)) (by (with_reducible repeat (first | refine blk_drewN ?_ _ | refine blk_drew ?_ | refine blk_alloc ?_ _)); exact BK206.out) hb)
    have n1_ := Aside0.mk (below_step (by repeat (first | (with_reducible first | exact HB.out | apply below_alloc | apply pw_below_drewN | apply below_drew1 | refine below_set ?_ GE206.out) | exact HB.out)) hb)
    clear BK206
    clear HB
    have BK206 := n0_
    have HB := n1_
    clear n0_ n1_
    (try clear hb)
    (try clear hb2)
    (try clear hk)
    (try clear hi)
    refine hK.out _ _ ⟨(blk_cell BK206.out 0).trans rfl, (blk_cell BK206.out 1).trans rfl⟩ (fun hHeld => ?_)
    clear hK K
    refine norm_ (a' := ?_) ?_ ?_
    rotate_left
    · show Act.put _ (some 21) _ = _
      simp only [Act.put, List.setIfInBounds_toArray, List.set_cons_zero, List.set_cons_succ, i64_w, i32_w]
      rfl
    refine pure_ (i := 6) (N := some 2) (v := ?_) (a' := ?_) #[true, true, true, true, true, true, true, false] rfl rfl (any_of HT_.out (by kernel_rfl)) (fun _ _ _ h => h) (Or.inl ⟨by rfl, ?_⟩) ?_ ?_
    rotate_left
    · intro w'
      go_simp
      with_reducible rfl
    rotate_left
    · simp only [Act.put, List.setIfInBounds_toArray, List.set_cons_zero, List.set_cons_succ, i64_w, i32_w]
      rfl
    refine pure_ (i := 7) (N := some 3) (v := ?_) (a' := ?_) #[true, true, true, true, true, true, true, true] rfl rfl (any_of HT_.out (by kernel_rfl)) (fun _ _ _ h => h) (Or.inl ⟨by rfl, ?_⟩) ?_ ?_
    rotate_left
    · intro w'
      go_simp
      with_reducible rfl
    rotate_left
    · simp only [Act.put, List.setIfInBounds_toArray, List.set_cons_zero, List.set_cons_succ, i64_w, i32_w]
      rfl
    refine done_ (done_of HT_.out (by kernel_rfl)) ?_
    go_upto_region 4 with (fail)
    go_cut [31] (fun v31 wc => ∃ (kq : Nat) (x31_8 : Bool), v31 = .bool x31_8 ∧ Aside0 (skuaref01_Do.j0 kq a1 t208 t209 x31_8 a0_0 a0_1 = some (r1, r2)) ∧ Aside0 (kq ≤ k) ∧ Aside0 (wc.heap[gb206]? = some (.cells #[.int .i64 a0_0, .bool a0_1] 23 (0, 0))) ∧ Aside0 (Below w.heap.size w wc))
    case first =>
      have H := HC9.out
      clear HC9
      by_cases c16 : a1.toList = ([38] : List UInt8)
      · rw [if_pos c16] at H
        have c16b0 : (a1.toList == ([38] : List UInt8)) = true := beq_iff_eq.mpr c16
        have c16b1 : (a1.toList != ([38] : List UInt8)) = false := bne_eq_false_iff_eq.mpr c16
        clear c16
        (first | rw [c16b0] | (simp only [i64_w, i32_w]; rw [c16b0]) | skip)
        have H' := Aside0.mk H
        clear H
        go_wp2
        go_meet
        case rel => exact ⟨_, (true), (by first | rfl | (simp; done) | (simp [*]; done)), H', ⟨by first | omega | exact Nat.le_refl _⟩, ⟨by (with_reducible repeat (first | refine blk_drewN ?_ _ | refine blk_drew ?_ | refine blk_alloc ?_ _)); exact BK206.out⟩, ⟨by repeat (first | (with_reducible first | exact HB.out | apply below_alloc | apply pw_below_drewN | apply below_drew1 | refine below_set ?_ GE206.out) | exact HB.out)⟩⟩
      · rw [if_neg c16] at H
        have c16b0 : (a1.toList == ([38] : List UInt8)) = false := beq_eq_false_iff_ne.mpr c16
        have c16b1 : (a1.toList != ([38] : List UInt8)) = true := bne_iff_ne.mpr c16
        (first | rw [c16b0] | (simp only [i64_w, i32_w]; rw [c16b0]) | skip)
        by_cases c17 : a1.toList = ([124] : List UInt8)
        · rw [if_pos c17] at H
          have c17b0 : (a1.toList == ([124] : List UInt8)) = true := beq_iff_eq.mpr c17
          have c17b1 : (a1.toList != ([124] : List UInt8)) = false := bne_eq_false_iff_eq.mpr c17
          clear c17
          have H' := Aside0.mk H
          clear H
          go_wp2
          go_meet
          case rel => exact ⟨_, (true), (by first | rfl | (simp; done) | (simp [*]; done)), H', ⟨by first | omega | exact Nat.le_refl _⟩, ⟨by (with_reducible repeat (first | refine blk_drewN ?_ _ | refine blk_drew ?_ | refine blk_alloc ?_ _)); exact BK206.out⟩, ⟨by repeat (first | (with_reducible first | exact HB.out | apply below_alloc | apply pw_below_drewN | apply below_drew1 | refine below_set ?_ GE206.out) | exact HB.out)⟩⟩
        · rw [if_neg c17] at H
          have c17b0 : (a1.toList == ([124] : List UInt8)) = false := beq_eq_false_iff_ne.mpr c17
          have c17b1 : (a1.toList != ([124] : List UInt8)) = true := bne_iff_ne.mpr c17
          have H' := Aside0.mk H
          clear H
          go_wp2
          go_meet
          case rel => exact ⟨_, ((a1.toList == ([94] : List UInt8))), (by first | rfl | (simp; done) | (simp [*]; done)), H', ⟨by first | omega | exact Nat.le_refl _⟩, ⟨by (with_reducible repeat (first | refine blk_drewN ?_ _ | refine blk_drew ?_ | refine blk_alloc ?_ _)); exact BK206.out⟩, ⟨by repeat (first | (with_reducible first | exact HB.out | apply below_alloc | apply pw_below_drewN | apply below_drew1 | refine below_set ?_ GE206.out) | exact HB.out)⟩⟩
    case rest =>
      clear HC9
      try clear c1
      try clear c2
      try clear p2
      try clear c6
      try clear c15
      try clear c16
      try clear c16b0
      try clear c16b1
      try clear c17
      try clear c17b0
      try clear c17b1
      try clear hcz11_0
      try clear hcz11_1
      try clear hfz11_0
      try clear hfz11_1
      obtain ⟨kq, x31_8, rfl, HA, HJ8, BK206, HB⟩ := hcut
      cases kq with
      | zero => exact absurd HA.out (by simp [skuaref01_Do.j0])
      | succ kj8 =>
        have H := HA.out
        clear HA
        simp only [skuaref01_Do.j0] at H
        by_cases c18 : x31_8 = true
        · subst c18
          have H1 : ((skuaref01_each.f kj8 a0_0 a0_1 a1 t208 t209).bind fun t210 => (some (t210, 0))) = some (r1, r2) := by rw [if_pos rfl] at H; exact H
          clear H
          have H := H1
          clear H1
          replace H := Option.bind_eq_some_iff.mp H
          obtain ⟨t210, A190, H⟩ := H
          replace H : (some (t210, 0)) = some (r1, r2) := H
          have A19 := Aside0.mk A190
          clear A190
          simp only [Option.some.injEq, Prod.mk.injEq] at H
          obtain ⟨rfl, rfl⟩ := H
          have hcz20_0 : wc.cell? ⟨gb206, 0, none⟩ = some (.int .i64 a0_0) := (blk_cell BK206.out 0).trans rfl
          have hcz20_1 : wc.cell? ⟨gb206, 1, none⟩ = some (.bool a0_1) := (blk_cell BK206.out 1).trans rfl
          have hfz20_0 := blk_frozen BK206.out 0
          have hfz20_1 := blk_frozen BK206.out 1
          go_wp2_with (first | ((with_reducible refine gate_callee (f := 37) rfl ?_); refine goesL_ (some 36) rfl rfl Tryd.func37 (by kernel_rfl) rfl #[.agg #[.int .i64 a0_0, .bool a0_1], .string a1, .int .u64 t208, .int .u64 t209] rfl (by (try simp only [List.map_toArray, List.map_cons, List.map_nil]); first | done | rfl | (simp only [List.length_drop, List.length_take]; rfl)) ?_; (with_reducible refine (skuaref01_each.calls kj8 a0_0 a0_1 a1 t208 t209 t210 _ A19.out).mono ?_); rintro e w21 ⟨rfl, hb⟩; refine ⟨_, rfl, ?_⟩; have n0_ := Aside0.mk (blk_below (g := gb206) (o := .cells #[.int .i64 a0_0, .bool a0_1] 23 (0, 0)) (by (with_reducible repeat (first | refine blk_drewN ?_ _ | refine blk_drew ?_ | refine blk_alloc ?_ _)); exact BK206.out) hb); have n1_ := Aside0.mk (below_step (by repeat (first | (with_reducible first | exact HB.out | apply below_alloc | apply pw_below_drewN | apply below_drew1 | refine below_set ?_ GE206.out) | exact HB.out)) hb); clear BK206; clear HB; have BK206 := n0_; have HB := n1_; clear n0_ n1_; (try clear hb); (try clear hb2); (try clear hk); (try clear hi)))
          go_ret2
          exact ⟨by first | rfl | (simp [errW_none, errW_some] <;> rfl) | (simp [*, errW_none, errW_some] <;> rfl), by repeat (first | (with_reducible first | exact HB.out | apply below_alloc | apply pw_below_drewN | apply below_drew1 | refine below_set ?_ GE206.out) | exact HB.out)⟩
        · replace c18 := Bool.eq_false_iff.mpr c18
          subst c18
          have H1 : (if a0_0 = 1 then (some (0, 12)) else (if a1.toList = ([43] : List UInt8) then ((skuaref01_Norm.f kj8 a0_0 a0_1 (IntKind.u64.wrap (t208 + t209))).bind fun t211 => (some (t211, 0))) else (if a1.toList = ([45] : List UInt8) then ((skuaref01_Norm.f kj8 a0_0 a0_1 (IntKind.u64.wrap (t208 - t209))).bind fun t212 => (some (t212, 0))) else (if a1.toList = ([42] : List UInt8) then ((skuaref01_Norm.f kj8 a0_0 a0_1 (IntKind.u64.wrap (t208 * t209))).bind fun t213 => (some (t213, 0))) else (if a1.toList = ([47] : List UInt8) then (skuaref01_Do.j1 kj8 a1 t208 t209 a1 (a1.toList == ([47] : List UInt8)) a0_0 a0_1) else (skuaref01_Do.j1 kj8 a1 t208 t209 a1 (a1.toList == ([37] : List UInt8)) a0_0 a0_1)))))) = some (r1, r2) := by rw [if_neg (show ¬ (false = true) by decide)] at H; exact H
          clear H
          have H := H1
          clear H1
          by_cases c22 : a0_0 = 1
          · rw [if_pos c22] at H
            have c22b0 : (a0_0 == 1) = true := beq_iff_eq.mpr c22
            have c22b1 : (a0_0 != 1) = false := bne_eq_false_iff_eq.mpr c22
            clear c22
            simp only [Option.some.injEq, Prod.mk.injEq] at H
            obtain ⟨rfl, rfl⟩ := H
            have hcz23_0 : wc.cell? ⟨gb206, 0, none⟩ = some (.int .i64 a0_0) := (blk_cell BK206.out 0).trans rfl
            have hcz23_1 : wc.cell? ⟨gb206, 1, none⟩ = some (.bool a0_1) := (blk_cell BK206.out 1).trans rfl
            have hfz23_0 := blk_frozen BK206.out 0
            have hfz23_1 := blk_frozen BK206.out 1
            go_wp2
            go_ret2
            exact ⟨by first | rfl | (simp [errW_none, errW_some] <;> rfl) | (simp [*, errW_none, errW_some] <;> rfl), by repeat (first | (with_reducible first | exact HB.out | apply below_alloc | apply pw_below_drewN | apply below_drew1 | refine below_set ?_ GE206.out) | exact HB.out)⟩
          · rw [if_neg c22] at H
            have c22b0 : (a0_0 == 1) = false := beq_eq_false_iff_ne.mpr c22
            have c22b1 : (a0_0 != 1) = true := bne_iff_ne.mpr c22
            by_cases c24 : a1.toList = ([43] : List UInt8)
            · rw [if_pos c24] at H
              have c24b0 : (a1.toList == ([43] : List UInt8)) = true := beq_iff_eq.mpr c24
              have c24b1 : (a1.toList != ([43] : List UInt8)) = false := bne_eq_false_iff_eq.mpr c24
              clear c24
              replace H := Option.bind_eq_some_iff.mp H
              obtain ⟨t211, A250, H⟩ := H
              replace H : (some (t211, 0)) = some (r1, r2) := H
              have A25 := Aside0.mk A250
              clear A250
              simp only [Option.some.injEq, Prod.mk.injEq] at H
              obtain ⟨rfl, rfl⟩ := H
              have hcz26_0 : wc.cell? ⟨gb206, 0, none⟩ = some (.int .i64 a0_0) := (blk_cell BK206.out 0).trans rfl
              have hcz26_1 : wc.cell? ⟨gb206, 1, none⟩ = some (.bool a0_1) := (blk_cell BK206.out 1).trans rfl
              have hfz26_0 := blk_frozen BK206.out 0
              have hfz26_1 := blk_frozen BK206.out 1
              go_wp2_with (first | ((with_reducible refine gate_callee (f := 15) rfl ?_); refine goesL_ (some 86) rfl rfl Tryd.func15 (by kernel_rfl) rfl #[.agg #[.int .i64 a0_0, .bool a0_1], .int .u64 (IntKind.u64.wrap (t208 + t209))] rfl (by (try simp only [List.map_toArray, List.map_cons, List.map_nil]); first | done | rfl | (simp only [List.length_drop, List.length_take]; rfl)) ?_; (with_reducible refine (skuaref01_Norm.calls kj8 a0_0 a0_1 (IntKind.u64.wrap (t208 + t209)) t211 _ A25.out).mono ?_); rintro e w27 ⟨rfl, hb⟩; refine ⟨_, rfl, ?_⟩; have n0_ := Aside0.mk (blk_below (g := gb206) (o := .cells #[.int .i64 a0_0, .bool a0_1] 23 (0, 0)) (by (with_reducible repeat (first | refine blk_drewN ?_ _ | refine blk_drew ?_ | refine blk_alloc ?_ _)); exact BK206.out) hb); have n1_ := Aside0.mk (below_step (by repeat (first | (with_reducible first | exact HB.out | apply below_alloc | apply pw_below_drewN | apply below_drew1 | refine below_set ?_ GE206.out) | exact HB.out)) hb); clear BK206; clear HB; have BK206 := n0_; have HB := n1_; clear n0_ n1_; (try clear hb); (try clear hb2); (try clear hk); (try clear hi)))
              go_ret2
              exact ⟨by first | rfl | (simp [errW_none, errW_some] <;> rfl) | (simp [*, errW_none, errW_some] <;> rfl), by repeat (first | (with_reducible first | exact HB.out | apply below_alloc | apply pw_below_drewN | apply below_drew1 | refine below_set ?_ GE206.out) | exact HB.out)⟩
            · rw [if_neg c24] at H
              have c24b0 : (a1.toList == ([43] : List UInt8)) = false := beq_eq_false_iff_ne.mpr c24
              have c24b1 : (a1.toList != ([43] : List UInt8)) = true := bne_iff_ne.mpr c24
              by_cases c28 : a1.toList = ([45] : List UInt8)
              · rw [if_pos c28] at H
                have c28b0 : (a1.toList == ([45] : List UInt8)) = true := beq_iff_eq.mpr c28
                have c28b1 : (a1.toList != ([45] : List UInt8)) = false := bne_eq_false_iff_eq.mpr c28
                clear c28
                replace H := Option.bind_eq_some_iff.mp H
                obtain ⟨t212, A290, H⟩ := H
                replace H : (some (t212, 0)) = some (r1, r2) := H
                have A29 := Aside0.mk A290
                clear A290
                simp only [Option.some.injEq, Prod.mk.injEq] at H
                obtain ⟨rfl, rfl⟩ := H
                have hcz30_0 : wc.cell? ⟨gb206, 0, none⟩ = some (.int .i64 a0_0) := (blk_cell BK206.out 0).trans rfl
                have hcz30_1 : wc.cell? ⟨gb206, 1, none⟩ = some (.bool a0_1) := (blk_cell BK206.out 1).trans rfl
                have hfz30_0 := blk_frozen BK206.out 0
                have hfz30_1 := blk_frozen BK206.out 1
                go_wp2_with (first | ((with_reducible refine gate_callee (f := 15) rfl ?_); refine goesL_ (some 86) rfl rfl Tryd.func15 (by kernel_rfl) rfl #[.agg #[.int .i64 a0_0, .bool a0_1], .int .u64 (IntKind.u64.wrap (t208 - t209))] rfl (by (try simp only [List.map_toArray, List.map_cons, List.map_nil]); first | done | rfl | (simp only [List.length_drop, List.length_take]; rfl)) ?_; (with_reducible refine (skuaref01_Norm.calls kj8 a0_0 a0_1 (IntKind.u64.wrap (t208 - t209)) t212 _ A29.out).mono ?_); rintro e w31 ⟨rfl, hb⟩; refine ⟨_, rfl, ?_⟩; have n0_ := Aside0.mk (blk_below (g := gb206) (o := .cells #[.int .i64 a0_0, .bool a0_1] 23 (0, 0)) (by (with_reducible repeat (first | refine blk_drewN ?_ _ | refine blk_drew ?_ | refine blk_alloc ?_ _)); exact BK206.out) hb); have n1_ := Aside0.mk (below_step (by repeat (first | (with_reducible first | exact HB.out | apply below_alloc | apply pw_below_drewN | apply below_drew1 | refine below_set ?_ GE206.out) | exact HB.out)) hb); clear BK206; clear HB; have BK206 := n0_; have HB := n1_; clear n0_ n1_; (try clear hb); (try clear hb2); (try clear hk); (try clear hi)))
                go_ret2
                exact ⟨by first | rfl | (simp [errW_none, errW_some] <;> rfl) | (simp [*, errW_none, errW_some] <;> rfl), by repeat (first | (with_reducible first | exact HB.out | apply below_alloc | apply pw_below_drewN | apply below_drew1 | refine below_set ?_ GE206.out) | exact HB.out)⟩
              · rw [if_neg c28] at H
                have c28b0 : (a1.toList == ([45] : List UInt8)) = false := beq_eq_false_iff_ne.mpr c28
                have c28b1 : (a1.toList != ([45] : List UInt8)) = true := bne_iff_ne.mpr c28
                by_cases c32 : a1.toList = ([42] : List UInt8)
                · rw [if_pos c32] at H
                  have c32b0 : (a1.toList == ([42] : List UInt8)) = true := beq_iff_eq.mpr c32
                  have c32b1 : (a1.toList != ([42] : List UInt8)) = false := bne_eq_false_iff_eq.mpr c32
                  clear c32
                  replace H := Option.bind_eq_some_iff.mp H
                  obtain ⟨t213, A330, H⟩ := H
                  replace H : (some (t213, 0)) = some (r1, r2) := H
                  have A33 := Aside0.mk A330
                  clear A330
                  simp only [Option.some.injEq, Prod.mk.injEq] at H
                  obtain ⟨rfl, rfl⟩ := H
                  have hcz34_0 : wc.cell? ⟨gb206, 0, none⟩ = some (.int .i64 a0_0) := (blk_cell BK206.out 0).trans rfl
                  have hcz34_1 : wc.cell? ⟨gb206, 1, none⟩ = some (.bool a0_1) := (blk_cell BK206.out 1).trans rfl
                  have hfz34_0 := blk_frozen BK206.out 0
                  have hfz34_1 := blk_frozen BK206.out 1
                  go_wp2_with (first | ((with_reducible refine gate_callee (f := 15) rfl ?_); refine goesL_ (some 86) rfl rfl Tryd.func15 (by kernel_rfl) rfl #[.agg #[.int .i64 a0_0, .bool a0_1], .int .u64 (IntKind.u64.wrap (t208 * t209))] rfl (by (try simp only [List.map_toArray, List.map_cons, List.map_nil]); first | done | rfl | (simp only [List.length_drop, List.length_take]; rfl)) ?_; (with_reducible refine (skuaref01_Norm.calls kj8 a0_0 a0_1 (IntKind.u64.wrap (t208 * t209)) t213 _ A33.out).mono ?_); rintro e w35 ⟨rfl, hb⟩; refine ⟨_, rfl, ?_⟩; have n0_ := Aside0.mk (blk_below (g := gb206) (o := .cells #[.int .i64 a0_0, .bool a0_1] 23 (0, 0)) (by (with_reducible repeat (first | refine blk_drewN ?_ _ | refine blk_drew ?_ | refine blk_alloc ?_ _)); exact BK206.out) hb); have n1_ := Aside0.mk (below_step (by repeat (first | (with_reducible first | exact HB.out | apply below_alloc | apply pw_below_drewN | apply below_drew1 | refine below_set ?_ GE206.out) | exact HB.out)) hb); clear BK206; clear HB; have BK206 := n0_; have HB := n1_; clear n0_ n1_; (try clear hb); (try clear hb2); (try clear hk); (try clear hi)))
                  go_ret2
                  exact ⟨by first | rfl | (simp [errW_none, errW_some] <;> rfl) | (simp [*, errW_none, errW_some] <;> rfl), by repeat (first | (with_reducible first | exact HB.out | apply below_alloc | apply pw_below_drewN | apply below_drew1 | refine below_set ?_ GE206.out) | exact HB.out)⟩
                · rw [if_neg c32] at H
                  have c32b0 : (a1.toList == ([42] : List UInt8)) = false := beq_eq_false_iff_ne.mpr c32
                  have c32b1 : (a1.toList != ([42] : List UInt8)) = true := bne_iff_ne.mpr c32
                  have HC36 := Aside0.mk H
                  clear H
                  have hcz37_0 : wc.cell? ⟨gb206, 0, none⟩ = some (.int .i64 a0_0) := (blk_cell BK206.out 0).trans rfl
                  have hcz37_1 : wc.cell? ⟨gb206, 1, none⟩ = some (.bool a0_1) := (blk_cell BK206.out 1).trans rfl
                  have hfz37_0 := blk_frozen BK206.out 0
                  have hfz37_1 := blk_frozen BK206.out 1
                  go_upto_if 56 with (fail)
                  go_cut [56] (fun v56 wc => ∃ (kq : Nat) (x56_35 : Bool), v56 = .bool x56_35 ∧ Aside0 (skuaref01_Do.j1 kq a1 t208 t209 a1 x56_35 a0_0 a0_1 = some (r1, r2)) ∧ Aside0 (kq ≤ kj8) ∧ Aside0 (wc.heap[gb206]? = some (.cells #[.int .i64 a0_0, .bool a0_1] 23 (0, 0))) ∧ Aside0 (Below w.heap.size w wc))
                  case first =>
                    have H := HC36.out
                    clear HC36
                    by_cases c38 : a1.toList = ([47] : List UInt8)
                    · rw [if_pos c38] at H
                      have c38b0 : (a1.toList == ([47] : List UInt8)) = true := beq_iff_eq.mpr c38
                      have c38b1 : (a1.toList != ([47] : List UInt8)) = false := bne_eq_false_iff_eq.mpr c38
                      clear c38
                      (first | rw [c38b0] | (simp only [i64_w, i32_w]; rw [c38b0]) | skip)
                      have H' := Aside0.mk H
                      clear H
                      go_wp2
                      go_meet
                      case rel => exact ⟨_, ((a1.toList == ([47] : List UInt8))), (by first | rfl | (simp; done) | (simp [*]; done)), H', ⟨by have := HJ8.out; first | omega | exact Nat.le_refl _⟩, ⟨by (with_reducible repeat (first | refine blk_drewN ?_ _ | refine blk_drew ?_ | refine blk_alloc ?_ _)); exact BK206.out⟩, ⟨by repeat (first | (with_reducible first | exact HB.out | apply below_alloc | apply pw_below_drewN | apply below_drew1 | refine below_set ?_ GE206.out) | exact HB.out)⟩⟩
                    · rw [if_neg c38] at H
                      have c38b0 : (a1.toList == ([47] : List UInt8)) = false := beq_eq_false_iff_ne.mpr c38
                      have c38b1 : (a1.toList != ([47] : List UInt8)) = true := bne_iff_ne.mpr c38
                      (first | rw [c38b0] | (simp only [i64_w, i32_w]; rw [c38b0]) | skip)
                      have H' := Aside0.mk H
                      clear H
                      go_wp2
                      go_meet
                      case rel => exact ⟨_, ((a1.toList == ([37] : List UInt8))), (by first | rfl | (simp; done) | (simp [*]; done)), H', ⟨by have := HJ8.out; first | omega | exact Nat.le_refl _⟩, ⟨by (with_reducible repeat (first | refine blk_drewN ?_ _ | refine blk_drew ?_ | refine blk_alloc ?_ _)); exact BK206.out⟩, ⟨by repeat (first | (with_reducible first | exact HB.out | apply below_alloc | apply pw_below_drewN | apply below_drew1 | refine below_set ?_ GE206.out) | exact HB.out)⟩⟩
                  case rest =>
                    clear HC36
                    try clear c1
                    try clear c2
                    try clear p2
                    try clear c3
                    try clear c6
                    try clear c15
                    try clear c16
                    try clear c16b0
                    try clear c16b1
                    try clear c17
                    try clear c17b0
                    try clear c17b1
                    try clear c18
                    try clear c19
                    try clear c22
                    try clear c22b0
                    try clear c22b1
                    try clear c24
                    try clear c24b0
                    try clear c24b1
                    try clear c28
                    try clear c28b0
                    try clear c28b1
                    try clear c32
                    try clear c32b0
                    try clear c32b1
                    try clear c37
                    try clear c38
                    try clear c38b0
                    try clear c38b1
                    try clear hcz11_0
                    try clear hcz11_1
                    try clear hcz20_0
                    try clear hcz20_1
                    try clear hcz23_0
                    try clear hcz23_1
                    try clear hcz26_0
                    try clear hcz26_1
                    try clear hcz30_0
                    try clear hcz30_1
                    try clear hcz34_0
                    try clear hcz34_1
                    try clear hcz37_0
                    try clear hcz37_1
                    try clear hfz11_0
                    try clear hfz11_1
                    try clear hfz20_0
                    try clear hfz20_1
                    try clear hfz23_0
                    try clear hfz23_1
                    try clear hfz26_0
                    try clear hfz26_1
                    try clear hfz30_0
                    try clear hfz30_1
                    try clear hfz34_0
                    try clear hfz34_1
                    try clear hfz37_0
                    try clear hfz37_1
                    try clear p2
                    obtain ⟨kq, x56_35, rfl, HA, HJ35, BK206, HB⟩ := hcut
                    cases kq with
                    | zero => exact absurd HA.out (by simp [skuaref01_Do.j1])
                    | succ kj35 =>
                      have H := HA.out
                      clear HA
                      simp only [skuaref01_Do.j1] at H
                      by_cases c39 : x56_35 = true
                      · subst c39
                        have H1 : (if t209 = 0 then (some (0, 11)) else ((skuaref01_divide.f kj35 a0_0 a0_1 t208 t209).bind fun bt214 => (if a1.toList = ([37] : List UInt8) then ((skuaref01_Norm.f kj35 a0_0 a0_1 bt214.2).bind fun t216 => (some (t216, 0))) else ((skuaref01_Norm.f kj35 a0_0 a0_1 bt214.1).bind fun t217 => (some (t217, 0)))))) = some (r1, r2) := by rw [if_pos rfl] at H; exact H
                        clear H
                        have H := H1
                        clear H1
                        by_cases c40 : t209 = 0
                        · rw [if_pos c40] at H
                          have c40b0 : (t209 == 0) = true := beq_iff_eq.mpr c40
                          have c40b1 : (t209 != 0) = false := bne_eq_false_iff_eq.mpr c40
                          clear c40
                          simp only [Option.some.injEq, Prod.mk.injEq] at H
                          obtain ⟨rfl, rfl⟩ := H
                          go_wp2
                          go_ret2
                          exact ⟨by first | rfl | (simp [errW_none, errW_some] <;> rfl) | (simp [*, errW_none, errW_some] <;> rfl), by repeat (first | (with_reducible first | exact HB.out | apply below_alloc | apply pw_below_drewN | apply below_drew1 | refine below_set ?_ GE206.out) | exact HB.out)⟩
                        · rw [if_neg c40] at H
                          have c40b0 : (t209 == 0) = false := beq_eq_false_iff_ne.mpr c40
                          have c40b1 : (t209 != 0) = true := bne_iff_ne.mpr c40
                          replace H := Option.bind_eq_some_iff.mp H
                          obtain ⟨⟨t214, t215⟩, A410, H⟩ := H
                          replace H : (if a1.toList = ([37] : List UInt8) then ((skuaref01_Norm.f kj35 a0_0 a0_1 t215).bind fun t216 => (some (t216, 0))) else ((skuaref01_Norm.f kj35 a0_0 a0_1 t214).bind fun t217 => (some (t217, 0)))) = some (r1, r2) := H
                          have A41 := Aside0.mk A410
                          clear A410
                          by_cases c42 : a1.toList = ([37] : List UInt8)
                          · rw [if_pos c42] at H
                            have c42b0 : (a1.toList == ([37] : List UInt8)) = true := beq_iff_eq.mpr c42
                            have c42b1 : (a1.toList != ([37] : List UInt8)) = false := bne_eq_false_iff_eq.mpr c42
                            clear c42
                            replace H := Option.bind_eq_some_iff.mp H
                            obtain ⟨t216, A430, H⟩ := H
                            replace H : (some (t216, 0)) = some (r1, r2) := H
                            have A43 := Aside0.mk A430
                            clear A430
                            simp only [Option.some.injEq, Prod.mk.injEq] at H
                            obtain ⟨rfl, rfl⟩ := H
                            have hcz44_0 : wc.cell? ⟨gb206, 0, none⟩ = some (.int .i64 a0_0) := (blk_cell BK206.out 0).trans rfl
                            have hcz44_1 : wc.cell? ⟨gb206, 1, none⟩ = some (.bool a0_1) := (blk_cell BK206.out 1).trans rfl
                            have hfz44_0 := blk_frozen BK206.out 0
                            have hfz44_1 := blk_frozen BK206.out 1
                            go_wp2_with (first | ((with_reducible refine gate_callee (f := 38) rfl ?_); refine goesL_ (some 65) rfl rfl Tryd.func38 (by kernel_rfl) rfl #[.agg #[.int .i64 a0_0, .bool a0_1], .int .u64 t208, .int .u64 t209] rfl (by (try simp only [List.map_toArray, List.map_cons, List.map_nil]); first | done | rfl | (simp only [List.length_drop, List.length_take]; rfl)) ?_; (with_reducible refine (skuaref01_divide.calls kj35 a0_0 a0_1 t208 t209 t214 t215 _ A41.out).mono ?_); rintro e w45 ⟨rfl, hb⟩; refine ⟨_, rfl, ?_⟩; have n0_ := Aside0.mk (blk_below (g := gb206) (o := .cells #[.int .i64 a0_0, .bool a0_1] 23 (0, 0)) (by (with_reducible repeat (first | refine blk_drewN ?_ _ | refine blk_drew ?_ | refine blk_alloc ?_ _)); exact BK206.out) hb); have n1_ := Aside0.mk (below_step (by repeat (first | (with_reducible first | exact HB.out | apply below_alloc | apply pw_below_drewN | apply below_drew1 | refine below_set ?_ GE206.out) | exact HB.out)) hb); clear BK206; clear HB; have BK206 := n0_; have HB := n1_; clear n0_ n1_; (try clear hb); (try clear hb2); (try clear hk); (try clear hi); have hcz46_0 : w45.cell? ⟨gb206, 0, none⟩ = some (.int .i64 a0_0) := (blk_cell BK206.out 0).trans rfl; have hcz46_1 : w45.cell? ⟨gb206, 1, none⟩ = some (.bool a0_1) := (blk_cell BK206.out 1).trans rfl; have hfz46_0 := blk_frozen BK206.out 0; have hfz46_1 := blk_frozen BK206.out 1) | ((with_reducible refine gate_callee (f := 15) rfl ?_); refine goesL_ (some 86) rfl rfl Tryd.func15 (by kernel_rfl) rfl #[.agg #[.int .i64 a0_0, .bool a0_1], .int .u64 t215] rfl (by (try simp only [List.map_toArray, List.map_cons, List.map_nil]); first | done | rfl | (simp only [List.length_drop, List.length_take]; rfl)) ?_; (with_reducible refine (skuaref01_Norm.calls kj35 a0_0 a0_1 t215 t216 _ A43.out).mono ?_); rintro e w47 ⟨rfl, hb⟩; refine ⟨_, rfl, ?_⟩; have n0_ := Aside0.mk (blk_below (g := gb206) (o := .cells #[.int .i64 a0_0, .bool a0_1] 23 (0, 0)) (by (with_reducible repeat (first | refine blk_drewN ?_ _ | refine blk_drew ?_ | refine blk_alloc ?_ _)); exact BK206.out) hb); have n1_ := Aside0.mk (below_step (by repeat (first | (with_reducible first | exact HB.out | apply below_alloc | apply pw_below_drewN | apply below_drew1 | refine below_set ?_ GE206.out) | exact HB.out)) hb); clear BK206; clear HB; have BK206 := n0_; have HB := n1_; clear n0_ n1_; (try clear hb); (try clear hb2); (try clear hk); (try clear hi)))
                            go_ret2
                            exact ⟨by first | rfl | (simp [errW_none, errW_some] <;> rfl) | (simp [*, errW_none, errW_some] <;> rfl), by repeat (first | (with_reducible first | exact HB.out | apply below_alloc | apply pw_below_drewN | apply below_drew1 | refine below_set ?_ GE206.out) | exact HB.out)⟩
                          · rw [if_neg c42] at H
                            have c42b0 : (a1.toList == ([37] : List UInt8)) = false := beq_eq_false_iff_ne.mpr c42
                            have c42b1 : (a1.toList != ([37] : List UInt8)) = true := bne_iff_ne.mpr c42
                            replace H := Option.bind_eq_some_iff.mp H
                            obtain ⟨t217, A480, H⟩ := H
                            replace H : (some (t217, 0)) = some (r1, r2) := H
                            have A48 := Aside0.mk A480
                            clear A480
                            simp only [Option.some.injEq, Prod.mk.injEq] at H
                            obtain ⟨rfl, rfl⟩ := H
                            have hcz49_0 : wc.cell? ⟨gb206, 0, none⟩ = some (.int .i64 a0_0) := (blk_cell BK206.out 0).trans rfl
                            have hcz49_1 : wc.cell? ⟨gb206, 1, none⟩ = some (.bool a0_1) := (blk_cell BK206.out 1).trans rfl
                            have hfz49_0 := blk_frozen BK206.out 0
                            have hfz49_1 := blk_frozen BK206.out 1
                            go_wp2_with (first | ((with_reducible refine gate_callee (f := 38) rfl ?_); refine goesL_ (some 65) rfl rfl Tryd.func38 (by kernel_rfl) rfl #[.agg #[.int .i64 a0_0, .bool a0_1], .int .u64 t208, .int .u64 t209] rfl (by (try simp only [List.map_toArray, List.map_cons, List.map_nil]); first | done | rfl | (simp only [List.length_drop, List.length_take]; rfl)) ?_; (with_reducible refine (skuaref01_divide.calls kj35 a0_0 a0_1 t208 t209 t214 t215 _ A41.out).mono ?_); rintro e w50 ⟨rfl, hb⟩; refine ⟨_, rfl, ?_⟩; have n0_ := Aside0.mk (blk_below (g := gb206) (o := .cells #[.int .i64 a0_0, .bool a0_1] 23 (0, 0)) (by (with_reducible repeat (first | refine blk_drewN ?_ _ | refine blk_drew ?_ | refine blk_alloc ?_ _)); exact BK206.out) hb); have n1_ := Aside0.mk (below_step (by repeat (first | (with_reducible first | exact HB.out | apply below_alloc | apply pw_below_drewN | apply below_drew1 | refine below_set ?_ GE206.out) | exact HB.out)) hb); clear BK206; clear HB; have BK206 := n0_; have HB := n1_; clear n0_ n1_; (try clear hb); (try clear hb2); (try clear hk); (try clear hi); have hcz51_0 : w50.cell? ⟨gb206, 0, none⟩ = some (.int .i64 a0_0) := (blk_cell BK206.out 0).trans rfl; have hcz51_1 : w50.cell? ⟨gb206, 1, none⟩ = some (.bool a0_1) := (blk_cell BK206.out 1).trans rfl; have hfz51_0 := blk_frozen BK206.out 0; have hfz51_1 := blk_frozen BK206.out 1) | ((with_reducible refine gate_callee (f := 15) rfl ?_); refine goesL_ (some 86) rfl rfl Tryd.func15 (by kernel_rfl) rfl #[.agg #[.int .i64 a0_0, .bool a0_1], .int .u64 t214] rfl (by (try simp only [List.map_toArray, List.map_cons, List.map_nil]); first | done | rfl | (simp only [List.length_drop, List.length_take]; rfl)) ?_; (with_reducible refine (skuaref01_Norm.calls kj35 a0_0 a0_1 t214 t217 _ A48.out).mono ?_); rintro e w52 ⟨rfl, hb⟩; refine ⟨_, rfl, ?_⟩; have n0_ := Aside0.mk (blk_below (g := gb206) (o := .cells #[.int .i64 a0_0, .bool a0_1] 23 (0, 0)) (by (with_reducible repeat (first | refine blk_drewN ?_ _ | refine blk_drew ?_ | refine blk_alloc ?_ _)); exact BK206.out) hb); have n1_ := Aside0.mk (below_step (by repeat (first | (with_reducible first | exact HB.out | apply below_alloc | apply pw_below_drewN | apply below_drew1 | refine below_set ?_ GE206.out) | exact HB.out)) hb); clear BK206; clear HB; have BK206 := n0_; have HB := n1_; clear n0_ n1_; (try clear hb); (try clear hb2); (try clear hk); (try clear hi)))
                            go_ret2
                            exact ⟨by first | rfl | (simp [errW_none, errW_some] <;> rfl) | (simp [*, errW_none, errW_some] <;> rfl), by repeat (first | (with_reducible first | exact HB.out | apply below_alloc | apply pw_below_drewN | apply below_drew1 | refine below_set ?_ GE206.out) | exact HB.out)⟩
                      · replace c39 := Bool.eq_false_iff.mpr c39
                        subst c39
                        have H1 : (if a1.toList = ([60, 60] : List UInt8) then ((skuaref01_shift.f kj35 a0_0 a0_1 t208 t209 true).bind fun t218 => ((skuaref01_Norm.f kj35 a0_0 a0_1 t218).bind fun t219 => (some (t219, 0)))) else (if a1.toList = ([62, 62] : List UInt8) then ((skuaref01_shift.f kj35 a0_0 a0_1 t208 t209 false).bind fun t220 => ((skuaref01_Norm.f kj35 a0_0 a0_1 t220).bind fun t221 => (some (t221, 0)))) else (some (0, 12)))) = some (r1, r2) := by rw [if_neg (show ¬ (false = true) by decide)] at H; exact H
                        clear H
                        have H := H1
                        clear H1
                        by_cases c53 : a1.toList = ([60, 60] : List UInt8)
                        · rw [if_pos c53] at H
                          have c53b0 : (a1.toList == ([60, 60] : List UInt8)) = true := beq_iff_eq.mpr c53
                          have c53b1 : (a1.toList != ([60, 60] : List UInt8)) = false := bne_eq_false_iff_eq.mpr c53
                          clear c53
                          replace H := Option.bind_eq_some_iff.mp H
                          obtain ⟨t218, A540, H⟩ := H
                          replace H : ((skuaref01_Norm.f kj35 a0_0 a0_1 t218).bind fun t219 => (some (t219, 0))) = some (r1, r2) := H
                          have A54 := Aside0.mk A540
                          clear A540
                          replace H := Option.bind_eq_some_iff.mp H
                          obtain ⟨t219, A550, H⟩ := H
                          replace H : (some (t219, 0)) = some (r1, r2) := H
                          have A55 := Aside0.mk A550
                          clear A550
                          simp only [Option.some.injEq, Prod.mk.injEq] at H
                          obtain ⟨rfl, rfl⟩ := H
                          have hcz56_0 : wc.cell? ⟨gb206, 0, none⟩ = some (.int .i64 a0_0) := (blk_cell BK206.out 0).trans rfl
                          have hcz56_1 : wc.cell? ⟨gb206, 1, none⟩ = some (.bool a0_1) := (blk_cell BK206.out 1).trans rfl
                          have hfz56_0 := blk_frozen BK206.out 0
                          have hfz56_1 := blk_frozen BK206.out 1
                          go_wp2_with (first | ((with_reducible refine gate_callee (f := 39) rfl ?_); refine goesL_ (some 77) rfl rfl Tryd.func39 (by kernel_rfl) rfl #[.agg #[.int .i64 a0_0, .bool a0_1], .int .u64 t208, .int .u64 t209, .bool true] rfl (by (try simp only [List.map_toArray, List.map_cons, List.map_nil]); first | done | rfl | (simp only [List.length_drop, List.length_take]; rfl)) ?_; (with_reducible refine (skuaref01_shift.calls kj35 a0_0 a0_1 t208 t209 true t218 _ A54.out).mono ?_); rintro e w57 ⟨rfl, hb⟩; refine ⟨_, rfl, ?_⟩; have n0_ := Aside0.mk (blk_below (g := gb206) (o := .cells #[.int .i64 a0_0, .bool a0_1] 23 (0, 0)) (by (with_reducible repeat (first | refine blk_drewN ?_ _ | refine blk_drew ?_ | refine blk_alloc ?_ _)); exact BK206.out) hb); have n1_ := Aside0.mk (below_step (by repeat (first | (with_reducible first | exact HB.out | apply below_alloc | apply pw_below_drewN | apply below_drew1 | refine below_set ?_ GE206.out) | exact HB.out)) hb); clear BK206; clear HB; have BK206 := n0_; have HB := n1_; clear n0_ n1_; (try clear hb); (try clear hb2); (try clear hk); (try clear hi); have hcz58_0 : w57.cell? ⟨gb206, 0, none⟩ = some (.int .i64 a0_0) := (blk_cell BK206.out 0).trans rfl; have hcz58_1 : w57.cell? ⟨gb206, 1, none⟩ = some (.bool a0_1) := (blk_cell BK206.out 1).trans rfl; have hfz58_0 := blk_frozen BK206.out 0; have hfz58_1 := blk_frozen BK206.out 1) | ((with_reducible refine gate_callee (f := 15) rfl ?_); refine goesL_ (some 86) rfl rfl Tryd.func15 (by kernel_rfl) rfl #[.agg #[.int .i64 a0_0, .bool a0_1], .int .u64 t218] rfl (by (try simp only [List.map_toArray, List.map_cons, List.map_nil]); first | done | rfl | (simp only [List.length_drop, List.length_take]; rfl)) ?_; (with_reducible refine (skuaref01_Norm.calls kj35 a0_0 a0_1 t218 t219 _ A55.out).mono ?_); rintro e w59 ⟨rfl, hb⟩; refine ⟨_, rfl, ?_⟩; have n0_ := Aside0.mk (blk_below (g := gb206) (o := .cells #[.int .i64 a0_0, .bool a0_1] 23 (0, 0)) (by (with_reducible repeat (first | refine blk_drewN ?_ _ | refine blk_drew ?_ | refine blk_alloc ?_ _)); exact BK206.out) hb); have n1_ := Aside0.mk (below_step (by repeat (first | (with_reducible first | exact HB.out | apply below_alloc | apply pw_below_drewN | apply below_drew1 | refine below_set ?_ GE206.out) | exact HB.out)) hb); clear BK206; clear HB; have BK206 := n0_; have HB := n1_; clear n0_ n1_; (try clear hb); (try clear hb2); (try clear hk); (try clear hi)))
                          go_ret2
                          exact ⟨by first | rfl | (simp [errW_none, errW_some] <;> rfl) | (simp [*, errW_none, errW_some] <;> rfl), by repeat (first | (with_reducible first | exact HB.out | apply below_alloc | apply pw_below_drewN | apply below_drew1 | refine below_set ?_ GE206.out) | exact HB.out)⟩
                        · rw [if_neg c53] at H
                          have c53b0 : (a1.toList == ([60, 60] : List UInt8)) = false := beq_eq_false_iff_ne.mpr c53
                          have c53b1 : (a1.toList != ([60, 60] : List UInt8)) = true := bne_iff_ne.mpr c53
                          by_cases c60 : a1.toList = ([62, 62] : List UInt8)
                          · rw [if_pos c60] at H
                            have c60b0 : (a1.toList == ([62, 62] : List UInt8)) = true := beq_iff_eq.mpr c60
                            have c60b1 : (a1.toList != ([62, 62] : List UInt8)) = false := bne_eq_false_iff_eq.mpr c60
                            clear c60
                            replace H := Option.bind_eq_some_iff.mp H
                            obtain ⟨t220, A610, H⟩ := H
                            replace H : ((skuaref01_Norm.f kj35 a0_0 a0_1 t220).bind fun t221 => (some (t221, 0))) = some (r1, r2) := H
                            have A61 := Aside0.mk A610
                            clear A610
                            replace H := Option.bind_eq_some_iff.mp H
                            obtain ⟨t221, A620, H⟩ := H
                            replace H : (some (t221, 0)) = some (r1, r2) := H
                            have A62 := Aside0.mk A620
                            clear A620
                            simp only [Option.some.injEq, Prod.mk.injEq] at H
                            obtain ⟨rfl, rfl⟩ := H
                            have hcz63_0 : wc.cell? ⟨gb206, 0, none⟩ = some (.int .i64 a0_0) := (blk_cell BK206.out 0).trans rfl
                            have hcz63_1 : wc.cell? ⟨gb206, 1, none⟩ = some (.bool a0_1) := (blk_cell BK206.out 1).trans rfl
                            have hfz63_0 := blk_frozen BK206.out 0
                            have hfz63_1 := blk_frozen BK206.out 1
                            go_wp2_with (first | ((with_reducible refine gate_callee (f := 39) rfl ?_); refine goesL_ (some 83) rfl rfl Tryd.func39 (by kernel_rfl) rfl #[.agg #[.int .i64 a0_0, .bool a0_1], .int .u64 t208, .int .u64 t209, .bool false] rfl (by (try simp only [List.map_toArray, List.map_cons, List.map_nil]); first | done | rfl | (simp only [List.length_drop, List.length_take]; rfl)) ?_; (with_reducible refine (skuaref01_shift.calls kj35 a0_0 a0_1 t208 t209 false t220 _ A61.out).mono ?_); rintro e w64 ⟨rfl, hb⟩; refine ⟨_, rfl, ?_⟩; have n0_ := Aside0.mk (blk_below (g := gb206) (o := .cells #[.int .i64 a0_0, .bool a0_1] 23 (0, 0)) (by (with_reducible repeat (first | refine blk_drewN ?_ _ | refine blk_drew ?_ | refine blk_alloc ?_ _)); exact BK206.out) hb); have n1_ := Aside0.mk (below_step (by repeat (first | (with_reducible first | exact HB.out | apply below_alloc | apply pw_below_drewN | apply below_drew1 | refine below_set ?_ GE206.out) | exact HB.out)) hb); clear BK206; clear HB; have BK206 := n0_; have HB := n1_; clear n0_ n1_; (try clear hb); (try clear hb2); (try clear hk); (try clear hi); have hcz65_0 : w64.cell? ⟨gb206, 0, none⟩ = some (.int .i64 a0_0) := (blk_cell BK206.out 0).trans rfl; have hcz65_1 : w64.cell? ⟨gb206, 1, none⟩ = some (.bool a0_1) := (blk_cell BK206.out 1).trans rfl; have hfz65_0 := blk_frozen BK206.out 0; have hfz65_1 := blk_frozen BK206.out 1) | ((with_reducible refine gate_callee (f := 15) rfl ?_); refine goesL_ (some 86) rfl rfl Tryd.func15 (by kernel_rfl) rfl #[.agg #[.int .i64 a0_0, .bool a0_1], .int .u64 t220] rfl (by (try simp only [List.map_toArray, List.map_cons, List.map_nil]); first | done | rfl | (simp only [List.length_drop, List.length_take]; rfl)) ?_; (with_reducible refine (skuaref01_Norm.calls kj35 a0_0 a0_1 t220 t221 _ A62.out).mono ?_); rintro e w66 ⟨rfl, hb⟩; refine ⟨_, rfl, ?_⟩; have n0_ := Aside0.mk (blk_below (g := gb206) (o := .cells #[.int .i64 a0_0, .bool a0_1] 23 (0, 0)) (by (with_reducible repeat (first | refine blk_drewN ?_ _ | refine blk_drew ?_ | refine blk_alloc ?_ _)); exact BK206.out) hb); have n1_ := Aside0.mk (below_step (by repeat (first | (with_reducible first | exact HB.out | apply below_alloc | apply pw_below_drewN | apply below_drew1 | refine below_set ?_ GE206.out) | exact HB.out)) hb); clear BK206; clear HB; have BK206 := n0_; have HB := n1_; clear n0_ n1_; (try clear hb); (try clear hb2); (try clear hk); (try clear hi)))
                            go_ret2
                            exact ⟨by first | rfl | (simp [errW_none, errW_some] <;> rfl) | (simp [*, errW_none, errW_some] <;> rfl), by repeat (first | (with_reducible first | exact HB.out | apply below_alloc | apply pw_below_drewN | apply below_drew1 | refine below_set ?_ GE206.out) | exact HB.out)⟩
                          · rw [if_neg c60] at H
                            have c60b0 : (a1.toList == ([62, 62] : List UInt8)) = false := beq_eq_false_iff_ne.mpr c60
                            have c60b1 : (a1.toList != ([62, 62] : List UInt8)) = true := bne_iff_ne.mpr c60
                            simp only [Option.some.injEq, Prod.mk.injEq] at H
                            obtain ⟨rfl, rfl⟩ := H
                            go_wp2
                            go_ret2
                            exact ⟨by first | rfl | (simp [errW_none, errW_some] <;> rfl) | (simp [*, errW_none, errW_some] <;> rfl), by repeat (first | (with_reducible first | exact HB.out | apply below_alloc | apply pw_below_drewN | apply below_drew1 | refine below_set ?_ GE206.out) | exact HB.out)⟩
  · replace c6 := Bool.eq_false_iff.mpr c6
    subst c6
    have H1 : (some (0, 10)) = some (r1, r2) := by rw [if_neg (show ¬ (false = true) by decide)] at H; exact H
    clear H
    have H := H1
    clear H1
    simp only [Option.some.injEq, Prod.mk.injEq] at H
    obtain ⟨rfl, rfl⟩ := H
    go_enter Tryd.func19, Tryd.ntmps19
    go_wp2_with (first | ((with_reducible refine gate_dst (N := 4) rfl ?_); refine box_event ?hg (N := 4) ?hd (cs := #[.int .i64 a0_0, .bool a0_1]) (t := 23) ?hr ?_; (case hd => rfl); (case hg => rfl); (case hr => first | (go_simp; done) | (go_simp; rfl)); intro gb206 hg w67 hbox hb; have n0_ := Aside0.mk (below_step (by repeat (first | (with_reducible first | exact HB.out | apply below_alloc | apply pw_below_drewN | apply below_drew1) | exact HB.out)) hb); have n1_ := Aside0.mk (hbox); have n2_ := Aside0.mk ((by rw [hg]; exact (below_size (by repeat (first | (with_reducible first | exact HB.out | apply below_alloc | apply pw_below_drewN | apply below_drew1) | exact HB.out))) : w.heap.size ≤ gb206)); have n3_ := Aside0.mk ((by rw [hg]; exact (below_size (by repeat (first | (with_reducible first | exact HB.out | apply below_alloc | apply pw_below_drewN | apply below_drew1) | exact HB.out))) : w.heap.size ≤ gb206)); clear HB; have HB := n0_; have BK206 := n1_; have GW206 := n2_; have GE206 := n3_; clear n0_ n1_ n2_ n3_; clear hb hbox hg; have hcz68_0 : w67.cell? ⟨gb206, 0, none⟩ = some (.int .i64 a0_0) := (blk_cell BK206.out 0).trans rfl; have hcz68_1 : w67.cell? ⟨gb206, 1, none⟩ = some (.bool a0_1) := (blk_cell BK206.out 1).trans rfl; have hfz68_0 := blk_frozen BK206.out 0; have hfz68_1 := blk_frozen BK206.out 1) | ((with_reducible refine gate_callee (f := 24) rfl ?_); refine goesL_ (some 14) rfl rfl Tryd.func24 (by kernel_rfl) rfl #[.agg #[.int .i64 a0_0, .bool a0_1]] rfl (by (try simp only [List.map_toArray, List.map_cons, List.map_nil]); first | done | rfl | (simp only [List.length_drop, List.length_take]; rfl)) ?_; (with_reducible refine (skuaref01_Right.calls a0_0 a0_1 false _ A5.out).mono ?_); rintro e w69 ⟨rfl, hb⟩; refine ⟨_, rfl, ?_⟩; have n0_ := Aside0.mk (blk_below (g := gb206) (o := .cells #[.int .i64 a0_0, .bool a0_1] 23 (0, 0)) (by (with_reducible repeat (first | refine blk_drewN ?_ _ | refine blk_drew ?_ | refine blk_alloc ?_ _)); exact BK206.out) hb); have n1_ := Aside0.mk (below_step (by repeat (first | (with_reducible first | exact HB.out | apply below_alloc | apply pw_below_drewN | apply below_drew1 | refine below_set ?_ GE206.out) | exact HB.out)) hb); clear BK206; clear HB; have BK206 := n0_; have HB := n1_; clear n0_ n1_; (try clear hb); (try clear hb2); (try clear hk); (try clear hi)))
    go_ret2
    exact ⟨by first | rfl | (simp [errW_none, errW_some] <;> rfl) | (simp [*, errW_none, errW_some] <;> rfl), by repeat (first | (with_reducible first | exact HB.out | apply below_alloc | apply pw_below_drewN | apply below_drew1 | refine below_set ?_ GE206.out) | exact HB.out)⟩

-- NOT PRINTED: function 4 (skualaw01_WordDoes)

end Go.Proofs.YtggelmnahggdgaaDoor.PWordDoes
