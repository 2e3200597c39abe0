/- cnf.Spread, as a plain function up to where its literals are collected. Conditions: the literals are within 1048576 of 0; at most 100 clauses of at most 100 literals. -/
import Derived.Test.YtaibjaienhnckaaGreatDoorZd
import Derived.Test.YtaibjaienhnckaaGreatDoorZf
import Derived.Test.YtaibjaienhnckaaGreatDoorSh
set_option linter.unusedVariables false
set_option linter.unusedSimpArgs false
namespace Go.Proofs.YtaibjaienhnckaaGreatDoor
open Go.RowKit Go.Proofs.YtaibjaienhnckaaGreatDoorW.PrintWords Go.Proofs.YtaibjaienhnckaaGreatDoorW.PrintLast Go.Proofs.YtaibjaienhnckaaGreatDoorW.PrintMore Go.Proofs.YtaibjaienhnckaaGreatDoor.PCnfFollows
/-- One more number, if it isn't there. -/
def addK (ks : List Int) (n : Int) : List Int := if n ∈ ks then ks else ks ++ [n]
/-- What is true from the start; none: it is true and false. -/
def seedF : List Int → List Int → Option (List Int)
  | ks, [] => some ks
  | ks, n :: r => if -n ∈ addK ks n then none else seedF (addK ks n) r
/-- Once through the clauses: what is true behind them, and whether there is more; none: a clause can't hold. -/
def passF : List Int → Bool → List (List Int) → Option (List Int × Bool)
  | ks, more, [] => some (ks, more)
  | ks, more, c :: l => if (openF ks c 0 0).2 = 0 then none else if (openF ks c 0 0).2 = 1 then passF (addK ks (openF ks c 0 0).1) true l else passF ks more l
/-- Again and again, till there is no more. -/
def loopF : Nat → List Int → Bool → List (List Int) → Option (Option (List Int))
  | 0, _, _, _ => none
  | g + 1, ks, more, l => if more = false then some (some ks) else match passF ks false l with | none => some none | some (ks2, m2) => loopF g ks2 m2 l
def smallAll (l : List (List Int)) : Prop := ∀ c ∈ l, c.length ≤ 1000 ∧ small c
theorem rdL_drop {l : List (List Int)} {i : Nat} (h : i < l.length) : l.drop i = rd_L1 l i :: l.drop (i + 1) := by
  rw [List.drop_eq_getElem_cons h]
  unfold rd_L1
  simp [List.getD, h]
theorem rdL_mem {l : List (List Int)} {i : Nat} (h : i < l.length) : rd_L1 l i ∈ l := by
  unfold rd_L1
  simp [List.getD, h]
theorem add_mem {ks : List Int} {n x : Int} (h : x ∈ addK ks n) : x ∈ ks ∨ x = n := by
  unfold addK at h
  split at h
  · exact .inl h
  · simpa using h
/-- The map's block at a time of the walk. -/
def MapIs (wr : World) (mp : Nat) (ks : List Int) : Prop := ∃ es clk, wr.heap[mp]? = some (.map es clk) ∧ onesAre es.toList ks ∧ bornsOk es.toList clk
def sortedF : Option (List Int) → List Int
  | none => []
  | some ks => ks.mergeSort fun x y => decide (x ≤ y)
def startF (l : List (List Int)) (sure : List Int) (g : Nat) : Option (Option (List Int)) := match seedF [] sure with | none => some none | some ks => loopF g ks true l
theorem seed_small : ∀ (r : List Int) (ks ks2 : List Int), small ks → small r → seedF ks r = some ks2 → small ks2
  | [], ks, ks2, h, _, e => by simp only [seedF, Option.some.injEq] at e; subst e; exact h
  | n :: r, ks, ks2, h, hr, e => by
    unfold seedF at e
    split at e
    · cases e
    · refine seed_small r _ ks2 (fun x hx => ?_) (fun x hx => hr x (List.mem_cons_of_mem _ hx)) e
      rcases add_mem hx with h1 | rfl
      · exact h x h1
      · exact hr _ List.mem_cons_self
theorem open_mem : ∀ (ks c : List Int) (only cnt : Int), (openF ks c only cnt).2 = 1 → (openF ks c only cnt).1 ∈ c ∨ (openF ks c only cnt).1 = only
  | ks, [], only, cnt, _ => .inr rfl
  | ks, n :: c, only, cnt, h => by
    unfold openF at h ⊢
    split
    · rename_i h1; rw [if_pos h1] at h; exact absurd h (by decide)
    · rename_i h1
      rw [if_neg h1] at h
      split
      · rename_i h2
        rw [if_pos h2] at h
        rcases open_mem ks c _ _ h with h3 | h3
        · exact .inl (List.mem_cons_of_mem _ h3)
        · exact .inl (by rw [h3]; exact List.mem_cons_self)
      · rename_i h2
        rw [if_neg h2] at h
        rcases open_mem ks c _ _ h with h3 | h3
        · exact .inl (List.mem_cons_of_mem _ h3)
        · exact .inr h3
theorem own_ne_obj {w : World} {b size n r : Nat} {e : TypeId} {v : Value} {xs : List Value} (h : w.ownsRow b e size v n xs) {o : Obj} (hr : w.heap[r]? = some o) (ho : ∀ c t f, o ≠ .cells c t f) : ¬ some r = v.ownBlock := by
  intro e1
  rcases h.2 with ⟨rfl, _⟩ | ⟨g, cap, cur, rfl, _, hg, _⟩
  · simp [Value.ownBlock] at e1
  · simp [Value.ownBlock] at e1
    subst e1
    rw [hr] at hg
    exact ho _ _ _ (Option.some.inj hg)
theorem own_put {w : World} {b size n r : Nat} {e : TypeId} {v : Value} {xs : List Value} {o : Obj} (h : w.ownsRow b e size v n xs) (hne : ¬ some r = v.ownBlock) : (w.put r o).ownsRow b e size v n xs := by
  refine ⟨h.1, ?_⟩
  rcases h.2 with h2 | ⟨g, cap, cur, hv, hb, hg, h3⟩
  · exact .inl h2
  · refine .inr ⟨g, cap, cur, hv, hb, ?_, h3⟩
    rw [World.heap_put_ne w r g o (fun e1 => hne (by rw [hv]; simp [Value.ownBlock, e1]))]
    exact hg
set_option maxRecDepth 20000 in
set_option maxHeartbeats 2000000 in
theorem Spread_calls (w : World) (A0 A1 : Option Addr) (c0 c1 : Nat) (l : List (List Int)) (sure : List Int) (hl : Kd.C (Kd.slice 3 (Kd.int .i64)) w A0 l.length l) (hs : Kd.C (Kd.int .i64) w A1 sure.length sure) (hc0 : l.length ≤ c0) (hc1 : sure.length ≤ c1)
    (hll : l.length ≤ 1000) (hsl : sure.length ≤ 100000) (hsm : smallAll l) (hss : small sure) (g : Nat) (r : Option (List Int)) (hr : startF l sure g = some r) (hkb : (sortedF r).length ≤ 1000000) :
    Calls Tryz.prog 11 #[.slice A0 l.length c0, .slice A1 sure.length c1] w fun e w' => ∃ v : Value, e = .returned (.tuple #[v, .bool r.isSome]) ∧ Kd.R (Kd.int .i64) 3 w' w.heap.size (fun _ => True) v (sortedF r) ∧ Below w.heap.size w w' := by
  have HLC := Lib.hid hl
  have HSC := Lib.hid hs
  have HSM := Lib.hid hsm
  have HSS := Lib.hid hss
  have HR := Lib.hid hr
  have hmk := run_makeMap (P := Tryz.prog) 47 w
  clear hl hs hsm hss hr hc0 hc1
  go_enter Tryz.func11, Tryz.ntmps11
  go_wp2_with fail
  clear hmk
  go_loopw [20] (fun iv wr => ∃ (i : Nat) (ks : List Int), iv = .int .i64 (i : Int) ∧ i ≤ sure.length ∧ IsOv w wr ∧ Hid (MapIs wr w.heap.size ks) ∧ Hid (seedF ks (sure.drop i) = seedF [] sure)) (fun iv wr => (sure.length - intOf iv).toNat)
  case atStart => exact ⟨0, [], rfl, Nat.zero_le _, by repeat (first | with_reducible exact IsOv.refl _ | with_reducible apply IsOv.dr | with_reducible apply IsOv.drewN | with_reducible apply IsOv.drew | with_reducible apply IsOv.alloc | with_reducible apply IsOv.ov), Lib.hid ⟨_, _, heap_alloc_new w _, onesAre_nil, bornsOk_nil⟩, Lib.hid rfl⟩
  case round =>
    obtain ⟨i, ks, rfl, hi, hov, hmap, hF⟩ := hrel
    obtain ⟨es, clk, hm, hks, hbo⟩ := hmap.out
    by_cases hin : i < sure.length
    · obtain ⟨ad, rfl, hx⟩ := Kd.at_int (Kd.C_below HSC.out hov.below) (i : Int) (by omega) (by omega)
      have hb := HSS.out _ (rd_mem hin)
      have hd := rd_drop hin
      rw [hd] at hF
      have hxc : wr.cell? (ad.add i) = some (.int .i64 (rd sure i)) := hx
      clear hx hd
      generalize rd sure (i : Int) = n at *
      obtain ⟨es2, clk2, hup, hks2, hbo2⟩ := run_mapUpdate_ones Tryz.underlying47 Tryz.underlying3 hm hks hbo n
      have hmlt := lt_of_heap hm
      have hm2 := World.heap_put_self wr w.heap.size (.map es2 clk2) hmlt
      have hlk := run_lookup_ones Tryz.underlying47 Tryz.underlying3 (w := wr.put w.heap.size (.map es2 clk2)) (by kernel_rfl) hm2 hks2 (-n)
      have hov2 : IsOv w (wr.put w.heap.size (.map es2 clk2)) := hov.put (Nat.le_refl _) _
      have HM2 : Hid (MapIs (wr.put w.heap.size (.map es2 clk2)) w.heap.size (addK ks n)) := Lib.hid ⟨es2, clk2, hm2, hks2, hbo2⟩
      by_cases hneg : -n ∈ addK ks n
      · have hlk2 := hlk
        rw [if_pos (show -n ∈ (if n ∈ ks then ks else ks ++ [n]) from hneg)] at hlk2
        have HV : Hid (r = none) := Lib.hid (by
          have h1 := HR.out
          unfold startF at h1
          rw [← hF.out] at h1
          unfold seedF at h1
          rw [if_pos hneg] at h1
          exact (Option.some.inj h1).symm)
        clear hF hlk hks hbo hks2 hbo2 hm hm2 hmap
        go_wp2_with fail
        exact bodyPost_ret (v := .tuple #[.slice none 0 0, .bool false]) (by simp [results, Tryz.results11, go_sem, ↓IntWalk.iteOmega]) rfl ⟨_, by rw [HV.out]; rfl, by rw [HV.out]; exact Kd.R_nil _ _ _ _ _, hov2.below⟩
      · have hlk2 := hlk
        rw [if_neg (show ¬ -n ∈ (if n ∈ ks then ks else ks ++ [n]) from hneg)] at hlk2
        have HN : Hid (seedF (addK ks n) (sure.drop (i + 1)) = seedF [] sure) := Lib.hid (by rw [← hF.out]; conv => rhs; unfold seedF; rw [if_neg hneg])
        clear hF hlk hks hbo hks2 hbo2 hm hm2 hmap
        go_wp2_with fail
        go_roundw
        case rel => exact ⟨i + 1, addK ks n, by go_num, by omega, hov2, HM2, HN⟩
        case measure => simp [intOf]; omega
    · obtain rfl : i = sure.length := by omega
      have HR2 : Hid (loopF g ks true l = some r) := Lib.hid (by
        have h1 := HR.out
        unfold startF at h1
        rw [← hF.out, List.drop_length] at h1
        exact h1)
      clear hF HR HSC HSS hm hks hbo
      go_wp2_with fail
      go_loopg [9] g (fun gq mv w' => ∃ (ks2 : List Int) (more : Bool), mv = .bool more ∧ Hid (loopF gq ks2 more l = some r) ∧ IsOv w w' ∧ Hid (MapIs w' w.heap.size ks2))
      case atStart => exact ⟨ks, true, rfl, HR2, hov, hmap⟩
      case round =>
        clear hmap HR2
        obtain ⟨ks2, more, rfl, HL2, hov2, hmap2⟩ := hrel
        cases gk with
        | zero => exact absurd HL2.out (by simp [loopF])
        | succ m =>
        cases more
        · have HV : Hid (r = some ks2) := Lib.hid (by
            have := HL2.out
            simp only [loopF, if_true, Option.some.injEq] at this
            exact this.symm)
          clear HL2
          obtain ⟨es, clk, hm, hks, hbo⟩ := hmap2.out
          have hrange := run_range_map (P := Tryz.prog) wr 47 _ _ w.heap.size es clk Tryz.underlying47 hm
          have hmI : (wr.alloc (.mapIter (some w.heap.size) clk #[] clk)).heap[w.heap.size]? = some (.map es clk) := ((IsOv.refl wr).alloc _).heap hm
          have HMI := Lib.hid hmI
          obtain ⟨wr0, hwr0⟩ : ∃ u, u = wr := ⟨_, rfl⟩
          have HKS := Lib.hid hks
          have HBO := Lib.hid hbo
          clear hm hks hbo hmap2 hmI
          subst wr
          go_wp2_with fail
          clear hrange
          go_loopg [14] (es.size + 1) (fun gq ov w' => ∃ (picked : List MapEntry) (seen : Array Nat) (c9 : Nat), gq + picked.length = es.size + 1 ∧ Hid (w'.ownsRow w.heap.size 3 1 ov picked.length (nums .i64 (picked.map keyN))) ∧ Hid (w'.heap[wr0.heap.size]? = some (.mapIter (some w.heap.size) clk seen c9)) ∧ clk ≤ c9 ∧ Hid (seen.toList = picked.map (·.born)) ∧ Hid ((picked.map (·.born)).Nodup) ∧ Hid (∀ x ∈ picked, x ∈ es.toList) ∧ Hid (w'.heap[w.heap.size]? = some (.map es clk)) ∧ IsOv w w')
          case atStart => exact ⟨[], #[], clk, rfl, own_nil _ _ _ _, heap_alloc_new wr0 _, Nat.le_refl _, rfl, List.nodup_nil, fun x hx => (by cases hx), HMI, hov2.alloc _⟩
          case round =>
            clear HMI
            obtain ⟨picked, seen, c9, hg, hown, hit, hc9, hseen, hnd, hsub, hmp, hovr⟩ := hrel
            have hpl : picked.length ≤ es.size := by have h9 := picked_len hnd.out hsub.out; simpa using h9
            cases gk with
            | zero => omega
            | succ m =>
            rcases run_next_put (P := Tryz.prog) _ 0 _ _ _ _ _ _ _ hit.out hmp.out HBO.out.2 hc9 with ⟨hall, hrun⟩ | ⟨e, he, hns, w9, hw9, hrun⟩
            · have hperm : picked.Perm es.toList := picked_perm HBO.out.1 hnd.out hsub.out (fun x hx => by
                have h9 := hall x hx
                rw [← hseen.out]
                simpa using h9)
              have hks2 : (picked.map keyN).mergeSort (fun x y => decide (x ≤ y)) = sortedF r := by
                rw [HV.out, ← onesAre_keys HKS.out]
                exact sort_perm (hperm.map keyN)
              have hlen : (picked.map keyN).length = picked.length := List.length_map ..
              have hsl9 : ((picked.map keyN).mergeSort (fun x y => decide (x ≤ y))).length = picked.length := by rw [List.length_mergeSort, hlen]
              have hown2 := hown.out
              have hrs : r.isSome = true := by rw [HV.out]; rfl
              have HRS := Lib.hid hrs
              rw [hks2] at hsl9
              rcases hown2.2 with ⟨hv0, hn0⟩ | ⟨g9, cap, cur, hv9, hbase, hb9, h1, h2, h3, h4⟩
              · have hp0 : picked = [] := List.eq_nil_of_length_eq_zero (by have h9 := hown2.1; rw [nums_length, hlen, hn0] at h9; omega)
                subst hv0
                have hs0 : sortedF r = [] := by rw [← hks2, hp0]; simp
                have HS0 := Lib.hid hs0
                clear hown hown2 hall hperm hks2 hsl9 hit hseen hnd hsub hmp hrs hs0 hn0
                go_wp2_with fail
                refine Calls.mono (Tryz.slices_Sort_int_none none 0 _) ?_
                rintro e w9 ⟨rfl, rfl⟩
                go_wp2_with fail
                exact bodyPost_ret (v := .tuple #[.slice none 0 0, .bool true]) (by simp [results, Tryz.results11, go_sem, ↓IntWalk.iteOmega]) rfl ⟨_, by rw [HRS.out], by rw [HS0.out]; exact Kd.R_nil _ _ _ _ _, hovr.below⟩
              · subst hv9
                have hH := holds_of_blockI (ss := picked.map keyN) hb9 (by rw [hlen]; simpa [nums] using h4)
                have hglt := lt_of_heap hb9
                rw [← hlen] at h1
                have HH := Lib.hid hH
                have HB9 := Lib.hid hb9
                have HKS2 := Lib.hid hks2
                have HH1 := Lib.hid h1
                have HH3 := Lib.hid h3
                clear hown hown2 hall hperm hks2 hit hseen hnd hsub hmp hrs hH hb9 h4 h1 h3
                have HSL9 := Lib.hid hsl9
                go_wp2_with fail
                have hsc := Tryz.slices_Sort_int g9 0 cap (picked.map keyN) _ HH.out hglt (by have h9 := HSL9.out; omega)
                rw [hlen] at hsc
                refine Calls.mono hsc ?_
                rintro e w9 ⟨rfl, nn, os, hw9⟩
                have hgb : World.grownBy wr w9 (some g9) := by rw [hw9]; exact grownBy_sortedI _
                have ho9 : w9.ownsRow w.heap.size 3 1 (.slice (some ⟨g9, 0, none⟩) (picked.map keyN).length cap) (picked.map keyN).length (((picked.map keyN).mergeSort (fun x y => decide (x ≤ y))).map (Value.int .i64)) := by
                  rw [hw9]
                  exact ownsRow_sortedI (by rw [List.length_mergeSort]) hbase HB9.out HH1.out h2 HH3.out
                rw [hlen] at ho9
                have hov9 : IsOv w w9 := IsOv.grown (v := .slice (some ⟨g9, 0, none⟩) 0 0) hovr hgb (fun b hb => by simp [Value.ownBlock] at hb; subst hb; exact hbase)
                have HO9 := Lib.hid ho9
                clear hsc hw9 hgb ho9
                go_wp2_with fail
                exact bodyPost_ret (v := .tuple #[.slice (some ⟨g9, 0, none⟩) picked.length cap, .bool true]) (by simp [results, Tryz.results11, go_sem, ↓IntWalk.iteOmega]) rfl ⟨_, by rw [HRS.out], Kd.R_of_own (enc := Value.int .i64) (by rw [HSL9.out, ← HKS2.out]; exact HO9.out) (fun _ _ => trivial), hov9.below⟩
            · have hke := onesAre_entry HKS.out he
              have hks9 := onesAre_keys HKS.out
              have hes : es.size ≤ 1000000 := by
                have h9 : (sortedF r).length = es.size := by
                  rw [HV.out, ← hks9]
                  simp [sortedF, List.length_mergeSort]
                omega
              have hrne := own_ne_obj hown.out hit.out (fun _ _ _ h => by cases h)
              have hitlt := lt_of_heap hit.out
              have hmne : w.heap.size ≠ wr0.heap.size := fun e9 => by
                have h9 := hit.out
                rw [← e9, hmp.out] at h9
                cases Option.some.inj h9
              have hbig : w.heap.size ≤ wr0.heap.size := hov2.size_le
              obtain ⟨wp, hwp⟩ : ∃ wp, wp = w9.put wr0.heap.size (.mapIter (some w.heap.size) clk (seen.push e.born) clk) := ⟨_, rfl⟩
              have hown9 : wp.ownsRow w.heap.size 3 1 u14 picked.length (nums .i64 (picked.map keyN)) := by
                rw [hwp]; rcases hw9 with rfl | rfl
                · exact own_put hown.out hrne
                · exact own_put (ownsRow_isOv hown.out (IsOv.refl _).drew) hrne
              have hit9 : wp.heap[wr0.heap.size]? = some (.mapIter (some w.heap.size) clk (seen.push e.born) clk) := by
                rw [hwp]; rcases hw9 with rfl | rfl <;> exact World.heap_put_self _ _ _ hitlt
              have hmp9 : wp.heap[w.heap.size]? = some (.map es clk) := by
                rw [hwp]; rcases hw9 with rfl | rfl <;> exact (World.heap_put_ne _ _ _ _ hmne).trans hmp.out
              have hov9 : IsOv w wp := by
                rw [hwp]; rcases hw9 with rfl | rfl
                · exact hovr.put hbig _
                · exact hovr.drew.put hbig _
              have hent := run_entry_at (P := Tryz.prog) wp wr0.heap.size w.heap.size clk seen es clk e hit9 hmp9 he HBO.out.1
              rw [hke.1, hke.2] at hent hrun
              rw [← hwp] at hrun
              have HOW := Aside0.mk (Kd.R_of_own (enc := Value.int .i64) (h1 := fun _ => rfl) (ok := fun _ => True) (xs := picked.map keyN) (by rw [List.length_map]; exact hown9) (fun _ _ => trivial))
              have HIT9 := Lib.hid hit9
              have HMP9 := Lib.hid hmp9
              have HOWN9 := Lib.hid hown9
              have HE := Lib.hid he
              have HNS := Lib.hid hns
              generalize hkn : keyN e = n at *
              have HKN := Lib.hid hkn
              have hwz9 := hov9.size_le
              clear hown hit hmp hown9 hit9 hmp9 hw9 hwp hke hks9 he hns hkn hrne hovr
              go_wp2_with ((with_reducible refine gate_builtin (b := .append) (xs := #[.tmp 62, .tmp 64]) rfl ?_); at_builtin; go_loud (refine Kd.R_append (Kd.int .i64) (w0 := w) w.heap.size rfl (.tmp 62) (.tmp 64) 23 3 (.int .i64 0) 8 rfl Tryz.underlying23 info3 rfl (by decide) (by omega) u14 (picked.map keyN) n [.int .i64 n] (fun _ => True) (fun _ => False) rfl rfl rfl (fun _ hk => hk.elim) (fun _ _ => trivial) HOW.out hov9.below hwz9 (by rw [List.length_map]; omega) ?_; intro v1 w10 ho10 hb10 hg10 hat10))
              have hown10 := Kd.own_of_R (enc := Value.int .i64) ho10
              have hit10 := (hg10.block _ (lt_of_heap HIT9.out) (own_ne_obj HOWN9.out HIT9.out (fun _ _ _ h => by cases h))).trans HIT9.out
              have hmp10 := (hg10.block _ (lt_of_heap HMP9.out) (own_ne_obj HOWN9.out HMP9.out (fun _ _ _ h => by cases h))).trans HMP9.out
              have HW10 : Hid (w10.ownsRow w.heap.size 3 1 v1 (picked ++ [e]).length (nums .i64 ((picked ++ [e]).map keyN))) := Lib.hid (by
                have h9 := hown10
                rw [List.length_append, List.length_map] at h9
                rw [List.map_append, List.length_append, List.map_cons, List.map_nil, HKN.out]
                exact h9)
              have HND : Hid (((picked ++ [e]).map (·.born)).Nodup) := Lib.hid (by
                have h9 := HNS.out
                have h8 := hseen.out
                rw [List.map_append, List.nodup_append]
                refine ⟨hnd.out, by simp, fun a ha b hb => ?_⟩
                simp only [List.map_cons, List.map_nil, List.mem_singleton] at hb
                subst hb
                rintro rfl
                rw [← h8, Array.mem_toList_iff] at ha
                rw [Array.contains_iff_mem.2 ha] at h9
                exact absurd h9 (by simp))
              have HSB : Hid (∀ x ∈ picked ++ [e], x ∈ es.toList) := Lib.hid (fun x hx => by
                rcases List.mem_append.1 hx with h9 | h9
                · exact hsub.out x h9
                · rw [List.mem_singleton.1 h9]; exact HE.out)
              go_roundg m
              case rel => exact ⟨picked ++ [e], seen.push e.born, clk, by simp; omega, HW10, Lib.hid hit10, Nat.le_refl _, Lib.hid (by simp [hseen.out]), HND, HSB, Lib.hid hmp10, IsOv.of_below hb10⟩
              case measure => omega
        · have HP : Hid ((match passF ks2 false l with | none => some none | some (ks2, m2) => loopF m ks2 m2 l) = some r) := Lib.hid (by
            have := HL2.out
            simp only [loopF, Bool.true_eq_false, if_false] at this
            exact this)
          clear HL2
          go_wp2_with fail
          go_loopw [9, 35] (fun mv jv w' => ∃ (k : Nat) (ks3 : List Int) (more3 : Bool), mv = .bool more3 ∧ jv = .int .i64 (k : Int) ∧ k ≤ l.length ∧ IsOv w w' ∧ Hid (MapIs w' w.heap.size ks3) ∧ Hid (passF ks3 more3 (l.drop k) = passF ks2 false l)) (fun mv jv w' => (l.length - intOf jv).toNat)
          case atStart => exact ⟨0, ks2, false, rfl, rfl, Nat.zero_le _, hov2, hmap2, Lib.hid rfl⟩
          case round =>
            clear hmap2
            obtain ⟨k, ks3, more3, rfl, rfl, hk, hov3, hmap3, hF3⟩ := hrel
            by_cases hkn : k < l.length
            · obtain ⟨ad, A9, c9, rfl, hx, hc9, hC9⟩ := at_L1 (Kd.C_below HLC.out hov3.below) (k : Int) (by omega) (by omega)
              have hb := HSM.out _ (rdL_mem hkn)
              have hd := rdL_drop hkn
              rw [hd] at hF3
              have hxc : _ = some (Value.slice A9 (rd_L1 l k).length c9) := hx
              rw [Int.toNat_natCast] at hxc
              clear hx hd
              generalize rd_L1 l (k : Int) = c at *
              obtain ⟨es, clk, hm, hks, hbo⟩ := hmap3.out
              have HM := Lib.hid hm
              have HKS := Lib.hid hks
              have HBO := Lib.hid hbo
              clear hm hks hbo
              go_wp2_with fail
              refine Calls.mono (open_calls _ A9 c9 c w.heap.size es clk ks3 hC9 hc9 (by have := hb.1; omega) hb.2 HM.out HKS.out) ?_
              rintro e w5 ⟨rfl, rfl⟩
              have ho : openF ks3 c 0 0 = ((openF ks3 c 0 0).1, (openF ks3 c 0 0).2) := rfl
              generalize (openF ks3 c 0 0).1 = n at *
              generalize (openF ks3 c 0 0).2 = cnt at *
              have HO := Lib.hid ho
              clear ho
              by_cases h0 : cnt = 0
              · subst h0
                have HV : Hid (r = none) := Lib.hid (by
                  have h1 := HP.out
                  rw [← hF3.out] at h1
                  unfold passF at h1
                  rw [HO.out] at h1
                  simp only [if_true] at h1
                  exact (Option.some.inj h1).symm)
                clear hF3 hmap3
                go_wp2_with fail
                exact bodyPost_ret (v := .tuple #[.slice none 0 0, .bool false]) (by simp [results, Tryz.results11, go_sem, ↓IntWalk.iteOmega]) rfl ⟨_, by rw [HV.out]; rfl, by rw [HV.out]; exact Kd.R_nil _ _ _ _ _, hov3.below⟩
              · have h0b : (cnt == 0) = false := by simpa using h0
                by_cases h1 : cnt = 1
                · subst h1
                  obtain ⟨es2, clk2, hup, hks2, hbo2⟩ := run_mapUpdate_ones Tryz.underlying47 Tryz.underlying3 HM.out HKS.out HBO.out n
                  have hm2 := World.heap_put_self w5 w.heap.size (.map es2 clk2) (lt_of_heap HM.out)
                  have hov5 : IsOv w (w5.put w.heap.size (.map es2 clk2)) := hov3.put (Nat.le_refl _) _
                  have HM2 : Hid (MapIs (w5.put w.heap.size (.map es2 clk2)) w.heap.size (addK ks3 n)) := Lib.hid ⟨es2, clk2, hm2, hks2, hbo2⟩
                  have HN : Hid (passF (addK ks3 n) true (l.drop (k + 1)) = passF ks2 false l) := Lib.hid (by
                    rw [← hF3.out]
                    conv => rhs; unfold passF
                    rw [HO.out]
                    simp)
                  clear hF3 hmap3 hks2 hbo2 hm2
                  go_wp2_with fail
                  go_roundw
                  case rel => exact ⟨k + 1, addK ks3 n, true, rfl, by go_num, by omega, hov5, HM2, HN⟩
                  case measure => simp [intOf]; omega
                · have h1b : (cnt == 1) = false := by simpa using h1
                  have HN : Hid (passF ks3 more3 (l.drop (k + 1)) = passF ks2 false l) := Lib.hid (by
                    rw [← hF3.out]
                    conv => rhs; unfold passF
                    rw [HO.out]
                    simp [h0, h1])
                  clear hF3
                  go_wp2_with fail
                  go_roundw
                  case rel => exact ⟨k + 1, ks3, more3, rfl, by go_num, by omega, hov3, hmap3, HN⟩
                  case measure => simp [intOf]; omega
            · obtain rfl : k = l.length := by omega
              have HN : Hid (loopF m ks3 more3 l = some r) := Lib.hid (by
                have h1 := HP.out
                rw [← hF3.out, List.drop_length] at h1
                simpa [passF] using h1)
              clear hF3 HP
              go_wp2_with fail
              go_roundg m
              case rel => exact ⟨ks3, more3, rfl, HN, hov3, hmap3⟩
              case measure => omega
end Go.Proofs.YtaibjaienhnckaaGreatDoor
