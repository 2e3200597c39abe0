/- ParseBlanks: what stands between tokens doesn't matter: the law's function answers true, whatever it is given. Conditions: the tables lie as the program lays them. -/
import Derived.Test.YtdimhoilfopndaaGreatDoorA14
import Derived.Test.YtdimhoilfopndaaGreatDoorA15
import Derived.Test.YtdimhoilfopndaaGreatDoorAYx2
set_option linter.unusedVariables false
set_option linter.unusedSimpArgs false
section
namespace Go.Proofs.YtdimhoilfopndaaGreatDoor
open Go.RowKit Go.Proofs.YtdimhoilfopndaaGreatDoorW.PrintWords
theorem txts_bareB : ∀ ts : List Tok, (txts ts).map (·.data.toList) = ((ts.map Tok.bare).filter fun t => !(t.kind == 3)).map (·.text)
 | [] => rfl
 | t :: ts => by
  have ih := txts_bareB ts
  unfold txts at ih ⊢
  simp only [List.map_cons, List.filter_cons]
  have e : t.bare.kind = t.kind := rfl
  rw [e]
  cases hk : (t.kind == 3) <;> simp only [Bool.not_true, Bool.not_false, Bool.false_eq_true, ↓reduceIte, List.map_cons]
  · rw [ih]; rfl
  · exact ih
theorem filter_goodB {gs : List Tk} (h : ∀ g ∈ gs, Good g) : (gs ++ [(⟨3, [], 0⟩ : Tk)]).filter (fun t => !(t.kind == 3)) = gs := by
 rw [List.filter_append, List.filter_eq_self.2 (fun g hg => by
  have := (h g hg).kind
  simpa using this)]
 simp
def showTxt (ts : List Tok) : ByteArray := ⟨(Lib.join ((txts ts).map (·.data.toList)) [32]).toArray⟩
theorem blank_pure (s : ByteArray) (hs : s.size ≤ 2000) (he : (lexR s).err = 0) : (Lib.join ((txts (lexR s).toks).map (·.data.toList)) [32]).length ≤ 4000 ∧ (lexR (showTxt (lexR s).toks)).err = 0 ∧ (lexR (showTxt (lexR s).toks)).toks.map Tok.Z = (lexR s).toks.map Tok.Z := by
 have a1 := lexR_list s (by omega)
 obtain ⟨gs, h1, h2, h3⟩ := LX_form _ _ _ rfl (a1.1 he)
 have hj : Lib.join ((txts (lexR s).toks).map (·.data.toList)) [32] = joinB (gs.map (·.text)) := by
  rw [join_joinC, txts_bareB, h1, filter_goodB h2]
 unfold showTxt
 rw [hj]
 rw [← size_list] at h3
 have hl := joinB_len (gs.map (·.text)) s.size (fun g hg => by
  obtain ⟨t, ht, rfl⟩ := List.mem_map.1 hg
  obtain ⟨c, r, hc, _⟩ := (h2 t ht).head
  rw [hc]; simp) h3
 generalize hq : (⟨(joinB (gs.map (·.text))).toArray⟩ : ByteArray) = q
 have hql : q.data.toList = joinB (gs.map (·.text)) := by rw [← hq]
 have hqz : q.size ≤ 65536 := by rw [size_list, hql]; omega
 have a2 := lexR_list q hqz
 have hX := LX_join gs h2
 rw [← hql] at hX
 have he2 : (lexR q).err = 0 := by
  by_cases e2 : (lexR q).err = 0
  · exact e2
  ·
   have := (a2.2 e2).1
   rw [this] at hX; cases hX
 have h4 := a2.1 he2
 rw [hX] at h4
 have h5 := Option.some.inj h4
 refine ⟨by omega, he2, ?_⟩
 have hz : ∀ ts : List Tok, ts.map Tok.Z = (ts.map Tok.bare).map fun t => (⟨t.kind, ⟨t.text.toArray⟩, t.num, 0, 0⟩ : Tok) := fun ts => by
  rw [List.map_map]
  exact List.map_congr_left fun t _ => unbare t
 rw [hz, hz, ← h5, h1]
theorem readF_Z {s t : ByteArray} {G : Nat} {a : ReadA} (h1 : (lexR s).err = 0) (h2 : (lexR t).err = 0) (h3 : (lexR t).toks.map Tok.Z = (lexR s).toks.map Tok.Z) (h : readF G s = some a) : ∃ b, readF G t = some b ∧ b.err = a.err ∧ b.node.strip = a.node.strip := by
 have p1 := parseF_Z G (lexR s).toks
 have p2 := parseF_Z G (lexR t).toks
 rw [h3, p1] at p2
 cases hs : parseF G (lexR s).toks with
 | none =>
  unfold readF at h
  rw [if_neg (by rw [h1]; decide), hs] at h; cases h
 | some r =>
  rw [readF_ok h1 hs] at h
  obtain rfl := Option.some.inj h
  cases ht : parseF G (lexR t).toks with
  | none => rw [hs, ht] at p2; cases p2
  | some q =>
   refine ⟨_, readF_ok h2 ht, ?_⟩
   rw [hs, ht] at p2
   have p3 := Option.some.inj p2
   cases r with
   | ok n ts =>
    cases q with
    | ok m us => injection p3 with e1 e2; exact ⟨rfl, e1.symm⟩
    | bad l k e => cases p3
   | bad l k e =>
    cases q with
    | ok m us => cases p3
    | bad l2 k2 e2 => injection p3 with _ _ e3; exact ⟨e3.symm, rfl⟩
mutual
theorem nodes_wt : ∀ n : Node, 30 * nodesN n ≤ wtN n
 | ⟨k, t, v, l, c, ks⟩ => by rw [wtN_eq, nodesN_eq]; have := nodes_wtL ks; dsimp only; omega
theorem nodes_wtL : ∀ ks : List Node, 30 * nodesL ks ≤ wtL ks
 | [] => by rw [wtL_nil, nodesL_nil]; omega
 | k :: ks => by rw [wtL_cons, nodesL_cons]; have := nodes_wt k; have := nodes_wtL ks; omega
end
theorem read_nodes {s : ByteArray} {G : Nat} {a : ReadA} (hs : s.size ≤ 65536) (h : readF G s = some a) : nodesN a.node ≤ 3000000 := by
 have hz : nodesN zNode ≤ 3000000 := by decide
 unfold readF at h
 split at h
 · obtain rfl := Option.some.inj h; exact hz
 ·
  rename_i h9
  have h9 : (lexR s).err = 0 := Classical.not_not.1 h9
  obtain ⟨h1, h2, h3⟩ := lex_ok hs h9
  cases hp : parseF G (lexR s).toks with
  | none => rw [hp] at h; cases h
  | some r =>
   rw [hp] at h
   cases r with
   | bad l k e => obtain rfl := Option.some.inj h; exact hz
   | ok n r =>
    obtain rfl := Option.some.inj h
    obtain ⟨p1, p2, p3⟩ := parsed_shows h1 hp
    have := nodes_wt n
    show nodesN n ≤ _
    omega
set_option maxRecDepth 20000 in
set_option maxHeartbeats 1600000 in
theorem ParseBlanks_gives (src : ByteArray) (w : World) (HL0 : LaidP w) : Gives Tryz.prog 6 #[.string src] w (.bool true) := by
 have HL := hid HL0
 clear HL0
 unfold Gives
 by_cases hs : src.size ≤ 2000
 rotate_left
 ·
  have hs1 : (2000 : Int) < (src.size : Int) := by omega
  go_enter Tryz.func6, Tryz.ntmps6
  go_wp2_with fail
  refine cmo (awake_gives _ HL.out) ?_
  rintro e9 w1 ⟨rfl, hov1⟩
  go_wp2_with fail
  exact bodyPost_ret (v := .bool true) (by simp [results, Tryz.results6, go_sem, ↓IntWalk.iteOmega]) rfl ⟨rfl, hov1⟩
 have hs1 : ¬ (2000 : Int) < (src.size : Int) := by omega
 have HLX := hid (Lex_calls w src HL.out.v)
 have HLW := hid (fun he => blank_pure src hs he)
 have HRD := hid (fun (he : (lexR src).err = 0) => readF_some 100000 src (by have := (lex_ok (s := src) (by omega) he).2.2; omega))
 have HLN := hid (fun (he : (lexR src).err = 0) => (lex_ok (s := src) (by omega) he).2.2)
 go_enter Tryz.func6, Tryz.ntmps6
 go_wp2_with fail
 refine Calls.mono HLX.out ?_
 rintro e9 w1 ⟨v, rfl, hov1, hown⟩
 have HOV1 := hid hov1
 have HTK := hid (Toks.of_owns hown)
 clear hov1 hown HLX
 by_cases he : (lexR src).err = 0
 rotate_left
 ·
  have he2 : ((lexR src).err != 0) = true := by simpa using he
  have he3 : ((lexR src).err == 0) = false := by simpa using he
  generalize (lexR src).err = er at *
  go_wp2_with fail
  refine cmo (awake_gives _ (HL.out.of_isOv HOV1.out)) ?_
  rintro e9 w2 ⟨rfl, hov2⟩
  have HOV2 := hid (HOV1.out.trans hov2)
  clear hov2
  go_wp2_with fail
  refine cmo (awake_gives _ (HL.out.of_isOv HOV2.out)) ?_
  rintro e9 w3 ⟨rfl, hov3⟩
  have HOV3 := hid (HOV2.out.trans hov3)
  clear hov3
  go_wp2_with fail
  exact bodyPost_ret (v := .bool true) (by simp [results, Tryz.results6, go_sem, ↓IntWalk.iteOmega]) rfl ⟨rfl, HOV3.out⟩
 rw [he]
 obtain ⟨a, ha⟩ := HRD.out he
 obtain ⟨hjl, hte, htz⟩ := HLW.out he
 obtain ⟨b, hb, hbe, hbn⟩ := readF_Z he hte htz ha
 have hna := read_nodes (s := src) (by omega) ha
 have hnl := HLN.out he
 have HA := hid ha
 have HB := hid hb
 have HBN := hid hbn
 have HBE := hid hbe
 have HJ := hid hjl
 clear ha hb hbe hbn hjl hte htz HRD HLW HLN he
 go_wp2_with fail
 refine cmo (awake_gives _ (HL.out.of_isOv HOV1.out)) ?_
 rintro e9 w2 ⟨rfl, hov2⟩
 have HOV2 := hid (HOV1.out.trans hov2)
 have HTK2 := hid (HTK.out.of_isOv hov2)
 clear hov2 HTK HOV1
 go_wp2_with fail
 refine cmo (Read_calls 100000 (by omega) _ src a HA.out (HL.out.of_isOv HOV2.out).v (HL.out.of_isOv HOV2.out).ml) ?_
 rintro e9 w3 ⟨hov3, A, cap, rfl, hR⟩
 have HT := hid (Kd.R_mono (Kd.R_lower hR (Nat.zero_le _)) (fun _ _ => trivial))
 have HOV3 := hid (HOV2.out.trans hov3)
 have HTK3 := hid (HTK2.out.of_isOv hov3)
 clear hov3 hR HTK2 HOV2
 unfold nodeV
 go_wp2_with fail
 refine cmo (lexShow_gives _ v (lexR src).toks (HTK3.out.of_isOv ((IsOv.refl _).alloc _)) (by omega) (by have := HJ.out; omega)) ?_
 rintro e9 w4 ⟨rfl, hov4⟩
 rw [show (⟨(Lib.join ((txts (lexR src).toks).map (·.data.toList)) [32]).toArray⟩ : ByteArray) = showTxt (lexR src).toks from rfl]
 have hb4 := hov4.heap (heap_alloc_new w3 _)
 have HOV4 := hid ((HOV3.out.alloc _).trans hov4)
 have HT4 := hid (Kd.R_below HT.out (((IsOv.refl w3).alloc _).trans hov4).below)
 clear hov4
 go_wp2_with fail
 refine cmo (Read_calls 100000 (by omega) _ _ b HB.out (HL.out.of_isOv HOV4.out).v (HL.out.of_isOv HOV4.out).ml) ?_
 rintro e9 w5 ⟨hov5, B, cb, rfl, hR5⟩
 rw [HBE.out]
 have hb5 := hov5.heap hb4
 have HT5 := hid (Kd.R_mono (Kd.R_lower hR5 (Nat.zero_le _)) (fun _ _ => trivial))
 have HT6 := hid (Kd.R_below HT4.out hov5.below)
 have HOV5 := hid (HOV4.out.trans hov5)
 obtain ⟨p0, p1, p2, p3, p4, p5, _⟩ := cells6 hb5
 have hz5 := lt_of_heap hb5
 have hee : (a.err == a.err) = true := beq_self_eq_true _
 clear hov5 hR5 hb4 hb5
 unfold nodeV
 go_wp2_with fail
 refine cmo (refSame_at rfl rfl ((sameN_strip _ _).2 HBN.out.symm) (by omega) (Kd.R_below HT6.out ((IsOv.refl _).alloc _).below) (Kd.R_below HT5.out ((IsOv.refl _).alloc _).below)) ?_
 rintro e9 w6 ⟨rfl, hov6⟩
 have HOV6 := hid ((HOV5.out.alloc _).trans hov6)
 clear hov6
 go_wp2_with fail
 exact bodyPost_ret (v := .bool true) (by simp [results, Tryz.results6, go_sem, ↓IntWalk.iteOmega]) rfl ⟨rfl, HOV6.out⟩
end Go.Proofs.YtdimhoilfopndaaGreatDoor
end
