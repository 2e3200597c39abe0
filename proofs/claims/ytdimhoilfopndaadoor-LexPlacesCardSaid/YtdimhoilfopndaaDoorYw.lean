/- The law LexBetween's pure side: what stands between tokens doesn't matter to the plain lexer. Condition: the texts take at most 2000 and 500 bytes. -/
import Derived.Test.YtdimhoilfopndaaDoorYs
import Derived.Test.YtdimhoilfopndaaDoorYv
set_option linter.unusedVariables false
set_option linter.unusedSimpArgs false
namespace Go.Proofs.YtdimhoilfopndaaDoor
open Go.RowKit
theorem noL_size (s : ByteArray) : (⟨(noL s.data.toList).toArray⟩ : ByteArray).size ≤ s.size := by
  have h1 : s.size = s.data.toList.length := Array.length_toList.symm
  have h2 : (⟨(noL s.data.toList).toArray⟩ : ByteArray).size = (noL s.data.toList).length := by show (noL s.data.toList).toArray.size = _; simp
  rw [h1, h2]; exact List.length_filter_le _ _
theorem app_list (a b : ByteArray) : (a ++ b).data.toList = a.data.toList ++ b.data.toList := by simp
theorem sameB_bare {xs ys : List Tok} (h : xs.map Tok.bare = ys.map Tok.bare) : sameB xs ys = true := by
  have hl : xs.length = ys.length := by have := congrArg List.length h; simpa using this
  refine sameB_true hl fun j hj => ?_
  have hx : xs.getD j default = xs[j] := by rw [List.getD_eq_getElem?_getD, List.getElem?_eq_getElem hj]; rfl
  have hy : ys.getD j default = ys[j] := by rw [List.getD_eq_getElem?_getD, List.getElem?_eq_getElem (by omega)]; rfl
  have hb : xs[j].bare = ys[j].bare := by
    have h1 : (xs.map Tok.bare)[j]? = some xs[j].bare := by rw [List.getElem?_map, List.getElem?_eq_getElem hj]; rfl
    have h2 : (ys.map Tok.bare)[j]? = some ys[j].bare := by rw [List.getElem?_map, List.getElem?_eq_getElem (by omega)]; rfl
    rw [h, h2] at h1
    exact (Option.some.inj h1).symm
  rw [hx, hy]
  unfold Tok.bare at hb
  injection hb with h1 h2 h3
  unfold sameT
  rw [h1, h2, h3]; simp
theorem toks_len (s : ByteArray) (hs : s.size ≤ 65536) : (lexR s).toks.length ≤ 65537 := by
  have h := lexR_list s hs
  by_cases he : (lexR s).err = 0
  · obtain ⟨gs, h1, h2, h3⟩ := LX_form _ _ _ rfl (h.1 he)
    have hl : (lexR s).toks.length = gs.length + 1 := by have := congrArg List.length h1; simpa using this
    have hg : gs.length ≤ ((gs.map (·.text)).map List.length).sum := by
      clear h1 h3 hl
      induction gs with
      | nil => simp
      | cons g gs ih =>
        have := ih fun x hx => h2 x (by simp [hx])
        obtain ⟨c, r, hc, _⟩ := (h2 g (by simp)).head
        simp only [List.map_cons, List.sum_cons, List.length_cons, hc] at this ⊢
        omega
    rw [← size_list] at h3
    omega
  · rw [(h.2 he).2]; simp
theorem between_pure (s more sep nl : ByteArray) (hnl : nl = ⟨(noL more.data.toList).toArray⟩) (hs : s.size ≤ 2000) (hm : more.size ≤ 500)
    (hsep : sep = ⟨#[32]⟩ ∨ sep = ⟨#[10]⟩ ∨ sep = ⟨#[9, 13]⟩ ∨ sep = ⟨#[32, 47, 47, 32]⟩ ++ nl ++ ⟨#[10]⟩) (h : ssB s.data.toList = false) :
    ((lexR (s ++ ⟨#[32]⟩ ++ more)).err = 0 ↔ (lexR (s ++ ⟨#[10]⟩ ++ sep ++ more)).err = 0) ∧ sameB (lexR (s ++ ⟨#[32]⟩ ++ more)).toks (lexR (s ++ ⟨#[10]⟩ ++ sep ++ more)).toks = true ∧ (lexR (s ++ ⟨#[32]⟩ ++ more)).toks.length ≤ 70000 ∧ (lexR (s ++ ⟨#[10]⟩ ++ sep ++ more)).toks.length ≤ 70000 := by
  have hn : nl.size ≤ 500 := by rw [hnl]; exact Nat.le_trans (noL_size more) hm
  have hz1 : (s ++ ⟨#[32]⟩ ++ more).size ≤ 65536 := by
    rw [ByteArray.size_append, ByteArray.size_append]
    have : (⟨#[32]⟩ : ByteArray).size = 1 := rfl
    omega
  have hzs : sep.size ≤ 505 := by
    rcases hsep with rfl | rfl | rfl | rfl
    · show 1 ≤ 505; omega
    · show 1 ≤ 505; omega
    · show 2 ≤ 505; omega
    · rw [ByteArray.size_append, ByteArray.size_append]
      have h1 : (⟨#[32, 47, 47, 32]⟩ : ByteArray).size = 4 := rfl
      have h2 : (⟨#[10]⟩ : ByteArray).size = 1 := rfl
      omega
  have hz2 : (s ++ ⟨#[10]⟩ ++ sep ++ more).size ≤ 65536 := by
    rw [ByteArray.size_append, ByteArray.size_append, ByteArray.size_append]
    have : (⟨#[10]⟩ : ByteArray).size = 1 := rfl
    omega
  have a1 := lexR_list _ hz1
  have a2 := lexR_list _ hz2
  have hLX : LX (s ++ ⟨#[32]⟩ ++ more).data.toList = LX (s ++ ⟨#[10]⟩ ++ sep ++ more).data.toList := by
    have e1 : (s ++ ⟨#[32]⟩ ++ more).data.toList = s.data.toList ++ 32 :: more.data.toList := by
      rw [app_list, app_list, List.append_assoc]; rfl
    have e2 : (s ++ ⟨#[10]⟩ ++ sep ++ more).data.toList = s.data.toList ++ 10 :: (sep.data.toList ++ more.data.toList) := by
      rw [app_list, app_list, app_list, List.append_assoc, List.append_assoc]; rfl
    rw [e1, e2]
    refine between_LX _ _ _ (noL more.data.toList) h (fun c hc => ?_) ?_
    · unfold noL at hc
      have := (List.mem_filter.1 hc).2
      simpa using this
    · rcases hsep with rfl | rfl | rfl | rfl
      · exact .inl rfl
      · exact .inr (.inl rfl)
      · exact .inr (.inr (.inl rfl))
      · refine .inr (.inr (.inr ?_))
        rw [app_list, app_list, hnl]
  refine ⟨?_, ?_, Nat.le_trans (toks_len _ hz1) (by omega), Nat.le_trans (toks_len _ hz2) (by omega)⟩
  · constructor
    · intro e1
      by_cases e2 : (lexR (s ++ ⟨#[10]⟩ ++ sep ++ more)).err = 0
      · exact e2
      · have h1 := a1.1 e1
        rw [hLX, (a2.2 e2).1] at h1; cases h1
    · intro e2
      by_cases e1 : (lexR (s ++ ⟨#[32]⟩ ++ more)).err = 0
      · exact e1
      · have h2 := a2.1 e2
        rw [← hLX, (a1.2 e1).1] at h2; cases h2
  · by_cases e1 : (lexR (s ++ ⟨#[32]⟩ ++ more)).err = 0
    · have h1 := a1.1 e1
      by_cases e2 : (lexR (s ++ ⟨#[10]⟩ ++ sep ++ more)).err = 0
      · have h2 := a2.1 e2
        rw [hLX, h2] at h1
        exact sameB_bare (Option.some.inj h1).symm
      · rw [hLX, (a2.2 e2).1] at h1; cases h1
    · have h1 := a1.2 e1
      by_cases e2 : (lexR (s ++ ⟨#[10]⟩ ++ sep ++ more)).err = 0
      · have h2 := a2.1 e2
        rw [← hLX, h1.1] at h2; cases h2
      · rw [h1.2, (a2.2 e2).2]; rfl
end Go.Proofs.YtdimhoilfopndaaDoor
