/- The document's words of layer 1 as they are printed for WordTypes: what each comes to. Condition: 64 rounds or more. -/
import Derived.Test.YtggelmnahggdgaaDoorWv
import Derived.Test.YtggelmnahggdgaaDoorPWordTypesx1
set_option linter.unusedVariables false
set_option linter.unusedSimpArgs false
namespace Go.Proofs.YtggelmnahggdgaaDoor
open Go.RowKit Go.Proofs.YtggelmnahggdgaaDoorW.PrintWords Go.Proofs.YtggelmnahggdgaaDoorW.PrintLast Go.Proofs.YtggelmnahggdgaaDoorW.PrintMore
namespace RWordTypes
theorem right (wd : Int) (sg : Bool) : PWordTypes.skuaref01_Right.f wd sg = some (okT wd sg) := by
  have h := okT_iff wd sg
  unfold PWordTypes.skuaref01_Right.f
  cases hT : okT wd sg
  · rw [hT] at h
    have h : ¬ ((wd = 1 ∧ sg = false) ∨ wd = 8 ∨ wd = 16 ∨ wd = 32 ∨ wd = 64) := fun e => by have := h.2 e; cases this
    by_cases h1 : wd = 1
    · cases sg
      · exact absurd (.inl ⟨h1, rfl⟩) h
      · rw [if_pos h1]; rfl
    · rw [if_neg h1, if_neg (fun e => h (by simp [e])), if_neg (fun e => h (by simp [e])), if_neg (fun e => h (by simp [e]))]
      congr 1
      exact beq_eq_false_iff_ne.2 (fun e => h (by simp [e]))
  · rcases h.1 hT with ⟨rfl, rfl⟩ | rfl | rfl | rfl | rfl <;> rfl
theorem name_f (k : Nat) (wd : Int) (sg : Bool) (hk : 1 < k) : PWordTypes.skuaref01_Name.f k wd sg = some (tyName wd sg) := by
  obtain ⟨k, rfl⟩ : ∃ m, k = m + 1 := ⟨k - 1, by omega⟩
  unfold PWordTypes.skuaref01_Name.f
  rw [right]
  simp only [Option.bind_some]
  cases hT : okT wd sg
  · have : (tyName wd sg).toList = [] := by simpa [okT] using hT
    have e : tyName wd sg = ⟨#[]⟩ := by
      have h := ByteArray.toList_eq (tyName wd sg)
      rw [this] at h
      generalize tyName wd sg = x at h ⊢
      obtain ⟨x⟩ := x
      simp only at h
      congr 1
      exact (Array.toList_eq_nil_iff.1 h.symm)
    rw [e]; rfl
  · rcases (okT_iff wd sg).1 hT with ⟨rfl, rfl⟩ | rfl | rfl | rfl | rfl
    · rfl
    all_goals (cases sg <;> (simp only [PWordTypes.skuaref01_Name.j0]; decide +kernel))
end RWordTypes
end Go.Proofs.YtggelmnahggdgaaDoor
