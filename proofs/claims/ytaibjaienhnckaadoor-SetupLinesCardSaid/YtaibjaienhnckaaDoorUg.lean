/- Layer 22: a setup's text by its first lines. No condition. -/
import Derived.Test.YtaibjaienhnckaaDoorUe
import Derived.Test.YtaibjaienhnckaaDoorTc
set_option linter.unusedVariables false
set_option linter.unusedSimpArgs false
namespace Go.Proofs.YtaibjaienhnckaaDoor
open Go.RowKit
/-- The first lines of a setup's text. -/
def showK (c : Cfg) : Nat → List UInt8
  | 0 => []
  | k + 1 => showK c k ++ (numLine k (c.get k) ++ [10])
theorem showF_eq (c : Cfg) : showF c = showK c 6 ++ (if c.t then turnedW ++ [10] else []) := by
  obtain ⟨l0, l1, l2, l3, l4, l5, t⟩ := c
  simp [showF, showK, Cfg.get]
theorem get_bnd {c : Cfg} (h : ∀ k, k < 6 → 0 ≤ c.get k ∧ c.get k ≤ 2147483648) {k : Nat} (hk : k < 6) : ∃ u : Nat, c.get k = (u : Int) ∧ u ≤ 2147483648 := ⟨(c.get k).toNat, by have := h k hk; omega, by have := h k hk; omega⟩
theorem numLine_nat (k u : Nat) : numLine k (u : Int) = wL k ++ 32 :: Lib.decDigits u := by
  unfold numLine Lib.itoa
  rw [if_neg (by omega)]; rfl
theorem wB_data (k : Nat) : (wB k).data.toList = wL k := rfl
theorem showK_step {c : Cfg} {k u : Nat} (hu : c.get k = (u : Int)) {b : ByteArray} (hb : b.data.toList = showK c k) : (b ++ (wB k ++ ⟨#[32]⟩ ++ ⟨(Lib.decDigits u).toArray⟩ ++ ⟨#[10]⟩)).data.toList = showK c (k + 1) := by
  show _ = showK c k ++ (numLine k (c.get k) ++ [10])
  rw [hu, numLine_nat, ← hb]
  simp [ByteArray.data_append, wB_data]
abbrev CB (W : World) (b : Nat) (l0 l1 l2 l3 l4 l5 : Int) (t : Bool) (w' : World) : Prop := IsOv W w' ∧ w'.cell? ⟨b, 0, none⟩ = some (.int .i64 l0) ∧ w'.cell? ⟨b, 1, none⟩ = some (.int .i64 l1) ∧ w'.cell? ⟨b, 2, none⟩ = some (.int .i64 l2) ∧ w'.cell? ⟨b, 3, none⟩ = some (.int .i64 l3) ∧ w'.cell? ⟨b, 4, none⟩ = some (.int .i64 l4) ∧ w'.cell? ⟨b, 5, none⟩ = some (.int .i64 l5) ∧ w'.cell? ⟨b, 6, none⟩ = some (.bool t)
theorem CB_isOv {W w1 w2 : World} {b : Nat} {l0 l1 l2 l3 l4 l5 : Int} {t : Bool} (h : CB W b l0 l1 l2 l3 l4 l5 t w1) (hb : IsOv w1 w2) : CB W b l0 l1 l2 l3 l4 l5 t w2 := ⟨h.1.trans hb, cellk_isOv h.2.1 hb, cellk_isOv h.2.2.1 hb, cellk_isOv h.2.2.2.1 hb, cellk_isOv h.2.2.2.2.1 hb, cellk_isOv h.2.2.2.2.2.1 hb, cellk_isOv h.2.2.2.2.2.2.1 hb, cellk_isOv h.2.2.2.2.2.2.2 hb⟩
theorem CB_ov {W w1 : World} {b : Nat} {l0 l1 l2 l3 l4 l5 : Int} {t : Bool} (h : CB W b l0 l1 l2 l3 l4 l5 t w1) (x : Ext) : CB W b l0 l1 l2 l3 l4 l5 t (w1.ov x) := CB_isOv h ⟨x, rfl⟩
theorem CB_drew {W w1 : World} {b : Nat} {l0 l1 l2 l3 l4 l5 : Int} {t : Bool} (h : CB W b l0 l1 l2 l3 l4 l5 t w1) : CB W b l0 l1 l2 l3 l4 l5 t w1.drew := CB_isOv h ((IsOv.refl _).drew)
theorem CB_drewN {W w1 : World} {b : Nat} {l0 l1 l2 l3 l4 l5 : Int} {t : Bool} (h : CB W b l0 l1 l2 l3 l4 l5 t w1) (n : Nat) : CB W b l0 l1 l2 l3 l4 l5 t (w1.drewN n) := CB_isOv h ((IsOv.refl _).drewN n)
theorem showK_len {c : Cfg} (h : ∀ k, k < 6 → 0 ≤ c.get k ∧ c.get k ≤ 2147483648) : ∀ k, k ≤ 6 → (showK c k).length ≤ k * 30
  | 0, _ => Nat.le_refl _
  | k + 1, hk => by
    obtain ⟨u, hu, hu2⟩ := get_bnd h (k := k) (by omega)
    have h1 := showK_len h k (by omega)
    have h2 := decDigits_len 9 u (by omega)
    have h3 := wB_size k (by omega)
    have h4 : (wB k).size = (wL k).length := by show (wL k).toArray.size = _; simp
    unfold showK
    rw [hu, numLine_nat]
    simp
    omega
end Go.Proofs.YtaibjaienhnckaaDoor
