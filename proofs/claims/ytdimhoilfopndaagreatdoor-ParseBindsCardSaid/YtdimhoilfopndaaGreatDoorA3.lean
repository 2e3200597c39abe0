/- Texts of one proof, put together: Yd Yh. Conditions: as each lemma says. -/
import Derived.Test.YtdimhoilfopndaaGreatDoorA2
import Derived.Test.YtdimhoilfopndaaGreatDoorSh
set_option linter.unusedVariables false
set_option linter.unusedSimpArgs false
section
namespace Go.Proofs.YtdimhoilfopndaaGreatDoor
open Go.RowKit
def spanI (p : Int → Bool) (src : ByteArray) : Nat → Nat → Nat
 | 0, _ => 0
 | f + 1, a => if a < src.size then (if p (byteAt src a) then 1 + spanI p src f (a + 1) else 0) else 0
def spanN (p : Int → Bool) (src : ByteArray) (a : Nat) : Nat := spanI p src (src.size - a) a
theorem spanI_le (p : Int → Bool) (src : ByteArray) : ∀ f a : Nat, spanI p src f a ≤ f
 | 0, _ => Nat.le_refl _
 | f + 1, a => by
  have := spanI_le p src f (a + 1)
  simp only [spanI]; split <;> (try split) <;> omega
theorem spanI_all (p : Int → Bool) (src : ByteArray) : ∀ (f a j : Nat) (h : a + j < src.size), j < spanI p src f a → p (byteAt src (a + j)) = true
 | 0, _, _, _, h => by simp [spanI] at h
 | f + 1, a, j, h, hj => by
  simp only [spanI] at hj
  split at hj
  ·
   split at hj
   ·
    rename_i hp
    cases j with
    | zero => simpa using hp
    | succ j =>
     have := spanI_all p src f (a + 1) j (by omega) (by omega)
     rwa [show a + 1 + j = a + (j + 1) by omega] at this
   · omega
  · omega
theorem spanI_end (p : Int → Bool) (src : ByteArray) : ∀ (f a : Nat), a + f = src.size → a + spanI p src f a < src.size → p (byteAt src (a + spanI p src f a)) = false
 | 0, a, h, h2 => by simp [spanI] at h2; omega
 | f + 1, a, h, h2 => by
  simp only [spanI] at h2 ⊢
  split
  ·
   rename_i h3
   rw [if_pos h3] at h2
   split
   ·
    rename_i h4
    rw [if_pos h4] at h2
    have := spanI_end p src f (a + 1) (by omega) (by omega)
    rwa [show a + 1 + spanI p src f (a + 1) = a + (1 + spanI p src f (a + 1)) by omega] at this
   · rename_i h4; simpa using h4
  · omega
theorem spanN_le {p : Int → Bool} {src : ByteArray} {a : Nat} (h : a ≤ src.size) : a + spanN p src a ≤ src.size := by
 have := spanI_le p src (src.size - a) a; unfold spanN; omega
theorem spanN_all {p : Int → Bool} {src : ByteArray} {a : Nat} (j : Nat) (h : a + j < src.size) (hj : j < spanN p src a) : p (src[a + j].toNat : Int) = true := by
 rw [← byteAt_lt h]; exact spanI_all p src _ a j h hj
theorem spanN_end {p : Int → Bool} {src : ByteArray} {a : Nat} (ha : a ≤ src.size) (h : a + spanN p src a < src.size) : p (src[a + spanN p src a].toNat : Int) = false := by
 rw [← byteAt_lt h]; exact spanI_end p src _ a (by omega) h
def pre2 (src : ByteArray) (a : Nat) : Bool := Lib.hasPrefix (src.data.toList.drop a) [47, 47]
def skipF : Nat → ByteArray → Nat → Option Nat
 | 0, _, _ => none
 | f + 1, src, a => if pre2 src (a + spanN spaceB src a) then skipF f src (a + spanN spaceB src a + spanN lineB src (a + spanN spaceB src a)) else some (a + spanN spaceB src a)
theorem extract_list (src : ByteArray) (q : Nat) : (src.extract q src.size).data.toList = src.data.toList.drop q := by
 rw [ByteArray.data_extract, Array.toList_extract]
 simp only [List.extract]
 refine List.take_of_length_le ?_
 rw [List.length_drop, Array.length_toList]
 exact Nat.le_refl _
theorem prefix_says (src p : ByteArray) (q : Nat) (w : World) : Says Tryz.prog 49 #[.string (src.extract q src.size), .string p] w (.bool (Lib.hasPrefix (src.data.toList.drop q) p.data.toList)) :=
 (Tryz.strings_HasPrefix (src.extract q src.size) p w).mono fun e w' ⟨he, hw⟩ => ⟨by rw [he, extract_list], by rw [hw]; exact IsDr.refl _⟩
theorem pre2_says (src : ByteArray) (q : Nat) (w : World) : Says Tryz.prog 49 #[.string (src.extract q src.size), .string ⟨#[47, 47]⟩] w (.bool (pre2 src q)) := prefix_says src ⟨#[47, 47]⟩ q w
theorem skip_calls (W : World) (src : ByteArray) (f a b : Nat) (line col : Int) (x : Ext) (d0 : Nat) (hs : src.size ≤ 65536) (ha : a ≤ src.size) (h1 : 1 ≤ line ∧ line ≤ a + 1) (h2 : 1 ≤ col ∧ col ≤ a + 1) (hf : skipF f src a = some b) :
  Calls Tryz.prog 26 #[.pointer (some ⟨W.heap.size, 0, none⟩)] (((W.alloc (.cells #[.string src, .int .i64 (a : Int), .int .i64 line, .int .i64 col] 58)).ov x).dr d0) fun e w' => e = .returned (.tuple #[]) ∧ a ≤ b ∧ b ≤ src.size ∧ ∃ d, w' = ((W.alloc (.cells #[.string src, .int .i64 (b : Int), .int .i64 (lcI src a (line, col) (b - a)).1, .int .i64 (lcI src a (line, col) (b - a)).2] 58)).ov x).dr d := by
 go_enter Tryz.func26, Tryz.ntmps26
 go_wp2
 go_loopg [] f (fun n wr => ∃ c d : Nat, a ≤ c ∧ c ≤ src.size ∧ skipF n src c = some b ∧ wr = ((W.alloc (.cells #[.string src, .int .i64 (c : Int), .int .i64 (lcI src a (line, col) (c - a)).1, .int .i64 (lcI src a (line, col) (c - a)).2] 58)).ov x).dr d)
 case atStart => exact ⟨a, d0, Nat.le_refl _, ha, hf, by simp [lcI]⟩
 case round =>
  obtain ⟨c, d, hac, hcs, hsk, rfl⟩ := hrel
  cases gk with
  | zero => simp [skipF] at hsk
  | succ m =>
  have hr := lcI_range (src := src) h1 h2 (c - a)
  simp only [skipF] at hsk
  have q1 := spanN_le (p := spaceB) hcs
  generalize hn : spanN spaceB src c = n at *
  go_wp2_with fail
  refine (while_space _ W.heap.size src c n ((World.LW_cell _ _ _ _ _ _ _).trans rfl) ((World.LW_cell _ _ _ _ _ _ _).trans rfl) hs q1 (fun j h hj => spanN_all j h (by rw [hn]; exact hj)) (fun h => by subst hn; exact spanN_end hcs h)).mono ?_
  rintro e w' ⟨rfl, d1, rfl⟩
  go_wp2_with fail
  have step : ∀ n : Nat, lcI src c ((lcI src a (line, col) (c - a)).1, (lcI src a (line, col) (c - a)).2) n = lcI src a (line, col) (c + n - a) := fun n => by
   have := lcI_add src a (line, col) (c - a) n
   rw [show a + (c - a) = c by omega, show c - a + n = c + n - a by omega] at this
   exact this
  refine (move_calls W src c n _ _ _ _ hs q1 (by omega) (by omega)).mono ?_
  rintro e w' ⟨rfl, d2, rfl⟩
  rw [step]
  generalize hq : c + n = q at *
  cases hp : pre2 src q
  ·
   rw [hp] at hsk
   simp only [Bool.false_eq_true, if_false, Option.some.injEq] at hsk
   subst hsk
   go_wp2_with (first | (refine wp_region_dr (by kernel_rfl) (by kernel_rfl) ?_; (repeat (go_big_quiet_step (((go_at_call 49; exact (pre2_says _ _ _).quiet))))); refine wpQuiet_nil ?_; rintro _ ⟨nq, rfl⟩))
   go_returns
   exact ⟨rfl, by omega, q1, _, rfl⟩
  ·
   rw [hp] at hsk
   simp only [if_true] at hsk
   have q2 := spanN_le (p := lineB) q1
   generalize hv : spanN lineB src q = v at *
   have hr2 := lcI_range (src := src) h1 h2 (q - a)
   have step2 : ∀ n : Nat, lcI src q ((lcI src a (line, col) (q - a)).1, (lcI src a (line, col) (q - a)).2) n = lcI src a (line, col) (q + n - a) := fun n => by
    have := lcI_add src a (line, col) (q - a) n
    rw [show a + (q - a) = q by omega, show q - a + n = q + n - a by omega] at this
    exact this
   go_wp2_with (first | (refine wp_region_dr (by kernel_rfl) (by kernel_rfl) ?_; (repeat (go_big_quiet_step (((go_at_call 49; exact (pre2_says _ _ _).quiet))))); refine wpQuiet_nil ?_; rintro _ ⟨nq, rfl⟩) | fail)
   refine (while_line _ W.heap.size src q v ((World.LW_cell _ _ _ _ _ _ _).trans rfl) ((World.LW_cell _ _ _ _ _ _ _).trans rfl) hs q2 (fun j h hj => spanN_all j h (by rw [hv]; exact hj)) (fun h => by subst hv; exact spanN_end q1 h)).mono ?_
   rintro e w' ⟨rfl, d3, rfl⟩
   go_wp2_with fail
   refine (move_calls W src q v _ _ _ _ hs q2 (by omega) (by omega)).mono ?_
   rintro e w' ⟨rfl, d4, rfl⟩
   rw [step2]
   go_wp2_with fail
   go_roundg m
   case rel => exact ⟨q + v, d4, by omega, q2, hsk, rfl⟩
   case measure => omega
end Go.Proofs.YtdimhoilfopndaaGreatDoor
end
section
namespace Go.Proofs.YtdimhoilfopndaaGreatDoor
open Go.RowKit
attribute [local go_sem ↓] load_kw
theorem kwAt_toList (i : Nat) : (kwAt i).toList = kwL.getD i [] := by rw [ByteArray.toList_eq]; rfl
theorem kw_none {l : List UInt8} (h : ∀ j, j < 19 → (kwL.getD j [] == l) = false) : kwB l = false := by
 unfold kwB
 rw [Bool.eq_false_iff]
 intro hc
 rw [List.contains_iff_mem] at hc
 obtain ⟨j, hj, e⟩ := List.getElem_of_mem hc
 have := h j hj
 rw [List.getD_eq_getElem?_getD, List.getElem?_eq_getElem hj] at this
 simp [e] at this
theorem kw_some {l : List UInt8} {j : Nat} (hj : j < 19) (h : (kwL.getD j [] == l) = true) : kwB l = true := by
 unfold kwB
 rw [List.contains_iff_mem]
 have hj2 : j < kwL.length := hj
 rw [List.getD_eq_getElem?_getD, List.getElem?_eq_getElem hj2] at h
 simp at h
 rw [← h]; exact List.getElem_mem _
set_option maxHeartbeats 400000 in
theorem Keyword_says (s : ByteArray) (w : World) (hL : LaidX w) : Says Tryz.prog 86 #[.string s] w (.bool (kwB s.data.toList)) := by
 unfold Says
 go_enter Tryz.func86, Tryz.ntmps86
 go_wp2
 go_loopw [6] (fun i wr => ∃ k : Nat, i = .int .i64 (k : Int) ∧ k ≤ 19 ∧ Hid (∀ j, j < k → (kwL.getD j [] == s.data.toList) = false) ∧ IsDr w wr) (fun i wr => (19 - intOf i).toNat)
 case atStart => exact ⟨0, rfl, Nat.zero_le _, fun j hj => absurd hj (Nat.not_lt_zero _), by repeat (first | exact IsDr.refl _ | exact IsDr.ov _ _ _ | apply IsDr.dr | apply IsDr.drewN | apply IsDr.drew)⟩
 case round =>
  obtain ⟨k, rfl, hk, hall, d, rfl⟩ := hrel
  by_cases hlt : k < 19
  ·
   have hi := kw_index k hlt
   have hlt2 : (k : Int) < 19 := by omega
   have ht := kwAt_toList k
   cases hc : (kwL.getD k [] == s.data.toList)
   ·
    have H2 : Hid (∀ j, j < k + 1 → (kwL.getD j [] == s.data.toList) = false) := Lib.hid fun j hj => by
     rcases Nat.lt_or_ge j k with h1 | h1
     · exact hall.out j h1
     ·
      have : j = k := by omega
      subst this; exact hc
    have hc2 : ((kwAt k).toList == s.toList) = false := by rw [ht, ByteArray.toList_eq s]; exact hc
    clear hc ht hall
    go_wp2
    go_roundw
    case rel => exact ⟨k + 1, by go_num, by omega, H2, by repeat (first | exact IsDr.refl _ | exact IsDr.ov _ _ _ | apply IsDr.dr | apply IsDr.drewN | apply IsDr.drew)⟩
    case measure => simp [intOf]; omega
   ·
    have HV := Lib.hid (kw_some hlt hc)
    have hc2 : ((kwAt k).toList == s.toList) = true := by rw [ht, ByteArray.toList_eq s]; exact hc
    clear hc ht hall
    go_wp2
    go_ret
    exact ⟨by rw [HV.out]; rfl, by repeat (first | exact IsDr.refl _ | exact IsDr.ov _ _ _ | apply IsDr.dr | apply IsDr.drewN | apply IsDr.drew)⟩
  ·
   obtain rfl : k = 19 := by omega
   have HV := Lib.hid (kw_none hall.out)
   clear hall
   go_wp2
   go_ret
   exact ⟨by rw [HV.out]; rfl, by repeat (first | exact IsDr.refl _ | exact IsDr.ov _ _ _ | apply IsDr.dr | apply IsDr.drewN | apply IsDr.drew)⟩
end Go.Proofs.YtdimhoilfopndaaGreatDoor
end
