/- The tables of layer 2, and its small words: letter, digit, Keyword and the words handed to while: what each answers, in every world in which the tables lie as the program lays them. No other condition. -/
import Derived.Test.YtdimhoilfopndaaDoorM
set_option linter.unusedVariables false
set_option linter.unusedSimpArgs false
namespace Go.Proofs.YtdimhoilfopndaaDoor
open Go.RowKit
def sgL : List (List UInt8) := [[124, 124], [38, 38], [61, 61], [33, 61], [60, 61], [62, 61], [60, 60], [62, 62], [43], [45], [42], [47], [37], [38], [124], [94], [126], [33], [60], [62], [61], [40], [41], [123], [125], [91], [93], [44], [59]]
def kwL : List (List UInt8) := [[98, 111, 111, 108], [117, 56], [117, 49, 54], [117, 51, 50], [117, 54, 52], [105, 56], [105, 49, 54], [105, 51, 50], [105, 54, 52], [118, 111, 105, 100], [105, 102], [101, 108, 115, 101], [119, 104, 105, 108, 101], [114, 101, 116, 117, 114, 110], [97, 115, 115, 101, 114, 116], [97, 115, 115, 117, 109, 101], [110, 111, 110, 100, 101, 116], [116, 114, 117, 101], [102, 97, 108, 115, 101]]
def sgCells : Array Value := #[.string ⟨#[124, 124]⟩, .string ⟨#[38, 38]⟩, .string ⟨#[61, 61]⟩, .string ⟨#[33, 61]⟩, .string ⟨#[60, 61]⟩, .string ⟨#[62, 61]⟩, .string ⟨#[60, 60]⟩, .string ⟨#[62, 62]⟩, .string ⟨#[43]⟩, .string ⟨#[45]⟩, .string ⟨#[42]⟩, .string ⟨#[47]⟩, .string ⟨#[37]⟩, .string ⟨#[38]⟩, .string ⟨#[124]⟩, .string ⟨#[94]⟩, .string ⟨#[126]⟩, .string ⟨#[33]⟩, .string ⟨#[60]⟩, .string ⟨#[62]⟩, .string ⟨#[61]⟩, .string ⟨#[40]⟩, .string ⟨#[41]⟩, .string ⟨#[123]⟩, .string ⟨#[125]⟩, .string ⟨#[91]⟩, .string ⟨#[93]⟩, .string ⟨#[44]⟩, .string ⟨#[59]⟩]
def kwCells : Array Value := #[.string ⟨#[98, 111, 111, 108]⟩, .string ⟨#[117, 56]⟩, .string ⟨#[117, 49, 54]⟩, .string ⟨#[117, 51, 50]⟩, .string ⟨#[117, 54, 52]⟩, .string ⟨#[105, 56]⟩, .string ⟨#[105, 49, 54]⟩, .string ⟨#[105, 51, 50]⟩, .string ⟨#[105, 54, 52]⟩, .string ⟨#[118, 111, 105, 100]⟩, .string ⟨#[105, 102]⟩, .string ⟨#[101, 108, 115, 101]⟩, .string ⟨#[119, 104, 105, 108, 101]⟩, .string ⟨#[114, 101, 116, 117, 114, 110]⟩, .string ⟨#[97, 115, 115, 101, 114, 116]⟩, .string ⟨#[97, 115, 115, 117, 109, 101]⟩, .string ⟨#[110, 111, 110, 100, 101, 116]⟩, .string ⟨#[116, 114, 117, 101]⟩, .string ⟨#[102, 97, 108, 115, 101]⟩]
/-- A table of Tryd lies so. -/
def LaidAt (g : Nat) (cs : Array Value) (w : World) : Prop := ∀ i : Nat, i < cs.size → w.cell? ⟨g, i, none⟩ = cs[i]?
/-- Something that may be an error lies there. -/
def HasErr (g : Nat) (w : World) : Prop := ∃ ev : Value, w.cell? ⟨g, 0, none⟩ = some ev ∧ (ev = .nilIface ∨ ∃ te pe, ev = .iface te pe)
/-- The tables of layer 2 lie as the program lays them. -/
structure LaidX (w : World) : Prop where
  sg : LaidAt 1 sgCells w
  kw : LaidAt 0 kwCells w
  es : HasErr 2 w
  er : HasErr 3 w
theorem LaidAt.of_isOv {g : Nat} {cs : Array Value} {w w' : World} (h : LaidAt g cs w) (hn : 0 < cs.size) (hb : IsOv w w') : LaidAt g cs w' := fun i hi => by
  have hs : g < w.heap.size := by
    have h0 := h 0 hn
    rw [Array.getElem?_eq_getElem hn] at h0
    exact block_lt_of_cell (a := ⟨g, 0, none⟩) h0
  obtain ⟨x, rfl⟩ := hb
  rw [World.cell_ov_lt w x ⟨g, i, none⟩ hs]; exact h i hi
theorem HasErr.of_isOv {g : Nat} {w w' : World} (h : HasErr g w) (hb : IsOv w w') : HasErr g w' := by
  obtain ⟨ev, h1, h2⟩ := h
  have hs : g < w.heap.size := block_lt_of_cell (a := ⟨g, 0, none⟩) h1
  obtain ⟨x, rfl⟩ := hb
  exact ⟨ev, by rw [World.cell_ov_lt w x ⟨g, 0, none⟩ hs]; exact h1, h2⟩
theorem LaidX.of_isOv {w w' : World} (h : LaidX w) (hb : IsOv w w') : LaidX w' :=
  ⟨h.sg.of_isOv (by decide) hb, h.kw.of_isOv (by decide) hb, h.es.of_isOv hb, h.er.of_isOv hb⟩
theorem LaidX.alloc {w : World} (h : LaidX w) (o : Obj) : LaidX (w.alloc o) := h.of_isOv ((IsOv.refl w).alloc o)
theorem LaidX.ov {w : World} (h : LaidX w) (x : Ext) : LaidX (w.ov x) := h.of_isOv ((IsOv.refl w).ov x)
theorem load_sg {W : World} (h : LaidX W) (A : Act) (dst : Option Tmp) (rt : TypeId) (pos : String) (after : Array Edge) (gd : Option (Nat × Bool)) :
    (execOp A.eval ⟨dst, .load 58 (.global 1), rt, pos, after, gd⟩).run Tryd.prog W = .ok (.value (.agg sgCells)) W :=
  run_load_table h.sg Tryd.underlying58 rfl (by kernel_rfl) A dst rt pos after gd
theorem load_kw {W : World} (h : LaidX W) (A : Act) (dst : Option Tmp) (rt : TypeId) (pos : String) (after : Array Edge) (gd : Option (Nat × Bool)) :
    (execOp A.eval ⟨dst, .load 46 (.global 0), rt, pos, after, gd⟩).run Tryd.prog W = .ok (.value (.agg kwCells)) W :=
  run_load_table h.kw Tryd.underlying46 rfl (by kernel_rfl) A dst rt pos after gd
/-- Sign number i. -/
def sgAt (i : Nat) : ByteArray := ⟨(sgL.getD i []).toArray⟩
def kwAt (i : Nat) : ByteArray := ⟨(kwL.getD i []).toArray⟩
theorem sg_index (i : Nat) (h : i < 29) (w : World) : (Instr.index 58 (.agg sgCells) (.int .i64 (i : Int))).run Tryd.prog w = .ok (.string (sgAt i)) w :=
  match i, h with
  | 0, _ => by kernel_rfl
  | 1, _ => by kernel_rfl
  | 2, _ => by kernel_rfl
  | 3, _ => by kernel_rfl
  | 4, _ => by kernel_rfl
  | 5, _ => by kernel_rfl
  | 6, _ => by kernel_rfl
  | 7, _ => by kernel_rfl
  | 8, _ => by kernel_rfl
  | 9, _ => by kernel_rfl
  | 10, _ => by kernel_rfl
  | 11, _ => by kernel_rfl
  | 12, _ => by kernel_rfl
  | 13, _ => by kernel_rfl
  | 14, _ => by kernel_rfl
  | 15, _ => by kernel_rfl
  | 16, _ => by kernel_rfl
  | 17, _ => by kernel_rfl
  | 18, _ => by kernel_rfl
  | 19, _ => by kernel_rfl
  | 20, _ => by kernel_rfl
  | 21, _ => by kernel_rfl
  | 22, _ => by kernel_rfl
  | 23, _ => by kernel_rfl
  | 24, _ => by kernel_rfl
  | 25, _ => by kernel_rfl
  | 26, _ => by kernel_rfl
  | 27, _ => by kernel_rfl
  | 28, _ => by kernel_rfl
  | n + 29, h => absurd h (by omega)
theorem kw_index (i : Nat) (h : i < 19) (w : World) : (Instr.index 46 (.agg kwCells) (.int .i64 (i : Int))).run Tryd.prog w = .ok (.string (kwAt i)) w :=
  match i, h with
  | 0, _ => by kernel_rfl
  | 1, _ => by kernel_rfl
  | 2, _ => by kernel_rfl
  | 3, _ => by kernel_rfl
  | 4, _ => by kernel_rfl
  | 5, _ => by kernel_rfl
  | 6, _ => by kernel_rfl
  | 7, _ => by kernel_rfl
  | 8, _ => by kernel_rfl
  | 9, _ => by kernel_rfl
  | 10, _ => by kernel_rfl
  | 11, _ => by kernel_rfl
  | 12, _ => by kernel_rfl
  | 13, _ => by kernel_rfl
  | 14, _ => by kernel_rfl
  | 15, _ => by kernel_rfl
  | 16, _ => by kernel_rfl
  | 17, _ => by kernel_rfl
  | 18, _ => by kernel_rfl
  | n + 19, h => absurd h (by omega)
/-- May a name not be given? -/
def kwB (s : List UInt8) : Bool := kwL.contains s
def digitB (c : Int) : Bool := decide (48 ≤ c) && decide (c ≤ 57)
def letterB (c : Int) : Bool := (decide (97 ≤ c) && decide (c ≤ 122)) || (decide (65 ≤ c) && decide (c ≤ 90)) || c == 95 || digitB c
def spaceB (c : Int) : Bool := c == 32 || c == 9 || c == 13 || c == 10
def lineB (c : Int) : Bool := c != 10
set_option maxHeartbeats 4000000 in
theorem digit_says (c : Int) (w : World) : Says Tryd.prog 26 #[.int .u8 c] w (.bool (digitB c)) := by
  unfold Says
  go_enter Tryd.func26, Tryd.ntmps26
  go_wp2
  all_goals
    go_ret
    refine ⟨congrArg (fun b => Ending.returned (Value.bool b)) (?_ : (_ : Bool) = _), by repeat (first | exact IsDr.refl _ | exact IsDr.ov _ _ _ | apply IsDr.dr | apply IsDr.drewN | apply IsDr.drew)⟩
    rw [Bool.eq_iff_iff]
    (simp [digitB, digitB]) <;> omega
set_option maxHeartbeats 4000000 in
theorem letter_says (c : Int) (w : World) : Says Tryd.prog 18 #[.int .u8 c] w (.bool (letterB c)) := by
  unfold Says
  go_enter Tryd.func18, Tryd.ntmps18
  go_wp2_with (first | (go_at_call 26; refine (digit_says _ _).mono ?_; rintro e w' ⟨rfl, x, rfl⟩) | (refine wp_region_dr (by kernel_rfl) (by kernel_rfl) ?_; (repeat (go_big_quiet_step (((go_at_call 26; exact (digit_says _ _).quiet))))); refine wpQuiet_nil ?_; rintro _ ⟨nq, rfl⟩))
  all_goals
    go_ret
    refine ⟨congrArg (fun b => Ending.returned (Value.bool b)) (?_ : (_ : Bool) = _), by repeat (first | exact IsDr.refl _ | exact IsDr.ov _ _ _ | apply IsDr.dr | apply IsDr.drewN | apply IsDr.drew)⟩
    rw [Bool.eq_iff_iff]
    (simp [letterB, digitB]) <;> omega
set_option maxHeartbeats 4000000 in
theorem space_says (c : Int) (w : World) : Says Tryd.prog 30 #[.int .u8 c] w (.bool (spaceB c)) := by
  unfold Says
  go_enter Tryd.func30, Tryd.ntmps30
  go_wp2
  all_goals
    go_ret
    refine ⟨congrArg (fun b => Ending.returned (Value.bool b)) (?_ : (_ : Bool) = _), by repeat (first | exact IsDr.refl _ | exact IsDr.ov _ _ _ | apply IsDr.dr | apply IsDr.drewN | apply IsDr.drew)⟩
    rw [Bool.eq_iff_iff]
    (simp [spaceB, digitB]) <;> omega
set_option maxHeartbeats 4000000 in
theorem line_says (c : Int) (w : World) : Says Tryd.prog 32 #[.int .u8 c] w (.bool (lineB c)) := by
  unfold Says
  go_enter Tryd.func32, Tryd.ntmps32
  go_wp2
  all_goals
    go_ret
    refine ⟨congrArg (fun b => Ending.returned (Value.bool b)) (?_ : (_ : Bool) = _), by repeat (first | exact IsDr.refl _ | exact IsDr.ov _ _ _ | apply IsDr.dr | apply IsDr.drewN | apply IsDr.drew)⟩
    rw [Bool.eq_iff_iff]
    (simp [lineB, digitB]) <;> omega
end Go.Proofs.YtdimhoilfopndaaDoor
