/- Texts of one proof, put together: TA TB TC TD TE TF TG TH TI TJ. Conditions: as each lemma says. -/
import Derived.Test.YtdimhoilfopndaaGreatDoorA9
import Derived.Test.YtdimhoilfopndaaGreatDoorA10
import Derived.Test.YtdimhoilfopndaaGreatDoorA5
import Derived.Handy
set_option linter.unusedVariables false
set_option linter.unusedSimpArgs false
section
namespace Go.Proofs.YtdimhoilfopndaaGreatDoor
open Go.RowKit
def tkL (l : List UInt8) : Tk := (nextL l).getD ⟨3, [], 0⟩
def tkB (y : ByteArray) : Tok := ⟨(tkL y.data.toList).kind, ⟨(tkL y.data.toList).text.toArray⟩, (tkL y.data.toList).num, 0, 0⟩
def oneB (y : ByteArray) : Bool := match nextL y.data.toList with | some t => t.kind != 3 && t.text == y.data.toList | none => false
theorem ba_ext {a b : ByteArray} (h : a.data.toList = b.data.toList) : a = b := by
 cases a; cases b; congr 1; exact Array.toList_inj.1 h
theorem eqB_eq {a b : ByteArray} (h : eqB a b = true) : a = b := ba_ext (by simpa [eqB] using h)
theorem eqB_self (a : ByteArray) : eqB a a = true := by simp [eqB]
theorem oneB_tk {y : ByteArray} (h : oneB y = true) : ∃ t, nextL y.data.toList = some t ∧ t.kind ≠ 3 ∧ t.text = y.data.toList ∧ tkB y = ⟨t.kind, y, t.num, 0, 0⟩ := by
 unfold oneB at h
 cases hn : nextL y.data.toList with
 | none => rw [hn] at h; cases h
 | some t =>
  rw [hn] at h
  simp only [Bool.and_eq_true, bne_iff_ne, beq_iff_eq] at h
  refine ⟨t, rfl, h.1, h.2, ?_⟩
  unfold tkB tkL
  rw [hn, Option.getD_some, h.2]
theorem oneB_good {y : ByteArray} (h : oneB y = true) : Good ⟨(tkB y).kind, y.data.toList, (tkB y).num⟩ := by
 obtain ⟨t, h1, h2, h3, h4⟩ := oneB_tk h
 have := good_of h1 h2
 rw [h4]
 rw [← h3]; exact this
def NameB (y : ByteArray) : Prop := nextL y.data.toList = some ⟨0, y.data.toList, 0⟩ ∧ kwB y.data.toList = false
theorem nextL_zero {l : List UInt8} {t : Tk} (h : nextL l = some t) (hk : t.kind = 0) : t.num = 0 := by
 unfold nextL at h
 split at h
 · obtain rfl := Option.some.inj h; cases hk
 ·
  split at h
  ·
   split at h
   ·
    split at h
    · obtain rfl := Option.some.inj h; cases hk
    · cases h
   · obtain rfl := Option.some.inj h; rfl
  ·
   split at h
   · obtain rfl := Option.some.inj h; rfl
   · cases h
theorem given_name {y : ByteArray} (h : givenB y = true) : NameB y := by
 simp only [givenB, Bool.and_eq_true, beq_iff_eq, Bool.not_eq_true'] at h
 obtain ⟨he, hl, hk, ht, hw⟩ := h
 have hsz : y.size ≤ 65536 := by
  by_cases hs : 65536 < y.size
  ·
   exfalso
   unfold lexR at hl
   rw [if_pos hs] at hl
   cases hl
  · omega
 obtain ⟨gs, h1, h2, h3⟩ := LX_form _ _ _ rfl ((lexR_list y hsz).1 he)
 generalize (lexR y).toks = ts at *
 match ts, gs, h1, hl with
 | [a, b], [g], h1, _ =>
  simp only [List.map_cons, List.map_nil, List.cons_append, List.nil_append, List.cons.injEq, and_true] at h1
  have hg := h2 g (List.mem_cons_self ..)
  have hgk : g.kind = 0 := by rw [← h1.1]; exact hk
  have hgt : g.text = y.data.toList := by
   rw [← h1.1]
   show a.text.data.toList = _
   exact congrArg (fun b : ByteArray => b.data.toList) (eqB_eq ht)
  have hn := hg.next
  have hn0 := nextL_zero hn hgk
  refine ⟨?_, hw⟩
  rw [← hgt, hn]
  cases g
  simp only at hgk hn0
  subst hgk hn0
  rfl
 | [a, b], [], h1, _ => simp at h1
 | [a, b], _ :: _ :: _, h1, _ => simp at h1
theorem NameB.one {y : ByteArray} (h : NameB y) : oneB y = true := by unfold oneB; rw [h.1]; simp
theorem NameB.tk {y : ByteArray} (h : NameB y) : tkB y = ⟨0, y, 0, 0, 0⟩ := by
 obtain ⟨t, h1, h2, h3, h4⟩ := oneB_tk h.one
 rw [h.1] at h1
 obtain rfl := Option.some.inj h1
 exact h4
theorem NameB.ne {y : ByteArray} (h : NameB y) : y.data.toList ≠ [] := by
 intro e
 have h1 := h.1
 rw [e] at h1
 have := Option.some.inj h1
 cases this
theorem NameB.named {y : ByteArray} (h : NameB y) (r : List Tok) : namedF (tkB y :: r) = true := by
 have h2 := h.ne
 rw [h.tk]
 unfold namedF nowT
 simp only [List.headD_cons, h.2, Bool.not_false, Bool.and_true]
 cases hy : y.data.toList with
 | nil => exact absurd hy h2
 | cons a b => rfl
def noName (x : ByteArray) : Bool := (match nextL x.data.toList with | some t => t.kind != 0 | none => true) || kwB x.data.toList
theorem NameB.nis {y x : ByteArray} (h : NameB y) (hx : noName x = true) (r : List Tok) : isF (tkB y :: r) x = false := by
 rw [h.tk]
 unfold isF nowT
 simp only [List.headD_cons]
 cases he : (y.data.toList == x.data.toList)
 · rfl
 ·
  exfalso
  have he := beq_iff_eq.1 he
  unfold noName at hx
  rw [← he, h.1, h.2] at hx
  simp at hx
theorem typed_kw : ∀ s : ByteArray, typedB s = true → kwB s.data.toList = true := by
 intro s h
 simp only [typedB, Bool.or_eq_true, beq_iff_eq] at h
 rcases h with ((((((((h | h) | h) | h) | h) | h) | h) | h) | h) <;> rw [h] <;> decide
theorem NameB.notType {y : ByteArray} (h : NameB y) (r : List Tok) : isTypeF (tkB y :: r) = false := by
 rw [h.tk]
 unfold isTypeF nowT
 simp only [List.headD_cons]
 cases ht : typedB y
 · rfl
 ·
  have := typed_kw y ht
  rw [h.2] at this; cases this
def opFacts (s : ByteArray) (j : Nat) : Bool := (tkL s.data.toList).kind == 2 && ((tkL s.data.toList).text == s.data.toList && ((tkL s.data.toList).num == 0 && (oneB s && ((List.range 10).all fun i => levelB i s == (i == j)))))
theorem ops_all : ∀ j, j < 10 → ((levL.getD j []).all fun s => opFacts s j) = true := by decide +kernel
theorem level_op {j : Nat} {op : ByteArray} (hj : j < 10) (h : levelB j op = true) : opFacts op j = true := by
 unfold levelB at h
 obtain ⟨s, hs, he⟩ := List.any_eq_true.1 h
 have : s = op := ba_ext (by simpa using he)
 subst this
 exact List.all_eq_true.1 (ops_all j hj) s hs
theorem binding_op {op : ByteArray} (h : bindingB op = true) : ∃ j, j < 10 ∧ levelB j op = true ∧ (∀ i, i < 10 → levelB i op = true → i = j) ∧ tkB op = ⟨2, op, 0, 0, 0⟩ ∧ oneB op = true := by
 simp only [bindingB, Bool.and_eq_true] at h
 obtain ⟨j, hj, hl⟩ := List.any_eq_true.1 h.2
 have hj := List.mem_range.1 hj
 have h1 := level_op hj hl
 simp only [opFacts, Bool.and_eq_true, beq_iff_eq, List.all_eq_true] at h1
 refine ⟨j, hj, hl, fun i hi hl2 => ?_, ?_, h1.2.2.2.1⟩
 ·
  have h2 := h1.2.2.2.2 i (List.mem_range.2 hi)
  rw [hl2] at h2
  simpa using h2.symm
 ·
  unfold tkB
  rw [h1.1, h1.2.1, h1.2.2.1]
theorem is_cons (t : Tok) (r : List Tok) (x : ByteArray) : isF (t :: r) x = ((t.text.data.toList == x.data.toList) && (t.kind == 0 || t.kind == 2)) := rfl
theorem now_cons (t : Tok) (r : List Tok) : nowT (t :: r) = t := rfl
theorem named_cons (t : Tok) (r : List Tok) : namedF (t :: r) = (t.kind == 0 && (!t.text.data.toList.isEmpty && !kwB t.text.data.toList)) := rfl
theorem isType_cons (t : Tok) (r : List Tok) : isTypeF (t :: r) = (t.kind == 0 && typedB t.text) := rfl
end Go.Proofs.YtdimhoilfopndaaGreatDoor
end
section
namespace Go.Proofs.YtdimhoilfopndaaGreatDoor
open Go.RowKit
theorem dec_facts : ∀ i, i < 10 → (UInt8.ofNat (48 + i)).toNat = 48 + i ∧ dv (UInt8.ofNat (48 + i)) = (i : Int) ∧ alnumB (UInt8.ofNat (48 + i)) = true ∧ ltr (UInt8.ofNat (48 + i)) = true ∧ dgt (UInt8.ofNat (48 + i)) = true ∧ UInt8.ofNat (48 + i) ≠ 120 := by decide +kernel
theorem decD_eq (u : Nat) : Lib.decDigits u = if u < 10 then [UInt8.ofNat (48 + u)] else Lib.decDigits (u / 10) ++ [UInt8.ofNat (48 + u % 10)] := by
 rw [Lib.decDigits]
 split <;> rfl
theorem dec_all (u : Nat) : ∀ c ∈ Lib.decDigits u, ∃ i, i < 10 ∧ c = UInt8.ofNat (48 + i) := by
 induction u using Nat.strongRecOn with
 | _ u ih =>
  intro c hc
  rw [decD_eq] at hc
  split at hc
  · exact ⟨u, by assumption, List.mem_singleton.1 hc⟩
  ·
   rcases List.mem_append.1 hc with hc | hc
   · exact ih (u / 10) (by omega) c hc
   · exact ⟨u % 10, by omega, List.mem_singleton.1 hc⟩
theorem dec_ne (u : Nat) : Lib.decDigits u ≠ [] := by rw [decD_eq]; split <;> simp
theorem dec_numP (u : Nat) : u < 18446744073709551616 → ∀ r, numP 10 0 (Lib.decDigits u ++ r) = numP 10 (u : Int) r := by
 induction u using Nat.strongRecOn with
 | _ u ih =>
  intro hu r
  rw [decD_eq]
  split
  ·
   rename_i h
   rw [List.singleton_append, numP, (dec_facts u h).2.1, if_neg (by omega), if_neg (by omega)]
   congr 1; omega
  ·
   rename_i h
   have hm := (dec_facts (u % 10) (by omega)).2.1
   rw [List.append_assoc, ih (u / 10) (by omega) (by omega), List.singleton_append, numP, hm, if_neg (by omega), if_neg (by omega)]
   congr 1; omega
theorem dec_len (k : Nat) : ∀ u, u < 10 ^ (k + 1) → (Lib.decDigits u).length ≤ k + 1 := by
 induction k with
 | zero => intro u hu; rw [decD_eq, if_pos (by omega)]; simp
 | succ k ih =>
  intro u hu
  rw [decD_eq]
  split
  · simp
  ·
   have := ih (u / 10) (by rw [Nat.pow_succ] at hu; omega)
   rw [List.length_append, List.length_singleton]; omega
theorem digits_len {v : Int} (h1 : v < 18446744073709551616) : (digitsB v).size ≤ 20 := by
 unfold digitsB
 have := dec_len 19 v.toNat (by omega)
 simpa [ByteArray.size] using this
theorem digits_next {v : Int} (h0 : 0 ≤ v) (h1 : v < 18446744073709551616) : nextL (digitsB v).data.toList = some ⟨1, (digitsB v).data.toList, v⟩ := by
 have hd : (digitsB v).data.toList = Lib.decDigits v.toNat := rfl
 rw [hd]
 have ha := dec_all v.toNat
 have hN := dec_numP v.toNat (by omega) []
 rw [List.append_nil, numP] at hN
 have hne := dec_ne v.toNat
 rw [show ((v.toNat : Nat) : Int) = v by omega] at hN
 generalize Lib.decDigits v.toNat = l at *
 have hal : l.all alnumB = true := List.all_eq_true.2 fun c hc => by
  obtain ⟨i, hi, rfl⟩ := ha c hc
  exact (dec_facts i hi).2.2.1
 have htw : l.takeWhile ltr = l := takeWhile_self fun c hc => by
  obtain ⟨i, hi, rfl⟩ := ha c hc
  exact (dec_facts i hi).2.2.2.1
 have hp : Lib.hasPrefix l [48, 120] = false := by
  match l, ha with
  | [], _ => rfl
  | [a], _ => rw [hasPrefix_cons, show Lib.hasPrefix [] [120] = false from rfl, Bool.and_false]
  | a :: b :: r, ha =>
   obtain ⟨i, hi, hb⟩ := ha b (by simp)
   have := (dec_facts i hi).2.2.2.2.2
   rw [← hb] at this
   rw [hasPrefix_cons, hasPrefix_cons, show ((120 : UInt8) == b) = false from by simpa using fun e => this e.symm, Bool.false_and, Bool.and_false]
 match l, hne with
 | c :: r, _ =>
  obtain ⟨i, hi, hc⟩ := ha c (by simp)
  simp only [nextL]
  rw [if_pos (by rw [hc]; exact (dec_facts i hi).2.2.2.1), if_pos (by rw [hc]; exact (dec_facts i hi).2.2.2.2.1)]
  simp only [htw]
  unfold numL
  rw [hp, if_neg (by decide), if_pos hal]
  unfold numE
  rw [show (c :: r).isEmpty = false from rfl, if_neg (by decide), hN]
theorem digits_one {v : Int} (h0 : 0 ≤ v) (h1 : v < 18446744073709551616) : oneB (digitsB v) = true := by
 unfold oneB; rw [digits_next h0 h1]; simp
theorem digits_tk {v : Int} (h0 : 0 ≤ v) (h1 : v < 18446744073709551616) : tkB (digitsB v) = ⟨1, digitsB v, v, 0, 0⟩ := by
 obtain ⟨t, h2, h3, h4, h5⟩ := oneB_tk (digits_one h0 h1)
 rw [digits_next h0 h1] at h2
 obtain rfl := Option.some.inj h2
 exact h5
end Go.Proofs.YtdimhoilfopndaaGreatDoor
end
section
namespace Go.Proofs.YtdimhoilfopndaaGreatDoor
open Go.RowKit
def Bk (x : Option (PR Node)) (n : Node) (r : List Tok) (e : Prop) : Prop := (∃ m, x = some (.ok m r) ∧ m.strip = n.strip) ∨ (e ∧ ∃ l k, x = some (.bad l k 31))
theorem Bk.mono {x : Option (PR Node)} {n : Node} {r : List Tok} {e e' : Prop} (h : Bk x n r e) (he : e → e') : Bk x n r e' := by
 rcases h with h | ⟨h1, h2⟩
 · exact .inl h
 · exact .inr ⟨he h1, h2⟩
theorem Bk.bnd {x : Option (PR Node)} {n n' : Node} {r r' : List Tok} {e : Prop} {F : Node → List Tok → Option (PR Node)} (h : Bk x n r e) (hF : ∀ m, m.strip = n.strip → Bk (F m r) n' r' e) : Bk (bnd x F) n' r' e := by
 rcases h with ⟨m, rfl, hm⟩ | ⟨h1, l, k, rfl⟩
 · exact hF m hm
 · exact .inr ⟨h1, l, k, rfl⟩
theorem Bk.deep {n : Node} {r ts : List Tok} {e : Prop} (he : e) : Bk (some (badAt ts 31)) n r e := .inr ⟨he, _, _, rfl⟩
theorem Bk.ok {n : Node} {r : List Tok} {e : Prop} (m : Node) (h : m.strip = n.strip) : Bk (some (.ok m r)) n r e := .inl ⟨m, rfl, h⟩
theorem bnd_need {β : Type} {t : Tok} {r : List Tok} {x : ByteArray} {F : Tok → List Tok → Option (PR β)} (h : isF (t :: r) x = true) : bnd (some (needF (t :: r) x)) F = F t r := by
 unfold needF
 rw [if_pos h]; rfl
theorem sq_some {a b : Out} {ys : List ByteArray} (h : sq a b = some ys) : ∃ x y, a = some x ∧ b = some y ∧ ys = x ++ y := by
 cases a with
 | none => cases h
 | some x =>
  cases b with
  | none => cases h
  | some y => exact ⟨x, y, rfl, rfl, (Option.some.inj h).symm⟩
theorem strip_eq (n : Node) : n.strip = ⟨n.kind, n.text, n.num, 0, 0, stripL n.kids⟩ := by cases n; exact strip_mk ..
theorem plain_form {n : Node} {k : ByteArray} {d : Int} {t u : Bool} (h : plainB n k d t u = true) : n.kind = k ∧ (n.kids.length : Int) = d ∧ (t = false → n.text = ⟨#[]⟩) ∧ (u = false → n.num = 0) := by
 simp only [plainB, Bool.and_eq_true, Bool.or_eq_true, beq_iff_eq] at h
 obtain ⟨h1, h2, h3, h4⟩ := h
 refine ⟨eqB_eq h1, h2, fun ht => ?_, fun hu => ?_⟩
 ·
  rcases h3 with h3 | h3
  · rw [ht] at h3; cases h3
  · exact eqB_eq h3
 ·
  rcases h4 with h4 | h4
  · rw [hu] at h4; cases h4
  · exact h4
theorem plain0 {n : Node} {k : ByteArray} {t u : Bool} (h : plainB n k 0 t u = true) : n.kids = [] := List.eq_nil_of_length_eq_zero (by have := (plain_form h).2.1; omega)
theorem plain1 {n : Node} {k : ByteArray} {t u : Bool} (h : plainB n k 1 t u = true) : n.kids = [kidN n 0] ∧ 0 < n.kids.length := by
 have := (plain_form h).2.1
 exact ⟨kids1 (by omega), by omega⟩
theorem plain2 {n : Node} {k : ByteArray} {t u : Bool} (h : plainB n k 2 t u = true) : n.kids = [kidN n 0, kidN n 1] ∧ 1 < n.kids.length := by
 have := (plain_form h).2.1
 exact ⟨kids2 (by omega), by omega⟩
def noLev (j : Nat) (r : List Tok) : Prop := ((nowT r).kind == 2 && levelB j (nowT r).text) = false
structure StopE (r : List Tok) : Prop where
 lev : ∀ j, j < 10 → noLev j r
 lb : isF r ⟨#[91]⟩ = false
 lp : isF r ⟨#[40]⟩ = false
def stopB (y : ByteArray) : Bool := ((List.range 10).all fun j => !((tkB y).kind == 2 && levelB j (tkB y).text)) && (!(isF [tkB y] ⟨#[91]⟩) && !(isF [tkB y] ⟨#[40]⟩))
theorem stop_of {y : ByteArray} (h : stopB y = true) (r : List Tok) : StopE (tkB y :: r) := by
 simp only [stopB, Bool.and_eq_true, List.all_eq_true, Bool.not_eq_true'] at h
 exact ⟨fun j hj => h.1 j (List.mem_range.2 hj), h.2.1, h.2.2⟩
theorem stop_rp : stopB ⟨#[41]⟩ = true := by decide +kernel
theorem stop_rb : stopB ⟨#[93]⟩ = true := by decide +kernel
theorem stop_sc : stopB ⟨#[59]⟩ = true := by decide +kernel
theorem stop_cm : stopB ⟨#[44]⟩ = true := by decide +kernel
theorem tk_lp : tkB ⟨#[40]⟩ = ⟨2, ⟨#[40]⟩, 0, 0, 0⟩ := by kernel_rfl
theorem tk_rp : tkB ⟨#[41]⟩ = ⟨2, ⟨#[41]⟩, 0, 0, 0⟩ := by kernel_rfl
theorem tk_lb : tkB ⟨#[91]⟩ = ⟨2, ⟨#[91]⟩, 0, 0, 0⟩ := by kernel_rfl
theorem tk_rb : tkB ⟨#[93]⟩ = ⟨2, ⟨#[93]⟩, 0, 0, 0⟩ := by kernel_rfl
theorem tk_true : tkB ⟨#[116, 114, 117, 101]⟩ = ⟨0, ⟨#[116, 114, 117, 101]⟩, 0, 0, 0⟩ := by kernel_rfl
theorem tk_false : tkB ⟨#[102, 97, 108, 115, 101]⟩ = ⟨0, ⟨#[102, 97, 108, 115, 101]⟩, 0, 0, 0⟩ := by kernel_rfl
theorem tk_not : tkB ⟨#[33]⟩ = ⟨2, ⟨#[33]⟩, 0, 0, 0⟩ := by kernel_rfl
theorem tk_inv : tkB ⟨#[126]⟩ = ⟨2, ⟨#[126]⟩, 0, 0, 0⟩ := by kernel_rfl
theorem tk_neg : tkB ⟨#[45]⟩ = ⟨2, ⟨#[45]⟩, 0, 0, 0⟩ := by kernel_rfl
theorem typed_cases {s : ByteArray} (h : typedB s = true) : s = ⟨#[98, 111, 111, 108]⟩ ∨ s = ⟨#[117, 56]⟩ ∨ s = ⟨#[117, 49, 54]⟩ ∨ s = ⟨#[117, 51, 50]⟩ ∨ s = ⟨#[117, 54, 52]⟩ ∨ s = ⟨#[105, 56]⟩ ∨ s = ⟨#[105, 49, 54]⟩ ∨ s = ⟨#[105, 51, 50]⟩ ∨ s = ⟨#[105, 54, 52]⟩ := by
 simp only [typedB, Bool.or_eq_true, beq_iff_eq] at h
 rcases h with ((((((((h | h) | h) | h) | h) | h) | h) | h) | h)
 all_goals have h := ba_ext (b := ⟨Array.mk _⟩) h
 · exact .inl h
 · exact .inr (.inl h)
 · exact .inr (.inr (.inl h))
 · exact .inr (.inr (.inr (.inl h)))
 · exact .inr (.inr (.inr (.inr (.inl h))))
 · exact .inr (.inr (.inr (.inr (.inr (.inl h)))))
 · exact .inr (.inr (.inr (.inr (.inr (.inr (.inl h))))))
 · exact .inr (.inr (.inr (.inr (.inr (.inr (.inr (.inl h)))))))
 · exact .inr (.inr (.inr (.inr (.inr (.inr (.inr (.inr h)))))))
theorem typed_tk {s : ByteArray} (h : typedB s = true) : tkB s = ⟨0, s, 0, 0, 0⟩ ∧ oneB s = true := by
 rcases typed_cases h with rfl | rfl | rfl | rfl | rfl | rfl | rfl | rfl | rfl <;> exact ⟨by kernel_rfl, by kernel_rfl⟩
def callHd (ts : List Tok) : Bool := namedF ts && (!ts.tail.isEmpty && ((nowT ts.tail).kind == 2 && (nowT ts.tail).text.data.toList == [40]))
structure HdOk (ts : List Tok) : Prop where
 ty : isTypeF ts = false
 sc : isF ts ⟨#[59]⟩ = false
 rp : isF ts ⟨#[41]⟩ = false
 nd : isF ts ⟨#[110, 111, 110, 100, 101, 116]⟩ = false
 call : callHd ts = false
theorem hd_of {y : ByteArray} (h : isTypeF [tkB y] = false ∧ isF [tkB y] ⟨#[59]⟩ = false ∧ isF [tkB y] ⟨#[41]⟩ = false ∧ isF [tkB y] ⟨#[110, 111, 110, 100, 101, 116]⟩ = false ∧ namedF [tkB y] = false) (r : List Tok) : HdOk (tkB y :: r) := by
 obtain ⟨h1, h2, h3, h4, h5⟩ := h
 refine ⟨h1, h2, h3, h4, ?_⟩
 unfold callHd
 rw [show namedF (tkB y :: r) = false from h5]; rfl
theorem hd_lp (r : List Tok) : HdOk (tkB ⟨#[40]⟩ :: r) := hd_of ⟨by kernel_rfl, by kernel_rfl, by kernel_rfl, by kernel_rfl, by kernel_rfl⟩ r
theorem no_lp {r : List Tok} (h : isF r ⟨#[40]⟩ = false) : ((nowT r).kind == 2 && (nowT r).text.data.toList == [40]) = false := by
 unfold isF at h
 simp only [Bool.and_eq_false_iff, Bool.or_eq_false_iff] at h ⊢
 rcases h with h | h
 · exact .inr h
 · exact .inl h.2
theorem hd_name {y : ByteArray} (h : NameB y) {r : List Tok} (hr : isF r ⟨#[40]⟩ = false) : HdOk (tkB y :: r) := by
 refine ⟨h.notType r, h.nis (by decide +kernel) r, h.nis (by decide +kernel) r, h.nis (by decide +kernel) r, ?_⟩
 unfold callHd
 rw [show (tkB y :: r).tail = r from rfl, no_lp hr]
 simp
theorem hd_num {y : ByteArray} (h : (tkB y).kind = 1) (r : List Tok) : HdOk (tkB y :: r) := by
 refine ⟨?_, ?_, ?_, ?_, ?_⟩ <;> simp [isType_cons, is_cons, named_cons, callHd, h]
theorem unop_cases {s : ByteArray} (h : (eqB s ⟨#[33]⟩ || (eqB s ⟨#[126]⟩ || eqB s ⟨#[45]⟩)) = true) : s = ⟨#[33]⟩ ∨ s = ⟨#[126]⟩ ∨ s = ⟨#[45]⟩ := by
 simp only [Bool.or_eq_true] at h
 rcases h with h | h | h
 · exact .inl (eqB_eq h)
 · exact .inr (.inl (eqB_eq h))
 · exact .inr (.inr (eqB_eq h))
theorem nameS_some {n : Node} {ys : List ByteArray} (h : nameS n = some ys) : ys = [n.text] ∧ NameB n.text := by
 unfold nameS at h
 split at h
 · rename_i hg; exact ⟨(Option.some.inj h).symm, given_name hg⟩
 · cases h
theorem op_tk {op : ByteArray} (h : bindingB op = true) (r : List Tok) : isF (tkB op :: r) ⟨#[91]⟩ = false ∧ isF (tkB op :: r) ⟨#[40]⟩ = false := by
 obtain ⟨j, hj, hl, _, ht, _⟩ := binding_op h
 rw [ht]
 constructor
 ·
  cases he : (op.data.toList == [91])
  · simp only [is_cons]; rw [he]; rfl
  ·
   exfalso
   have he : op = ⟨#[91]⟩ := ba_ext (by simpa using he)
   rw [he] at h; revert h; decide +kernel
 ·
  cases he : (op.data.toList == [40])
  · simp only [is_cons]; rw [he]; rfl
  ·
   exfalso
   have he : op = ⟨#[40]⟩ := ba_ext (by simpa using he)
   rw [he] at h; revert h; decide +kernel
theorem map_app (xs ys : List ByteArray) (r : List Tok) : (xs ++ ys).map tkB ++ r = xs.map tkB ++ (ys.map tkB ++ r) := by rw [List.map_append, List.append_assoc]
theorem map_cons (x : ByteArray) (ys : List ByteArray) (r : List Tok) : (x :: ys).map tkB ++ r = tkB x :: (ys.map tkB ++ r) := rfl
theorem map_nil (r : List Tok) : ([] : List ByteArray).map tkB ++ r = r := rfl
structure HdE (g : Nat) : Prop where
 expr : ∀ n w ys, exprS g n w = some ys → numsOk n = true → ∀ r, isF r ⟨#[40]⟩ = false → HdOk (ys.map tkB ++ r)
 core : ∀ n ys, coreS g n = some ys → numsOk n = true → ∀ r, isF r ⟨#[40]⟩ = false → HdOk (ys.map tkB ++ r)
 target : ∀ n ys, targetS g n = some ys → ∃ y ys', ys = y :: ys' ∧ NameB y ∧ ∀ r, isF r ⟨#[40]⟩ = false → isF (ys'.map tkB ++ r) ⟨#[40]⟩ = false
theorem hdE : ∀ g, HdE g := by
 intro g
 induction g with
 | zero => exact ⟨fun _ _ _ h => (by simp only [exprS] at h; cases h), fun _ _ h => (by simp only [coreS] at h; cases h), fun _ _ h => (by simp only [targetS] at h; cases h)⟩
 | succ g ih =>
  refine ⟨fun n w ys h hn r hr => ?_, fun n ys h hn r hr => ?_, fun n ys h => ?_⟩
  ·
   simp only [exprS] at h
   split at h
   ·
    obtain ⟨a, b, ha, hb, rfl⟩ := sq_some h
    obtain rfl := Option.some.inj ha
    rw [map_app, map_cons]
    exact hd_lp _
   · exact ih.core n ys h hn r hr
  ·
   simp only [coreS] at h
   split at h
   ·
    split at h
    ·
     obtain rfl := Option.some.inj h
     obtain ⟨⟨n0, n1⟩, _⟩ := (numsOk_eq n).1 hn
     rw [map_cons]
     exact hd_num (by rw [digits_tk n0 n1]) _
    · cases h
   split at h
   ·
    rename_i hk
    split at h
    ·
     obtain rfl := Option.some.inj h
     rw [map_cons]
     simp only [Bool.or_eq_true] at hk
     rcases hk with hk | hk
     · rw [eqB_eq hk]; exact hd_of ⟨by kernel_rfl, by kernel_rfl, by kernel_rfl, by kernel_rfl, by kernel_rfl⟩ _
     · rw [eqB_eq hk]; exact hd_of ⟨by kernel_rfl, by kernel_rfl, by kernel_rfl, by kernel_rfl, by kernel_rfl⟩ _
    · cases h
   split at h
   ·
    split at h
    ·
     rename_i hp
     obtain ⟨a, b, ha, hb, rfl⟩ := sq_some h
     obtain rfl := Option.some.inj ha
     rw [map_app, map_cons]
     rcases unop_cases (by simp only [Bool.and_eq_true] at hp; exact hp.2) with e | e | e <;> rw [e] <;> exact hd_of ⟨by kernel_rfl, by kernel_rfl, by kernel_rfl, by kernel_rfl, by kernel_rfl⟩ _
    · cases h
   split at h
   ·
    split at h
    ·
     rename_i hp
     simp only [Bool.and_eq_true] at hp
     obtain ⟨a, b, ha, hb, rfl⟩ := sq_some h
     obtain ⟨b1, b2, hb1, hb2, rfl⟩ := sq_some hb
     obtain rfl := Option.some.inj hb1
     rw [map_app]
     refine ih.expr (kidN n 0) false a ha (kid_nums (by have := plain2 hp.1; omega) hn) _ ?_
     rw [map_app, map_cons]
     exact (op_tk hp.2 _).2
    · cases h
   split at h
   ·
    split at h
    ·
     obtain ⟨a, b, ha, hb, rfl⟩ := sq_some h
     obtain rfl := Option.some.inj ha
     rw [map_app, map_cons]
     exact hd_lp _
    · cases h
   ·
    obtain ⟨y, ys', rfl, hy, hr2⟩ := ih.target n ys h
    rw [map_cons]
    exact hd_name hy (hr2 r hr)
  ·
   simp only [targetS] at h
   split at h
   ·
    split at h
    ·
     obtain ⟨rfl, hy⟩ := nameS_some h
     exact ⟨n.text, [], rfl, hy, fun r hr => hr⟩
    · cases h
   ·
    split at h
    ·
     obtain ⟨a, b, ha, hb, rfl⟩ := sq_some h
     obtain ⟨rfl, hy⟩ := nameS_some ha
     obtain ⟨b1, b2, hb1, hb2, rfl⟩ := sq_some hb
     obtain rfl := Option.some.inj hb1
     exact ⟨n.text, ⟨#[91]⟩ :: b2, rfl, hy, fun r hr => by rw [map_cons]; exact (by kernel_rfl : isF [tkB ⟨#[91]⟩] ⟨#[40]⟩ = false)⟩
    · cases h
end Go.Proofs.YtdimhoilfopndaaGreatDoor
end
section
namespace Go.Proofs.YtdimhoilfopndaaGreatDoor
open Go.RowKit
theorem fuel_one {G k : Nat} (h : k + 1 ≤ G) : ∃ G', G = G' + 1 ∧ k ≤ G' := ⟨G - 1, by omega, by omega⟩
theorem bin_down {d : Int} {n : Node} {r ts : List Tok} {e : Prop} {k : Nat} (hk : k ≤ 10) (h : ∀ G, 16 * ts.length + 12 - k ≤ G → Bk (binaryF G d k ts) n r e) :
  ∀ m i, i + m = k → (∀ j, i ≤ j → j < k → noLev j r) → ∀ G, 16 * ts.length + 12 - i ≤ G → Bk (binaryF G d i ts) n r e
 | 0, i, hi, _, G, hG => by
  obtain rfl : i = k := by omega
  exact h G hG
 | m + 1, i, hi, hs, G, hG => by
  obtain ⟨G, rfl, hF⟩ := fuel_one (k := 16 * ts.length + 12 - (i + 1)) (G := G) (by omega)
  simp only [binaryF]
  rw [if_neg (by omega)]
  refine (bin_down hk h m (i + 1) (by omega) (fun j h1 h2 => hs j (by omega) h2) G hF).bnd fun a ha => ?_
  obtain ⟨G, rfl, hF⟩ := fuel_one (k := 1) (G := G) (by omega)
  simp only [moreF]
  have h9 := hs i (by omega) (by omega)
  unfold noLev at h9
  rw [h9, if_neg (by decide)]
  exact .ok a ha
theorem expr_of {d : Int} {n : Node} {r ts : List Tok} {e : Prop} (he : 60 < d → e) (h : ∀ G, 16 * ts.length + 12 ≤ G → Bk (binaryF G d 0 ts) n r e) (G : Nat) (hG : 16 * ts.length + 13 ≤ G) : Bk (exprF G d ts) n r e := by
 obtain ⟨G, rfl, hF⟩ := fuel_one hG
 simp only [exprF]
 split
 · rename_i hd; exact .deep (he hd)
 · exact h G hF
theorem bin_operand {d : Int} {n : Node} {r ts : List Tok} {e : Prop} (h : ∀ G, 16 * ts.length + 1 ≤ G → Bk (operandF G d ts) n r e) (G : Nat) (hG : 16 * ts.length + 12 - 10 ≤ G) : Bk (binaryF G d 10 ts) n r e := by
 obtain ⟨G, rfl, hF⟩ := fuel_one (k := 16 * ts.length + 1) hG
 simp only [binaryF]
 rw [if_pos trivial]
 exact h G hF
theorem expr_operand {d : Int} {n : Node} {r ts : List Tok} {e : Prop} (hs : StopE r) (he : 60 < d → e) (h : ∀ G, 16 * ts.length + 1 ≤ G → Bk (operandF G d ts) n r e) (G : Nat) (hG : 16 * ts.length + 13 ≤ G) : Bk (exprF G d ts) n r e :=
 expr_of he (fun G hG => bin_down (Nat.le_refl 10) (bin_operand h) 10 0 rfl (fun j _ h2 => hs.lev j h2) G (by omega)) G hG
theorem op_deep {G : Nat} {d : Int} {ts : List Tok} (h : 60 < d) : operandF (G + 1) d ts = some (badAt ts 31) := by
 simp only [operandF]; rw [if_pos h]
theorem op_un {G : Nat} {d : Int} {y : ByteArray} {r : List Tok} (h : ¬ 60 < d) (hy : y = ⟨#[33]⟩ ∨ y = ⟨#[126]⟩ ∨ y = ⟨#[45]⟩) : operandF (G + 1) d (tkB y :: r) = bnd (operandF G (d + 1) r) fun k r2 => some (.ok ⟨⟨#[117, 110, 97, 114, 121]⟩, (tkB y).text, 0, (tkB y).line, (tkB y).col, [k]⟩ r2) := by
 simp only [operandF]; rw [if_neg h]
 rcases hy with rfl | rfl | rfl
 · rw [tk_not]; rfl
 · rw [tk_inv]; rfl
 · rw [tk_neg]; rfl
theorem op_num {G : Nat} {d : Int} {t : Tok} {r : List Tok} (h : ¬ 60 < d) (ht : t.kind = 1) : operandF (G + 1) d (t :: r) = some (.ok (leafN ⟨#[110, 117, 109]⟩ t) r) := by
 simp only [operandF]; rw [if_neg h]
 rw [if_neg (by simp [is_cons, ht]), if_pos (by simp [now_cons, ht])]
 rfl
theorem op_bool {G : Nat} {d : Int} {y : ByteArray} {r : List Tok} (h : ¬ 60 < d) (hy : y = ⟨#[116, 114, 117, 101]⟩ ∨ y = ⟨#[102, 97, 108, 115, 101]⟩) : operandF (G + 1) d (tkB y :: r) = some (.ok (leafN y (tkB y)) r) := by
 simp only [operandF]; rw [if_neg h]
 rcases hy with rfl | rfl
 · rw [tk_true]; rfl
 · rw [tk_false]; rfl
theorem op_name {G : Nat} {d : Int} {y : ByteArray} {r : List Tok} (h : ¬ 60 < d) (hy : NameB y) : operandF (G + 1) d (tkB y :: r) = indexF G (leafN ⟨#[110, 97, 109, 101]⟩ (tkB y)) d r := by
 simp only [operandF]; rw [if_neg h]
 have h1 := hy.nis (x := ⟨#[33]⟩) (by decide +kernel) r
 have h2 := hy.nis (x := ⟨#[126]⟩) (by decide +kernel) r
 have h3 := hy.nis (x := ⟨#[45]⟩) (by decide +kernel) r
 have h4 := hy.nis (x := ⟨#[116, 114, 117, 101]⟩) (by decide +kernel) r
 have h5 := hy.nis (x := ⟨#[102, 97, 108, 115, 101]⟩) (by decide +kernel) r
 rw [h1, h2, h3, h4, h5, hy.named r]
 simp only [now_cons, List.tail_cons, hy.tk]
 rfl
theorem op_lp {G : Nat} {d : Int} {r : List Tok} (h : ¬ 60 < d) (ht : isTypeF r = false) : operandF (G + 1) d (tkB ⟨#[40]⟩ :: r) = bnd (exprF G (d + 1) r) fun k r2 => bnd (some (needF r2 ⟨#[41]⟩)) fun _ r3 => some (.ok k r3) := by
 simp only [operandF]; rw [if_neg h]
 rw [tk_lp]
 simp only [is_cons, now_cons, named_cons, List.tail_cons, ht]
 rfl
theorem op_cast {G : Nat} {d : Int} {y : ByteArray} {r : List Tok} (h : ¬ 60 < d) (hy : typedB y = true) : operandF (G + 1) d (tkB ⟨#[40]⟩ :: tkB y :: tkB ⟨#[41]⟩ :: r) = bnd (operandF G (d + 1) r) fun k r2 => some (.ok ⟨⟨#[99, 97, 115, 116]⟩, y, 0, 0, 0, [k]⟩ r2) := by
 simp only [operandF]; rw [if_neg h]
 rw [tk_lp, tk_rp, (typed_tk hy).1]
 simp only [is_cons, now_cons, named_cons, List.tail_cons, isType_cons, hy]
 rfl
theorem idx_none {G : Nat} {x : Node} {d : Int} {r : List Tok} (h : isF r ⟨#[91]⟩ = false) : indexF (G + 1) x d r = some (.ok x r) := by
 simp only [indexF]; rw [h, if_neg (by decide)]
theorem idx_some {G : Nat} {x : Node} {d : Int} {r : List Tok} : indexF (G + 1) x d (tkB ⟨#[91]⟩ :: r) = bnd (exprF G (d + 1) r) fun k r2 => bnd (some (needF r2 ⟨#[93]⟩)) fun _ r3 => some (.ok ⟨⟨#[105, 110, 100, 101, 120]⟩, x.text, x.num, x.line, x.col, [k]⟩ r3) := by
 simp only [indexF]
 rw [if_pos (show isF (tkB ⟨#[91]⟩ :: r) ⟨#[91]⟩ = true from by rw [tk_lb]; rfl)]
 rfl
theorem leaf_name (y : ByteArray) (hy : NameB y) : leafN ⟨#[110, 97, 109, 101]⟩ (tkB y) = ⟨⟨#[110, 97, 109, 101]⟩, y, 0, 0, 0, []⟩ := by rw [hy.tk]; rfl
theorem len_app (ys : List ByteArray) (r : List Tok) : (ys.map tkB ++ r).length = ys.length + r.length := by rw [List.length_append, List.length_map]
structure BkE (g : Nat) : Prop where
 expr : ∀ n ys, exprS g n true = some ys → numsOk n = true → ∀ (G : Nat) (d : Int) (r : List Tok), StopE r → 16 * (ys.length + r.length) + 13 ≤ G → Bk (exprF G d (ys.map tkB ++ r)) n r (62 < d + 2 * (depthN n : Int))
 oper : ∀ n ys, exprS g n false = some ys → numsOk n = true → ∀ (G : Nat) (d : Int) (r : List Tok), isF r ⟨#[91]⟩ = false → 16 * (ys.length + r.length) + 1 ≤ G → Bk (operandF G d (ys.map tkB ++ r)) n r (61 < d + 2 * (depthN n : Int))
 coreO : ∀ n ys, coreS g n = some ys → eqB n.kind ⟨#[98, 105, 110, 97, 114, 121]⟩ = false → numsOk n = true → ∀ (G : Nat) (d : Int) (r : List Tok), isF r ⟨#[91]⟩ = false → 16 * (ys.length + r.length) + 1 ≤ G → Bk (operandF G d (ys.map tkB ++ r)) n r (60 < d ∨ 62 < d + 2 * (depthN n : Int))
 core : ∀ n ys, coreS g n = some ys → numsOk n = true → ∀ (G : Nat) (d : Int) (r : List Tok), StopE r → 16 * (ys.length + r.length) + 13 ≤ G → Bk (exprF G d (ys.map tkB ++ r)) n r (62 < d + 2 * (depthN n : Int))
 target : ∀ n ys, targetS g n = some ys → numsOk n = true → ∃ y ys', ys = y :: ys' ∧ NameB y ∧ ∀ (G : Nat) (d : Int) (r : List Tok), isF r ⟨#[91]⟩ = false → 16 * (ys'.length + r.length) + 1 ≤ G → Bk (indexF G (leafN ⟨#[110, 97, 109, 101]⟩ (tkB y)) d (ys'.map tkB ++ r)) n r (62 < d + 2 * (depthN n : Int))
theorem bkE : ∀ g, BkE g := by
 intro g
 induction g with
 | zero => exact ⟨fun _ _ h => (by simp only [exprS] at h; cases h), fun _ _ h => (by simp only [exprS] at h; cases h), fun _ _ h => (by simp only [coreS] at h; cases h), fun _ _ h => (by simp only [coreS] at h; cases h), fun _ _ h => (by simp only [targetS] at h; cases h)⟩
 | succ g ih =>
  have hO : ∀ n ys, coreS (g + 1) n = some ys → eqB n.kind ⟨#[98, 105, 110, 97, 114, 121]⟩ = false → numsOk n = true → ∀ (G : Nat) (d : Int) (r : List Tok), isF r ⟨#[91]⟩ = false → 16 * (ys.length + r.length) + 1 ≤ G → Bk (operandF G d (ys.map tkB ++ r)) n r (60 < d ∨ 62 < d + 2 * (depthN n : Int)) := by
   intro n ys h hnb hn G d r hr hG
   have hdp := depthN_pos n
   obtain ⟨G, rfl, hF⟩ := fuel_one hG
   by_cases hd : 60 < d
   · rw [op_deep hd]; exact .deep (.inl hd)
   simp only [coreS] at h
   split at h
   ·
    split at h
    ·
     rename_i hk hp
     obtain rfl := Option.some.inj h
     obtain ⟨⟨n0, n1⟩, _⟩ := (numsOk_eq n).1 hn
     obtain ⟨f1, f2, f3, f4⟩ := plain_form hp
     rw [map_cons, map_nil, op_num hd (by rw [digits_tk n0 n1])]
     refine .ok _ ?_
     rw [digits_tk n0 n1, strip_eq n, f1, f3 rfl, plain0 hp]
     show Node.strip ⟨_, _, _, _, _, []⟩ = _
     rw [strip_mk]
    · cases h
   split at h
   ·
    rename_i hk
    split at h
    ·
     rename_i hp
     obtain rfl := Option.some.inj h
     obtain ⟨f1, f2, f3, f4⟩ := plain_form hp
     rw [map_cons, map_nil]
     simp only [Bool.or_eq_true] at hk
     rcases hk with hk | hk
     ·
      have hk := eqB_eq hk
      rw [op_bool hd (.inl hk)]
      refine .ok _ ?_
      rw [strip_eq n, f3 rfl, f4 rfl, plain0 hp, hk, tk_true]
      show Node.strip ⟨_, _, _, _, _, []⟩ = _
      rw [strip_mk]
     ·
      have hk := eqB_eq hk
      rw [op_bool hd (.inr hk)]
      refine .ok _ ?_
      rw [strip_eq n, f3 rfl, f4 rfl, plain0 hp, hk, tk_false]
      show Node.strip ⟨_, _, _, _, _, []⟩ = _
      rw [strip_mk]
    · cases h
   split at h
   ·
    split at h
    ·
     rename_i hp
     simp only [Bool.and_eq_true] at hp
     obtain ⟨a, zs, ha, hz, rfl⟩ := sq_some h
     obtain rfl := Option.some.inj ha
     obtain ⟨f1, f2, f3, f4⟩ := plain_form hp.1
     obtain ⟨p1, p2⟩ := plain1 hp.1
     have hkd := kid_depth p2
     rw [List.length_append] at hG
     rw [map_app, map_cons, map_nil, op_un hd (unop_cases hp.2)]
     refine ((ih.oper (kidN n 0) zs hz (kid_nums p2 hn) G (d + 1) r hr (by simp only [List.length_cons, List.length_nil] at hG; omega)).mono (e' := 60 < d ∨ 62 < d + 2 * (depthN n : Int)) (by omega)).bnd fun m hm => .ok _ ?_
     rw [strip_eq n, f1, f4 rfl, p1, strip_mk, stripL_cons, stripL_nil, stripL_cons, stripL_nil, hm]
     rcases unop_cases hp.2 with e | e | e <;> rw [e]
     · rw [tk_not]
     · rw [tk_inv]
     · rw [tk_neg]
    · cases h
   split at h
   · rename_i hb; rw [hb] at hnb; cases hnb
   split at h
   ·
    split at h
    ·
     rename_i hp
     simp only [Bool.and_eq_true] at hp
     obtain ⟨a, zs, ha, hz, rfl⟩ := sq_some h
     obtain rfl := Option.some.inj ha
     obtain ⟨f1, f2, f3, f4⟩ := plain_form hp.1
     obtain ⟨p1, p2⟩ := plain1 hp.1
     have hkd := kid_depth p2
     rw [List.length_append] at hG
     rw [map_app, map_cons, map_cons, map_cons, map_nil, op_cast hd hp.2]
     refine ((ih.oper (kidN n 0) zs hz (kid_nums p2 hn) G (d + 1) r hr (by simp only [List.length_cons, List.length_nil] at hG; omega)).mono (e' := 60 < d ∨ 62 < d + 2 * (depthN n : Int)) (by omega)).bnd fun m hm => .ok _ ?_
     rw [strip_eq n, f1, f4 rfl, p1, strip_mk, stripL_cons, stripL_nil, stripL_cons, stripL_nil, hm]
    · cases h
   ·
    obtain ⟨y, ys', rfl, hy, ht⟩ := ih.target n ys h hn
    rw [map_cons, op_name hd hy]
    exact (ht G d r hr (by simp only [List.length_cons] at hG; omega)).mono .inr
  have hC : ∀ n ys, coreS (g + 1) n = some ys → numsOk n = true → ∀ (G : Nat) (d : Int) (r : List Tok), StopE r → 16 * (ys.length + r.length) + 13 ≤ G → Bk (exprF G d (ys.map tkB ++ r)) n r (62 < d + 2 * (depthN n : Int)) := by
   intro n ys h hn G d r hr hG
   have hdp := depthN_pos n
   cases hb : eqB n.kind ⟨#[98, 105, 110, 97, 114, 121]⟩ with
   | false =>
    refine expr_operand hr (by omega) (fun G hG => ?_) G (by rw [len_app]; exact hG)
    rw [len_app] at hG
    exact (hO n ys h hb hn G d r hr.lb hG).mono (by omega)
   | true =>
    have hk := eqB_eq hb
    simp only [coreS] at h
    rw [hk] at h
    rw [if_neg (by decide +kernel), if_neg (by decide +kernel), if_neg (by decide +kernel), if_pos (by decide +kernel)] at h
    split at h
    ·
     rename_i hp
     simp only [Bool.and_eq_true] at hp
     obtain ⟨zs0, b, ha, hb, rfl⟩ := sq_some h
     obtain ⟨b1, bs, hb1, hb2, rfl⟩ := sq_some hb
     obtain rfl := Option.some.inj hb1
     obtain ⟨f1, f2, f3, f4⟩ := plain_form hp.1
     obtain ⟨p1, p2⟩ := plain2 hp.1
     have hkd := kid_depth (n := n) (i := 0) (by omega)
     have hkd1 := kid_depth (n := n) (i := 1) (by omega)
     obtain ⟨j, hj, hl, hu, htk, _⟩ := binding_op hp.2
     have hol := op_tk hp.2
     simp only [List.length_append, List.length_cons, List.length_nil] at hG
     rw [map_app, map_app, map_cons, map_nil]
     refine expr_of (by omega) (fun G hG => ?_) G (by simp only [List.length_append, List.length_map, List.length_cons]; omega)
     refine bin_down (k := j) (by omega) (fun G hG => ?_) j 0 (by omega) (fun i _ h2 => hr.lev i (by omega)) G (by omega)
     obtain ⟨G, rfl, hF⟩ := fuel_one (k := 16 * (List.map tkB zs0 ++ tkB n.text :: (List.map tkB bs ++ r)).length + 12 - (j + 1)) (G := G) (by omega)
     simp only [binaryF]
     rw [if_neg (by omega)]
     have hno : ∀ i, j + 1 ≤ i → i < 10 → noLev i (tkB n.text :: (List.map tkB bs ++ r)) := fun i h1 h2 => by
      unfold noLev
      rw [now_cons, htk]
      cases hq : levelB i n.text
      · simp
      · have := hu i h2 hq; omega
     have hA : ∀ G, 16 * (List.map tkB zs0 ++ tkB n.text :: (List.map tkB bs ++ r)).length + 1 ≤ G → Bk (operandF G d (List.map tkB zs0 ++ tkB n.text :: (List.map tkB bs ++ r))) (kidN n 0) (tkB n.text :: (List.map tkB bs ++ r)) (62 < d + 2 * (depthN n : Int)) := fun G hG =>
      (ih.oper (kidN n 0) zs0 ha (kid_nums (by omega) hn) G d _ (hol _).1 (by simp only [List.length_append, List.length_map, List.length_cons] at hG ⊢; omega)).mono (by omega)
     have hB : ∀ G, 16 * (List.map tkB bs ++ r).length + 1 ≤ G → Bk (operandF G d (List.map tkB bs ++ r)) (kidN n 1) r (62 < d + 2 * (depthN n : Int)) := fun G hG =>
      (ih.oper (kidN n 1) bs hb2 (kid_nums (by omega) hn) G d _ hr.lb (by simp only [List.length_append, List.length_map, List.length_cons] at hG ⊢; omega)).mono (by omega)
     refine (bin_down (Nat.le_refl 10) (bin_operand hA) (10 - (j + 1)) (j + 1) (by omega) hno G hF).bnd fun m hm => ?_
     simp only [List.length_append, List.length_map, List.length_cons] at hG
     obtain ⟨G, rfl, hF⟩ := fuel_one (k := 16 * (bs.length + r.length) + 13 - (j + 1) + 1) (G := G) (by omega)
     simp only [moreF]
     rw [show ((nowT (tkB n.text :: (List.map tkB bs ++ r))).kind == 2 && levelB j (nowT (tkB n.text :: (List.map tkB bs ++ r))).text) = true from by rw [now_cons, htk]; simpa using hl, if_pos rfl]
     refine (bin_down (Nat.le_refl 10) (bin_operand hB) (10 - (j + 1)) (j + 1) (by omega) (fun i _ h2 => hr.lev i h2) G (by simp only [List.length_append, List.length_map]; omega)).bnd fun m2 hm2 => ?_
     obtain ⟨G, rfl, hF⟩ := fuel_one (k := 1) (G := G) (by omega)
     simp only [moreF]
     have h9 := hr.lev j hj
     unfold noLev at h9
     rw [h9, if_neg (by decide)]
     refine .ok _ ?_
     rw [strip_eq n, f1, f4 rfl, p1, strip_mk, stripL_cons, stripL_cons, stripL_nil, stripL_cons, stripL_cons, stripL_nil, hm, hm2, now_cons, htk]
    · cases h
  refine ⟨fun n ys h hn G d r hr hG => ?_, fun n ys h hn G d r hr hG => ?_, hO, hC, fun n ys h hn => ?_⟩
  ·
   simp only [exprS, Bool.not_true, Bool.and_false, Bool.false_eq_true, ↓reduceIte] at h
   exact ih.core n ys h hn G d r hr hG
  ·
   have hdp := depthN_pos n
   simp only [exprS] at h
   split at h
   ·
    obtain ⟨a, zb, ha, hzb, rfl⟩ := sq_some h
    obtain rfl := Option.some.inj ha
    obtain ⟨zs, b, hz, hb, rfl⟩ := sq_some hzb
    obtain rfl := Option.some.inj hb
    simp only [List.length_append, List.length_cons, List.length_nil] at hG
    obtain ⟨G, rfl, hF⟩ := fuel_one hG
    rw [map_app, map_cons, map_nil, map_app, map_cons, map_nil]
    by_cases hd : 60 < d
    · rw [op_deep hd]; exact .deep (by omega)
    have hq : isF (tkB ⟨#[41]⟩ :: r) ⟨#[40]⟩ = false := by rw [tk_rp]; rfl
    rw [op_lp hd ((hdE g).core n zs hz hn _ hq).ty]
    refine ((ih.core n zs hz hn G (d + 1) _ (stop_of stop_rp r) (by simp only [List.length_cons]; omega)).mono (by omega)).bnd fun m hm => ?_
    rw [bnd_need (by rw [tk_rp]; rfl)]
    exact .ok m hm
   ·
    rename_i hk
    have hb : eqB n.kind ⟨#[98, 105, 110, 97, 114, 121]⟩ = false := by
     cases h9 : eqB n.kind ⟨#[98, 105, 110, 97, 114, 121]⟩
     · rfl
     · rw [h9] at hk; simp at hk
    exact (ih.coreO n ys h hb hn G d r hr hG).mono (by omega)
  ·
   simp only [targetS] at h
   split at h
   ·
    split at h
    ·
     rename_i hp
     obtain ⟨rfl, hy⟩ := nameS_some h
     obtain ⟨f1, f2, f3, f4⟩ := plain_form hp
     refine ⟨n.text, [], rfl, hy, fun G d r hr hG => ?_⟩
     obtain ⟨G, rfl, hF⟩ := fuel_one hG
     rw [map_nil, idx_none hr]
     refine .ok _ ?_
     rw [leaf_name _ hy, strip_mk, strip_eq n, f1, f4 rfl, plain0 hp]
    · cases h
   ·
    split at h
    ·
     rename_i hp
     obtain ⟨a, b, ha, hb, rfl⟩ := sq_some h
     obtain ⟨rfl, hy⟩ := nameS_some ha
     obtain ⟨b1, b2, hb1, hb2, rfl⟩ := sq_some hb
     obtain rfl := Option.some.inj hb1
     obtain ⟨zs, b3, hz, hb3, rfl⟩ := sq_some hb2
     obtain rfl := Option.some.inj hb3
     obtain ⟨f1, f2, f3, f4⟩ := plain_form hp
     obtain ⟨p1, p2⟩ := plain1 hp
     have hkd := kid_depth p2
     refine ⟨n.text, ⟨#[91]⟩ :: (zs ++ [⟨#[93]⟩]), rfl, hy, fun G d r hr hG => ?_⟩
     simp only [List.length_append, List.length_cons, List.length_nil] at hG
     obtain ⟨G, rfl, hF⟩ := fuel_one hG
     rw [map_cons, map_app, map_cons, map_nil, idx_some]
     refine ((ih.expr (kidN n 0) zs hz (kid_nums p2 hn) G (d + 1) _ (stop_of stop_rb r) (by simp only [List.length_cons]; omega)).mono (by omega)).bnd fun m hm => ?_
     rw [bnd_need (by rw [tk_rb]; rfl)]
     refine .ok _ ?_
     rw [leaf_name _ hy, strip_mk, strip_eq n, f1, f4 rfl, p1, stripL_cons, stripL_nil, stripL_cons, stripL_nil, hm]
    · cases h
end Go.Proofs.YtdimhoilfopndaaGreatDoor
end
section
namespace Go.Proofs.YtdimhoilfopndaaGreatDoor
open Go.RowKit
def BkL (x : Option (PR (List Node))) (ns : List Node) (r : List Tok) (e : Prop) : Prop := (∃ ms, x = some (.ok ms r) ∧ stripL ms = stripL ns) ∨ (e ∧ ∃ l k, x = some (.bad l k 31))
theorem BkL.bnd {x : Option (PR (List Node))} {n : List Node} {n' : Node} {r r' : List Tok} {e : Prop} {F : List Node → List Tok → Option (PR Node)} (h : BkL x n r e) (hF : ∀ m, stripL m = stripL n → Bk (F m r) n' r' e) : Bk (bnd x F) n' r' e := by
 rcases h with ⟨m, rfl, hm⟩ | ⟨h1, l, k, rfl⟩
 · exact hF m hm
 · exact .inr ⟨h1, l, k, rfl⟩
theorem Bk.bndL {x : Option (PR Node)} {n : Node} {n' : List Node} {r r' : List Tok} {e : Prop} {F : Node → List Tok → Option (PR (List Node))} (h : Bk x n r e) (hF : ∀ m, m.strip = n.strip → BkL (F m r) n' r' e) : BkL (Go.Proofs.YtdimhoilfopndaaGreatDoor.bnd x F) n' r' e := by
 rcases h with ⟨m, rfl, hm⟩ | ⟨h1, l, k, rfl⟩
 · exact hF m hm
 · exact .inr ⟨h1, l, k, rfl⟩
theorem tk_cm : tkB ⟨#[44]⟩ = ⟨2, ⟨#[44]⟩, 0, 0, 0⟩ := by kernel_rfl
theorem tk_sc : tkB ⟨#[59]⟩ = ⟨2, ⟨#[59]⟩, 0, 0, 0⟩ := by kernel_rfl
theorem tk_eq : tkB ⟨#[61]⟩ = ⟨2, ⟨#[61]⟩, 0, 0, 0⟩ := by kernel_rfl
theorem tk_lc : tkB ⟨#[123]⟩ = ⟨2, ⟨#[123]⟩, 0, 0, 0⟩ := by kernel_rfl
theorem tk_rc : tkB ⟨#[125]⟩ = ⟨2, ⟨#[125]⟩, 0, 0, 0⟩ := by kernel_rfl
theorem tk_if : tkB ⟨#[105, 102]⟩ = ⟨0, ⟨#[105, 102]⟩, 0, 0, 0⟩ := by kernel_rfl
theorem tk_while : tkB ⟨#[119, 104, 105, 108, 101]⟩ = ⟨0, ⟨#[119, 104, 105, 108, 101]⟩, 0, 0, 0⟩ := by kernel_rfl
theorem tk_else : tkB ⟨#[101, 108, 115, 101]⟩ = ⟨0, ⟨#[101, 108, 115, 101]⟩, 0, 0, 0⟩ := by kernel_rfl
theorem tk_return : tkB ⟨#[114, 101, 116, 117, 114, 110]⟩ = ⟨0, ⟨#[114, 101, 116, 117, 114, 110]⟩, 0, 0, 0⟩ := by kernel_rfl
theorem tk_assert : tkB ⟨#[97, 115, 115, 101, 114, 116]⟩ = ⟨0, ⟨#[97, 115, 115, 101, 114, 116]⟩, 0, 0, 0⟩ := by kernel_rfl
theorem tk_assume : tkB ⟨#[97, 115, 115, 117, 109, 101]⟩ = ⟨0, ⟨#[97, 115, 115, 117, 109, 101]⟩, 0, 0, 0⟩ := by kernel_rfl
theorem tk_nondet : tkB ⟨#[110, 111, 110, 100, 101, 116]⟩ = ⟨0, ⟨#[110, 111, 110, 100, 101, 116]⟩, 0, 0, 0⟩ := by kernel_rfl
theorem tk_void : tkB ⟨#[118, 111, 105, 100]⟩ = ⟨0, ⟨#[118, 111, 105, 100]⟩, 0, 0, 0⟩ := by kernel_rfl
theorem commas_ft (f : Node → Out) (k : Node) (ks : List Node) : commas f false (k :: ks) = sq (some [⟨#[44]⟩]) (commas f true (k :: ks)) := by
 simp only [commas]
 cases f k <;> cases commas f false ks <;> simp [sq]
theorem list_bk {one : List Tok → Option (PR Node)} {f : Node → Out} {e : Prop} {M : Nat} : ∀ (ks : List Node) (k : Node),
  (∀ q ∈ k :: ks, ∀ zs, f q = some zs → ∀ t r, (t = ⟨#[41]⟩ ∨ t = ⟨#[44]⟩) → zs.length + r.length + 1 ≤ M → Bk (one (zs.map tkB ++ (tkB t :: r))) q (tkB t :: r) e) →
  ∀ zs, commas f true (k :: ks) = some zs → ∀ G l r, zs.length + r.length + 1 ≤ M → zs.length + r.length + 1 < G → BkL (listF one G l (zs.map tkB ++ (tkB ⟨#[41]⟩ :: r))) (l ++ k :: ks) r e
 | [], k, h1, zs, hz, G, l, r, hM, hG => by
  simp only [commas] at hz
  obtain ⟨a, b, ha, hb, rfl⟩ := sq_some hz
  obtain ⟨a1, a2, ha1, ha2, rfl⟩ := sq_some ha
  obtain rfl := Option.some.inj ha1
  obtain rfl := Option.some.inj hb
  rw [List.nil_append, List.append_nil] at *
  obtain ⟨G, rfl, hF⟩ := fuel_one (k := 1) (G := G) (by omega)
  simp only [listF]
  refine (h1 k (by simp) a2 ha2 ⟨#[41]⟩ r (.inl rfl) hM).bndL fun m hm => ?_
  rw [if_pos (show isF (tkB ⟨#[41]⟩ :: r) ⟨#[41]⟩ = true from by rw [tk_rp]; rfl)]
  exact .inl ⟨_, rfl, by rw [stripL_app, stripL_app, stripL_cons, stripL_cons, hm]⟩
 | k2 :: ks, k, h1, zs, hz, G, l, r, hM, hG => by
  rw [show commas f true (k :: k2 :: ks) = sq (sq (some []) (f k)) (commas f false (k2 :: ks)) from by simp only [commas]; rfl, commas_ft] at hz
  obtain ⟨a, b, ha, hb, rfl⟩ := sq_some hz
  obtain ⟨a1, a2, ha1, ha2, rfl⟩ := sq_some ha
  obtain rfl := Option.some.inj ha1
  obtain ⟨b1, b2, hb1, hb2, rfl⟩ := sq_some hb
  obtain rfl := Option.some.inj hb1
  simp only [List.nil_append, List.length_append, List.length_cons, List.length_nil] at *
  obtain ⟨G, rfl, hF⟩ := fuel_one (k := 1) (G := G) (by omega)
  simp only [listF]
  rw [map_app, map_app, map_cons, map_nil]
  refine (h1 k (by simp) a2 ha2 ⟨#[44]⟩ _ (.inr rfl) (by simp only [List.length_append, List.length_map, List.length_cons]; omega)).bndL fun m hm => ?_
  rw [if_neg (ne_true_of_eq_false (show isF (tkB ⟨#[44]⟩ :: (b2.map tkB ++ (tkB ⟨#[41]⟩ :: r))) ⟨#[41]⟩ = false from by rw [tk_cm]; rfl)), if_pos (show isF (tkB ⟨#[44]⟩ :: (b2.map tkB ++ (tkB ⟨#[41]⟩ :: r))) ⟨#[44]⟩ = true from by rw [tk_cm]; rfl)]
  rcases list_bk ks k2 (fun q hq => h1 q (List.mem_cons_of_mem _ hq)) b2 hb2 G (l ++ [m]) r (by omega) (by omega) with ⟨ms, h9, h8⟩ | h9
  · exact .inl ⟨ms, h9, by rw [h8]; simp only [stripL_app, stripL_cons, stripL_nil, hm, List.append_assoc, List.cons_append, List.nil_append]⟩
  · exact .inr h9
theorem lists_bk {one : List Tok → Option (PR Node)} {f : Node → Out} {e : Prop} {M : Nat} (ks : List Node)
  (h1 : ∀ q ∈ ks, ∀ zs, f q = some zs → ∀ t r, (t = ⟨#[41]⟩ ∨ t = ⟨#[44]⟩) → zs.length + r.length + 1 ≤ M → Bk (one (zs.map tkB ++ (tkB t :: r))) q (tkB t :: r) e)
  (h2 : ∀ q ∈ ks, ∀ zs, f q = some zs → ∀ t r, (t = ⟨#[41]⟩ ∨ t = ⟨#[44]⟩) → isF (zs.map tkB ++ (tkB t :: r)) ⟨#[41]⟩ = false)
  (zs : List ByteArray) (hz : commas f true ks = some zs) (G : Nat) (r : List Tok) (hM : zs.length + r.length + 1 ≤ M) (hG : zs.length + r.length + 1 < G) : BkL (listsF one G (zs.map tkB ++ (tkB ⟨#[41]⟩ :: r))) ks r e := by
 unfold listsF
 match ks, h1, h2, hz with
 | [], h1, h2, hz =>
  simp only [commas] at hz
  obtain rfl := Option.some.inj hz
  rw [map_nil, if_pos (show isF (tkB ⟨#[41]⟩ :: r) ⟨#[41]⟩ = true from by rw [tk_rp]; rfl)]
  exact .inl ⟨_, rfl, rfl⟩
 | k :: ks, h1, h2, hz =>
  have hz0 := hz
  simp only [commas] at hz
  obtain ⟨a, b, ha, hb, rfl⟩ := sq_some hz
  obtain ⟨a1, a2, ha1, ha2, rfl⟩ := sq_some ha
  obtain rfl := Option.some.inj ha1
  have hq : isF (([] ++ a2 ++ b).map tkB ++ (tkB ⟨#[41]⟩ :: r)) ⟨#[41]⟩ = false := by
   match ks, hb with
   | [], hb =>
    simp only [commas] at hb
    obtain rfl := Option.some.inj hb
    rw [List.nil_append, List.append_nil]
    exact h2 k (by simp) a2 ha2 ⟨#[41]⟩ r (.inl rfl)
   | k2 :: ks, hb =>
    rw [commas_ft] at hb
    obtain ⟨b1, b2, hb1, hb2, rfl⟩ := sq_some hb
    obtain rfl := Option.some.inj hb1
    rw [List.nil_append, map_app, map_app, map_cons, map_nil]
    exact h2 k (by simp) a2 ha2 ⟨#[44]⟩ _ (.inr rfl)
  rw [hq, if_neg (by decide)]
  have h9 := list_bk ks k h1 _ hz0 G [] r hM hG
  rwa [List.nil_append] at h9
theorem stop_t {t : ByteArray} (h : t = ⟨#[41]⟩ ∨ t = ⟨#[44]⟩) (r : List Tok) : StopE (tkB t :: r) := by
 rcases h with rfl | rfl
 · exact stop_of stop_rp r
 · exact stop_of stop_cm r
theorem numsL_all {ks : List Node} (h : numsL ks = true) : ∀ k ∈ ks, numsOk k = true := fun k hk => numsL_mem hk h
theorem kids_nums {n : Node} (h : numsOk n = true) : ∀ k ∈ n.kids, numsOk k = true := numsL_all ((numsOk_eq n).1 h).2
theorem kids_depth {n : Node} : ∀ k ∈ n.kids, depthN k + 1 ≤ depthN n := fun k hk => by have := depthL_mem hk; rw [depthN_eq n]; omega
theorem call_bk {g : Nat} {n : Node} {ys : List ByteArray} (h : callS g n = some ys) (hn : numsOk n = true) : ∃ ys', ys = n.text :: ⟨#[40]⟩ :: ys' ∧ NameB n.text ∧
  ∀ (G : Nat) (d : Int) (r : List Tok), 16 * (ys'.length + r.length) + 20 ≤ G → Bk (callF G (leafN ⟨#[110, 97, 109, 101]⟩ (tkB n.text)) d (tkB ⟨#[40]⟩ :: (ys'.map tkB ++ r))) n r (62 < d + 2 * (depthN n : Int)) := by
 unfold callS at h
 split at h
 ·
  rename_i hp
  obtain ⟨a, b, ha, hb, rfl⟩ := sq_some h
  obtain ⟨rfl, hy⟩ := nameS_some ha
  obtain ⟨b1, b2, hb1, hb2, rfl⟩ := sq_some hb
  obtain rfl := Option.some.inj hb1
  obtain ⟨zs, b3, hz, hb3, rfl⟩ := sq_some hb2
  obtain rfl := Option.some.inj hb3
  obtain ⟨f1, f2, f3, f4⟩ := plain_form hp
  refine ⟨zs ++ [⟨#[41]⟩], rfl, hy, fun G d r hG => ?_⟩
  rw [List.length_append, List.length_singleton] at hG
  unfold callF
  rw [bnd_need (by rw [tk_lp]; rfl), map_app, map_cons, map_nil]
  refine (lists_bk (M := zs.length + r.length + 1) n.kids (fun q hq zs hz t r ht hM => ?_) (fun q hq zs hz t r ht => ?_) zs hz G r (by omega) (by omega)).bnd fun ms hms => ?_
  ·
   have hkd := kids_depth q hq
   exact ((bkE g).expr q zs hz (kids_nums hn q hq) G (d + 1) _ (stop_t ht r) (by simp only [List.length_cons]; omega)).mono (by omega)
  · exact ((hdE g).expr q true zs hz (kids_nums hn q hq) _ (stop_t ht r).lp).rp
  ·
   refine .ok _ ?_
   rw [leaf_name _ hy, strip_mk, strip_eq n, f1, f4 rfl, hms]
 · cases h
theorem semi_bk {n m : Node} {r : List Tok} {e : Prop} (hm : m.strip = n.strip) : Bk (semiF m (tkB ⟨#[59]⟩ :: r)) n r e := by
 unfold semiF
 rw [bnd_need (by rw [tk_sc]; rfl)]
 exact .ok m hm
theorem cond_bk {g : Nat} {n : Node} {zs : List ByteArray} (h : exprS g n true = some zs) (hn : numsOk n = true) {G : Nat} {d : Int} {r : List Tok} (hG : 16 * (zs.length + r.length) + 30 ≤ G) : Bk (condF G d (tkB ⟨#[40]⟩ :: (zs.map tkB ++ (tkB ⟨#[41]⟩ :: r)))) n r (62 < d + 2 * (depthN n : Int)) := by
 unfold condF
 rw [bnd_need (by rw [tk_lp]; rfl)]
 refine ((bkE g).expr n zs h hn G d _ (stop_of stop_rp r) (by simp only [List.length_cons]; omega)).bnd fun m hm => ?_
 rw [bnd_need (by rw [tk_rp]; rfl)]
 exact .ok m hm
theorem name_ok {y : ByteArray} (hy : NameB y) {β : Type} {r : List Tok} {F : Node → List Tok → Option (PR β)} : bnd (some (nameF (tkB y :: r))) F = F (leafN ⟨#[110, 97, 109, 101]⟩ (tkB y)) r := by
 unfold nameF
 rw [if_pos (hy.named r)]; rfl
theorem typ_ok {y : ByteArray} (hy : typedB y = true) {β : Type} {r : List Tok} {F : Node → List Tok → Option (PR β)} : bnd (some (typF (tkB y :: r))) F = F ⟨⟨#[116, 121, 112, 101]⟩, y, 0, 0, 0, []⟩ r := by
 unfold typF
 rw [if_pos (by rw [(typed_tk hy).1, isType_cons, hy]; rfl), (typed_tk hy).1]; rfl
theorem typS_some {n : Node} {v : Bool} {ys : List ByteArray} (h : typS n v = some ys) : ys = [n.text] ∧ n.strip = ⟨⟨#[116, 121, 112, 101]⟩, n.text, 0, 0, 0, []⟩ ∧ (typedB n.text = true ∨ (v = true ∧ n.text = ⟨#[118, 111, 105, 100]⟩)) := by
 unfold typS at h
 split at h
 ·
  rename_i hp
  simp only [Bool.and_eq_true, Bool.or_eq_true] at hp
  obtain ⟨f1, f2, f3, f4⟩ := plain_form hp.1
  refine ⟨(Option.some.inj h).symm, by rw [strip_eq n, f1, f4 rfl, plain0 hp.1]; rfl, ?_⟩
  rcases hp.2 with h9 | ⟨h9, h8⟩
  · exact .inl h9
  · exact .inr ⟨h9, eqB_eq h8⟩
 · cases h
theorem param_bk {k n t : Node} {r : List Tok} (h1 : typedB t.text = true) (h2 : t.strip = ⟨⟨#[116, 121, 112, 101]⟩, t.text, 0, 0, 0, []⟩) (hy : NameB n.text) (hs : n.strip = ⟨⟨#[112, 97, 114, 97, 109]⟩, n.text, 0, 0, 0, [t.strip]⟩) {e : Prop} : Bk (paramF (tkB t.text :: tkB n.text :: r)) n r e := by
 unfold paramF
 rw [typ_ok h1, name_ok hy]
 refine .ok _ ?_
 rw [hs, h2, leaf_name _ hy, strip_mk, stripL_cons, stripL_nil, strip_mk, stripL_nil]
def hdS (y : ByteArray) : Bool := !isF [tkB y] ⟨#[125]⟩ && !isF [tkB y] ⟨#[101, 108, 115, 101]⟩
theorem NameB.hdS {y : ByteArray} (h : NameB y) : hdS y = true := by
 unfold Go.Proofs.YtdimhoilfopndaaGreatDoor.hdS
 rw [h.nis (by decide +kernel), h.nis (by decide +kernel)]; rfl
theorem typed_hdS {y : ByteArray} (h : typedB y = true) : hdS y = true := by
 rcases typed_cases h with rfl | rfl | rfl | rfl | rfl | rfl | rfl | rfl | rfl <;> kernel_rfl
theorem stmt_hd : ∀ (g : Nat) (n : Node) (ys : List ByteArray), stmtS g n = some ys → ∃ y ys', ys = y :: ys' ∧ hdS y = true
 | 0, n, ys, h => by simp only [stmtS] at h; cases h
 | g + 1, n, ys, h => by
  simp only [stmtS] at h
  split at h
  ·
   rename_i hk
   match g, h with
   | g + 1, h =>
    simp only [branchS] at h
    split at h
    ·
     obtain ⟨a, b, ha, hb, rfl⟩ := sq_some h
     obtain rfl := Option.some.inj ha
     refine ⟨_, _, rfl, ?_⟩
     simp only [Bool.or_eq_true] at hk
     rcases hk with hk | hk <;> rw [eqB_eq hk] <;> kernel_rfl
    · cases h
   | 0, h => simp only [branchS] at h; cases h
  ·
   obtain ⟨a, b, ha, hb, rfl⟩ := sq_some h
   have : ∃ y ys', a = y :: ys' ∧ hdS y = true := by
    split at ha
    ·
     split at ha
     ·
      obtain ⟨a1, a2, ha1, ha2, rfl⟩ := sq_some ha
      obtain ⟨rfl, _, h3⟩ := typS_some ha1
      rcases h3 with h3 | ⟨h3, _⟩
      · exact ⟨_, _, rfl, typed_hdS h3⟩
      · cases h3
     · cases ha
    split at ha
    ·
     split at ha
     ·
      obtain ⟨a1, a2, ha1, ha2, rfl⟩ := sq_some ha
      obtain ⟨y, ys', rfl, hy, _⟩ := (hdE g).target _ _ ha1
      exact ⟨_, _, rfl, hy.hdS⟩
     · cases ha
    split at ha
    ·
     split at ha
     ·
      obtain ⟨a1, a2, ha1, ha2, rfl⟩ := sq_some ha
      obtain ⟨y, ys', rfl, hy, _⟩ := (hdE g).target _ _ ha1
      exact ⟨_, _, rfl, hy.hdS⟩
     · cases ha
    split at ha
    ·
     split at ha
     ·
      obtain ⟨a1, a2, ha1, ha2, rfl⟩ := sq_some ha
      obtain rfl := Option.some.inj ha1
      exact ⟨_, _, rfl, by kernel_rfl⟩
     · cases ha
    split at ha
    ·
     rename_i hk
     split at ha
     ·
      obtain ⟨a1, a2, ha1, ha2, rfl⟩ := sq_some ha
      obtain rfl := Option.some.inj ha1
      refine ⟨_, _, rfl, ?_⟩
      simp only [Bool.or_eq_true] at hk
      rcases hk with hk | hk <;> rw [eqB_eq hk] <;> kernel_rfl
     · cases ha
    ·
     unfold callS at ha
     split at ha
     ·
      obtain ⟨a1, a2, ha1, ha2, rfl⟩ := sq_some ha
      obtain ⟨rfl, hy⟩ := nameS_some ha1
      exact ⟨_, _, rfl, hy.hdS⟩
     · cases ha
   obtain ⟨y, ys', rfl, hy⟩ := this
   exact ⟨y, ys' ++ b, rfl, hy⟩
structure BkS (g : Nat) : Prop where
 block : ∀ n ys, blockS g n = some ys → numsOk n = true → ∀ (G : Nat) (d : Int) (r : List Tok), 16 * (ys.length + r.length) + 3 ≤ G → Bk (blockF G d (ys.map tkB ++ r)) n r (62 < d + 2 * (depthN n : Int))
 branch : ∀ n ys, branchS g n = some ys → (n.kind = ⟨#[105, 102]⟩ ∨ n.kind = ⟨#[119, 104, 105, 108, 101]⟩) → numsOk n = true → ∀ (G : Nat) (d : Int) (r : List Tok), isF r ⟨#[101, 108, 115, 101]⟩ = false → 16 * (ys.length + r.length) + 1 ≤ G → Bk (stmtF G d (ys.map tkB ++ r)) n r (62 < d + 2 * (depthN n : Int))
 stmt : ∀ n ys, stmtS g n = some ys → numsOk n = true → ∀ (G : Nat) (d : Int) (r : List Tok), isF r ⟨#[101, 108, 115, 101]⟩ = false → 16 * (ys.length + r.length) + 1 ≤ G → Bk (stmtF G d (ys.map tkB ++ r)) n r (62 < d + 2 * (depthN n : Int))
theorem stmts_bk {f : Node → Out} {e : Prop} {M : Nat} {d l c : Int} : ∀ (ks : List Node),
  (∀ q ∈ ks, ∀ zs, f q = some zs → ∀ G r, isF r ⟨#[101, 108, 115, 101]⟩ = false → zs.length + r.length ≤ M → 16 * (zs.length + r.length) + 1 ≤ G → Bk (stmtF G d (zs.map tkB ++ r)) q r e) → (∀ q ∈ ks, ∀ zs, f q = some zs → ∃ y ys', zs = y :: ys' ∧ hdS y = true) →
  ∀ zs, each f ks = some zs → ∀ G pre n r, zs.length + r.length + 1 ≤ M → 16 * (zs.length + r.length + 1) + 2 ≤ G → n.strip = ⟨⟨#[98, 108, 111, 99, 107]⟩, ⟨#[]⟩, 0, 0, 0, stripL (pre ++ ks)⟩ → Bk (stmtsF G d l c pre (zs.map tkB ++ (tkB ⟨#[125]⟩ :: r))) n r e
 | [], h1, h2, zs, hz, G, pre, n, r, hM, hG, hs => by
  simp only [each] at hz
  obtain rfl := Option.some.inj hz
  obtain ⟨G, rfl, hF⟩ := fuel_one (k := 1) (G := G) (by omega)
  rw [map_nil]
  simp only [stmtsF]
  rw [if_pos (show isF (tkB ⟨#[125]⟩ :: r) ⟨#[125]⟩ = true from by rw [tk_rc]; rfl)]
  refine .ok _ ?_
  rw [hs, strip_mk, List.append_nil]
 | k :: ks, h1, h2, zs, hz, G, pre, n, r, hM, hG, hs => by
  simp only [each] at hz
  obtain ⟨a, b, ha, hb, rfl⟩ := sq_some hz
  obtain ⟨y, ys', rfl, hy⟩ := h2 k (by simp) a ha
  have hel : isF (b.map tkB ++ (tkB ⟨#[125]⟩ :: r)) ⟨#[101, 108, 115, 101]⟩ = false := by
   match ks, hb with
   | [], hb =>
    simp only [each] at hb
    obtain rfl := Option.some.inj hb
    rw [map_nil, tk_rc]; rfl
   | k2 :: ks, hb =>
    simp only [each] at hb
    obtain ⟨b1, b2, hb1, hb2, rfl⟩ := sq_some hb
    obtain ⟨y2, ys2, rfl, hy2⟩ := h2 k2 (by simp) b1 hb1
    simp only [hdS, Bool.and_eq_true, Bool.not_eq_true'] at hy2
    exact hy2.2
  simp only [List.length_append, List.length_cons] at hM hG
  obtain ⟨G, rfl, hF⟩ := fuel_one (k := 1) (G := G) (by omega)
  simp only [stmtsF]
  rw [if_neg]
  ·
   rw [map_app]
   refine (h1 k (by simp) _ ha G _ hel (by simp only [List.length_append, List.length_map, List.length_cons]; omega) (by simp only [List.length_append, List.length_map, List.length_cons]; omega)).bnd fun m hm => ?_
   refine stmts_bk ks (fun q hq => h1 q (List.mem_cons_of_mem _ hq)) (fun q hq => h2 q (List.mem_cons_of_mem _ hq)) b hb G (pre ++ [m]) n r (by omega) (by omega) ?_
   rw [hs]
   simp only [stripL_app, stripL_cons, stripL_nil, hm, List.append_assoc, List.cons_append, List.nil_append]
  ·
   simp only [hdS, Bool.and_eq_true, Bool.not_eq_true'] at hy
   have h9 : isF ((y :: ys' ++ b).map tkB ++ (tkB ⟨#[125]⟩ :: r)) ⟨#[125]⟩ = false := hy.1
   rw [h9]; decide
end Go.Proofs.YtdimhoilfopndaaGreatDoor
end
section
namespace Go.Proofs.YtdimhoilfopndaaGreatDoor
open Go.RowKit
theorem st_if {G : Nat} {d : Int} {k : ByteArray} {r : List Tok} (hk : k = ⟨#[105, 102]⟩ ∨ k = ⟨#[119, 104, 105, 108, 101]⟩) : stmtF (G + 1) d (tkB k :: r) = bnd (condF G d r) fun a r2 => bnd (blockF G (d + 1) r2) fun b r3 =>
  if (tkB k).text.data.toList == [105, 102] && isF r3 ⟨#[101, 108, 115, 101]⟩ then bnd (blockF G (d + 1) r3.tail) fun e r4 => some (.ok ⟨k, ⟨#[]⟩, 0, 0, 0, [a, b, e]⟩ r4)
  else some (.ok ⟨k, ⟨#[]⟩, 0, 0, 0, [a, b]⟩ r3) := by
 simp only [stmtF]
 rcases hk with rfl | rfl
 · rw [tk_if]; rfl
 · rw [tk_while]; rfl
theorem st_ret0 {G : Nat} {d : Int} {r : List Tok} : stmtF (G + 1) d (tkB ⟨#[114, 101, 116, 117, 114, 110]⟩ :: tkB ⟨#[59]⟩ :: r) = semiF ⟨⟨#[114, 101, 116, 117, 114, 110]⟩, ⟨#[]⟩, 0, 0, 0, []⟩ (tkB ⟨#[59]⟩ :: r) := by
 simp only [stmtF]
 rw [tk_return, tk_sc]; rfl
theorem st_ret1 {G : Nat} {d : Int} {r : List Tok} (h : isF r ⟨#[59]⟩ = false) : stmtF (G + 1) d (tkB ⟨#[114, 101, 116, 117, 114, 110]⟩ :: r) = bnd (exprF G d r) fun a r2 => semiF ⟨⟨#[114, 101, 116, 117, 114, 110]⟩, ⟨#[]⟩, 0, 0, 0, [a]⟩ r2 := by
 simp only [stmtF]
 rw [tk_return]
 simp only [List.tail_cons, h]
 rfl
theorem st_as {G : Nat} {d : Int} {k : ByteArray} {r : List Tok} (hk : k = ⟨#[97, 115, 115, 101, 114, 116]⟩ ∨ k = ⟨#[97, 115, 115, 117, 109, 101]⟩) : stmtF (G + 1) d (tkB k :: r) = bnd (condF G d r) fun a r2 => semiF ⟨k, ⟨#[]⟩, 0, 0, 0, [a]⟩ r2 := by
 simp only [stmtF]
 rcases hk with rfl | rfl
 · rw [tk_assert]; rfl
 · rw [tk_assume]; rfl
theorem st_local {G : Nat} {d : Int} {y : ByteArray} {r : List Tok} (hy : typedB y = true) : stmtF (G + 1) d (tkB y :: r) = bnd (paramF (tkB y :: r)) fun x r2 => semiF (withKind ⟨#[108, 111, 99, 97, 108]⟩ x) r2 := by
 simp only [stmtF]
 rw [if_pos (by rw [(typed_tk hy).1, isType_cons, hy]; rfl)]
theorem st_name {G : Nat} {d : Int} {y : ByteArray} {r : List Tok} (hy : NameB y) : stmtF (G + 1) d (tkB y :: r) = simpleF G d (tkB y :: r) := by
 simp only [stmtF]
 rw [hy.notType, hy.named]
 rfl
theorem eq_follow (r : List Tok) : isF (tkB ⟨#[61]⟩ :: r) ⟨#[91]⟩ = false ∧ isF (tkB ⟨#[61]⟩ :: r) ⟨#[40]⟩ = false := by rw [tk_eq]; exact ⟨rfl, rfl⟩
theorem strip_withKind (k : ByteArray) (n : Node) : (withKind k n).strip = ⟨k, n.text, n.num, 0, 0, stripL n.kids⟩ := by rw [strip_eq]; rfl
theorem strip_fields {m n : Node} (h : m.strip = n.strip) : m.kind = n.kind ∧ m.text = n.text ∧ m.num = n.num ∧ stripL m.kids = stripL n.kids := by
 rw [strip_eq m, strip_eq n] at h
 injection h with h1 h2 h3 _ _ h4
 exact ⟨h1, h2, h3, h4⟩
theorem bkS : ∀ g, BkS g := by
 intro g
 induction g with
 | zero => exact ⟨fun _ _ h => (by simp only [blockS] at h; cases h), fun _ _ h => (by simp only [branchS] at h; cases h), fun _ _ h => (by simp only [stmtS] at h; cases h)⟩
 | succ g ih =>
  refine ⟨fun n ys h hn G d r hG => ?_, fun n ys h hk hn G d r hr hG => ?_, fun n ys h hn G d r hr hG => ?_⟩
  ·
   have hdp := depthN_pos n
   obtain ⟨G, rfl, hF⟩ := fuel_one (k := 1) (G := G) (by omega)
   simp only [blockS] at h
   split at h
   ·
    rename_i hp
    obtain ⟨a, zb, ha, hzb, rfl⟩ := sq_some h
    obtain rfl := Option.some.inj ha
    obtain ⟨zs, b, hz, hb, rfl⟩ := sq_some hzb
    obtain rfl := Option.some.inj hb
    obtain ⟨f1, f2, f3, f4⟩ := plain_form hp
    simp only [List.length_append, List.length_cons, List.length_nil] at hG
    simp only [blockF]
    split
    · rename_i hd; exact .deep (by omega)
    rw [map_app, map_cons, map_nil, map_app, map_cons, map_nil, bnd_need (by rw [tk_lc]; rfl)]
    refine stmts_bk (M := zs.length + r.length + 1) n.kids (fun q hq zs hz G r hr hM hG => ?_) (fun q hq zs hz => stmt_hd g q zs hz) zs hz G [] n r (by omega) (by omega) ?_
    ·
     have hkd := kids_depth q hq
     exact (ih.stmt q zs hz (kids_nums hn q hq) G d r hr hG).mono (by omega)
    · rw [strip_eq n, f1, f3 rfl, f4 rfl]; rfl
   · cases h
  ·
   have hdp := depthN_pos n
   obtain ⟨G, rfl, hF⟩ := fuel_one hG
   simp only [branchS] at h
   split at h
   ·
    rename_i hp
    simp only [Bool.and_eq_true] at hp
    obtain ⟨f1, f2, f3, f4⟩ := plain_form hp.1
    obtain ⟨a, b, ha, hb, rfl⟩ := sq_some h
    obtain rfl := Option.some.inj ha
    obtain ⟨zs, b2, hz, hb2, rfl⟩ := sq_some hb
    obtain ⟨b3, b4, hb3, hb4, rfl⟩ := sq_some hb2
    obtain rfl := Option.some.inj hb3
    obtain ⟨bs, b6, hbs, hb6, rfl⟩ := sq_some hb4
    simp only [List.length_append, List.length_cons, List.length_nil] at hG
    rw [map_app, map_cons, map_cons, map_nil, map_app, map_app, map_cons, map_nil, map_app, st_if hk]
    by_cases hl3 : n.kids.length = 3
    ·
     have hks := kids3 hl3
     rw [hl3, if_pos (by decide)] at hb6
     obtain ⟨c1, cs, hc1, hcs, rfl⟩ := sq_some hb6
     obtain rfl := Option.some.inj hc1
     have hki : n.kind = ⟨#[105, 102]⟩ := by
      rw [hl3] at hp
      simp at hp
      exact eqB_eq hp.2
     have k0 := kid_depth (n := n) (i := 0) (by omega)
     have k1 := kid_depth (n := n) (i := 1) (by omega)
     have k2 := kid_depth (n := n) (i := 2) (by omega)
     simp only [List.length_append, List.length_cons, List.length_nil] at hG
     refine ((cond_bk (r := bs.map tkB ++ ((([⟨#[101, 108, 115, 101]⟩] : List ByteArray) ++ cs).map tkB ++ r)) hz (kid_nums (by omega) hn) (by simp only [List.length_append, List.length_map, List.length_cons, List.length_nil]; omega)).mono (by omega)).bnd fun m hm => ?_
     refine ((ih.block (kidN n 1) bs hbs (kid_nums (by omega) hn) G (d + 1) ((([⟨#[101, 108, 115, 101]⟩] : List ByteArray) ++ cs).map tkB ++ r) (by simp only [List.length_append, List.length_map, List.length_cons, List.length_nil]; omega)).mono (by omega)).bnd fun m1 hm1 => ?_
     rw [map_app, map_cons, map_nil, if_pos (by rw [hki, tk_if, tk_else]; rfl), List.tail_cons]
     refine ((ih.block (kidN n 2) cs hcs (kid_nums (by omega) hn) G (d + 1) r (by omega)).mono (by omega)).bnd fun m2 hm2 => .ok _ ?_
     rw [strip_mk, strip_eq n, f3 rfl, f4 rfl, hks]
     simp only [stripL_cons, stripL_nil, hm, hm1, hm2]
    ·
     have hl2 : n.kids.length = 2 := by
      have := hp.2
      simp [hl3] at this
      exact this
     have hks := kids2 hl2
     rw [hl2, if_neg (by decide)] at hb6
     obtain rfl := Option.some.inj hb6
     have k0 := kid_depth (n := n) (i := 0) (by omega)
     have k1 := kid_depth (n := n) (i := 1) (by omega)
     rw [map_nil]
     refine ((cond_bk (r := bs.map tkB ++ r) hz (kid_nums (by omega) hn) (by simp only [List.length_append, List.length_map, List.length_nil] at hG ⊢; omega)).mono (by omega)).bnd fun m hm => ?_
     refine ((ih.block (kidN n 1) bs hbs (kid_nums (by omega) hn) G (d + 1) r (by omega)).mono (by omega)).bnd fun m1 hm1 => ?_
     rw [hr, Bool.and_false, if_neg (by decide)]
     refine .ok _ ?_
     rw [strip_mk, strip_eq n, f3 rfl, f4 rfl, hks]
     simp only [stripL_cons, stripL_nil, hm, hm1]
   · cases h
  ·
   have hdp := depthN_pos n
   simp only [stmtS] at h
   split at h
   ·
    rename_i hk
    simp only [Bool.or_eq_true] at hk
    exact ih.branch n ys h (by rcases hk with hk | hk; exact .inl (eqB_eq hk); exact .inr (eqB_eq hk)) hn G d r hr hG
   obtain ⟨a, b, ha, hb, rfl⟩ := sq_some h
   obtain rfl := Option.some.inj hb
   simp only [List.length_append, List.length_cons, List.length_nil] at hG
   obtain ⟨G, rfl, hF⟩ := fuel_one hG
   rw [map_app, map_cons, map_nil]
   split at ha
   ·
    split at ha
    ·
     rename_i hp
     obtain ⟨f1, f2, f3, f4⟩ := plain_form hp
     obtain ⟨p1, p2⟩ := plain1 hp
     obtain ⟨a1, a2, ha1, ha2, rfl⟩ := sq_some ha
     obtain ⟨rfl, h2, h3⟩ := typS_some ha1
     obtain ⟨rfl, hy⟩ := nameS_some ha2
     have h3 : typedB (kidN n 0).text = true := by
      rcases h3 with h3 | ⟨h3, _⟩
      · exact h3
      · cases h3
     rw [map_app, map_cons, map_cons, map_nil, map_nil, st_local h3]
     refine (param_bk (k := n) (n := ⟨⟨#[112, 97, 114, 97, 109]⟩, n.text, 0, 0, 0, [kidN n 0]⟩) (t := kidN n 0) h3 h2 hy (by rw [strip_mk, stripL_cons, stripL_nil])).bnd fun m hm => semi_bk ?_
     obtain ⟨e1, e2, e3, e4⟩ := strip_fields hm
     rw [strip_withKind, e2, e3, e4, strip_eq n, f1, f4 rfl, p1]
    · cases ha
   split at ha
   ·
    rename_i hk
    split at ha
    ·
     rename_i hp
     obtain ⟨f1, f2, f3, f4⟩ := plain_form hp
     obtain ⟨p1, p2⟩ := plain2 hp
     have k0 := kid_depth (n := n) (i := 0) (by omega)
     have k1 := kid_depth (n := n) (i := 1) (by omega)
     obtain ⟨a1, a2, ha1, ha2, rfl⟩ := sq_some ha
     obtain ⟨b1, b2, hb1, hb2, rfl⟩ := sq_some ha2
     obtain rfl := Option.some.inj hb1
     obtain ⟨y, ys', hyy, hy, hq⟩ := (hdE g).target _ _ ha1
     obtain ⟨y2, ys2, hyy2, _, ht⟩ := (bkE g).target _ _ ha1 (kid_nums (by omega) hn)
     subst hyy
     injection hyy2 with e1 e2
     subst e1 e2
     simp only [List.length_append, List.length_cons, List.length_nil] at hG
     rw [map_app, map_cons, map_app, map_cons, map_nil, st_name hy]
     unfold simpleF
     rw [name_ok hy]
     simp only [hq _ (eq_follow _).2]
     rw [if_neg (by decide)]
     refine ((ht G d _ (eq_follow _).1 (by simp only [List.length_append, List.length_map, List.length_cons]; omega)).mono (e' := 62 < d + 2 * (depthN n : Int)) (by omega)).bnd fun m hm => ?_
     rw [bnd_need (by rw [tk_eq]; rfl)]
     have hkk : n.kind = ⟨#[97, 115, 115, 105, 103, 110]⟩ ∨ n.kind = ⟨#[114, 101, 115, 117, 108, 116]⟩ := by
      simp only [Bool.or_eq_true] at hk
      rcases hk with hk | hk
      · exact .inl (eqB_eq hk)
      · exact .inr (eqB_eq hk)
     rcases hkk with hkk | hkk
     ·
      rw [hkk, if_neg (by decide +kernel)] at hb2
      have hh := (hdE g).expr _ _ _ hb2 (kid_nums (by omega) hn) _ (stop_of stop_sc r).lp
      have hc := hh.call
      unfold callHd at hc
      simp only [hh.nd, hc]
      rw [if_neg (by decide), if_neg (by decide)]
      refine (((bkE g).expr _ _ hb2 (kid_nums (by omega) hn) G d _ (stop_of stop_sc r) (by simp only [List.length_cons]; omega)).mono (by omega)).bnd fun m1 hm1 => semi_bk ?_
      rw [strip_mk, strip_eq n, f3 rfl, f4 rfl, p1, hkk]
      simp only [stripL_cons, stripL_nil, hm, hm1]
     ·
      rw [hkk, if_pos (by decide +kernel)] at hb2
      obtain ⟨zs, rfl, hy2, hcall⟩ := call_bk hb2 (kid_nums (by omega) hn)
      rw [map_cons, map_cons]
      simp only [hy2.nis (x := ⟨#[110, 111, 110, 100, 101, 116]⟩) (by decide +kernel)]
      rw [if_neg (by decide), if_pos (by rw [hy2.named, List.tail_cons, tk_lp]; rfl), name_ok hy2]
      simp only [List.length_cons] at hG
      refine ((hcall G d _ (by simp only [List.length_cons]; omega)).mono (by omega)).bnd fun m1 hm1 => semi_bk ?_
      rw [strip_mk, strip_eq n, f3 rfl, f4 rfl, p1, hkk]
      simp only [stripL_cons, stripL_nil, hm, hm1]
    · cases ha
   split at ha
   ·
    split at ha
    ·
     rename_i hp
     obtain ⟨f1, f2, f3, f4⟩ := plain_form hp
     obtain ⟨p1, p2⟩ := plain1 hp
     have k0 := kid_depth (n := n) (i := 0) (by omega)
     obtain ⟨a1, a2, ha1, ha2, rfl⟩ := sq_some ha
     obtain rfl := Option.some.inj ha2
     obtain ⟨y, ys', hyy, hy, hq⟩ := (hdE g).target _ _ ha1
     obtain ⟨y2, ys2, hyy2, _, ht⟩ := (bkE g).target _ _ ha1 (kid_nums (by omega) hn)
     subst hyy
     injection hyy2 with e1 e2
     subst e1 e2
     simp only [List.length_append, List.length_cons, List.length_nil] at hG
     rw [map_app, map_cons, map_cons, map_cons, map_cons, map_cons, map_nil, st_name hy]
     unfold simpleF
     rw [name_ok hy]
     simp only [hq _ (eq_follow _).2]
     rw [if_neg (by decide)]
     refine ((ht G d _ (eq_follow _).1 (by simp only [List.length_cons]; omega)).mono (e' := 62 < d + 2 * (depthN n : Int)) (by omega)).bnd fun m hm => ?_
     rw [bnd_need (by rw [tk_eq]; rfl)]
     simp only [show ∀ r, isF (tkB ⟨#[110, 111, 110, 100, 101, 116]⟩ :: r) ⟨#[110, 111, 110, 100, 101, 116]⟩ = true from fun r => by rw [tk_nondet]; rfl, List.tail_cons]
     rw [if_pos trivial, bnd_need (by rw [tk_lp]; rfl), bnd_need (by rw [tk_rp]; rfl)]
     refine semi_bk ?_
     rw [strip_mk, strip_eq n, f1, f3 rfl, f4 rfl, p1]
     simp only [stripL_cons, stripL_nil, hm]
    · cases ha
   split at ha
   ·
    split at ha
    ·
     rename_i hp
     simp only [Bool.and_eq_true, decide_eq_true_eq] at hp
     obtain ⟨f1, f2, f3, f4⟩ := plain_form hp.1
     obtain ⟨a1, a2, ha1, ha2, rfl⟩ := sq_some ha
     obtain rfl := Option.some.inj ha1
     rw [map_app, map_cons, map_nil]
     by_cases hl : n.kids.length = 0
     ·
      have hks := List.eq_nil_of_length_eq_zero hl
      rw [hks] at ha2
      simp only [each] at ha2
      obtain rfl := Option.some.inj ha2
      rw [map_nil, st_ret0]
      refine semi_bk ?_
      rw [strip_mk, strip_eq n, f1, f3 rfl, f4 rfl, hks]
     ·
      have hks := kids1 (n := n) (by omega)
      have k0 := kid_depth (n := n) (i := 0) (by omega)
      rw [hks] at ha2
      simp only [each] at ha2
      obtain ⟨c1, c2, hc1, hc2, rfl⟩ := sq_some ha2
      obtain rfl := Option.some.inj hc2
      rw [List.append_nil] at *
      simp only [List.length_append, List.length_cons, List.length_nil] at hG
      have hh := (hdE g).expr _ _ _ hc1 (kid_nums (by omega) hn) _ (stop_of stop_sc r).lp
      rw [st_ret1 hh.sc]
      refine (((bkE g).expr _ _ hc1 (kid_nums (by omega) hn) G d _ (stop_of stop_sc r) (by simp only [List.length_cons]; omega)).mono (by omega)).bnd fun m1 hm1 => semi_bk ?_
      rw [strip_mk, strip_eq n, f1, f3 rfl, f4 rfl, hks]
      simp only [stripL_cons, stripL_nil, hm1]
    · cases ha
   split at ha
   ·
    rename_i hk
    split at ha
    ·
     rename_i hp
     obtain ⟨f1, f2, f3, f4⟩ := plain_form hp
     obtain ⟨p1, p2⟩ := plain1 hp
     have k0 := kid_depth (n := n) (i := 0) (by omega)
     obtain ⟨a1, a2, ha1, ha2, rfl⟩ := sq_some ha
     obtain rfl := Option.some.inj ha1
     obtain ⟨c1, c2, hc1, hc2, rfl⟩ := sq_some ha2
     obtain rfl := Option.some.inj hc2
     have hkk : n.kind = ⟨#[97, 115, 115, 101, 114, 116]⟩ ∨ n.kind = ⟨#[97, 115, 115, 117, 109, 101]⟩ := by
      simp only [Bool.or_eq_true] at hk
      rcases hk with hk | hk
      · exact .inl (eqB_eq hk)
      · exact .inr (eqB_eq hk)
     simp only [List.length_append, List.length_cons, List.length_nil] at hG
     rw [map_app, map_cons, map_cons, map_nil, map_app, map_cons, map_nil, st_as hkk]
     refine ((cond_bk hc1 (kid_nums (by omega) hn) (by simp only [List.length_cons]; omega)).mono (by omega)).bnd fun m1 hm1 => semi_bk ?_
     rw [strip_mk, strip_eq n, f3 rfl, f4 rfl, p1]
     simp only [stripL_cons, stripL_nil, hm1]
    · cases ha
   ·
    obtain ⟨zs, rfl, hy, hcall⟩ := call_bk ha hn
    simp only [List.length_cons] at hG
    rw [map_cons, map_cons, st_name hy]
    unfold simpleF
    rw [name_ok hy]
    simp only [show ∀ r, isF (tkB ⟨#[40]⟩ :: r) ⟨#[40]⟩ = true from fun r => by rw [tk_lp]; rfl]
    rw [if_pos trivial]
    exact (hcall G d _ (by simp only [List.length_cons]; omega)).bnd fun m hm => semi_bk hm
theorem leaf_num (v : Int) (y : ByteArray) : (leafN ⟨#[110, 117, 109]⟩ ⟨1, y, v, 0, 0⟩).strip = ⟨⟨#[110, 117, 109]⟩, ⟨#[]⟩, v, 0, 0, []⟩ := by
 show Node.strip ⟨_, _, _, _, _, []⟩ = _
 rw [strip_mk, stripL_nil]
def tkE : Tok := ⟨3, ⟨#[]⟩, 0, 0, 0⟩
theorem param_some {n : Node} {ys : List ByteArray} (h : paramS n = some ys) : ys = [(kidN n 0).text, n.text] ∧ typedB (kidN n 0).text = true ∧ NameB n.text ∧ (kidN n 0).strip = ⟨⟨#[116, 121, 112, 101]⟩, (kidN n 0).text, 0, 0, 0, []⟩ ∧ n.strip = ⟨⟨#[112, 97, 114, 97, 109]⟩, n.text, 0, 0, 0, [(kidN n 0).strip]⟩ := by
 unfold paramS at h
 split at h
 ·
  rename_i hp
  obtain ⟨f1, f2, f3, f4⟩ := plain_form hp
  obtain ⟨p1, p2⟩ := plain1 hp
  obtain ⟨a1, a2, ha1, ha2, rfl⟩ := sq_some h
  obtain ⟨rfl, h2, h3⟩ := typS_some ha1
  obtain ⟨rfl, hy⟩ := nameS_some ha2
  refine ⟨rfl, ?_, hy, h2, by rw [strip_eq n, f1, f4 rfl, p1, stripL_cons, stripL_nil]⟩
  rcases h3 with h3 | ⟨h3, _⟩
  · exact h3
  · cases h3
 · cases h
theorem drop_kid' {n : Node} {i : Nat} (h : i < n.kids.length) : n.kids.drop i = kidN n i :: n.kids.drop (i + 1) := by
 rw [List.drop_eq_getElem_cons h]
 congr 1
 unfold kidN
 rw [List.getD_eq_getElem?_getD, List.getElem?_eq_getElem h]; rfl
theorem mid_kids {n : Node} (h : 2 ≤ n.kids.length) : n.kids = kidN n 0 :: ((n.kids.drop 1).take (n.kids.length - 2) ++ [kidN n (n.kids.length - 1)]) := by
 have e1 := drop_kid' (n := n) (i := 0) (by omega)
 have e2 := drop_kid' (n := n) (i := n.kids.length - 1) (by omega)
 rw [List.drop_zero] at e1
 have e3 : (n.kids.drop 1).drop (n.kids.length - 2) = [kidN n (n.kids.length - 1)] := by
  rw [List.drop_drop, show 1 + (n.kids.length - 2) = n.kids.length - 1 by omega, e2, show n.kids.length - 1 + 1 = n.kids.length by omega, List.drop_length]
 calc n.kids = kidN n 0 :: n.kids.drop 1 := e1
  _ = kidN n 0 :: ((n.kids.drop 1).take (n.kids.length - 2) ++ (n.kids.drop 1).drop (n.kids.length - 2)) := by rw [List.take_append_drop]
  _ = _ := by rw [e3]
theorem item_bk {g : Nat} {n : Node} {ys : List ByteArray} (h : itemS g n = some ys) (hn : numsOk n = true) (G : Nat) (r : List Tok) (hG : 16 * (ys.length + r.length) ≤ G) : (∃ y ys', ys = y :: ys' ∧ (tkB y).kind = 0) ∧ Bk (itemF G (ys.map tkB ++ r)) n r (62 < 2 * (depthN n : Int)) := by
 have hdp := depthN_pos n
 unfold itemS at h
 split at h
 ·
  rename_i h0
  simp only [Bool.and_eq_true, decide_eq_true_eq, beq_iff_eq] at h0
  obtain ⟨a, b, ha, hb, rfl⟩ := sq_some h
  obtain ⟨b1, b2, hb1, hb2, rfl⟩ := sq_some hb
  obtain ⟨rfl, ht, hty⟩ := typS_some ha
  obtain ⟨rfl, hy⟩ := nameS_some hb1
  simp only [List.length_append, List.length_cons, List.length_nil] at hG
  refine ⟨⟨_, _, rfl, ?_⟩, ?_⟩
  ·
   rcases hty with h9 | ⟨_, h9⟩
   · rw [(typed_tk h9).1]
   · rw [h9, tk_void]
  rw [map_app, map_cons, map_nil, map_app, map_cons, map_nil]
  have htyp : ∀ {F : Node → List Tok → Option (PR Node)} (q : List Tok), bnd (some (if isF (tkB (kidN n 0).text :: q) ⟨#[118, 111, 105, 100]⟩ then .ok (leafN ⟨#[116, 121, 112, 101]⟩ (nowT (tkB (kidN n 0).text :: q))) (tkB (kidN n 0).text :: q).tail else typF (tkB (kidN n 0).text :: q))) F = F ⟨⟨#[116, 121, 112, 101]⟩, (kidN n 0).text, 0, 0, 0, []⟩ q := by
   intro F q
   rcases hty with h9 | ⟨_, h9⟩
   ·
    rw [if_neg, typ_ok h9]
    rcases typed_cases h9 with e | e | e | e | e | e | e | e | e <;> rw [e] <;> exact ne_true_of_eq_false (by kernel_rfl : isF (tkB _ :: ([] : List Tok)) ⟨#[118, 111, 105, 100]⟩ = false)
   · rw [h9, tk_void]; rfl
  unfold itemF
  rw [htyp, name_ok hy]
  split at hb2
  ·
   rename_i hkg
   have hkg := eqB_eq hkg
   have hnv : ∀ q, isF (tkB (kidN n 0).text :: q) ⟨#[118, 111, 105, 100]⟩ = false := by
    intro q
    rcases hty with h9 | ⟨h9, _⟩
    · rcases typed_cases h9 with e | e | e | e | e | e | e | e | e <;> rw [e] <;> exact (by kernel_rfl : isF (tkB _ :: ([] : List Tok)) ⟨#[118, 111, 105, 100]⟩ = false)
    · rw [hkg] at h9; exact absurd h9 (by decide +kernel)
   split at hb2
   ·
    obtain ⟨c1, c2, hc1, hc2, rfl⟩ := sq_some hb2
    obtain rfl := Option.some.inj hc2
    rw [map_app, map_cons, map_nil]
    simp only [hnv]
    split at hc1
    ·
     rename_i hl2
     have hl2 : n.kids.length = 2 := by simpa using hl2
     have hks := kids2 hl2
     split at hc1
     ·
      rename_i hp
      obtain rfl := Option.some.inj hc1
      obtain ⟨⟨n0, n1⟩, _⟩ := (numsOk_eq (kidN n 1)).1 (kid_nums (by omega) hn)
      obtain ⟨f1, f2, f3, f4⟩ := plain_form hp
      rw [map_cons, map_cons, map_cons, map_nil]
      rw [show isF (tkB ⟨#[91]⟩ :: tkB (digitsB (kidN n 1).num) :: tkB ⟨#[93]⟩ :: tkB ⟨#[59]⟩ :: r) ⟨#[40]⟩ = false from by rw [tk_lb]; rfl, show isF (tkB ⟨#[91]⟩ :: tkB (digitsB (kidN n 1).num) :: tkB ⟨#[93]⟩ :: tkB ⟨#[59]⟩ :: r) ⟨#[91]⟩ = true from by rw [tk_lb]; rfl]
      simp only [List.tail_cons, now_cons, Bool.false_eq_true, ↓reduceIte, digits_tk n0 n1]
      rw [if_neg (by decide), bnd_need (by rw [tk_rb]; rfl)]
      refine semi_bk ?_
      rw [strip_mk, strip_eq n, hkg, h0.2, hks]
      simp only [stripL_cons, stripL_nil, ht, strip_mk, leaf_name _ hy, leaf_num]
      rw [strip_eq (kidN n 1), f1, f3 rfl, plain0 hp]
      rfl
     · cases hc1
    ·
     rename_i hl2
     obtain rfl := Option.some.inj hc1
     have hks := kids1 (n := n) (by simp at hl2; omega)
     rw [map_nil, show isF (tkB ⟨#[59]⟩ :: r) ⟨#[40]⟩ = false from by rw [tk_sc]; rfl, show isF (tkB ⟨#[59]⟩ :: r) ⟨#[91]⟩ = false from by rw [tk_sc]; rfl]
     simp only [Bool.false_eq_true, ↓reduceIte]
     refine semi_bk ?_
     rw [strip_mk, strip_eq n, hkg, h0.2, hks]
     simp only [stripL_cons, stripL_nil, ht, strip_mk, leaf_name _ hy]
   · cases hb2
  ·
   split at hb2
   ·
    rename_i hkf
    simp only [Bool.and_eq_true, decide_eq_true_eq] at hkf
    have hkk := eqB_eq hkf.1
    obtain ⟨c1, c2, hc1, hc2, rfl⟩ := sq_some hb2
    obtain rfl := Option.some.inj hc1
    obtain ⟨zs, d2, hz, hd2, rfl⟩ := sq_some hc2
    obtain ⟨e1, bs, he1, hbs, rfl⟩ := sq_some hd2
    obtain rfl := Option.some.inj he1
    simp only [List.length_append, List.length_cons, List.length_nil] at hG
    rw [map_app, map_cons, map_nil, map_app, map_app, map_cons, map_nil]
    rw [if_pos (by rw [tk_lp]; rfl), List.tail_cons]
    have hkl := kid_depth (n := n) (i := n.kids.length - 1) (by omega)
    refine (lists_bk (e := 62 < 2 * (depthN n : Int)) (M := zs.length + (bs.map tkB ++ r).length + 1) _ (fun q hq zs hz t r ht hM => ?_) (fun q hq zs hz t r ht => ?_) zs hz G (bs.map tkB ++ r) (by omega) (by simp only [List.length_append, List.length_map]; omega)).bnd fun ms hms => ?_
    ·
     obtain ⟨rfl, q1, q2, q3, q4⟩ := param_some hz
     rw [map_cons, map_cons, map_nil]
     exact param_bk (k := q) q1 q3 q2 q4
    ·
     obtain ⟨rfl, q1, q2, q3, q4⟩ := param_some hz
     rw [map_cons]
     rcases typed_cases q1 with e | e | e | e | e | e | e | e | e <;> rw [e] <;> exact (by kernel_rfl : isF (tkB _ :: ([] : List Tok)) ⟨#[41]⟩ = false)
    ·
     refine (((bkS g).block _ _ hbs (kid_nums (by omega) hn) G 1 r (by omega)).mono (by omega)).bnd fun m hm => .ok _ ?_
     have hks := mid_kids (n := n) (by omega)
     rw [strip_mk, strip_eq n, hkk, h0.2, hks]
     simp only [stripL_app, stripL_cons, stripL_nil, ht, hm, hms, strip_mk, List.cons_append, List.nil_append, leaf_name _ hy]
   · cases hb2
 · cases h
theorem items_bk {g : Nat} {e : Prop} {l c : Int} : ∀ (ks : List Node), (∀ k ∈ ks, numsOk k = true ∧ (62 < 2 * (depthN k : Int) → e)) →
  ∀ zs, each (itemS g) ks = some zs → ∀ G pre n, 16 * (zs.length + 1) + 1 ≤ G → n.strip = ⟨⟨#[112, 114, 111, 103, 114, 97, 109]⟩, ⟨#[]⟩, 0, 0, 0, stripL (pre ++ ks)⟩ → Bk (itemsF G l c pre (zs.map tkB ++ [tkE])) n [tkE] e
 | [], h1, zs, hz, G, pre, n, hG, hs => by
  simp only [each] at hz
  obtain rfl := Option.some.inj hz
  obtain ⟨G, rfl, hF⟩ := fuel_one (k := 1) (G := G) (by omega)
  rw [map_nil]
  simp only [itemsF]
  rw [if_pos (show ((nowT [tkE]).kind == 3) = true from rfl)]
  refine .ok _ ?_
  rw [hs, strip_mk, List.append_nil]
 | k :: ks, h1, zs, hz, G, pre, n, hG, hs => by
  simp only [each] at hz
  obtain ⟨a, b, ha, hb, rfl⟩ := sq_some hz
  simp only [List.length_append] at hG
  obtain ⟨G, rfl, hF⟩ := fuel_one (k := 1) (G := G) (by omega)
  obtain ⟨⟨y, ys', rfl, hy⟩, hbk⟩ := item_bk ha (h1 k (by simp)).1 G (b.map tkB ++ [tkE]) (by simp only [List.length_append, List.length_map, List.length_cons, List.length_nil] at hG ⊢; omega)
  simp only [itemsF]
  rw [if_neg]
  ·
   rw [map_app]
   refine (hbk.mono (h1 k (by simp)).2).bnd fun m hm => ?_
   refine items_bk ks (fun q hq => h1 q (List.mem_cons_of_mem _ hq)) b hb G (pre ++ [m]) n (by simp only [List.length_cons] at hG; omega) ?_
   rw [hs]
   simp only [stripL_app, stripL_cons, stripL_nil, hm, List.append_assoc, List.cons_append, List.nil_append]
  ·
   show ¬ ((tkB y).kind == 3) = true
   rw [hy]; decide
theorem back_bk {g : Nat} {n : Node} {ys : List ByteArray} (h : showS g n = some ys) (hn : numsOk n = true) (G : Nat) (hG : 16 * (ys.length + 1) + 1 ≤ G) : Bk (parseF G (ys.map tkB ++ [tkE])) n [tkE] (20 < depthN n) := by
 unfold showS at h
 split at h
 ·
  rename_i hp
  obtain ⟨f1, f2, f3, f4⟩ := plain_form hp
  unfold parseF
  refine items_bk n.kids (fun k hk => ⟨kids_nums hn k hk, fun h9 => ?_⟩) ys h G [] n hG ?_
  · have := kids_depth k hk; omega
  · rw [strip_eq n, f1, f3 rfl, f4 rfl]; rfl
 · cases h
end Go.Proofs.YtdimhoilfopndaaGreatDoor
end
section
namespace Go.Proofs.YtdimhoilfopndaaGreatDoor
open Go.RowKit
mutual
def wtN : Node → Nat
 | ⟨_, t, _, _, _, ks⟩ => 30 + t.size + wtL ks
def wtL : List Node → Nat
 | [] => 0
 | x :: xs => wtN x + wtL xs
end
theorem wtN_eq (n : Node) : wtN n = 30 + n.text.size + wtL n.kids := by cases n; simp only [wtN]
theorem wtL_nil : wtL [] = 0 := by simp only [wtL]
theorem wtL_cons (x : Node) (xs : List Node) : wtL (x :: xs) = wtN x + wtL xs := by simp only [wtL]
theorem wtL_app (xs ys : List Node) : wtL (xs ++ ys) = wtL xs + wtL ys := by
 induction xs with
 | nil => simp only [wtL_nil, List.nil_append, Nat.zero_add]
 | cons x xs ih => simp only [List.cons_append, wtL_cons, ih, Nat.add_assoc]
theorem wt_low (n : Node) : 30 + n.text.size ≤ wtN n := by rw [wtN_eq]; omega
def byts : List ByteArray → Nat
 | [] => 0
 | x :: xs => x.size + 1 + byts xs
theorem byts_app (xs ys : List ByteArray) : byts (xs ++ ys) = byts xs + byts ys := by
 induction xs with
 | nil => simp only [byts, List.nil_append, Nat.zero_add]
 | cons x xs ih => simp only [List.cons_append, byts, ih, Nat.add_assoc]
def Byt (r : Out) (k : Nat) : Prop := ∀ ys, r = some ys → byts ys ≤ k
theorem Byt.none (k : Nat) : Byt none k := fun _ h => by cases h
theorem Byt.some (l : List ByteArray) : Byt (some l) (byts l) := fun ys h => by cases h; exact Nat.le_refl _
theorem Byt.mono {r : Out} {k m : Nat} (h : Byt r k) (hm : k ≤ m) : Byt r m := fun ys he => Nat.le_trans (h ys he) hm
theorem Byt.sq {a b : Out} {k m : Nat} (h : Byt a k) (h2 : Byt b m) : Byt (sq a b) (k + m) := by
 intro ys he
 obtain ⟨x, y, rfl, rfl, rfl⟩ := sq_some he
 have := h x rfl
 have := h2 y rfl
 rw [byts_app]; omega
theorem Byt.ite {p : Prop} [Decidable p] {a b : Out} {k : Nat} (h : p → Byt a k) (h2 : ¬ p → Byt b k) : Byt (if p then a else b) k := by
 by_cases hp : p
 · rw [if_pos hp]; exact h hp
 · rw [if_neg hp]; exact h2 hp
theorem wt1 {n : Node} (h : n.kids.length = 1) : wtL n.kids = wtN (kidN n 0) := by rw [kids1 h, wtL_cons, wtL_nil]; rfl
theorem wt2 {n : Node} (h : n.kids.length = 2) : wtL n.kids = wtN (kidN n 0) + wtN (kidN n 1) := by rw [kids2 h, wtL_cons, wtL_cons, wtL_nil]; rfl
theorem wt3 {n : Node} (h : n.kids.length = 3) : wtL n.kids = wtN (kidN n 0) + (wtN (kidN n 1) + wtN (kidN n 2)) := by rw [kids3 h, wtL_cons, wtL_cons, wtL_cons, wtL_nil]; rfl
theorem name_byt (n : Node) : Byt (nameS n) (n.text.size + 1) := .ite (fun _ => .some _) (fun _ => .none _)
theorem typ_byt (n : Node) (v : Bool) : Byt (typS n v) (n.text.size + 1) := .ite (fun _ => .some _) (fun _ => .none _)
theorem each_byt {f : Node → Out} : ∀ (ks : List Node), (∀ k ∈ ks, Byt (f k) (wtN k)) → Byt (each f ks) (wtL ks)
 | [], _ => by simp only [each]; exact (Byt.some []).mono (by simp [byts])
 | k :: ks, h => by
  simp only [each]
  rw [wtL_cons]
  exact (h k (List.mem_cons_self ..)).sq (each_byt ks fun x hx => h x (List.mem_cons_of_mem _ hx))
theorem commas_byt {f : Node → Out} : ∀ (b : Bool) (ks : List Node), (∀ k ∈ ks, Byt (f k) (wtN k - 2)) → Byt (commas f b ks) (wtL ks)
 | _, [], _ => by simp only [commas]; exact (Byt.some []).mono (by simp [byts])
 | b, k :: ks, h => by
  simp only [commas]
  rw [wtL_cons]
  have hp := wt_low k
  have h0 : Byt (if b then some [] else some [⟨#[44]⟩] : Out) 2 := .ite (fun _ => (Byt.some []).mono (by simp [byts])) (fun _ => (Byt.some _).mono (by decide))
  exact ((h0.sq (h k (List.mem_cons_self ..))).sq (commas_byt false ks fun x hx => h x (List.mem_cons_of_mem _ hx))).mono (by omega)
structure BytE (g : Nat) : Prop where
 expr : ∀ n w, numsOk n = true → Byt (exprS g n w) (wtN n - 2)
 core : ∀ n, numsOk n = true → Byt (coreS g n) (wtN n - 6)
 target : ∀ n, numsOk n = true → Byt (targetS g n) (wtN n - 6)
theorem bsz (l : List UInt8) : (⟨l.toArray⟩ : ByteArray).size = l.length := by simp [ByteArray.size]
theorem bytE : ∀ g, BytE g := by
 intro g
 induction g with
 | zero => exact ⟨fun _ _ _ => (by simp only [exprS]; exact .none _), fun _ _ => (by simp only [coreS]; exact .none _), fun _ _ => (by simp only [targetS]; exact .none _)⟩
 | succ g ih =>
  refine ⟨fun n w hn => ?_, fun n hn => ?_, fun n hn => ?_⟩
  ·
   have hp := wt_low n
   simp only [exprS]
   exact .ite (fun _ => (((Byt.some _).sq ((ih.core n hn).sq (.some _)))).mono (by simp only [byts]; rw [show (⟨#[40]⟩ : ByteArray).size = 1 from rfl, show (⟨#[41]⟩ : ByteArray).size = 1 from rfl]; omega)) (fun _ => (ih.core n hn).mono (by omega))
  ·
   have hp := wtN_eq n
   obtain ⟨⟨n0, n1⟩, _⟩ := (numsOk_eq n).1 hn
   simp only [coreS]
   refine .ite (fun _ => .ite (fun _ => (Byt.some _).mono (by simp only [byts]; have := digits_len n1; omega)) fun _ => .none _) fun _ => ?_
   refine .ite (fun hk => .ite (fun _ => (Byt.some _).mono ?_) fun _ => .none _) fun _ => ?_
   ·
    simp only [Bool.or_eq_true] at hk
    rcases hk with hk | hk <;> rw [eqB_eq hk] <;> simp only [byts]
    · rw [show (⟨#[116, 114, 117, 101]⟩ : ByteArray).size = 4 from rfl]; omega
    · rw [show (⟨#[102, 97, 108, 115, 101]⟩ : ByteArray).size = 5 from rfl]; omega
   refine .ite (fun _ => .ite (fun h => ?_) fun _ => .none _) fun _ => ?_
   ·
    have hl := plainB_len (by simp only [Bool.and_eq_true] at h; exact h.1)
    have hw := wt1 (n := n) (by omega)
    have hk := wt_low (kidN n 0)
    exact ((Byt.some _).sq (ih.expr (kidN n 0) false (kid_nums (by omega) hn))).mono (by simp only [byts]; omega)
   refine .ite (fun _ => .ite (fun h => ?_) fun _ => .none _) fun _ => ?_
   ·
    have hl := plainB_len (by simp only [Bool.and_eq_true] at h; exact h.1)
    have hw := wt2 (n := n) (by omega)
    have hk := wt_low (kidN n 0)
    have hk2 := wt_low (kidN n 1)
    exact ((ih.expr (kidN n 0) false (kid_nums (by omega) hn)).sq ((Byt.some _).sq (ih.expr (kidN n 1) false (kid_nums (by omega) hn)))).mono (by simp only [byts]; omega)
   refine .ite (fun _ => .ite (fun h => ?_) fun _ => .none _) fun _ => ih.target n hn
   ·
    have hl := plainB_len (by simp only [Bool.and_eq_true] at h; exact h.1)
    have hw := wt1 (n := n) (by omega)
    have hk := wt_low (kidN n 0)
    exact ((Byt.some _).sq (ih.expr (kidN n 0) false (kid_nums (by omega) hn))).mono (by simp only [byts]; rw [show (⟨#[40]⟩ : ByteArray).size = 1 from rfl, show (⟨#[41]⟩ : ByteArray).size = 1 from rfl]; omega)
  ·
   have hp := wtN_eq n
   simp only [targetS]
   refine .ite (fun _ => .ite (fun _ => (name_byt n).mono (by omega)) fun _ => .none _) fun _ => .ite (fun h => ?_) fun _ => .none _
   have hl := plainB_len h
   have hw := wt1 (n := n) (by omega)
   have hk := wt_low (kidN n 0)
   exact ((name_byt n).sq ((Byt.some _).sq ((ih.expr (kidN n 0) true (kid_nums (by omega) hn)).sq (.some _)))).mono (by simp only [byts]; rw [show (⟨#[91]⟩ : ByteArray).size = 1 from rfl, show (⟨#[93]⟩ : ByteArray).size = 1 from rfl]; omega)
theorem call_byt (g : Nat) (n : Node) (hn : numsOk n = true) : Byt (callS g n) (wtN n - 6) := by
 have hp := wtN_eq n
 unfold callS
 refine .ite (fun _ => ?_) fun _ => .none _
 exact ((name_byt n).sq ((Byt.some _).sq ((commas_byt true n.kids fun k hk => (bytE g).expr k true (kids_nums hn k hk)).sq (.some _)))).mono (by simp only [byts]; rw [show (⟨#[40]⟩ : ByteArray).size = 1 from rfl, show (⟨#[41]⟩ : ByteArray).size = 1 from rfl]; omega)
structure BytB (g : Nat) : Prop where
 block : ∀ n, numsOk n = true → Byt (blockS g n) (wtN n - 20)
 branch : ∀ n, (n.kind = ⟨#[105, 102]⟩ ∨ n.kind = ⟨#[119, 104, 105, 108, 101]⟩) → numsOk n = true → Byt (branchS g n) (wtN n - 4)
 stmt : ∀ n, numsOk n = true → Byt (stmtS g n) (wtN n)
theorem bytB : ∀ g, BytB g := by
 intro g
 induction g with
 | zero => exact ⟨fun _ _ => (by simp only [blockS]; exact .none _), fun _ _ _ => (by simp only [branchS]; exact .none _), fun _ _ => (by simp only [stmtS]; exact .none _)⟩
 | succ g ih =>
  refine ⟨fun n hn => ?_, fun n hkk hn => ?_, fun n hn => ?_⟩
  ·
   have hp := wtN_eq n
   simp only [blockS]
   refine .ite (fun _ => ?_) fun _ => .none _
   exact ((Byt.some _).sq ((each_byt n.kids fun k hk => ih.stmt k (kids_nums hn k hk)).sq (.some _))).mono (by simp only [byts]; rw [show (⟨#[123]⟩ : ByteArray).size = 1 from rfl, show (⟨#[125]⟩ : ByteArray).size = 1 from rfl]; omega)
  ·
   have hp := wtN_eq n
   have hks : n.kind.size ≤ 5 := by rcases hkk with h | h <;> rw [h] <;> decide
   simp only [branchS]
   refine .ite (fun h => ?_) fun _ => .none _
   simp only [Bool.and_eq_true, Bool.or_eq_true, beq_iff_eq] at h
   have s1 : (⟨#[40]⟩ : ByteArray).size = 1 := rfl
   have s2 : (⟨#[41]⟩ : ByteArray).size = 1 := rfl
   have s3 : (⟨#[101, 108, 115, 101]⟩ : ByteArray).size = 4 := rfl
   rcases h.2 with h2 | ⟨_, h3⟩
   ·
    have hw := wt2 h2
    have h9 : (n.kids.length == 3) = false := by rw [h2]; rfl
    rw [h9, if_neg (by decide)]
    have hk := wt_low (kidN n 0)
    have hk1 := wt_low (kidN n 1)
    exact ((Byt.some _).sq (((bytE g).expr (kidN n 0) true (kid_nums (by omega) hn)).sq ((Byt.some _).sq ((ih.block (kidN n 1) (kid_nums (by omega) hn)).sq (.some _))))).mono (by simp only [byts, s1, s2]; omega)
   ·
    have hw := wt3 h3
    have h9 : (n.kids.length == 3) = true := by rw [h3]; rfl
    rw [h9, if_pos rfl]
    have hk := wt_low (kidN n 0)
    have hk1 := wt_low (kidN n 1)
    have hk2 := wt_low (kidN n 2)
    exact ((Byt.some _).sq (((bytE g).expr (kidN n 0) true (kid_nums (by omega) hn)).sq ((Byt.some _).sq ((ih.block (kidN n 1) (kid_nums (by omega) hn)).sq ((Byt.some _).sq (ih.block (kidN n 2) (kid_nums (by omega) hn))))))).mono (by simp only [byts, s1, s2, s3]; omega)
  ·
   have hp := wtN_eq n
   have s1 : (⟨#[40]⟩ : ByteArray).size = 1 := rfl
   have s2 : (⟨#[41]⟩ : ByteArray).size = 1 := rfl
   have s3 : (⟨#[61]⟩ : ByteArray).size = 1 := rfl
   have s4 : (⟨#[110, 111, 110, 100, 101, 116]⟩ : ByteArray).size = 6 := rfl
   have s5 : (⟨#[114, 101, 116, 117, 114, 110]⟩ : ByteArray).size = 6 := rfl
   have s6 : (⟨#[59]⟩ : ByteArray).size = 1 := rfl
   simp only [stmtS]
   refine .ite (fun hk => ?_) fun _ => ?_
   ·
    simp only [Bool.or_eq_true] at hk
    exact (ih.branch n (by rcases hk with hk | hk; exact .inl (eqB_eq hk); exact .inr (eqB_eq hk)) hn).mono (by omega)
   refine Byt.mono (Byt.sq (k := wtN n - 2) ?_ (.some _)) (by simp only [byts, s6]; omega)
   refine .ite (fun _ => .ite (fun h => ?_) fun _ => .none _) fun _ => ?_
   ·
    have hl := plainB_len h
    have hw := wt1 (n := n) (by omega)
    have hk := wt_low (kidN n 0)
    exact ((typ_byt _ _).sq (name_byt n)).mono (by omega)
   refine .ite (fun _ => .ite (fun h => ?_) fun _ => .none _) fun _ => ?_
   ·
    have hl := plainB_len h
    have hw := wt2 (n := n) (by omega)
    have hk := wt_low (kidN n 0)
    have hk1 := wt_low (kidN n 1)
    exact (((bytE g).target (kidN n 0) (kid_nums (by omega) hn)).sq ((Byt.some _).sq (Byt.ite (k := wtN (kidN n 1)) (fun _ => (call_byt g _ (kid_nums (by omega) hn)).mono (by omega)) (fun _ => ((bytE g).expr _ true (kid_nums (by omega) hn)).mono (by omega))))).mono (by simp only [byts, s3]; omega)
   refine .ite (fun _ => .ite (fun h => ?_) fun _ => .none _) fun _ => ?_
   ·
    have hl := plainB_len h
    have hw := wt1 (n := n) (by omega)
    have hk := wt_low (kidN n 0)
    exact (((bytE g).target (kidN n 0) (kid_nums (by omega) hn)).sq (.some _)).mono (by simp only [byts, s1, s2, s3, s4]; omega)
   refine .ite (fun _ => .ite (fun h => ?_) fun _ => .none _) fun _ => ?_
   · exact ((Byt.some _).sq (each_byt n.kids fun k hk => ((bytE g).expr k true (kids_nums hn k hk)).mono (by omega))).mono (by simp only [byts, s5]; omega)
   refine .ite (fun hk => .ite (fun h => ?_) fun _ => .none _) fun _ => (call_byt g n hn).mono (by omega)
   ·
    have hl := plainB_len h
    have hw := wt1 (n := n) (by omega)
    have hk1 := wt_low (kidN n 0)
    have hks : n.kind.size ≤ 6 := by
     simp only [Bool.or_eq_true] at hk
     rcases hk with h | h <;> rw [eqB_eq h] <;> decide
    exact ((Byt.some _).sq (((bytE g).expr (kidN n 0) true (kid_nums (by omega) hn)).sq (.some _))).mono (by simp only [byts, s1, s2]; omega)
theorem param_byt (n : Node) : Byt (paramS n) (wtN n - 2) := by
 have hp := wtN_eq n
 refine .ite (fun h => ?_) (fun _ => .none _)
 have hl := plainB_len h
 have hw := wt1 (n := n) (by omega)
 have hk := wt_low (kidN n 0)
 exact ((typ_byt _ _).sq (name_byt n)).mono (by omega)
theorem item_byt (g : Nat) (n : Node) (hn : numsOk n = true) : Byt (itemS g n) (wtN n) := by
 have hp := wtN_eq n
 have s1 : (⟨#[40]⟩ : ByteArray).size = 1 := rfl
 have s2 : (⟨#[41]⟩ : ByteArray).size = 1 := rfl
 have s3 : (⟨#[91]⟩ : ByteArray).size = 1 := rfl
 have s4 : (⟨#[93]⟩ : ByteArray).size = 1 := rfl
 have s6 : (⟨#[59]⟩ : ByteArray).size = 1 := rfl
 unfold itemS
 refine .ite (fun h => ?_) fun _ => .none _
 simp only [Bool.and_eq_true, decide_eq_true_eq] at h
 have hd := drop_kid' (n := n) (i := 0) h.1
 have hk0 := wt_low (kidN n 0)
 rw [List.drop_zero] at hd
 have hw0 : wtL n.kids = wtN (kidN n 0) + wtL (n.kids.drop 1) := by
  have h9 := congrArg wtL hd
  rwa [wtL_cons] at h9
 refine Byt.mono ((typ_byt _ _).sq ((name_byt n).sq (k := n.text.size + 1) (m := 29 + wtL (n.kids.drop 1)) ?_)) (by omega)
 refine .ite (fun _ => .ite (fun hle => ?_) fun _ => .none _) fun _ => .ite (fun h2 => ?_) fun _ => .none _
 ·
  refine Byt.mono (Byt.sq (k := 27) (.ite (fun _ => .ite (fun hpl => ?_) fun _ => .none _) fun _ => (Byt.some []).mono (by simp [byts])) (.some _)) (by simp only [byts, s6]; omega)
  by_cases hl2 : n.kids.length = 2
  ·
   obtain ⟨⟨n0, n1⟩, _⟩ := (numsOk_eq (kidN n 1)).1 (kid_nums (by omega) hn)
   exact (Byt.some _).mono (by simp only [byts, s3, s4]; have := digits_len n1; omega)
  · rename_i h9; simp [hl2] at h9
 ·
  simp only [Bool.and_eq_true, decide_eq_true_eq] at h2
  have hm := mid_kids (n := n) (by omega)
  have hw := congrArg wtL hm
  rw [wtL_cons, wtL_app, wtL_cons, wtL_nil] at hw
  have hk1 := wt_low (kidN n (n.kids.length - 1))
  exact ((Byt.some _).sq ((commas_byt true _ fun k _ => param_byt k).sq ((Byt.some _).sq ((bytB g).block (kidN n (n.kids.length - 1)) (kid_nums (by omega) hn))))).mono (by simp only [byts, s1, s2]; omega)
theorem show_byt (g : Nat) (n : Node) (hn : numsOk n = true) : Byt (showS g n) (wtN n) := by
 have hp := wtN_eq n
 refine .ite (fun h => ?_) (fun _ => .none _)
 exact (each_byt n.kids fun k hk => item_byt g k (kids_nums hn k hk)).mono (by omega)
theorem joinB_byts : ∀ ys : List ByteArray, (joinB (ys.map (·.data.toList))).length ≤ byts ys
 | [] => by simp [joinB]
 | [a] => by
  show a.data.toList.length ≤ byts [a]
  simp only [byts]
  rw [size_list]; omega
 | a :: b :: ys => by
  have h := joinB_byts (b :: ys)
  have e : joinB ((a :: b :: ys).map (·.data.toList)) = a.data.toList ++ (32 :: joinB ((b :: ys).map (·.data.toList))) := by simp only [List.map_cons, joinB]
  rw [e, List.length_append, List.length_cons, byts, ← size_list]
  omega
end Go.Proofs.YtdimhoilfopndaaGreatDoor
end
section
namespace Go.Proofs.YtdimhoilfopndaaGreatDoor
open Go.RowKit
def TokOk (t : Tok) : Prop := t.text.size ≤ 65536 ∧ (t.kind ≠ 3 → nextL t.text.data.toList = some ⟨t.kind, t.text.data.toList, t.num⟩)
def AllOk (ts : List Tok) : Prop := ∀ t ∈ ts, TokOk t
def wtT : List Tok → Nat
 | [] => 0
 | t :: ts => 30 + t.text.size + wtT ts
theorem AllOk.tail {t : Tok} {ts : List Tok} (h : AllOk (t :: ts)) : AllOk ts := fun x hx => h x (List.mem_cons_of_mem _ hx)
theorem AllOk.head {t : Tok} {ts : List Tok} (h : AllOk (t :: ts)) : TokOk t := h t (List.mem_cons_self ..)
theorem name_given {y : ByteArray} (h : NameB y) (hs : y.size ≤ 65536) : givenB y = true := by
 have hX := LX_join [⟨0, y.data.toList, 0⟩] (fun g hg => by
  rw [List.mem_singleton.1 hg]
  exact good_of h.1 (show (0 : Int) ≠ 3 by decide))
 have e : joinB ([(⟨0, y.data.toList, 0⟩ : Tk)].map (·.text)) = y.data.toList := by simp only [List.map_cons, List.map_nil, joinB]
 rw [e] at hX
 have he : (lexR y).err = 0 := by
  by_cases h9 : (lexR y).err = 0
  · exact h9
  ·
   have := ((lexR_list y hs).2 h9).1
   rw [this] at hX; cases hX
 have h2 := (lexR_list y hs).1 he
 rw [hX] at h2
 have h3 := Option.some.inj h2
 unfold givenB
 rw [he]
 generalize (lexR y).toks = ts at *
 match ts, h3 with
 | [a, b], h3 =>
  simp only [List.cons_append, List.nil_append, List.map_cons, List.map_nil, List.cons.injEq] at h3
  have h4 := h3.1
  unfold Tok.bare at h4
  injection h4 with k1 k2 k3
  have ht : a.text = y := ba_ext k2.symm
  rw [show nowT [a, b] = a from rfl, ht, eqB_self, ← k1, h.2]
  rfl
 | [], h3 => simp at h3
 | [a], h3 => simp at h3
 | a :: b :: c :: r, h3 => simp at h3
theorem un_is {ts : List Tok} {x : ByteArray} (hx : x.data.toList ≠ []) (h : isF ts x = true) : ∃ t r, ts = t :: r := by
 cases ts with
 | nil =>
  simp only [isF, Bool.and_eq_true, beq_iff_eq] at h
  exact absurd h.1.symm hx
 | cons t ts => exact ⟨t, ts, rfl⟩
theorem un_kind {ts : List Tok} (h : (nowT ts).kind ≠ 0) : ∃ t r, ts = t :: r := by
 cases ts with
 | nil => exact absurd rfl h
 | cons t ts => exact ⟨t, ts, rfl⟩
theorem un_named {ts : List Tok} (h : namedF ts = true) : ∃ t r, ts = t :: r := by
 cases ts with
 | nil => exact absurd h (by decide)
 | cons t ts => exact ⟨t, ts, rfl⟩
theorem un_type {ts : List Tok} (h : isTypeF ts = true) : ∃ t r, ts = t :: r := by
 cases ts with
 | nil => exact absurd h (by decide)
 | cons t ts => exact ⟨t, ts, rfl⟩
theorem named_given {t : Tok} {r : List Tok} (ht : TokOk t) (h : namedF (t :: r) = true) : givenB t.text = true := by
 rw [named_cons] at h
 simp only [Bool.and_eq_true, beq_iff_eq, Bool.not_eq_true'] at h
 have h2 := ht.2 (by omega)
 have h3 := nextL_zero h2 h.1
 rw [h.1] at h2
 simp only at h3
 rw [h3] at h2
 exact name_given ⟨h2, h.2.2⟩ ht.1
theorem numP_range (base : Int) (hb : 0 ≤ base) : ∀ (l : List UInt8) (a v : Int), 0 ≤ a → a < 18446744073709551616 → (∀ c ∈ l, 0 ≤ dv c) → numP base a l = some v → 0 ≤ v ∧ v < 18446744073709551616
 | [], a, v, h0, h1, _, h => by
  rw [numP] at h
  obtain rfl := Option.some.inj h
  exact ⟨h0, h1⟩
 | c :: l, a, v, h0, h1, hd, h => by
  rw [numP] at h
  split at h
  · cases h
  split at h
  · cases h
  ·
   have := hd c (by simp)
   have h8 : 0 ≤ a * base := Int.mul_nonneg h0 hb
   exact numP_range base hb l _ v (by omega) (by omega) (fun x hx => hd x (List.mem_cons_of_mem _ hx)) h
theorem dv_all : ∀ n : Fin 256, alnumB (UInt8.ofNat n.val) = true → 0 ≤ dv (UInt8.ofNat n.val) := by decide +kernel
theorem dv_pos (c : UInt8) (h : alnumB c = true) : 0 ≤ dv c := by
 have := dv_all ⟨c.toNat, c.toNat_lt⟩
 simp only [UInt8.ofNat_toNat] at this
 exact this h
theorem num_range {l : List UInt8} {t : Tk} (h : nextL l = some t) (hk : t.kind = 1) : 0 ≤ t.num ∧ t.num < 18446744073709551616 := by
 have hE : ∀ base q v, 0 ≤ base → List.all q alnumB = true → numE base q = some v → 0 ≤ v ∧ v < 18446744073709551616 := fun base q v hb hq hv => by
  unfold numE at hv
  split at hv
  · cases hv
  · exact numP_range base hb q 0 v (by omega) (by omega) (fun c hc => dv_pos c (List.all_eq_true.1 hq c hc)) hv
 unfold nextL at h
 split at h
 · obtain rfl := Option.some.inj h; cases hk
 ·
  split at h
  ·
   split at h
   ·
    split at h
    ·
     rename_i v hv
     obtain rfl := Option.some.inj h
     unfold numL at hv
     split at hv
     ·
      split at hv
      · exact hE 16 _ v (by decide) (by assumption) hv
      · cases hv
     ·
      split at hv
      · exact hE 10 _ v (by decide) (by assumption) hv
      · cases hv
    · cases h
   · obtain rfl := Option.some.inj h; cases hk
  ·
   split at h
   · obtain rfl := Option.some.inj h; cases hk
   · cases h
def Rs (x : Option (PR Node)) (w : Nat) (P : Node → Prop) : Prop := ∀ n r, x = some (.ok n r) → P n ∧ numsOk n = true ∧ wtN n + wtT r ≤ w ∧ AllOk r
def RsL (x : Option (PR (List Node))) (w : Nat) (P : Node → Prop) : Prop := ∀ ns r, x = some (.ok ns r) → (∀ n ∈ ns, P n) ∧ numsL ns = true ∧ wtL ns + wtT r ≤ w ∧ AllOk r
theorem Rs.ok {n : Node} {r : List Tok} {w : Nat} {P : Node → Prop} (h1 : P n) (h2 : numsOk n = true) (h3 : wtN n + wtT r ≤ w) (h4 : AllOk r) : Rs (some (.ok n r)) w P := fun m q h => by
 injection h with h; injection h with e1 e2
 subst e1 e2
 exact ⟨h1, h2, h3, h4⟩
theorem Rs.bad {ts : List Tok} {k : Int} {w : Nat} {P : Node → Prop} : Rs (some (badAt ts k)) w P := fun m q h => by
 injection h with h; cases h
theorem Rs.none {w : Nat} {P : Node → Prop} : Rs none w P := fun m q h => by cases h
theorem Rs.bnd {x : Option (PR Node)} {w w' : Nat} {P P' : Node → Prop} {F : Node → List Tok → Option (PR Node)} (h : Rs x w P) (hF : ∀ n r, P n → numsOk n = true → wtN n + wtT r ≤ w → AllOk r → Rs (F n r) w' P') : Rs (bnd x F) w' P' := by
 intro m q he
 obtain ⟨l, k, e, _, h2⟩ | ⟨a, ts, h1, h2⟩ := bnd_some he
 · cases h2
 ·
  obtain ⟨p1, p2, p3, p4⟩ := h a ts h1
  exact hF a ts p1 p2 p3 p4 m q h2
theorem RsL.bnd {x : Option (PR (List Node))} {w w' : Nat} {P P' : Node → Prop} {F : List Node → List Tok → Option (PR Node)} (h : RsL x w P) (hF : ∀ n r, (∀ k ∈ n, P k) → numsL n = true → wtL n + wtT r ≤ w → AllOk r → Rs (F n r) w' P') : Rs (bnd x F) w' P' := by
 intro m q he
 obtain ⟨l, k, e, _, h2⟩ | ⟨a, ts, h1, h2⟩ := bnd_some he
 · cases h2
 ·
  obtain ⟨p1, p2, p3, p4⟩ := h a ts h1
  exact hF a ts p1 p2 p3 p4 m q h2
theorem Rs.need {ts : List Tok} {x : ByteArray} {w : Nat} {P : Node → Prop} {F : Tok → List Tok → Option (PR Node)} (hx : x.data.toList ≠ []) (ha : AllOk ts) (hF : ∀ t r, ts = t :: r → AllOk r → Rs (F t r) w P) : Rs (Go.Proofs.YtdimhoilfopndaaGreatDoor.bnd (some (needF ts x)) F) w P := by
 unfold needF
 split
 ·
  rename_i h
  obtain ⟨t, r, rfl⟩ := un_is hx h
  exact hF t r rfl ha.tail
 · intro m q he; injection he with he; cases he
theorem Rs.name {ts : List Tok} {w : Nat} {P : Node → Prop} {F : Node → List Tok → Option (PR Node)} (ha : AllOk ts) (hF : ∀ t r, ts = t :: r → givenB t.text = true → AllOk r → Rs (F (leafN ⟨#[110, 97, 109, 101]⟩ t) r) w P) : Rs (Go.Proofs.YtdimhoilfopndaaGreatDoor.bnd (some (nameF ts)) F) w P := by
 unfold nameF
 split
 ·
  rename_i h
  obtain ⟨t, r, rfl⟩ := un_named h
  exact hF t r rfl (named_given ha.head h) ha.tail
 · intro m q he; injection he with he; cases he
theorem Rs.typ {ts : List Tok} {w : Nat} {P : Node → Prop} {F : Node → List Tok → Option (PR Node)} (ha : AllOk ts) (hF : ∀ t r, ts = t :: r → typedB t.text = true → AllOk r → Rs (F (leafN ⟨#[116, 121, 112, 101]⟩ t) r) w P) : Rs (Go.Proofs.YtdimhoilfopndaaGreatDoor.bnd (some (typF ts)) F) w P := by
 unfold typF
 split
 ·
  rename_i h
  obtain ⟨t, r, rfl⟩ := un_type h
  rw [isType_cons] at h
  simp only [Bool.and_eq_true] at h
  exact hF t r rfl h.2 ha.tail
 · intro m q he; injection he with he; cases he
theorem leaf_nameT (t : Tok) : leafN ⟨#[110, 97, 109, 101]⟩ t = ⟨⟨#[110, 97, 109, 101]⟩, t.text, 0, t.line, t.col, []⟩ := rfl
theorem leaf_typeT (t : Tok) : leafN ⟨#[116, 121, 112, 101]⟩ t = ⟨⟨#[116, 121, 112, 101]⟩, t.text, 0, t.line, t.col, []⟩ := rfl
theorem leaf_numT (t : Tok) : leafN ⟨#[110, 117, 109]⟩ t = ⟨⟨#[110, 117, 109]⟩, ⟨#[]⟩, t.num, t.line, t.col, []⟩ := rfl
def ShC (n : Node) : Prop := ∀ g, 3 * depthN n ≤ g + 1 → ∃ ys, coreS g n = some ys
def ShT (n : Node) : Prop := (n.kind = ⟨#[110, 97, 109, 101]⟩ ∨ n.kind = ⟨#[105, 110, 100, 101, 120]⟩) ∧ ∀ g, 3 * depthN n ≤ g + 2 → ∃ ys, targetS g n = some ys
theorem sq_ok {a b : Out} (h1 : ∃ ys, a = some ys) (h2 : ∃ ys, b = some ys) : ∃ ys, sq a b = some ys := by
 obtain ⟨x, rfl⟩ := h1
 obtain ⟨y, rfl⟩ := h2
 exact ⟨_, rfl⟩
theorem lit_ok (l : List ByteArray) : ∃ ys, (some l : Out) = some ys := ⟨l, rfl⟩
theorem ite_ok {c : Bool} {a : Out} (hc : c = true) (h : ∃ ys, a = some ys) : ∃ ys, (if c then a else none) = some ys := by rw [if_pos hc]; exact h
theorem ShC.expr {n : Node} (h : ShC n) (g : Nat) (w : Bool) (hg : 3 * depthN n ≤ g) : ∃ ys, exprS g n w = some ys := by
 have hp := depthN_pos n
 obtain ⟨g, rfl, hF⟩ := fuel_one (k := 0) (G := g) (by omega)
 simp only [exprS]
 split
 · exact sq_ok (lit_ok _) (sq_ok (h g hg) (lit_ok _))
 · exact h g hg
theorem ShT.core {n : Node} (h : ShT n) : ShC n := fun g hg => by
 have hp := depthN_pos n
 obtain ⟨g, rfl, hF⟩ := fuel_one (k := 0) (G := g) (by omega)
 simp only [coreS]
 rcases h.1 with hk | hk
 ·
  rw [hk, if_neg (by decide +kernel), if_neg (by decide +kernel), if_neg (by decide +kernel), if_neg (by decide +kernel), if_neg (by decide +kernel)]
  exact h.2 g hg
 ·
  rw [hk, if_neg (by decide +kernel), if_neg (by decide +kernel), if_neg (by decide +kernel), if_neg (by decide +kernel), if_neg (by decide +kernel)]
  exact h.2 g hg
theorem plain_mk (k t : ByteArray) (n l c : Int) (ks : List Node) (d : Int) (tt un : Bool) (h1 : (ks.length : Int) = d) (h2 : tt = true ∨ t = ⟨#[]⟩) (h3 : un = true ∨ n = 0) : plainB ⟨k, t, n, l, c, ks⟩ k d tt un = true := by
 unfold plainB
 rw [eqB_self, show (((ks.length : Nat) : Int) == d) = true from by simpa using h1]
 rcases h2 with rfl | rfl <;> rcases h3 with rfl | rfl <;> simp [eqB_self]
theorem plain_mk0 (k t : ByteArray) (n l c : Int) (tt un : Bool) (h2 : tt = true ∨ t = ⟨#[]⟩) (h3 : un = true ∨ n = 0) : plainB ⟨k, t, n, l, c, []⟩ k 0 tt un = true := plain_mk k t n l c [] 0 tt un rfl h2 h3
theorem plain_mk1 (k t : ByteArray) (n l c : Int) (a : Node) (tt un : Bool) (h2 : tt = true ∨ t = ⟨#[]⟩) (h3 : un = true ∨ n = 0) : plainB ⟨k, t, n, l, c, [a]⟩ k 1 tt un = true := plain_mk k t n l c [a] 1 tt un rfl h2 h3
theorem plain_mk2 (k t : ByteArray) (n l c : Int) (a b : Node) (tt un : Bool) (h2 : tt = true ∨ t = ⟨#[]⟩) (h3 : un = true ∨ n = 0) : plainB ⟨k, t, n, l, c, [a, b]⟩ k 2 tt un = true := plain_mk k t n l c [a, b] 2 tt un rfl h2 h3
theorem depth1 (k t : ByteArray) (n l c : Int) (a : Node) : depthN ⟨k, t, n, l, c, [a]⟩ = 1 + depthN a := by rw [depthN_eq]; simp only [depthL_cons, depthL_nil]; omega
theorem depth2 (k t : ByteArray) (n l c : Int) (a b : Node) : depthN ⟨k, t, n, l, c, [a, b]⟩ = 1 + max (depthN a) (depthN b) := by rw [depthN_eq]; simp only [depthL_cons, depthL_nil]; omega
theorem depth3 (k t : ByteArray) (n l c : Int) (a b e : Node) : depthN ⟨k, t, n, l, c, [a, b, e]⟩ = 1 + max (depthN a) (max (depthN b) (depthN e)) := by rw [depthN_eq]; simp only [depthL_cons, depthL_nil]; omega
theorem nums0 (k t : ByteArray) (n l c : Int) (h : 0 ≤ n ∧ n < 18446744073709551616) : numsOk ⟨k, t, n, l, c, []⟩ = true := by simp [numsOk, numsL, h.1, h.2]
theorem numsK (k t : ByteArray) (l c : Int) (ks : List Node) (h : numsL ks = true) : numsOk ⟨k, t, 0, l, c, ks⟩ = true := by simp [numsOk, h]
theorem numsL1 {a : Node} (h : numsOk a = true) : numsL [a] = true := by simp [numsL, h]
theorem numsL2 {a b : Node} (h : numsOk a = true) (h2 : numsOk b = true) : numsL [a, b] = true := by simp [numsL, h, h2]
theorem numsL3 {a b c : Node} (h : numsOk a = true) (h2 : numsOk b = true) (h3 : numsOk c = true) : numsL [a, b, c] = true := by simp [numsL, h, h2, h3]
theorem numsL_app {xs ys : List Node} (h : numsL xs = true) (h2 : numsL ys = true) : numsL (xs ++ ys) = true := by
 induction xs with
 | nil => exact h2
 | cons x xs ih =>
  simp only [numsL, Bool.and_eq_true] at h
  simp only [List.cons_append, numsL, Bool.and_eq_true]
  exact ⟨h.1, ih h.2⟩
theorem wt_mk (k t : ByteArray) (n l c : Int) (ks : List Node) : wtN ⟨k, t, n, l, c, ks⟩ = 30 + t.size + wtL ks := wtN_eq _
theorem unB_of {ts : List Tok} (h : (isF ts ⟨#[33]⟩ || (isF ts ⟨#[126]⟩ || isF ts ⟨#[45]⟩)) = true) : ∃ t r, ts = t :: r ∧ (eqB t.text ⟨#[33]⟩ || (eqB t.text ⟨#[126]⟩ || eqB t.text ⟨#[45]⟩)) = true := by
 simp only [Bool.or_eq_true] at h
 have hq : ∀ x : ByteArray, x.data.toList ≠ [] → isF ts x = true → ∃ t r, ts = t :: r ∧ eqB t.text x = true := fun x hx hi => by
  obtain ⟨t, r, rfl⟩ := un_is hx hi
  rw [is_cons] at hi
  simp only [Bool.and_eq_true] at hi
  exact ⟨t, r, rfl, hi.1⟩
 rcases h with h | h | h
 · obtain ⟨t, r, e, h⟩ := hq _ (by decide) h; exact ⟨t, r, e, by rw [h]; rfl⟩
 · obtain ⟨t, r, e, h⟩ := hq _ (by decide) h; exact ⟨t, r, e, by rw [h]; simp⟩
 · obtain ⟨t, r, e, h⟩ := hq _ (by decide) h; exact ⟨t, r, e, by rw [h]; simp⟩
theorem is_text {t : Tok} {r : List Tok} {x : ByteArray} (h : isF (t :: r) x = true) : t.text = x := by
 rw [is_cons] at h
 simp only [Bool.and_eq_true, beq_iff_eq] at h
 exact ba_ext h.1
theorem level_binding {i : Nat} {op : ByteArray} (hi : i < 10) (h : levelB i op = true) : bindingB op = true := by
 unfold bindingB
 have hne : eqB op ⟨#[]⟩ = false := by
  cases h9 : eqB op ⟨#[]⟩
  · rfl
  ·
   rw [eqB_eq h9] at h
   have : ∀ i, i < 10 → levelB i ⟨#[]⟩ = false := by decide +kernel
   rw [this i hi] at h; cases h
 rw [hne]
 simp only [Bool.not_false, Bool.true_and]
 exact List.any_eq_true.2 ⟨i, List.mem_range.2 hi, h⟩
def NameN (x : Node) : Prop := ∃ y l c, x = ⟨⟨#[110, 97, 109, 101]⟩, y, 0, l, c, []⟩ ∧ givenB y = true
theorem NameN.sh {x : Node} (h : NameN x) : ShT x := by
 obtain ⟨y, l, c, rfl, hy⟩ := h
 refine ⟨.inl rfl, fun g hg => ?_⟩
 rw [depthN_eq] at hg
 obtain ⟨g, rfl, hF⟩ := fuel_one (k := 0) (G := g) (by omega)
 simp only [targetS]
 rw [if_pos (eqB_self _), if_pos (plain_mk0 _ _ _ _ _ true false (.inl rfl) (.inr rfl))]
 unfold nameS
 rw [if_pos hy]; exact lit_ok _
structure ShF (G : Nat) : Prop where
 expr : ∀ d ts, AllOk ts → Rs (exprF G d ts) (wtT ts) ShC
 binary : ∀ d i ts, i ≤ 10 → AllOk ts → Rs (binaryF G d i ts) (wtT ts) ShC
 more : ∀ d i n ts, i < 10 → ShC n → numsOk n = true → AllOk ts → Rs (moreF G d i n ts) (wtN n + wtT ts) ShC
 operand : ∀ d ts, AllOk ts → Rs (operandF G d ts) (wtT ts) ShC
 index : ∀ x d ts, NameN x → AllOk ts → Rs (indexF G x d ts) (wtN x + wtT ts) ShT
theorem shF : ∀ G, ShF G := by
 intro G
 induction G with
 | zero => exact ⟨fun _ _ _ => (by simp only [exprF]; exact .none), fun _ _ _ _ _ => (by simp only [binaryF]; exact .none), fun _ _ _ _ _ _ _ _ => (by simp only [moreF]; exact .none), fun _ _ _ => (by simp only [operandF]; exact .none), fun _ _ _ _ _ => (by simp only [indexF]; exact .none)⟩
 | succ G ih =>
  refine ⟨fun d ts ha => ?_, fun d i ts hi ha => ?_, fun d i n ts hi hn hk ha => ?_, fun d ts ha => ?_, fun x d ts hx ha => ?_⟩
  ·
   simp only [exprF]
   split
   · exact .bad
   · exact ih.binary d 0 ts (by omega) ha
  ·
   simp only [binaryF]
   split
   · exact ih.operand d ts ha
   ·
    refine (ih.binary d (i + 1) ts (by omega) ha).bnd fun n r p1 p2 p3 p4 => ?_
    intro m q hm
    obtain ⟨q1, q2, q3, q4⟩ := ih.more d i n r (by omega) p1 p2 p4 m q hm
    exact ⟨q1, q2, by omega, q4⟩
  ·
   simp only [moreF]
   split
   ·
    rename_i hc
    simp only [Bool.and_eq_true, beq_iff_eq] at hc
    obtain ⟨t, r, rfl⟩ := un_kind (ts := ts) (by omega)
    rw [now_cons] at hc ⊢
    refine (ih.binary d (i + 1) r (by omega) ha.tail).bnd fun m q p1 p2 p3 p4 => ?_
    have hb := level_binding hi hc.2
    have hsh : ShC ⟨⟨#[98, 105, 110, 97, 114, 121]⟩, t.text, 0, t.line, t.col, [n, m]⟩ := by
     intro g hg
     rw [depth2] at hg
     obtain ⟨g, rfl, hF⟩ := fuel_one (k := 0) (G := g) (by omega)
     simp only [coreS]
     rw [if_neg (by decide +kernel), if_neg (by decide +kernel), if_neg (by decide +kernel), if_pos (by decide +kernel)]
     refine ite_ok (by rw [hb, plain_mk2 _ _ _ _ _ _ _ true false (.inl rfl) (.inr rfl)]; rfl) ?_
     exact sq_ok (hn.expr g false (by omega)) (sq_ok (lit_ok _) (p1.expr g false (by omega)))
    intro m2 q2 hm2
    obtain ⟨q1, q2, q3, q4⟩ := ih.more d i _ q hi hsh (numsK _ _ _ _ _ (numsL2 hk p2)) p4 m2 q2 hm2
    rw [wt_mk, wtL_cons, wtL_cons, wtL_nil] at q3
    exact ⟨q1, q2, by simp only [wtT]; omega, q4⟩
   · exact .ok hn hk (by omega) ha
  ·
   simp only [operandF]
   split
   · exact .bad
   split
   ·
    rename_i hc
    obtain ⟨t, r, rfl, hu⟩ := unB_of hc
    refine (ih.operand (d + 1) r ha.tail).bnd fun m q p1 p2 p3 p4 => .ok ?_ (numsK _ _ _ _ _ (numsL1 p2)) (by rw [wt_mk, wtL_cons, wtL_nil]; simp only [wtT, now_cons]; omega) p4
    intro g hg
    rw [depth1] at hg
    obtain ⟨g, rfl, hF⟩ := fuel_one (k := 0) (G := g) (by omega)
    simp only [coreS]
    rw [if_neg (by decide +kernel), if_neg (by decide +kernel), if_pos (by decide +kernel)]
    refine ite_ok (by rw [plain_mk1 _ _ _ _ _ _ true false (.inl rfl) (.inr rfl)]; exact hu) ?_
    exact sq_ok (lit_ok _) (p1.expr g false (by omega))
   split
   ·
    rename_i hc
    simp only [beq_iff_eq] at hc
    obtain ⟨t, r, rfl⟩ := un_kind (ts := ts) (by omega)
    rw [now_cons] at hc ⊢
    have hnr := num_range (ha.head.2 (by omega)) hc
    rw [leaf_numT]
    refine .ok ?_ (nums0 _ _ _ _ _ hnr) (by rw [wt_mk, wtL_nil]; simp only [wtT, List.tail_cons, show (⟨#[]⟩ : ByteArray).size = 0 from rfl]; omega) ha.tail
    intro g hg
    rw [depthN_eq] at hg
    obtain ⟨g, rfl, hF⟩ := fuel_one (k := 0) (G := g) (by omega)
    simp only [coreS]
    rw [if_pos (by decide +kernel), if_pos (plain_mk0 _ _ _ _ _ false true (.inr rfl) (.inl rfl))]
    exact lit_ok _
   split
   ·
    rename_i hc
    have : ∃ t r, ts = t :: r ∧ (t.text = ⟨#[116, 114, 117, 101]⟩ ∨ t.text = ⟨#[102, 97, 108, 115, 101]⟩) := by
     simp only [Bool.or_eq_true] at hc
     rcases hc with hc | hc
     · obtain ⟨t, r, rfl⟩ := un_is (by decide) hc; exact ⟨t, r, rfl, .inl (is_text hc)⟩
     · obtain ⟨t, r, rfl⟩ := un_is (by decide) hc; exact ⟨t, r, rfl, .inr (is_text hc)⟩
    obtain ⟨t, r, rfl, ht⟩ := this
    have hl : leafN t.text t = ⟨t.text, ⟨#[]⟩, 0, t.line, t.col, []⟩ := by rcases ht with ht | ht <;> rw [ht] <;> rfl
    rw [now_cons, hl]
    refine .ok ?_ (nums0 _ _ _ _ _ (by omega)) (by rw [wt_mk, wtL_nil]; simp only [wtT, List.tail_cons, show (⟨#[]⟩ : ByteArray).size = 0 from rfl]; omega) ha.tail
    intro g hg
    rw [depthN_eq] at hg
    obtain ⟨g, rfl, hF⟩ := fuel_one (k := 0) (G := g) (by omega)
    simp only [coreS]
    rw [if_neg (by rcases ht with ht | ht <;> rw [ht] <;> decide +kernel), if_pos (by rcases ht with ht | ht <;> rw [ht] <;> decide +kernel), if_pos (plain_mk0 _ _ _ _ _ false false (.inr rfl) (.inr rfl))]
    exact lit_ok _
   split
   ·
    rename_i hc
    obtain ⟨t, r, rfl⟩ := un_named hc
    have hg := named_given ha.head hc
    rw [now_cons, List.tail_cons, leaf_nameT]
    intro m q hm
    obtain ⟨q1, q2, q3, q4⟩ := ih.index _ d r ⟨_, _, _, rfl, hg⟩ ha.tail m q hm
    rw [wt_mk, wtL_nil] at q3
    exact ⟨q1.core, q2, by simp only [wtT]; omega, q4⟩
   split
   ·
    rename_i hc
    obtain ⟨t, r, rfl⟩ := un_is (by decide) hc
    rw [List.tail_cons, now_cons]
    by_cases hc2 : isTypeF r = true
    ·
     rw [if_pos hc2]
     obtain ⟨t2, r2, rfl⟩ := un_type hc2
     simp only [List.tail_cons, now_cons]
     refine .need (by decide) ha.tail.tail fun t3 r3 e ha3 => ?_
     rw [isType_cons] at hc2
     simp only [Bool.and_eq_true] at hc2
     refine (ih.operand (d + 1) r3 ha3).bnd fun m q p1 p2 p3 p4 => .ok ?_ (numsK _ _ _ _ _ (numsL1 p2)) (by rw [wt_mk, wtL_cons, wtL_nil, e]; simp only [wtT]; omega) p4
     intro g hg
     rw [depth1] at hg
     obtain ⟨g, rfl, hF⟩ := fuel_one (k := 0) (G := g) (by omega)
     simp only [coreS]
     rw [if_neg (by decide +kernel), if_neg (by decide +kernel), if_neg (by decide +kernel), if_neg (by decide +kernel), if_pos (by decide +kernel)]
     refine ite_ok (by rw [plain_mk1 _ _ _ _ _ _ true false (.inl rfl) (.inr rfl), hc2.2]; rfl) ?_
     exact sq_ok (lit_ok _) (p1.expr g false (by omega))
    ·
     rw [if_neg hc2]
     refine (ih.expr (d + 1) r ha.tail).bnd fun m q p1 p2 p3 p4 => .need (by decide) p4 fun t3 r3 e ha3 => .ok p1 p2 ?_ ha3
     rw [e] at p3
     simp only [wtT] at p3 ⊢; omega
   · exact .bad
  ·
   simp only [indexF]
   split
   ·
    rename_i hc
    obtain ⟨t, r, rfl⟩ := un_is (by decide) hc
    rw [List.tail_cons]
    obtain ⟨y, l, c, rfl, hy⟩ := hx
    refine (ih.expr (d + 1) r ha.tail).bnd fun m q p1 p2 p3 p4 => .need (by decide) p4 fun t3 r3 e ha3 => .ok ⟨.inr rfl, ?_⟩ (numsK _ _ _ _ _ (numsL1 p2)) ?_ ha3
    ·
     intro g hg
     rw [depth1] at hg
     obtain ⟨g, rfl, hF⟩ := fuel_one (k := 0) (G := g) (by omega)
     simp only [targetS]
     rw [if_neg (by decide +kernel), if_pos (plain_mk1 _ _ _ _ _ _ true false (.inl rfl) (.inr rfl))]
     refine sq_ok ?_ (sq_ok (lit_ok _) (sq_ok (p1.expr g true (by omega)) (lit_ok _)))
     unfold nameS
     rw [if_pos hy]; exact lit_ok _
    ·
     rw [e] at p3
     rw [wt_mk, wt_mk, wtL_cons, wtL_nil]
     simp only [wtT] at p3 ⊢; omega
   ·
    have hx2 := hx
    obtain ⟨y, l, c, rfl, hy⟩ := hx
    exact .ok hx2.sh (nums0 _ _ _ _ _ (by omega)) (by omega) ha
end Go.Proofs.YtdimhoilfopndaaGreatDoor
end
section
namespace Go.Proofs.YtdimhoilfopndaaGreatDoor
open Go.RowKit
def ShK (n : Node) : Prop := n.kind = ⟨#[99, 97, 108, 108]⟩ ∧ ∀ g, 3 * depthN n ≤ g + 2 → ∃ ys, callS g n = some ys
def ShSt (n : Node) : Prop := ∀ g, 3 * depthN n ≤ g + 1 → ∃ ys, stmtS g n = some ys
def ShB (n : Node) : Prop := ∀ g, 3 * depthN n ≤ g + 2 → ∃ ys, blockS g n = some ys
def ShI (n : Node) : Prop := ∀ g, 3 * depthN n ≤ g + 5 → ∃ ys, itemS g n = some ys
def ShP (n : Node) : Prop := ∃ y l c ty l2 c2, n = ⟨⟨#[112, 97, 114, 97, 109]⟩, y, 0, l, c, [⟨⟨#[116, 121, 112, 101]⟩, ty, 0, l2, c2, []⟩]⟩ ∧ typedB ty = true ∧ givenB y = true
theorem each_ok {f : Node → Out} : ∀ (ks : List Node), (∀ k ∈ ks, ∃ ys, f k = some ys) → ∃ ys, each f ks = some ys
 | [], _ => ⟨[], by simp only [each]⟩
 | k :: ks, h => by
  simp only [each]
  exact sq_ok (h k (by simp)) (each_ok ks fun x hx => h x (List.mem_cons_of_mem _ hx))
theorem commas_ok {f : Node → Out} : ∀ (b : Bool) (ks : List Node), (∀ k ∈ ks, ∃ ys, f k = some ys) → ∃ ys, commas f b ks = some ys
 | _, [], _ => ⟨[], by simp only [commas]⟩
 | b, k :: ks, h => by
  simp only [commas]
  refine sq_ok (sq_ok ?_ (h k (by simp))) (commas_ok false ks fun x hx => h x (List.mem_cons_of_mem _ hx))
  split
  · exact lit_ok _
  · exact lit_ok _
theorem name_okS {k y : ByteArray} {l c n : Int} {ks : List Node} (hy : givenB y = true) : ∃ ys, nameS ⟨k, y, n, l, c, ks⟩ = some ys := by
 unfold nameS
 rw [if_pos hy]; exact lit_ok _
theorem typ_okS {y : ByteArray} {l c : Int} {v : Bool} (hy : typedB y = true ∨ (v = true ∧ y = ⟨#[118, 111, 105, 100]⟩)) : ∃ ys, typS ⟨⟨#[116, 121, 112, 101]⟩, y, 0, l, c, []⟩ v = some ys := by
 unfold typS
 rw [plain_mk0 _ _ _ _ _ true false (.inl rfl) (.inr rfl), if_pos]
 · exact lit_ok _
 ·
  rcases hy with hy | ⟨h1, h2⟩
  · rw [hy]; rfl
  · rw [h1, h2]; dsimp only; decide +kernel
theorem sh_local {y ty : ByteArray} {l c l2 c2 : Int} (h1 : typedB ty = true) (h2 : givenB y = true) : ShSt ⟨⟨#[108, 111, 99, 97, 108]⟩, y, 0, l, c, [⟨⟨#[116, 121, 112, 101]⟩, ty, 0, l2, c2, []⟩]⟩ := by
 intro g hg
 rw [depthN_eq] at hg
 obtain ⟨g, rfl, hF⟩ := fuel_one (k := 0) (G := g) (by omega)
 simp only [stmtS]
 rw [if_neg (by decide +kernel), if_pos (by decide +kernel), if_pos (plain_mk1 _ _ _ _ _ _ true false (.inl rfl) (.inr rfl))]
 exact sq_ok (sq_ok (typ_okS (.inl h1)) (name_okS h2)) (lit_ok _)
theorem ShK.stmt {n : Node} (h : ShK n) : ShSt n := by
 intro g hg
 have hp := depthN_pos n
 obtain ⟨g, rfl, hF⟩ := fuel_one (k := 0) (G := g) (by omega)
 simp only [stmtS]
 rw [h.1, if_neg (by decide +kernel), if_neg (by decide +kernel), if_neg (by decide +kernel), if_neg (by decide +kernel), if_neg (by decide +kernel), if_neg (by decide +kernel)]
 exact sq_ok (h.2 g hg) (lit_ok _)
theorem sh_assign {l c : Int} {x u : Node} (hx : ShT x) (hu : ShC u) : ShSt ⟨⟨#[97, 115, 115, 105, 103, 110]⟩, ⟨#[]⟩, 0, l, c, [x, u]⟩ := by
 intro g hg
 rw [depth2] at hg
 obtain ⟨g, rfl, hF⟩ := fuel_one (k := 0) (G := g) (by omega)
 simp only [stmtS]
 rw [if_neg (by decide +kernel), if_neg (by decide +kernel), if_pos (by decide +kernel), if_pos (plain_mk2 _ _ _ _ _ _ _ false false (.inr rfl) (.inr rfl)), if_neg (by decide +kernel)]
 exact sq_ok (sq_ok (hx.2 g (by omega)) (sq_ok (lit_ok _) (hu.expr g true (by omega)))) (lit_ok _)
theorem sh_result {l c : Int} {x u : Node} (hx : ShT x) (hu : ShK u) : ShSt ⟨⟨#[114, 101, 115, 117, 108, 116]⟩, ⟨#[]⟩, 0, l, c, [x, u]⟩ := by
 intro g hg
 rw [depth2] at hg
 obtain ⟨g, rfl, hF⟩ := fuel_one (k := 0) (G := g) (by omega)
 simp only [stmtS]
 rw [if_neg (by decide +kernel), if_neg (by decide +kernel), if_pos (by decide +kernel), if_pos (plain_mk2 _ _ _ _ _ _ _ false false (.inr rfl) (.inr rfl)), if_pos (by decide +kernel)]
 exact sq_ok (sq_ok (hx.2 g (by omega)) (sq_ok (lit_ok _) (hu.2 g (by omega)))) (lit_ok _)
theorem sh_nondet {l c : Int} {x : Node} (hx : ShT x) : ShSt ⟨⟨#[110, 111, 110, 100, 101, 116]⟩, ⟨#[]⟩, 0, l, c, [x]⟩ := by
 intro g hg
 rw [depth1] at hg
 obtain ⟨g, rfl, hF⟩ := fuel_one (k := 0) (G := g) (by omega)
 simp only [stmtS]
 rw [if_neg (by decide +kernel), if_neg (by decide +kernel), if_neg (by decide +kernel), if_pos (by decide +kernel), if_pos (plain_mk1 _ _ _ _ _ _ false false (.inr rfl) (.inr rfl))]
 exact sq_ok (sq_ok (hx.2 g (by omega)) (lit_ok _)) (lit_ok _)
theorem sh_return0 {l c : Int} : ShSt ⟨⟨#[114, 101, 116, 117, 114, 110]⟩, ⟨#[]⟩, 0, l, c, []⟩ := by
 intro g hg
 rw [depthN_eq] at hg
 obtain ⟨g, rfl, hF⟩ := fuel_one (k := 0) (G := g) (by omega)
 simp only [stmtS]
 rw [if_neg (by decide +kernel), if_neg (by decide +kernel), if_neg (by decide +kernel), if_neg (by decide +kernel), if_pos (by decide +kernel)]
 refine sq_ok (ite_ok ?_ (sq_ok (lit_ok _) (each_ok _ fun k hk => by cases hk))) (lit_ok _)
 rw [show ((([] : List Node).length : Nat) : Int) = 0 from rfl, plain_mk0 _ _ _ _ _ false false (.inr rfl) (.inr rfl)]; rfl
theorem sh_return1 {l c : Int} {u : Node} (hu : ShC u) : ShSt ⟨⟨#[114, 101, 116, 117, 114, 110]⟩, ⟨#[]⟩, 0, l, c, [u]⟩ := by
 intro g hg
 rw [depth1] at hg
 obtain ⟨g, rfl, hF⟩ := fuel_one (k := 0) (G := g) (by omega)
 simp only [stmtS]
 rw [if_neg (by decide +kernel), if_neg (by decide +kernel), if_neg (by decide +kernel), if_neg (by decide +kernel), if_pos (by decide +kernel)]
 refine sq_ok (ite_ok ?_ (sq_ok (lit_ok _) (each_ok _ fun k hk => by rw [List.mem_singleton.1 hk]; exact hu.expr g true (by omega)))) (lit_ok _)
 rw [show ((([u] : List Node).length : Nat) : Int) = 1 from rfl, plain_mk1 _ _ _ _ _ _ false false (.inr rfl) (.inr rfl)]; rfl
theorem sh_assert {k : ByteArray} {l c : Int} {u : Node} (hk : k = ⟨#[97, 115, 115, 101, 114, 116]⟩ ∨ k = ⟨#[97, 115, 115, 117, 109, 101]⟩) (hu : ShC u) : ShSt ⟨k, ⟨#[]⟩, 0, l, c, [u]⟩ := by
 intro g hg
 rw [depth1] at hg
 obtain ⟨g, rfl, hF⟩ := fuel_one (k := 0) (G := g) (by omega)
 have hp := plain_mk1 k ⟨#[]⟩ 0 l c u false false (.inr rfl) (.inr rfl)
 simp only [stmtS]
 rw [hp]
 rcases hk with rfl | rfl
 ·
  rw [if_neg (by decide +kernel), if_neg (by decide +kernel), if_neg (by decide +kernel), if_neg (by decide +kernel), if_neg (by decide +kernel), if_pos (by decide +kernel), if_pos rfl]
  exact sq_ok (sq_ok (lit_ok _) (sq_ok (hu.expr g true (by omega)) (lit_ok _))) (lit_ok _)
 ·
  rw [if_neg (by decide +kernel), if_neg (by decide +kernel), if_neg (by decide +kernel), if_neg (by decide +kernel), if_neg (by decide +kernel), if_pos (by decide +kernel), if_pos rfl]
  exact sq_ok (sq_ok (lit_ok _) (sq_ok (hu.expr g true (by omega)) (lit_ok _))) (lit_ok _)
theorem sh_branch2 {k : ByteArray} {l c : Int} {a b : Node} (hk : k = ⟨#[105, 102]⟩ ∨ k = ⟨#[119, 104, 105, 108, 101]⟩) (ha : ShC a) (hb : ShB b) : ShSt ⟨k, ⟨#[]⟩, 0, l, c, [a, b]⟩ := by
 intro g hg
 rw [depth2] at hg
 obtain ⟨g, rfl, hF⟩ := fuel_one (k := 0) (G := g) (by omega)
 obtain ⟨g, rfl, hF⟩ := fuel_one (k := 0) (G := g) (by have := depthN_pos a; omega)
 have hp := plain_mk2 k ⟨#[]⟩ 0 l c a b false false (.inr rfl) (.inr rfl)
 simp only [stmtS]
 rw [if_pos (by rcases hk with rfl | rfl <;> decide +kernel)]
 simp only [branchS]
 rw [show ((([a, b] : List Node).length : Nat) : Int) = 2 from rfl, hp]
 refine ite_ok (by rfl) (sq_ok (lit_ok _) (sq_ok (ha.expr g true (by omega)) (sq_ok (lit_ok _) (sq_ok (hb g (by show 3 * depthN b ≤ _; omega)) ?_))))
 rw [if_neg (by show ¬ (2 == 3) = true; decide)]; exact lit_ok _
theorem sh_branch3 {l c : Int} {a b e : Node} (ha : ShC a) (hb : ShB b) (he : ShB e) : ShSt ⟨⟨#[105, 102]⟩, ⟨#[]⟩, 0, l, c, [a, b, e]⟩ := by
 intro g hg
 rw [depth3] at hg
 obtain ⟨g, rfl, hF⟩ := fuel_one (k := 0) (G := g) (by omega)
 obtain ⟨g, rfl, hF⟩ := fuel_one (k := 0) (G := g) (by have := depthN_pos a; omega)
 have hp := plain_mk ⟨#[105, 102]⟩ ⟨#[]⟩ 0 l c [a, b, e] 3 false false rfl (.inr rfl) (.inr rfl)
 simp only [stmtS]
 rw [if_pos (by decide +kernel)]
 simp only [branchS]
 rw [show ((([a, b, e] : List Node).length : Nat) : Int) = 3 from rfl, hp]
 refine ite_ok (by rw [eqB_self]; rfl) (sq_ok (lit_ok _) (sq_ok (ha.expr g true (by omega)) (sq_ok (lit_ok _) (sq_ok (hb g (by show 3 * depthN b ≤ _; omega)) ?_))))
 rw [if_pos (by show (3 == 3) = true; decide)]; exact sq_ok (lit_ok _) (he g (by show 3 * depthN e ≤ _; omega))
theorem sh_block {l c : Int} {ks : List Node} (h : ∀ k ∈ ks, ShSt k) : ShB ⟨⟨#[98, 108, 111, 99, 107]⟩, ⟨#[]⟩, 0, l, c, ks⟩ := by
 intro g hg
 have hd : ∀ k ∈ ks, depthN k + 1 ≤ depthN ⟨⟨#[98, 108, 111, 99, 107]⟩, ⟨#[]⟩, 0, l, c, ks⟩ := fun k hk => kids_depth (n := ⟨⟨#[98, 108, 111, 99, 107]⟩, ⟨#[]⟩, 0, l, c, ks⟩) k hk
 have hp := depthN_pos ⟨⟨#[98, 108, 111, 99, 107]⟩, ⟨#[]⟩, 0, l, c, ks⟩
 obtain ⟨g, rfl, hF⟩ := fuel_one (k := 0) (G := g) (by omega)
 simp only [blockS]
 rw [if_pos (plain_mk _ _ _ _ _ ks _ false false rfl (.inr rfl) (.inr rfl))]
 exact sq_ok (lit_ok _) (sq_ok (each_ok _ fun k hk => h k hk g (by have := hd k hk; omega)) (lit_ok _))
theorem sh_call {y : ByteArray} {l c : Int} {ks : List Node} (hy : givenB y = true) (h : ∀ k ∈ ks, ShC k) : ShK ⟨⟨#[99, 97, 108, 108]⟩, y, 0, l, c, ks⟩ := by
 refine ⟨rfl, fun g hg => ?_⟩
 have hd : ∀ k ∈ ks, depthN k + 1 ≤ depthN ⟨⟨#[99, 97, 108, 108]⟩, y, 0, l, c, ks⟩ := fun k hk => kids_depth (n := ⟨⟨#[99, 97, 108, 108]⟩, y, 0, l, c, ks⟩) k hk
 unfold callS
 rw [if_pos (plain_mk _ _ _ _ _ ks _ true false rfl (.inl rfl) (.inr rfl))]
 exact sq_ok (name_okS hy) (sq_ok (lit_ok _) (sq_ok (commas_ok _ _ fun k hk => (h k hk).expr g true (by have := hd k hk; omega)) (lit_ok _)))
theorem RsL.bndL {x : Option (PR Node)} {w w' : Nat} {P P' : Node → Prop} {F : Node → List Tok → Option (PR (List Node))} (h : Rs x w P) (hF : ∀ n r, P n → numsOk n = true → wtN n + wtT r ≤ w → AllOk r → RsL (F n r) w' P') : RsL (Go.Proofs.YtdimhoilfopndaaGreatDoor.bnd x F) w' P' := by
 intro m q he
 obtain ⟨l, k, e, _, h2⟩ | ⟨a, ts, h1, h2⟩ := bnd_some he
 · cases h2
 ·
  obtain ⟨p1, p2, p3, p4⟩ := h a ts h1
  exact hF a ts p1 p2 p3 p4 m q h2
theorem RsL.ok {n : List Node} {r : List Tok} {w : Nat} {P : Node → Prop} (h1 : ∀ k ∈ n, P k) (h2 : numsL n = true) (h3 : wtL n + wtT r ≤ w) (h4 : AllOk r) : RsL (some (.ok n r)) w P := fun m q h => by
 injection h with h; injection h with e1 e2
 subst e1 e2
 exact ⟨h1, h2, h3, h4⟩
theorem RsL.bad {ts : List Tok} {k : Int} {w : Nat} {P : Node → Prop} : RsL (some (badAt ts k)) w P := fun m q h => by
 injection h with h; cases h
theorem RsL.none {w : Nat} {P : Node → Prop} : RsL none w P := fun m q h => by cases h
theorem snoc_all {P : Node → Prop} {l : List Node} {n : Node} (h : ∀ k ∈ l, P k) (hn : P n) : ∀ k ∈ l ++ [n], P k := fun k hk => by
 rcases List.mem_append.1 hk with hk | hk
 · exact h k hk
 · rw [List.mem_singleton.1 hk]; exact hn
theorem is_tail {ts : List Tok} {x : ByteArray} (hx : x.data.toList ≠ []) (h : isF ts x = true) (ha : AllOk ts) : AllOk ts.tail ∧ wtT ts.tail + 30 ≤ wtT ts := by
 obtain ⟨t, r, rfl⟩ := un_is hx h
 exact ⟨ha.tail, by simp only [wtT, List.tail_cons]; omega⟩
theorem listF_rs {one : List Tok → Option (PR Node)} {P : Node → Prop} (h1 : ∀ r, AllOk r → Rs (one r) (wtT r) P) : ∀ G l ts, (∀ k ∈ l, P k) → numsL l = true → AllOk ts → RsL (listF one G l ts) (wtL l + wtT ts) P := by
 intro G
 induction G with
 | zero => intro l ts _ _ _; simp only [listF]; exact .none
 | succ G ih =>
  intro l ts hl hn ha
  simp only [listF]
  refine RsL.bndL (h1 ts ha) fun n r p1 p2 p3 p4 => ?_
  have hl2 := snoc_all hl p1
  have hn2 := numsL_app hn (numsL1 p2)
  have hw2 : wtL (l ++ [n]) = wtL l + wtN n := by rw [wtL_app, wtL_cons, wtL_nil, Nat.add_zero]
  split
  ·
   rename_i hc
   obtain ⟨a1, a2⟩ := is_tail (by decide) hc p4
   exact .ok hl2 hn2 (by omega) a1
  split
  ·
   rename_i hc
   obtain ⟨a1, a2⟩ := is_tail (by decide) hc p4
   intro m q hm
   obtain ⟨q1, q2, q3, q4⟩ := ih _ _ hl2 hn2 a1 m q hm
   exact ⟨q1, q2, by omega, q4⟩
  · exact .bad
theorem listsF_rs {one : List Tok → Option (PR Node)} {P : Node → Prop} (h1 : ∀ r, AllOk r → Rs (one r) (wtT r) P) (G : Nat) (ts : List Tok) (ha : AllOk ts) : RsL (listsF one G ts) (wtT ts) P := by
 unfold listsF
 split
 ·
  rename_i hc
  obtain ⟨a1, a2⟩ := is_tail (by decide) hc ha
  exact .ok (fun k hk => by cases hk) rfl (by rw [wtL_nil]; omega) a1
 ·
  intro m q hm
  obtain ⟨q1, q2, q3, q4⟩ := listF_rs h1 G [] ts (fun k hk => by cases hk) rfl ha m q hm
  rw [wtL_nil] at q3
  exact ⟨q1, q2, by omega, q4⟩
theorem paramF_rs (ts : List Tok) (ha : AllOk ts) : Rs (paramF ts) (wtT ts) ShP := by
 unfold paramF
 refine .typ ha fun t r e h1 ha2 => .name ha2 fun t2 r2 e2 h2 ha3 => .ok ⟨_, _, _, _, _, _, rfl, h1, h2⟩ ?_ ?_ ha3
 · exact numsK _ _ _ _ _ (numsL1 (nums0 _ _ _ _ _ (by omega)))
 ·
  rw [e, e2, leaf_nameT, leaf_typeT, wt_mk, wtL_cons, wtL_nil, wt_mk, wtL_nil]
  simp only [wtT]; omega
theorem semiF_rs {n : Node} {ts : List Tok} {w : Nat} {P : Node → Prop} (h1 : P n) (h2 : numsOk n = true) (h3 : wtN n + wtT ts ≤ w) (h4 : AllOk ts) : Rs (semiF n ts) w P := by
 unfold semiF
 refine .need (by decide) h4 fun t r e ha => .ok h1 h2 ?_ ha
 rw [e] at h3
 simp only [wtT] at h3; omega
theorem condF_rs (g : Nat) (d : Int) (ts : List Tok) (ha : AllOk ts) : Rs (condF g d ts) (wtT ts) ShC := by
 unfold condF
 refine .need (by decide) ha fun t r e ha2 => ((shF g).expr d r ha2).bnd fun n r2 p1 p2 p3 p4 => .need (by decide) p4 fun t3 r3 e3 ha3 => .ok p1 p2 ?_ ha3
 rw [e]
 rw [e3] at p3
 simp only [wtT] at p3 ⊢; omega
theorem callF_rs (g : Nat) (x : Node) (d : Int) (ts : List Tok) (hx : NameN x) (ha : AllOk ts) : Rs (callF g x d ts) (wtN x + wtT ts) ShK := by
 obtain ⟨y, l, c, rfl, hy⟩ := hx
 unfold callF
 refine .need (by decide) ha fun t r e ha2 => (listsF_rs (fun r hr => (shF g).expr (d + 1) r hr) g r ha2).bnd fun ns r2 p1 p2 p3 p4 => .ok (sh_call hy p1) (numsK _ _ _ _ _ p2) ?_ p4
 rw [wt_mk, wt_mk, wtL_nil, e]
 simp only [wtT]; omega
theorem simpleF_rs (g : Nat) (d : Int) (ts : List Tok) (ha : AllOk ts) : Rs (simpleF g d ts) (wtT ts) ShSt := by
 unfold simpleF
 refine .name ha fun t r e hy ha2 => ?_
 have hw : wtT ts = wtN (leafN ⟨#[110, 97, 109, 101]⟩ t) + wtT r := by rw [e, leaf_nameT, wt_mk, wtL_nil]; simp only [wtT]; omega
 have hx : NameN (leafN ⟨#[110, 97, 109, 101]⟩ t) := ⟨_, _, _, leaf_nameT t, hy⟩
 split
 · refine (callF_rs g _ d r hx ha2).bnd fun n r2 p1 p2 p3 p4 => semiF_rs p1.stmt p2 (by omega) p4
 ·
  refine ((shF g).index _ d r hx ha2).bnd fun n r2 p1 p2 p3 p4 => .need (by decide) p4 fun t3 r3 e3 ha3 => ?_
  have hw2 : wtT r2 ≥ 30 + wtT r3 := by rw [e3]; simp only [wtT]; omega
  split
  ·
   rename_i hc
   obtain ⟨a1, a2⟩ := is_tail (by decide) hc ha3
   refine .need (by decide) a1 fun t4 r4 e4 ha4 => .need (by decide) ha4 fun t5 r5 e5 ha5 => semiF_rs (sh_nondet p1) (numsK _ _ _ _ _ (numsL1 p2)) ?_ ha5
   rw [e4, e5] at a2
   rw [wt_mk, wtL_cons, wtL_nil, show (⟨#[]⟩ : ByteArray).size = 0 from rfl]
   simp only [wtT] at a2; omega
  split
  ·
   refine .name ha3 fun t4 r4 e4 hy4 ha4 => ?_
   have hw4 : wtT r3 = wtN (leafN ⟨#[110, 97, 109, 101]⟩ t4) + wtT r4 := by rw [e4, leaf_nameT, wt_mk, wtL_nil]; simp only [wtT]; omega
   refine (callF_rs g _ d r4 ⟨_, _, _, leaf_nameT t4, hy4⟩ ha4).bnd fun u r5 q1 q2 q3 q4 => semiF_rs (sh_result p1 q1) (numsK _ _ _ _ _ (numsL2 p2 q2)) ?_ q4
   rw [wt_mk, wtL_cons, wtL_cons, wtL_nil, show (⟨#[]⟩ : ByteArray).size = 0 from rfl]; omega
  ·
   refine ((shF g).expr d r3 ha3).bnd fun u r5 q1 q2 q3 q4 => semiF_rs (sh_assign p1 q1) (numsK _ _ _ _ _ (numsL2 p2 q2)) ?_ q4
   rw [wt_mk, wtL_cons, wtL_cons, wtL_nil, show (⟨#[]⟩ : ByteArray).size = 0 from rfl]; omega
structure ShL (G : Nat) : Prop where
 block : ∀ d ts, AllOk ts → Rs (blockF G d ts) (wtT ts) ShB
 stmts : ∀ d l k ks ts, (∀ q ∈ ks, ShSt q) → numsL ks = true → AllOk ts → Rs (stmtsF G d l k ks ts) (wtL ks + wtT ts + 30) ShB
 stmt : ∀ d ts, AllOk ts → Rs (stmtF G d ts) (wtT ts) ShSt
theorem shL : ∀ G, ShL G := by
 intro G
 induction G with
 | zero => exact ⟨fun _ _ _ => (by simp only [blockF]; exact .none), fun _ _ _ _ _ _ _ _ => (by simp only [stmtsF]; exact .none), fun _ _ _ => (by simp only [stmtF]; exact .none)⟩
 | succ G ih =>
  refine ⟨fun d ts ha => ?_, fun d l k ks ts hk hn ha => ?_, fun d ts ha => ?_⟩
  ·
   simp only [blockF]
   split
   · exact .bad
   ·
    refine .need (by decide) ha fun t r e ha2 => ?_
    intro m q hm
    obtain ⟨q1, q2, q3, q4⟩ := ih.stmts d t.line t.col [] r (fun k hk => by cases hk) rfl ha2 m q hm
    rw [wtL_nil] at q3
    exact ⟨q1, q2, by rw [e]; simp only [wtT]; omega, q4⟩
  ·
   simp only [stmtsF]
   split
   ·
    rename_i hc
    obtain ⟨a1, a2⟩ := is_tail (by decide) hc ha
    exact .ok (sh_block hk) (numsK _ _ _ _ _ hn) (by rw [wt_mk, show (⟨#[]⟩ : ByteArray).size = 0 from rfl]; omega) a1
   ·
    refine (ih.stmt d ts ha).bnd fun n r p1 p2 p3 p4 => ?_
    intro m q hm
    obtain ⟨q1, q2, q3, q4⟩ := ih.stmts d l k _ r (snoc_all hk p1) (numsL_app hn (numsL1 p2)) p4 m q hm
    rw [wtL_app, wtL_cons, wtL_nil] at q3
    exact ⟨q1, q2, by omega, q4⟩
  ·
   simp only [stmtF]
   split
   ·
    refine (paramF_rs ts ha).bnd fun n r p1 p2 p3 p4 => ?_
    obtain ⟨y, l, c, ty, l2, c2, rfl, h1, h2⟩ := p1
    refine semiF_rs (sh_local h1 h2) (numsK _ _ _ _ _ (numsL1 (nums0 _ _ _ _ _ (by omega)))) ?_ p4
    rw [wt_mk] at p3
    unfold withKind
    rw [wt_mk]; exact p3
   split
   · exact simpleF_rs G d ts ha
   split
   · exact .bad
   split
   ·
    rename_i hc
    have : ∃ t r, ts = t :: r ∧ (t.text = ⟨#[105, 102]⟩ ∨ t.text = ⟨#[119, 104, 105, 108, 101]⟩) := by
     simp only [Bool.or_eq_true] at hc
     rcases hc with hc | hc
     · obtain ⟨t, r, rfl⟩ := un_is (by decide) hc; exact ⟨t, r, rfl, .inl (is_text hc)⟩
     · obtain ⟨t, r, rfl⟩ := un_is (by decide) hc; exact ⟨t, r, rfl, .inr (is_text hc)⟩
    obtain ⟨t, r, rfl, ht⟩ := this
    rw [now_cons, List.tail_cons]
    refine (condF_rs G d r ha.tail).bnd fun a r2 p1 p2 p3 p4 => (ih.block (d + 1) r2 p4).bnd fun b r3 q1 q2 q3 q4 => ?_
    split
    ·
     rename_i hc2
     simp only [Bool.and_eq_true, beq_iff_eq] at hc2
     have hti : t.text = ⟨#[105, 102]⟩ := ba_ext hc2.1
     obtain ⟨a1, a2⟩ := is_tail (by decide) hc2.2 q4
     refine (ih.block (d + 1) _ a1).bnd fun e r4 s1 s2 s3 s4 => ?_
     rw [hti]
     refine .ok (sh_branch3 p1 q1 s1) (numsK _ _ _ _ _ (numsL3 p2 q2 s2)) ?_ s4
     rw [wt_mk, wtL_cons, wtL_cons, wtL_cons, wtL_nil, show (⟨#[]⟩ : ByteArray).size = 0 from rfl]
     simp only [wtT]; omega
    ·
     refine .ok (sh_branch2 ht p1 q1) (numsK _ _ _ _ _ (numsL2 p2 q2)) ?_ q4
     rw [wt_mk, wtL_cons, wtL_cons, wtL_nil, show (⟨#[]⟩ : ByteArray).size = 0 from rfl]
     simp only [wtT]; omega
   split
   ·
    rename_i hc
    obtain ⟨t, r, rfl⟩ := un_is (by decide) hc
    rw [now_cons, List.tail_cons, is_text hc]
    by_cases hc2 : isF r ⟨#[59]⟩ = true
    ·
     rw [if_pos hc2]
     refine semiF_rs sh_return0 (nums0 _ _ _ _ _ (by omega)) ?_ ha.tail
     rw [wt_mk, wtL_nil, show (⟨#[]⟩ : ByteArray).size = 0 from rfl]
     simp only [wtT]; omega
    ·
     rw [if_neg hc2]
     refine ((shF G).expr d r ha.tail).bnd fun a r2 p1 p2 p3 p4 => semiF_rs (sh_return1 p1) (numsK _ _ _ _ _ (numsL1 p2)) ?_ p4
     rw [wt_mk, wtL_cons, wtL_nil, show (⟨#[]⟩ : ByteArray).size = 0 from rfl]
     simp only [wtT]; omega
   split
   ·
    rename_i hc
    have : ∃ t r, ts = t :: r ∧ (t.text = ⟨#[97, 115, 115, 101, 114, 116]⟩ ∨ t.text = ⟨#[97, 115, 115, 117, 109, 101]⟩) := by
     simp only [Bool.or_eq_true] at hc
     rcases hc with hc | hc
     · obtain ⟨t, r, rfl⟩ := un_is (by decide) hc; exact ⟨t, r, rfl, .inl (is_text hc)⟩
     · obtain ⟨t, r, rfl⟩ := un_is (by decide) hc; exact ⟨t, r, rfl, .inr (is_text hc)⟩
    obtain ⟨t, r, rfl, ht⟩ := this
    rw [now_cons, List.tail_cons]
    refine (condF_rs G d r ha.tail).bnd fun a r2 p1 p2 p3 p4 => semiF_rs (sh_assert ht p1) (numsK _ _ _ _ _ (numsL1 p2)) ?_ p4
    rw [wt_mk, wtL_cons, wtL_nil, show (⟨#[]⟩ : ByteArray).size = 0 from rfl]
    simp only [wtT]; omega
   · exact .bad
theorem param_sh {n : Node} (h : ShP n) : ∃ ys, paramS n = some ys := by
 obtain ⟨y, l, c, ty, l2, c2, rfl, h1, h2⟩ := h
 unfold paramS
 rw [if_pos (plain_mk1 _ _ _ _ _ _ true false (.inl rfl) (.inr rfl))]
 exact sq_ok (typ_okS (.inl h1)) (name_okS h2)
theorem sh_global1 {y ty : ByteArray} {l c l2 c2 : Int} (h1 : typedB ty = true) (h2 : givenB y = true) : ShI ⟨⟨#[103, 108, 111, 98, 97, 108]⟩, y, 0, l, c, [⟨⟨#[116, 121, 112, 101]⟩, ty, 0, l2, c2, []⟩]⟩ := by
 intro g hg
 unfold itemS
 refine ite_ok rfl (sq_ok (typ_okS (.inl h1)) (sq_ok (name_okS h2) ?_))
 rw [if_pos (by dsimp only; decide +kernel), if_pos (by show 1 ≤ 2; decide), if_neg (by show ¬ (1 == 2) = true; decide)]
 exact sq_ok (lit_ok _) (lit_ok _)
theorem sh_global2 {y ty : ByteArray} {l c l2 c2 v l3 c3 : Int} (h1 : typedB ty = true) (h2 : givenB y = true) : ShI ⟨⟨#[103, 108, 111, 98, 97, 108]⟩, y, 0, l, c, [⟨⟨#[116, 121, 112, 101]⟩, ty, 0, l2, c2, []⟩, ⟨⟨#[110, 117, 109]⟩, ⟨#[]⟩, v, l3, c3, []⟩]⟩ := by
 intro g hg
 unfold itemS
 refine ite_ok rfl (sq_ok (typ_okS (.inl h1)) (sq_ok (name_okS h2) ?_))
 rw [if_pos (by dsimp only; decide +kernel), if_pos (by show 2 ≤ 2; decide), if_pos (by show (2 == 2) = true; decide)]
 exact sq_ok (ite_ok (plain_mk0 _ _ _ _ _ false true (.inr rfl) (.inl rfl)) (lit_ok _)) (lit_ok _)
theorem getD_last {a b : Node} {l : List Node} : ([a] ++ l ++ [b]).getD (([a] ++ l ++ [b]).length - 1) zNode = b := by
 rw [List.getD_eq_getElem?_getD]
 simp
theorem drop_mid {a b : Node} {l : List Node} : (([a] ++ l ++ [b]).drop 1).take (([a] ++ l ++ [b]).length - 2) = l := by
 simp
theorem sh_func {y ty : ByteArray} {l c l2 c2 : Int} {ps : List Node} {b : Node} (h1 : typedB ty = true ∨ ty = ⟨#[118, 111, 105, 100]⟩) (h2 : givenB y = true) (hp : ∀ k ∈ ps, ShP k) (hb : ShB b) : ShI ⟨⟨#[102, 117, 110, 99]⟩, y, 0, l, c, [⟨⟨#[116, 121, 112, 101]⟩, ty, 0, l2, c2, []⟩] ++ ps ++ [b]⟩ := by
 intro g hg
 have hdb : depthN b + 1 ≤ depthN ⟨⟨#[102, 117, 110, 99]⟩, y, 0, l, c, [⟨⟨#[116, 121, 112, 101]⟩, ty, 0, l2, c2, []⟩] ++ ps ++ [b]⟩ := kids_depth (n := ⟨⟨#[102, 117, 110, 99]⟩, y, 0, l, c, [⟨⟨#[116, 121, 112, 101]⟩, ty, 0, l2, c2, []⟩] ++ ps ++ [b]⟩) b (by simp)
 unfold itemS
 refine ite_ok (by simp) (sq_ok (typ_okS ?_) (sq_ok (name_okS h2) ?_))
 ·
  rcases h1 with h1 | h1
  · exact .inl h1
  · exact .inr ⟨by dsimp only; decide +kernel, h1⟩
 rw [if_neg (by dsimp only; decide +kernel)]
 refine ite_ok (by rw [eqB_self]; simp) (sq_ok (lit_ok _) (sq_ok ?_ (sq_ok (lit_ok _) ?_)))
 ·
  dsimp only
  rw [drop_mid]
  exact commas_ok _ _ fun k hk => param_sh (hp k hk)
 ·
  unfold kidN
  dsimp only
  rw [getD_last]
  exact hb g (by omega)
theorem itemF_rs (g : Nat) (ts : List Tok) (ha : AllOk ts) : Rs (itemF g ts) (wtT ts) ShI := by
 unfold itemF
 have h0 : ∀ {F : Node → List Tok → Option (PR Node)}, (∀ t r, ts = t :: r → (typedB t.text = true ∨ t.text = ⟨#[118, 111, 105, 100]⟩) → (isF ts ⟨#[118, 111, 105, 100]⟩ = false → typedB t.text = true) → AllOk r → Rs (F ⟨⟨#[116, 121, 112, 101]⟩, t.text, 0, t.line, t.col, []⟩ r) (wtT ts) ShI) → Rs (bnd (some (if isF ts ⟨#[118, 111, 105, 100]⟩ then PR.ok (leafN ⟨#[116, 121, 112, 101]⟩ (nowT ts)) ts.tail else typF ts)) F) (wtT ts) ShI := by
  intro F hF
  split
  ·
   rename_i hc
   obtain ⟨t, r, rfl⟩ := un_is (by decide) hc
   exact hF t r rfl (.inr (is_text hc)) (fun h => by rw [hc] at h; cases h) ha.tail
  · exact .typ ha fun t r e h1 ha2 => hF t r e (.inl h1) (fun _ => h1) ha2
 refine h0 fun t r e hty hnv ha2 => .name ha2 fun t2 r2 e2 hy ha3 => ?_
 have hw : wtT ts = 60 + t.text.size + t2.text.size + wtT r2 := by rw [e, e2]; simp only [wtT]; omega
 rw [leaf_nameT]
 split
 ·
  rename_i hc
  obtain ⟨a1, a2⟩ := is_tail (by decide) hc ha3
  refine (listsF_rs (fun r hr => paramF_rs r hr) g _ a1).bnd fun ns r3 p1 p2 p3 p4 => ((shL g).block 1 r3 p4).bnd fun b r4 q1 q2 q3 q4 => .ok (sh_func hty hy p1 q1) ?_ ?_ q4
  · exact numsK _ _ _ _ _ (numsL_app (numsL_app (numsL1 (nums0 _ _ _ _ _ (by omega))) p2) (numsL1 q2))
  ·
   rw [wt_mk, wtL_app, wtL_app, wtL_cons, wtL_nil, wtL_cons, wtL_nil, wt_mk, wtL_nil]
   dsimp only; omega
 ·
  by_cases hv : isF ts ⟨#[118, 111, 105, 100]⟩ = true
  · rw [if_pos hv]; exact .bad
  ·
   rw [if_neg hv]
   have h1 := hnv (by simpa using hv)
   by_cases hc : isF r2 ⟨#[91]⟩ = true
   ·
    rw [if_pos hc]
    obtain ⟨a1, a2⟩ := is_tail (by decide) hc ha3
    by_cases hk : ((nowT r2.tail).kind != 1) = true
    · rw [if_pos hk]; exact .bad
    ·
     rw [if_neg hk]
     have hk : (nowT r2.tail).kind = 1 := by simpa using hk
     generalize r2.tail = q at *
     obtain ⟨t3, r3, rfl⟩ := un_kind (ts := q) (by omega)
     rw [now_cons] at hk ⊢
     rw [List.tail_cons, leaf_numT]
     have hnr := num_range (a1.head.2 (by omega)) hk
     refine .need (by decide) a1.tail fun t4 r4 e4 ha4 => semiF_rs (sh_global2 h1 hy) (numsK _ _ _ _ _ (numsL2 (nums0 _ _ _ _ _ (by omega)) (nums0 _ _ _ _ _ hnr))) ?_ ha4
     rw [wt_mk, wtL_cons, wtL_cons, wtL_nil, wt_mk, wt_mk, wtL_nil, show (⟨#[]⟩ : ByteArray).size = 0 from rfl]
     rw [e4] at a2
     simp only [wtT] at a2
     dsimp only; omega
   ·
    rw [if_neg hc]
    refine semiF_rs (sh_global1 h1 hy) (numsK _ _ _ _ _ (numsL1 (nums0 _ _ _ _ _ (by omega)))) ?_ ha3
    rw [wt_mk, wtL_cons, wtL_nil, wt_mk, wtL_nil]; dsimp only; omega
theorem itemsF_rs : ∀ G l k ks ts, (∀ q ∈ ks, ShI q) → numsL ks = true → AllOk ts → ∀ n r, itemsF G l k ks ts = some (.ok n r) → (∃ ks', n = ⟨⟨#[112, 114, 111, 103, 114, 97, 109]⟩, ⟨#[]⟩, 0, l, k, ks'⟩ ∧ (∀ q ∈ ks', ShI q) ∧ numsL ks' = true ∧ wtL ks' + wtT r ≤ wtL ks + wtT ts) := by
 intro G
 induction G with
 | zero => intro l k ks ts _ _ _ n r h; simp only [itemsF] at h; cases h
 | succ G ih =>
  intro l k ks ts h1 h2 ha n r h
  simp only [itemsF] at h
  split at h
  ·
   injection h with h; injection h with e1 e2
   subst e1 e2
   exact ⟨ks, rfl, h1, h2, Nat.le_refl _⟩
  ·
   obtain ⟨_, _, _, _, h3⟩ | ⟨a, q, h3, h4⟩ := bnd_some h
   · cases h3
   ·
    obtain ⟨p1, p2, p3, p4⟩ := itemF_rs G ts ha a q h3
    obtain ⟨ks', e, q1, q2, q3⟩ := ih l k _ q (snoc_all h1 p1) (numsL_app h2 (numsL1 p2)) p4 n r h4
    rw [wtL_app, wtL_cons, wtL_nil] at q3
    exact ⟨ks', e, q1, q2, by omega⟩
theorem parsed_shows {G : Nat} {ts : List Tok} (ha : AllOk ts) {n : Node} {r : List Tok} (h : parseF G ts = some (.ok n r)) : (∀ g, 3 * depthN n ≤ g + 8 → ∃ ys, showS g n = some ys) ∧ numsOk n = true ∧ wtN n ≤ wtT ts + 30 := by
 obtain ⟨ks, rfl, h1, h2, h3⟩ := itemsF_rs G _ _ [] ts (fun q hq => by cases hq) rfl ha n r h
 rw [wtL_nil] at h3
 refine ⟨fun g hg => ?_, numsK _ _ _ _ _ h2, by rw [wt_mk, show (⟨#[]⟩ : ByteArray).size = 0 from rfl]; omega⟩
 unfold showS
 rw [if_pos (plain_mk _ _ _ _ _ ks _ false false rfl (.inr rfl) (.inr rfl))]
 exact each_ok _ fun k hk => h1 k hk g (by
  have := kids_depth (n := ⟨⟨#[112, 114, 111, 103, 114, 97, 109]⟩, ⟨#[]⟩, 0, (nowT ts).line, (nowT ts).col, ks⟩) k hk
  omega)
end Go.Proofs.YtdimhoilfopndaaGreatDoor
end
section
namespace Go.Proofs.YtdimhoilfopndaaGreatDoor
open Go.RowKit
def One (r : Out) : Prop := ∀ ys, r = some ys → ∀ y ∈ ys, oneB y = true
theorem One.none : One none := fun _ h => by cases h
theorem One.some {l : List ByteArray} (h : ∀ y ∈ l, oneB y = true) : One (some l) := fun ys e => by cases e; exact h
theorem One.sq {a b : Out} (h : One a) (h2 : One b) : One (sq a b) := by
 intro ys he
 obtain ⟨x, y, rfl, rfl, rfl⟩ := sq_some he
 intro z hz
 rcases List.mem_append.1 hz with hz | hz
 · exact h x rfl z hz
 · exact h2 y rfl z hz
theorem One.ite {p : Prop} [Decidable p] {a b : Out} (h : p → One a) (h2 : ¬ p → One b) : One (if p then a else b) := by
 by_cases hp : p
 · rw [if_pos hp]; exact h hp
 · rw [if_neg hp]; exact h2 hp
theorem One.lits {l : List ByteArray} (h : l.all oneB = true) : One (Option.some l) := One.some fun y hy => List.all_eq_true.1 h y hy
theorem One.one {y : ByteArray} (h : oneB y = true) : One (Option.some [y]) := One.some fun x hx => by rw [List.mem_singleton.1 hx]; exact h
theorem name_one (n : Node) : One (nameS n) := .ite (fun h => .one (given_name h).one) (fun _ => .none)
theorem typ_one (n : Node) (v : Bool) : One (typS n v) := .ite (fun h => .one (by
 simp only [Bool.and_eq_true, Bool.or_eq_true] at h
 rcases h.2 with h | ⟨_, h⟩
 · exact (typed_tk h).2
 · rw [eqB_eq h]; kernel_rfl)) (fun _ => .none)
theorem each_one {f : Node → Out} : ∀ (ks : List Node), (∀ k ∈ ks, One (f k)) → One (each f ks)
 | [], _ => by simp only [each]; exact .lits rfl
 | k :: ks, h => by
  simp only [each]
  exact (h k (List.mem_cons_self ..)).sq (each_one ks fun x hx => h x (List.mem_cons_of_mem _ hx))
theorem commas_one {f : Node → Out} : ∀ (b : Bool) (ks : List Node), (∀ k ∈ ks, One (f k)) → One (commas f b ks)
 | _, [], _ => by simp only [commas]; exact .lits rfl
 | b, k :: ks, h => by
  simp only [commas]
  exact ((One.ite (fun _ => .lits rfl) (fun _ => .lits (by kernel_rfl))).sq (h k (List.mem_cons_self ..))).sq (commas_one false ks fun x hx => h x (List.mem_cons_of_mem _ hx))
structure OneE (g : Nat) : Prop where
 expr : ∀ n w, numsOk n = true → One (exprS g n w)
 core : ∀ n, numsOk n = true → One (coreS g n)
 target : ∀ n, numsOk n = true → One (targetS g n)
theorem oneE : ∀ g, OneE g := by
 intro g
 induction g with
 | zero => exact ⟨fun _ _ _ => (by simp only [exprS]; exact .none), fun _ _ => (by simp only [coreS]; exact .none), fun _ _ => (by simp only [targetS]; exact .none)⟩
 | succ g ih =>
  refine ⟨fun n w hn => ?_, fun n hn => ?_, fun n hn => ?_⟩
  ·
   simp only [exprS]
   exact .ite (fun _ => (One.lits (by kernel_rfl)).sq ((ih.core n hn).sq (.lits (by kernel_rfl)))) (fun _ => ih.core n hn)
  ·
   obtain ⟨⟨n0, n1⟩, _⟩ := (numsOk_eq n).1 hn
   simp only [coreS]
   refine .ite (fun _ => .ite (fun _ => .one (digits_one n0 n1)) fun _ => .none) fun _ => ?_
   refine .ite (fun hk => .ite (fun _ => .one ?_) fun _ => .none) fun _ => ?_
   ·
    simp only [Bool.or_eq_true] at hk
    rcases hk with hk | hk <;> rw [eqB_eq hk] <;> kernel_rfl
   refine .ite (fun _ => .ite (fun h => ?_) fun _ => .none) fun _ => ?_
   ·
    have hl := plainB_len (by simp only [Bool.and_eq_true] at h; exact h.1)
    simp only [Bool.and_eq_true] at h
    refine (One.one ?_).sq (ih.expr (kidN n 0) false (kid_nums (by omega) hn))
    rcases unop_cases h.2 with e | e | e <;> rw [e] <;> kernel_rfl
   refine .ite (fun _ => .ite (fun h => ?_) fun _ => .none) fun _ => ?_
   ·
    have hl := plainB_len (by simp only [Bool.and_eq_true] at h; exact h.1)
    simp only [Bool.and_eq_true] at h
    obtain ⟨_, _, _, _, _, ho⟩ := binding_op h.2
    exact (ih.expr (kidN n 0) false (kid_nums (by omega) hn)).sq ((One.one ho).sq (ih.expr (kidN n 1) false (kid_nums (by omega) hn)))
   refine .ite (fun _ => .ite (fun h => ?_) fun _ => .none) fun _ => ih.target n hn
   ·
    have hl := plainB_len (by simp only [Bool.and_eq_true] at h; exact h.1)
    simp only [Bool.and_eq_true] at h
    refine (One.some fun y hy => ?_).sq (ih.expr (kidN n 0) false (kid_nums (by omega) hn))
    simp only [List.mem_cons, List.not_mem_nil, or_false] at hy
    rcases hy with rfl | rfl | rfl
    · kernel_rfl
    · exact (typed_tk h.2).2
    · kernel_rfl
  ·
   simp only [targetS]
   refine .ite (fun _ => .ite (fun _ => name_one n) fun _ => .none) fun _ => .ite (fun h => ?_) fun _ => .none
   have hl := plainB_len h
   exact (name_one n).sq ((One.lits (by kernel_rfl)).sq ((ih.expr (kidN n 0) true (kid_nums (by omega) hn)).sq (.lits (by kernel_rfl))))
theorem call_one (g : Nat) (n : Node) (hn : numsOk n = true) : One (callS g n) := by
 unfold callS
 refine .ite (fun _ => ?_) fun _ => .none
 exact (name_one n).sq ((One.lits (by kernel_rfl)).sq ((commas_one true n.kids fun k hk => (oneE g).expr k true (kids_nums hn k hk)).sq (.lits (by kernel_rfl))))
structure OneS (g : Nat) : Prop where
 block : ∀ n, numsOk n = true → One (blockS g n)
 branch : ∀ n, (n.kind = ⟨#[105, 102]⟩ ∨ n.kind = ⟨#[119, 104, 105, 108, 101]⟩) → numsOk n = true → One (branchS g n)
 stmt : ∀ n, numsOk n = true → One (stmtS g n)
theorem oneS : ∀ g, OneS g := by
 intro g
 induction g with
 | zero => exact ⟨fun _ _ => (by simp only [blockS]; exact .none), fun _ _ _ => (by simp only [branchS]; exact .none), fun _ _ => (by simp only [stmtS]; exact .none)⟩
 | succ g ih =>
  refine ⟨fun n hn => ?_, fun n hkk hn => ?_, fun n hn => ?_⟩
  ·
   simp only [blockS]
   refine .ite (fun _ => ?_) fun _ => .none
   exact (One.lits (by kernel_rfl)).sq ((each_one n.kids fun k hk => ih.stmt k (kids_nums hn k hk)).sq (.lits (by kernel_rfl)))
  ·
   simp only [branchS]
   refine .ite (fun h => ?_) fun _ => .none
   simp only [Bool.and_eq_true, Bool.or_eq_true, beq_iff_eq] at h
   have hl : 2 ≤ n.kids.length := by rcases h.2 with h2 | ⟨_, h3⟩ <;> omega
   refine (One.lits ?_).sq (((oneE g).expr (kidN n 0) true (kid_nums (by omega) hn)).sq ((One.lits (by kernel_rfl)).sq ((ih.block (kidN n 1) (kid_nums (by omega) hn)).sq (.ite (fun h3 => ?_) fun _ => .lits rfl))))
   · rcases hkk with h | h <;> rw [h] <;> kernel_rfl
   ·
    have h3 : n.kids.length = 3 := by simpa using h3
    exact (One.lits (by kernel_rfl)).sq (ih.block (kidN n 2) (kid_nums (by omega) hn))
  ·
   simp only [stmtS]
   refine .ite (fun hk => ?_) fun _ => ?_
   ·
    simp only [Bool.or_eq_true] at hk
    exact ih.branch n (by rcases hk with hk | hk; exact .inl (eqB_eq hk); exact .inr (eqB_eq hk)) hn
   refine One.sq ?_ (.lits (by kernel_rfl))
   refine .ite (fun _ => .ite (fun h => ?_) fun _ => .none) fun _ => ?_
   · exact (typ_one _ _).sq (name_one n)
   refine .ite (fun _ => .ite (fun h => ?_) fun _ => .none) fun _ => ?_
   ·
    have hl := plainB_len h
    exact ((oneE g).target (kidN n 0) (kid_nums (by omega) hn)).sq ((One.lits (by kernel_rfl)).sq (One.ite (fun _ => call_one g _ (kid_nums (by omega) hn)) (fun _ => (oneE g).expr _ true (kid_nums (by omega) hn))))
   refine .ite (fun _ => .ite (fun h => ?_) fun _ => .none) fun _ => ?_
   ·
    have hl := plainB_len h
    exact ((oneE g).target (kidN n 0) (kid_nums (by omega) hn)).sq (.lits (by kernel_rfl))
   refine .ite (fun _ => .ite (fun h => ?_) fun _ => .none) fun _ => ?_
   · exact (One.lits (by kernel_rfl)).sq (each_one n.kids fun k hk => (oneE g).expr k true (kids_nums hn k hk))
   refine .ite (fun hk => .ite (fun h => ?_) fun _ => .none) fun _ => call_one g n hn
   ·
    have hl := plainB_len h
    refine (One.lits ?_).sq (((oneE g).expr (kidN n 0) true (kid_nums (by omega) hn)).sq (.lits (by kernel_rfl)))
    simp only [Bool.or_eq_true] at hk
    rcases hk with h | h <;> rw [eqB_eq h] <;> kernel_rfl
theorem param_one (n : Node) : One (paramS n) := .ite (fun _ => (typ_one _ _).sq (name_one n)) (fun _ => .none)
theorem item_one (g : Nat) (n : Node) (hn : numsOk n = true) : One (itemS g n) := by
 unfold itemS
 refine .ite (fun h => ?_) fun _ => .none
 simp only [Bool.and_eq_true, decide_eq_true_eq] at h
 refine (typ_one _ _).sq ((name_one n).sq ?_)
 refine .ite (fun _ => .ite (fun hle => ?_) fun _ => .none) fun _ => .ite (fun h2 => ?_) fun _ => .none
 ·
  refine One.sq (.ite (fun h2 => .ite (fun hpl => ?_) fun _ => .none) fun _ => .lits rfl) (.lits (by kernel_rfl))
  have hl2 : n.kids.length = 2 := by simpa using h2
  obtain ⟨⟨n0, n1⟩, _⟩ := (numsOk_eq (kidN n 1)).1 (kid_nums (by omega) hn)
  refine One.some fun y hy => ?_
  simp only [List.mem_cons, List.not_mem_nil, or_false] at hy
  rcases hy with rfl | rfl | rfl
  · kernel_rfl
  · exact digits_one n0 n1
  · kernel_rfl
 · exact (One.lits (by kernel_rfl)).sq ((commas_one true _ fun k _ => param_one k).sq ((One.lits (by kernel_rfl)).sq ((oneS g).block (kidN n (n.kids.length - 1)) (kid_nums (by omega) hn))))
theorem show_one (g : Nat) (n : Node) (hn : numsOk n = true) : One (showS g n) :=
 .ite (fun _ => each_one n.kids fun k hk => item_one g k (kids_nums hn k hk)) (fun _ => .none)
mutual
theorem strip_strip : ∀ n : Node, n.strip.strip = n.strip
 | ⟨k, t, n, l, c, ks⟩ => by rw [strip_mk, strip_mk, strip_stripL ks]
theorem strip_stripL : ∀ ks : List Node, stripL (stripL ks) = stripL ks
 | [] => by rw [stripL_nil, stripL_nil]
 | k :: ks => by rw [stripL_cons, stripL_cons, strip_strip k, strip_stripL ks]
end
def NB {α : Type} (x : Option (PR α)) : Prop := ∀ l k e, x = some (.bad l k e) → e = 30 ∨ e = 31
theorem NB.none {α : Type} : NB (none : Option (PR α)) := fun _ _ _ h => by cases h
theorem NB.ok {α : Type} (a : α) (ts : List Tok) : NB (some (.ok a ts)) := fun _ _ _ h => by injection h with h; cases h
theorem NB.b30 {α : Type} (ts : List Tok) : NB (some (badAt ts 30 : PR α)) := fun _ _ _ h => by injection h with h; injection h with _ _ h; exact .inl h.symm
theorem NB.b31 {α : Type} (ts : List Tok) : NB (some (badAt ts 31 : PR α)) := fun _ _ _ h => by injection h with h; injection h with _ _ h; exact .inr h.symm
theorem NB.bnd {α β : Type} {x : Option (PR α)} {F : α → List Tok → Option (PR β)} (h : NB x) (hF : ∀ a ts, NB (F a ts)) : NB (bnd x F) := by
 intro l k e he
 obtain ⟨l2, k2, e2, h1, h2⟩ | ⟨a, ts, h1, h2⟩ := bnd_some he
 ·
  injection h2 with a1 a2 a3
  subst a1 a2 a3
  exact h _ _ _ h1
 · exact hF a ts l k e h2
theorem NB.need (ts : List Tok) (x : ByteArray) : NB (some (needF ts x)) := by
 unfold needF; split
 · exact .ok _ _
 · exact .b30 _
theorem NB.name (ts : List Tok) : NB (some (nameF ts)) := by
 unfold nameF; split
 · exact .ok _ _
 · exact .b30 _
theorem NB.typ (ts : List Tok) : NB (some (typF ts)) := by
 unfold typF; split
 · exact .ok _ _
 · exact .b30 _
structure NBE (G : Nat) : Prop where
 expr : ∀ d ts, NB (exprF G d ts)
 binary : ∀ d i ts, NB (binaryF G d i ts)
 more : ∀ d i n ts, NB (moreF G d i n ts)
 operand : ∀ d ts, NB (operandF G d ts)
 index : ∀ x d ts, NB (indexF G x d ts)
theorem nbE : ∀ G, NBE G := by
 intro G
 induction G with
 | zero => exact ⟨fun _ _ => (by simp only [exprF]; exact .none), fun _ _ _ => (by simp only [binaryF]; exact .none), fun _ _ _ _ => (by simp only [moreF]; exact .none), fun _ _ => (by simp only [operandF]; exact .none), fun _ _ _ => (by simp only [indexF]; exact .none)⟩
 | succ G ih =>
  refine ⟨fun d ts => ?_, fun d i ts => ?_, fun d i n ts => ?_, fun d ts => ?_, fun x d ts => ?_⟩
  · simp only [exprF]; repeat' (first | exact .ok _ _ | exact .b30 _ | exact .b31 _ | exact .need _ _ | exact ih.expr _ _ | exact ih.binary _ _ _ | exact ih.more _ _ _ _ | exact ih.operand _ _ | exact ih.index _ _ _ | refine .bnd ?_ fun _ _ => ?_ | split)
  · simp only [binaryF]; repeat' (first | exact .ok _ _ | exact .b30 _ | exact .b31 _ | exact .need _ _ | exact ih.expr _ _ | exact ih.binary _ _ _ | exact ih.more _ _ _ _ | exact ih.operand _ _ | exact ih.index _ _ _ | refine .bnd ?_ fun _ _ => ?_ | split)
  · simp only [moreF]; repeat' (first | exact .ok _ _ | exact .b30 _ | exact .b31 _ | exact .need _ _ | exact ih.expr _ _ | exact ih.binary _ _ _ | exact ih.more _ _ _ _ | exact ih.operand _ _ | exact ih.index _ _ _ | refine .bnd ?_ fun _ _ => ?_ | split)
  · simp only [operandF]; repeat' (first | exact .ok _ _ | exact .b30 _ | exact .b31 _ | exact .need _ _ | exact ih.expr _ _ | exact ih.binary _ _ _ | exact ih.more _ _ _ _ | exact ih.operand _ _ | exact ih.index _ _ _ | refine .bnd ?_ fun _ _ => ?_ | split)
  · simp only [indexF]; repeat' (first | exact .ok _ _ | exact .b30 _ | exact .b31 _ | exact .need _ _ | exact ih.expr _ _ | exact ih.binary _ _ _ | exact ih.more _ _ _ _ | exact ih.operand _ _ | exact ih.index _ _ _ | refine .bnd ?_ fun _ _ => ?_ | split)
theorem nb_list {one : List Tok → Option (PR Node)} (h1 : ∀ ts, NB (one ts)) : ∀ G l ts, NB (listF one G l ts) := by
 intro G
 induction G with
 | zero => intro l ts; simp only [listF]; exact .none
 | succ G ih =>
  intro l ts
  simp only [listF]
  refine .bnd (h1 ts) fun _ _ => ?_
  split
  · exact .ok _ _
  split
  · exact ih _ _
  · exact .b30 _
theorem nb_lists {one : List Tok → Option (PR Node)} (h1 : ∀ ts, NB (one ts)) (G : Nat) (ts : List Tok) : NB (listsF one G ts) := by
 unfold listsF
 split
 · exact .ok _ _
 · exact nb_list h1 _ _ _
theorem nb_semi (n : Node) (ts : List Tok) : NB (semiF n ts) := by unfold semiF; exact .bnd (.need _ _) fun _ _ => .ok _ _
theorem nb_param (ts : List Tok) : NB (paramF ts) := by unfold paramF; exact .bnd (.typ _) fun _ _ => .bnd (.name _) fun _ _ => .ok _ _
theorem nb_cond (g : Nat) (d : Int) (ts : List Tok) : NB (condF g d ts) := by unfold condF; exact .bnd (.need _ _) fun _ _ => .bnd ((nbE g).expr _ _) fun _ _ => .bnd (.need _ _) fun _ _ => .ok _ _
theorem nb_call (g : Nat) (x : Node) (d : Int) (ts : List Tok) : NB (callF g x d ts) := by unfold callF; exact .bnd (.need _ _) fun _ _ => .bnd (nb_lists (fun ts => (nbE g).expr _ ts) _ _) fun _ _ => .ok _ _
theorem nb_simple (g : Nat) (d : Int) (ts : List Tok) : NB (simpleF g d ts) := by
 unfold simpleF
 refine .bnd (.name _) fun _ _ => ?_
 split
 · exact .bnd (nb_call _ _ _ _) fun _ _ => nb_semi _ _
 refine .bnd ((nbE g).index _ _ _) fun _ _ => .bnd (.need _ _) fun _ _ => ?_
 split
 · exact .bnd (.need _ _) fun _ _ => .bnd (.need _ _) fun _ _ => nb_semi _ _
 split
 · exact .bnd (.name _) fun _ _ => .bnd (nb_call _ _ _ _) fun _ _ => nb_semi _ _
 · exact .bnd ((nbE g).expr _ _) fun _ _ => nb_semi _ _
structure NBS (G : Nat) : Prop where
 block : ∀ d ts, NB (blockF G d ts)
 stmts : ∀ d l k ks ts, NB (stmtsF G d l k ks ts)
 stmt : ∀ d ts, NB (stmtF G d ts)
theorem nbS : ∀ G, NBS G := by
 intro G
 induction G with
 | zero => exact ⟨fun _ _ => (by simp only [blockF]; exact .none), fun _ _ _ _ _ => (by simp only [stmtsF]; exact .none), fun _ _ => (by simp only [stmtF]; exact .none)⟩
 | succ G ih =>
  refine ⟨fun d ts => ?_, fun d l k ks ts => ?_, fun d ts => ?_⟩
  ·
   simp only [blockF]
   split
   · exact .b31 _
   · exact .bnd (.need _ _) fun _ _ => ih.stmts _ _ _ _ _
  ·
   simp only [stmtsF]
   split
   · exact .ok _ _
   · exact .bnd (ih.stmt _ _) fun _ _ => ih.stmts _ _ _ _ _
  ·
   simp only [stmtF]
   split
   · exact .bnd (nb_param _) fun _ _ => nb_semi _ _
   split
   · exact nb_simple _ _ _
   split
   · exact .b30 _
   split
   ·
    refine .bnd (nb_cond _ _ _) fun _ _ => .bnd (ih.block _ _) fun _ _ => ?_
    split
    · exact .bnd (ih.block _ _) fun _ _ => .ok _ _
    · exact .ok _ _
   split
   ·
    split
    · exact nb_semi _ _
    · exact .bnd ((nbE G).expr _ _) fun _ _ => nb_semi _ _
   split
   · exact .bnd (nb_cond _ _ _) fun _ _ => nb_semi _ _
   · exact .b30 _
theorem nb_item (g : Nat) (ts : List Tok) : NB (itemF g ts) := by
 unfold itemF
 refine .bnd ?_ fun _ _ => .bnd (.name _) fun _ _ => ?_
 ·
  split
  · exact .ok _ _
  · exact .typ _
 split
 · exact .bnd (nb_lists nb_param _ _) fun _ _ => .bnd ((nbS g).block _ _) fun _ _ => .ok _ _
 split
 · exact .b30 _
 split
 ·
  split
  · exact .b30 _
  · exact .bnd (.need _ _) fun _ _ => nb_semi _ _
 · exact nb_semi _ _
theorem nb_items : ∀ G l k ks ts, NB (itemsF G l k ks ts) := by
 intro G
 induction G with
 | zero => intro l k ks ts; simp only [itemsF]; exact .none
 | succ G ih =>
  intro l k ks ts
  simp only [itemsF]
  split
  · exact .ok _ _
  · exact .bnd (nb_item _ _) fun _ _ => ih _ _ _ _
theorem parsed_bad {G : Nat} {ts : List Tok} {l k e : Int} (h : parseF G ts = some (.bad l k e)) : e = 30 ∨ e = 31 := nb_items _ _ _ _ _ _ _ _ h
theorem join_joinC : ∀ xs : List (List UInt8), Lib.join xs [32] = joinB xs
 | [] => rfl
 | [x] => by simp [Lib.join, joinB, List.intercalate]
 | x :: y :: r => by
  have ih := join_joinC (y :: r)
  unfold Lib.join at ih ⊢
  simp only [List.intercalate, joinB] at ih ⊢
  rw [← ih]
  simp [List.intersperse]
def textS (ys : List ByteArray) : ByteArray := ⟨(Lib.join (ys.map (·.data.toList)) [32]).toArray⟩
theorem textS_size (ys : List ByteArray) : (textS ys).size ≤ byts ys := by
 unfold textS
 rw [bsz, join_joinC]
 exact joinB_byts ys
theorem len_byts : ∀ ys : List ByteArray, ys.length ≤ byts ys
 | [] => by simp [byts]
 | a :: ys => by have := len_byts ys; simp only [List.length_cons, byts]; omega
theorem unbare (t : Tok) : t.Z = ⟨t.bare.kind, ⟨t.bare.text.toArray⟩, t.bare.num, 0, 0⟩ := by
 cases t; rfl
theorem lex_text {ys : List ByteArray} (h : ∀ y ∈ ys, oneB y = true) (hb : byts ys ≤ 65536) : (lexR (textS ys)).err = 0 ∧ (lexR (textS ys)).toks.map Tok.Z = ys.map tkB ++ [tkE] := by
 have hsz := textS_size ys
 have hX := LX_join (ys.map fun y => ⟨(tkB y).kind, y.data.toList, (tkB y).num⟩) (fun g hg => by
  obtain ⟨y, hy, rfl⟩ := List.mem_map.1 hg
  exact oneB_good (h y hy))
 have e : joinB ((ys.map fun y => (⟨(tkB y).kind, y.data.toList, (tkB y).num⟩ : Tk)).map (·.text)) = (textS ys).data.toList := by
  unfold textS
  rw [join_joinC, List.map_map]
  rfl
 rw [e] at hX
 have he : (lexR (textS ys)).err = 0 := by
  by_cases h9 : (lexR (textS ys)).err = 0
  · exact h9
  ·
   have := ((lexR_list _ (by omega)).2 h9).1
   rw [this] at hX; cases hX
 refine ⟨he, ?_⟩
 have h2 := (lexR_list _ (by omega)).1 he
 rw [hX] at h2
 have h3 := Option.some.inj h2
 have h4 : (lexR (textS ys)).toks.map Tok.Z = ((lexR (textS ys)).toks.map Tok.bare).map fun t => (⟨t.kind, ⟨t.text.toArray⟩, t.num, 0, 0⟩ : Tok) := by
  rw [List.map_map]
  exact List.map_congr_left fun t _ => unbare t
 rw [h4, ← h3, List.map_append, List.map_map]
 have h8 : List.map ((fun t : Tk => (⟨t.kind, ⟨t.text.toArray⟩, t.num, 0, 0⟩ : Tok)) ∘ fun y : ByteArray => (⟨(tkB y).kind, y.data.toList, (tkB y).num⟩ : Tk)) ys = ys.map tkB := List.map_congr_left fun y hy => by
  obtain ⟨t, _, _, _, h9⟩ := oneB_tk (h y hy)
  rw [h9]
  simp only [Function.comp, h9]
 rw [h8]
 rfl
def ansR : PR Node → ReadA
 | .ok n _ => ⟨n, 0, 0, 0⟩
 | .bad l k e => ⟨zNode, l, k, e⟩
theorem readF_ok {G : Nat} {s : ByteArray} (he : (lexR s).err = 0) {r : PR Node} (h : parseF G (lexR s).toks = some r) : readF G s = some (ansR r) := by
 unfold readF
 rw [if_neg (by rw [he]; decide), h]
 cases r <;> rfl
theorem shown_law {g : Nat} {n : Node} {ys : List ByteArray} (h : showS g n = some ys) (hn : numsOk n = true) (hb : byts ys ≤ 65536) (G : Nat) (hG : 16 * (ys.length + 1) + 1 ≤ G) :
  ∃ b, readF G (textS ys) = some b ∧ ((b.err = 31 ∧ 20 < depthN n) ∨ (b.err = 0 ∧ b.node.strip = n.strip)) := by
 obtain ⟨he, hz⟩ := lex_text (show_one g n hn ys h) hb
 have h1 := parseF_Z G (lexR (textS ys)).toks
 rw [hz] at h1
 rcases back_bk h hn G hG with ⟨m, h2, h3⟩ | ⟨h2, l, k, h3⟩
 ·
  rw [h2] at h1
  cases hp : parseF G (lexR (textS ys)).toks with
  | none => rw [hp] at h1; cases h1
  | some r =>
   rw [hp] at h1
   cases r with
   | bad l k e => cases h1
   | ok q r =>
    have h4 := Option.some.inj h1
    injection h4 with h4 h5
    refine ⟨_, readF_ok he hp, .inr ⟨rfl, ?_⟩⟩
    show q.strip = n.strip
    rw [← h3]
    have : ∀ x : Node, x.strip.strip = x.strip := fun x => strip_strip x
    rw [h4, this]
 ·
  rw [h3] at h1
  cases hp : parseF G (lexR (textS ys)).toks with
  | none => rw [hp] at h1; cases h1
  | some r =>
   rw [hp] at h1
   cases r with
   | ok q r => cases h1
   | bad l k e =>
    have h4 := Option.some.inj h1
    injection h4 with _ _ h5
    exact ⟨_, readF_ok he hp, .inl ⟨h5.symm, h2⟩⟩
theorem lex_ok {s : ByteArray} (hs : s.size ≤ 65536) (he : (lexR s).err = 0) : AllOk (lexR s).toks ∧ wtT (lexR s).toks ≤ 31 * s.size + 30 ∧ (lexR s).toks.length ≤ s.size + 1 := by
 obtain ⟨gs, h1, h2, h3⟩ := LX_form _ _ _ rfl ((lexR_list s hs).1 he)
 rw [← size_list] at h3
 generalize (lexR s).toks = ts at *
 have hlen : ∀ gs : List Tk, (∀ g ∈ gs, Good g) → gs.length ≤ ((gs.map (·.text)).map List.length).sum := by
  intro gs
  induction gs with
  | nil => intro _; simp
  | cons a gs ih =>
   intro h
   have := ih fun g hg => h g (List.mem_cons_of_mem _ hg)
   obtain ⟨c, r, hc, _⟩ := (h a (List.mem_cons_self ..)).head
   simp only [List.map_cons, List.sum_cons, List.length_cons]
   rw [hc, List.length_cons]; omega
 have hl := hlen gs h2
 have hmem : ∀ gs : List Tk, ∀ g ∈ gs, g.text.length ≤ ((gs.map (·.text)).map List.length).sum := by
  intro gs
  induction gs with
  | nil => intro g hg; cases hg
  | cons a gs ih =>
   intro g hg
   simp only [List.map_cons, List.sum_cons]
   rcases List.mem_cons.1 hg with rfl | hg
   · omega
   · have := ih g hg; omega
 have hw : ∀ (ts : List Tok), wtT ts = 30 * ts.length + ((ts.map Tok.bare).map fun t => t.text.length).sum := by
  intro ts
  induction ts with
  | nil => rfl
  | cons t ts ih =>
   simp only [wtT, List.map_cons, List.sum_cons, List.length_cons, ih]
   have : t.bare.text.length = t.text.size := (size_list t.text).symm
   rw [this]; omega
 have hlt : ts.length = gs.length + 1 := by
  have := congrArg List.length h1
  simpa using this
 refine ⟨fun t ht => ?_, ?_, by omega⟩
 ·
  have hb : t.bare ∈ gs ++ [⟨3, [], 0⟩] := by rw [← h1]; exact List.mem_map.2 ⟨t, ht, rfl⟩
  rcases List.mem_append.1 hb with hb | hb
  ·
   have h8 := hmem gs _ hb
   refine ⟨?_, fun _ => (h2 _ hb).next⟩
   rw [size_list]
   exact Nat.le_trans h8 (by omega)
  ·
   have hb := List.mem_singleton.1 hb
   unfold Tok.bare at hb
   injection hb with b1 b2 b3
   refine ⟨?_, fun h => absurd b1 h⟩
   rw [size_list, b2]; decide
 ·
  rw [hw, h1, List.map_append, List.sum_append]
  have : (gs.map fun t => t.text.length).sum ≤ s.size := by rw [List.map_map] at h3; exact h3
  simp only [List.map_cons, List.map_nil, List.sum_cons, List.sum_nil, List.length_nil]
  omega
theorem read_shows {s : ByteArray} {G : Nat} {a : ReadA} (hs : s.size ≤ 2100) (h : readF G s = some a) (he : a.err = 0) : numsOk a.node = true ∧ wtN a.node ≤ 31 * s.size + 60 ∧
  ∀ g, 3 * depthN a.node ≤ g + 8 → ∃ ys, showS g a.node = some ys ∧ byts ys ≤ 31 * s.size + 60 := by
 unfold readF at h
 split at h
 ·
  rename_i h9
  obtain rfl := Option.some.inj h
  exact absurd he h9
 ·
  rename_i h9
  have h9 : (lexR s).err = 0 := Classical.not_not.1 h9
  obtain ⟨h1, h2, h3⟩ := lex_ok (by omega) h9
  cases hp : parseF G (lexR s).toks with
  | none => rw [hp] at h; cases h
  | some r =>
   rw [hp] at h
   cases r with
   | bad l k e =>
    exfalso
    obtain rfl := Option.some.inj h
    have hz := parsed_bad hp
    dsimp only at he
    omega
   | ok n r =>
    obtain rfl := Option.some.inj h
    obtain ⟨p1, p2, p3⟩ := parsed_shows h1 hp
    refine ⟨p2, Nat.le_trans p3 (by omega), fun g hg => ?_⟩
    obtain ⟨ys, hy⟩ := p1 g hg
    exact ⟨ys, hy, Nat.le_trans (show_byt g n p2 ys hy) (by omega)⟩
end Go.Proofs.YtdimhoilfopndaaGreatDoor
end
