/- The plain law of spreading: where it ends it is closed; what spreads from less is among what spreads from more; what has spread spreads no further. No condition. -/
import Derived.Test.YtaibjaienhnckaaGreatDoorZq
set_option linter.unusedVariables false
set_option linter.unusedSimpArgs false
namespace Go.Proofs.YtaibjaienhnckaaGreatDoor
open Go.RowKit
/-- What is known of a clause's literals that were seen. -/
def Seen (ks p : List Int) (only cnt : Int) : Prop := (∀ n ∈ p, n ∉ ks) ∧ ((cnt = 0 ∧ ∀ n ∈ p, -n ∈ ks) ∨ (cnt = 1 ∧ only ∈ p ∧ -only ∉ ks ∧ ∀ n ∈ p, n = only ∨ -n ∈ ks) ∨ (cnt = 2 ∧ ∃ m1 ∈ p, ∃ m2 ∈ p, m1 ≠ m2 ∧ -m1 ∉ ks ∧ -m2 ∉ ks))
theorem seen_open {ks : List Int} : ∀ (c p : List Int) (only cnt : Int), Seen ks p only cnt → ((openF ks c only cnt).2 = 3 ∧ ∃ n ∈ c, n ∈ ks) ∨ Seen ks (p ++ c) (openF ks c only cnt).1 (openF ks c only cnt).2
  | [], p, only, cnt, h => .inr (by rw [List.append_nil]; exact h)
  | n :: c, p, only, cnt, h => by
    unfold openF
    by_cases h1 : n ∈ ks
    · rw [if_pos h1]
      exact .inl ⟨rfl, n, List.mem_cons_self, h1⟩
    · rw [if_neg h1]
      have key : ∀ o k, Seen ks (p ++ [n]) o k → ((openF ks c o k).2 = 3 ∧ ∃ x ∈ n :: c, x ∈ ks) ∨ Seen ks (p ++ n :: c) (openF ks c o k).1 (openF ks c o k).2 := by
        intro o k hk
        rcases seen_open c (p ++ [n]) o k hk with ⟨a, x, hx, hx2⟩ | h2
        · exact .inl ⟨a, x, List.mem_cons_of_mem _ hx, hx2⟩
        · right
          rw [List.append_assoc] at h2
          exact h2
      obtain ⟨hp, hc⟩ := h
      have hp2 : ∀ x ∈ p ++ [n], x ∉ ks := by
        intro x hx
        rcases List.mem_append.1 hx with hx | hx
        · exact hp x hx
        · rw [List.mem_singleton.1 hx]; exact h1
      by_cases h2 : -n ∉ ks ∧ (cnt = 0 ∨ n ≠ only)
      · rw [if_pos h2]
        refine key _ _ ⟨hp2, ?_⟩
        rcases hc with ⟨e, hall⟩ | ⟨e, ho, hno, hall⟩ | ⟨e, m1, hm1, m2, hm2, hne, ha, hb⟩
        · right; left
          refine ⟨by rw [e]; decide, by simp, h2.1, fun x hx => ?_⟩
          rcases List.mem_append.1 hx with hx | hx
          · exact .inr (hall x hx)
          · exact .inl (List.mem_singleton.1 hx)
        · right; right
          refine ⟨by rw [e]; decide, only, List.mem_append_left _ ho, n, by simp, ?_, hno, h2.1⟩
          rcases h2.2 with h3 | h3
          · rw [e] at h3; exact absurd h3 (by decide)
          · exact fun e9 => h3 e9.symm
        · right; right
          exact ⟨by rw [e]; decide, m1, List.mem_append_left _ hm1, m2, List.mem_append_left _ hm2, hne, ha, hb⟩
      · rw [if_neg h2]
        refine key _ _ ⟨hp2, ?_⟩
        have h3 : -n ∈ ks ∨ (cnt ≠ 0 ∧ n = only) := by
          by_cases h4 : -n ∈ ks
          · exact .inl h4
          · right
            refine ⟨fun e => h2 ⟨h4, .inl e⟩, ?_⟩
            by_cases h5 : n = only
            · exact h5
            · exact absurd ⟨h4, .inr h5⟩ h2
        rcases hc with ⟨e, hall⟩ | ⟨e, ho, hno, hall⟩ | ⟨e, m1, hm1, m2, hm2, hne, ha, hb⟩
        · left
          refine ⟨e, fun x hx => ?_⟩
          rcases List.mem_append.1 hx with hx | hx
          · exact hall x hx
          · rw [List.mem_singleton.1 hx]
            rcases h3 with h3 | h3
            · exact h3
            · exact absurd e h3.1
        · right; left
          refine ⟨e, List.mem_append_left _ ho, hno, fun x hx => ?_⟩
          rcases List.mem_append.1 hx with hx | hx
          · exact hall x hx
          · rw [List.mem_singleton.1 hx]
            rcases h3 with h3 | h3
            · exact .inr h3
            · exact .inl h3.2
        · right; right
          exact ⟨e, m1, List.mem_append_left _ hm1, m2, List.mem_append_left _ hm2, hne, ha, hb⟩
theorem open_seen (ks c : List Int) : ((openF ks c 0 0).2 = 3 ∧ ∃ n ∈ c, n ∈ ks) ∨ Seen ks c (openF ks c 0 0).1 (openF ks c 0 0).2 := by
  have := seen_open (ks := ks) c [] 0 0 ⟨fun n hn => (by cases hn), .inl ⟨rfl, fun n hn => (by cases hn)⟩⟩
  simpa using this
/-- Nothing follows: each clause has a literal that is true, or two that are open. -/
def closedIn (ks : List Int) (l : List (List Int)) : Prop := ∀ c ∈ l, (∃ n ∈ c, n ∈ ks) ∨ ∃ m1 ∈ c, ∃ m2 ∈ c, m1 ≠ m2 ∧ -m1 ∉ ks ∧ -m2 ∉ ks
def apart (ks : List Int) : Prop := ∀ x ∈ ks, -x ∉ ks
theorem addK_sub {ks : List Int} {n : Int} {T : List Int} (h : ∀ x ∈ ks, x ∈ T) (hn : n ∈ T) : ∀ x ∈ addK ks n, x ∈ T := by
  intro x hx
  rcases add_mem hx with h1 | rfl
  · exact h x h1
  · exact hn
theorem addK_keeps {ks : List Int} {n x : Int} (h : x ∈ ks) : x ∈ addK ks n := mem_addK.2 (.inl h)
theorem addK_nodup {ks : List Int} {n : Int} (h : ks.Nodup) : (addK ks n).Nodup := by
  unfold addK
  split
  · exact h
  · rename_i hn
    rw [List.nodup_append]
    refine ⟨h, by simp, fun a ha b hb => ?_⟩
    rw [List.mem_singleton.1 hb]
    rintro rfl
    exact hn ha
/-- Within a closed set that holds no literal and its opposite: nothing fails, and nothing leaves it. -/
theorem pass_in {T : List Int} {l : List (List Int)} (hT : closedIn T l) (ha : apart T) : ∀ (l2 : List (List Int)) (ks : List Int) (more : Bool), (∀ c ∈ l2, c ∈ l) → (∀ x ∈ ks, x ∈ T) → ∃ ks2 m2, passF ks more l2 = some (ks2, m2) ∧ (∀ x ∈ ks2, x ∈ T)
  | [], ks, more, _, hk => ⟨ks, more, rfl, hk⟩
  | c :: l2, ks, more, hl, hk => by
    have hc := hT c (hl c List.mem_cons_self)
    have hl2 : ∀ c ∈ l2, c ∈ l := fun c h => hl c (List.mem_cons_of_mem _ h)
    have opp : ∀ x, -x ∈ ks → x ∉ T := fun x hx hxT => ha x hxT (hk _ hx)
    unfold passF
    rcases open_seen ks c with ⟨e, _⟩ | ⟨h1, h2⟩
    · rw [if_neg (by rw [e]; decide), if_neg (by rw [e]; decide)]
      exact pass_in hT ha l2 ks more hl2 hk
    · rcases h2 with ⟨e, hall⟩ | ⟨e, ho, hno, hall⟩ | ⟨e, _⟩
      · exfalso
        rcases hc with ⟨n, hn, hnT⟩ | ⟨m1, hm1, m2, hm2, hne, g1, g2⟩
        · exact opp n (hall n hn) hnT
        · exact g1 (hk _ (hall m1 hm1))
      · rw [if_neg (by rw [e]; decide), if_pos e]
        refine pass_in hT ha l2 _ true hl2 (addK_sub hk ?_)
        rcases hc with ⟨n, hn, hnT⟩ | ⟨m1, hm1, m2, hm2, hne, g1, g2⟩
        · rcases hall n hn with rfl | h9
          · exact hnT
          · exact absurd hnT (opp n h9)
        · exfalso
          rcases hall m1 hm1 with e1 | h9
          · rcases hall m2 hm2 with e2 | h9
            · exact hne (e1.trans e2.symm)
            · exact g2 (hk _ h9)
          · exact g1 (hk _ h9)
      · rw [if_neg (by rw [e]; decide), if_neg (by rw [e]; decide)]
        exact pass_in hT ha l2 ks more hl2 hk
theorem loop_in {T : List Int} {l : List (List Int)} (hT : closedIn T l) (ha : apart T) : ∀ (g : Nat) (ks : List Int) (more : Bool) (r : Option (List Int)), (∀ x ∈ ks, x ∈ T) → loopF g ks more l = some r → ∃ ks2, r = some ks2 ∧ ∀ x ∈ ks2, x ∈ T
  | 0, ks, more, r, _, h => by simp [loopF] at h
  | g + 1, ks, more, r, hk, h => by
    unfold loopF at h
    split at h
    · exact ⟨ks, (Option.some.inj h).symm, hk⟩
    · obtain ⟨ks2, m2, e, hk2⟩ := pass_in hT ha l ks false (fun _ h => h) hk
      rw [e] at h
      exact loop_in hT ha g ks2 m2 r hk2 h
theorem seed_in {T : List Int} (ha : apart T) : ∀ (sure ks : List Int), (∀ x ∈ ks, x ∈ T) → (∀ x ∈ sure, x ∈ T) → ∃ ks2, seedF ks sure = some ks2 ∧ ∀ x ∈ ks2, x ∈ T
  | [], ks, hk, _ => ⟨ks, rfl, hk⟩
  | n :: r, ks, hk, hs => by
    have h1 := addK_sub hk (hs n List.mem_cons_self)
    unfold seedF
    rw [if_neg (fun h => ha n (hs n List.mem_cons_self) (h1 _ h))]
    exact seed_in ha r _ h1 (fun x hx => hs x (List.mem_cons_of_mem _ hx))
theorem start_in {T : List Int} {l : List (List Int)} (hT : closedIn T l) (ha : apart T) {sure : List Int} (hs : ∀ x ∈ sure, x ∈ T) {g : Nat} {r : Option (List Int)} (h : startF l sure g = some r) : ∃ ks, r = some ks ∧ ∀ x ∈ ks, x ∈ T := by
  obtain ⟨ks, e, hk⟩ := seed_in ha sure [] (fun x hx => by cases hx) hs
  unfold startF at h
  rw [e] at h
  exact loop_in hT ha g ks true r hk h
/-- What a pass keeps. -/
theorem pass_keeps : ∀ (l : List (List Int)) (ks : List Int) (more : Bool) (ks2 : List Int) (m2 : Bool), passF ks more l = some (ks2, m2) → (∀ c ∈ l, ∀ x ∈ c, x ≠ 0) → apart ks → ks.Nodup → (∀ x ∈ ks, x ∈ ks2) ∧ apart ks2 ∧ ks2.Nodup ∧ (m2 = false → more = false ∧ ks2 = ks ∧ closedIn ks l)
  | [], ks, more, ks2, m2, h, hz, ha, hd => by
    simp only [passF, Option.some.injEq, Prod.mk.injEq] at h
    obtain ⟨rfl, rfl⟩ := h
    exact ⟨fun _ h => h, ha, hd, fun e => ⟨e, rfl, fun c hc => by cases hc⟩⟩
  | c :: l, ks, more, ks2, m2, h, hz, ha, hd => by
    have hz2 : ∀ c ∈ l, ∀ x ∈ c, x ≠ 0 := fun c hc => hz c (List.mem_cons_of_mem _ hc)
    unfold passF at h
    rcases open_seen ks c with ⟨e, n, hn, hnk⟩ | ⟨h1, h2⟩
    · rw [if_neg (by rw [e]; decide), if_neg (by rw [e]; decide)] at h
      obtain ⟨a, b, d, k⟩ := pass_keeps l ks more ks2 m2 h hz2 ha hd
      refine ⟨a, b, d, fun e9 => ⟨(k e9).1, (k e9).2.1, fun c9 hc9 => ?_⟩⟩
      rcases List.mem_cons.1 hc9 with rfl | hc9
      · exact .inl ⟨n, hn, hnk⟩
      · exact (k e9).2.2 c9 hc9
    · rcases h2 with ⟨e, hall⟩ | ⟨e, ho, hno, hall⟩ | ⟨e, hh⟩
      · rw [if_pos e] at h; cases h
      · rw [if_neg (by rw [e]; decide), if_pos e] at h
        generalize (openF ks c 0 0).1 = n at *
        have hn0 := hz c List.mem_cons_self n ho
        have ha2 : apart (addK ks n) := by
          intro x hx hnx
          rcases mem_addK.1 hx with hx | rfl
          · rcases mem_addK.1 hnx with hnx | hnx
            · exact ha x hx hnx
            · apply hno; rw [← hnx]; simpa using hx
          · rcases mem_addK.1 hnx with hnx | hnx
            · exact hno hnx
            · omega
        obtain ⟨a, b, d, k⟩ := pass_keeps l (addK ks n) true ks2 m2 h hz2 ha2 (addK_nodup hd)
        exact ⟨fun x hx => a x (addK_keeps hx), b, d, fun e9 => absurd (k e9).1 (by decide)⟩
      · rw [if_neg (by rw [e]; decide), if_neg (by rw [e]; decide)] at h
        obtain ⟨a, b, d, k⟩ := pass_keeps l ks more ks2 m2 h hz2 ha hd
        refine ⟨a, b, d, fun e9 => ⟨(k e9).1, (k e9).2.1, fun c9 hc9 => ?_⟩⟩
        rcases List.mem_cons.1 hc9 with rfl | hc9
        · exact .inr hh
        · exact (k e9).2.2 c9 hc9
theorem loop_keeps {l : List (List Int)} (hz : ∀ c ∈ l, ∀ x ∈ c, x ≠ 0) : ∀ (g : Nat) (ks : List Int) (more : Bool) (ks2 : List Int), loopF g ks more l = some (some ks2) → apart ks → ks.Nodup → (more = false → closedIn ks l) → (∀ x ∈ ks, x ∈ ks2) ∧ apart ks2 ∧ ks2.Nodup ∧ closedIn ks2 l
  | 0, ks, more, ks2, h, _, _, _ => by simp [loopF] at h
  | g + 1, ks, more, ks2, h, ha, hd, hm => by
    unfold loopF at h
    split at h
    · rename_i e
      have := Option.some.inj (Option.some.inj h)
      subst this
      exact ⟨fun _ h => h, ha, hd, hm e⟩
    · cases hp : passF ks false l with
      | none => rw [hp] at h; simp at h
      | some q =>
        obtain ⟨ks3, m3⟩ := q
        rw [hp] at h
        obtain ⟨a, b, d, k⟩ := pass_keeps l ks false ks3 m3 hp hz ha hd
        obtain ⟨a2, b2, d2, k2⟩ := loop_keeps hz g ks3 m3 ks2 h b d (fun e9 => by rw [(k e9).2.1]; exact (k e9).2.2)
        exact ⟨fun x hx => a2 x (a x hx), b2, d2, k2⟩
theorem seed_keeps : ∀ (sure ks ks2 : List Int), seedF ks sure = some ks2 → (∀ x ∈ sure, x ≠ 0) → apart ks → ks.Nodup → (∀ x ∈ ks, x ∈ ks2) ∧ (∀ x ∈ sure, x ∈ ks2) ∧ apart ks2 ∧ ks2.Nodup
  | [], ks, ks2, h, _, ha, hd => by
    simp only [seedF, Option.some.injEq] at h
    subst h
    exact ⟨fun _ h => h, fun x hx => (by cases hx), ha, hd⟩
  | n :: r, ks, ks2, h, hz, ha, hd => by
    unfold seedF at h
    split at h
    · cases h
    · rename_i hno
      have hn0 := hz n List.mem_cons_self
      have hno2 : -n ∉ ks := fun h9 => hno (addK_keeps h9)
      have ha2 : apart (addK ks n) := by
        intro x hx hnx
        rcases mem_addK.1 hx with hx | rfl
        · rcases mem_addK.1 hnx with hnx | hnx
          · exact ha x hx hnx
          · apply hno2; rw [← hnx]; simpa using hx
        · exact hno hnx
      obtain ⟨a, b, c, d⟩ := seed_keeps r _ ks2 h (fun x hx => hz x (List.mem_cons_of_mem _ hx)) ha2 (addK_nodup hd)
      refine ⟨fun x hx => a x (addK_keeps hx), fun x hx => ?_, c, d⟩
      rcases List.mem_cons.1 hx with rfl | hx
      · exact a x (mem_addK.2 (.inr rfl))
      · exact b x hx
theorem start_keeps {l : List (List Int)} (hz : ∀ c ∈ l, ∀ x ∈ c, x ≠ 0) {sure ks : List Int} (hs : ∀ x ∈ sure, x ≠ 0) {g : Nat} (h : startF l sure g = some (some ks)) : (∀ x ∈ sure, x ∈ ks) ∧ apart ks ∧ ks.Nodup ∧ closedIn ks l := by
  unfold startF at h
  cases hq : seedF [] sure with
  | none => rw [hq] at h; simp at h
  | some ks1 =>
    rw [hq] at h
    obtain ⟨_, a, b, c⟩ := seed_keeps sure [] ks1 hq hs (fun x hx => by cases hx) List.nodup_nil
    obtain ⟨a2, b2, c2, d2⟩ := loop_keeps hz g ks1 true ks h b c (fun e => by cases e)
    exact ⟨fun x hx => a2 x (a x hx), b2, c2, d2⟩
/-- Of more that is true more follows. -/
theorem start_more {l : List (List Int)} (hz : ∀ c ∈ l, ∀ x ∈ c, x ≠ 0) {s1 s2 ks2 : List Int} (hs : ∀ x ∈ s2, x ≠ 0) (hsub : ∀ x ∈ s1, x ∈ s2) {g1 g2 : Nat} {r1 : Option (List Int)} (h1 : startF l s1 g1 = some r1) (h2 : startF l s2 g2 = some (some ks2)) : ∃ ks1, r1 = some ks1 ∧ ∀ x ∈ ks1, x ∈ ks2 := by
  obtain ⟨a, b, c, d⟩ := start_keeps hz hs h2
  exact start_in d b (fun x hx => a x (hsub x hx)) h1
theorem mem_sortedF {ks : List Int} {x : Int} : x ∈ sortedF (some ks) ↔ x ∈ ks := (List.mergeSort_perm ks _).mem_iff
theorem sorted_eq {a b : List Int} (ha : a.Nodup) (hb : b.Nodup) (h : ∀ x, x ∈ a ↔ x ∈ b) : sortedF (some a) = sortedF (some b) := by
  have hp : a.Perm b := (List.perm_ext_iff_of_nodup ha hb).2 h
  exact sort_perm hp
/-- What has spread spreads no further. -/
theorem start_again {l : List (List Int)} (hz : ∀ c ∈ l, ∀ x ∈ c, x ≠ 0) {s1 ks : List Int} (hs : ∀ x ∈ s1, x ≠ 0) (hks : ∀ x ∈ ks, x ≠ 0) {g1 g2 : Nat} {r : Option (List Int)} (h1 : startF l s1 g1 = some (some ks)) (h2 : startF l (sortedF (some ks)) g2 = some r) : ∃ ks3, r = some ks3 ∧ sortedF (some ks3) = sortedF (some ks) := by
  obtain ⟨a, b, c, d⟩ := start_keeps hz hs h1
  obtain ⟨ks3, rfl, h3⟩ := start_in d b (fun x hx => mem_sortedF.1 hx) h2
  obtain ⟨a3, b3, c3, d3⟩ := start_keeps hz (fun x hx => hks x (mem_sortedF.1 hx)) h2
  exact ⟨ks3, rfl, sorted_eq c3 c (fun x => ⟨h3 x, fun hx => a3 x (mem_sortedF.2 hx)⟩)⟩
end Go.Proofs.YtaibjaienhnckaaGreatDoor
