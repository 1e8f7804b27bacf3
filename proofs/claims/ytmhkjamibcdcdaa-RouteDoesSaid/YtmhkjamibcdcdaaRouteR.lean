/- Package route and the document's table answer alike: Publish, an act, the rows. -/
import Derived.Test.YtmhkjamibcdcdaaRouteQ
namespace Go.Proofs.Ytmhkjamibcdcdaa
open Go.RowKit
set_option maxRecDepth 100000

theorem RR.pub {t : TS} {r : RS} (h : RR t r) (p s0 s1 s2 : Int) (tk : Bool) (ht : tk = true ↔ Taken r s0 s1 s2) : (pubT t p s0 s1 s2).2 = (rPub r p s0 s1 s2 tk).2 ∧ RR (pubT t p s0 s1 s2).1 (rPub r p s0 s1 s2 tk).1 := by
  refine ⟨h.pub_ret p s0 s1 s2 tk ht, ?_⟩
  unfold pubT rPub
  have hs := h.s1 p 0
  have htk := ht.trans (h.taken s0 s1 s2)
  by_cases h1 : 0 ≤ p ∧ p < 3
  · rw [if_pos h1]
    by_cases h2 : dup3 s0 s1 s2
    · have h3 : ¬ ((0 ≤ p ∧ p < 3) ∧ ¬ (s0 = s1 ∨ s0 = s2 ∨ s1 = s2)) := fun g => g.2 (by unfold dup3 at h2; omega)
      rw [if_pos h2, if_neg h3]
      exact h
    · have h3 : (0 ≤ p ∧ p < 3) ∧ ¬ (s0 = s1 ∨ s0 = s2 ∨ s1 = s2) := ⟨h1, by unfold dup3 at h2; omega⟩
      rw [if_neg h2, if_pos h3]
      by_cases h4 : r.pb p.toNat = true
      · rw [if_pos ⟨h1, by omega, h4⟩] at hs
        rw [hs, if_pos h4]
        exact h
      · rw [if_neg (fun g => h4 g.2.2)] at hs
        rw [hs, if_neg h4]
        by_cases h5 : tk = true
        · have h6 := htk.1 h5
          simp only [h5, h6, if_true]
          exact h
        · have h6 : ¬ _ := fun g => h5 (htk.2 g)
          simp only [h6, h5]
          have g0 : mget t.o s0 = none := by
            cases e : mget t.o s0 with
            | none => rfl
            | some z => exact absurd (Or.inl (by rw [e]; rfl)) h6
          have g1 : mget t.o s1 = none := by
            cases e : mget t.o s1 with
            | none => rfl
            | some z => exact absurd (Or.inr (Or.inl (by rw [e]; rfl))) h6
          have g2 : mget t.o s2 = none := by
            cases e : mget t.o s2 with
            | none => rfl
            | some z => exact absurd (Or.inr (Or.inr (by rw [e]; rfl))) h6
          have hp : ((p.toNat : Nat) : Int) = p := by omega
          have := h.put3 p.toNat (by omega) h2 (by simpa using h4) g0 g1 g2
          rw [hp] at this
          simpa using this
  · have h3 : ¬ ((0 ≤ p ∧ p < 3) ∧ ¬ (s0 = s1 ∨ s0 = s2 ∨ s1 = s2)) := fun g => h1 g.1
    rw [if_neg h1, if_neg h3]
    exact h
theorem RR.do {t : TS} {r : RS} (h : RR t r) (hn : (t.u.map Prod.fst).Nodup) (y : A19) (tk : Bool) (ht : tk = true ↔ Taken r y.s0 y.s1 y.s2) : (doT t y).2 = (doR r y tk).2 ∧ RR (doT t y).1 (doR r y tk).1 := by
  unfold doT doR
  by_cases h0 : y.d = 0
  · rw [if_pos h0, if_pos h0]
    exact h.pub _ _ _ _ _ ht
  rw [if_neg h0, if_neg h0]
  by_cases h1 : y.d = 1
  · rw [if_pos h1, if_pos h1]
    exact h.join _ _
  rw [if_neg h1, if_neg h1]
  by_cases h2 : y.d = 2
  · rw [if_pos h2, if_pos h2]
    exact h.leave hn _
  rw [if_neg h2, if_neg h2]
  by_cases h3 : y.d = 3
  · rw [if_pos h3, if_pos h3]
    exact h.sub _ _
  rw [if_neg h3, if_neg h3]
  by_cases h4 : y.d = 4
  · rw [if_pos h4, if_pos h4]
    exact h.unsub _
  rw [if_neg h4, if_neg h4]
  exact ⟨rfl, h⟩
theorem rise_eq : ∀ {a b : List Int}, a.Pairwise (· < ·) → b.Pairwise (· < ·) → (∀ x, x ∈ a ↔ x ∈ b) → a = b
  | [], [], _, _, _ => rfl
  | [], y :: b, _, _, h => by have := (h y).2 List.mem_cons_self; cases this
  | x :: a, [], _, _, h => by have := (h x).1 List.mem_cons_self; cases this
  | x :: a, y :: b, ha, hb, h => by
    rw [List.pairwise_cons] at ha hb
    have e : x = y := by
      rcases List.mem_cons.1 ((h x).1 List.mem_cons_self) with e | e
      · exact e
      · rcases List.mem_cons.1 ((h y).2 List.mem_cons_self) with e2 | e2
        · exact e2.symm
        · have := hb.1 x e
          have := ha.1 y e2
          omega
    subst e
    congr 1
    refine rise_eq ha.2 hb.2 fun z => ?_
    have hz := h z
    simp only [List.mem_cons] at hz
    constructor
    · intro m
      rcases hz.1 (Or.inr m) with e | e
      · have := ha.1 z m; omega
      · exact e
    · intro m
      rcases hz.2 (Or.inr m) with e | e
      · have := hb.1 z m; omega
      · exact e
theorem pick6_lt (pr : Nat → Bool) (n : Nat) : (pick6 pr n).Pairwise (· < ·) := by
  unfold pick6
  rw [List.pairwise_map]
  exact ((List.pairwise_lt_range (n := n)).filter pr).imp fun h => by omega
theorem pick6_mem (pr : Nat → Bool) (n : Nat) (x : Int) : x ∈ pick6 pr n ↔ 0 ≤ x ∧ x < n ∧ pr x.toNat = true := by
  unfold pick6
  rw [List.mem_map]
  constructor
  · rintro ⟨k, hk, rfl⟩
    rw [List.mem_filter, List.mem_range] at hk
    exact ⟨by omega, by omega, by simpa using hk.2⟩
  · rintro ⟨h1, h2, h3⟩
    exact ⟨x.toNat, by rw [List.mem_filter, List.mem_range]; exact ⟨by omega, h3⟩, by omega⟩
theorem whichP_mem {u : List (Int × Sb)} (hn : (u.map Prod.fst).Nodup) (pr : Sb → Bool) (x : Int) : x ∈ whichT pr u ↔ ∃ sb, mget u x = some sb ∧ pr sb = true := by
  unfold whichT selT
  rw [srt_mem, List.mem_filterMap]
  constructor
  · rintro ⟨⟨k, sb⟩, hm, h⟩
    by_cases e : pr sb = true
    · simp only [e, if_true] at h
      cases h
      exact ⟨sb, (mget_in hn).2 hm, e⟩
    · simp [e] at h
  · rintro ⟨sb, h1, h2⟩
    exact ⟨(x, sb), (mget_in hn).1 h1, by simp [h2]⟩
theorem whichP_nd {u : List (Int × Sb)} (hn : (u.map Prod.fst).Nodup) (pr : Sb → Bool) : (whichT pr u).Nodup := by
  unfold whichT srt
  rw [(List.mergeSort_perm _ _).nodup_iff]
  have : selT pr u = (u.filter fun q => pr q.2).map Prod.fst := by
    unfold selT
    induction u with
    | nil => rfl
    | cons q l ih =>
      have ih := ih (by simp only [List.map_cons, List.nodup_cons] at hn; exact hn.2)
      by_cases e : pr q.2 = true <;> simp [e, ih]
  rw [this]
  exact List.Nodup.sublist ((List.filter_sublist).map _) hn
theorem whichP_lt {u : List (Int × Sb)} (hn : (u.map Prod.fst).Nodup) (pr : Sb → Bool) : (whichT pr u).Pairwise (· < ·) := by
  have h1 : (whichT pr u).Pairwise (· ≤ ·) := srt_pair _
  have h2 := whichP_nd hn pr
  refine (h1.and h2).imp fun {a b} h => ?_
  have := h.1
  have := h.2
  omega
theorem RR.owns {t : TS} {r : RS} (h : RR t r) (hn : (t.u.map Prod.fst).Nodup) (own : Int) : whichT (prOwn own) t.u = pick6 (rOwns r own) 6 := by
  refine rise_eq (whichP_lt hn _) (pick6_lt _ _) fun x => ?_
  rw [whichP_mem hn, pick6_mem, h.u1 x]
  by_cases h1 : 0 ≤ x ∧ x < 6
  · by_cases h2 : r.he x.toNat = true
    · rw [if_pos ⟨h1, h2⟩]
      simp [prOwn, rOwns, h2, h1]
    · rw [if_neg (fun g => h2 g.2)]
      simp [rOwns, h2]
  · rw [if_neg (fun g => h1 g.1)]
    constructor
    · rintro ⟨sb, e, _⟩; cases e
    · rintro ⟨a, b, _⟩; exact absurd ⟨a, b⟩ h1
theorem RR.subs {t : TS} {r : RS} (h : RR t r) (hn : (t.u.map Prod.fst).Nodup) (p : Int) : whichT (prPub p) t.u = pick6 (rSubs r p) 6 := by
  refine rise_eq (whichP_lt hn _) (pick6_lt _ _) fun x => ?_
  rw [whichP_mem hn, pick6_mem, h.u1 x]
  by_cases h1 : 0 ≤ x ∧ x < 6
  · by_cases h2 : r.he x.toNat = true
    · rw [if_pos ⟨h1, h2⟩]
      by_cases h3 : 0 ≤ r.to x.toNat
      · simp only [prPub, rSubs, h2, h1, h3, Option.some.injEq]
        constructor
        · rintro ⟨sb, rfl, g⟩
          simp at g
          simp [g]
          omega
        · rintro ⟨_, _, g⟩
          simp at g
          exact ⟨_, rfl, by simp [g.2]⟩
      · simp only [prPub, rSubs, h2, h1, h3, Option.some.injEq]
        constructor
        · rintro ⟨sb, rfl, g⟩
          simp at g
        · rintro ⟨_, _, g⟩
          simp at g
          omega
    · rw [if_neg (fun g => h2 g.2)]
      simp [rSubs, h2]
  · rw [if_neg (fun g => h1 g.1)]
    constructor
    · rintro ⟨sb, e, _⟩; cases e
    · rintro ⟨a, b, _⟩; exact absurd ⟨a, b⟩ h1
end Go.Proofs.Ytmhkjamibcdcdaa
