/- The law JitterOrders: what is held, plain. -/
import Derived.Test.YtlnikmcimmnbmaaJitS
namespace Go.Proofs.Ytlnikmcimmnbmaa
set_option linter.unusedSimpArgs false
set_option linter.unusedVariables false
open Go.RowKit Go.Lib
set_option maxRecDepth 100000

/-- All that came, and nothing else, is held. -/
structure Ord12 (b : Jb) (room f : Int) (cs : List Bool) : Prop where
  ok : JOK b
  rm : b.room = room
  begun : b.begun = true
  hi : b.hi = f
  len : cs.length = 9
  mem : ∀ h ∈ b.holds, ∃ i : Nat, (i : Int) < room ∧ h = (f + 1 + (i : Int), 0, (i : Int)) ∧ cs.getD i false = true
  all : ∀ i : Nat, (i : Int) < room → cs.getD i false = true → (f + 1 + (i : Int), 0, (i : Int)) ∈ b.holds
theorem ord_came {b : Jb} {room f : Int} {cs : List Bool} (o : Ord12 b room f cs) {i : Nat} (hi : (i : Int) < room) (hc : cs.getD i false = true) : pushJ b (f + 1 + i) 0 i = (b, 10) := by
  have hs : sameJ b (f + 1 + i) = true := by unfold sameJ; rw [List.any_eq_true]; exact ⟨_, o.all i hi hc, by simp⟩
  unfold pushJ
  rw [hs]
  rfl
theorem ord_full {b : Jb} {room f : Int} {cs : List Bool} (o : Ord12 b room f cs) {i : Nat} (hi : (i : Int) < room) (hc : cs.getD i false = false) : (b.holds.length : Int) < room := by
  have hr := o.ok.room
  rw [o.rm] at hr
  have hsub : (i :: b.holds.map fun h => (h.1 - f - 1).toNat) ⊆ List.range room.toNat := by
    intro x hx
    rw [List.mem_range]
    rcases List.mem_cons.1 hx with rfl | hx
    · omega
    · obtain ⟨h, hh, rfl⟩ := List.mem_map.1 hx
      obtain ⟨t, ht, rfl, _⟩ := o.mem h hh
      simp only
      omega
  have hnd : (i :: b.holds.map fun h => (h.1 - f - 1).toNat).Nodup := by
    rw [List.nodup_cons]
    constructor
    · intro hx
      obtain ⟨h, hh, e⟩ := List.mem_map.1 hx
      obtain ⟨t, ht, rfl, hct⟩ := o.mem h hh
      have : t = i := by simp only at e; omega
      subst this
      rw [hc] at hct
      cases hct
    · rw [List.Nodup, List.pairwise_map]
      refine List.Pairwise.imp_of_mem ?_ o.ok.rise
      intro a c ha hc' hac e
      obtain ⟨t, ht, rfl, _⟩ := o.mem a ha
      obtain ⟨u, hu, rfl, _⟩ := o.mem c hc'
      simp only at hac e
      omega
  have := nodup_len hnd hsub
  rw [List.length_cons, List.length_map, List.length_range] at this
  omega
theorem ord_new {b : Jb} {room f : Int} {cs : List Bool} (o : Ord12 b room f cs) {i : Nat} (hi : (i : Int) < room) (hc : cs.getD i false = false) (hn : Num60 (f + 1 + i)) :
    pushJ b (f + 1 + i) 0 i = ({ b with holds := insJ b.holds (f + 1 + (i : Int), 0, (i : Int)) }, 0) ∧ Ord12 { b with holds := insJ b.holds (f + 1 + (i : Int), 0, (i : Int)) } room f (cs.set i true) := by
  have hs : sameJ b (f + 1 + i) = false := by
    rw [sameJ_iff]
    intro k hk e
    obtain ⟨t, ht, rfl, hct⟩ := o.mem k hk
    have : t = i := by simp only at e; omega
    subst this
    rw [hc] at hct
    cases hct
  have hk : know b.hi b.bits (f + 1 + i) = false := by
    cases hk : know b.hi b.bits (f + 1 + i) with
    | false => rfl
    | true => have := (know_in hk).1; rw [o.hi] at this; omega
  have hfull := ord_full o hi hc
  have hp : pushJ b (f + 1 + i) 0 i = ({ b with holds := insJ b.holds (f + 1 + (i : Int), 0, (i : Int)) }, 0) := by
    unfold pushJ
    rw [hs, hk, if_neg (by simp), if_neg (by rw [o.hi]; simp; intro _; omega), if_neg (by rw [o.rm]; omega)]
  have hok := push_ok o.ok (x := i) hn (show Num60 0 from ⟨by decide, by decide⟩)
  rw [hp] at hok
  have h9 : i < 9 := by have := o.ok.room; rw [o.rm] at this; omega
  refine ⟨hp, hok, o.rm, o.begun, o.hi, by rw [List.length_set]; exact o.len, ?_, ?_⟩
  · intro h hh
    rcases (insJ_mem _ _ h).1 hh with rfl | hh
    · exact ⟨i, hi, rfl, by rw [List.getD_eq_getElem?_getD, List.getElem?_set_self (by rw [o.len]; exact h9)]; rfl⟩
    · obtain ⟨t, ht, e, hct⟩ := o.mem h hh
      refine ⟨t, ht, e, ?_⟩
      by_cases et : i = t
      · subst et
        rw [hc] at hct
        cases hct
      · rw [List.getD_eq_getElem?_getD, List.getElem?_set_ne et, ← List.getD_eq_getElem?_getD]; exact hct
  · intro t ht hct
    refine (insJ_mem _ _ _).2 ?_
    by_cases et : i = t
    · subst et; exact Or.inl rfl
    · rw [List.getD_eq_getElem?_getD, List.getElem?_set_ne et, ← List.getD_eq_getElem?_getD] at hct
      exact Or.inr (o.all t ht hct)
theorem set_same {cs : List Bool} {i : Nat} (h : cs.getD i false = true) : cs.set i true = cs := by
  refine List.ext_getElem (by simp) fun t h1 h2 => ?_
  rw [List.getElem_set]
  split
  · rename_i e
    subst e
    rw [List.getD_eq_getElem?_getD, List.getElem?_eq_getElem h2] at h
    exact h.symm
  · rfl
theorem set_has {cs : List Bool} {i t : Nat} (hl : i < cs.length) (h : cs.getD t false = true ∨ t = i) : (cs.set i true).getD t false = true := by
  by_cases e : i = t
  · subst e; rw [List.getD_eq_getElem?_getD, List.getElem?_set_self hl]; rfl
  · rw [List.getD_eq_getElem?_getD, List.getElem?_set_ne e, ← List.getD_eq_getElem?_getD]
    exact h.elim id fun x => absurd x.symm e
/-- What is left when all came, and some went out. -/
structure Out12 (b : Jb) (room f : Int) (i : Nat) : Prop where
  ok : JOK b
  begun : b.begun = true
  hi : b.hi = f + (i : Int)
  mem : ∀ h, h ∈ b.holds ↔ ∃ t : Nat, i ≤ t ∧ (t : Int) < room ∧ h = (f + 1 + (t : Int), 0, (t : Int))
theorem Out12.start {b : Jb} {room f : Int} {cs : List Bool} (o : Ord12 b room f cs) (h : ∀ t : Nat, (t : Int) < room → cs.getD t false = true) : Out12 b room f 0 :=
  ⟨o.ok, o.begun, by rw [o.hi]; simp, fun k => ⟨fun hk => by
    obtain ⟨t, ht, e, _⟩ := o.mem k hk
    exact ⟨t, by omega, ht, e⟩, fun ⟨t, _, ht, e⟩ => by rw [e]; exact o.all t ht (h t ht)⟩⟩
theorem out_pop {b : Jb} {room f : Int} {i : Nat} (o : Out12 b room f i) (hi : (i : Int) < room) :
    popJ b 0 = (leastJ b, f + 1 + (i : Int), (i : Int), true) ∧ Out12 (leastJ b) room f (i + 1) ∧ pushJ (leastJ b) (f + 1 + (i : Int)) 0 0 = (leastJ b, 10) := by
  have hmem := (o.mem (f + 1 + (i : Int), 0, (i : Int))).2 ⟨i, Nat.le_refl _, hi, rfl⟩
  cases hb : b.holds with
  | nil => rw [hb] at hmem; cases hmem
  | cons k T =>
    have hr := o.ok.rise
    rw [hb, List.pairwise_cons] at hr
    have hk : k = (f + 1 + (i : Int), 0, (i : Int)) := by
      rw [hb] at hmem
      rcases List.mem_cons.1 hmem with e | e
      · exact e.symm
      · have h1 := hr.1 _ e
        obtain ⟨t, ht, _, rfl⟩ := (o.mem k).1 (by rw [hb]; exact List.mem_cons_self)
        simp only at h1
        omega
    obtain ⟨l1, l2, l3⟩ := least_hi o.ok hb
    have hrd : readyJ b 0 = true := by
      unfold readyJ
      rw [hb]
      have : (k.1 == b.hi + 1) = true := by rw [hk, o.hi]; simp; omega
      simp [this]
    obtain ⟨k', T', hb', hp⟩ := pop_yes hrd
    rw [hb] at hb'
    injection hb' with e1 e2
    subst e1 e2
    refine ⟨by rw [hp, hk], ⟨least_ok o.ok hb, l1, by rw [l2, hk]; push_cast; omega, fun h => ?_⟩, ?_⟩
    · rw [l3]
      constructor
      · intro hh
        obtain ⟨t, ht, hu, e⟩ := (o.mem h).1 (by rw [hb]; exact List.mem_cons_of_mem _ hh)
        have := hr.1 h hh
        rw [hk, e] at this
        simp only at this
        exact ⟨t, by omega, hu, e⟩
      · rintro ⟨t, ht, hu, e⟩
        have := (o.mem h).2 ⟨t, by omega, hu, e⟩
        rw [hb] at this
        rcases List.mem_cons.1 this with e2 | e2
        · rw [e2, hk] at e
          have := congrArg (fun y : Hd => y.2.2) e
          simp only at this
          omega
        · exact e2
    · have hkn : know (leastJ b).hi (leastJ b).bits (f + 1 + (i : Int)) = true := by
        have e : leastJ b = { b with holds := T, begun := true, hi := (winJ b k.1).1, bits := (winJ b k.1).2 } := by unfold leastJ; rw [hb]
        rw [e]
        show know (winJ b k.1).1 (winJ b k.1).2 (f + 1 + (i : Int)) = true
        have ew : winJ b k.1 = mark b.hi b.bits k.1 := by unfold winJ; rw [o.begun]; rfl
        rw [ew, hk, o.hi, know_mark _ _ _ _ o.ok.bits]
        simp
        omega
      unfold pushJ
      rw [hkn, l1]
      simp
theorem out_end {b : Jb} {room f : Int} {i : Nat} (o : Out12 b room f i) (hi : ¬ (i : Int) < room) : b.holds = [] := by
  cases hb : b.holds with
  | nil => rfl
  | cons k T =>
    obtain ⟨t, ht, hu, _⟩ := (o.mem k).1 (by rw [hb]; exact List.mem_cons_self)
    omega
/-- The first number. -/
def jo1 (room wait f : Int) : Jb := ⟨room, wait, [(f, 0, 0)], false, 0, 0⟩
def jo2 (room wait f : Int) : Jb := ⟨room, wait, [], true, f, 1⟩
theorem jo_push {room wait : Int} (f : Int) (h : newOK room wait) : pushJ (newJ room wait) f 0 0 = (jo1 room wait f, 0) := by
  have h1 := h.1
  unfold pushJ newJ sameJ
  simp only [List.any_nil, Bool.false_and, Bool.or_self, List.length_nil]
  rw [if_neg (by simp), if_neg (by simp), if_neg (by simp; omega)]
  rfl
theorem jo_pop (room wait f : Int) : popJ (jo1 room wait f) 0 = (jo2 room wait f, f, 0, true) := rfl
theorem jo2_ord {room wait f : Int} (h : newOK room wait) (hf : Num60 f) : Ord12 (jo2 room wait f) room f [false, false, false, false, false, false, false, false, false] :=
  ⟨⟨⟨h.1, h.2.1⟩, ⟨h.2.2.1, h.2.2.2⟩, (by show ((0 : Nat) : Int) ≤ room; have := h.1; omega), fun k hk => (by cases hk), List.Pairwise.nil, hf, (show U64 1 from ⟨by decide, by decide⟩), fun _ k hk => (by cases hk)⟩,
    rfl, rfl, rfl, rfl, fun k hk => (by cases hk), fun i hi hc => by
      have h9 : i < 9 := by have := h.2.1; omega
      have : i = 0 ∨ i = 1 ∨ i = 2 ∨ i = 3 ∨ i = 4 ∨ i = 5 ∨ i = 6 ∨ i = 7 ∨ i = 8 := by omega
      rcases this with rfl | rfl | rfl | rfl | rfl | rfl | rfl | rfl | rfl <;> cases hc⟩
theorem jo1_ok {room wait f : Int} (h : newOK room wait) (hf : Num60 f) : JOK (jo1 room wait f) := by
  have := push_ok (newJ_ok h) hf (x := 0) (show Num60 0 from ⟨by decide, by decide⟩)
  rw [jo_push f h] at this
  exact this
end Go.Proofs.Ytlnikmcimmnbmaa
