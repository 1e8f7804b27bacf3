/- Package route and the document's table answer alike: plain. -/
import Derived.Test.YtmhkjamibcdcdaaRouteH
import Derived.Test.YtmhkjamibcdcdaaRouteP
namespace Go.Proofs.Ytmhkjamibcdcdaa
open Go.RowKit
set_option maxRecDepth 100000

structure RR (t : TS) (r : RS) : Prop where
  o1 : ∀ p k : Nat, p < 3 → k < 3 → r.pb p = true → mget t.o (r.sr p k) = some ((p : Int), (k : Int))
  o2 : ∀ s v, mget t.o s = some v → ∃ p k : Nat, p < 3 ∧ k < 3 ∧ r.pb p = true ∧ r.sr p k = s ∧ v = ((p : Int), (k : Int))
  s1 : ∀ a b : Int, mget t.s (a, b) = if (0 ≤ a ∧ a < 3) ∧ (0 ≤ b ∧ b < 3) ∧ r.pb a.toNat = true then some (r.sr a.toNat b.toNat) else none
  u1 : ∀ x : Int, mget t.u x = if (0 ≤ x ∧ x < 6) ∧ r.he x.toNat = true then some (r.ow x.toNat, decide (0 ≤ r.to x.toNat), if 0 ≤ r.to x.toNat then r.to x.toNat else 0) else none
  tb : ∀ x : Nat, x < 6 → -1 ≤ r.to x ∧ r.to x < 3
theorem RR.find {t : TS} {r : RS} (h : RR t r) {s : Int} {v : Option Og} (hv : RFd r s v) : v = mget t.o s := by
  cases v with
  | none =>
    cases e : mget t.o s with
    | none => rfl
    | some q =>
      obtain ⟨p, k, h1, h2, h3, h4, _⟩ := h.o2 s q e
      exact absurd h4 (hv.2 rfl p k h1 h2 h3)
  | some q =>
    obtain ⟨p, k, h1, h2, h3, h4, h5⟩ := hv.1 q rfl
    rw [← h4, h.o1 p k h1 h2 h3, h5]
theorem RR.src {t : TS} {r : RS} (h : RR t r) (k : Og) : ((mget t.s k).getD 0, (mget t.s k).isSome) = rSrc r k := by
  obtain ⟨a, b⟩ := k
  rw [h.s1 a b]
  unfold rSrc
  simp only
  split <;> rfl
theorem RR.of {t : TS} {r : RS} (h : RR t r) (x : Int) : (((mget t.u x).getD sb0).2.2, ((mget t.u x).getD sb0).2.1) = rOf r x := by
  rw [h.u1 x]
  unfold rOf
  by_cases h1 : 0 ≤ x ∧ x < 6
  · by_cases h2 : r.he x.toNat = true
    · by_cases h3 : 0 ≤ r.to x.toNat <;> simp [h1.1, h1.2, h2, h3, sb0]
    · rw [if_neg (fun g => h2 g.2), if_neg (fun g => h2 g.2.2.1)]
      rfl
  · rw [if_neg (fun g => h1 g.1), if_neg (fun g => h1 ⟨g.1, g.2.1⟩)]
    rfl
theorem RR.join {t : TS} {r : RS} (h : RR t r) (x own : Int) : (joinT t x own).2 = (rJoin r x own).2 ∧ RR (joinT t x own).1 (rJoin r x own).1 := by
  unfold joinT rJoin
  by_cases h1 : 0 ≤ x ∧ x < 6
  · rw [if_pos h1, if_pos h1]
    have hu := h.u1 x
    by_cases h2 : r.he x.toNat = true
    · rw [if_pos ⟨h1, h2⟩] at hu
      rw [if_pos (by rw [hu]; rfl), if_pos h2]
      exact ⟨rfl, h⟩
    · rw [if_neg (fun g => h2 g.2)] at hu
      rw [if_neg (by rw [hu]; simp), if_neg h2]
      refine ⟨rfl, h.o1, h.o2, h.s1, fun y => ?_, fun y hy => ?_⟩
      · simp only [mget_put]
        by_cases e : y = x
        · subst e
          simp [upd, h1]
        · rw [if_neg e, h.u1 y]
          by_cases g : 0 ≤ y ∧ y < 6
          · have : ¬ y.toNat = x.toNat := by omega
            simp [upd, this]
          · simp [g]
      · have := h.tb y hy
        simp only [upd]
        split <;> omega
  · rw [if_neg h1, if_neg h1]
    exact ⟨rfl, h⟩
theorem mget_del {K V : Type} [DecidableEq K] (k k' : K) : ∀ (m : List (K × V)), (m.map Prod.fst).Nodup → mget (mdel m k) k' = if k' = k then none else mget m k'
  | [], _ => by simp [mdel, mget]
  | (a, b) :: l, hn => by
    have hn' := hn
    simp only [List.map_cons, List.nodup_cons] at hn
    unfold mdel
    by_cases e : k = a
    · subst e
      rw [if_pos rfl]
      by_cases e2 : k' = k
      · subst e2
        rw [if_pos rfl]
        cases h : mget l k' with
        | none => rfl
        | some f => exact absurd (List.mem_map.2 ⟨_, (mget_in hn.2).1 h, rfl⟩) hn.1
      · simp [mget, e2]
    · rw [if_neg e]
      by_cases e2 : k' = a
      · subst e2
        have : ¬ k' = k := fun g => e g.symm
        simp [mget, this]
      · simp [mget, e2, mget_del k k' l hn.2]
theorem RR.leave {t : TS} {r : RS} (h : RR t r) (hn : (t.u.map Prod.fst).Nodup) (x : Int) : (leaveT t x).2 = (rLeave r x).2 ∧ RR (leaveT t x).1 (rLeave r x).1 := by
  unfold leaveT rLeave
  by_cases h1 : 0 ≤ x ∧ x < 6
  · rw [if_pos h1, if_pos h1]
    have hu := h.u1 x
    by_cases h2 : r.he x.toNat = true
    · rw [if_pos ⟨h1, h2⟩] at hu
      rw [if_pos (by rw [hu]; rfl), if_pos h2]
      refine ⟨rfl, h.o1, h.o2, h.s1, fun y => ?_, h.tb⟩
      simp only [mget_del _ _ _ hn]
      by_cases e : y = x
      · subst e
        simp [upd]
      · rw [if_neg e, h.u1 y]
        by_cases g : 0 ≤ y ∧ y < 6
        · have : ¬ y.toNat = x.toNat := by omega
          simp [upd, this]
        · simp [g]
    · rw [if_neg (fun g => h2 g.2)] at hu
      rw [if_neg (by rw [hu]; simp), if_neg h2]
      exact ⟨rfl, h⟩
  · rw [if_neg h1, if_neg h1]
    exact ⟨rfl, h⟩
theorem RR.unsub {t : TS} {r : RS} (h : RR t r) (x : Int) : (unsubT t x).2 = (rUnsub r x).2 ∧ RR (unsubT t x).1 (rUnsub r x).1 := by
  unfold unsubT rUnsub
  by_cases h1 : 0 ≤ x ∧ x < 6
  · rw [if_pos h1, if_pos h1]
    have hu := h.u1 x
    by_cases h2 : r.he x.toNat = true
    · rw [if_pos ⟨h1, h2⟩] at hu
      by_cases h3 : 0 ≤ r.to x.toNat
      · rw [if_pos (by rw [hu]; simp [h3]), if_pos ⟨h2, h3⟩]
        refine ⟨rfl, h.o1, h.o2, h.s1, fun y => ?_, fun y hy => ?_⟩
        · simp only [mget_put]
          by_cases e : y = x
          · subst e
            rw [hu]
            simp [upd, h1, h2]
          · rw [if_neg e, h.u1 y]
            by_cases g : 0 ≤ y ∧ y < 6
            · have : ¬ y.toNat = x.toNat := by omega
              simp [upd, this]
            · simp [g]
        · have := h.tb y hy
          simp only [upd]
          split <;> omega
      · rw [if_neg (by rw [hu]; simp [h3]), if_neg (fun g => h3 g.2)]
        exact ⟨rfl, h⟩
    · rw [if_neg (fun g => h2 g.2)] at hu
      rw [if_neg (by rw [hu]; simp), if_neg (fun g => h2 g.1)]
      exact ⟨rfl, h⟩
  · rw [if_neg h1, if_neg h1]
    exact ⟨rfl, h⟩
theorem RR.sub {t : TS} {r : RS} (h : RR t r) (x p : Int) : (subT t x p).2 = (rSub r x p).2 ∧ RR (subT t x p).1 (rSub r x p).1 := by
  unfold subT rSub
  by_cases h1 : (0 ≤ x ∧ x < 6) ∧ (0 ≤ p ∧ p < 3)
  · rw [if_pos h1, if_pos h1]
    have hu := h.u1 x
    have hs := h.s1 p 0
    by_cases h2 : r.he x.toNat = true
    · rw [if_pos ⟨h1.1, h2⟩] at hu
      by_cases h4 : r.pb p.toNat = true
      · rw [if_pos ⟨h1.2, by omega, h4⟩] at hs
        have hc : r.he x.toNat = true ∧ r.pb p.toNat = true := ⟨h2, h4⟩
        have hc2 : (mget t.u x).isSome = true ∧ (mget t.s (p, 0)).isSome = true := by rw [hu, hs]; simp
        rw [if_pos hc2, if_pos hc]
        by_cases h3 : 0 ≤ r.to x.toNat
        · rw [if_pos (by rw [hu]; simp [h3]), if_pos h3]
          exact ⟨rfl, h⟩
        · rw [if_neg (by rw [hu]; simp [h3]), if_neg h3]
          refine ⟨rfl, h.o1, h.o2, h.s1, fun y => ?_, fun y hy => ?_⟩
          · simp only [mget_put]
            by_cases e : y = x
            · subst e
              rw [hu]
              simp [upd, h1, h2]
            · rw [if_neg e, h.u1 y]
              by_cases g : 0 ≤ y ∧ y < 6
              · have : ¬ y.toNat = x.toNat := by omega
                simp [upd, this]
              · simp [g]
          · have := h.tb y hy
            simp only [upd]
            split <;> omega
      · rw [if_neg (fun g => h4 g.2.2)] at hs
        have hc : ¬ (r.he x.toNat = true ∧ r.pb p.toNat = true) := fun g => h4 g.2
        have hc2 : ¬ ((mget t.u x).isSome = true ∧ (mget t.s (p, 0)).isSome = true) := by rw [hs]; simp
        rw [if_neg hc2, if_neg hc]
        exact ⟨rfl, h⟩
    · rw [if_neg (fun g => h2 g.2)] at hu
      have hc : ¬ (r.he x.toNat = true ∧ r.pb p.toNat = true) := fun g => h2 g.1
      have hc2 : ¬ ((mget t.u x).isSome = true ∧ (mget t.s (p, 0)).isSome = true) := by rw [hu]; simp
      rw [if_neg hc2, if_neg hc]
      exact ⟨rfl, h⟩
  · rw [if_neg h1, if_neg h1]
    exact ⟨rfl, h⟩
def rs0 : RS := ⟨fun _ => false, fun _ _ => 0, fun _ => false, fun _ => 0, fun _ => 0⟩
theorem RR.empty : RR ⟨[], [], []⟩ rs0 :=
  ⟨fun p k _ _ h => by simp [rs0] at h, fun s v h => by simp [mget] at h, fun a b => by simp [mget, rs0], fun x => by simp [mget, rs0], fun x _ => by simp [rs0]⟩
theorem RR.taken {t : TS} {r : RS} (h : RR t r) (s0 s1 s2 : Int) : Taken r s0 s1 s2 ↔ ((mget t.o s0).isSome = true ∨ (mget t.o s1).isSome = true ∨ (mget t.o s2).isSome = true) := by
  unfold Taken
  constructor
  · rintro ⟨j, hj, p, l, hp, hl, hb, hs⟩
    have hm := h.o1 p l hp hl hb
    rw [hs] at hm
    have : j = 0 ∨ j = 1 ∨ j = 2 := by omega
    rcases this with rfl | rfl | rfl
    · exact Or.inl (by simp at hm; simp [hm])
    · exact Or.inr (Or.inl (by simp at hm; simp [hm]))
    · exact Or.inr (Or.inr (by simp at hm; simp [hm]))
  · intro g
    have key : ∀ (j : Nat), j < 3 → (mget t.o ([s0, s1, s2].getD j 0)).isSome = true → ∃ j : Nat, j < 3 ∧ ∃ p l : Nat, p < 3 ∧ l < 3 ∧ r.pb p = true ∧ r.sr p l = [s0, s1, s2].getD j 0 := fun j hj e => by
      obtain ⟨v, hv⟩ := Option.isSome_iff_exists.1 e
      obtain ⟨p, l, h1, h2, h3, h4, _⟩ := h.o2 _ v hv
      exact ⟨j, hj, p, l, h1, h2, h3, h4⟩
    rcases g with g | g | g
    · exact key 0 (by decide) g
    · exact key 1 (by decide) g
    · exact key 2 (by decide) g
theorem RR.pub_ret {t : TS} {r : RS} (h : RR t r) (p s0 s1 s2 : Int) (tk : Bool) (ht : tk = true ↔ Taken r s0 s1 s2) : (pubT t p s0 s1 s2).2 = (rPub r p s0 s1 s2 tk).2 := by
  unfold pubT rPub
  have hs := h.s1 p 0
  have htk := ht.trans (h.taken s0 s1 s2)
  by_cases h1 : 0 ≤ p ∧ p < 3
  · rw [if_pos h1]
    by_cases h2 : dup3 s0 s1 s2
    · have h3 : ¬ ((0 ≤ p ∧ p < 3) ∧ ¬ (s0 = s1 ∨ s0 = s2 ∨ s1 = s2)) := fun g => g.2 (by unfold dup3 at h2; omega)
      rw [if_pos h2, if_neg h3]
    · have h3 : (0 ≤ p ∧ p < 3) ∧ ¬ (s0 = s1 ∨ s0 = s2 ∨ s1 = s2) := ⟨h1, by unfold dup3 at h2; omega⟩
      rw [if_neg h2, if_pos h3]
      by_cases h4 : r.pb p.toNat = true
      · rw [if_pos ⟨h1, by omega, h4⟩] at hs
        rw [hs, if_pos h4]
        rfl
      · rw [if_neg (fun g => h4 g.2.2)] at hs
        rw [hs, if_neg h4]
        by_cases h5 : tk = true
        · have h6 := htk.1 h5
          simp [h5, h6]
        · have h6 : ¬ _ := fun g => h5 (htk.2 g)
          simp only [h6, h5]
          simp
  · have h3 : ¬ ((0 ≤ p ∧ p < 3) ∧ ¬ (s0 = s1 ∨ s0 = s2 ∨ s1 = s2)) := fun g => h1 g.1
    rw [if_neg h1, if_neg h3]
theorem RR.put3 {t : TS} {r : RS} (h : RR t r) (n : Nat) (hn : n < 3) {s0 s1 s2 : Int} (hd : ¬ dup3 s0 s1 s2) (hb : r.pb n = false) (n0 : mget t.o s0 = none) (n1 : mget t.o s1 = none) (n2 : mget t.o s2 = none) :
    RR { t with o := oAt t.o n s0 s1 s2 3, s := sAt t.s n s0 s1 s2 3 } { r with pb := upd r.pb n true, sr := upd r.sr n (sr3 s0 s1 s2) } := by
  unfold dup3 at hd
  have d1 : ¬ s1 = s0 := fun e => hd (Or.inl e)
  have d2 : ¬ s2 = s0 := fun e => hd (Or.inr (Or.inl e))
  have d3 : ¬ s2 = s1 := fun e => hd (Or.inr (Or.inr e))
  refine ⟨fun p k hp hk hpb => ?_, fun s v hv => ?_, fun a b => ?_, h.u1, h.tb⟩
  · simp only [oAt, mget_put]
    by_cases e : p = n
    · subst e
      have : k = 0 ∨ k = 1 ∨ k = 2 := by omega
      rcases this with rfl | rfl | rfl
      · simp [upd, sr3, Ne.symm d1, Ne.symm d2]
      · simp [upd, sr3, Ne.symm d3]
      · simp [upd, sr3]
    · simp only [upd, e, if_false] at hpb ⊢
      have hm := h.o1 p k hp hk hpb
      rw [if_neg (fun g => by rw [g, n2] at hm; cases hm), if_neg (fun g => by rw [g, n1] at hm; cases hm), if_neg (fun g => by rw [g, n0] at hm; cases hm)]
      exact hm
  · simp only [oAt, mget_put] at hv
    by_cases e2 : s = s2
    · rw [if_pos e2] at hv
      cases hv
      exact ⟨n, 2, hn, by decide, by simp [upd], by simp [upd, sr3, e2], rfl⟩
    · rw [if_neg e2] at hv
      by_cases e1 : s = s1
      · rw [if_pos e1] at hv
        cases hv
        exact ⟨n, 1, hn, by decide, by simp [upd], by simp [upd, sr3, e1], rfl⟩
      · rw [if_neg e1] at hv
        by_cases e0 : s = s0
        · rw [if_pos e0] at hv
          cases hv
          exact ⟨n, 0, hn, by decide, by simp [upd], by simp [upd, sr3, e0], rfl⟩
        · rw [if_neg e0] at hv
          obtain ⟨p, k, h1, h2, h3, h4, h5⟩ := h.o2 s v hv
          have : ¬ p = n := fun g => by rw [g, hb] at h3; cases h3
          exact ⟨p, k, h1, h2, by simp [upd, this, h3], by simp [upd, this, h4], h5⟩
  · simp only [sAt, mget_put]
    by_cases e : a = (n : Int)
    · subst e
      by_cases g : 0 ≤ b ∧ b < 3
      · have : b = 0 ∨ b = 1 ∨ b = 2 := by omega
        have hn' : (n : Int) < 3 := by omega
        rcases this with rfl | rfl | rfl <;> simp [upd, sr3, hn']
      · have q0 : ¬ b = 0 := by omega
        have q1 : ¬ b = 1 := by omega
        have q2 : ¬ b = 2 := by omega
        rw [h.s1]
        simp [q0, q1, q2, hb, g]
    · have f : ∀ i : Int, ¬ (a, b) = ((n : Int), i) := fun i g => e (Prod.mk.inj g).1
      rw [if_neg (f 2), if_neg (f 1), if_neg (f 0), h.s1]
      by_cases g : 0 ≤ a ∧ a < 3
      · have : ¬ a.toNat = n := by omega
        simp [upd, this]
      · simp [g]
end Go.Proofs.Ytmhkjamibcdcdaa
