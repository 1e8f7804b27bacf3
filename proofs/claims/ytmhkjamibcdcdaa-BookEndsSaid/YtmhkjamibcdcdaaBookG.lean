/- Acts on books: how they read, and what they do. -/
import Derived.Test.YtmhkjamibcdcdaaBookF
import Derived.Test.YtmhkjamibcdcdaaRead
namespace Go.Proofs.Ytmhkjamibcdcdaa
open Go.RowKit
set_option maxRecDepth 100000

theorem opens_map {P : Program} {t : TypeId} {α β : Type} {R : Reader α} {Q : Reader β} {fs : Array Field} {n : Nat} (h : Opens P t R) (ht : P.underlying t = some (.struct fs)) (hn : P.cellsOf t = n) (k : ∀ w cs y, cs.length = n → R w cs y → ∃ z, Q w cs z) : Opens P t Q := fun H enc w base spare held fuel cs x hx => by
  obtain ⟨y, hy⟩ := h H enc w base spare held fuel cs x hx
  refine k w cs y ?_ hy
  obtain ⟨_, _, _, _, hl, _⟩ := DataW.trod_struct ht hx
  rw [hl, hn]
abbrev A14 := Int × (Int × Int) × Int
def a14z : A14 := (0, (0, 0), 0)
def RKey : Reader (Int × Int) := fun _ cs y => cs = [.int .i64 y.1, .int .i64 y.2]
theorem opensKey : Opens Try.prog 54 RKey :=
  opens_map (R := RCons 1 (RInt .i64) (RCons 1 (RInt .i64) RNil)) (n := 2) (Opens.struct Try.underlying54 (by kernel_rfl) (OpensF.cons rfl (by kernel_rfl) (Opens.int Try.underlying3) (OpensF.cons rfl (by kernel_rfl) (Opens.int Try.underlying3) OpensF.nil))) Try.underlying54 (by kernel_rfl) (fun w cs y hl h => by
    match cs, hl with
    | [k0, k1], _ =>
      obtain ⟨⟨r0, _⟩, ⟨r1, _⟩, _⟩ := h
      simp at r0 r1
      exact ⟨(_, _), by rw [r0, r1]; rfl⟩)
def RAct14 : Reader A14 := fun _ cs y => cs = [.int .i64 y.1, .int .i64 y.2.1.1, .int .i64 y.2.1.2, .int .i64 y.2.2]
theorem opensAct14 : Opens Try.prog 59 RAct14 :=
  opens_map (R := RCons 1 (RInt .i64) (RCons 2 RKey (RCons 1 (RInt .i64) RNil))) (n := 4) (Opens.struct Try.underlying59 (by kernel_rfl) (OpensF.cons rfl (by kernel_rfl) (Opens.int Try.underlying3) (OpensF.cons rfl (by kernel_rfl) opensKey (OpensF.cons rfl (by kernel_rfl) (Opens.int Try.underlying3) OpensF.nil)))) Try.underlying59 (by kernel_rfl) (fun w cs y hl h => by
    match cs, hl with
    | [k0, k1, k2, k3], _ =>
      obtain ⟨⟨r0, _⟩, r1, ⟨r2, _⟩, _⟩ := h
      simp [RKey] at r0 r1 r2
      exact ⟨(_, (_, _), _), by rw [r0, r1.1, r1.2, r2]; rfl⟩)
theorem acts14 {w : World} {v : Value} {l : List A14} (h : SlP 4 RAct14 w v l) : ∃ oa cap, v = .slice oa l.length cap ∧ (l.length : Int) ≤ 9223372036854775807 ∧ ∀ i, i < l.length → ∃ b off, oa = some ⟨b, off, none⟩ ∧ b < w.heap.size ∧
    w.cell? ⟨b, off + i * 4, none⟩ = some (.int .i64 (l.getD i a14z).1) ∧ w.cell? ⟨b, off + i * 4 + 1, none⟩ = some (.int .i64 (l.getD i a14z).2.1.1) ∧ w.cell? ⟨b, off + i * 4 + 2, none⟩ = some (.int .i64 (l.getD i a14z).2.1.2) ∧ w.cell? ⟨b, off + i * 4 + 3, none⟩ = some (.int .i64 (l.getD i a14z).2.2) := by
  obtain ⟨oa, cap, h1, h2, h3, _⟩ := h
  refine ⟨oa, cap, h1, h2, fun i hi => ?_⟩
  obtain ⟨b, off, cs, e, hb, hl, hc, hr⟩ := h3 i hi
  unfold RAct14 at hr
  subst hr
  have eg : l.getD i a14z = l[i] := by simp [hi]
  rw [eg]
  exact ⟨b, off, e, hb, hc 0 (by simp), hc 1 (by simp), hc 2 (by simp), hc 3 (by simp)⟩

theorem mget_mput {K V : Type} [DecidableEq K] (k k' : K) (v : V) : ∀ (m : List (K × V)), mget (mput m k v) k' = if k' = k then some v else mget m k'
  | [] => by by_cases e : k' = k <;> simp [mput, mget, e]
  | (a, b) :: l => by
    unfold mput
    by_cases e : k = a
    · subst e
      rw [if_pos rfl]
      by_cases e2 : k' = k <;> simp [mget, e2]
    · rw [if_neg e]
      by_cases e2 : k' = a
      · subst e2
        have : ¬ k' = k := fun h => e h.symm
        simp [mget, this]
      · simp [mget, e2, mget_mput k k' v l]
theorem mget_mem {m : Bk} (hn : (m.map Prod.fst).Nodup) {k : Int × Int} {f : Int} : mget m k = some f ↔ (k, f) ∈ m := by
  induction m with
  | nil => simp [mget]
  | cons p l ih =>
    obtain ⟨a, b⟩ := p
    simp only [List.map_cons, List.nodup_cons] at hn
    unfold mget
    by_cases e : k = a
    · subst e
      rw [if_pos rfl]
      constructor
      · intro h; cases h; exact List.mem_cons_self
      · intro h
        rcases List.mem_cons.1 h with h | h
        · cases h; rfl
        · exact absurd (List.mem_map.2 ⟨_, h, rfl⟩) hn.1
    · rw [if_neg e, ih hn.2]
      simp only [List.mem_cons, Prod.mk.injEq]
      exact ⟨fun h => Or.inr h, fun h => by rcases h with ⟨h, _⟩ | h; exact absurd h e; exact h⟩
theorem mget_endM (m : Bk) (sub f : Int) (k : Int × Int) : mget (endM m sub f) k = (mget m k).map fun v => if k.1 = sub ∧ v = 0 then f else v := by
  unfold endM
  induction m with
  | nil => simp [mget]
  | cons p l ih =>
    obtain ⟨⟨a, c⟩, g⟩ := p
    simp only [List.map_cons]
    by_cases h : a = sub ∧ g = 0
    · rw [if_pos h]
      unfold mget
      by_cases e : k = (a, c)
      · subst e; simp [h]
      · simp [e, ih]
    · rw [if_neg h]
      unfold mget
      by_cases e : k = (a, c)
      · subst e; simp [h]
      · simp [e, ih]
/-- What an act does with a book, and its answer. -/
def actB (m : Bk) (x : A14) : Bk × Int := if x.1 = 0 then oweB m x.2.1 else if x.1 = 1 then settleB m x.2.1 x.2.2 else if x.1 = 2 then ((endB m x.2.1.1 x.2.2).1, 0) else (m, 0)
theorem actB_len (m : Bk) (x : A14) : (actB m x).1.length ≤ m.length + 1 := by
  unfold actB oweB settleB endB
  have h := fun f => mput_len (m := m) x.2.1 f
  have h2 : (endM m x.2.1.1 x.2.2).length = m.length := by simp [endM]
  split
  · split
    · split
      · simp
      · exact h 0
    · simp
  · split
    · split
      · split
        · split
          · exact h _
          · simp
        · simp
      · simp
    · split
      · split
        · simp [h2]
        · simp
      · simp
/-- What becomes of an entry by an act. -/
theorem actB_get (m : Bk) (x : A14) (k : Int × Int) :
    (mget m k = none ∧ mget (actB m x).1 k = none) ∨ (mget m k = none ∧ mget (actB m x).1 k = some 0 ∧ x.1 = 0 ∧ x.2.1 = k ∧ (actB m x).2 = 0) ∨ (mget m k = some 0 ∧ ∃ v, mget (actB m x).1 k = some v) ∨ (∃ v, v ≠ 0 ∧ mget m k = some v ∧ mget (actB m x).1 k = some v) := by
  have base : (actB m x).1 = m → (mget m k = none ∧ mget (actB m x).1 k = none) ∨ (mget m k = none ∧ mget (actB m x).1 k = some 0 ∧ x.1 = 0 ∧ x.2.1 = k ∧ (actB m x).2 = 0) ∨ (mget m k = some 0 ∧ ∃ v, mget (actB m x).1 k = some v) ∨ (∃ v, v ≠ 0 ∧ mget m k = some v ∧ mget (actB m x).1 k = some v) := by
    intro e
    rw [e]
    cases h : mget m k with
    | none => exact Or.inl ⟨rfl, rfl⟩
    | some v =>
      by_cases hv : v = 0
      · subst hv; exact Or.inr (Or.inr (Or.inl ⟨rfl, 0, rfl⟩))
      · exact Or.inr (Or.inr (Or.inr ⟨v, hv, rfl, rfl⟩))
  by_cases h0 : x.1 = 0
  · by_cases hv : 0 ≤ x.2.1.1 ∧ x.2.1.1 < 6 ∧ 0 ≤ x.2.1.2
    · by_cases hs : (mget m x.2.1).isSome = true
      · exact base (by unfold actB oweB; rw [if_pos h0, if_pos hv, if_pos hs])
      · have e : actB m x = (mput m x.2.1 0, 0) := by unfold actB oweB; rw [if_pos h0, if_pos hv, if_neg hs]
        rw [e]
        simp only [mget_mput]
        by_cases ek : k = x.2.1
        · have hn : mget m k = none := by rw [ek]; simpa using hs
          exact Or.inr (Or.inl ⟨hn, by rw [if_pos ek], h0, ek.symm, by trivial⟩)
        · rw [if_neg ek]
          cases h : mget m k with
          | none => exact Or.inl ⟨rfl, rfl⟩
          | some v =>
            by_cases hv : v = 0
            · subst hv; exact Or.inr (Or.inr (Or.inl ⟨rfl, 0, rfl⟩))
            · exact Or.inr (Or.inr (Or.inr ⟨v, hv, rfl, rfl⟩))
    · exact base (by unfold actB oweB; rw [if_pos h0, if_neg hv])
  · by_cases h1 : x.1 = 1
    · by_cases hf : 1 ≤ x.2.2 ∧ x.2.2 ≤ 8
      · by_cases hs : (mget m x.2.1).isSome = true
        · by_cases hz : (mget m x.2.1).getD 0 = 0
          · have e : (actB m x).1 = mput m x.2.1 x.2.2 := by unfold actB settleB; rw [if_neg h0, if_pos h1, if_pos hf, if_pos hs, if_pos hz]
            rw [e]
            simp only [mget_mput]
            by_cases ek : k = x.2.1
            · have hn : mget m k = some 0 := by
                rw [ek]
                obtain ⟨v, hv⟩ := Option.isSome_iff_exists.1 hs
                rw [hv] at hz ⊢
                simp at hz
                rw [hz]
              exact Or.inr (Or.inr (Or.inl ⟨hn, x.2.2, by rw [if_pos ek]⟩))
            · rw [if_neg ek]
              cases h : mget m k with
              | none => exact Or.inl ⟨rfl, rfl⟩
              | some v =>
                by_cases hv : v = 0
                · subst hv; exact Or.inr (Or.inr (Or.inl ⟨rfl, 0, rfl⟩))
                · exact Or.inr (Or.inr (Or.inr ⟨v, hv, rfl, rfl⟩))
          · exact base (by unfold actB settleB; rw [if_neg h0, if_pos h1, if_pos hf, if_pos hs, if_neg hz])
        · exact base (by unfold actB settleB; rw [if_neg h0, if_pos h1, if_pos hf, if_neg hs])
      · exact base (by unfold actB settleB; rw [if_neg h0, if_pos h1, if_neg hf])
    · by_cases h2 : x.1 = 2
      · by_cases hf : 1 ≤ x.2.2 ∧ x.2.2 ≤ 8
        · have e : (actB m x).1 = endM m x.2.1.1 x.2.2 := by unfold actB endB; rw [if_neg h0, if_neg h1, if_pos h2, if_pos hf]
          rw [e, mget_endM]
          cases h : mget m k with
          | none => exact Or.inl ⟨rfl, rfl⟩
          | some v =>
            by_cases hv : v = 0
            · subst hv; exact Or.inr (Or.inr (Or.inl ⟨rfl, _, rfl⟩))
            · exact Or.inr (Or.inr (Or.inr ⟨v, hv, rfl, by simp [hv]⟩))
        · exact base (by unfold actB endB; rw [if_neg h0, if_neg h1, if_pos h2, if_neg hf])
      · exact base (by unfold actB; rw [if_neg h0, if_neg h1, if_neg h2])
/-- What is pending is what is owed. -/
theorem pend_iff {m : Bk} (hn : (m.map Prod.fst).Nodup) (k : Int × Int) : k.2 ∈ pendB m k.1 ↔ mget m k = some 0 := by
  rw [pendB_mem, mget_mem hn]
end Go.Proofs.Ytmhkjamibcdcdaa
