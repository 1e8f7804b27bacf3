/- Slices that grow: two of them beside one another; parts of slices. -/
import Derived.Test.YtlnikmcimmnbmaaSliceA
import Derived.Maps.AppendAt
namespace Go.Proofs.Ytlnikmcimmnbmaa
set_option linter.unusedSimpArgs false
set_option linter.unusedVariables false
open Go.RowKit

/-- append(s, x...), and where the new row lies: s is the call's own, x reads as a list. -/
theorem wpList_append_at {P : Program} (w : World) {ops : Array Oper} {rest : List Oper} {o : Oper} {a : Act} {Q : Exit → Act → World → Prop} (hgd : o.guard = none) (s x : Operand) (t : TypeId)
    (ho : o.op = .call { callee := .builtin .append, args := #[s, x], argTypes := #[t, t] })
    (base : Nat) (e : TypeId) (i : TypeInfo) (z : Value) (bytes : Nat) (ht : P.underlying t = some (.slice e)) (hi : P.info? e = some i) (hz : i.zero = some z)
    (hsize : i.size = 1) (hby : i.bytes = bytes) (hzs : z.cells.size = 1)
    (v : Value) (k : IntKind) (l : List Int) (hs : a.eval s = v) (hown : w.ownsRow base e 1 v l.length (l.map (Value.int k)))
    (vx : Value) (lx : List Int) (hx : a.eval x = vx) (hl : SlI k w vx lx)
    (hbytes : (l.length + lx.length) * bytes ≤ 140737488355328) (hby1 : 1 ≤ bytes) (hbase : base ≤ w.heap.size)
    (h : ∀ v' w', w'.ownsRow base e 1 v' (l ++ lx).length ((l ++ lx).map (Value.int k)) → w.grownBy w' v.ownBlock → (v'.ownBlock = v.ownBlock ∨ v'.ownBlock = some w.heap.size) → wpList P ops Q rest (a.put o.dst v') w') : wpList P ops Q (o :: rest) a w := by
  have h63 : l.length + lx.length ≤ maxLen := by
    have := Nat.le_mul_of_pos_right (l.length + lx.length) (show 0 < bytes by omega)
    unfold maxLen; omega
  obtain ⟨oa, cap, rfl, hl1, hl2, hl3, hl4, hl5⟩ := hl
  cases oa with
  | none =>
    have h0 : cap = 0 := hl5 rfl
    subst h0
    have hn : lx = [] := List.eq_nil_of_length_eq_zero (by omega)
    subst hn
    refine wpList_append_own_none hgd s x t ho base e i 1 ht hi v l.length (l.map (Value.int k)) hs hown hx ?_
    exact h v w (by simpa using hown) ⟨rfl, rfl, rfl, Nat.le_refl _, fun _ _ _ => rfl⟩ (Or.inl rfl)
  | some ad =>
    refine wpList_append_own_at w hgd s x t ho base e i z 1 bytes ht hi hz hsize hby hzs (by decide) v l.length (l.map (Value.int k)) hs hown ad lx.length cap (lx.map (Value.int k)) hx (by simp) ?_ ?_ h63 hbytes hbase ?_
    · intro j u hj
      rw [List.getElem?_map] at hj
      obtain ⟨y, hy, rfl⟩ := Option.map_eq_some_iff.1 hj
      obtain ⟨hlt, hy'⟩ := List.getElem?_eq_some_iff.1 hy
      obtain ⟨b, off, e1, _, hc⟩ := hl2 j hlt
      simp only [Option.some.injEq] at e1
      subst e1
      have ea : (⟨b, off, none⟩ : Addr).add j = ⟨b, off + j, none⟩ := by
        unfold Addr.add; split
        · rename_i h0; subst h0; rfl
        · rfl
      rw [ea, hc, List.getD_eq_getElem?_getD, hy]; rfl
    · intro u hu
      obtain ⟨y, _, rfl⟩ := List.mem_map.1 hu
      rfl
    · intro v' w' h1 h2 _ h3
      exact h v' w' (by simpa using h1) h2 h3


/-- A row that another row's growing leaves alone. -/
theorem owns_grown {w w' : World} {base e size n : Nat} {v u : Value} {xs : List Value} (h : w.ownsRow base e size v n xs) (g : w.grownBy w' u.ownBlock) (hs : ∀ b, v.ownBlock = some b → u.ownBlock ≠ some b) : w'.ownsRow base e size v n xs := by
  obtain ⟨h1, h2⟩ := h
  refine ⟨h1, ?_⟩
  rcases h2 with h | ⟨b, cap, cur, e1, hb, hg, rest⟩
  · exact Or.inl h
  · refine Or.inr ⟨b, cap, cur, e1, hb, ?_, rest⟩
    rw [g.block b (lt_of_block hg) (by rw [e1] at hs; exact fun e => hs b rfl e.symm)]
    exact hg
theorem owns_lt {w : World} {base e size n b : Nat} {v : Value} {xs : List Value} (h : w.ownsRow base e size v n xs) (hb : v.ownBlock = some b) : b < w.heap.size := by
  rcases h.2 with ⟨rfl, _⟩ | ⟨b', cap, cur, rfl, _, hg, _⟩
  · cases hb
  · obtain rfl : b' = b := by injection hb
    exact lt_of_block hg
theorem owns_more {w w' : World} {base e size n : Nat} {v : Value} {xs : List Value} (h : w.ownsRow base e size v n xs) (m : More w w') : w'.ownsRow base e size v n xs := by
  obtain ⟨h1, h2⟩ := h
  refine ⟨h1, ?_⟩
  rcases h2 with h | ⟨b, cap, cur, e1, hb, hg, rest⟩
  · exact Or.inl h
  · exact Or.inr ⟨b, cap, cur, e1, hb, by rw [m.block b (lt_of_block hg)]; exact hg, rest⟩
theorem SlI.take {k : IntKind} {w : World} {oa : Option Addr} {n cap : Nat} {l : List Int} (h : SlI k w (.slice oa n cap) l) (m : Nat) (hm : m ≤ l.length) : SlI k w (.slice oa m cap) (l.take m) := by
  obtain ⟨oa', cap', e, h1, h2, h3, h4, h5⟩ := h
  cases e
  have hl : (l.take m).length = m := by simp; omega
  refine ⟨oa, cap, by rw [hl], by rw [hl]; omega, fun i hi => ?_, by rw [hl]; omega, h4, h5⟩
  rw [hl] at hi
  obtain ⟨b, off, e, hb, hc⟩ := h2 i (by omega)
  exact ⟨b, off, e, hb, by rw [hc, List.getD_eq_getElem?_getD, List.getD_eq_getElem?_getD, List.getElem?_take, if_pos hi]⟩
theorem SlI.take3 {k : IntKind} {w : World} {oa : Option Addr} {n cap : Nat} {l : List Int} (h : SlI k w (.slice oa n cap) l) (m : Nat) (hm : m ≤ l.length) : SlI k w (.slice oa m m) (l.take m) := by
  obtain ⟨oa', cap', e, h1, h2, h3, h4, h5⟩ := h
  cases e
  have hl : (l.take m).length = m := by simp; omega
  refine ⟨oa, m, by rw [hl], by rw [hl]; omega, fun i hi => ?_, by rw [hl]; omega, by omega, fun x => by have := h5 x; omega⟩
  rw [hl] at hi
  obtain ⟨b, off, e, hb, hc⟩ := h2 i (by omega)
  exact ⟨b, off, e, hb, by rw [hc, List.getD_eq_getElem?_getD, List.getD_eq_getElem?_getD, List.getElem?_take, if_pos hi]⟩
theorem SlI.drop {k : IntKind} {w : World} {b off n cap : Nat} {l : List Int} (h : SlI k w (.slice (some ⟨b, off, none⟩) n cap) l) (m : Nat) (hm : m ≤ l.length) : SlI k w (.slice (some ⟨b, off + m, none⟩) (n - m) (cap - m)) (l.drop m) := by
  obtain ⟨oa', cap', e, h1, h2, h3, h4, h5⟩ := h
  cases e
  refine ⟨_, cap - m, by rw [List.length_drop], by rw [List.length_drop]; omega, fun i hi => ?_, by rw [List.length_drop]; omega, by omega, fun h => by cases h⟩
  rw [List.length_drop] at hi
  obtain ⟨b', off', e, hb, hc⟩ := h2 (m + i) (by omega)
  cases e
  refine ⟨b, off + m, rfl, hb, ?_⟩
  rw [Nat.add_assoc, hc, List.getD_eq_getElem?_getD, List.getD_eq_getElem?_getD, List.getElem?_drop]
theorem SlI.from_ {k : IntKind} {w : World} {oa : Option Addr} {n cap : Nat} {l : List Int} (h : SlI k w (.slice oa n cap) l) (m : Nat) (hm : m ≤ l.length) (oa' : Option Addr) (ho : oa' = if cap = m then oa else oa.map (·.add m)) : SlI k w (.slice oa' (n - m) (cap - m)) (l.drop m) := by
  obtain ⟨oa2, cap2, e, h1, h2, h3, h4, h5⟩ := h
  cases e
  refine ⟨oa', cap - m, by rw [List.length_drop], by rw [List.length_drop]; omega, fun i hi => ?_, by rw [List.length_drop]; omega, by omega, fun h => ?_⟩
  · rw [List.length_drop] at hi
    obtain ⟨b, off, e, hb, hc⟩ := h2 (m + i) (by omega)
    rw [if_neg (by omega), e] at ho
    have ea : (⟨b, off, none⟩ : Addr).add m = ⟨b, off + m, none⟩ := by
      unfold Addr.add; split
      · rename_i h0; subst h0; rfl
      · rfl
    refine ⟨b, off + m, by rw [ho, Option.map_some, ea], hb, ?_⟩
    rw [Nat.add_assoc, hc, List.getD_eq_getElem?_getD, List.getD_eq_getElem?_getD, List.getElem?_drop]
  · subst ho
    split at h
    · have := h5 h; omega
    · cases oa with
      | none => have := h5 rfl; omega
      | some a => simp at h
end Go.Proofs.Ytlnikmcimmnbmaa
