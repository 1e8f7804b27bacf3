/- append in a region that draws its order: rows of integers. -/
import Derived.Test.YtlnikmcimmnbmaaSliceB
import Derived.Laws.AppendOwnNone
import Derived.Test.YtlnikmcimmnbmaaRegion
namespace Go.Proofs.Ytlnikmcimmnbmaa
set_option linter.unusedSimpArgs false
set_option linter.unusedVariables false
open Go.RowKit

theorem loud_append_at {P : Program} {w : World} {o : Oper} {a : Act} {C : World → Prop} {K : Act → World → Prop} (s x : Operand) (t : TypeId)
    (ho : o.op = .call { callee := .builtin .append, args := #[s, x], argTypes := #[t, t] })
    (base : Nat) (e : TypeId) (i : TypeInfo) (z : Value) (bytes : Nat) (ht : P.underlying t = some (.slice e)) (hi : P.info? e = some i) (hz : i.zero = some z)
    (hsize : i.size = 1) (hby : i.bytes = bytes) (hzs : z.cells.size = 1)
    (v : Value) (k : IntKind) (l : List Int) (hs : a.eval s = v) (hown : w.ownsRow base e 1 v l.length (l.map (Value.int k)))
    (ad : Addr) (cap : Nat) (lx : List Int) (hx : a.eval x = .slice (some ad) lx.length cap) (hl : SlI k w (.slice (some ad) lx.length cap) lx)
    (hbytes : (l.length + lx.length) * bytes ≤ 140737488355328) (hby1 : 1 ≤ bytes) (hbase : base ≤ w.heap.size)
    (h : ∀ v' w', w'.ownsRow base e 1 v' (l ++ lx).length ((l ++ lx).map (Value.int k)) → w.grownBy w' v.ownBlock → (v'.ownBlock = v.ownBlock ∨ v'.ownBlock = some w.heap.size) → C w' ∧ K (a.put o.dst v') w') : loud P C o a w K := by
  have h63 : l.length + lx.length ≤ maxLen := by
    have := Nat.le_mul_of_pos_right (l.length + lx.length) (show 0 < bytes by omega)
    unfold maxLen; omega
  obtain ⟨oa', cap', e', hl1, hl2, hl3, hl4, hl5⟩ := hl
  cases e'
  obtain ⟨v', w', hr, h2, h3, _, h5⟩ := run_append_own_at (P := P) w base t o.type e i z 1 bytes ht hi hz hsize hby hzs (by decide) v l.length (l.map (Value.int k)) hown ad lx.length cap (lx.map (Value.int k)) (by simp) (by
    intro j u hj
    rw [List.getElem?_map] at hj
    obtain ⟨y, hy, rfl⟩ := Option.map_eq_some_iff.1 hj
    obtain ⟨hlt, hy'⟩ := List.getElem?_eq_some_iff.1 hy
    obtain ⟨b, off, e1, _, hc⟩ := hl2 j hlt
    simp only [Option.some.injEq] at e1
    subst e1
    have ea : (⟨b, off, none⟩ : Addr).add j = ⟨b, off + j, none⟩ := by
      unfold Addr.add; split
      · rename_i h0; subst h0; rfl
      · rfl
    rw [ea, hc, List.getD_eq_getElem?_getD, hy]; rfl) (by
    intro u hu
    obtain ⟨y, _, rfl⟩ := List.mem_map.1 hu
    rfl) h63 hbytes hbase
  unfold loud execOp
  simp only [ho, resolve, invoke, builtin, Sem.run_bind, Sem.run_pure, Result.andThen_ok, List.map_toArray, List.map_cons, List.map_nil, hs, hx, hr]
  exact h v' w' (by simpa using h2) h3 h5
/-- The same, whatever the source. -/
theorem loud_append_sl {P : Program} {w : World} {o : Oper} {a : Act} {C : World → Prop} {K : Act → World → Prop} (s x : Operand) (t : TypeId)
    (ho : o.op = .call { callee := .builtin .append, args := #[s, x], argTypes := #[t, t] })
    (base : Nat) (e : TypeId) (i : TypeInfo) (z : Value) (bytes : Nat) (ht : P.underlying t = some (.slice e)) (hi : P.info? e = some i) (hz : i.zero = some z)
    (hsize : i.size = 1) (hby : i.bytes = bytes) (hzs : z.cells.size = 1)
    (v : Value) (k : IntKind) (l : List Int) (hs : a.eval s = v) (hown : w.ownsRow base e 1 v l.length (l.map (Value.int k)))
    (vx : Value) (lx : List Int) (hx : a.eval x = vx) (hl : SlI k w vx lx)
    (hbytes : (l.length + lx.length) * bytes ≤ 140737488355328) (hby1 : 1 ≤ bytes) (hbase : base ≤ w.heap.size)
    (h : ∀ v' w', w'.ownsRow base e 1 v' (l ++ lx).length ((l ++ lx).map (Value.int k)) → w.grownBy w' v.ownBlock → (v'.ownBlock = v.ownBlock ∨ v'.ownBlock = some w.heap.size) → C w' ∧ K (a.put o.dst v') w') : loud P C o a w K := by
  have hl0 := hl
  obtain ⟨oa, cap, rfl, hl1, hl2, hl3, hl4, hl5⟩ := hl
  cases oa with
  | some ad => exact loud_append_at s x t ho base e i z bytes ht hi hz hsize hby hzs v k l hs hown ad cap lx hx hl0 hbytes hby1 hbase h
  | none =>
    have h0 : cap = 0 := hl5 rfl
    subst h0
    have hn : lx = [] := List.eq_nil_of_length_eq_zero (by omega)
    subst hn
    have hrun := run_append_owned_none (P := P) (w := w) base t o.type e i 1 ht hi v l.length (l.map (Value.int k)) hown
    have hh := h v w (by simpa using hown) ⟨rfl, rfl, rfl, Nat.le_refl _, fun _ _ _ => rfl⟩ (Or.inl rfl)
    simp only [List.length_nil] at hx
    unfold loud execOp
    simp only [ho, resolve, invoke, builtin, Sem.run_bind, Sem.run_pure, Result.andThen_ok, List.map_toArray, List.map_cons, List.map_nil, hs, hx, hrun]
    exact hh
end Go.Proofs.Ytlnikmcimmnbmaa
