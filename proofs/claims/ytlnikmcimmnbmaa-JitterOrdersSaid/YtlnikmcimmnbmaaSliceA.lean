/- Slices of integers that read as a list. -/
import Derived.Test.YtlnikmcimmnbmaaPlainA
import Derived.WalkKit
import Derived.Laws.AppendOwnNone
import Derived.Deep.QuietTactic
import Derived.BigQuiet
namespace Go.Proofs.Ytlnikmcimmnbmaa
set_option linter.unusedSimpArgs false
set_option linter.unusedVariables false
open Go.RowKit

theorem ret_bool {a b : Bool} (h : a = b) : Ending.returned (.bool a) = .returned (.bool b) := by rw [h]
theorem ret_int {k : IntKind} {a b : Int} (h : a = b) : Ending.returned (.int k a) = .returned (.int k b) := by rw [h]

/-- All cells that were there are as they were; the world may have grown. -/
abbrev More (w w' : World) : Prop := Below w.heap.size w w'
theorem More.refl (w : World) : More w w := Below.refl _ _
theorem More.trans {a b c : World} (h : More a b) (k : More b c) : More a c := Below.trans h (k.mono h.size)
theorem More.drewN (w : World) (k : Nat) : More w (w.drewN k) := ⟨rfl, rfl, rfl, Nat.le_refl _, fun _ _ => rfl⟩
theorem More.alloc (w : World) (o : Obj) : More w (w.alloc o) := (Below.refl _ _).alloc (Nat.le_refl _) o
theorem More.dr {w w' : World} (h : More w w') (k : Nat) : More w (w'.drewN k) := h.trans (More.drewN _ _)
theorem More.al {w w' : World} (h : More w w') (o : Obj) : More w (w'.alloc o) := h.trans (More.alloc _ _)
theorem More.st {w w' : World} (h : More w w') {p : Addr} (hp : w.heap.size ≤ p.block) (v : Value) : More w (w'.setCell p v) := Below.setCell h hp v

theorem More.cells {w w' : World} (h : More w w') (b o : Nat) (hb : b < w.heap.size) : w'.cell? ⟨b, o, none⟩ = w.cell? ⟨b, o, none⟩ := h.cell (p := ⟨b, o, none⟩) hb

theorem More.rules {w w' : World} (h : More w w') : (∀ b o, b < w.heap.size → w'.cell? ⟨b, o, none⟩ = w.cell? ⟨b, o, none⟩) ∧ (∀ b o, b < w.heap.size → w'.frozen? ⟨b, o, none⟩ = w.frozen? ⟨b, o, none⟩) :=
  ⟨fun b o hb => h.cell (p := ⟨b, o, none⟩) hb, fun b o hb => h.frozen (p := ⟨b, o, none⟩) hb⟩

/-- A slice of integers that reads as a list: nil, too, as the empty one. -/
def SlI (k : IntKind) (w : World) (v : Value) (l : List Int) : Prop :=
  ∃ oa cap, v = .slice oa l.length cap ∧ (l.length : Int) ≤ 9223372036854775807 ∧ (∀ i, i < l.length → ∃ b off, oa = some ⟨b, off, none⟩ ∧ b < w.heap.size ∧ w.cell? ⟨b, off + i, none⟩ = some (.int k (l.getD i 0))) ∧ l.length ≤ cap ∧ cap ≤ maxLen ∧ (oa = none → cap = 0)

theorem SlI.keep {k : IntKind} {w w' : World} {v : Value} {l : List Int} (h : SlI k w v l) (m : More w w') : SlI k w' v l := by
  obtain ⟨oa, cap, h1, h2, h3, h4⟩ := h
  refine ⟨oa, cap, h1, h2, fun i hi => ?_, h4⟩
  obtain ⟨b, off, e, hb, hc⟩ := h3 i hi
  exact ⟨b, off, e, Nat.lt_of_lt_of_le hb m.size, by rw [m.cells b _ hb]; exact hc⟩

theorem SlI.nil (k : IntKind) (w : World) : SlI k w (.slice none 0 0) [] := ⟨none, 0, rfl, by simp, fun i hi => by simp at hi, by simp, by unfold maxLen; omega, fun _ => rfl⟩

/-- What the call owns reads as its list. -/
theorem SlI.of_owns {k : IntKind} {w : World} {base e : Nat} {v : Value} {l : List Int} (h : w.ownsRow base e 1 v l.length (l.map (Value.int k))) (hl : (l.length : Int) ≤ 9223372036854775807) : SlI k w v l := by
  obtain ⟨h1, h2⟩ := h
  rcases h2 with ⟨rfl, h0⟩ | ⟨g, cap, cur, rfl, hb, hg, hnc, hcm, hcs, htake⟩
  · exact ⟨none, 0, by rw [h0], hl, fun i hi => by omega, by omega, by unfold maxLen; omega, fun _ => rfl⟩
  · refine ⟨_, cap, rfl, hl, fun i hi => ⟨g, 0, rfl, lt_of_block hg, ?_⟩, hnc, hcm, fun h => by cases h⟩
    rw [Nat.zero_add, cell_of_row w g i cur e (0, 0) hg]
    have : (cur.toList.take (l.length * 1))[i]? = (l.map (Value.int k))[i]? := by rw [htake]
    rw [List.getElem?_take, if_pos (by omega)] at this
    simp at this
    simp [this, hi]

/-- A slice literal. -/
theorem SlI.lit (k : IntKind) (w : World) (l : List Int) (e : TypeId) (cs : Array Value) (n b : Nat) (h : cs = (l.map (Value.int k)).toArray) (hn : n = l.length) (hb : b = w.heap.size) (hl : l.length ≤ 1000) :
    SlI k (w.alloc (.cells cs e)) (.slice (some ⟨b, 0, none⟩) n n) l := by
  subst h hn hb
  have h1 := World.ownsRow_lit (base := w.heap.size) (size := 1) (e := e) w (l.map (Value.int k)).toArray l.length (Nat.le_refl _) (by unfold maxLen; omega) (by simp)
  exact SlI.of_owns (base := w.heap.size) (e := e) (by simpa using h1) (by omega)
theorem Byt.of_all {l : List Int} (h : (l.all fun x => decide (0 ≤ x ∧ x ≤ 255)) = true) : Byt l := by
  intro i
  rw [List.getD_eq_getElem?_getD]
  by_cases hi : i < l.length
  · rw [List.getElem?_eq_getElem hi, Option.getD_some]
    rw [List.all_eq_true] at h
    simpa using h l[i] (List.getElem_mem hi)
  · rw [List.getElem?_eq_none (by omega)]; simp

/-- append(s, x...): s is the call's own, x reads as a list. -/
theorem wpList_append_sl {P : Program} (w : World) {ops : Array Oper} {rest : List Oper} {o : Oper} {a : Act} {Q : Exit → Act → World → Prop} (hgd : o.guard = none) (s x : Operand) (t : TypeId)
    (ho : o.op = .call { callee := .builtin .append, args := #[s, x], argTypes := #[t, t] })
    (base : Nat) (e : TypeId) (i : TypeInfo) (z : Value) (bytes : Nat) (ht : P.underlying t = some (.slice e)) (hi : P.info? e = some i) (hz : i.zero = some z)
    (hsize : i.size = 1) (hby : i.bytes = bytes) (hzs : z.cells.size = 1)
    (v : Value) (k : IntKind) (l : List Int) (hs : a.eval s = v) (hown : w.ownsRow base e 1 v l.length (l.map (Value.int k)))
    (vx : Value) (lx : List Int) (hx : a.eval x = vx) (hl : SlI k w vx lx)
    (hbytes : (l.length + lx.length) * bytes ≤ 140737488355328) (hby1 : 1 ≤ bytes) (hbase : base ≤ w.heap.size)
    (h : ∀ v' w', w'.ownsRow base e 1 v' (l ++ lx).length ((l ++ lx).map (Value.int k)) → w.grownBy w' v.ownBlock → wpList P ops Q rest (a.put o.dst v') w') : wpList P ops Q (o :: rest) a w := by
  have h63 : l.length + lx.length ≤ maxLen := by
    have := Nat.le_mul_of_pos_right (l.length + lx.length) (show 0 < bytes by omega)
    unfold maxLen; omega
  obtain ⟨oa, cap, rfl, hl1, hl2, hl3, hl4, hl5⟩ := hl
  cases oa with
  | none =>
    have h0 : cap = 0 := hl5 rfl
    subst h0
    have hn : lx = [] := List.eq_nil_of_length_eq_zero (by omega)
    subst hn
    refine wpList_append_own_none hgd s x t ho base e i 1 ht hi v l.length (l.map (Value.int k)) hs hown hx ?_
    exact h v w (by simpa using hown) ⟨rfl, rfl, rfl, Nat.le_refl _, fun _ _ _ => rfl⟩
  | some ad =>
    refine wpList_append_own w hgd s x t ho base e i z 1 bytes ht hi hz hsize hby hzs (by decide) v l.length (l.map (Value.int k)) hs hown ad lx.length cap (lx.map (Value.int k)) hx (by simp) ?_ ?_ h63 hbytes hbase ?_
    · intro j u hj
      rw [List.getElem?_map] at hj
      obtain ⟨y, hy, rfl⟩ := Option.map_eq_some_iff.1 hj
      obtain ⟨hlt, hy'⟩ := List.getElem?_eq_some_iff.1 hy
      obtain ⟨b, off, e1, _, hc⟩ := hl2 j hlt
      simp only [Option.some.injEq] at e1
      subst e1
      have ea : (⟨b, off, none⟩ : Addr).add j = ⟨b, off + j, none⟩ := by
        unfold Addr.add; split
        · rename_i h0; subst h0; rfl
        · rfl
      rw [ea, hc, List.getD_eq_getElem?_getD, hy]; rfl
    · intro u hu
      obtain ⟨y, _, rfl⟩ := List.mem_map.1 hu
      rfl
    · intro v' w' h1 h2 _
      exact h v' w' (by simpa using h1) h2

end Go.Proofs.Ytlnikmcimmnbmaa
