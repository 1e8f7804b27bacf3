/- Merged from my texts SliceB, RowS, Tree. -/
import Derived.Test.YtlnikmcimmnbmaaMg0
import Derived.Maps.AppendAt
import Derived.Test.YtlnikmcimmnbmaaMg1
import Derived.Test.YtlnikmcimmnbmaaMg2
/- Slices that grow: two of them beside one another; parts of slices. -/
namespace Go.Proofs.Ytlnikmcimmnbmaa
set_option linter.unusedSimpArgs false
set_option linter.unusedVariables false
open Go.RowKit

/-- append(s, x...), and where the new row lies: s is the call's own, x reads as a list. -/
theorem wpList_append_at {P : Program} (w : World) {ops : Array Oper} {rest : List Oper} {o : Oper} {a : Act} {Q : Exit → Act → World → Prop} (hgd : o.guard = none) (s x : Operand) (t : TypeId)
    (ho : o.op = .call { callee := .builtin .append, args := #[s, x], argTypes := #[t, t] })
    (base : Nat) (e : TypeId) (i : TypeInfo) (z : Value) (bytes : Nat) (ht : P.underlying t = some (.slice e)) (hi : P.info? e = some i) (hz : i.zero = some z)
    (hsize : i.size = 1) (hby : i.bytes = bytes) (hzs : z.cells.size = 1)
    (v : Value) (k : IntKind) (l : List Int) (hs : a.eval s = v) (hown : w.ownsRow base e 1 v l.length (l.map (Value.int k)))
    (vx : Value) (lx : List Int) (hx : a.eval x = vx) (hl : SlI k w vx lx)
    (hbytes : (l.length + lx.length) * bytes ≤ 140737488355328) (hby1 : 1 ≤ bytes) (hbase : base ≤ w.heap.size)
    (h : ∀ v' w', w'.ownsRow base e 1 v' (l ++ lx).length ((l ++ lx).map (Value.int k)) → w.grownBy w' v.ownBlock → (v'.ownBlock = v.ownBlock ∨ v'.ownBlock = some w.heap.size) → wpList P ops Q rest (a.put o.dst v') w') : wpList P ops Q (o :: rest) a w := by
  have h63 : l.length + lx.length ≤ maxLen := by
    have := Nat.le_mul_of_pos_right (l.length + lx.length) (show 0 < bytes by omega)
    unfold maxLen; omega
  obtain ⟨oa, cap, rfl, hl1, hl2, hl3, hl4, hl5⟩ := hl
  cases oa with
  | none =>
    have h0 : cap = 0 := hl5 rfl
    subst h0
    have hn : lx = [] := List.eq_nil_of_length_eq_zero (by omega)
    subst hn
    refine wpList_append_own_none hgd s x t ho base e i 1 ht hi v l.length (l.map (Value.int k)) hs hown hx ?_
    exact h v w (by simpa using hown) ⟨rfl, rfl, rfl, Nat.le_refl _, fun _ _ _ => rfl⟩ (Or.inl rfl)
  | some ad =>
    refine wpList_append_own_at w hgd s x t ho base e i z 1 bytes ht hi hz hsize hby hzs (by decide) v l.length (l.map (Value.int k)) hs hown ad lx.length cap (lx.map (Value.int k)) hx (by simp) ?_ ?_ h63 hbytes hbase ?_
    · intro j u hj
      rw [List.getElem?_map] at hj
      obtain ⟨y, hy, rfl⟩ := Option.map_eq_some_iff.1 hj
      obtain ⟨hlt, hy'⟩ := List.getElem?_eq_some_iff.1 hy
      obtain ⟨b, off, e1, _, hc⟩ := hl2 j hlt
      simp only [Option.some.injEq] at e1
      subst e1
      have ea : (⟨b, off, none⟩ : Addr).add j = ⟨b, off + j, none⟩ := by
        unfold Addr.add; split
        · rename_i h0; subst h0; rfl
        · rfl
      rw [ea, hc, List.getD_eq_getElem?_getD, hy]; rfl
    · intro u hu
      obtain ⟨y, _, rfl⟩ := List.mem_map.1 hu
      rfl
    · intro v' w' h1 h2 _ h3
      exact h v' w' (by simpa using h1) h2 h3


/-- A row that another row's growing leaves alone. -/
theorem owns_grown {w w' : World} {base e size n : Nat} {v u : Value} {xs : List Value} (h : w.ownsRow base e size v n xs) (g : w.grownBy w' u.ownBlock) (hs : ∀ b, v.ownBlock = some b → u.ownBlock ≠ some b) : w'.ownsRow base e size v n xs := by
  obtain ⟨h1, h2⟩ := h
  refine ⟨h1, ?_⟩
  rcases h2 with h | ⟨b, cap, cur, e1, hb, hg, rest⟩
  · exact Or.inl h
  · refine Or.inr ⟨b, cap, cur, e1, hb, ?_, rest⟩
    rw [g.block b (lt_of_block hg) (by rw [e1] at hs; exact fun e => hs b rfl e.symm)]
    exact hg
theorem owns_lt {w : World} {base e size n b : Nat} {v : Value} {xs : List Value} (h : w.ownsRow base e size v n xs) (hb : v.ownBlock = some b) : b < w.heap.size := by
  rcases h.2 with ⟨rfl, _⟩ | ⟨b', cap, cur, rfl, _, hg, _⟩
  · cases hb
  · obtain rfl : b' = b := by injection hb
    exact lt_of_block hg
theorem owns_more {w w' : World} {base e size n : Nat} {v : Value} {xs : List Value} (h : w.ownsRow base e size v n xs) (m : More w w') : w'.ownsRow base e size v n xs := by
  obtain ⟨h1, h2⟩ := h
  refine ⟨h1, ?_⟩
  rcases h2 with h | ⟨b, cap, cur, e1, hb, hg, rest⟩
  · exact Or.inl h
  · exact Or.inr ⟨b, cap, cur, e1, hb, by rw [m.block b (lt_of_block hg)]; exact hg, rest⟩
theorem SlI.take {k : IntKind} {w : World} {oa : Option Addr} {n cap : Nat} {l : List Int} (h : SlI k w (.slice oa n cap) l) (m : Nat) (hm : m ≤ l.length) : SlI k w (.slice oa m cap) (l.take m) := by
  obtain ⟨oa', cap', e, h1, h2, h3, h4, h5⟩ := h
  cases e
  have hl : (l.take m).length = m := by simp; omega
  refine ⟨oa, cap, by rw [hl], by rw [hl]; omega, fun i hi => ?_, by rw [hl]; omega, h4, h5⟩
  rw [hl] at hi
  obtain ⟨b, off, e, hb, hc⟩ := h2 i (by omega)
  exact ⟨b, off, e, hb, by rw [hc, List.getD_eq_getElem?_getD, List.getD_eq_getElem?_getD, List.getElem?_take, if_pos hi]⟩
theorem SlI.take3 {k : IntKind} {w : World} {oa : Option Addr} {n cap : Nat} {l : List Int} (h : SlI k w (.slice oa n cap) l) (m : Nat) (hm : m ≤ l.length) : SlI k w (.slice oa m m) (l.take m) := by
  obtain ⟨oa', cap', e, h1, h2, h3, h4, h5⟩ := h
  cases e
  have hl : (l.take m).length = m := by simp; omega
  refine ⟨oa, m, by rw [hl], by rw [hl]; omega, fun i hi => ?_, by rw [hl]; omega, by omega, fun x => by have := h5 x; omega⟩
  rw [hl] at hi
  obtain ⟨b, off, e, hb, hc⟩ := h2 i (by omega)
  exact ⟨b, off, e, hb, by rw [hc, List.getD_eq_getElem?_getD, List.getD_eq_getElem?_getD, List.getElem?_take, if_pos hi]⟩
theorem SlI.drop {k : IntKind} {w : World} {b off n cap : Nat} {l : List Int} (h : SlI k w (.slice (some ⟨b, off, none⟩) n cap) l) (m : Nat) (hm : m ≤ l.length) : SlI k w (.slice (some ⟨b, off + m, none⟩) (n - m) (cap - m)) (l.drop m) := by
  obtain ⟨oa', cap', e, h1, h2, h3, h4, h5⟩ := h
  cases e
  refine ⟨_, cap - m, by rw [List.length_drop], by rw [List.length_drop]; omega, fun i hi => ?_, by rw [List.length_drop]; omega, by omega, fun h => by cases h⟩
  rw [List.length_drop] at hi
  obtain ⟨b', off', e, hb, hc⟩ := h2 (m + i) (by omega)
  cases e
  refine ⟨b, off + m, rfl, hb, ?_⟩
  rw [Nat.add_assoc, hc, List.getD_eq_getElem?_getD, List.getD_eq_getElem?_getD, List.getElem?_drop]
theorem SlI.from_ {k : IntKind} {w : World} {oa : Option Addr} {n cap : Nat} {l : List Int} (h : SlI k w (.slice oa n cap) l) (m : Nat) (hm : m ≤ l.length) (oa' : Option Addr) (ho : oa' = if cap = m then oa else oa.map (·.add m)) : SlI k w (.slice oa' (n - m) (cap - m)) (l.drop m) := by
  obtain ⟨oa2, cap2, e, h1, h2, h3, h4, h5⟩ := h
  cases e
  refine ⟨oa', cap - m, by rw [List.length_drop], by rw [List.length_drop]; omega, fun i hi => ?_, by rw [List.length_drop]; omega, by omega, fun h => ?_⟩
  · rw [List.length_drop] at hi
    obtain ⟨b, off, e, hb, hc⟩ := h2 (m + i) (by omega)
    rw [if_neg (by omega), e] at ho
    have ea : (⟨b, off, none⟩ : Addr).add m = ⟨b, off + m, none⟩ := by
      unfold Addr.add; split
      · rename_i h0; subst h0; rfl
      · rfl
    refine ⟨b, off + m, by rw [ho, Option.map_some, ea], hb, ?_⟩
    rw [Nat.add_assoc, hc, List.getD_eq_getElem?_getD, List.getD_eq_getElem?_getD, List.getElem?_drop]
  · subst ho
    split at h
    · have := h5 h; omega
    · cases oa with
      | none => have := h5 rfl; omega
      | some a => simp at h
end Go.Proofs.Ytlnikmcimmnbmaa
/- Rows of structs that the call grows: each element read as plain data, and what may be written meanwhile. -/
namespace Go.Proofs.Ytlnikmcimmnbmaa
set_option linter.unusedSimpArgs false
set_option linter.unusedVariables false
open Go.RowKit

/-- It reads so, whatever is written into the blocks of D. -/
def RdOff {α : Type} (R : Reader α) (D : Nat → Prop) (w : World) (cs : List Value) (y : α) : Prop := ∀ w', Away D w w' → R w' cs y
section
variable {α : Type} {R : Reader α} {D D' : Nat → Prop} {w w' : World} {cs : List Value} {y : α}
theorem RdOff.read (h : RdOff R D w cs y) : R w cs y := h w (Away.refl D w)
theorem RdOff.step (h : RdOff R D w cs y) (a : Away D w w') : RdOff R D w' cs y := fun _ b => h _ (a.trans b)
theorem RdOff.on (h : RdOff R D w cs y) (a : More w w') : RdOff R D w' cs y := h.step (Away.of_more a)
theorem RdOff.other (h : RdOff R D w cs y) (k : ∀ b, D' b → D b ∨ w.heap.size ≤ b) : RdOff R D' w cs y := fun w' a =>
  h w' ⟨a.os, a.tape, a.output, a.size, fun b hb hs => a.block b hb (fun x => by
    rcases k b x with e | e
    · exact hs e
    · omega)⟩
/-- What was there when a call began reads so, whatever is written into newer blocks. -/
theorem RdOff.old (hR : Keeps R) (h : R w cs y) (k : ∀ b, D b → w.heap.size ≤ b) : RdOff R D w cs y := fun w' a =>
  hR w w' cs y ⟨a.os, a.tape, a.output, a.size, fun b hb => a.block b hb (fun x => by have := k b x; omega)⟩ h
end
theorem SlI.off {k : IntKind} {D : Nat → Prop} {w w' : World} {v : Value} {l : List Int} (h : SlI k w v l) (hb : ∀ b, v.ownBlock = some b → ¬ D b) (a : Away D w w') : SlI k w' v l := by
  obtain ⟨oa, cap, rfl, h2, h3, h4⟩ := h
  refine ⟨oa, cap, rfl, h2, fun i hi => ?_, h4⟩
  obtain ⟨b, off, rfl, hlt, hc⟩ := h3 i hi
  exact ⟨b, off, rfl, Nat.lt_of_lt_of_le hlt a.size, by rw [a.cells b _ hlt (hb b rfl)]; exact hc⟩
/-- A slice of integers reads as one of readers. -/
theorem SlP.of_ints {k : IntKind} {w : World} {v : Value} {l : List Int} (h : SlI k w v l) (hw : ∀ n ∈ l, (Lit.int k n).wf = true) : SlP 1 (RInt k) w v l := by
  obtain ⟨oa, cap, h1, h2, h3, h4⟩ := h
  refine ⟨oa, cap, h1, h2, fun i hi => ?_, h4⟩
  obtain ⟨b, off, e, hb, hc⟩ := h3 i hi
  refine ⟨b, off, [.int k l[i]], e, hb, rfl, fun j hj => ?_, rfl, hw _ (List.getElem_mem hi)⟩
  obtain rfl : j = 0 := by omega
  simp at hc ⊢
  rw [hc]
  simp [hi]

/-- A row of structs of n cells that the call owns: what it reads as. D: the other blocks that are written. -/
structure RowP {α : Type} (n : Nat) (R : Reader α) (D : Nat → Prop) (w : World) (base e : Nat) (v : Value) (L : List α) : Prop where
  row : ∃ xs, w.ownsRow base e n v L.length xs ∧ ∀ i (hi : i < L.length), RdOff R (fun k => D k ∨ v.ownBlock = some k) w ((xs.drop (i * n)).take n) L[i]
  apart : ∀ b, v.ownBlock = some b → ¬ D b
section
variable {α : Type} {n : Nat} {R : Reader α} {D : Nat → Prop} {w w' : World} {base e : Nat} {v : Value} {L : List α}
theorem RowP.nil (n : Nat) (R : Reader α) (D : Nat → Prop) (w : World) (base e : Nat) : RowP n R D w base e (.slice none 0 0) [] :=
  ⟨⟨[], World.ownsRow_nil w base e n, fun i hi => by simp at hi⟩, fun b h => by cases h⟩
theorem RowP.step (h : RowP n R D w base e v L) (a : Away D w w') : RowP n R D w' base e v L := by
  obtain ⟨⟨xs, ⟨h1, h2⟩, h3⟩, h4⟩ := h
  refine ⟨⟨xs, ⟨h1, ?_⟩, fun i hi => (h3 i hi).step (a.mono fun k hk => Or.inl hk)⟩, h4⟩
  rcases h2 with h | ⟨g, cap, cur, e1, hb, hg, rest⟩
  · exact Or.inl h
  · exact Or.inr ⟨g, cap, cur, e1, hb, a.blk hg (h4 g (by rw [e1]; rfl)), rest⟩
theorem RowP.on (h : RowP n R D w base e v L) (a : More w w') : RowP n R D w' base e v L := h.step (Away.of_more a)
theorem RowP.shape (h : RowP n R D w base e v L) : ∃ oa m cap, v = .slice oa m cap ∧ m = L.length ∧ L.length ≤ cap := by
  obtain ⟨⟨xs, h1, _⟩, _⟩ := h
  rcases h1.2 with ⟨rfl, e⟩ | ⟨b, cap, cur, rfl, _, _, hc, _⟩
  · exact ⟨none, 0, 0, rfl, by omega, by omega⟩
  · exact ⟨_, _, cap, rfl, rfl, hc⟩
theorem RowP.lt (h : RowP n R D w base e v L) {b : Nat} (hb : v.ownBlock = some b) : b < w.heap.size := by
  obtain ⟨⟨xs, h1, _⟩, _⟩ := h
  rcases h1.2 with ⟨rfl, _⟩ | ⟨b', cap, cur, rfl, _, hg, _⟩
  · cases hb
  · obtain rfl : b' = b := by injection hb
    exact lt_of_block hg
theorem RowP.ge (h : RowP n R D w base e v L) {b : Nat} (hb : v.ownBlock = some b) : base ≤ b := by
  obtain ⟨⟨xs, h1, _⟩, _⟩ := h
  rcases h1.2 with ⟨rfl, _⟩ | ⟨b', cap, cur, rfl, hb', _⟩
  · cases hb
  · obtain rfl : b' = b := by injection hb
    exact hb'
theorem RowP.sl (h : RowP n R D w base e v L) (hn : 0 < n) : SlP n R w v L := by
  obtain ⟨⟨xs, ⟨h1, h2⟩, h3⟩, _⟩ := h
  rcases h2 with ⟨rfl, h0⟩ | ⟨g, cap, cur, rfl, hb, hg, hnc, hcm, hcs, htake⟩
  · obtain rfl : L = [] := List.eq_nil_of_length_eq_zero h0
    exact SlP.nil n R w
  · refine ⟨_, cap, rfl, by unfold maxLen at hcm; omega, fun i hi => ⟨g, 0, _, rfl, lt_of_block hg, ?_, fun j hj => ?_, (h3 i hi).read⟩, hnc, hcm, fun h => by cases h⟩
    · have hin : i * n + n ≤ L.length * n := by
        have : (i + 1) * n ≤ L.length * n := Nat.mul_le_mul_right n hi
        rw [Nat.add_mul, Nat.one_mul] at this; exact this
      rw [List.length_take, List.length_drop, h1]; omega
    · have hin : i * n + n ≤ L.length * n := by
        have : (i + 1) * n ≤ L.length * n := Nat.mul_le_mul_right n hi
        rw [Nat.add_mul, Nat.one_mul] at this; exact this
      rw [Nat.zero_add, cell_of_row w g _ cur e (0, 0) hg, List.getElem?_take, if_pos hj, List.getElem?_drop, ← htake, List.getElem?_take, if_pos (by omega)]
      simp
end
/-- append(s, y), run: s is a row of structs of the call's own. -/
theorem run_append_row {P : Program} (w : World) (base : Nat) (t ty e : TypeId) (i : TypeInfo) (z : Value) (n bytes : Nat) (ht : P.underlying t = some (.slice e)) (hi : P.info? e = some i) (hz : i.zero = some z)
    (hsize : i.size = n) (hby : i.bytes = bytes) (hzs : z.cells.size = n) (hn : 0 < n)
    {α : Type} {R : Reader α} {D : Nat → Prop} (v : Value) (L : List α) (hown : RowP n R D w base e v L)
    (B : Nat) (cs : List Value) (y : α) (hl : cs.length = n) (hnews : ∀ j u, cs[j]? = some u → w.cell? ⟨B, j, none⟩ = some u) (h1 : ∀ u ∈ cs, u.oneCell' = true)
    (hy : RdOff R (fun k => D k ∨ v.ownBlock = some k) w cs y) (hD : ∀ b, D b → b < w.heap.size)
    (hby1 : 1 ≤ bytes) (hbytes : (L.length + 1) * bytes ≤ 140737488355328) (hbase : base ≤ w.heap.size) :
    ∃ v' w', (Builtin.append_ #[t, t] ty #[v, .slice (some ⟨B, 0, none⟩) 1 1]).run P w = .ok v' w' ∧ RowP n R D w' base e v' (L ++ [y]) ∧ w.grownBy w' v.ownBlock ∧ (v'.ownBlock = v.ownBlock ∨ v'.ownBlock = some w.heap.size) := by
  obtain ⟨⟨xs, hr, he⟩, hap⟩ := hown
  have hm : L.length + 1 ≤ maxLen := by
    have := Nat.le_mul_of_pos_right (L.length + 1) (show 0 < bytes by omega)
    unfold maxLen; omega
  obtain ⟨v', w', hrun, ho', hg, _, hat⟩ := run_append_own_at (P := P) w base t ty e i z n bytes ht hi hz hsize hby hzs hn v L.length xs hr ⟨B, 0, none⟩ 1 1 cs (by rw [hl, Nat.one_mul]) (by
    intro j u hj
    have ea : (⟨B, 0, none⟩ : Addr).add j = ⟨B, j, none⟩ := by
      unfold Addr.add; split
      · rename_i h0; subst h0; rfl
      · simp
    rw [ea]; exact hnews j u hj) h1 hm hbytes hbase
  have hcells : ∀ k (hk : k < (L ++ [y]).length), RdOff R (fun k => D k ∨ v.ownBlock = some k) w (((xs ++ cs).drop (k * n)).take n) (L ++ [y])[k] := by
    intro k hk
    simp at hk
    by_cases e : k < L.length
    · have hin : k * n + n ≤ L.length * n := by
        have : (k + 1) * n ≤ L.length * n := Nat.mul_le_mul_right n e
        rw [Nat.add_mul, Nat.one_mul] at this; exact this
      have hxl := hr.1
      have e2 : ((xs ++ cs).drop (k * n)).take n = (xs.drop (k * n)).take n := by
        rw [List.drop_append_of_le_length (by omega), List.take_append_of_le_length (by rw [List.length_drop]; omega)]
      rw [e2, List.getElem_append_left e]
      exact he k e
    · obtain rfl : k = L.length := by omega
      have e2 : ((xs ++ cs).drop (L.length * n)).take n = cs := by
        rw [List.drop_append_of_le_length (by rw [hr.1]; exact Nat.le_refl _), List.drop_eq_nil_of_le (by rw [hr.1]; exact Nat.le_refl _), List.nil_append]
        exact List.take_of_length_le (by omega)
      rw [e2]
      simpa using hy
  refine ⟨v', w', hrun, ⟨⟨xs ++ cs, by simpa using ho', fun k hk w'' a' => ?_⟩, ?_⟩, hg, hat⟩
  · refine hcells k hk w'' ⟨a'.os.trans hg.os, a'.tape.trans hg.tape, a'.output.trans hg.output, Nat.le_trans hg.size a'.size, fun b hb hs => ?_⟩
    rw [a'.block b (Nat.lt_of_lt_of_le hb hg.size) ?_]
    · exact hg.block b hb (fun e => hs (Or.inr e.symm))
    · rintro (hb2 | hb2)
      · exact hs (Or.inl hb2)
      · rcases hat with hat | hat
        · exact hs (Or.inr (by rw [← hat]; exact hb2))
        · rw [hat] at hb2
          have : w.heap.size = b := by injection hb2
          omega
  · intro b hb hDb
    rcases hat with hat | hat
    · exact hap b (by rw [← hat]; exact hb) hDb
    · rw [hat] at hb
      have : w.heap.size = b := by injection hb
      have := hD b hDb
      omega
/-- append(s, y): s is a row of structs of the call's own. -/
theorem wpList_append_row {P : Program} (w : World) {ops : Array Oper} {rest : List Oper} {o : Oper} {a : Act} {Q : Exit → Act → World → Prop} (hgd : o.guard = none) (s x : Operand) (t : TypeId)
    (ho : o.op = .call { callee := .builtin .append, args := #[s, x], argTypes := #[t, t] })
    (base : Nat) (e : TypeId) (i : TypeInfo) (z : Value) (n bytes : Nat) (ht : P.underlying t = some (.slice e)) (hi : P.info? e = some i) (hz : i.zero = some z)
    (hsize : i.size = n) (hby : i.bytes = bytes) (hzs : z.cells.size = n) (hn : 0 < n)
    {α : Type} {R : Reader α} {D : Nat → Prop} (v : Value) (L : List α) (hs : a.eval s = v) (hown : RowP n R D w base e v L)
    (B : Nat) (cs : List Value) (y : α) (hx : a.eval x = .slice (some ⟨B, 0, none⟩) 1 1) (hl : cs.length = n) (hnews : ∀ j u, cs[j]? = some u → w.cell? ⟨B, j, none⟩ = some u) (h1 : ∀ u ∈ cs, u.oneCell' = true)
    (hy : RdOff R (fun k => D k ∨ v.ownBlock = some k) w cs y) (hD : ∀ b, D b → b < w.heap.size)
    (hby1 : 1 ≤ bytes) (hbytes : (L.length + 1) * bytes ≤ 140737488355328) (hbase : base ≤ w.heap.size)
    (h : ∀ v' w', RowP n R D w' base e v' (L ++ [y]) → w.grownBy w' v.ownBlock → (v'.ownBlock = v.ownBlock ∨ v'.ownBlock = some w.heap.size) → wpList P ops Q rest (a.put o.dst v') w') : wpList P ops Q (o :: rest) a w := by
  refine wpList_plain hgd fun K hK => ?_
  obtain ⟨v', w', hr, h2, h3, h5⟩ := run_append_row (P := P) w base t o.type e i z n bytes ht hi hz hsize hby hzs hn v L hown B cs y hl hnews h1 hy hD hby1 hbytes hbase
  unfold Oper.wp execOp
  simp only [ho, resolve, invoke, builtin, Sem.run_bind, Sem.run_pure, Result.andThen_ok, List.map_toArray, List.map_cons, List.map_nil, hs, hx, hr]
  exact hK _ _ (h v' w' h2 h3 h5)
/-- The same in a region that draws its order. -/
theorem loud_append_row {P : Program} {w : World} {o : Oper} {a : Act} {C : World → Prop} {K : Act → World → Prop} (s x : Operand) (t : TypeId)
    (ho : o.op = .call { callee := .builtin .append, args := #[s, x], argTypes := #[t, t] })
    (base : Nat) (e : TypeId) (i : TypeInfo) (z : Value) (n bytes : Nat) (ht : P.underlying t = some (.slice e)) (hi : P.info? e = some i) (hz : i.zero = some z)
    (hsize : i.size = n) (hby : i.bytes = bytes) (hzs : z.cells.size = n) (hn : 0 < n)
    {α : Type} {R : Reader α} {D : Nat → Prop} (v : Value) (L : List α) (hs : a.eval s = v) (hown : RowP n R D w base e v L)
    (B : Nat) (cs : List Value) (y : α) (hx : a.eval x = .slice (some ⟨B, 0, none⟩) 1 1) (hl : cs.length = n) (hnews : ∀ j u, cs[j]? = some u → w.cell? ⟨B, j, none⟩ = some u) (h1 : ∀ u ∈ cs, u.oneCell' = true)
    (hy : RdOff R (fun k => D k ∨ v.ownBlock = some k) w cs y) (hD : ∀ b, D b → b < w.heap.size)
    (hby1 : 1 ≤ bytes) (hbytes : (L.length + 1) * bytes ≤ 140737488355328) (hbase : base ≤ w.heap.size)
    (h : ∀ v' w', RowP n R D w' base e v' (L ++ [y]) → w.grownBy w' v.ownBlock → (v'.ownBlock = v.ownBlock ∨ v'.ownBlock = some w.heap.size) → C w' ∧ K (a.put o.dst v') w') : loud P C o a w K := by
  obtain ⟨v', w', hr, h2, h3, h5⟩ := run_append_row (P := P) w base t o.type e i z n bytes ht hi hz hsize hby hzs hn v L hown B cs y hl hnews h1 hy hD hby1 hbytes hbase
  unfold loud execOp
  simp only [ho, resolve, invoke, builtin, Sem.run_bind, Sem.run_pure, Result.andThen_ok, List.map_toArray, List.map_cons, List.map_nil, hs, hx, hr]
  exact h v' w' h2 h3 h5
end Go.Proofs.Ytlnikmcimmnbmaa
/- A region that draws its order, where two operations that are not quiet may come up at once: a tree of orders. -/
namespace Go.Proofs.Ytlnikmcimmnbmaa
set_option linter.unusedSimpArgs false
set_option linter.unusedVariables false
open Go.RowKit

inductive Tr where
  | done
  | op (k : Nat) (b : Bool) (t : Tr)
  | br (ks : List Nat) (f : Nat → Tr)

/-- Each way has as many operations. -/
def Tr.has : Nat → Tr → Bool
  | 0, .done => true
  | n + 1, .op _ _ t => t.has n
  | n + 1, .br ks f => ks.all fun k => (f k).has n
  | _, _ => false
section
variable {P : Program} {ops : Array Oper} {md : Region.Mode} {C : World → Prop}
def trB (md : Region.Mode) (ops : Array Oper) (T : Nat) : Tr → Array Bool → Bool
  | .done, listed => (Region.ready md ops listed).isEmpty
  | .op k true t, listed => decide (k < ops.size) && decide (Region.ready md ops listed = [k]) && trB md ops T t (listed.setIfInBounds k true)
  | .op k false t, listed => decide (k < ops.size) && (Region.ready md ops listed).contains k && Region.free md ops listed k && ((ops[k]?).map (plainB ·.op)).getD false && tailB md ops T k && trB md ops T t (listed.setIfInBounds k true)
  | .br ks f, listed => !ks.isEmpty && decide (Region.ready md ops listed = ks) && ks.all fun k => decide (k < ops.size) && trB md ops T (f k) (listed.setIfInBounds k true)

def wpTr (P : Program) (ops : Array Oper) (T : Nat) (C : World → Prop) (Q : Act → World → Prop) : Tr → Act → World → Prop
  | .done, a, w => Q a w
  | .op k true t, a, w => if Region.wanted (ops[k]?.getD default) (yielded ops a.tmps) then loud P (Dem T C k) (ops[k]?.getD default) a w (wpTr P ops T C Q t) else C w ∧ wpTr P ops T C Q t (a.put (ops[k]?.getD default).dst undef) w
  | .op k false t, a, w => C w ∧ if Region.wanted (ops[k]?.getD default) (yielded ops a.tmps) then (ops[k]?.getD default).quiet P a C (fun a' => wpTr P ops T C Q t a' w) else wpTr P ops T C Q t (a.put (ops[k]?.getD default).dst undef) w
  | .br ks f, a, w => ∀ k ∈ ks, if Region.wanted (ops[k]?.getD default) (yielded ops a.tmps) then loud P (Dem T C k) (ops[k]?.getD default) a w (wpTr P ops T C Q (f k)) else C w ∧ wpTr P ops T C Q (f k) (a.put (ops[k]?.getD default).dst undef) w

theorem wpAnyC_tr {T : Nat} {Q : Act → World → Prop} (hs : Region.noSelect ops = true) : ∀ (n : Nat) (t : Tr) (listed : Array Bool) (a : Act) (w : World), t.has n = true →
    trB md ops T t listed = true → wpTr P ops T C Q t a w → wpAnyC P md ops T C Q n listed a w
  | 0, .done, _, _, _, _, hB, h => ⟨by simpa [trB] using hB, h⟩
  | 0, .op .., _, _, _, hh, _, _ => by simp [Tr.has] at hh
  | 0, .br .., _, _, _, hh, _, _ => by simp [Tr.has] at hh
  | _ + 1, .done, _, _, _, hh, _, _ => by simp [Tr.has] at hh
  | n + 1, .op k true t, listed, a, w, hh, hB, h => by
    simp only [trB, Bool.and_eq_true, decide_eq_true_eq] at hB
    obtain ⟨⟨hk, hr⟩, hB'⟩ := hB
    have h0 : ops[k]? = some (ops[k]?.getD default) := by simp [hk]
    generalize ops[k]?.getD default = o at h0
    refine ⟨fun h1 => (by rw [hr] at h1; cases h1), fun i hi => ?_⟩
    rw [hr] at hi
    obtain rfl : i = k := by simpa using hi
    unfold loudOp
    unfold wpTr at h
    simp only [h0, Option.getD_some] at h ⊢
    split
    · rename_i hw
      rw [if_pos hw] at h
      exact loud_mono (fun a' w' _ h' => wpAnyC_tr hs n t _ a' w' hh hB' h') h
    · rename_i hw
      rw [if_neg hw] at h
      exact ⟨dem_of h.1, wpAnyC_tr hs n t _ _ w hh hB' h.2⟩
  | n + 1, .op k false t, listed, a, w, hh, hB, h => by
    simp only [trB, Bool.and_eq_true, decide_eq_true_eq] at hB
    obtain ⟨⟨⟨⟨⟨hk, hr⟩, hf⟩, hp⟩, ht⟩, hB'⟩ := hB
    have h0 : ops[k]? = some (ops[k]?.getD default) := by simp [hk]
    generalize ops[k]?.getD default = o at h0
    rw [h0] at hp
    simp only [Option.map_some, Option.getD_some] at hp
    unfold wpTr at h
    simp only [h0, Option.getD_some] at h
    obtain ⟨hC, h⟩ := h
    obtain ⟨v, hy, hK⟩ : ∃ v, Calm P ops C o v a ∧ wpTr P ops T C Q t (a.put o.dst v) w := by
      by_cases hw : Region.wanted o (yielded ops a.tmps) = true
      · rw [if_pos hw] at h
        exact calm_of_quiet hp hw h
      · rw [if_neg hw] at h
        exact ⟨undef, .inr ⟨by simpa using hw, rfl⟩, h⟩
    exact wpAnyC_first h0 (Region.noSelect_spec hs) (tailB_spec ht) n listed a w hC (Region.free_spec h0 hf) (by simpa using hr) hy
      (wpAnyC_tr hs n t _ _ w hh hB' hK)
  | n + 1, .br ks f, listed, a, w, hh, hB, h => by
    simp only [trB, Bool.and_eq_true, decide_eq_true_eq, List.all_eq_true] at hB
    obtain ⟨⟨hne, hr⟩, hB'⟩ := hB
    simp only [Tr.has, List.all_eq_true] at hh
    refine ⟨fun h1 => (by rw [hr] at h1; subst h1; simp at hne), fun i hi => ?_⟩
    · rw [hr] at hi
      have hk := (hB' i hi).1
      have hB2 := (hB' i hi).2
      have h1 := h i hi
      have h0 : ops[i]? = some (ops[i]?.getD default) := by simp [hk]
      generalize ops[i]?.getD default = o at h0
      unfold loudOp
      simp only [h0, Option.getD_some] at h1 ⊢
      split
      · rename_i hw
        rw [if_pos hw] at h1
        exact loud_mono (fun a' w' _ h' => wpAnyC_tr hs n (f i) _ a' w' (hh i hi) hB2 h') h1
      · rename_i hw
        rw [if_neg hw] at h1
        exact ⟨dem_of h1.1, wpAnyC_tr hs n (f i) _ _ w (hh i hi) hB2 h1.2⟩
end
section
variable {P : Program} {C : World → Prop} {l : List Oper} {T : Nat} {Q : Act → World → Prop} {k : Nat} {b : Bool} {o : Oper} {t : Tr} {a : Act} {w : World}
theorem tr_done (h : Q a w) : wpTr P l.toArray T C Q .done a w := h
theorem tr_quiet (ho : l[k]? = some o) (hw : Region.wanted o (yielded l.toArray a.tmps) = true) (hC : C w) (h : ∀ K : Act → Prop, (∀ a, wpTr P l.toArray T C Q t a w → K a) → o.quiet P a C K) : wpTr P l.toArray T C Q (.op k false t) a w := by
  unfold wpTr
  simp only [List.getElem?_toArray, ho, Option.getD_some]
  rw [if_pos hw]
  exact ⟨hC, h _ (fun a h => h)⟩
theorem tr_skip (ho : l[k]? = some o) (hw : Region.wanted o (yielded l.toArray a.tmps) = false) (hC : C w) (h : wpTr P l.toArray T C Q t (a.put o.dst undef) w) : wpTr P l.toArray T C Q (.op k b t) a w := by
  cases b
  all_goals
    unfold wpTr
    simp only [List.getElem?_toArray, ho, Option.getD_some]
    rw [if_neg (by rw [hw]; exact Bool.false_ne_true)]
    exact ⟨hC, h⟩
theorem tr_next (ho : l[k]? = some o) (hw : Region.wanted o (yielded l.toArray a.tmps) = true) (h : ∀ K : Act → World → Prop, (∀ a w, wpTr P l.toArray T C Q t a w → K a w) → loud P C o a w K) : wpTr P l.toArray T C Q (.op k true t) a w := by
  unfold wpTr
  simp only [List.getElem?_toArray, ho, Option.getD_some]
  rw [if_pos hw]
  exact loud_class (fun _ h => dem_of h) (h _ fun a w h => h)
theorem tr_end (ho : l[k]? = some o) (hw : Region.wanted o (yielded l.toArray a.tmps) = true) (hk : T ≤ k) (h : ∀ K : Act → World → Prop, (∀ a w, wpTr P l.toArray T C Q t a w → K a w) → loud P (fun _ => True) o a w K) : wpTr P l.toArray T C Q (.op k true t) a w := by
  unfold wpTr
  simp only [List.getElem?_toArray, ho, Option.getD_some]
  rw [if_pos hw]
  exact loud_class (fun w _ => fun hlt => absurd hlt (by omega)) (h _ fun a w h => h)
/-- One of two that may come up: each of them. -/
theorem tr_two {i j : Nat} {t' : Tr} (hne : i ≠ j) (hi : wpTr P l.toArray T C Q (.op i true t) a w) (hj : wpTr P l.toArray T C Q (.op j true t') a w) : wpTr P l.toArray T C Q (.br [i, j] fun k => if k = i then t else t') a w := by
  unfold wpTr at *
  intro k hk
  simp at hk
  rcases hk with rfl | rfl
  · simpa using hi
  · have : ¬ k = i := fun e => hne e.symm
    simpa [this] using hj
end
theorem wp_region_tr {P : Program} {id : Nat} {Q : Exit → Act → World → Prop} {a : Act} {w : World} {l : List Oper} {C : World → Prop} (T : Nat) (t : Tr) (hm : P.follows .mixedOrders = true)
    (hB : (Region.noSelect l.toArray && trB .any l.toArray T t (Array.replicate l.length false) && t.has l.length) = true)
    (h : wpTr P l.toArray T C (Q .normal) t a (w.drewN 1)) : (Code.region id l.toArray true).wp P Q a w := by
  simp only [Bool.and_eq_true] at hB
  obtain ⟨⟨h1, h2⟩, h3⟩ := hB
  refine wp_region_any hm (wpAny_of_C (T := T) (C := C) (Q := Q .normal) (fun _ _ h => h) _ _ _ _ ?_)
  have hl : l.toArray.size = l.length := by simp
  rw [hl]
  exact wpAnyC_tr h1 _ t _ a _ h3 h2 h
theorem wp_region_trL {P : Program} {id : Nat} {Q : Exit → Act → World → Prop} {a : Act} {w : World} {l : List Oper} (w0 : World) (T : Nat) (t : Tr) (hm : P.follows .mixedOrders = true)
    (hB : (Region.noSelect l.toArray && trB .any l.toArray T t (Array.replicate l.length false) && t.has l.length) = true)
    (h : wpTr P l.toArray T (fun w' => ∃ x : Later w0, w' = x.w') (Q .normal) t a (w.drewN 1)) : (Code.region id l.toArray true).wp P Q a w :=
  wp_region_tr (C := fun w' => ∃ x : Later w0, w' = x.w') T t hm hB h
theorem wp_region_trS {P : Program} {id : Nat} {Q : Exit → Act → World → Prop} {a : Act} {w : World} {l : List Oper} (S : Nat → Prop) (w0 : World) (T : Nat) (t : Tr) (hm : P.follows .mixedOrders = true)
    (hB : (Region.noSelect l.toArray && trB .any l.toArray T t (Array.replicate l.length false) && t.has l.length) = true)
    (h : wpTr P l.toArray T (fun w' => ∃ x : LaterS S w0, w' = x.w') (Q .normal) t a (w.drewN 1)) : (Code.region id l.toArray true).wp P Q a w :=
  wp_region_tr (C := fun w' => ∃ x : LaterS S w0, w' = x.w') T t hm hB h
end Go.Proofs.Ytlnikmcimmnbmaa
