/- Rows of structs that the call grows: each element read as plain data, and what may be written meanwhile. -/
import Derived.Test.YtlnikmcimmnbmaaRead
import Derived.Test.YtlnikmcimmnbmaaRegion
import Derived.Test.YtlnikmcimmnbmaaSliceB
namespace Go.Proofs.Ytlnikmcimmnbmaa
set_option linter.unusedSimpArgs false
set_option linter.unusedVariables false
open Go.RowKit

/-- It reads so, whatever is written into the blocks of D. -/
def RdOff {α : Type} (R : Reader α) (D : Nat → Prop) (w : World) (cs : List Value) (y : α) : Prop := ∀ w', Away D w w' → R w' cs y
section
variable {α : Type} {R : Reader α} {D D' : Nat → Prop} {w w' : World} {cs : List Value} {y : α}
theorem RdOff.read (h : RdOff R D w cs y) : R w cs y := h w (Away.refl D w)
theorem RdOff.step (h : RdOff R D w cs y) (a : Away D w w') : RdOff R D w' cs y := fun _ b => h _ (a.trans b)
theorem RdOff.on (h : RdOff R D w cs y) (a : More w w') : RdOff R D w' cs y := h.step (Away.of_more a)
theorem RdOff.other (h : RdOff R D w cs y) (k : ∀ b, D' b → D b ∨ w.heap.size ≤ b) : RdOff R D' w cs y := fun w' a =>
  h w' ⟨a.os, a.tape, a.output, a.size, fun b hb hs => a.block b hb (fun x => by
    rcases k b x with e | e
    · exact hs e
    · omega)⟩
/-- What was there when a call began reads so, whatever is written into newer blocks. -/
theorem RdOff.old (hR : Keeps R) (h : R w cs y) (k : ∀ b, D b → w.heap.size ≤ b) : RdOff R D w cs y := fun w' a =>
  hR w w' cs y ⟨a.os, a.tape, a.output, a.size, fun b hb => a.block b hb (fun x => by have := k b x; omega)⟩ h
end
theorem SlI.off {k : IntKind} {D : Nat → Prop} {w w' : World} {v : Value} {l : List Int} (h : SlI k w v l) (hb : ∀ b, v.ownBlock = some b → ¬ D b) (a : Away D w w') : SlI k w' v l := by
  obtain ⟨oa, cap, rfl, h2, h3, h4⟩ := h
  refine ⟨oa, cap, rfl, h2, fun i hi => ?_, h4⟩
  obtain ⟨b, off, rfl, hlt, hc⟩ := h3 i hi
  exact ⟨b, off, rfl, Nat.lt_of_lt_of_le hlt a.size, by rw [a.cells b _ hlt (hb b rfl)]; exact hc⟩
/-- A slice of integers reads as one of readers. -/
theorem SlP.of_ints {k : IntKind} {w : World} {v : Value} {l : List Int} (h : SlI k w v l) (hw : ∀ n ∈ l, (Lit.int k n).wf = true) : SlP 1 (RInt k) w v l := by
  obtain ⟨oa, cap, h1, h2, h3, h4⟩ := h
  refine ⟨oa, cap, h1, h2, fun i hi => ?_, h4⟩
  obtain ⟨b, off, e, hb, hc⟩ := h3 i hi
  refine ⟨b, off, [.int k l[i]], e, hb, rfl, fun j hj => ?_, rfl, hw _ (List.getElem_mem hi)⟩
  obtain rfl : j = 0 := by omega
  simp at hc ⊢
  rw [hc]
  simp [hi]

/-- A row of structs of n cells that the call owns: what it reads as. D: the other blocks that are written. -/
structure RowP {α : Type} (n : Nat) (R : Reader α) (D : Nat → Prop) (w : World) (base e : Nat) (v : Value) (L : List α) : Prop where
  row : ∃ xs, w.ownsRow base e n v L.length xs ∧ ∀ i (hi : i < L.length), RdOff R (fun k => D k ∨ v.ownBlock = some k) w ((xs.drop (i * n)).take n) L[i]
  apart : ∀ b, v.ownBlock = some b → ¬ D b
section
variable {α : Type} {n : Nat} {R : Reader α} {D : Nat → Prop} {w w' : World} {base e : Nat} {v : Value} {L : List α}
theorem RowP.nil (n : Nat) (R : Reader α) (D : Nat → Prop) (w : World) (base e : Nat) : RowP n R D w base e (.slice none 0 0) [] :=
  ⟨⟨[], World.ownsRow_nil w base e n, fun i hi => by simp at hi⟩, fun b h => by cases h⟩
theorem RowP.step (h : RowP n R D w base e v L) (a : Away D w w') : RowP n R D w' base e v L := by
  obtain ⟨⟨xs, ⟨h1, h2⟩, h3⟩, h4⟩ := h
  refine ⟨⟨xs, ⟨h1, ?_⟩, fun i hi => (h3 i hi).step (a.mono fun k hk => Or.inl hk)⟩, h4⟩
  rcases h2 with h | ⟨g, cap, cur, e1, hb, hg, rest⟩
  · exact Or.inl h
  · exact Or.inr ⟨g, cap, cur, e1, hb, a.blk hg (h4 g (by rw [e1]; rfl)), rest⟩
theorem RowP.on (h : RowP n R D w base e v L) (a : More w w') : RowP n R D w' base e v L := h.step (Away.of_more a)
theorem RowP.shape (h : RowP n R D w base e v L) : ∃ oa m cap, v = .slice oa m cap ∧ m = L.length ∧ L.length ≤ cap := by
  obtain ⟨⟨xs, h1, _⟩, _⟩ := h
  rcases h1.2 with ⟨rfl, e⟩ | ⟨b, cap, cur, rfl, _, _, hc, _⟩
  · exact ⟨none, 0, 0, rfl, by omega, by omega⟩
  · exact ⟨_, _, cap, rfl, rfl, hc⟩
theorem RowP.lt (h : RowP n R D w base e v L) {b : Nat} (hb : v.ownBlock = some b) : b < w.heap.size := by
  obtain ⟨⟨xs, h1, _⟩, _⟩ := h
  rcases h1.2 with ⟨rfl, _⟩ | ⟨b', cap, cur, rfl, _, hg, _⟩
  · cases hb
  · obtain rfl : b' = b := by injection hb
    exact lt_of_block hg
theorem RowP.ge (h : RowP n R D w base e v L) {b : Nat} (hb : v.ownBlock = some b) : base ≤ b := by
  obtain ⟨⟨xs, h1, _⟩, _⟩ := h
  rcases h1.2 with ⟨rfl, _⟩ | ⟨b', cap, cur, rfl, hb', _⟩
  · cases hb
  · obtain rfl : b' = b := by injection hb
    exact hb'
theorem RowP.sl (h : RowP n R D w base e v L) (hn : 0 < n) : SlP n R w v L := by
  obtain ⟨⟨xs, ⟨h1, h2⟩, h3⟩, _⟩ := h
  rcases h2 with ⟨rfl, h0⟩ | ⟨g, cap, cur, rfl, hb, hg, hnc, hcm, hcs, htake⟩
  · obtain rfl : L = [] := List.eq_nil_of_length_eq_zero h0
    exact SlP.nil n R w
  · refine ⟨_, cap, rfl, by unfold maxLen at hcm; omega, fun i hi => ⟨g, 0, _, rfl, lt_of_block hg, ?_, fun j hj => ?_, (h3 i hi).read⟩, hnc, hcm, fun h => by cases h⟩
    · have hin : i * n + n ≤ L.length * n := by
        have : (i + 1) * n ≤ L.length * n := Nat.mul_le_mul_right n hi
        rw [Nat.add_mul, Nat.one_mul] at this; exact this
      rw [List.length_take, List.length_drop, h1]; omega
    · have hin : i * n + n ≤ L.length * n := by
        have : (i + 1) * n ≤ L.length * n := Nat.mul_le_mul_right n hi
        rw [Nat.add_mul, Nat.one_mul] at this; exact this
      rw [Nat.zero_add, cell_of_row w g _ cur e (0, 0) hg, List.getElem?_take, if_pos hj, List.getElem?_drop, ← htake, List.getElem?_take, if_pos (by omega)]
      simp
end
/-- append(s, y), run: s is a row of structs of the call's own. -/
theorem run_append_row {P : Program} (w : World) (base : Nat) (t ty e : TypeId) (i : TypeInfo) (z : Value) (n bytes : Nat) (ht : P.underlying t = some (.slice e)) (hi : P.info? e = some i) (hz : i.zero = some z)
    (hsize : i.size = n) (hby : i.bytes = bytes) (hzs : z.cells.size = n) (hn : 0 < n)
    {α : Type} {R : Reader α} {D : Nat → Prop} (v : Value) (L : List α) (hown : RowP n R D w base e v L)
    (B : Nat) (cs : List Value) (y : α) (hl : cs.length = n) (hnews : ∀ j u, cs[j]? = some u → w.cell? ⟨B, j, none⟩ = some u) (h1 : ∀ u ∈ cs, u.oneCell' = true)
    (hy : RdOff R (fun k => D k ∨ v.ownBlock = some k) w cs y) (hD : ∀ b, D b → b < w.heap.size)
    (hby1 : 1 ≤ bytes) (hbytes : (L.length + 1) * bytes ≤ 140737488355328) (hbase : base ≤ w.heap.size) :
    ∃ v' w', (Builtin.append_ #[t, t] ty #[v, .slice (some ⟨B, 0, none⟩) 1 1]).run P w = .ok v' w' ∧ RowP n R D w' base e v' (L ++ [y]) ∧ w.grownBy w' v.ownBlock ∧ (v'.ownBlock = v.ownBlock ∨ v'.ownBlock = some w.heap.size) := by
  obtain ⟨⟨xs, hr, he⟩, hap⟩ := hown
  have hm : L.length + 1 ≤ maxLen := by
    have := Nat.le_mul_of_pos_right (L.length + 1) (show 0 < bytes by omega)
    unfold maxLen; omega
  obtain ⟨v', w', hrun, ho', hg, _, hat⟩ := run_append_own_at (P := P) w base t ty e i z n bytes ht hi hz hsize hby hzs hn v L.length xs hr ⟨B, 0, none⟩ 1 1 cs (by rw [hl, Nat.one_mul]) (by
    intro j u hj
    have ea : (⟨B, 0, none⟩ : Addr).add j = ⟨B, j, none⟩ := by
      unfold Addr.add; split
      · rename_i h0; subst h0; rfl
      · simp
    rw [ea]; exact hnews j u hj) h1 hm hbytes hbase
  have hcells : ∀ k (hk : k < (L ++ [y]).length), RdOff R (fun k => D k ∨ v.ownBlock = some k) w (((xs ++ cs).drop (k * n)).take n) (L ++ [y])[k] := by
    intro k hk
    simp at hk
    by_cases e : k < L.length
    · have hin : k * n + n ≤ L.length * n := by
        have : (k + 1) * n ≤ L.length * n := Nat.mul_le_mul_right n e
        rw [Nat.add_mul, Nat.one_mul] at this; exact this
      have hxl := hr.1
      have e2 : ((xs ++ cs).drop (k * n)).take n = (xs.drop (k * n)).take n := by
        rw [List.drop_append_of_le_length (by omega), List.take_append_of_le_length (by rw [List.length_drop]; omega)]
      rw [e2, List.getElem_append_left e]
      exact he k e
    · obtain rfl : k = L.length := by omega
      have e2 : ((xs ++ cs).drop (L.length * n)).take n = cs := by
        rw [List.drop_append_of_le_length (by rw [hr.1]; exact Nat.le_refl _), List.drop_eq_nil_of_le (by rw [hr.1]; exact Nat.le_refl _), List.nil_append]
        exact List.take_of_length_le (by omega)
      rw [e2]
      simpa using hy
  refine ⟨v', w', hrun, ⟨⟨xs ++ cs, by simpa using ho', fun k hk w'' a' => ?_⟩, ?_⟩, hg, hat⟩
  · refine hcells k hk w'' ⟨a'.os.trans hg.os, a'.tape.trans hg.tape, a'.output.trans hg.output, Nat.le_trans hg.size a'.size, fun b hb hs => ?_⟩
    rw [a'.block b (Nat.lt_of_lt_of_le hb hg.size) ?_]
    · exact hg.block b hb (fun e => hs (Or.inr e.symm))
    · rintro (hb2 | hb2)
      · exact hs (Or.inl hb2)
      · rcases hat with hat | hat
        · exact hs (Or.inr (by rw [← hat]; exact hb2))
        · rw [hat] at hb2
          have : w.heap.size = b := by injection hb2
          omega
  · intro b hb hDb
    rcases hat with hat | hat
    · exact hap b (by rw [← hat]; exact hb) hDb
    · rw [hat] at hb
      have : w.heap.size = b := by injection hb
      have := hD b hDb
      omega
/-- append(s, y): s is a row of structs of the call's own. -/
theorem wpList_append_row {P : Program} (w : World) {ops : Array Oper} {rest : List Oper} {o : Oper} {a : Act} {Q : Exit → Act → World → Prop} (hgd : o.guard = none) (s x : Operand) (t : TypeId)
    (ho : o.op = .call { callee := .builtin .append, args := #[s, x], argTypes := #[t, t] })
    (base : Nat) (e : TypeId) (i : TypeInfo) (z : Value) (n bytes : Nat) (ht : P.underlying t = some (.slice e)) (hi : P.info? e = some i) (hz : i.zero = some z)
    (hsize : i.size = n) (hby : i.bytes = bytes) (hzs : z.cells.size = n) (hn : 0 < n)
    {α : Type} {R : Reader α} {D : Nat → Prop} (v : Value) (L : List α) (hs : a.eval s = v) (hown : RowP n R D w base e v L)
    (B : Nat) (cs : List Value) (y : α) (hx : a.eval x = .slice (some ⟨B, 0, none⟩) 1 1) (hl : cs.length = n) (hnews : ∀ j u, cs[j]? = some u → w.cell? ⟨B, j, none⟩ = some u) (h1 : ∀ u ∈ cs, u.oneCell' = true)
    (hy : RdOff R (fun k => D k ∨ v.ownBlock = some k) w cs y) (hD : ∀ b, D b → b < w.heap.size)
    (hby1 : 1 ≤ bytes) (hbytes : (L.length + 1) * bytes ≤ 140737488355328) (hbase : base ≤ w.heap.size)
    (h : ∀ v' w', RowP n R D w' base e v' (L ++ [y]) → w.grownBy w' v.ownBlock → (v'.ownBlock = v.ownBlock ∨ v'.ownBlock = some w.heap.size) → wpList P ops Q rest (a.put o.dst v') w') : wpList P ops Q (o :: rest) a w := by
  refine wpList_plain hgd fun K hK => ?_
  obtain ⟨v', w', hr, h2, h3, h5⟩ := run_append_row (P := P) w base t o.type e i z n bytes ht hi hz hsize hby hzs hn v L hown B cs y hl hnews h1 hy hD hby1 hbytes hbase
  unfold Oper.wp execOp
  simp only [ho, resolve, invoke, builtin, Sem.run_bind, Sem.run_pure, Result.andThen_ok, List.map_toArray, List.map_cons, List.map_nil, hs, hx, hr]
  exact hK _ _ (h v' w' h2 h3 h5)
/-- The same in a region that draws its order. -/
theorem loud_append_row {P : Program} {w : World} {o : Oper} {a : Act} {C : World → Prop} {K : Act → World → Prop} (s x : Operand) (t : TypeId)
    (ho : o.op = .call { callee := .builtin .append, args := #[s, x], argTypes := #[t, t] })
    (base : Nat) (e : TypeId) (i : TypeInfo) (z : Value) (n bytes : Nat) (ht : P.underlying t = some (.slice e)) (hi : P.info? e = some i) (hz : i.zero = some z)
    (hsize : i.size = n) (hby : i.bytes = bytes) (hzs : z.cells.size = n) (hn : 0 < n)
    {α : Type} {R : Reader α} {D : Nat → Prop} (v : Value) (L : List α) (hs : a.eval s = v) (hown : RowP n R D w base e v L)
    (B : Nat) (cs : List Value) (y : α) (hx : a.eval x = .slice (some ⟨B, 0, none⟩) 1 1) (hl : cs.length = n) (hnews : ∀ j u, cs[j]? = some u → w.cell? ⟨B, j, none⟩ = some u) (h1 : ∀ u ∈ cs, u.oneCell' = true)
    (hy : RdOff R (fun k => D k ∨ v.ownBlock = some k) w cs y) (hD : ∀ b, D b → b < w.heap.size)
    (hby1 : 1 ≤ bytes) (hbytes : (L.length + 1) * bytes ≤ 140737488355328) (hbase : base ≤ w.heap.size)
    (h : ∀ v' w', RowP n R D w' base e v' (L ++ [y]) → w.grownBy w' v.ownBlock → (v'.ownBlock = v.ownBlock ∨ v'.ownBlock = some w.heap.size) → C w' ∧ K (a.put o.dst v') w') : loud P C o a w K := by
  obtain ⟨v', w', hr, h2, h3, h5⟩ := run_append_row (P := P) w base t o.type e i z n bytes ht hi hz hsize hby hzs hn v L hown B cs y hl hnews h1 hy hD hby1 hbytes hbase
  unfold loud execOp
  simp only [ho, resolve, invoke, builtin, Sem.run_bind, Sem.run_pure, Result.andThen_ok, List.map_toArray, List.map_cons, List.map_nil, hs, hx, hr]
  exact h v' w' h2 h3 h5
end Go.Proofs.Ytlnikmcimmnbmaa
