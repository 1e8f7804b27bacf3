/- Merged from my texts RowS, HeadA. -/
import Derived.Test.YtdgmmffedhikcaaMg6
import Derived.Test.YtdgmmffedhikcaaMg2
import Derived.Test.YtdgmmffedhikcaaMg3
import Derived.Test.YtdgmmffedhikcaaMg5
/- Rows of structs that the call grows: each element read as plain data, and what may be written meanwhile. -/
namespace Go.Proofs.Ytdgmmffedhikcaa
set_option linter.unusedSimpArgs false
set_option linter.unusedVariables false
open Go.RowKit

/-- It reads so, whatever is written into the blocks of D. -/
def RdOff {α : Type} (R : Reader α) (D : Nat → Prop) (w : World) (cs : List Value) (y : α) : Prop := ∀ w', Away D w w' → R w' cs y
section
variable {α : Type} {R : Reader α} {D D' : Nat → Prop} {w w' : World} {cs : List Value} {y : α}
theorem RdOff.read (h : RdOff R D w cs y) : R w cs y := h w (Away.refl D w)
theorem RdOff.step (h : RdOff R D w cs y) (a : Away D w w') : RdOff R D w' cs y := fun _ b => h _ (a.trans b)
theorem RdOff.on (h : RdOff R D w cs y) (a : More w w') : RdOff R D w' cs y := h.step (Away.of_more a)
theorem RdOff.other (h : RdOff R D w cs y) (k : ∀ b, D' b → D b ∨ w.heap.size ≤ b) : RdOff R D' w cs y := fun w' a =>
  h w' ⟨a.os, a.tape, a.output, a.size, fun b hb hs => a.block b hb (fun x => by
    rcases k b x with e | e
    · exact hs e
    · omega)⟩
/-- What was there when a call began reads so, whatever is written into newer blocks. -/
theorem RdOff.old (hR : Keeps R) (h : R w cs y) (k : ∀ b, D b → w.heap.size ≤ b) : RdOff R D w cs y := fun w' a =>
  hR w w' cs y ⟨a.os, a.tape, a.output, a.size, fun b hb => a.block b hb (fun x => by have := k b x; omega)⟩ h
end
theorem SlI.off {k : IntKind} {D : Nat → Prop} {w w' : World} {v : Value} {l : List Int} (h : SlI k w v l) (hb : ∀ b, v.ownBlock = some b → ¬ D b) (a : Away D w w') : SlI k w' v l := by
  obtain ⟨oa, cap, rfl, h2, h3, h4⟩ := h
  refine ⟨oa, cap, rfl, h2, fun i hi => ?_, h4⟩
  obtain ⟨b, off, rfl, hlt, hc⟩ := h3 i hi
  exact ⟨b, off, rfl, Nat.lt_of_lt_of_le hlt a.size, by rw [a.cells b _ hlt (hb b rfl)]; exact hc⟩
/-- A slice of integers reads as one of readers. -/
theorem SlP.of_ints {k : IntKind} {w : World} {v : Value} {l : List Int} (h : SlI k w v l) (hw : ∀ n ∈ l, (Lit.int k n).wf = true) : SlP 1 (RInt k) w v l := by
  obtain ⟨oa, cap, h1, h2, h3, h4⟩ := h
  refine ⟨oa, cap, h1, h2, fun i hi => ?_, h4⟩
  obtain ⟨b, off, e, hb, hc⟩ := h3 i hi
  refine ⟨b, off, [.int k l[i]], e, hb, rfl, fun j hj => ?_, rfl, hw _ (List.getElem_mem hi)⟩
  obtain rfl : j = 0 := by omega
  simp at hc ⊢
  rw [hc]
  simp [hi]

/-- A row of structs of n cells that the call owns: what it reads as. D: the other blocks that are written. -/
structure RowP {α : Type} (n : Nat) (R : Reader α) (D : Nat → Prop) (w : World) (base e : Nat) (v : Value) (L : List α) : Prop where
  row : ∃ xs, w.ownsRow base e n v L.length xs ∧ ∀ i (hi : i < L.length), RdOff R (fun k => D k ∨ v.ownBlock = some k) w ((xs.drop (i * n)).take n) L[i]
  apart : ∀ b, v.ownBlock = some b → ¬ D b
section
variable {α : Type} {n : Nat} {R : Reader α} {D : Nat → Prop} {w w' : World} {base e : Nat} {v : Value} {L : List α}
theorem RowP.nil (n : Nat) (R : Reader α) (D : Nat → Prop) (w : World) (base e : Nat) : RowP n R D w base e (.slice none 0 0) [] :=
  ⟨⟨[], World.ownsRow_nil w base e n, fun i hi => by simp at hi⟩, fun b h => by cases h⟩
theorem RowP.step (h : RowP n R D w base e v L) (a : Away D w w') : RowP n R D w' base e v L := by
  obtain ⟨⟨xs, ⟨h1, h2⟩, h3⟩, h4⟩ := h
  refine ⟨⟨xs, ⟨h1, ?_⟩, fun i hi => (h3 i hi).step (a.mono fun k hk => Or.inl hk)⟩, h4⟩
  rcases h2 with h | ⟨g, cap, cur, e1, hb, hg, rest⟩
  · exact Or.inl h
  · exact Or.inr ⟨g, cap, cur, e1, hb, a.blk hg (h4 g (by rw [e1]; rfl)), rest⟩
theorem RowP.on (h : RowP n R D w base e v L) (a : More w w') : RowP n R D w' base e v L := h.step (Away.of_more a)
theorem RowP.shape (h : RowP n R D w base e v L) : ∃ oa m cap, v = .slice oa m cap ∧ m = L.length ∧ L.length ≤ cap := by
  obtain ⟨⟨xs, h1, _⟩, _⟩ := h
  rcases h1.2 with ⟨rfl, e⟩ | ⟨b, cap, cur, rfl, _, _, hc, _⟩
  · exact ⟨none, 0, 0, rfl, by omega, by omega⟩
  · exact ⟨_, _, cap, rfl, rfl, hc⟩
theorem RowP.lt (h : RowP n R D w base e v L) {b : Nat} (hb : v.ownBlock = some b) : b < w.heap.size := by
  obtain ⟨⟨xs, h1, _⟩, _⟩ := h
  rcases h1.2 with ⟨rfl, _⟩ | ⟨b', cap, cur, rfl, _, hg, _⟩
  · cases hb
  · obtain rfl : b' = b := by injection hb
    exact lt_of_block hg
theorem RowP.ge (h : RowP n R D w base e v L) {b : Nat} (hb : v.ownBlock = some b) : base ≤ b := by
  obtain ⟨⟨xs, h1, _⟩, _⟩ := h
  rcases h1.2 with ⟨rfl, _⟩ | ⟨b', cap, cur, rfl, hb', _⟩
  · cases hb
  · obtain rfl : b' = b := by injection hb
    exact hb'
theorem RowP.sl (h : RowP n R D w base e v L) (hn : 0 < n) : SlP n R w v L := by
  obtain ⟨⟨xs, ⟨h1, h2⟩, h3⟩, _⟩ := h
  rcases h2 with ⟨rfl, h0⟩ | ⟨g, cap, cur, rfl, hb, hg, hnc, hcm, hcs, htake⟩
  · obtain rfl : L = [] := List.eq_nil_of_length_eq_zero h0
    exact SlP.nil n R w
  · refine ⟨_, cap, rfl, by unfold maxLen at hcm; omega, fun i hi => ⟨g, 0, _, rfl, lt_of_block hg, ?_, fun j hj => ?_, (h3 i hi).read⟩, hnc, hcm, fun h => by cases h⟩
    · have hin : i * n + n ≤ L.length * n := by
        have : (i + 1) * n ≤ L.length * n := Nat.mul_le_mul_right n hi
        rw [Nat.add_mul, Nat.one_mul] at this; exact this
      rw [List.length_take, List.length_drop, h1]; omega
    · have hin : i * n + n ≤ L.length * n := by
        have : (i + 1) * n ≤ L.length * n := Nat.mul_le_mul_right n hi
        rw [Nat.add_mul, Nat.one_mul] at this; exact this
      rw [Nat.zero_add, cell_of_row w g _ cur e (0, 0) hg, List.getElem?_take, if_pos hj, List.getElem?_drop, ← htake, List.getElem?_take, if_pos (by omega)]
      simp
end
/-- append(s, y), run: s is a row of structs of the call's own. -/
theorem run_append_row {P : Program} (w : World) (base : Nat) (t ty e : TypeId) (i : TypeInfo) (z : Value) (n bytes : Nat) (ht : P.underlying t = some (.slice e)) (hi : P.info? e = some i) (hz : i.zero = some z)
    (hsize : i.size = n) (hby : i.bytes = bytes) (hzs : z.cells.size = n) (hn : 0 < n)
    {α : Type} {R : Reader α} {D : Nat → Prop} (v : Value) (L : List α) (hown : RowP n R D w base e v L)
    (B : Nat) (cs : List Value) (y : α) (hl : cs.length = n) (hnews : ∀ j u, cs[j]? = some u → w.cell? ⟨B, j, none⟩ = some u) (h1 : ∀ u ∈ cs, u.oneCell' = true)
    (hy : RdOff R (fun k => D k ∨ v.ownBlock = some k) w cs y) (hD : ∀ b, D b → b < w.heap.size)
    (hby1 : 1 ≤ bytes) (hbytes : (L.length + 1) * bytes ≤ 140737488355328) (hbase : base ≤ w.heap.size) :
    ∃ v' w', (Builtin.append_ #[t, t] ty #[v, .slice (some ⟨B, 0, none⟩) 1 1]).run P w = .ok v' w' ∧ RowP n R D w' base e v' (L ++ [y]) ∧ w.grownBy w' v.ownBlock ∧ (v'.ownBlock = v.ownBlock ∨ v'.ownBlock = some w.heap.size) := by
  obtain ⟨⟨xs, hr, he⟩, hap⟩ := hown
  have hm : L.length + 1 ≤ maxLen := by
    have := Nat.le_mul_of_pos_right (L.length + 1) (show 0 < bytes by omega)
    unfold maxLen; omega
  obtain ⟨v', w', hrun, ho', hg, _, hat⟩ := run_append_own_at (P := P) w base t ty e i z n bytes ht hi hz hsize hby hzs hn v L.length xs hr ⟨B, 0, none⟩ 1 1 cs (by rw [hl, Nat.one_mul]) (by
    intro j u hj
    have ea : (⟨B, 0, none⟩ : Addr).add j = ⟨B, j, none⟩ := by
      unfold Addr.add; split
      · rename_i h0; subst h0; rfl
      · simp
    rw [ea]; exact hnews j u hj) h1 hm hbytes hbase
  have hcells : ∀ k (hk : k < (L ++ [y]).length), RdOff R (fun k => D k ∨ v.ownBlock = some k) w (((xs ++ cs).drop (k * n)).take n) (L ++ [y])[k] := by
    intro k hk
    simp at hk
    by_cases e : k < L.length
    · have hin : k * n + n ≤ L.length * n := by
        have : (k + 1) * n ≤ L.length * n := Nat.mul_le_mul_right n e
        rw [Nat.add_mul, Nat.one_mul] at this; exact this
      have hxl := hr.1
      have e2 : ((xs ++ cs).drop (k * n)).take n = (xs.drop (k * n)).take n := by
        rw [List.drop_append_of_le_length (by omega), List.take_append_of_le_length (by rw [List.length_drop]; omega)]
      rw [e2, List.getElem_append_left e]
      exact he k e
    · obtain rfl : k = L.length := by omega
      have e2 : ((xs ++ cs).drop (L.length * n)).take n = cs := by
        rw [List.drop_append_of_le_length (by rw [hr.1]; exact Nat.le_refl _), List.drop_eq_nil_of_le (by rw [hr.1]; exact Nat.le_refl _), List.nil_append]
        exact List.take_of_length_le (by omega)
      rw [e2]
      simpa using hy
  refine ⟨v', w', hrun, ⟨⟨xs ++ cs, by simpa using ho', fun k hk w'' a' => ?_⟩, ?_⟩, hg, hat⟩
  · refine hcells k hk w'' ⟨a'.os.trans hg.os, a'.tape.trans hg.tape, a'.output.trans hg.output, Nat.le_trans hg.size a'.size, fun b hb hs => ?_⟩
    rw [a'.block b (Nat.lt_of_lt_of_le hb hg.size) ?_]
    · exact hg.block b hb (fun e => hs (Or.inr e.symm))
    · rintro (hb2 | hb2)
      · exact hs (Or.inl hb2)
      · rcases hat with hat | hat
        · exact hs (Or.inr (by rw [← hat]; exact hb2))
        · rw [hat] at hb2
          have : w.heap.size = b := by injection hb2
          omega
  · intro b hb hDb
    rcases hat with hat | hat
    · exact hap b (by rw [← hat]; exact hb) hDb
    · rw [hat] at hb
      have : w.heap.size = b := by injection hb
      have := hD b hDb
      omega
/-- append(s, y): s is a row of structs of the call's own. -/
theorem wpList_append_row {P : Program} (w : World) {ops : Array Oper} {rest : List Oper} {o : Oper} {a : Act} {Q : Exit → Act → World → Prop} (hgd : o.guard = none) (s x : Operand) (t : TypeId)
    (ho : o.op = .call { callee := .builtin .append, args := #[s, x], argTypes := #[t, t] })
    (base : Nat) (e : TypeId) (i : TypeInfo) (z : Value) (n bytes : Nat) (ht : P.underlying t = some (.slice e)) (hi : P.info? e = some i) (hz : i.zero = some z)
    (hsize : i.size = n) (hby : i.bytes = bytes) (hzs : z.cells.size = n) (hn : 0 < n)
    {α : Type} {R : Reader α} {D : Nat → Prop} (v : Value) (L : List α) (hs : a.eval s = v) (hown : RowP n R D w base e v L)
    (B : Nat) (cs : List Value) (y : α) (hx : a.eval x = .slice (some ⟨B, 0, none⟩) 1 1) (hl : cs.length = n) (hnews : ∀ j u, cs[j]? = some u → w.cell? ⟨B, j, none⟩ = some u) (h1 : ∀ u ∈ cs, u.oneCell' = true)
    (hy : RdOff R (fun k => D k ∨ v.ownBlock = some k) w cs y) (hD : ∀ b, D b → b < w.heap.size)
    (hby1 : 1 ≤ bytes) (hbytes : (L.length + 1) * bytes ≤ 140737488355328) (hbase : base ≤ w.heap.size)
    (h : ∀ v' w', RowP n R D w' base e v' (L ++ [y]) → w.grownBy w' v.ownBlock → (v'.ownBlock = v.ownBlock ∨ v'.ownBlock = some w.heap.size) → wpList P ops Q rest (a.put o.dst v') w') : wpList P ops Q (o :: rest) a w := by
  refine wpList_plain hgd fun K hK => ?_
  obtain ⟨v', w', hr, h2, h3, h5⟩ := run_append_row (P := P) w base t o.type e i z n bytes ht hi hz hsize hby hzs hn v L hown B cs y hl hnews h1 hy hD hby1 hbytes hbase
  unfold Oper.wp execOp
  simp only [ho, resolve, invoke, builtin, Sem.run_bind, Sem.run_pure, Result.andThen_ok, List.map_toArray, List.map_cons, List.map_nil, hs, hx, hr]
  exact hK _ _ (h v' w' h2 h3 h5)
/-- The same in a region that draws its order. -/
theorem loud_append_row {P : Program} {w : World} {o : Oper} {a : Act} {C : World → Prop} {K : Act → World → Prop} (s x : Operand) (t : TypeId)
    (ho : o.op = .call { callee := .builtin .append, args := #[s, x], argTypes := #[t, t] })
    (base : Nat) (e : TypeId) (i : TypeInfo) (z : Value) (n bytes : Nat) (ht : P.underlying t = some (.slice e)) (hi : P.info? e = some i) (hz : i.zero = some z)
    (hsize : i.size = n) (hby : i.bytes = bytes) (hzs : z.cells.size = n) (hn : 0 < n)
    {α : Type} {R : Reader α} {D : Nat → Prop} (v : Value) (L : List α) (hs : a.eval s = v) (hown : RowP n R D w base e v L)
    (B : Nat) (cs : List Value) (y : α) (hx : a.eval x = .slice (some ⟨B, 0, none⟩) 1 1) (hl : cs.length = n) (hnews : ∀ j u, cs[j]? = some u → w.cell? ⟨B, j, none⟩ = some u) (h1 : ∀ u ∈ cs, u.oneCell' = true)
    (hy : RdOff R (fun k => D k ∨ v.ownBlock = some k) w cs y) (hD : ∀ b, D b → b < w.heap.size)
    (hby1 : 1 ≤ bytes) (hbytes : (L.length + 1) * bytes ≤ 140737488355328) (hbase : base ≤ w.heap.size)
    (h : ∀ v' w', RowP n R D w' base e v' (L ++ [y]) → w.grownBy w' v.ownBlock → (v'.ownBlock = v.ownBlock ∨ v'.ownBlock = some w.heap.size) → C w' ∧ K (a.put o.dst v') w') : loud P C o a w K := by
  obtain ⟨v', w', hr, h2, h3, h5⟩ := run_append_row (P := P) w base t o.type e i z n bytes ht hi hz hsize hby hzs hn v L hown B cs y hl hnews h1 hy hD hby1 hbytes hbase
  unfold loud execOp
  simp only [ho, resolve, invoke, builtin, Sem.run_bind, Sem.run_pure, Result.andThen_ok, List.map_toArray, List.map_cons, List.map_nil, hs, hx, hr]
  exact h v' w' h2 h3 h5
end Go.Proofs.Ytdgmmffedhikcaa
/- Packets: how they read; Right, Control, large, own. -/
namespace Go.Proofs.Ytdgmmffedhikcaa
set_option linter.unusedSimpArgs false
set_option linter.unusedVariables false
open Go.RowKit Go.ChangeShapes
set_option maxRecDepth 100000

/-- A packet's slices read as its lists. -/
structure PkS (w : World) (vs ve vp : Value) (p : Pk) : Prop where
  s : SlI .u32 w vs p.ss
  e : SlI .u8 w ve p.ex
  l : SlI .u8 w vp p.pl
theorem PkS.keep {w w' : World} {vs ve vp : Value} {p : Pk} (h : PkS w vs ve vp p) (m : More w w') : PkS w' vs ve vp p := ⟨h.s.keep m, h.e.keep m, h.l.keep m⟩
def RPk : Reader Pk := fun w cs p => ∃ vs ve vp, cs = [.bool p.mr, .int .u8 p.ty, .int .u16 p.sq, .int .u32 p.st, .int .u32 p.sc, vs, .bool p.has, .int .u16 p.pr, ve, vp] ∧ PkS w vs ve vp p ∧ PkOK p
theorem keepsPk : Keeps RPk := fun _ _ _ _ m ⟨vs, ve, vp, h1, h2, h3⟩ => ⟨vs, ve, vp, h1, h2.keep m, h3⟩
def THd : Reader (Bool × Int × Int × Int × Int × Unit) := RCons 1 RBool (RCons 1 (RInt .u8) (RCons 1 (RInt .u16) (RCons 1 (RInt .u32) (RCons 1 (RInt .u32) RNil))))
theorem opensHd : Opens Try.prog 35 THd :=
  Opens.struct Try.underlying35 (by kernel_rfl) (OpensF.cons rfl (by kernel_rfl) (Opens.bool Try.underlying4) (OpensF.cons rfl (by kernel_rfl) (Opens.int Try.underlying5) (OpensF.cons rfl (by kernel_rfl) (Opens.int Try.underlying23) (OpensF.cons rfl (by kernel_rfl) (Opens.int Try.underlying22) (OpensF.cons rfl (by kernel_rfl) (Opens.int Try.underlying22) OpensF.nil)))))
def TPk : Reader ((Bool × Int × Int × Int × Int × Unit) × List Int × Bool × Int × List Int × List Int × Unit) := RCons 5 THd (RCons 1 (RSl 1 (RInt .u32)) (RCons 1 RBool (RCons 1 (RInt .u16) (RCons 1 (RSl 1 (RInt .u8)) (RCons 1 (RSl 1 (RInt .u8)) RNil)))))
theorem u32_of_wf {l : List Int} (h : ∀ n ∈ l, (Lit.int .u32 n).wf = true) : ∀ i, U32 (l.getD i 0) := fun i => by
  by_cases hi : i < l.length
  · have := bounds_u32 (h l[i] (List.getElem_mem hi))
    rw [List.getD_eq_getElem?_getD, List.getElem?_eq_getElem hi]
    exact this
  · rw [List.getD_eq_getElem?_getD, List.getElem?_eq_none (by omega)]
    exact ⟨by decide, by decide⟩
theorem pk_of_t {w : World} {cs : List Value} {y : (Bool × Int × Int × Int × Int × Unit) × List Int × Bool × Int × List Int × List Int × Unit} (hl : cs.length = 10) (h : TPk w cs y) : ∃ z, RPk w cs z := by
  match cs, hl with
  | [k0, k1, k2, k3, k4, k5, k6, k7, k8, k9], _ =>
    obtain ⟨⟨r0, ⟨r1, b1⟩, ⟨r2, b2⟩, ⟨r3, b3⟩, ⟨r4, b4⟩, _⟩, ⟨v5, r5, s5⟩, r6, ⟨r7, b7⟩, ⟨v8, r8, s8⟩, ⟨v9, r9, s9⟩, _⟩ := h
    simp [RBool] at r0 r1 r2 r3 r4 r5 r6 r7 r8 r9
    subst r0 r1 r2 r3 r4 r5 r6 r7 r8 r9
    exact ⟨⟨_, _, _, _, _, _, _, _, _, _⟩, _, _, _, rfl, ⟨s5.ints.1, s8.ints.1, s9.ints.1⟩, ⟨bounds_u8 b1, bounds_u16 b2, bounds_u32 b3, bounds_u32 b4, u32_of_wf s5.ints.2, bounds_u16 b7, Byt.of_wf s8.ints.2, Byt.of_wf s9.ints.2⟩⟩
theorem opensPk : Opens Try.prog 39 RPk := fun H enc w base spare held fuel cs x hx => by
  obtain ⟨y, hy⟩ := (Opens.struct (R := TPk) Try.underlying39 (by kernel_rfl) (OpensF.cons rfl (by kernel_rfl) opensHd (OpensF.cons rfl (by kernel_rfl) (Opens.sl Try.underlying36 (by kernel_rfl) (by decide) (Opens.int Try.underlying22)) (OpensF.cons rfl (by kernel_rfl) (Opens.bool Try.underlying4) (OpensF.cons rfl (by kernel_rfl) (Opens.int Try.underlying23) (OpensF.cons rfl (by kernel_rfl) (Opens.sl Try.underlying37 (by kernel_rfl) (by decide) (Opens.int Try.underlying5)) (OpensF.cons rfl (by kernel_rfl) (Opens.sl Try.underlying37 (by kernel_rfl) (by decide) (Opens.int Try.underlying5)) OpensF.nil))))))) H enc w base spare held fuel cs x hx
  refine pk_of_t ?_ hy
  obtain ⟨_, _, _, _, hl, _⟩ := DataW.trod_struct Try.underlying39 hx
  rw [hl]
  kernel_rfl
/-- Sizes that are looked at. -/
structure PkSm (p : Pk) : Prop where
  s : p.ss.length ≤ 1000000
  e : p.ex.length ≤ 1000000
  l : p.pl.length ≤ 1000000
set_option maxHeartbeats 1000000 in
theorem SizeH_any (p : Pk) (vs ve vp : Value) (w : World) (h : PkS w vs ve vp p) (hm : PkSm p) :
    Calls Try.prog 67 #[.agg #[.bool p.mr, .int .u8 p.ty, .int .u16 p.sq, .int .u32 p.st, .int .u32 p.sc, vs, .bool p.has, .int .u16 p.pr, ve, vp]] w fun e w' => e = .returned (.int .i64 (sizeH p)) ∧ More w w' := by
  obtain ⟨⟨os, ks, rfl, _⟩, ⟨oe, ke, rfl, _⟩, ⟨ol, kl, rfl, _⟩⟩ := h
  obtain ⟨m1, m2, m3⟩ := hm
  have hd : sizeH p = 12 + 4 * (p.ss.length : Int) + (p.pl.length : Int) + if p.has then 4 + (p.ex.length : Int) else 0 := rfl
  rw [hd]
  clear hd
  obtain ⟨mr, ty, sq, st, sc, ss, has, pr, ex, pl⟩ := p
  simp only at *
  generalize ss.length = a at *
  generalize ex.length = b at *
  generalize pl.length = c at *
  cases has with
  | true =>
    go_enter Try.func67, Try.ntmps67
    go_wp2
    go_ret
    exact ⟨ret_int (by simp only [if_true]; try omega), More.alloc _ _⟩
  | false =>
    go_enter Try.func67, Try.ntmps67
    go_wp2
    go_ret
    exact ⟨ret_int (by simp only [Bool.false_eq_true, if_false]; try omega), More.alloc _ _⟩
set_option maxHeartbeats 4000000 in
theorem RightH_any (p : Pk) (vs ve vp : Value) (w : World) (h : PkS w vs ve vp p) (hm : PkSm p) :
    Calls Try.prog 27 #[.agg #[.bool p.mr, .int .u8 p.ty, .int .u16 p.sq, .int .u32 p.st, .int .u32 p.sc, vs, .bool p.has, .int .u16 p.pr, ve, vp]] w fun e w' => e = .returned (.bool (rightH p)) ∧ More w w' := by
  have HS := Lib.hid h
  have hri := rightH_iff p
  have HSZ := Lib.hid (fun w' h' => SizeH_any p vs ve vp w' h' hm)
  obtain ⟨⟨os, ks, rfl, _⟩, ⟨oe, ke, rfl, hce⟩, ⟨ol, kl, rfl, _⟩⟩ := h
  clear hce
  obtain ⟨m1, m2, m3⟩ := hm
  obtain ⟨SZ, hSZ⟩ : ∃ SZ, sizeH p = SZ := ⟨_, rfl⟩
  rw [hSZ] at hri
  have HZ := Lib.hid hSZ
  clear hSZ
  obtain ⟨R, hR⟩ : ∃ R, rightH p = R := ⟨_, rfl⟩
  rw [hR] at hri ⊢
  clear hR
  obtain ⟨mr, ty, sq, st, sc, ss, has, pr, ex, pl⟩ := p
  simp only at *
  have hexl : ex = [] ↔ ex.length = 0 := List.length_eq_zero_iff.symm
  rw [hexl] at hri
  clear hexl
  by_cases h1 : ty ≤ 127
  · by_cases h2 : (ss.length : Int) ≤ 15
    · by_cases h3 : has = false ∧ ¬ (pr = 0)
      · obtain ⟨rfl, h3⟩ := h3
        have HR : Hid (R = false) := Lib.hid (by
          cases R with
          | false => rfl
          | true => exact absurd ((hri.1 rfl).2.2.1 rfl).1 h3)
        have hq : (pr != 0) = true := by simpa using h3
        clear hri h3
        go_enter Try.func27, Try.ntmps27
        go_wp2_with (go_at_call 67; ((with_reducible refine (HSZ.out _ (HS.out.keep (More.alloc _ _))).mono ?_); rintro e w2 ⟨rfl, m2⟩; rw [HZ.out]; have M2 := Lib.hid m2; clear m2))
        go_ret
        exact ⟨by rw [HR.out]; first | rfl | (simp; omega), by first | exact More.alloc _ _ | exact (More.alloc _ _).trans M2.out⟩
      · by_cases h4 : has = false ∧ ¬ (ex.length = 0)
        · obtain ⟨rfl, h4⟩ := h4
          have HR : Hid (R = false) := Lib.hid (by
            cases R with
            | false => rfl
            | true => exact absurd ((hri.1 rfl).2.2.1 rfl).2 h4)
          obtain rfl : pr = 0 := by
            by_cases e : pr = 0
            · exact e
            · exact absurd ⟨rfl, e⟩ h3
          have hq : (0 : Int) < (ex.length : Int) := by omega
          clear hri h3 h4
          go_enter Try.func27, Try.ntmps27
          go_wp2_with (go_at_call 67; ((with_reducible refine (HSZ.out _ (HS.out.keep (More.alloc _ _))).mono ?_); rintro e w2 ⟨rfl, m2⟩; rw [HZ.out]; have M2 := Lib.hid m2; clear m2))
          go_ret
          exact ⟨by rw [HR.out]; first | rfl | (simp; omega), by first | exact More.alloc _ _ | exact (More.alloc _ _).trans M2.out⟩
        · by_cases h5 : (ex.length : Int) % 4 = 0
          · have h5' : ((ex.length : Int)).tmod 4 = 0 := by rw [Int.tmod_eq_emod_of_nonneg (by omega)]; exact h5
            by_cases h6 : SZ ≤ 200
            · have HR : Hid (R = true) := Lib.hid (hri.2 ⟨h1, h2, fun e => ⟨by
                by_cases z : pr = 0
                · exact z
                · exact absurd ⟨e, z⟩ h3, by
                by_cases z : ex.length = 0
                · exact z
                · exact absurd ⟨e, z⟩ h4⟩, h5, h6⟩)
              clear hri h5
              cases has with
              | true =>
                clear h3 h4
                go_enter Try.func27, Try.ntmps27
                go_wp2_with (go_at_call 67; ((with_reducible refine (HSZ.out _ (HS.out.keep (More.alloc _ _))).mono ?_); rintro e w2 ⟨rfl, m2⟩; rw [HZ.out]; have M2 := Lib.hid m2; clear m2))
                go_ret
                exact ⟨by rw [HR.out]; first | rfl | (simp; omega), by first | exact More.alloc _ _ | exact (More.alloc _ _).trans M2.out⟩
              | false =>
                obtain rfl : pr = 0 := by
                  by_cases e : pr = 0
                  · exact e
                  · exact absurd ⟨rfl, e⟩ h3
                have hq : ¬ (0 : Int) < (ex.length : Int) := by
                  by_cases e : ex.length = 0
                  · omega
                  · exact absurd ⟨rfl, e⟩ h4
                clear h3 h4
                go_enter Try.func27, Try.ntmps27
                go_wp2_with (go_at_call 67; ((with_reducible refine (HSZ.out _ (HS.out.keep (More.alloc _ _))).mono ?_); rintro e w2 ⟨rfl, m2⟩; rw [HZ.out]; have M2 := Lib.hid m2; clear m2))
                go_ret
                exact ⟨by rw [HR.out]; first | rfl | (simp; omega), by first | exact More.alloc _ _ | exact (More.alloc _ _).trans M2.out⟩
            · have HR : Hid (R = false) := Lib.hid (by
                cases R with
                | false => rfl
                | true => exact absurd (hri.1 rfl).2.2.2.2 h6)
              clear hri h5
              cases has with
              | true =>
                clear h3 h4
                go_enter Try.func27, Try.ntmps27
                go_wp2_with (go_at_call 67; ((with_reducible refine (HSZ.out _ (HS.out.keep (More.alloc _ _))).mono ?_); rintro e w2 ⟨rfl, m2⟩; rw [HZ.out]; have M2 := Lib.hid m2; clear m2))
                go_ret
                exact ⟨by rw [HR.out]; first | rfl | (simp; omega), by first | exact More.alloc _ _ | exact (More.alloc _ _).trans M2.out⟩
              | false =>
                obtain rfl : pr = 0 := by
                  by_cases e : pr = 0
                  · exact e
                  · exact absurd ⟨rfl, e⟩ h3
                have hq : ¬ (0 : Int) < (ex.length : Int) := by
                  by_cases e : ex.length = 0
                  · omega
                  · exact absurd ⟨rfl, e⟩ h4
                clear h3 h4
                go_enter Try.func27, Try.ntmps27
                go_wp2_with (go_at_call 67; ((with_reducible refine (HSZ.out _ (HS.out.keep (More.alloc _ _))).mono ?_); rintro e w2 ⟨rfl, m2⟩; rw [HZ.out]; have M2 := Lib.hid m2; clear m2))
                go_ret
                exact ⟨by rw [HR.out]; first | rfl | (simp; omega), by first | exact More.alloc _ _ | exact (More.alloc _ _).trans M2.out⟩
          · have h5' : (((ex.length : Int)).tmod 4 == 0) = false := by
              rw [beq_eq_false_iff_ne, Int.tmod_eq_emod_of_nonneg (by omega)]; exact h5
            have h5'' : ((ex.length : Int) % 4 == 0) = false := by rw [beq_eq_false_iff_ne]; exact h5
            have HR : Hid (R = false) := Lib.hid (by
              cases R with
              | false => rfl
              | true => exact absurd (hri.1 rfl).2.2.2.1 h5)
            clear hri h5
            cases has with
            | true =>
              clear h3 h4
              go_enter Try.func27, Try.ntmps27
              go_wp2_with (go_at_call 67; ((with_reducible refine (HSZ.out _ (HS.out.keep (More.alloc _ _))).mono ?_); rintro e w2 ⟨rfl, m2⟩; rw [HZ.out]; have M2 := Lib.hid m2; clear m2))
              go_ret
              exact ⟨by rw [HR.out]; first | rfl | (simp; omega), by first | exact More.alloc _ _ | exact (More.alloc _ _).trans M2.out⟩
            | false =>
              obtain rfl : pr = 0 := by
                by_cases e : pr = 0
                · exact e
                · exact absurd ⟨rfl, e⟩ h3
              have hq : ¬ (0 : Int) < (ex.length : Int) := by
                by_cases e : ex.length = 0
                · omega
                · exact absurd ⟨rfl, e⟩ h4
              clear h3 h4
              go_enter Try.func27, Try.ntmps27
              go_wp2_with (go_at_call 67; ((with_reducible refine (HSZ.out _ (HS.out.keep (More.alloc _ _))).mono ?_); rintro e w2 ⟨rfl, m2⟩; rw [HZ.out]; have M2 := Lib.hid m2; clear m2))
              go_ret
              exact ⟨by rw [HR.out]; first | rfl | (simp; omega), by first | exact More.alloc _ _ | exact (More.alloc _ _).trans M2.out⟩
    · have HR : Hid (R = false) := Lib.hid (by
        cases R with
        | false => rfl
        | true => exact absurd (hri.1 rfl).2.1 h2)
      have hq : (15 : Int) < (ss.length : Int) := by omega
      clear hri
      go_enter Try.func27, Try.ntmps27
      go_wp2_with (go_at_call 67; ((with_reducible refine (HSZ.out _ (HS.out.keep (More.alloc _ _))).mono ?_); rintro e w2 ⟨rfl, m2⟩; rw [HZ.out]; have M2 := Lib.hid m2; clear m2))
      go_ret
      exact ⟨by rw [HR.out]; first | rfl | (simp; omega), by first | exact More.alloc _ _ | exact (More.alloc _ _).trans M2.out⟩
  · have HR : Hid (R = false) := Lib.hid (by
      cases R with
      | false => rfl
      | true => exact absurd (hri.1 rfl).1 h1)
    clear hri
    go_enter Try.func27, Try.ntmps27
    go_wp2_with (go_at_call 67; ((with_reducible refine (HSZ.out _ (HS.out.keep (More.alloc _ _))).mono ?_); rintro e w2 ⟨rfl, m2⟩; rw [HZ.out]; have M2 := Lib.hid m2; clear m2))
    go_ret
    exact ⟨by rw [HR.out]; first | rfl | (simp; omega), by first | exact More.alloc _ _ | exact (More.alloc _ _).trans M2.out⟩
/-- Is it no media? -/
def ctlH (b : List Int) : Bool := decide (2 ≤ b.length) && decide (192 ≤ b.getD 1 0) && decide (b.getD 1 0 ≤ 223)
end Go.Proofs.Ytdgmmffedhikcaa
