/- Merged from my texts SliceB, WireA, WireB. -/
import Derived.Test.YtdgmmffedhikcaaMg0
import Derived.Maps.AppendAt
import Derived.Test.YtdgmmffedhikcaaMg1
import Derived.Test.YtdgmmffedhikcaaMg2
import Derived.Lib.LazyBuf
/- Slices that grow: two of them beside one another; parts of slices. -/
namespace Go.Proofs.Ytdgmmffedhikcaa
set_option linter.unusedSimpArgs false
set_option linter.unusedVariables false
open Go.RowKit

/-- append(s, x...), and where the new row lies: s is the call's own, x reads as a list. -/
theorem wpList_append_at {P : Program} (w : World) {ops : Array Oper} {rest : List Oper} {o : Oper} {a : Act} {Q : Exit → Act → World → Prop} (hgd : o.guard = none) (s x : Operand) (t : TypeId)
    (ho : o.op = .call { callee := .builtin .append, args := #[s, x], argTypes := #[t, t] })
    (base : Nat) (e : TypeId) (i : TypeInfo) (z : Value) (bytes : Nat) (ht : P.underlying t = some (.slice e)) (hi : P.info? e = some i) (hz : i.zero = some z)
    (hsize : i.size = 1) (hby : i.bytes = bytes) (hzs : z.cells.size = 1)
    (v : Value) (k : IntKind) (l : List Int) (hs : a.eval s = v) (hown : w.ownsRow base e 1 v l.length (l.map (Value.int k)))
    (vx : Value) (lx : List Int) (hx : a.eval x = vx) (hl : SlI k w vx lx)
    (hbytes : (l.length + lx.length) * bytes ≤ 140737488355328) (hby1 : 1 ≤ bytes) (hbase : base ≤ w.heap.size)
    (h : ∀ v' w', w'.ownsRow base e 1 v' (l ++ lx).length ((l ++ lx).map (Value.int k)) → w.grownBy w' v.ownBlock → (v'.ownBlock = v.ownBlock ∨ v'.ownBlock = some w.heap.size) → wpList P ops Q rest (a.put o.dst v') w') : wpList P ops Q (o :: rest) a w := by
  have h63 : l.length + lx.length ≤ maxLen := by
    have := Nat.le_mul_of_pos_right (l.length + lx.length) (show 0 < bytes by omega)
    unfold maxLen; omega
  obtain ⟨oa, cap, rfl, hl1, hl2, hl3, hl4, hl5⟩ := hl
  cases oa with
  | none =>
    have h0 : cap = 0 := hl5 rfl
    subst h0
    have hn : lx = [] := List.eq_nil_of_length_eq_zero (by omega)
    subst hn
    refine wpList_append_own_none hgd s x t ho base e i 1 ht hi v l.length (l.map (Value.int k)) hs hown hx ?_
    exact h v w (by simpa using hown) ⟨rfl, rfl, rfl, Nat.le_refl _, fun _ _ _ => rfl⟩ (Or.inl rfl)
  | some ad =>
    refine wpList_append_own_at w hgd s x t ho base e i z 1 bytes ht hi hz hsize hby hzs (by decide) v l.length (l.map (Value.int k)) hs hown ad lx.length cap (lx.map (Value.int k)) hx (by simp) ?_ ?_ h63 hbytes hbase ?_
    · intro j u hj
      rw [List.getElem?_map] at hj
      obtain ⟨y, hy, rfl⟩ := Option.map_eq_some_iff.1 hj
      obtain ⟨hlt, hy'⟩ := List.getElem?_eq_some_iff.1 hy
      obtain ⟨b, off, e1, _, hc⟩ := hl2 j hlt
      simp only [Option.some.injEq] at e1
      subst e1
      have ea : (⟨b, off, none⟩ : Addr).add j = ⟨b, off + j, none⟩ := by
        unfold Addr.add; split
        · rename_i h0; subst h0; rfl
        · rfl
      rw [ea, hc, List.getD_eq_getElem?_getD, hy]; rfl
    · intro u hu
      obtain ⟨y, _, rfl⟩ := List.mem_map.1 hu
      rfl
    · intro v' w' h1 h2 _ h3
      exact h v' w' (by simpa using h1) h2 h3


/-- A row that another row's growing leaves alone. -/
theorem owns_grown {w w' : World} {base e size n : Nat} {v u : Value} {xs : List Value} (h : w.ownsRow base e size v n xs) (g : w.grownBy w' u.ownBlock) (hs : ∀ b, v.ownBlock = some b → u.ownBlock ≠ some b) : w'.ownsRow base e size v n xs := by
  obtain ⟨h1, h2⟩ := h
  refine ⟨h1, ?_⟩
  rcases h2 with h | ⟨b, cap, cur, e1, hb, hg, rest⟩
  · exact Or.inl h
  · refine Or.inr ⟨b, cap, cur, e1, hb, ?_, rest⟩
    rw [g.block b (lt_of_block hg) (by rw [e1] at hs; exact fun e => hs b rfl e.symm)]
    exact hg
theorem owns_lt {w : World} {base e size n b : Nat} {v : Value} {xs : List Value} (h : w.ownsRow base e size v n xs) (hb : v.ownBlock = some b) : b < w.heap.size := by
  rcases h.2 with ⟨rfl, _⟩ | ⟨b', cap, cur, rfl, _, hg, _⟩
  · cases hb
  · obtain rfl : b' = b := by injection hb
    exact lt_of_block hg
theorem owns_more {w w' : World} {base e size n : Nat} {v : Value} {xs : List Value} (h : w.ownsRow base e size v n xs) (m : More w w') : w'.ownsRow base e size v n xs := by
  obtain ⟨h1, h2⟩ := h
  refine ⟨h1, ?_⟩
  rcases h2 with h | ⟨b, cap, cur, e1, hb, hg, rest⟩
  · exact Or.inl h
  · exact Or.inr ⟨b, cap, cur, e1, hb, by rw [m.block b (lt_of_block hg)]; exact hg, rest⟩
theorem SlI.take {k : IntKind} {w : World} {oa : Option Addr} {n cap : Nat} {l : List Int} (h : SlI k w (.slice oa n cap) l) (m : Nat) (hm : m ≤ l.length) : SlI k w (.slice oa m cap) (l.take m) := by
  obtain ⟨oa', cap', e, h1, h2, h3, h4, h5⟩ := h
  cases e
  have hl : (l.take m).length = m := by simp; omega
  refine ⟨oa, cap, by rw [hl], by rw [hl]; omega, fun i hi => ?_, by rw [hl]; omega, h4, h5⟩
  rw [hl] at hi
  obtain ⟨b, off, e, hb, hc⟩ := h2 i (by omega)
  exact ⟨b, off, e, hb, by rw [hc, List.getD_eq_getElem?_getD, List.getD_eq_getElem?_getD, List.getElem?_take, if_pos hi]⟩
theorem SlI.take3 {k : IntKind} {w : World} {oa : Option Addr} {n cap : Nat} {l : List Int} (h : SlI k w (.slice oa n cap) l) (m : Nat) (hm : m ≤ l.length) : SlI k w (.slice oa m m) (l.take m) := by
  obtain ⟨oa', cap', e, h1, h2, h3, h4, h5⟩ := h
  cases e
  have hl : (l.take m).length = m := by simp; omega
  refine ⟨oa, m, by rw [hl], by rw [hl]; omega, fun i hi => ?_, by rw [hl]; omega, by omega, fun x => by have := h5 x; omega⟩
  rw [hl] at hi
  obtain ⟨b, off, e, hb, hc⟩ := h2 i (by omega)
  exact ⟨b, off, e, hb, by rw [hc, List.getD_eq_getElem?_getD, List.getD_eq_getElem?_getD, List.getElem?_take, if_pos hi]⟩
theorem SlI.drop {k : IntKind} {w : World} {b off n cap : Nat} {l : List Int} (h : SlI k w (.slice (some ⟨b, off, none⟩) n cap) l) (m : Nat) (hm : m ≤ l.length) : SlI k w (.slice (some ⟨b, off + m, none⟩) (n - m) (cap - m)) (l.drop m) := by
  obtain ⟨oa', cap', e, h1, h2, h3, h4, h5⟩ := h
  cases e
  refine ⟨_, cap - m, by rw [List.length_drop], by rw [List.length_drop]; omega, fun i hi => ?_, by rw [List.length_drop]; omega, by omega, fun h => by cases h⟩
  rw [List.length_drop] at hi
  obtain ⟨b', off', e, hb, hc⟩ := h2 (m + i) (by omega)
  cases e
  refine ⟨b, off + m, rfl, hb, ?_⟩
  rw [Nat.add_assoc, hc, List.getD_eq_getElem?_getD, List.getD_eq_getElem?_getD, List.getElem?_drop]
theorem SlI.from_ {k : IntKind} {w : World} {oa : Option Addr} {n cap : Nat} {l : List Int} (h : SlI k w (.slice oa n cap) l) (m : Nat) (hm : m ≤ l.length) (oa' : Option Addr) (ho : oa' = if cap = m then oa else oa.map (·.add m)) : SlI k w (.slice oa' (n - m) (cap - m)) (l.drop m) := by
  obtain ⟨oa2, cap2, e, h1, h2, h3, h4, h5⟩ := h
  cases e
  refine ⟨oa', cap - m, by rw [List.length_drop], by rw [List.length_drop]; omega, fun i hi => ?_, by rw [List.length_drop]; omega, by omega, fun h => ?_⟩
  · rw [List.length_drop] at hi
    obtain ⟨b, off, e, hb, hc⟩ := h2 (m + i) (by omega)
    rw [if_neg (by omega), e] at ho
    have ea : (⟨b, off, none⟩ : Addr).add m = ⟨b, off + m, none⟩ := by
      unfold Addr.add; split
      · rename_i h0; subst h0; rfl
      · rfl
    refine ⟨b, off + m, by rw [ho, Option.map_some, ea], hb, ?_⟩
    rw [Nat.add_assoc, hc, List.getD_eq_getElem?_getD, List.getD_eq_getElem?_getD, List.getElem?_drop]
  · subst ho
    split at h
    · have := h5 h; omega
    · cases oa with
      | none => have := h5 rfl; omega
      | some a => simp at h
end Go.Proofs.Ytdgmmffedhikcaa
/- Contracts of slices.Clone and of wire.Writer. -/
namespace Go.Proofs.Ytdgmmffedhikcaa
set_option linter.unusedSimpArgs false
set_option linter.unusedVariables false
open Go.RowKit
set_option maxRecDepth 100000

/-- A slice of bytes, cloned: the call's own. -/
theorem Clone_any (v : Value) (l : List Int) (w : World) (sl : SlI .u8 w v l) (hl : l.length ≤ 1000000) :
    Calls Try.prog 41 #[v] w fun e w' => ∃ v', e = .returned v' ∧ w'.ownsRow w.heap.size 5 1 v' l.length (l.map (Value.int .u8)) ∧ More w w' := by
  obtain ⟨i0, hi, hz0, hz1, hz2⟩ := info_parts (P := Try.prog) (e := 5) (z := .int .u8 0) (size := 1) (bytes := 1) (by kernel_rfl)
  have SL := Lib.hid sl
  obtain ⟨oa, cap, rfl, h1, h2, h3, h4, h5⟩ := sl
  cases oa with
  | none =>
    have h0 : cap = 0 := h5 rfl
    subst h0
    obtain rfl : l = [] := List.eq_nil_of_length_eq_zero (by omega)
    clear SL h2
    have hnil := Go.run_eql_slice_nil (P := Try.prog) w 37 5 none 0 0 Try.underlying37
    go_enter Try.func41, Try.ntmps41
    go_wp2
    go_ret
    exact ⟨_, rfl, ⟨rfl, Or.inl ⟨rfl, rfl⟩⟩, More.refl _⟩
  | some ad =>
    have hown := World.ownsRow_lit (e := 5) (size := 1) (base := w.heap.size) w #[] 0 (Nat.le_refl _) (by unfold maxLen; omega) rfl
    clear h2 h5
    have hnil := Go.run_eql_slice_nil (P := Try.prog) w 37 5 (some ad) l.length cap Try.underlying37
    go_enter Try.func41, Try.ntmps41
    go_wp2_with (at_builtin; refine wpList_append_sl _ rfl (.tmp 5) (.tmp 6) 37 rfl w.heap.size 5 i0 (.int .u8 0) 1 Try.underlying37 hi hz0 hz1 hz2 rfl _ .u8 [] rfl hown _ l rfl (SL.out.keep (More.alloc _ _)) (by simp; omega) (by decide) (More.alloc w _).size ?_; intro v' w2 hown2 hgrow; have H2 := Lib.hid hown2; have G2 := Lib.hid hgrow)
    go_ret
    exact ⟨_, rfl, H2.out, (More.alloc w (.cells #[] 5)).grown G2.out (More.alloc w _).size (by intro q h; cases h; exact Nat.le_refl _)⟩

theorem owns_away {S : Nat → Prop} {w w' : World} {base e size n : Nat} {v : Value} {xs : List Value} (h : w.ownsRow base e size v n xs) (m : Away S w w') (hs : ∀ k, S k → k < base) : w'.ownsRow base e size v n xs := by
  obtain ⟨h1, h2⟩ := h
  refine ⟨h1, ?_⟩
  rcases h2 with h | ⟨g, cap, cur, e1, hb, hg, rest⟩
  · exact Or.inl h
  · exact Or.inr ⟨g, cap, cur, e1, hb, m.blk hg (fun x => by have := hs g x; omega), rest⟩
theorem slice_of_row {w : World} {base e n : Nat} {v : Value} {xs : List Value} (h : w.ownsRow base e 1 v n xs) : ∃ oa m cap, v = .slice oa m cap ∧ m = n ∧ n ≤ cap := by
  rcases h.2 with ⟨rfl, e⟩ | ⟨b, cap, cur, rfl, _, _, hc, _⟩
  · exact ⟨none, 0, 0, rfl, by omega, by omega⟩
  · exact ⟨_, _, cap, rfl, rfl, hc⟩
theorem grown_blk {w w' : World} {base e size n b : Nat} {v : Value} {xs : List Value} {o : Obj} (g : w.grownBy w' v.ownBlock) (ho : w.ownsRow base e size v n xs) (hb : b < base) (h : w.heap[b]? = some o) : w'.heap[b]? = some o := by
  rw [g.block b (blk_lt h)]
  · exact h
  · rcases ho.2 with ⟨rfl, _⟩ | ⟨b', cap, cur, rfl, hb', _⟩
    · exact fun x => by cases x
    · intro x
      have : b = b' := by injection x
      omega
/-- A writer, and what was written. -/
structure WriterAt (w : World) (W : Nat) (v : Value) (l : List Int) : Prop where
  blk : w.heap[W]? = some (.cells #[v] 160 (0, 0))
  row : w.ownsRow (W + 1) 5 1 v l.length (l.map (Value.int .u8))
/-- The blocks of a writer. -/
def WrS (W : Nat) (v : Value) (b : Nat) : Prop := b = W ∨ v.ownBlock = some b
theorem WRaw_any {w : World} {W : Nat} {v : Value} {l : List Int} (h : WriterAt w W v l) (vb : Value) (lb : List Int) (sb : SlI .u8 w vb lb) (hl : l.length + lb.length ≤ 10000000) :
    Calls Try.prog 75 #[.pointer (some ⟨W, 0, none⟩), vb] w fun e w' => e = .returned (.tuple #[]) ∧ (∃ v', WriterAt w' W v' (l ++ lb) ∧ (v'.ownBlock = v.ownBlock ∨ v'.ownBlock = some w.heap.size)) ∧ Away (WrS W v) w w' := by
  obtain ⟨i0, hi, hz0, hz1, hz2⟩ := info_parts (P := Try.prog) (e := 5) (z := .int .u8 0) (size := 1) (bytes := 1) (by kernel_rfl)
  have c0 := blk_cell h.blk 0 (v := v) rfl
  have f0 := blk_free h.blk 0
  have hW := blk_lt h.blk
  have HR := Lib.hid h
  have SB := Lib.hid sb
  clear h sb
  go_enter Try.func75, Try.ntmps75
  go_wp2_with (at_builtin; refine wpList_append_at _ rfl (.tmp 8) (.tmp 9) 37 rfl (W + 1) 5 i0 (.int .u8 0) 1 Try.underlying37 hi hz0 hz1 hz2 rfl v .u8 l rfl HR.out.row _ lb rfl SB.out (by omega) (by decide) hW ?_; intro v' w2 ho hg hb; have H2 := Lib.hid ho; have G2 := Lib.hid hg; have B2 := Lib.hid hb; have k2 := grown_blk hg HR.out.row (Nat.lt_succ_self W) HR.out.blk; have c2 := blk_cell k2 0 (v := v) rfl; have f2 := blk_free k2 0; have K2 := Lib.hid k2; obtain ⟨ov, nv, cv, rfl, hnv⟩ := slice_of_row ho; clear ho hg hb k2 hnv)
  refine bodyPost_end (v := .tuple #[]) ?rr rfl ?_
  case rr => simp [results, Try.results75, go_sem]
  have A2 : Away (WrS W v) w w2 := ⟨G2.out.os, G2.out.tape, G2.out.output, G2.out.size, fun k hk hs => G2.out.block k hk (fun e => hs (Or.inr e.symm))⟩
  refine ⟨rfl, ⟨_, ⟨blk_eq (blk_set K2.out 0 _) rfl, ?_⟩, B2.out⟩, A2.set (Or.inl rfl) _⟩
  exact owns_away (S := fun b => b = W) H2.out ((Away.refl (fun b => b = W) w2).set (p := ⟨W, 0, none⟩) rfl _) (by rintro k rfl; exact Nat.lt_succ_self _)
end Go.Proofs.Ytdgmmffedhikcaa
/- Contracts of wire.Writer's numbers. -/
namespace Go.Proofs.Ytdgmmffedhikcaa
set_option linter.unusedSimpArgs false
set_option linter.unusedVariables false
open Go.RowKit
set_option maxRecDepth 100000

theorem WriterAt.more {w w' : World} {W : Nat} {v : Value} {l : List Int} (h : WriterAt w W v l) (m : More w w') : WriterAt w' W v l := ⟨blk_more m h.blk, owns_more h.row m⟩
/-- What writing does to a writer and to the world. -/
def Wrote (w w' : World) (W : Nat) (v : Value) (l : List Int) : Prop :=
  (∃ v', WriterAt w' W v' l ∧ (v'.ownBlock = v.ownBlock ∨ ∃ g, v'.ownBlock = some g ∧ w.heap.size ≤ g)) ∧ Away (WrS W v) w w'
theorem Wrote.after {w w1 w' : World} {W : Nat} {v : Value} {l : List Int} (m : More w w1) (h : Wrote w1 w' W v l) : Wrote w w' W v l := by
  obtain ⟨⟨v', h1, h2⟩, a⟩ := h
  refine ⟨⟨v', h1, ?_⟩, (Away.of_more m).trans a⟩
  rcases h2 with h2 | ⟨g, h2, h3⟩
  · exact Or.inl h2
  · exact Or.inr ⟨g, h2, Nat.le_trans m.size h3⟩
theorem wrote_raw {w : World} {W : Nat} {v : Value} {l : List Int} (h : WriterAt w W v l) (vb : Value) (lb : List Int) (sb : SlI .u8 w vb lb) (hl : l.length + lb.length ≤ 10000000) :
    Calls Try.prog 75 #[.pointer (some ⟨W, 0, none⟩), vb] w fun e w' => e = .returned (.tuple #[]) ∧ Wrote w w' W v (l ++ lb) :=
  (WRaw_any h vb lb sb hl).mono fun _ _ ⟨he, ⟨v', h1, h2⟩, a⟩ => ⟨he, ⟨v', h1, h2.imp id fun e => ⟨_, e, Nat.le_refl _⟩⟩, a⟩
theorem WNumber_any {w : World} {W : Nat} {v : Value} {l : List Int} (h : WriterAt w W v l) (n s : Int) (hn : 0 ≤ n ∧ n ≤ 4294967295) (hs : 1 ≤ s ∧ s ≤ 4) (hl : l.length ≤ 1000000) :
    Calls Try.prog 95 #[.pointer (some ⟨W, 0, none⟩), .int .u32 n, .int .i64 s] w fun e w' => e = .returned (.tuple #[]) ∧ Wrote w w' W v (l ++ bysA n s) := by
  have HR := Lib.hid h
  have hlen : (bysA n s).length ≤ 8 := by
    obtain ⟨k, rfl⟩ : ∃ k : Nat, s = k := ⟨s.toNat, by omega⟩
    unfold bysA
    rw [if_pos (by omega), bys_length]; omega
  have hn64 : U64 n := by unfold U64; omega
  have hs64 : I64 s := by unfold I64; omega
  obtain ⟨n1, n2⟩ := hn
  clear h
  go_enter Try.func95, Try.ntmps95
  go_wp2_with first | (go_at_call 97; refine (Bytes_all n s hn64 hs64 _).mono ?_; rintro e w1 ⟨v1, rfl, hs1, hm1⟩) | (go_at_call 75; refine (wrote_raw (HR.out.more hm1) v1 _ hs1 (by omega)).mono ?_; rintro e w2 ⟨rfl, hw2⟩)
  refine bodyPost_end (v := .tuple #[]) ?rr rfl ?_
  case rr => simp [results, Try.results95, go_sem]
  exact ⟨rfl, hw2.after hm1⟩
theorem WByte_any {w : World} {W : Nat} {v : Value} {l : List Int} (h : WriterAt w W v l) (n : Int) (hn : 0 ≤ n ∧ n ≤ 255) (hl : l.length ≤ 1000000) :
    Calls Try.prog 72 #[.pointer (some ⟨W, 0, none⟩), .int .u8 n] w fun e w' => e = .returned (.tuple #[]) ∧ Wrote w w' W v (l ++ bysA n 1) := by
  have HR := Lib.hid h
  have hn4 : 0 ≤ n ∧ n ≤ 4294967295 := by omega
  have HN := Lib.hid hn4
  obtain ⟨n1, n2⟩ := hn
  clear h
  go_enter Try.func72, Try.ntmps72
  go_wp2_with (go_at_call 95; refine (WNumber_any HR.out n 1 HN.out (by decide) hl).mono ?_; rintro e w2 ⟨rfl, hw2⟩)
  refine bodyPost_end (v := .tuple #[]) ?rr rfl ?_
  case rr => simp [results, Try.results72, go_sem]
  exact ⟨rfl, hw2⟩
theorem WShort_any {w : World} {W : Nat} {v : Value} {l : List Int} (h : WriterAt w W v l) (n : Int) (hn : 0 ≤ n ∧ n ≤ 65535) (hl : l.length ≤ 1000000) :
    Calls Try.prog 73 #[.pointer (some ⟨W, 0, none⟩), .int .u16 n] w fun e w' => e = .returned (.tuple #[]) ∧ Wrote w w' W v (l ++ bysA n 2) := by
  have HR := Lib.hid h
  have hn4 : 0 ≤ n ∧ n ≤ 4294967295 := by omega
  have HN := Lib.hid hn4
  obtain ⟨n1, n2⟩ := hn
  clear h
  go_enter Try.func73, Try.ntmps73
  go_wp2_with (go_at_call 95; refine (WNumber_any HR.out n 2 HN.out (by decide) hl).mono ?_; rintro e w2 ⟨rfl, hw2⟩)
  refine bodyPost_end (v := .tuple #[]) ?rr rfl ?_
  case rr => simp [results, Try.results73, go_sem]
  exact ⟨rfl, hw2⟩
theorem WNum_any {w : World} {W : Nat} {v : Value} {l : List Int} (h : WriterAt w W v l) (n : Int) (hn : 0 ≤ n ∧ n ≤ 4294967295) (hl : l.length ≤ 1000000) :
    Calls Try.prog 74 #[.pointer (some ⟨W, 0, none⟩), .int .u32 n] w fun e w' => e = .returned (.tuple #[]) ∧ Wrote w w' W v (l ++ bysA n 4) := by
  have HR := Lib.hid h
  have hn4 : 0 ≤ n ∧ n ≤ 4294967295 := by omega
  have HN := Lib.hid hn4
  obtain ⟨n1, n2⟩ := hn
  clear h
  go_enter Try.func74, Try.ntmps74
  go_wp2_with (go_at_call 95; refine (WNumber_any HR.out n 4 HN.out (by decide) hl).mono ?_; rintro e w2 ⟨rfl, hw2⟩)
  refine bodyPost_end (v := .tuple #[]) ?rr rfl ?_
  case rr => simp [results, Try.results74, go_sem]
  exact ⟨rfl, hw2⟩
theorem WBytes_any {w : World} {W : Nat} {v : Value} {l : List Int} (h : WriterAt w W v l) (hl : l.length ≤ 1000000) :
    Calls Try.prog 76 #[.pointer (some ⟨W, 0, none⟩)] w fun e w' => ∃ v', e = .returned v' ∧ w'.ownsRow w.heap.size 5 1 v' l.length (l.map (Value.int .u8)) ∧ More w w' := by
  have c0 := blk_cell h.blk 0 (v := v) rfl
  have SL := Lib.hid (SlI.of_owns h.row (by omega))
  clear h
  go_enter Try.func76, Try.ntmps76
  go_wp2_with (go_at_call 41; refine (Clone_any v l w SL.out hl).mono ?_; rintro e w2 ⟨v2, rfl, ho, hm⟩)
  go_ret
  exact ⟨_, rfl, ho, hm⟩
end Go.Proofs.Ytdgmmffedhikcaa
