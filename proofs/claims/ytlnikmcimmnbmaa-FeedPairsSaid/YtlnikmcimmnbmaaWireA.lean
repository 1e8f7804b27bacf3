/- Contracts of slices.Clone and of wire.Writer. -/
import Derived.Test.YtlnikmcimmnbmaaBitsD
import Derived.Test.YtlnikmcimmnbmaaRegion
import Derived.Test.YtlnikmcimmnbmaaSliceB
import Derived.Lib.LazyBuf
namespace Go.Proofs.Ytlnikmcimmnbmaa
set_option linter.unusedSimpArgs false
set_option linter.unusedVariables false
open Go.RowKit
set_option maxRecDepth 100000

/-- A slice of bytes, cloned: the call's own. -/
theorem Clone_any (v : Value) (l : List Int) (w : World) (sl : SlI .u8 w v l) (hl : l.length ≤ 1000000) :
    Calls Try.prog 133 #[v] w fun e w' => ∃ v', e = .returned v' ∧ w'.ownsRow w.heap.size 5 1 v' l.length (l.map (Value.int .u8)) ∧ More w w' := by
  obtain ⟨i0, hi, hz0, hz1, hz2⟩ := info_parts (P := Try.prog) (e := 5) (z := .int .u8 0) (size := 1) (bytes := 1) (by kernel_rfl)
  have SL := Lib.hid sl
  obtain ⟨oa, cap, rfl, h1, h2, h3, h4, h5⟩ := sl
  cases oa with
  | none =>
    have h0 : cap = 0 := h5 rfl
    subst h0
    obtain rfl : l = [] := List.eq_nil_of_length_eq_zero (by omega)
    clear SL h2
    have hnil := Go.run_eql_slice_nil (P := Try.prog) w 28 5 none 0 0 Try.underlying28
    go_enter Try.func133, Try.ntmps133
    go_wp2
    go_ret
    exact ⟨_, rfl, ⟨rfl, Or.inl ⟨rfl, rfl⟩⟩, More.refl _⟩
  | some ad =>
    have hown := World.ownsRow_lit (e := 5) (size := 1) (base := w.heap.size) w #[] 0 (Nat.le_refl _) (by unfold maxLen; omega) rfl
    clear h2 h5
    have hnil := Go.run_eql_slice_nil (P := Try.prog) w 28 5 (some ad) l.length cap Try.underlying28
    go_enter Try.func133, Try.ntmps133
    go_wp2_with (at_builtin; refine wpList_append_sl _ rfl (.tmp 5) (.tmp 6) 28 rfl w.heap.size 5 i0 (.int .u8 0) 1 Try.underlying28 hi hz0 hz1 hz2 rfl _ .u8 [] rfl hown _ l rfl (SL.out.keep (More.alloc _ _)) (by simp; omega) (by decide) (More.alloc w _).size ?_; intro v' w2 hown2 hgrow; have H2 := Lib.hid hown2; have G2 := Lib.hid hgrow)
    go_ret
    exact ⟨_, rfl, H2.out, (More.alloc w (.cells #[] 5)).grown G2.out (More.alloc w _).size (by intro q h; cases h; exact Nat.le_refl _)⟩

theorem owns_away {S : Nat → Prop} {w w' : World} {base e size n : Nat} {v : Value} {xs : List Value} (h : w.ownsRow base e size v n xs) (m : Away S w w') (hs : ∀ k, S k → k < base) : w'.ownsRow base e size v n xs := by
  obtain ⟨h1, h2⟩ := h
  refine ⟨h1, ?_⟩
  rcases h2 with h | ⟨g, cap, cur, e1, hb, hg, rest⟩
  · exact Or.inl h
  · exact Or.inr ⟨g, cap, cur, e1, hb, m.blk hg (fun x => by have := hs g x; omega), rest⟩
theorem slice_of_row {w : World} {base e n : Nat} {v : Value} {xs : List Value} (h : w.ownsRow base e 1 v n xs) : ∃ oa m cap, v = .slice oa m cap ∧ m = n ∧ n ≤ cap := by
  rcases h.2 with ⟨rfl, e⟩ | ⟨b, cap, cur, rfl, _, _, hc, _⟩
  · exact ⟨none, 0, 0, rfl, by omega, by omega⟩
  · exact ⟨_, _, cap, rfl, rfl, hc⟩
theorem grown_blk {w w' : World} {base e size n b : Nat} {v : Value} {xs : List Value} {o : Obj} (g : w.grownBy w' v.ownBlock) (ho : w.ownsRow base e size v n xs) (hb : b < base) (h : w.heap[b]? = some o) : w'.heap[b]? = some o := by
  rw [g.block b (blk_lt h)]
  · exact h
  · rcases ho.2 with ⟨rfl, _⟩ | ⟨b', cap, cur, rfl, hb', _⟩
    · exact fun x => by cases x
    · intro x
      have : b = b' := by injection x
      omega
/-- A writer, and what was written. -/
structure WriterAt (w : World) (W : Nat) (v : Value) (l : List Int) : Prop where
  blk : w.heap[W]? = some (.cells #[v] 138 (0, 0))
  row : w.ownsRow (W + 1) 5 1 v l.length (l.map (Value.int .u8))
/-- The blocks of a writer. -/
def WrS (W : Nat) (v : Value) (b : Nat) : Prop := b = W ∨ v.ownBlock = some b
theorem WRaw_any {w : World} {W : Nat} {v : Value} {l : List Int} (h : WriterAt w W v l) (vb : Value) (lb : List Int) (sb : SlI .u8 w vb lb) (hl : l.length + lb.length ≤ 10000000) :
    Calls Try.prog 87 #[.pointer (some ⟨W, 0, none⟩), vb] w fun e w' => e = .returned (.tuple #[]) ∧ (∃ v', WriterAt w' W v' (l ++ lb) ∧ (v'.ownBlock = v.ownBlock ∨ v'.ownBlock = some w.heap.size)) ∧ Away (WrS W v) w w' := by
  obtain ⟨i0, hi, hz0, hz1, hz2⟩ := info_parts (P := Try.prog) (e := 5) (z := .int .u8 0) (size := 1) (bytes := 1) (by kernel_rfl)
  have c0 := blk_cell h.blk 0 (v := v) rfl
  have f0 := blk_free h.blk 0
  have hW := blk_lt h.blk
  have HR := Lib.hid h
  have SB := Lib.hid sb
  clear h sb
  go_enter Try.func87, Try.ntmps87
  go_wp2_with (at_builtin; refine wpList_append_at _ rfl (.tmp 8) (.tmp 9) 28 rfl (W + 1) 5 i0 (.int .u8 0) 1 Try.underlying28 hi hz0 hz1 hz2 rfl v .u8 l rfl HR.out.row _ lb rfl SB.out (by omega) (by decide) hW ?_; intro v' w2 ho hg hb; have H2 := Lib.hid ho; have G2 := Lib.hid hg; have B2 := Lib.hid hb; have k2 := grown_blk hg HR.out.row (Nat.lt_succ_self W) HR.out.blk; have c2 := blk_cell k2 0 (v := v) rfl; have f2 := blk_free k2 0; have K2 := Lib.hid k2; obtain ⟨ov, nv, cv, rfl, hnv⟩ := slice_of_row ho; clear ho hg hb k2 hnv)
  refine bodyPost_end (v := .tuple #[]) ?rr rfl ?_
  case rr => simp [results, Try.results87, go_sem]
  have A2 : Away (WrS W v) w w2 := ⟨G2.out.os, G2.out.tape, G2.out.output, G2.out.size, fun k hk hs => G2.out.block k hk (fun e => hs (Or.inr e.symm))⟩
  refine ⟨rfl, ⟨_, ⟨blk_eq (blk_set K2.out 0 _) rfl, ?_⟩, B2.out⟩, A2.set (Or.inl rfl) _⟩
  exact owns_away (S := fun b => b = W) H2.out ((Away.refl (fun b => b = W) w2).set (p := ⟨W, 0, none⟩) rfl _) (by rintro k rfl; exact Nat.lt_succ_self _)
end Go.Proofs.Ytlnikmcimmnbmaa
