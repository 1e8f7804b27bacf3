/- Merged from my texts BitsD, WireA, WireB. -/
import Derived.Test.YtlnikmcimmnbmaaMg4
import Derived.Test.YtlnikmcimmnbmaaMg2
import Derived.Test.YtlnikmcimmnbmaaMg3
import Derived.Lib.LazyBuf
/- The reference's bits, for every argument. -/
namespace Go.Proofs.Ytlnikmcimmnbmaa
set_option linter.unusedSimpArgs false
set_option linter.unusedVariables false
open Go.RowKit
set_option maxRecDepth 100000

/-- The bytes of a number, of whatever size. -/
def bysA (n s : Int) : List Int := if 0 ≤ s ∧ s ≤ 8 then bys n s.toNat else []
theorem bysA_pos (n s : Int) (h : 0 ≤ s ∧ s ≤ 8) : bysA n s = bys n s.toNat := by unfold bysA; rw [if_pos h]

theorem Bytes_all (n s : Int) (hn : U64 n) (hs : I64 s) (w : World) :
    Calls Try.prog 154 #[.int .u64 n, .int .i64 s] w fun e w' => ∃ v, e = .returned v ∧ SlI .u8 w' v (bysA n s) ∧ More w w' := by
  obtain ⟨s1, s2⟩ := hs
  by_cases h : 0 ≤ s ∧ s ≤ 8
  · obtain ⟨S, rfl⟩ := Int.eq_ofNat_of_zero_le h.1
    rw [bysA_pos _ _ h, Int.toNat_natCast]
    exact Bytes_yes n S hn (by omega) w
  · have HF := Lib.hid (show bysA n s = [] by unfold bysA; rw [if_neg h])
    by_cases h1 : 0 ≤ s
    · have h2 : 8 < s := by omega
      clear h
      go_enter Try.func154, Try.ntmps154
      go_wp2
      go_ret
      exact ⟨_, rfl, by rw [HF.out]; exact SlI.nil _ _, More.refl _⟩
    · clear h
      go_enter Try.func154, Try.ntmps154
      go_wp2
      go_ret
      exact ⟨_, rfl, by rw [HF.out]; exact SlI.nil _ _, More.refl _⟩

theorem RBytes_all (n s : Int) (hn : U64 n) (hs : I64 s) (w : World) :
    Calls Try.prog 76 #[.int .u64 n, .int .i64 s] w fun e w' => ∃ v, e = .returned v ∧ SlI .u8 w' v (bysA n s) ∧ More w w' := by
  obtain ⟨s1, s2⟩ := hs
  by_cases h : 0 ≤ s ∧ s ≤ 8
  · obtain ⟨S, rfl⟩ := Int.eq_ofNat_of_zero_le h.1
    rw [bysA_pos _ _ h, Int.toNat_natCast]
    exact RBytes_yes n S hn (by omega) w
  · have HF := Lib.hid (show bysA n s = [] by unfold bysA; rw [if_neg h])
    by_cases h1 : 0 ≤ s
    · have h2 : 8 < s := by omega
      clear h
      go_enter Try.func76, Try.ntmps76
      go_wp2
      go_ret
      exact ⟨_, rfl, by rw [HF.out]; exact SlI.nil _ _, More.refl _⟩
    · clear h
      go_enter Try.func76, Try.ntmps76
      go_wp2
      go_ret
      exact ⟨_, rfl, by rw [HF.out]; exact SlI.nil _ _, More.refl _⟩

end Go.Proofs.Ytlnikmcimmnbmaa
/- Contracts of slices.Clone and of wire.Writer. -/
namespace Go.Proofs.Ytlnikmcimmnbmaa
set_option linter.unusedSimpArgs false
set_option linter.unusedVariables false
open Go.RowKit
set_option maxRecDepth 100000

/-- A slice of bytes, cloned: the call's own. -/
theorem Clone_any (v : Value) (l : List Int) (w : World) (sl : SlI .u8 w v l) (hl : l.length ≤ 1000000) :
    Calls Try.prog 133 #[v] w fun e w' => ∃ v', e = .returned v' ∧ w'.ownsRow w.heap.size 5 1 v' l.length (l.map (Value.int .u8)) ∧ More w w' := by
  obtain ⟨i0, hi, hz0, hz1, hz2⟩ := info_parts (P := Try.prog) (e := 5) (z := .int .u8 0) (size := 1) (bytes := 1) (by kernel_rfl)
  have SL := Lib.hid sl
  obtain ⟨oa, cap, rfl, h1, h2, h3, h4, h5⟩ := sl
  cases oa with
  | none =>
    have h0 : cap = 0 := h5 rfl
    subst h0
    obtain rfl : l = [] := List.eq_nil_of_length_eq_zero (by omega)
    clear SL h2
    have hnil := Go.run_eql_slice_nil (P := Try.prog) w 28 5 none 0 0 Try.underlying28
    go_enter Try.func133, Try.ntmps133
    go_wp2
    go_ret
    exact ⟨_, rfl, ⟨rfl, Or.inl ⟨rfl, rfl⟩⟩, More.refl _⟩
  | some ad =>
    have hown := World.ownsRow_lit (e := 5) (size := 1) (base := w.heap.size) w #[] 0 (Nat.le_refl _) (by unfold maxLen; omega) rfl
    clear h2 h5
    have hnil := Go.run_eql_slice_nil (P := Try.prog) w 28 5 (some ad) l.length cap Try.underlying28
    go_enter Try.func133, Try.ntmps133
    go_wp2_with (at_builtin; refine wpList_append_sl _ rfl (.tmp 5) (.tmp 6) 28 rfl w.heap.size 5 i0 (.int .u8 0) 1 Try.underlying28 hi hz0 hz1 hz2 rfl _ .u8 [] rfl hown _ l rfl (SL.out.keep (More.alloc _ _)) (by simp; omega) (by decide) (More.alloc w _).size ?_; intro v' w2 hown2 hgrow; have H2 := Lib.hid hown2; have G2 := Lib.hid hgrow)
    go_ret
    exact ⟨_, rfl, H2.out, (More.alloc w (.cells #[] 5)).grown G2.out (More.alloc w _).size (by intro q h; cases h; exact Nat.le_refl _)⟩

theorem owns_away {S : Nat → Prop} {w w' : World} {base e size n : Nat} {v : Value} {xs : List Value} (h : w.ownsRow base e size v n xs) (m : Away S w w') (hs : ∀ k, S k → k < base) : w'.ownsRow base e size v n xs := by
  obtain ⟨h1, h2⟩ := h
  refine ⟨h1, ?_⟩
  rcases h2 with h | ⟨g, cap, cur, e1, hb, hg, rest⟩
  · exact Or.inl h
  · exact Or.inr ⟨g, cap, cur, e1, hb, m.blk hg (fun x => by have := hs g x; omega), rest⟩
theorem slice_of_row {w : World} {base e n : Nat} {v : Value} {xs : List Value} (h : w.ownsRow base e 1 v n xs) : ∃ oa m cap, v = .slice oa m cap ∧ m = n ∧ n ≤ cap := by
  rcases h.2 with ⟨rfl, e⟩ | ⟨b, cap, cur, rfl, _, _, hc, _⟩
  · exact ⟨none, 0, 0, rfl, by omega, by omega⟩
  · exact ⟨_, _, cap, rfl, rfl, hc⟩
theorem grown_blk {w w' : World} {base e size n b : Nat} {v : Value} {xs : List Value} {o : Obj} (g : w.grownBy w' v.ownBlock) (ho : w.ownsRow base e size v n xs) (hb : b < base) (h : w.heap[b]? = some o) : w'.heap[b]? = some o := by
  rw [g.block b (blk_lt h)]
  · exact h
  · rcases ho.2 with ⟨rfl, _⟩ | ⟨b', cap, cur, rfl, hb', _⟩
    · exact fun x => by cases x
    · intro x
      have : b = b' := by injection x
      omega
/-- A writer, and what was written. -/
structure WriterAt (w : World) (W : Nat) (v : Value) (l : List Int) : Prop where
  blk : w.heap[W]? = some (.cells #[v] 138 (0, 0))
  row : w.ownsRow (W + 1) 5 1 v l.length (l.map (Value.int .u8))
/-- The blocks of a writer. -/
def WrS (W : Nat) (v : Value) (b : Nat) : Prop := b = W ∨ v.ownBlock = some b
theorem WRaw_any {w : World} {W : Nat} {v : Value} {l : List Int} (h : WriterAt w W v l) (vb : Value) (lb : List Int) (sb : SlI .u8 w vb lb) (hl : l.length + lb.length ≤ 10000000) :
    Calls Try.prog 87 #[.pointer (some ⟨W, 0, none⟩), vb] w fun e w' => e = .returned (.tuple #[]) ∧ (∃ v', WriterAt w' W v' (l ++ lb) ∧ (v'.ownBlock = v.ownBlock ∨ v'.ownBlock = some w.heap.size)) ∧ Away (WrS W v) w w' := by
  obtain ⟨i0, hi, hz0, hz1, hz2⟩ := info_parts (P := Try.prog) (e := 5) (z := .int .u8 0) (size := 1) (bytes := 1) (by kernel_rfl)
  have c0 := blk_cell h.blk 0 (v := v) rfl
  have f0 := blk_free h.blk 0
  have hW := blk_lt h.blk
  have HR := Lib.hid h
  have SB := Lib.hid sb
  clear h sb
  go_enter Try.func87, Try.ntmps87
  go_wp2_with (at_builtin; refine wpList_append_at _ rfl (.tmp 8) (.tmp 9) 28 rfl (W + 1) 5 i0 (.int .u8 0) 1 Try.underlying28 hi hz0 hz1 hz2 rfl v .u8 l rfl HR.out.row _ lb rfl SB.out (by omega) (by decide) hW ?_; intro v' w2 ho hg hb; have H2 := Lib.hid ho; have G2 := Lib.hid hg; have B2 := Lib.hid hb; have k2 := grown_blk hg HR.out.row (Nat.lt_succ_self W) HR.out.blk; have c2 := blk_cell k2 0 (v := v) rfl; have f2 := blk_free k2 0; have K2 := Lib.hid k2; obtain ⟨ov, nv, cv, rfl, hnv⟩ := slice_of_row ho; clear ho hg hb k2 hnv)
  refine bodyPost_end (v := .tuple #[]) ?rr rfl ?_
  case rr => simp [results, Try.results87, go_sem]
  have A2 : Away (WrS W v) w w2 := ⟨G2.out.os, G2.out.tape, G2.out.output, G2.out.size, fun k hk hs => G2.out.block k hk (fun e => hs (Or.inr e.symm))⟩
  refine ⟨rfl, ⟨_, ⟨blk_eq (blk_set K2.out 0 _) rfl, ?_⟩, B2.out⟩, A2.set (Or.inl rfl) _⟩
  exact owns_away (S := fun b => b = W) H2.out ((Away.refl (fun b => b = W) w2).set (p := ⟨W, 0, none⟩) rfl _) (by rintro k rfl; exact Nat.lt_succ_self _)
end Go.Proofs.Ytlnikmcimmnbmaa
/- Contracts of wire.Writer's numbers. -/
namespace Go.Proofs.Ytlnikmcimmnbmaa
set_option linter.unusedSimpArgs false
set_option linter.unusedVariables false
open Go.RowKit
set_option maxRecDepth 100000

theorem WriterAt.more {w w' : World} {W : Nat} {v : Value} {l : List Int} (h : WriterAt w W v l) (m : More w w') : WriterAt w' W v l := ⟨blk_more m h.blk, owns_more h.row m⟩
/-- What writing does to a writer and to the world. -/
def Wrote (w w' : World) (W : Nat) (v : Value) (l : List Int) : Prop :=
  (∃ v', WriterAt w' W v' l ∧ (v'.ownBlock = v.ownBlock ∨ ∃ g, v'.ownBlock = some g ∧ w.heap.size ≤ g)) ∧ Away (WrS W v) w w'
theorem Wrote.after {w w1 w' : World} {W : Nat} {v : Value} {l : List Int} (m : More w w1) (h : Wrote w1 w' W v l) : Wrote w w' W v l := by
  obtain ⟨⟨v', h1, h2⟩, a⟩ := h
  refine ⟨⟨v', h1, ?_⟩, (Away.of_more m).trans a⟩
  rcases h2 with h2 | ⟨g, h2, h3⟩
  · exact Or.inl h2
  · exact Or.inr ⟨g, h2, Nat.le_trans m.size h3⟩
theorem wrote_raw {w : World} {W : Nat} {v : Value} {l : List Int} (h : WriterAt w W v l) (vb : Value) (lb : List Int) (sb : SlI .u8 w vb lb) (hl : l.length + lb.length ≤ 10000000) :
    Calls Try.prog 87 #[.pointer (some ⟨W, 0, none⟩), vb] w fun e w' => e = .returned (.tuple #[]) ∧ Wrote w w' W v (l ++ lb) :=
  (WRaw_any h vb lb sb hl).mono fun _ _ ⟨he, ⟨v', h1, h2⟩, a⟩ => ⟨he, ⟨v', h1, h2.imp id fun e => ⟨_, e, Nat.le_refl _⟩⟩, a⟩
theorem WNumber_any {w : World} {W : Nat} {v : Value} {l : List Int} (h : WriterAt w W v l) (n s : Int) (hn : 0 ≤ n ∧ n ≤ 4294967295) (hs : 1 ≤ s ∧ s ≤ 4) (hl : l.length ≤ 1000000) :
    Calls Try.prog 132 #[.pointer (some ⟨W, 0, none⟩), .int .u32 n, .int .i64 s] w fun e w' => e = .returned (.tuple #[]) ∧ Wrote w w' W v (l ++ bysA n s) := by
  have HR := Lib.hid h
  have hlen : (bysA n s).length ≤ 8 := by
    obtain ⟨k, rfl⟩ : ∃ k : Nat, s = k := ⟨s.toNat, by omega⟩
    unfold bysA
    rw [if_pos (by omega), bys_length]; omega
  have hn64 : U64 n := by unfold U64; omega
  have hs64 : I64 s := by unfold I64; omega
  obtain ⟨n1, n2⟩ := hn
  clear h
  go_enter Try.func132, Try.ntmps132
  go_wp2_with first | (go_at_call 154; refine (Bytes_all n s hn64 hs64 _).mono ?_; rintro e w1 ⟨v1, rfl, hs1, hm1⟩) | (go_at_call 87; refine (wrote_raw (HR.out.more hm1) v1 _ hs1 (by omega)).mono ?_; rintro e w2 ⟨rfl, hw2⟩)
  refine bodyPost_end (v := .tuple #[]) ?rr rfl ?_
  case rr => simp [results, Try.results132, go_sem]
  exact ⟨rfl, hw2.after hm1⟩
theorem WByte_any {w : World} {W : Nat} {v : Value} {l : List Int} (h : WriterAt w W v l) (n : Int) (hn : 0 ≤ n ∧ n ≤ 255) (hl : l.length ≤ 1000000) :
    Calls Try.prog 72 #[.pointer (some ⟨W, 0, none⟩), .int .u8 n] w fun e w' => e = .returned (.tuple #[]) ∧ Wrote w w' W v (l ++ bysA n 1) := by
  have HR := Lib.hid h
  have hn4 : 0 ≤ n ∧ n ≤ 4294967295 := by omega
  have HN := Lib.hid hn4
  obtain ⟨n1, n2⟩ := hn
  clear h
  go_enter Try.func72, Try.ntmps72
  go_wp2_with (go_at_call 132; refine (WNumber_any HR.out n 1 HN.out (by decide) hl).mono ?_; rintro e w2 ⟨rfl, hw2⟩)
  refine bodyPost_end (v := .tuple #[]) ?rr rfl ?_
  case rr => simp [results, Try.results72, go_sem]
  exact ⟨rfl, hw2⟩
theorem WShort_any {w : World} {W : Nat} {v : Value} {l : List Int} (h : WriterAt w W v l) (n : Int) (hn : 0 ≤ n ∧ n ≤ 65535) (hl : l.length ≤ 1000000) :
    Calls Try.prog 86 #[.pointer (some ⟨W, 0, none⟩), .int .u16 n] w fun e w' => e = .returned (.tuple #[]) ∧ Wrote w w' W v (l ++ bysA n 2) := by
  have HR := Lib.hid h
  have hn4 : 0 ≤ n ∧ n ≤ 4294967295 := by omega
  have HN := Lib.hid hn4
  obtain ⟨n1, n2⟩ := hn
  clear h
  go_enter Try.func86, Try.ntmps86
  go_wp2_with (go_at_call 132; refine (WNumber_any HR.out n 2 HN.out (by decide) hl).mono ?_; rintro e w2 ⟨rfl, hw2⟩)
  refine bodyPost_end (v := .tuple #[]) ?rr rfl ?_
  case rr => simp [results, Try.results86, go_sem]
  exact ⟨rfl, hw2⟩
theorem WThree_any {w : World} {W : Nat} {v : Value} {l : List Int} (h : WriterAt w W v l) (n : Int) (hn : 0 ≤ n ∧ n ≤ 4294967295) (hl : l.length ≤ 1000000) :
    Calls Try.prog 73 #[.pointer (some ⟨W, 0, none⟩), .int .u32 n] w fun e w' => e = .returned (.tuple #[]) ∧ Wrote w w' W v (l ++ bysA n 3) := by
  have HR := Lib.hid h
  have hn4 : 0 ≤ n ∧ n ≤ 4294967295 := by omega
  have HN := Lib.hid hn4
  obtain ⟨n1, n2⟩ := hn
  clear h
  go_enter Try.func73, Try.ntmps73
  go_wp2_with (go_at_call 132; refine (WNumber_any HR.out n 3 HN.out (by decide) hl).mono ?_; rintro e w2 ⟨rfl, hw2⟩)
  refine bodyPost_end (v := .tuple #[]) ?rr rfl ?_
  case rr => simp [results, Try.results73, go_sem]
  exact ⟨rfl, hw2⟩
theorem WNum_any {w : World} {W : Nat} {v : Value} {l : List Int} (h : WriterAt w W v l) (n : Int) (hn : 0 ≤ n ∧ n ≤ 4294967295) (hl : l.length ≤ 1000000) :
    Calls Try.prog 71 #[.pointer (some ⟨W, 0, none⟩), .int .u32 n] w fun e w' => e = .returned (.tuple #[]) ∧ Wrote w w' W v (l ++ bysA n 4) := by
  have HR := Lib.hid h
  have hn4 : 0 ≤ n ∧ n ≤ 4294967295 := by omega
  have HN := Lib.hid hn4
  obtain ⟨n1, n2⟩ := hn
  clear h
  go_enter Try.func71, Try.ntmps71
  go_wp2_with (go_at_call 132; refine (WNumber_any HR.out n 4 HN.out (by decide) hl).mono ?_; rintro e w2 ⟨rfl, hw2⟩)
  refine bodyPost_end (v := .tuple #[]) ?rr rfl ?_
  case rr => simp [results, Try.results71, go_sem]
  exact ⟨rfl, hw2⟩
theorem WBytes_any {w : World} {W : Nat} {v : Value} {l : List Int} (h : WriterAt w W v l) (hl : l.length ≤ 1000000) :
    Calls Try.prog 74 #[.pointer (some ⟨W, 0, none⟩)] w fun e w' => ∃ v', e = .returned v' ∧ w'.ownsRow w.heap.size 5 1 v' l.length (l.map (Value.int .u8)) ∧ More w w' := by
  have c0 := blk_cell h.blk 0 (v := v) rfl
  have SL := Lib.hid (SlI.of_owns h.row (by omega))
  clear h
  go_enter Try.func74, Try.ntmps74
  go_wp2_with (go_at_call 133; refine (Clone_any v l w SL.out hl).mono ?_; rintro e w2 ⟨v2, rfl, ho, hm⟩)
  go_ret
  exact ⟨_, rfl, ho, hm⟩
end Go.Proofs.Ytlnikmcimmnbmaa
