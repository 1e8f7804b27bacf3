/- Contracts of wire.Writer's numbers. -/
import Derived.Test.YtlnikmcimmnbmaaWireA
namespace Go.Proofs.Ytlnikmcimmnbmaa
set_option linter.unusedSimpArgs false
set_option linter.unusedVariables false
open Go.RowKit
set_option maxRecDepth 100000

theorem WriterAt.more {w w' : World} {W : Nat} {v : Value} {l : List Int} (h : WriterAt w W v l) (m : More w w') : WriterAt w' W v l := ⟨blk_more m h.blk, owns_more h.row m⟩
/-- What writing does to a writer and to the world. -/
def Wrote (w w' : World) (W : Nat) (v : Value) (l : List Int) : Prop :=
  (∃ v', WriterAt w' W v' l ∧ (v'.ownBlock = v.ownBlock ∨ ∃ g, v'.ownBlock = some g ∧ w.heap.size ≤ g)) ∧ Away (WrS W v) w w'
theorem Wrote.after {w w1 w' : World} {W : Nat} {v : Value} {l : List Int} (m : More w w1) (h : Wrote w1 w' W v l) : Wrote w w' W v l := by
  obtain ⟨⟨v', h1, h2⟩, a⟩ := h
  refine ⟨⟨v', h1, ?_⟩, (Away.of_more m).trans a⟩
  rcases h2 with h2 | ⟨g, h2, h3⟩
  · exact Or.inl h2
  · exact Or.inr ⟨g, h2, Nat.le_trans m.size h3⟩
theorem wrote_raw {w : World} {W : Nat} {v : Value} {l : List Int} (h : WriterAt w W v l) (vb : Value) (lb : List Int) (sb : SlI .u8 w vb lb) (hl : l.length + lb.length ≤ 10000000) :
    Calls Try.prog 87 #[.pointer (some ⟨W, 0, none⟩), vb] w fun e w' => e = .returned (.tuple #[]) ∧ Wrote w w' W v (l ++ lb) :=
  (WRaw_any h vb lb sb hl).mono fun _ _ ⟨he, ⟨v', h1, h2⟩, a⟩ => ⟨he, ⟨v', h1, h2.imp id fun e => ⟨_, e, Nat.le_refl _⟩⟩, a⟩
theorem WNumber_any {w : World} {W : Nat} {v : Value} {l : List Int} (h : WriterAt w W v l) (n s : Int) (hn : 0 ≤ n ∧ n ≤ 4294967295) (hs : 1 ≤ s ∧ s ≤ 4) (hl : l.length ≤ 1000000) :
    Calls Try.prog 132 #[.pointer (some ⟨W, 0, none⟩), .int .u32 n, .int .i64 s] w fun e w' => e = .returned (.tuple #[]) ∧ Wrote w w' W v (l ++ bysA n s) := by
  have HR := Lib.hid h
  have hlen : (bysA n s).length ≤ 8 := by
    obtain ⟨k, rfl⟩ : ∃ k : Nat, s = k := ⟨s.toNat, by omega⟩
    unfold bysA
    rw [if_pos (by omega), bys_length]; omega
  have hn64 : U64 n := by unfold U64; omega
  have hs64 : I64 s := by unfold I64; omega
  obtain ⟨n1, n2⟩ := hn
  clear h
  go_enter Try.func132, Try.ntmps132
  go_wp2_with first | (go_at_call 154; refine (Bytes_all n s hn64 hs64 _).mono ?_; rintro e w1 ⟨v1, rfl, hs1, hm1⟩) | (go_at_call 87; refine (wrote_raw (HR.out.more hm1) v1 _ hs1 (by omega)).mono ?_; rintro e w2 ⟨rfl, hw2⟩)
  refine bodyPost_end (v := .tuple #[]) ?rr rfl ?_
  case rr => simp [results, Try.results132, go_sem]
  exact ⟨rfl, hw2.after hm1⟩
theorem WByte_any {w : World} {W : Nat} {v : Value} {l : List Int} (h : WriterAt w W v l) (n : Int) (hn : 0 ≤ n ∧ n ≤ 255) (hl : l.length ≤ 1000000) :
    Calls Try.prog 72 #[.pointer (some ⟨W, 0, none⟩), .int .u8 n] w fun e w' => e = .returned (.tuple #[]) ∧ Wrote w w' W v (l ++ bysA n 1) := by
  have HR := Lib.hid h
  have hn4 : 0 ≤ n ∧ n ≤ 4294967295 := by omega
  have HN := Lib.hid hn4
  obtain ⟨n1, n2⟩ := hn
  clear h
  go_enter Try.func72, Try.ntmps72
  go_wp2_with (go_at_call 132; refine (WNumber_any HR.out n 1 HN.out (by decide) hl).mono ?_; rintro e w2 ⟨rfl, hw2⟩)
  refine bodyPost_end (v := .tuple #[]) ?rr rfl ?_
  case rr => simp [results, Try.results72, go_sem]
  exact ⟨rfl, hw2⟩
theorem WShort_any {w : World} {W : Nat} {v : Value} {l : List Int} (h : WriterAt w W v l) (n : Int) (hn : 0 ≤ n ∧ n ≤ 65535) (hl : l.length ≤ 1000000) :
    Calls Try.prog 86 #[.pointer (some ⟨W, 0, none⟩), .int .u16 n] w fun e w' => e = .returned (.tuple #[]) ∧ Wrote w w' W v (l ++ bysA n 2) := by
  have HR := Lib.hid h
  have hn4 : 0 ≤ n ∧ n ≤ 4294967295 := by omega
  have HN := Lib.hid hn4
  obtain ⟨n1, n2⟩ := hn
  clear h
  go_enter Try.func86, Try.ntmps86
  go_wp2_with (go_at_call 132; refine (WNumber_any HR.out n 2 HN.out (by decide) hl).mono ?_; rintro e w2 ⟨rfl, hw2⟩)
  refine bodyPost_end (v := .tuple #[]) ?rr rfl ?_
  case rr => simp [results, Try.results86, go_sem]
  exact ⟨rfl, hw2⟩
theorem WThree_any {w : World} {W : Nat} {v : Value} {l : List Int} (h : WriterAt w W v l) (n : Int) (hn : 0 ≤ n ∧ n ≤ 4294967295) (hl : l.length ≤ 1000000) :
    Calls Try.prog 73 #[.pointer (some ⟨W, 0, none⟩), .int .u32 n] w fun e w' => e = .returned (.tuple #[]) ∧ Wrote w w' W v (l ++ bysA n 3) := by
  have HR := Lib.hid h
  have hn4 : 0 ≤ n ∧ n ≤ 4294967295 := by omega
  have HN := Lib.hid hn4
  obtain ⟨n1, n2⟩ := hn
  clear h
  go_enter Try.func73, Try.ntmps73
  go_wp2_with (go_at_call 132; refine (WNumber_any HR.out n 3 HN.out (by decide) hl).mono ?_; rintro e w2 ⟨rfl, hw2⟩)
  refine bodyPost_end (v := .tuple #[]) ?rr rfl ?_
  case rr => simp [results, Try.results73, go_sem]
  exact ⟨rfl, hw2⟩
theorem WNum_any {w : World} {W : Nat} {v : Value} {l : List Int} (h : WriterAt w W v l) (n : Int) (hn : 0 ≤ n ∧ n ≤ 4294967295) (hl : l.length ≤ 1000000) :
    Calls Try.prog 71 #[.pointer (some ⟨W, 0, none⟩), .int .u32 n] w fun e w' => e = .returned (.tuple #[]) ∧ Wrote w w' W v (l ++ bysA n 4) := by
  have HR := Lib.hid h
  have hn4 : 0 ≤ n ∧ n ≤ 4294967295 := by omega
  have HN := Lib.hid hn4
  obtain ⟨n1, n2⟩ := hn
  clear h
  go_enter Try.func71, Try.ntmps71
  go_wp2_with (go_at_call 132; refine (WNumber_any HR.out n 4 HN.out (by decide) hl).mono ?_; rintro e w2 ⟨rfl, hw2⟩)
  refine bodyPost_end (v := .tuple #[]) ?rr rfl ?_
  case rr => simp [results, Try.results71, go_sem]
  exact ⟨rfl, hw2⟩
theorem WBytes_any {w : World} {W : Nat} {v : Value} {l : List Int} (h : WriterAt w W v l) (hl : l.length ≤ 1000000) :
    Calls Try.prog 74 #[.pointer (some ⟨W, 0, none⟩)] w fun e w' => ∃ v', e = .returned v' ∧ w'.ownsRow w.heap.size 5 1 v' l.length (l.map (Value.int .u8)) ∧ More w w' := by
  have c0 := blk_cell h.blk 0 (v := v) rfl
  have SL := Lib.hid (SlI.of_owns h.row (by omega))
  clear h
  go_enter Try.func74, Try.ntmps74
  go_wp2_with (go_at_call 133; refine (Clone_any v l w SL.out hl).mono ?_; rintro e w2 ⟨v2, rfl, ho, hm⟩)
  go_ret
  exact ⟨_, rfl, ho, hm⟩
end Go.Proofs.Ytlnikmcimmnbmaa
