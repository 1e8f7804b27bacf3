/- The law RingSums, walked. -/
import Derived.Test.YtiifoobkmojdcaaRingD
import Derived.Test.YtiifoobkmojdcaaRead
namespace Go.Proofs.Ytiifoobkmojdcaa
open Go.RowKit
set_option maxRecDepth 100000

def RAct13 : Reader (Int × Int × Unit) := RCons 1 (RInt .i64) (RCons 1 (RInt .i64) RNil)
theorem keepsAct13 : Keeps RAct13 := Keeps.cons (Keeps.int _) (Keeps.cons (Keeps.int _) Keeps.nil)
theorem opensAct13 : Opens Try.prog 56 RAct13 :=
  Opens.struct Try.underlying56 (by kernel_rfl) (OpensF.cons rfl (by kernel_rfl) (Opens.int Try.underlying3) (OpensF.cons rfl (by kernel_rfl) (Opens.int Try.underlying3) OpensF.nil))
/-- An act that came in, and where it lies. -/
theorem act13 {w : World} {v : Value} {l : List (Int × Int × Unit)} (h : SlP 2 RAct13 w v l) : ∃ oa cap, v = .slice oa l.length cap ∧ (l.length : Int) ≤ 9223372036854775807 ∧ ∀ i (hi : i < l.length), ∃ b off, oa = some ⟨b, off, none⟩ ∧ b < w.heap.size ∧ w.cell? ⟨b, off + i * 2, none⟩ = some (.int .i64 (l.getD i (0, 0, ())).1) ∧ w.cell? ⟨b, off + i * 2 + 1, none⟩ = some (.int .i64 (l.getD i (0, 0, ())).2.1) := by
  obtain ⟨oa, cap, h1, h2, h3, _⟩ := h
  refine ⟨oa, cap, h1, h2, fun i hi => ?_⟩
  obtain ⟨b, off, cs, e, hb, hl, hc, hr⟩ := h3 i hi
  have e0 := hc 0 (by omega)
  have e1 := hc 1 (by omega)
  match cs, hl with
  | [c0, c1], _ =>
    obtain ⟨⟨r0, _⟩, ⟨r1, _⟩, _⟩ := hr
    simp at r0 r1 e0 e1
    refine ⟨b, off, e, hb, ?_, ?_⟩
    · rw [e0, r0]; simp [hi]
    · rw [e1, r1]; simp [hi]

/-- What a ring's counts are, after so many acts. -/
structure Sum13 (s : RS) (j : Nat) : Prop where
  sum : s.cin = s.cout + s.cdrop + s.cdrain + s.q.length
  c0 : 0 ≤ s.cin ∧ s.cin ≤ j
  c1 : 0 ≤ s.cout
  c2 : 0 ≤ s.cdrop
  c3 : 0 ≤ s.cdrain
theorem Sum13.small {s : RS} {j : Nat} (h : Sum13 s j) (hj : j ≤ 1000) : s.small := by
  obtain ⟨a, b, c, d, e⟩ := h
  unfold RS.small; omega
/-- What an act may do with the counts. -/
structure Then13 (s s' : RS) (j room : Nat) : Prop where
  inv : Sum13 s' (j + 1)
  i0 : s.cin ≤ s'.cin
  i1 : s.cout ≤ s'.cout
  i2 : s.cdrop ≤ s'.cdrop
  i3 : s.cdrain ≤ s'.cdrain
  shut : s.closed = true → s'.cin = s.cin
theorem Then13.same {s : RS} {j room : Nat} (h : Sum13 s j) : Then13 s s j room :=
  ⟨⟨h.sum, ⟨h.c0.1, by have := h.c0.2; omega⟩, h.c1, h.c2, h.c3⟩, by omega, by omega, by omega, by omega, fun _ => rfl⟩
theorem Then13.close {s : RS} {j room : Nat} (h : Sum13 s j) : Then13 s { s with closed := true } j room :=
  ⟨⟨h.sum, ⟨h.c0.1, by have := h.c0.2; dsimp only; omega⟩, h.c1, h.c2, h.c3⟩, by dsimp only; omega, by dsimp only; omega, by dsimp only; omega, by dsimp only; omega, fun _ => rfl⟩
theorem Then13.put {s : RS} {j room : Nat} (x : Int) (h : Sum13 s j) (hc : s.closed = false) : Then13 s (s.put x) j room := by
  obtain ⟨a, b, c, d, e⟩ := h
  refine ⟨⟨?_, ?_, c, d, e⟩, ?_, ?_, ?_, ?_, fun h => by rw [hc] at h; cases h⟩ <;> simp only [RS.put, List.length_append, List.length_singleton] <;> omega
theorem Then13.full {s : RS} {j room : Nat} (x : Int) (h : Sum13 s j) (hc : s.closed = false) (hq : s.q ≠ []) : Then13 s (s.drop.put x) j room := by
  obtain ⟨a, b, c, d, e⟩ := h
  have := List.length_pos_iff.2 hq
  refine ⟨⟨?_, ?_, ?_, ?_, ?_⟩, ?_, ?_, ?_, ?_, fun h => by rw [hc] at h; cases h⟩ <;> simp only [RS.put, RS.drop, List.length_append, List.length_singleton, List.length_tail] <;> omega
theorem Then13.pop {s : RS} {j room : Nat} (h : Sum13 s j) (hq : s.q ≠ []) : Then13 s s.pop j room := by
  obtain ⟨a, b, c, d, e⟩ := h
  have := List.length_pos_iff.2 hq
  refine ⟨⟨?_, ?_, ?_, ?_, ?_⟩, ?_, ?_, ?_, ?_, fun _ => rfl⟩ <;> simp only [RS.pop, List.length_tail] <;> omega
theorem Then13.drain {s : RS} {j room : Nat} (h : Sum13 s j) : Then13 s { s with q := [], cdrain := s.cdrain + s.q.length } j room := by
  obtain ⟨a, b, c, d, e⟩ := h
  refine ⟨⟨?_, ?_, ?_, ?_, ?_⟩, ?_, ?_, ?_, ?_, fun _ => rfl⟩ <;> simp only [List.length_nil] <;> omega
/-- The counts that were, kept in a block of their own, ahead of an act. -/
def Cop13 (R A B : Nat) (s : RS) (w W' : World) : Prop :=
  ∃ W, Away (Two2 R A) W W' ∧ W.heap[B]? = some (.cells #[.int .i64 s.cin, .int .i64 s.cout, .int .i64 s.cdrop, .int .i64 s.cdrain] 58 (0, 0)) ∧ More w W ∧ R < B ∧ A < B
theorem Cop13.away {R A B : Nat} {s : RS} {w W' W'' : World} (h : Cop13 R A B s w W') (a : Away (Two2 R A) W' W'') : Cop13 R A B s w W'' := by
  obtain ⟨W, h1, h2⟩ := h
  exact ⟨W, h1.trans a, h2⟩
theorem Cop13.blk {R A B : Nat} {s : RS} {w W' : World} (h : Cop13 R A B s w W') : W'.heap[B]? = some (.cells #[.int .i64 s.cin, .int .i64 s.cout, .int .i64 s.cdrop, .int .i64 s.cdrain] 58 (0, 0)) := by
  obtain ⟨W, h1, h2, _, h3, h4⟩ := h
  exact h1.blk h2 (by rintro (e | e) <;> omega)
theorem Cop13.more {R A B : Nat} {s : RS} {w W' : World} (h : Cop13 R A B s w W') (hR : w.heap.size ≤ R) (hA : w.heap.size ≤ A) : More w W' := by
  obtain ⟨W, h1, _, h3, _⟩ := h
  exact Away.to_more h3 h1 (by rintro k (rfl | rfl) <;> assumption)
end Go.Proofs.Ytiifoobkmojdcaa
