/- Small lemmas for the frame of a law's proof: what an argument that came in reads as. -/
import Derived.Test.YtlnikmcimmnbmaaSliceA
import Derived.ProofKit
import Derived.OpenShut
import Derived.Lib.SmallJoins
namespace Go.Proofs.Ytlnikmcimmnbmaa
set_option linter.unusedSimpArgs false
set_option linter.unusedVariables false
open Go.ChangeShapes Go.WideShapes Go.ChangeAt Go.RowKit

theorem cell_lt {w : World} {a : Addr} {v : Value} (h : w.cell? a = some v) : a.spot = none ∧ a.block < w.heap.size := by
  unfold World.cell? at h
  split at h
  · rename_i c t f hb
    split at h
    · cases h
    · rename_i hs
      refine ⟨by simpa using hs, ?_⟩
      rcases Nat.lt_or_ge a.block w.heap.size with h' | h'
      · exact h'
      · simp [Array.getElem?_eq_none h'] at hb
  · cases h

/-- A slice of integers that came in, all of its cells. -/
theorem SlI.of_row {k : IntKind} {w : World} {a : Addr} {len cap : Nat} {zs : List Int} (hl : len ≤ cap) (hm : cap ≤ maxLen) (hz : zs.length = cap)
    (hc : ∀ i, i < zs.length → w.cell? (a.add i) = some (.int k (zs.getD i 0))) : SlI k w (.slice (some a) len cap) (zs.take len) := by
  have hlen : (zs.take len).length = len := by simp; omega
  refine ⟨some a, cap, by rw [hlen], by rw [hlen]; unfold maxLen at hm; omega, fun i hi => ?_, by rw [hlen]; exact hl, hm, fun h => by cases h⟩
  rw [hlen] at hi
  have h0 := cell_lt (hc 0 (by omega))
  have ha : a.add 0 = a := by simp [Addr.add]
  rw [ha] at h0
  obtain ⟨b, off, sp⟩ := a
  simp only at h0
  obtain ⟨rfl, hb⟩ := h0
  refine ⟨b, off, rfl, hb, ?_⟩
  have := hc i (by omega)
  have ea : (⟨b, off, none⟩ : Addr).add i = ⟨b, off + i, none⟩ := by
    unfold Addr.add; split
    · rename_i h0; subst h0; rfl
    · rfl
  rw [ea] at this
  rw [this, List.getD_eq_getElem?_getD, List.getD_eq_getElem?_getD, List.getElem?_take, if_pos hi]

theorem Byt.of_wf {l : List Int} (h : ∀ n ∈ l, (Lit.int .u8 n).wf = true) : Byt l := by
  intro i
  rw [List.getD_eq_getElem?_getD]
  by_cases hi : i < l.length
  · rw [List.getElem?_eq_getElem hi, Option.getD_some]
    exact bounds_u8 (h _ (List.getElem_mem hi))
  · rw [List.getElem?_eq_none (by omega)]; simp

end Go.Proofs.Ytlnikmcimmnbmaa
