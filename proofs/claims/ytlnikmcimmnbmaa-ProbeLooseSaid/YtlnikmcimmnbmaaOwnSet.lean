/- A row of the call's own is written to. -/
import Derived.Test.YtlnikmcimmnbmaaSliceB
import Derived.Test.YtlnikmcimmnbmaaRegion
namespace Go.Proofs.Ytlnikmcimmnbmaa
set_option linter.unusedSimpArgs false
set_option linter.unusedVariables false
open Go.RowKit

theorem owns_set {w : World} {base e n : Nat} {xs : List Value} {g cap : Nat} (h : w.ownsRow base e 1 (.slice (some ⟨g, 0, none⟩) n cap) n xs) (i : Nat) (hi : i < n) :
    w.cell? ⟨g, i, none⟩ = xs[i]? ∧ w.frozen? ⟨g, i, none⟩ = false ∧ base ≤ g ∧ g < w.heap.size ∧ ∀ v, (w.setCell ⟨g, i, none⟩ v).ownsRow base e 1 (.slice (some ⟨g, 0, none⟩) n cap) n (xs.set i v) := by
  obtain ⟨h1, h2⟩ := h
  rcases h2 with ⟨h, _⟩ | ⟨g', cap', cur, e1, hb, hg, hc, hm, hs, ht⟩
  · cases h
  · cases e1
    rw [Nat.mul_one] at h1 hs ht
    have hil : i < cur.size := by omega
    refine ⟨?_, blk_free hg i, hb, blk_lt hg, fun v => ⟨by simpa using h1, Or.inr ⟨g, cap, cur.setIfInBounds i v, rfl, hb, blk_set hg i v, hc, hm, by simpa using hs, ?_⟩⟩⟩
    · rw [blk_cell hg i (v := cur[i]) (by simp [hil]), ← ht, List.getElem?_take, if_pos hi]
      simp [hil]
    · rw [Nat.mul_one, ← ht, Array.toList_setIfInBounds, List.take_set]
end Go.Proofs.Ytlnikmcimmnbmaa
