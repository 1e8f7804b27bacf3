/- Chunks: awake, and the law ChunkBack. -/
import Derived.Test.YtlnikmcimmnbmaaChunkF
namespace Go.Proofs.Ytlnikmcimmnbmaa
set_option linter.unusedSimpArgs false
set_option linter.unusedVariables false
open Go.RowKit
set_option maxRecDepth 100000

/-- A slice literal of one struct. -/
theorem SlP.one {α : Type} {n : Nat} {R : Reader α} {w : World} {cs : Array Value} {t B : Nat} {y : α} (hn : cs.size = n) (h0 : 0 < n) (hB : B = w.heap.size) (h : R (w.alloc (.cells cs t)) cs.toList y) :
    SlP n R (w.alloc (.cells cs t)) (.slice (some ⟨B, 0, none⟩) 1 1) [y] := by
  subst hB hn
  refine ⟨_, 1, rfl, by simp, fun i hi => ?_, by simp, by unfold maxLen; omega, fun h => by cases h⟩
  simp at hi
  subst hi
  refine ⟨w.heap.size, 0, cs.toList, rfl, by simp, by simp, fun j hj => ?_, h⟩
  rw [Nat.zero_mul, Nat.add_zero, Nat.zero_add, cell_of_row _ w.heap.size j cs t (0, 0) (blk_new w _)]
  simp
def awC : Chunk := (1, 200, [1, 2, 3, 4], ())
theorem awC_ok : ChunkOK awC := ⟨by decide, by decide, Byt.of_all (by decide)⟩
end Go.Proofs.Ytlnikmcimmnbmaa
