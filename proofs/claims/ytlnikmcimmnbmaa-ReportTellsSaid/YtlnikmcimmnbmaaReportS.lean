/- Reports: facts that the laws ask. -/
import Derived.Test.YtlnikmcimmnbmaaReportC
namespace Go.Proofs.Ytlnikmcimmnbmaa
set_option linter.unusedSimpArgs false
set_option linter.unusedVariables false
open Go.RowKit
set_option maxRecDepth 100000

theorem rep_cells {w : World} {cs : Array Value} {r : Rep} (h : RRep w cs.toList r) : ∃ oa cap, cs = #[.bool r.snd, .int .u32 r.src, .int .u32 r.inf.sec, .int .u32 r.inf.frac, .int .u32 r.inf.stamp, .int .u32 r.inf.pkts, .int .u32 r.inf.octs, .slice oa r.bl.length cap] ∧ SlP 7 RBlk w (.slice oa r.bl.length cap) r.bl ∧ RepOK r := by
  obtain ⟨vb, h1, h2, h3⟩ := h
  have H := h2
  obtain ⟨oa, cap, rfl, _⟩ := h2
  refine ⟨oa, cap, ?_, H, h3⟩
  rw [← Array.toArray_toList (xs := cs), h1]
  rfl
theorem chunk_cells {w : World} {cs : Array Value} {c : Chunk} (h : RChunk w cs.toList c) (hl : cs.size = 3) : ∃ oa cap, cs = #[.int .u8 c.1, .int .u8 c.2.1, .slice oa c.2.2.1.length cap] ∧ SlI .u8 w (.slice oa c.2.2.1.length cap) c.2.2.1 ∧ ChunkOK c := by
  obtain ⟨vb, h1, h2, h3⟩ := chunk_of h (by simpa using hl)
  have H := h2
  obtain ⟨oa, cap, rfl, _⟩ := h2
  refine ⟨oa, cap, ?_, H, h3⟩
  rw [← Array.toArray_toList (xs := cs), h1]
theorem writeR_ok {r : Rep} (hk : RepOK r) : ChunkOK (writeR r).1 := by
  cases h : rightR r with
  | false => rw [writeR_no h]; exact ⟨by decide, by decide, byt_nil⟩
  | true =>
    have hr := writeR_right h
    rw [rightB_iff] at hr
    rw [writeR_yes h] at hr ⊢
    have hbys : ∀ x s, 0 ≤ s ∧ s ≤ 8 → Byt (bysA x s) := fun x s hs => by rw [bysA_pos x s hs]; exact Byt_bys _ _
    refine ⟨⟨by simp only; omega, by have := hr.1; simp only at this ⊢; omega⟩, ?_, ?_⟩
    · cases r.snd <;> simp
    · have h4 : ∀ x, Byt (bysA x 4) := fun x => hbys x 4 (by decide)
      have hf : ∀ l : List Blk, Byt (flR l) := by
        intro l
        induction l with
        | nil => exact byt_nil
        | cons b l ih =>
          rw [flR_cons]
          refine byt_app ?_ ih
          unfold blkB
          exact byt_app (h4 _) (byt_app (hbys _ _ (by decide)) (byt_app (hbys _ _ (by decide)) (byt_app (h4 _) (byt_app (h4 _) (byt_app (h4 _) (h4 _))))))
      show Byt (repB r)
      unfold repB headB
      refine byt_app (byt_app (h4 _) ?_) (hf _)
      cases r.snd with
      | false => exact byt_nil
      | true => exact byt_app (h4 _) (byt_app (h4 _) (byt_app (h4 _) (byt_app (h4 _) (h4 _))))
theorem writeR_small {r : Rep} : (writeR r).1.2.2.1.length ≤ 1000000 := by
  cases h : rightR r with
  | false => rw [writeR_no h]; simp
  | true =>
    have hr := writeR_right h
    rw [rightB_iff] at hr
    omega
end Go.Proofs.Ytlnikmcimmnbmaa
