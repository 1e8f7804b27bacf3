/- What ReportCount asks, plain: of a body that is cut, padded, or has another count. -/
import Derived.Test.YtaobhpaabnljpaaReportH
namespace Go.Proofs.Ytaobhpaabnljpaa
open Go.RowKit
set_option maxRecDepth 100000

theorem count_len {r : Rep} (h : rightR r = true) : (repB r).length = 4 + (if r.snd then 20 else 0) + 24 * r.bl.length ∧ r.bl.length ≤ 8 ∧ (repB r).length ≤ 196 := by
  obtain ⟨h1, _, h3⟩ := (rightR_iff r).1 h
  have hl := repB_len r
  have hw := writeR_right h
  rw [writeR_yes h, rightB_iff] at hw
  simp only at hw
  refine ⟨?_, by omega, hw.2.2⟩
  cases hs : r.snd with
  | true => rw [hs] at hl; simp at hl ⊢; omega
  | false => rw [hs] at hl; simp at hl ⊢; omega
theorem count_ty (r : Rep) : (if r.snd then (200 : Int) else 201) = 200 ∨ (if r.snd then (200 : Int) else 201) = 201 := by cases r.snd <;> simp
theorem count_need (r : Rep) (k : Int) (B : List Int) : needR (k, (if r.snd then (200 : Int) else 201), B, ()) = 4 + (if r.snd then 20 else 0) + 24 * k.toNat := by
  unfold needR
  cases r.snd <;> simp
theorem count_cut {r : Rep} (h : rightR r = true) : (readR ((r.bl.length : Int), (if r.snd then 200 else 201), (repB r).take ((repB r).length - 4), ())).2 = 3 := by
  obtain ⟨h1, h2, h3⟩ := count_len h
  have hn : ((repB r).take ((repB r).length - 4)).length = (repB r).length - 4 := by rw [List.length_take]; omega
  have hb : rightB ((r.bl.length : Int), (if r.snd then 200 else 201), (repB r).take ((repB r).length - 4), ()) = true := by
    rw [rightB_iff]; simp only; rw [hn]
    cases hs : r.snd with
    | true => rw [hs] at h1; simp at h1; omega
    | false => rw [hs] at h1; simp at h1; omega
  rw [readR_end _ hb (count_ty r), count_need]
  simp only
  rw [hn, if_pos]
  rw [Int.toNat_natCast]; omega
theorem count_pad {r : Rep} (h : rightR r = true) : (readR ((r.bl.length : Int), (if r.snd then 200 else 201), repB r ++ [0, 0, 0, 0], ())).2 = 4 ∨ 196 < (repB r ++ [0, 0, 0, 0]).length := by
  obtain ⟨h1, h2, h3⟩ := count_len h
  have hn : (repB r ++ [0, 0, 0, 0]).length = (repB r).length + 4 := by simp
  rw [hn]
  by_cases hm : 196 < (repB r).length + 4
  · exact Or.inr hm
  left
  have hb : rightB ((r.bl.length : Int), (if r.snd then 200 else 201), repB r ++ [0, 0, 0, 0], ()) = true := by
    rw [rightB_iff]; simp only; rw [hn]
    cases hs : r.snd with
    | true => rw [hs] at h1; simp at h1; omega
    | false => rw [hs] at h1; simp at h1; omega
  rw [readR_end _ hb (count_ty r), count_need]
  simp only
  rw [hn, if_neg, if_pos]
  · rw [Int.toNat_natCast]; omega
  · rw [Int.toNat_natCast]; omega
theorem count_other {r : Rep} (h : rightR r = true) (k : Int) (hk : 0 ≤ k ∧ k ≤ 31) : (readR (k, (if r.snd then 200 else 201), repB r, ())).2 = if (r.bl.length : Int) < k then 3 else if k < (r.bl.length : Int) then 4 else 0 := by
  obtain ⟨h1, h2, h3⟩ := count_len h
  have hb : rightB (k, (if r.snd then 200 else 201), repB r, ()) = true := by
    rw [rightB_iff]; simp only
    cases hs : r.snd with
    | true => rw [hs] at h1; simp at h1; omega
    | false => rw [hs] at h1; simp at h1; omega
  rw [readR_end _ hb (count_ty r), count_need]
  simp only
  have e : ∀ a b : Nat, ((4 + a + 24 * r.bl.length < 4 + a + 24 * b) ↔ r.bl.length < b) := fun a b => by omega
  rw [h1]
  by_cases c1 : (r.bl.length : Int) < k
  · rw [if_pos c1, if_pos (by omega)]
  by_cases c2 : k < (r.bl.length : Int)
  · rw [if_neg c1, if_pos c2, if_neg (by omega), if_pos (by omega)]
  · rw [if_neg c1, if_neg c2, if_neg (by omega), if_neg (by omega)]
theorem rep_cells {w : World} {cs : Array Value} {r : Rep} (h : RRep w cs.toList r) : ∃ oa cap, cs = #[.bool r.snd, .int .u32 r.src, .int .u32 r.inf.sec, .int .u32 r.inf.frac, .int .u32 r.inf.stamp, .int .u32 r.inf.pkts, .int .u32 r.inf.octs, .slice oa r.bl.length cap] ∧ SlP 7 RBlk w (.slice oa r.bl.length cap) r.bl ∧ RepOK r := by
  obtain ⟨vb, h1, h2, h3⟩ := h
  have H := h2
  obtain ⟨oa, cap, rfl, _⟩ := h2
  refine ⟨oa, cap, ?_, H, h3⟩
  rw [← Array.toArray_toList (xs := cs), h1]
  rfl
theorem chunk_cells {w : World} {cs : Array Value} {c : Chunk} (h : RChunk w cs.toList c) (hl : cs.size = 3) : ∃ oa cap, cs = #[.int .u8 c.1, .int .u8 c.2.1, .slice oa c.2.2.1.length cap] ∧ SlI .u8 w (.slice oa c.2.2.1.length cap) c.2.2.1 ∧ ChunkOK c := by
  obtain ⟨vb, h1, h2, h3⟩ := chunk_of h (by simpa using hl)
  have H := h2
  obtain ⟨oa, cap, rfl, _⟩ := h2
  refine ⟨oa, cap, ?_, H, h3⟩
  rw [← Array.toArray_toList (xs := cs), h1]
theorem writeR_ok {r : Rep} (hk : RepOK r) : ChunkOK (writeR r).1 := by
  cases h : rightR r with
  | false => rw [writeR_no h]; exact ⟨by decide, by decide, byt_nil⟩
  | true =>
    have hr := writeR_right h
    rw [rightB_iff] at hr
    rw [writeR_yes h] at hr ⊢
    have hbys : ∀ x s, 0 ≤ s ∧ s ≤ 8 → Byt (bysA x s) := fun x s hs => by rw [bysA_pos x s hs]; exact Byt_bys _ _
    refine ⟨⟨by simp only; omega, by have := hr.1; simp only at this ⊢; omega⟩, ?_, ?_⟩
    · cases r.snd <;> simp
    · have h4 : ∀ x, Byt (bysA x 4) := fun x => hbys x 4 (by decide)
      have hf : ∀ l : List Blk, Byt (flR l) := by
        intro l
        induction l with
        | nil => exact byt_nil
        | cons b l ih =>
          rw [flR_cons]
          refine byt_app ?_ ih
          unfold blkB
          exact byt_app (h4 _) (byt_app (hbys _ _ (by decide)) (byt_app (hbys _ _ (by decide)) (byt_app (h4 _) (byt_app (h4 _) (byt_app (h4 _) (h4 _))))))
      show Byt (repB r)
      unfold repB headB
      refine byt_app (byt_app (h4 _) ?_) (hf _)
      cases r.snd with
      | false => exact byt_nil
      | true => exact byt_app (h4 _) (byt_app (h4 _) (byt_app (h4 _) (byt_app (h4 _) (h4 _))))
theorem writeR_small {r : Rep} : (writeR r).1.2.2.1.length ≤ 1000000 := by
  cases h : rightR r with
  | false => rw [writeR_no h]; simp
  | true =>
    have hr := writeR_right h
    rw [rightB_iff] at hr
    omega
end Go.Proofs.Ytaobhpaabnljpaa
