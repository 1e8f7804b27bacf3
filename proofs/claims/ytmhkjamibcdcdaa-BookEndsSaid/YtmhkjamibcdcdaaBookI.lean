/- Books: one subscriber's entries. -/
import Derived.Test.YtmhkjamibcdcdaaBookG
namespace Go.Proofs.Ytmhkjamibcdcdaa
open Go.RowKit
set_option maxRecDepth 100000

def flt (m : Bk) (sub : Int) : Bk := m.filter fun p => decide (p.1.1 = sub)
theorem mget_flt (m : Bk) (sub p : Int) : mget (flt m sub) (sub, p) = mget m (sub, p) := by
  unfold flt
  induction m with
  | nil => rfl
  | cons q l ih =>
    obtain ⟨⟨a, c⟩, g⟩ := q
    by_cases h : a = sub
    · subst h; simp [mget, ih]
    · simp only [List.filter_cons, decide_eq_true_eq, h, if_false]
      rw [ih]
      have : ¬ (sub, p) = (a, c) := fun e => h (by cases e; rfl)
      simp [mget, this]
theorem flt_put (m : Bk) (sub p v : Int) : flt (mput m (sub, p) v) sub = mput (flt m sub) (sub, p) v := by
  unfold flt
  induction m with
  | nil => simp [mput]
  | cons q l ih =>
    obtain ⟨⟨a, c⟩, g⟩ := q
    by_cases h : a = sub
    · subst h
      by_cases e : p = c
      · subst e; simp [mput]
      · have : ¬ (a, p) = (a, c) := fun h => e (by cases h; rfl)
        simp [mput, this, ih]
    · have : ¬ (sub, p) = (a, c) := fun e => h (by cases e; rfl)
      simp [mput, this, h, ih]
theorem flt_put_other (m : Bk) {a sub : Int} (p v : Int) (h : a ≠ sub) : flt (mput m (a, p) v) sub = flt m sub := by
  unfold flt
  induction m with
  | nil => simp [mput, h]
  | cons q l ih =>
    obtain ⟨⟨a', c⟩, g⟩ := q
    by_cases e : (a, p) = (a', c)
    · have ea : a = a' := (Prod.mk.inj e).1
      subst ea
      simp [mput, e, h]
    · unfold mput
      rw [if_neg e]
      simp only [List.filter_cons, ih]
theorem flt_end (m : Bk) (a f sub : Int) : flt (endM m a f) sub = endM (flt m sub) a f := by
  unfold flt endM
  rw [List.filter_map]
  congr 1
  refine List.filter_congr fun q _ => ?_
  simp only [Function.comp]
  split <;> rfl
theorem end_other (m : Bk) {a sub : Int} (f : Int) (h : a ≠ sub) : endM (flt m sub) a f = flt m sub := by
  unfold endM
  have : ∀ p ∈ flt m sub, (if p.1.1 = a ∧ p.2 = 0 then (p.1, f) else p) = p := fun p hp => by
    have := (List.mem_filter.1 hp).2
    simp only [decide_eq_true_eq] at this
    rw [if_neg (fun e => h (by rw [← e.1, this]))]
  calc (flt m sub).map (fun p => if p.1.1 = a ∧ p.2 = 0 then (p.1, f) else p) = (flt m sub).map id := List.map_congr_left this
    _ = flt m sub := by simp
/-- An act of the subscriber itself. -/
theorem flt_same (m : Bk) (d sub kb f : Int) : flt (actB m (d, (sub, kb), f)).1 sub = (actB (flt m sub) (d, (sub, kb), f)).1 := by
  unfold actB oweB settleB endB
  simp only [mget_flt]
  split
  · split
    · split
      · rfl
      · exact flt_put m sub kb 0
    · rfl
  · split
    · split
      · split
        · split
          · exact flt_put m sub kb f
          · rfl
        · rfl
      · rfl
    · split
      · split
        · exact flt_end m sub f sub
        · rfl
      · rfl
/-- An act of another one. -/
theorem flt_other (m : Bk) (d kb f : Int) {a sub : Int} (h : a ≠ sub) : flt (actB m (d, (a, kb), f)).1 sub = flt m sub := by
  unfold actB oweB settleB endB
  split
  · split
    · split
      · rfl
      · exact flt_put_other m kb 0 h
    · rfl
  · split
    · split
      · split
        · split
          · exact flt_put_other m kb f h
          · rfl
        · rfl
      · rfl
    · split
      · split
        · exact (flt_end m a f sub).trans (end_other m f h)
        · rfl
      · rfl
theorem mput_new_len {m : Bk} {k : Int × Int} (h : mget m k = none) (v : Int) : (mput m k v).length = m.length + 1 := by
  induction m with
  | nil => rfl
  | cons q l ih =>
    obtain ⟨a, b⟩ := q
    unfold mget at h
    by_cases e : k = a
    · rw [if_pos e] at h; cases h
    · rw [if_neg e] at h
      unfold mput
      rw [if_neg e]
      simp [ih h]
theorem mput_old_len {m : Bk} {k : Int × Int} (h : (mget m k).isSome = true) (v : Int) : (mput m k v).length = m.length := by
  induction m with
  | nil => simp [mget] at h
  | cons q l ih =>
    obtain ⟨a, b⟩ := q
    unfold mget at h
    unfold mput
    by_cases e : k = a
    · rw [if_pos e]; simp
    · rw [if_neg e] at h
      rw [if_neg e]
      simp [ih h]
/-- How many entries there are behind an act. -/
theorem act_len (m : Bk) (d sub kb f : Int) : (actB m (d, (sub, kb), f)).1.length = m.length + if d = 0 ∧ (actB m (d, (sub, kb), f)).2 = 0 then 1 else 0 := by
  unfold actB
  by_cases h0 : d = 0
  · simp only [h0, if_true, true_and]
    unfold oweB
    split
    · by_cases hs : (mget m (sub, kb)).isSome = true
      · simp [hs]
      · have hn : mget m (sub, kb) = none := by simpa using hs
        simp [hs, mput_new_len hn]
    · simp
  · simp only [h0, if_false, false_and]
    by_cases h1 : d = 1
    · simp only [h1, if_true]
      unfold settleB
      by_cases hf : 1 ≤ f ∧ f ≤ 8
      · simp only [hf, and_self, if_true]
        by_cases hs : (mget m (sub, kb)).isSome = true
        · simp only [hs, if_true]
          by_cases hz : (mget m (sub, kb)).getD 0 = 0
          · simp [hz, mput_old_len hs]
          · simp [hz]
        · simp [hs]
      · simp [hf]
    · simp only [h1, if_false]
      by_cases h2 : d = 2
      · simp only [h2, if_true]
        unfold endB
        split <;> simp [endM]
      · simp [h2]
/-- A subscriber's counts are those of its own entries; its pending ones, too. -/
theorem cntF_flt (m : Bk) (sub : Int) (f : Nat) : cntF sub f (flt m sub) = cntF sub f m := by
  unfold cntF flt
  rw [List.countP_filter]
  congr 2
  funext p
  by_cases h : p.1.1 = sub <;> simp [h]
theorem cntArr_flt (m : Bk) (sub : Int) : cntArr sub (flt m sub) = cntArr sub m := by unfold cntArr; simp only [cntF_flt]
theorem pendB_flt (m : Bk) (sub : Int) : pendB (flt m sub) sub = pendB m sub := by
  unfold pendB
  congr 1
  unfold pendOf flt
  rw [List.filterMap_filter]
  congr 1
  funext p
  by_cases h : p.1.1 = sub <;> simp [h]
theorem cnt_sum (m : Bk) (sub : Int) (h : ∀ p ∈ m, 0 ≤ p.2 ∧ p.2 ≤ 8) : cntF sub 0 m + cntF sub 1 m + cntF sub 2 m + cntF sub 3 m + cntF sub 4 m + cntF sub 5 m + cntF sub 6 m + cntF sub 7 m + cntF sub 8 m = ((flt m sub).length : Int) := by
  induction m with
  | nil => simp [cntF, flt]
  | cons p l ih =>
    have ih := ih (fun q hq => h q (List.mem_cons_of_mem _ hq))
    have hp := h p List.mem_cons_self
    have hc : ∀ f : Nat, cntF sub f (p :: l) = cntF sub f l + if p.1.1 = sub ∧ p.2 = (f : Int) then 1 else 0 := fun f => by
      unfold cntF
      rw [List.countP_cons]
      by_cases e : p.1.1 = sub ∧ p.2 = (f : Int) <;> simp [e]
    simp only [hc]
    by_cases e : p.1.1 = sub
    · have hl : ((flt (p :: l) sub).length : Int) = (flt l sub).length + 1 := by simp [flt, e]
      rw [hl]
      have : p.2 = 0 ∨ p.2 = 1 ∨ p.2 = 2 ∨ p.2 = 3 ∨ p.2 = 4 ∨ p.2 = 5 ∨ p.2 = 6 ∨ p.2 = 7 ∨ p.2 = 8 := by omega
      rcases this with g | g | g | g | g | g | g | g | g <;> simp [e, g] <;> omega
    · have hl : ((flt (p :: l) sub).length : Int) = (flt l sub).length := by simp [flt, e]
      rw [hl]
      simp [e]
      exact ih
theorem cnt_pend (m : Bk) (sub : Int) : cntF sub 0 m = ((pendB m sub).length : Int) := by
  unfold pendB
  rw [srt_len]
  unfold cntF pendOf
  rw [List.countP_eq_length_filter]
  induction m with
  | nil => rfl
  | cons p l ih =>
    by_cases e : p.1.1 = sub ∧ p.2 = 0
    · simp only [List.filter_cons, List.filterMap_cons]
      simp [e] at ih ⊢
      exact ih
    · have e' : ¬ (p.1.1 = sub ∧ p.2 = ((0 : Nat) : Int)) := by simpa using e
      simp only [List.filter_cons, List.filterMap_cons, decide_eq_true_eq, if_neg e, if_neg e']
      exact ih
theorem flt_len (m : Bk) (sub : Int) : (flt m sub).length ≤ m.length := List.length_filter_le _ _
/-- The nine counts, by names. -/
theorem nine (m : Bk) (sub : Int) (h : ∀ p ∈ m, 0 ≤ p.2 ∧ p.2 ≤ 8) (hl : m.length ≤ 1000000) : ∃ c0 c1 c2 c3 c4 c5 c6 c7 c8 : Int, cntArr sub m = #[.int .i64 c0, .int .i64 c1, .int .i64 c2, .int .i64 c3, .int .i64 c4, .int .i64 c5, .int .i64 c6, .int .i64 c7, .int .i64 c8] ∧
    [c0, c1, c2, c3, c4, c5, c6, c7, c8].sum = ((flt m sub).length : Int) ∧ c0 = ((pendB m sub).length : Int) ∧ ∀ x ∈ [c0, c1, c2, c3, c4, c5, c6, c7, c8], 0 ≤ x ∧ x ≤ 1000000 := by
  have hb := fun f => cntF_le sub f m
  refine ⟨_, _, _, _, _, _, _, _, _, rfl, ?_, cnt_pend m sub, ?_⟩
  · rw [← cnt_sum m sub h]
    simp only [List.sum_cons, List.sum_nil]
    omega
  · intro x hx
    simp only [List.mem_cons, List.not_mem_nil, or_false] at hx
    rcases hx with rfl | rfl | rfl | rfl | rfl | rfl | rfl | rfl | rfl <;> exact ⟨(hb _).1, Int.le_trans (hb _).2 (by omega)⟩
theorem psum_step (cs : List Int) (t : Nat) (h : t < cs.length) : (cs.take (t + 1)).sum = (cs.take t).sum + cs.getD t 0 := by
  rw [List.take_succ_eq_append_getElem h, List.sum_append]
  simp [h]
theorem psum_le (cs : List Int) (hb : ∀ x ∈ cs, 0 ≤ x ∧ x ≤ 1000000) : ∀ t, 0 ≤ (cs.take t).sum ∧ (cs.take t).sum ≤ t * 1000000 := by
  intro t
  induction t with
  | zero => simp
  | succ t ih =>
    by_cases h : t < cs.length
    · rw [psum_step cs t h]
      have hx : cs.getD t 0 = cs[t] := by simp [h]
      have := hb cs[t] (List.getElem_mem h)
      rw [hx]
      omega
    · rw [List.take_of_length_le (by omega)]
      rw [List.take_of_length_le (by omega)] at ih
      omega
theorem idx9 (c0 c1 c2 c3 c4 c5 c6 c7 c8 : Int) (t : Nat) (ht : t < 9) (w : World) : (Instr.index 67 (.agg #[.int .i64 c0, .int .i64 c1, .int .i64 c2, .int .i64 c3, .int .i64 c4, .int .i64 c5, .int .i64 c6, .int .i64 c7, .int .i64 c8]) (.int .i64 (t : Int))).run Try.prog w = .ok (.int .i64 ([c0, c1, c2, c3, c4, c5, c6, c7, c8].getD t 0)) w := by
  have : t = 0 ∨ t = 1 ∨ t = 2 ∨ t = 3 ∨ t = 4 ∨ t = 5 ∨ t = 6 ∨ t = 7 ∨ t = 8 := by omega
  rcases this with rfl | rfl | rfl | rfl | rfl | rfl | rfl | rfl | rfl
  all_goals first | rfl | simp [go_sem]
end Go.Proofs.Ytmhkjamibcdcdaa
