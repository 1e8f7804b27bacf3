/- Package jitter: plain laws of a buffer. -/
import Derived.Test.YtlnikmcimmnbmaaJitK
namespace Go.Proofs.Ytlnikmcimmnbmaa
set_option linter.unusedSimpArgs false
set_option linter.unusedVariables false
open Go.RowKit Go.Lib
set_option maxRecDepth 100000

theorem insJ_len (L : List Hd) (h : Hd) : (insJ L h).length = L.length + 1 := by
  unfold insJ
  have := atJ_le L h.1
  rw [List.length_append, List.length_cons, List.length_take, List.length_drop]; omega
theorem insJ_mem (L : List Hd) (h k : Hd) : k ∈ insJ L h ↔ k = h ∨ k ∈ L := by
  unfold insJ
  rw [List.mem_append, List.mem_cons]
  conv => rhs; rw [← List.take_append_drop (atJ L h.1) L, List.mem_append]
  constructor
  · rintro (a | a | a)
    · exact Or.inr (Or.inl a)
    · exact Or.inl a
    · exact Or.inr (Or.inr a)
  · rintro (a | a | a)
    · exact Or.inr (Or.inl a)
    · exact Or.inl a
    · exact Or.inr (Or.inr a)
theorem insJ_cons (k : Hd) (L : List Hd) (h : Hd) : insJ (k :: L) h = if h.1 < k.1 then h :: k :: L else k :: insJ L h := by
  unfold insJ atJ
  rw [List.findIdx_cons]
  by_cases e : h.1 < k.1
  · simp [e]
  · simp [e]
theorem insJ_rise : ∀ (L : List Hd) (h : Hd), (L.Pairwise fun a c => a.1 < c.1) → (∀ k ∈ L, ¬ k.1 = h.1) → (insJ L h).Pairwise fun a c => a.1 < c.1
  | [], h, _, _ => by simp [insJ, atJ]
  | k :: L, h, hp, hn => by
    rw [List.pairwise_cons] at hp
    rw [insJ_cons]
    by_cases e : h.1 < k.1
    · rw [if_pos e, List.pairwise_cons, List.pairwise_cons]
      refine ⟨fun c hc => ?_, hp.1, hp.2⟩
      rcases List.mem_cons.1 hc with rfl | hc
      · exact e
      · exact Int.lt_trans e (hp.1 c hc)
    · rw [if_neg e, List.pairwise_cons]
      have := hn k List.mem_cons_self
      refine ⟨fun c hc => ?_, insJ_rise L h hp.2 fun c hc => hn c (List.mem_cons_of_mem _ hc)⟩
      rcases (insJ_mem L h c).1 hc with rfl | hc
      · omega
      · exact hp.1 c hc
theorem sameJ_iff (b : Jb) (n : Int) : sameJ b n = false ↔ ∀ k ∈ b.holds, ¬ k.1 = n := by
  unfold sameJ
  rw [List.any_eq_false]
  constructor
  · intro h k hk e; exact h k hk (by simpa using e)
  · intro h k hk e; exact h k hk (by simpa using e)
/-- What a push does. -/
theorem push_cases (b : Jb) (n now x : Int) : ((pushJ b n now x).1 = b ∧ (pushJ b n now x).2 ≠ 0) ∨
    (pushJ b n now x = ({ b with holds := insJ b.holds (n, now, x) }, 0) ∧ sameJ b n = false ∧ (b.begun = true → b.hi < n) ∧ (b.holds.length : Int) < b.room) := by
  unfold pushJ
  by_cases h1 : (sameJ b n || (b.begun && know b.hi b.bits n)) = true
  · rw [if_pos h1]; exact Or.inl ⟨rfl, show (10 : Int) ≠ 0 by decide⟩
  · rw [if_neg h1]
    by_cases h2 : (b.begun && decide (n < b.hi + 1)) = true
    · rw [if_pos h2]; exact Or.inl ⟨rfl, show (9 : Int) ≠ 0 by decide⟩
    · rw [if_neg h2]
      by_cases h3 : b.room ≤ b.holds.length
      · rw [if_pos h3]; exact Or.inl ⟨rfl, show (8 : Int) ≠ 0 by decide⟩
      · rw [if_neg h3]
        refine Or.inr ⟨rfl, ?_, ?_, by omega⟩
        · cases hs : sameJ b n with
          | false => rfl
          | true => rw [hs] at h1; simp at h1
        · intro hb
          rw [hb] at h2
          simp at h2
          omega
theorem push_ok {b : Jb} (ok : JOK b) {n now x : Int} (hn : Num60 n) (ht : Num60 now) : JOK (pushJ b n now x).1 := by
  rcases push_cases b n now x with ⟨h, _⟩ | ⟨h, h1, h2, h3⟩
  · rw [h]; exact ok
  · rw [h]
    refine ⟨ok.room, ok.wait, ?_, fun k hk => ?_, insJ_rise _ _ ok.rise ((sameJ_iff b n).1 h1), ok.hi, ok.bits, fun hb k hk => ?_⟩
    · show ((insJ b.holds (n, now, x)).length : Int) ≤ b.room
      rw [insJ_len]; omega
    · rcases (insJ_mem _ _ k).1 hk with rfl | hk
      · exact ⟨hn, ht⟩
      · exact ok.nums k hk
    · rcases (insJ_mem _ _ k).1 hk with rfl | hk
      · exact h2 hb
      · exact ok.over hb k hk
theorem least_ok {b : Jb} (ok : JOK b) {h : Hd} {T : List Hd} (hb : b.holds = h :: T) : JOK (leastJ b) := by
  have hh := ok.nums h (by rw [hb]; exact List.mem_cons_self)
  have hr := ok.rise
  rw [hb, List.pairwise_cons] at hr
  have e : leastJ b = { b with holds := T, begun := true, hi := (winJ b h.1).1, bits := (winJ b h.1).2 } := by unfold leastJ; rw [hb]
  have hw : (winJ b h.1).1 = h.1 := by
    unfold winJ
    split
    · rename_i hbg
      rw [mark_high]
      have := ok.over hbg h (by rw [hb]; exact List.mem_cons_self)
      omega
    · rfl
  rw [e]
  refine ⟨ok.room, ok.wait, ?_, fun k hk => ok.nums k (by rw [hb]; exact List.mem_cons_of_mem _ hk), hr.2, ?_, ?_, fun _ k hk => ?_⟩
  · have := ok.fits
    rw [hb, List.length_cons] at this
    show ((T.length : Nat) : Int) ≤ b.room
    omega
  · show Num60 (winJ b h.1).1
    rw [hw]; exact hh.1
  · show U64 (winJ b h.1).2
    unfold winJ
    split
    · exact mark_U64 _ _ _ ok.bits
    · exact (show U64 1 from ⟨by decide, by decide⟩)
  · show (winJ b h.1).1 < k.1
    rw [hw]; exact hr.1 k hk
end Go.Proofs.Ytlnikmcimmnbmaa
