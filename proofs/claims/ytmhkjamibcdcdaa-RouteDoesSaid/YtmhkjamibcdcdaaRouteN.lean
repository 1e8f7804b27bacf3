/- The document's table of package route: Source. -/
import Derived.Test.YtmhkjamibcdcdaaRouteL
namespace Go.Proofs.Ytmhkjamibcdcdaa
open Go.RowKit
set_option maxRecDepth 100000

def rSrc (r : RS) (k : Og) : Int × Bool := if (0 ≤ k.1 ∧ k.1 < 3) ∧ (0 ≤ k.2 ∧ k.2 < 3) ∧ r.pb k.1.toNat = true then (r.sr k.1.toNat k.2.toNat, true) else (0, false)
set_option maxHeartbeats 2000000 in
theorem RSource {w : World} {R : Nat} {r : RS} (h : RefAt w R r) (k1 k2 : Int) :
    Calls Try.prog 46 #[.pointer (some ⟨R, 0, none⟩), .agg #[.int .i64 k1, .int .i64 k2]] w fun e w' => e = .returned (.tuple #[.int .u32 (rSrc r (k1, k2)).1, .bool (rSrc r (k1, k2)).2]) ∧ More w w' := by
  by_cases h1 : 0 ≤ k1 ∧ k1 < 3
  · by_cases h2 : 0 ≤ k2 ∧ k2 < 3
    · obtain ⟨p, rfl⟩ : ∃ p : Nat, k1 = p := ⟨k1.toNat, by omega⟩
      obtain ⟨l, rfl⟩ : ∃ l : Nat, k2 = l := ⟨k2.toNat, by omega⟩
      have hp : p < 3 := by omega
      have hl : l < 3 := by omega
      have g := h.more (More.alloc w (.cells #[.int .i64 (p : Int), .int .i64 (l : Int)] 94))
      have c0 := fun n => blk_cell (blk_more (More.drewN _ n) g) p (RC_pb r p hp)
      have c00 := blk_cell g p (RC_pb r p hp)
      have c1 := fun n => blk_cell (blk_more (More.drewN _ n) g) (3 + p * 3 + l) (RC_sr r p l hp hl)
      have c11 := blk_cell g (3 + p * 3 + l) (RC_sr r p l hp hl)
      have l1 : ¬ (p : Int) < 0 := by omega
      have l2 : ¬ (2 : Int) < (p : Int) := by omega
      have l3 : ¬ (l : Int) < 0 := by omega
      have l4 : ¬ (2 : Int) < (l : Int) := by omega
      have q1 := decide_eq_false l1
      have q2 := decide_eq_false l2
      have q3 := decide_eq_false l3
      have q4 := decide_eq_false l4
      have l5 : (p : Int) < 3 := by omega
      have l6 : (l : Int) < 3 := by omega
      cases hb : r.pb p with
      | false =>
        have e : rSrc r ((p : Int), (l : Int)) = (0, false) := by
          unfold rSrc
          simp [hb]
        simp only [hb] at c0 c00
        clear g h1 h2 c1 c11
        rw [e]
        clear e h
        go_enter Try.func46, Try.ntmps46
        go_wp2
        refine wp_region_quiet_lit (by kernel_rfl) (by kernel_rfl) ?_
        repeat (go_big_quiet_step (fail))
        refine wpQuiet_nil ?_
        intro _ hw'
        obtain ⟨nq, rfl⟩ := hw'
        go_wp2
        go_ret2
        exact ⟨rfl, (More.alloc _ _).dr _⟩
      | true =>
        have e : rSrc r ((p : Int), (l : Int)) = (r.sr p l, true) := by
          unfold rSrc
          rw [if_pos ⟨h1, h2, by simpa using hb⟩]
          rfl
        simp only [hb] at c0 c00
        clear g h1 h2
        rw [e]
        clear e h
        go_enter Try.func46, Try.ntmps46
        go_wp2
        refine wp_region_quiet_lit (by kernel_rfl) (by kernel_rfl) ?_
        repeat (go_big_quiet_step (fail))
        refine wpQuiet_nil ?_
        intro _ hw'
        obtain ⟨nq, rfl⟩ := hw'
        go_wp2
        refine wp_region_quiet_lit (by kernel_rfl) (by kernel_rfl) ?_
        repeat (go_big_quiet_step (fail))
        refine wpQuiet_nil ?_
        intro _ hw'
        obtain ⟨nq2, rfl⟩ := hw'
        go_wp2
        go_ret2
        exact ⟨rfl, ((More.alloc _ _).dr _).dr _⟩
    · have e : rSrc r (k1, k2) = (0, false) := by
        unfold rSrc
        rw [if_neg (fun g => h2 g.2.1)]
      have l1 : ¬ k1 < 0 := by omega
      have l2 : ¬ (2 : Int) < k1 := by omega
      have q1 := decide_eq_false l1
      have q2 := decide_eq_false l2
      have hw : k2 < 0 ∨ (¬ k2 < 0 ∧ 2 < k2) := by omega
      rcases hw with g1 | ⟨g1, g2⟩
      · have q3 := decide_eq_true g1
        rw [e]
        clear e h
        go_enter Try.func46, Try.ntmps46
        go_wp2
        refine wp_region_quiet_lit (by kernel_rfl) (by kernel_rfl) ?_
        repeat (go_big_quiet_step (fail))
        refine wpQuiet_nil ?_
        intro _ hw'
        obtain ⟨nq, rfl⟩ := hw'
        go_wp2
        go_ret2
        exact ⟨rfl, (More.alloc _ _).dr _⟩
      · have q3 := decide_eq_false g1
        have q4 := decide_eq_true g2
        rw [e]
        clear e h
        go_enter Try.func46, Try.ntmps46
        go_wp2
        refine wp_region_quiet_lit (by kernel_rfl) (by kernel_rfl) ?_
        repeat (go_big_quiet_step (fail))
        refine wpQuiet_nil ?_
        intro _ hw'
        obtain ⟨nq, rfl⟩ := hw'
        go_wp2
        go_ret2
        exact ⟨rfl, (More.alloc _ _).dr _⟩
  · have e : rSrc r (k1, k2) = (0, false) := by
      unfold rSrc
      rw [if_neg (fun g => h1 g.1)]
    have hw : k1 < 0 ∨ (¬ k1 < 0 ∧ 2 < k1) := by omega
    rcases hw with g1 | ⟨g1, g2⟩
    · have q3 := decide_eq_true g1
      rw [e]
      clear e h
      go_enter Try.func46, Try.ntmps46
      go_wp2
      refine wp_region_quiet_lit (by kernel_rfl) (by kernel_rfl) ?_
      repeat (go_big_quiet_step (fail))
      refine wpQuiet_nil ?_
      intro _ hw'
      obtain ⟨nq, rfl⟩ := hw'
      go_wp2
      go_ret2
      exact ⟨rfl, (More.alloc _ _).dr _⟩
    · have q3 := decide_eq_false g1
      have q4 := decide_eq_true g2
      rw [e]
      clear e h
      go_enter Try.func46, Try.ntmps46
      go_wp2
      refine wp_region_quiet_lit (by kernel_rfl) (by kernel_rfl) ?_
      repeat (go_big_quiet_step (fail))
      refine wpQuiet_nil ?_
      intro _ hw'
      obtain ⟨nq, rfl⟩ := hw'
      go_wp2
      go_ret2
      exact ⟨rfl, (More.alloc _ _).dr _⟩
end Go.Proofs.Ytmhkjamibcdcdaa
