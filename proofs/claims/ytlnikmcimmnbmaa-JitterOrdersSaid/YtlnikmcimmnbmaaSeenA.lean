/- Contracts of package seen. -/
import Derived.Test.YtlnikmcimmnbmaaBitsD
import Derived.Test.YtlnikmcimmnbmaaPlainC
import Derived.Test.YtlnikmcimmnbmaaRegion
import Derived.Test.YtlnikmcimmnbmaaEqS
namespace Go.Proofs.Ytlnikmcimmnbmaa
set_option linter.unusedSimpArgs false
set_option linter.unusedVariables false
open Go.RowKit
set_option maxRecDepth 100000

theorem First_any (n : Int) (w : World) :
    Calls Try.prog 151 #[.int .i64 n] w fun e w' => e = .returned (.agg #[.int .i64 n, .int .u64 1]) ∧ More w w' := by
  go_enter Try.func151, Try.ntmps151
  go_wp2
  exact bodyPost_ret (v := .agg #[.int .i64 n, .int .u64 1]) (by simp [results, Try.results151, go_sem]) rfl ⟨rfl, (More.refl _).al _⟩

theorem Mark_far (g b n : Int) (hg : -2305843009213693952 ≤ g ∧ g ≤ 2305843009213693952) (hn : -2305843009213693952 ≤ n ∧ n ≤ 2305843009213693952) (hf : 63 < n - g) (w : World) :
    Calls Try.prog 147 #[.agg #[.int .i64 g, .int .u64 b], .int .i64 n] w fun e w' => e = .returned (.agg #[.int .i64 n, .int .u64 1]) ∧ More w w' := by
  obtain ⟨g1, g2⟩ := hg
  obtain ⟨n1, n2⟩ := hn
  go_enter Try.func147, Try.ntmps147
  go_wp2_with (go_at_call 151; refine (First_any n _).mono ?_; rintro e w1 ⟨rfl, hm1⟩; obtain ⟨hc1, hf1⟩ := hm1.rules)
  refine bodyPost_ret (v := .agg #[.int .i64 n, .int .u64 1]) (by simp [results, Try.results147, go_sem, hc1]) rfl ⟨rfl, ?_⟩
  exact ((((More.refl w).al _).al _ |>.trans hm1).st (by simp) _).st (by simp) _

theorem Mark_up (g b n : Int) (hg : -2305843009213693952 ≤ g ∧ g ≤ 2305843009213693952) (hn : -2305843009213693952 ≤ n ∧ n ≤ 2305843009213693952) (hf : n - g ≤ 63) (hf' : 0 < n - g) (w : World) :
    Calls Try.prog 147 #[.agg #[.int .i64 g, .int .u64 b], .int .i64 n] w fun e w' => e = .returned (.agg #[.int .i64 n, .int .u64 (bits .or .u64 (IntKind.u64.wrap (b * 2 ^ (n - g).toNat)) 1)]) ∧ More w w' := by
  obtain ⟨g1, g2⟩ := hg
  obtain ⟨n1, n2⟩ := hn
  go_enter Try.func147, Try.ntmps147
  go_wp2
  refine bodyPost_ret (v := .agg #[.int .i64 n, .int .u64 (bits .or .u64 (IntKind.u64.wrap (b * 2 ^ (n - g).toNat)) 1)]) (by simp [results, Try.results147, go_sem]) rfl ⟨rfl, ?_⟩
  exact ((More.refl w).al _).al _

theorem Mark_low (g b n : Int) (hg : -2305843009213693952 ≤ g ∧ g ≤ 2305843009213693952) (hn : -2305843009213693952 ≤ n ∧ n ≤ 2305843009213693952) (hf : n - g < -63) (w : World) :
    Calls Try.prog 147 #[.agg #[.int .i64 g, .int .u64 b], .int .i64 n] w fun e w' => e = .returned (.agg #[.int .i64 g, .int .u64 b]) ∧ More w w' := by
  obtain ⟨g1, g2⟩ := hg
  obtain ⟨n1, n2⟩ := hn
  go_enter Try.func147, Try.ntmps147
  go_wp2
  refine bodyPost_ret (v := .agg #[.int .i64 g, .int .u64 b]) (by simp [results, Try.results147, go_sem]) rfl ⟨rfl, ?_⟩
  exact ((More.refl w).al _).al _

theorem Mark_in (g b n : Int) (hg : -2305843009213693952 ≤ g ∧ g ≤ 2305843009213693952) (hn : -2305843009213693952 ≤ n ∧ n ≤ 2305843009213693952) (hb : U64 b) (hf : n - g ≤ 0) (hf' : -63 ≤ n - g) (w : World) :
    Calls Try.prog 147 #[.agg #[.int .i64 g, .int .u64 b], .int .i64 n] w fun e w' => e = .returned (.agg #[.int .i64 g, .int .u64 (lay b (-(n - g)) 1 1)]) ∧ More w w' := by
  obtain ⟨g1, g2⟩ := hg
  obtain ⟨n1, n2⟩ := hn
  have HB := Lib.hid hb
  clear hb
  have L0 : ∀ x : Later (w.alloc (.cells #[.int .i64 g, .int .u64 b] 189)), x.w'.cell? ⟨w.heap.size, 0, none⟩ = some (.int .i64 g) := fun x => x.new 0 rfl
  have L1 : ∀ x : Later (w.alloc (.cells #[.int .i64 g, .int .u64 b] 189)), x.w'.cell? ⟨w.heap.size, 1, none⟩ = some (.int .u64 b) := fun x => x.new 1 rfl
  go_enter Try.func147, Try.ntmps147
  go_wp2_with fail
  refine wp_region_num (w.alloc (.cells #[.int .i64 g, .int .u64 b] 189)) 8 [(0, false), (1, false), (2, false), (3, false), (4, false), (5, false), (6, true), (7, false), (8, true)] (by kernel_rfl) (by kernel_rfl) ?_
  iterate 6 (refine num_quiet rfl rfl (later_mk (by repeat (first | exact More.refl _ | assumption | refine More.dr ?_ _ | refine More.al ?_ _ | refine More.st ?_ (by simp) _))) ?_; intro K hK; go_big_quiet_op; go_big_quiet_on)
  (refine num_next rfl rfl ?_; intro K hK; unfold loud; go_simp)
  refine (Lay_any b 1 _ _ HB.out (by decide) (by unfold I64; omega) (by decide) _).mono ?_
  rintro e w2 ⟨rfl, k2, rfl⟩
  refine ⟨_, rfl, later_mk (((More.alloc _ _).dr _).dr _), hK _ _ ?_⟩
  clear hK K
  iterate 1 (refine num_quiet rfl rfl (later_mk (by repeat (first | exact More.refl _ | assumption | refine More.dr ?_ _ | refine More.al ?_ _ | refine More.st ?_ (by simp) _))) ?_; intro K hK; go_big_quiet_op; go_big_quiet_on)
  (refine num_end rfl rfl (by decide) ?_; intro K hK; unfold loud; go_simp)
  refine hK _ _ ?_
  clear hK K
  refine num_nil ?_
  go_wp2
  refine bodyPost_ret (v := .agg #[.int .i64 g, .int .u64 (lay b (-(n - g)) 1 1)]) (by simp [results, Try.results147, go_sem]) rfl ⟨rfl, ?_⟩
  exact (((((More.refl w).al _).al _).dr _).st (by simp) _).st (by simp) _

/-- A number that may be. -/
def Mid (n : Int) : Prop := -2305843009213693952 ≤ n ∧ n ≤ 2305843009213693952
instance (n : Int) : Decidable (Mid n) := by unfold Mid; infer_instance
theorem Mark_any (g b n : Int) (hg : Mid g) (hn : Mid n) (hb : U64 b) (w : World) :
    Calls Try.prog 147 #[.agg #[.int .i64 g, .int .u64 b], .int .i64 n] w fun e w' => e = .returned (.agg #[.int .i64 (mark g b n).1, .int .u64 (mark g b n).2]) ∧ More w w' := by
  by_cases h1 : 63 < n - g
  · rw [show mark g b n = (n, 1) from by unfold mark; rw [if_pos h1]]; exact Mark_far g b n hg hn h1 w
  · by_cases h2 : 0 < n - g
    · rw [show mark g b n = (n, bits .or .u64 (IntKind.u64.wrap (b * 2 ^ (n - g).toNat)) 1) from by unfold mark; rw [if_neg h1, if_pos h2]]
      exact Mark_up g b n hg hn (by omega) h2 w
    · by_cases h3 : -63 ≤ n - g
      · rw [show mark g b n = (g, lay b (-(n - g)) 1 1) from by unfold mark; rw [if_neg h1, if_neg h2, if_pos h3]]
        exact Mark_in g b n hg hn hb (by omega) h3 w
      · rw [show mark g b n = (g, b) from by unfold mark; rw [if_neg h1, if_neg h2, if_neg h3]]
        exact Mark_low g b n hg hn (by omega) w

set_option maxHeartbeats 1000000 in
theorem Has_any (g b n : Int) (hg : Mid g) (hn : Mid n) (hb : U64 b) (w : World) :
    Calls Try.prog 118 #[.agg #[.int .i64 g, .int .u64 b], .int .i64 n] w fun e w' => e = .returned (.bool (know g b n)) ∧ More w w' := by
  have HB := Lib.hid hb
  have HG := Lib.hid hg
  have HN := Lib.hid hn
  have hx : U64 b := hb
  clear hb
  obtain ⟨g1, g2⟩ := hg
  obtain ⟨n1, n2⟩ := hn
  have L0 : ∀ x : Later (w.alloc (.cells #[.int .i64 g, .int .u64 b] 189)), x.w'.cell? ⟨w.heap.size, 0, none⟩ = some (.int .i64 g) := fun x => x.new 0 rfl
  have L1 : ∀ x : Later (w.alloc (.cells #[.int .i64 g, .int .u64 b] 189)), x.w'.cell? ⟨w.heap.size, 1, none⟩ = some (.int .u64 b) := fun x => x.new 1 rfl
  have EG := win_guard
  by_cases hlt : g - 63 ≤ n
  · have hk := has_eq g b n hx hlt
    clear hx
    by_cases e1 : (mark g b n).1 = g
    · by_cases e2 : (mark g b n).2 = b
      · have HK := Lib.hid (show true = know g b n by rw [← hk]; simp [e1, e2])
        clear hk
        go_enter Try.func118, Try.ntmps118
        go_wp2
        refine wp_region_later (w.alloc (.cells #[.int .i64 g, .int .u64 b] 189)) (More.refl _) (by kernel_rfl) (by kernel_rfl) ?_
        repeat (go_big_quiet_step ((go_at_call 147; exact calls_later (Mark_any g b n HG.out HN.out HB.out _))))
        refine wpQuiet_nil ?_
        intro _ hw'
        obtain ⟨x, rfl⟩ := hw'
        go_wp2
        go_ret
        exact ⟨ret_bool HK.out, (More.alloc _ _).trans x.h⟩
      · have HK := Lib.hid (show false = know g b n by rw [← hk]; simp [e2])
        clear hk
        go_enter Try.func118, Try.ntmps118
        go_wp2
        refine wp_region_later (w.alloc (.cells #[.int .i64 g, .int .u64 b] 189)) (More.refl _) (by kernel_rfl) (by kernel_rfl) ?_
        repeat (go_big_quiet_step ((go_at_call 147; exact calls_later (Mark_any g b n HG.out HN.out HB.out _))))
        refine wpQuiet_nil ?_
        intro _ hw'
        obtain ⟨x, rfl⟩ := hw'
        go_wp2
        go_ret
        exact ⟨ret_bool HK.out, (More.alloc _ _).trans x.h⟩
    · have HK := Lib.hid (show false = know g b n by rw [← hk]; simp [e1])
      clear hk
      go_enter Try.func118, Try.ntmps118
      go_wp2
      refine wp_region_later (w.alloc (.cells #[.int .i64 g, .int .u64 b] 189)) (More.refl _) (by kernel_rfl) (by kernel_rfl) ?_
      repeat (go_big_quiet_step ((go_at_call 147; exact calls_later (Mark_any g b n HG.out HN.out HB.out _))))
      refine wpQuiet_nil ?_
      intro _ hw'
      obtain ⟨x, rfl⟩ := hw'
      go_wp2
      go_ret
      exact ⟨ret_bool HK.out, (More.alloc _ _).trans x.h⟩
  · have HK := Lib.hid (show false = know g b n by unfold know; have : ¬ (n ≤ g ∧ g - n ≤ 63) := by omega
                                                   simp [this])
    clear hx
    have hge : decide (g - 63 ≤ n) = false := by simp; omega
    clear hlt
    go_enter Try.func118, Try.ntmps118
    go_wp2
    refine wp_region_later (w.alloc (.cells #[.int .i64 g, .int .u64 b] 189)) (More.refl _) (by kernel_rfl) (by kernel_rfl) ?_
    repeat (go_big_quiet_step (fail))
    refine wpQuiet_nil ?_
    intro _ hw'
    obtain ⟨x, rfl⟩ := hw'
    go_wp2
    go_ret
    exact ⟨ret_bool HK.out, (More.alloc _ _).trans x.h⟩

end Go.Proofs.Ytlnikmcimmnbmaa
