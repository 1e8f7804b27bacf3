/- Contracts of the reference manifoldref11. -/
import Derived.Test.YtiifoobkmojdcaaSeenA
namespace Go.Proofs.Ytiifoobkmojdcaa
open Go.RowKit
set_option maxRecDepth 100000

set_option maxHeartbeats 400000 in
theorem RMany_any (g b : Int) (hb : U64 b) (w : World) :
    Calls Try.prog 22 #[.agg #[.int .i64 g, .int .u64 b]] w fun e w' => e = .returned (.int .i64 (many b)) ∧ More w w' := by
  have HB := Lib.hid hb
  clear hb
  go_enter Try.func22, Try.ntmps22
  go_wp2
  go_loop [3, 4] (fun n i => ∃ j : Nat, j ≤ 64 ∧ i = .int .i64 j ∧ n = .int .i64 (manyTo b j)) (fun _ i => 64 - (intOf i).toNat)
  case atStart => exact ⟨0, by omega, rfl, rfl⟩
  case round =>
    obtain ⟨j, hj, rfl, rfl⟩ := hrel
    have bd := manyTo_bd b j
    by_cases hlt : j < 64
    · have HS := Lib.hid (manyTo_succ b j)
      have b1 := bt_01 b j
      go_wp2_with (go_at_call 62; refine (Bit_bt _ _ HB.out (by omega) (by omega) _).mono ?_; rintro e w2 ⟨rfl, rfl⟩)
      go_round
      case rel => exact ⟨j + 1, by omega, by go_num, by rw [HS.out]⟩
      case measure => simp [intOf]; omega
    · obtain rfl : j = 64 := by omega
      go_wp2
      go_ret
      exact ⟨rfl, (More.refl w).al _⟩

set_option maxHeartbeats 1000000 in
theorem RHas_any (g b n : Int) (hg : Mid g) (hn : -3458764513820540928 ≤ n ∧ n ≤ 3458764513820540928) (hb : U64 b) (w : World) :
    Calls Try.prog 20 #[.agg #[.int .i64 g, .int .u64 b], .int .i64 n] w fun e w' => e = .returned (.bool (know g b n)) ∧ More w w' := by
  have HB := Lib.hid hb
  have hx : U64 b := hb
  clear hb
  obtain ⟨g1, g2⟩ := hg
  obtain ⟨n1, n2⟩ := hn
  by_cases h1 : n ≤ g
  · by_cases h2 : g - 64 < n
    · have HK := Lib.hid (show (bt b (g - n) == 1) = know g b n by
        unfold know bt
        have : n ≤ g ∧ g - n ≤ 63 := by omega
        simp only [this, and_self, decide_true, Bool.true_and]
        cases b.toNat.testBit (g - n).toNat <;> rfl)
      clear hx
      go_enter Try.func20, Try.ntmps20
      go_wp2_with (go_at_call 62; refine (Bit_bt _ _ HB.out (by omega) (by omega) _).mono ?_; rintro e w2 ⟨rfl, rfl⟩)
      go_ret
      exact ⟨ret_bool HK.out, (More.refl w).al _⟩
    · have HK := Lib.hid (show false = know g b n by unfold know; have : ¬ (n ≤ g ∧ g - n ≤ 63) := by omega
                                                     simp [this])
      clear hx
      go_enter Try.func20, Try.ntmps20
      go_wp2
      go_ret
      exact ⟨ret_bool HK.out, (More.refl w).al _⟩
  · have HK := Lib.hid (show false = know g b n by unfold know; have : ¬ (n ≤ g ∧ g - n ≤ 63) := by omega
                                                   simp [this])
    clear hx
    go_enter Try.func20, Try.ntmps20
    go_wp2
    go_ret
    exact ⟨ret_bool HK.out, (More.refl w).al _⟩

theorem blk_eq {w : World} {b : Nat} {cs cs' : Array Value} {t : TypeId} (h : w.heap[b]? = some (.cells cs t (0, 0))) (e : cs = cs') : w.heap[b]? = some (.cells cs' t (0, 0)) := by rw [← e]; exact h

set_option maxHeartbeats 600000 in
theorem RMark_up (g b n : Int) (hg : Mid g) (hn : Mid n) (hb : U64 b) (hle : g < n) (w : World) :
    Calls Try.prog 18 #[.agg #[.int .i64 g, .int .u64 b], .int .i64 n] w fun e w' => e = .returned (.agg #[.int .i64 (mark g b n).1, .int .u64 (mark g b n).2]) ∧ More w w' := by
  have HG := Lib.hid hg
  have HB := Lib.hid hb
  have HE := Lib.hid (rmark_eq g b n hb)
  have HH := Lib.hid (mark_high g b n)
  clear hb
  obtain ⟨g1, g2⟩ := hg
  obtain ⟨n1, n2⟩ := hn
  rw [show max g n = n from by omega] at HE HH
  obtain ⟨f, hf⟩ : ∃ f : Nat → Bool, f = (fun k : Nat => decide (n - (k : Int) = n) || know g b (n - (k : Int))) := ⟨_, rfl⟩
  rw [← hf] at HE
  have HF := Lib.hid hf
  clear hf
  go_enter Try.func18, Try.ntmps18
  go_wp2_with fail
  go_loopw [6] (fun i wr => ∃ j : Nat, j ≤ 64 ∧ i = .int .i64 j ∧ wr.heap[w.heap.size + 1 + 1]? = some (.cells #[.int .i64 n, .int .u64 (sumBits f j)] 27 (0, 0)) ∧ More ((w.alloc (.cells #[.int .i64 g, .int .u64 b] 27)).alloc (.cells #[.int .i64 0, .int .u64 0] 27)) wr) (fun i _ => 64 - (intOf i).toNat)
  case atStart => exact ⟨0, by omega, rfl, blk_new2 (by simp), More.alloc _ _⟩
  case round =>
    obtain ⟨j, hj, rfl, hO, hW⟩ := hrel
    have c0 := blk_cell hO 0 rfl
    have p0 : wr.cell? ⟨w.heap.size, 0, none⟩ = some (.int .i64 g) := by rw [hW.cells _ _ (by simp; omega)]; simp [go_sem]
    have p1 : wr.cell? ⟨w.heap.size, 1, none⟩ = some (.int .u64 b) := by rw [hW.cells _ _ (by simp; omega)]; simp [go_sem]
    by_cases hlt : j < 64
    · have b1 := two_pos j
      have b2 : 2 * two j ≤ 18446744073709551616 := by rw [← two_succ (by omega), ← two_64]; exact two_le (by omega)
      have b3 := sumBits_bd f j
      have hs := sumBits_succ f j (by omega)
      rw [Int.toNat_natCast, show (j : Int) + 1 = ((j + 1 : Nat) : Int) from by omega] at hs
      by_cases hmn : n - (j : Int) = n
      · have hfj : f j = true := by rw [HF.out]; simp [hmn]
        rw [hfj] at hs
        have HS := Lib.hid (show sumBits f (j + 1 : Nat) = sumBits f j + two j by rw [hs]; simp)
        have e1 : (n - (j : Int) == n) = true := by simp [hmn]
        clear hs hfj hmn
        obtain ⟨X, rfl⟩ : ∃ X, X = wr := ⟨_, rfl⟩
        have hOX := hO
        have hX := hW
        go_wp2_with fail
        have lX := blk_lt hOX
        have LX : ∀ x : Later X, x.w'.cell? ⟨w.heap.size + 1 + 1, 1, none⟩ = some (.int .u64 (sumBits f j)) := fun x => x.cell lX (blk_cell hOX 1 rfl)
        have fX := blk_free hOX 1
        have cX := blk_cell hOX 1 rfl
        refine wp_region_num X 6 [(0, false), (1, false), (2, false), (3, true), (4, false), (5, false), (6, true)] (by kernel_rfl) (by kernel_rfl) ?_
        iterate 3 (refine num_quiet rfl rfl (later_mk (by repeat (first | exact More.refl _ | assumption | refine More.dr ?_ _ | refine More.al ?_ _ | refine More.st ?_ (by simp) _))) ?_; intro K hK; go_big_quiet_op; go_big_quiet_on)
        (refine num_next rfl rfl ?_; intro K hK; unfold loud; go_simp)
        refine (Two_any _ (by omega) (by omega) _).mono ?_
        rintro e w4 ⟨rfl, rfl⟩
        refine ⟨_, rfl, later_mk (by repeat (first | exact More.refl _ | assumption | refine More.dr ?_ _ | refine More.al ?_ _ | refine More.st ?_ (by simp) _)), hK _ _ ?_⟩
        clear hK K
        iterate 2 (refine num_quiet rfl rfl (later_mk (by repeat (first | exact More.refl _ | assumption | refine More.dr ?_ _ | refine More.al ?_ _ | refine More.st ?_ (by simp) _))) ?_; intro K hK; go_big_quiet_op; go_big_quiet_on)
        (refine num_end rfl rfl (by decide) ?_; intro K hK; unfold loud; go_simp)
        refine hK _ _ ?_
        clear hK K
        refine num_nil ?_
        go_wp2
        go_roundw
        case rel => exact ⟨j + 1, by omega, by go_num, blk_eq (blk_set (blk_drewN hOX 1) 1 _) (by rw [HS.out]; rfl), (hX.dr 1).st (by simp) _⟩
        case measure => simp [intOf]; omega
      · have e1 : (n - (j : Int) == n) = false := by simp [hmn]
        by_cases hk : know g b (n - (j : Int)) = true
        · have hfj : f j = true := by rw [HF.out]; simp [hk]
          rw [hfj] at hs
          have HS := Lib.hid (show sumBits f (j + 1 : Nat) = sumBits f j + two j by rw [hs]; simp)
          have HKT := Lib.hid hk
          clear hs hfj hmn hk
          go_wp2_with (go_at_call 20; refine (RHas_any _ _ _ HG.out (by omega) HB.out _).mono ?_; rintro e X ⟨rfl, hmX⟩; rw [HKT.out])
          have hOX := blk_more hmX hO
          have hX := hW.trans hmX
          have lX := blk_lt hOX
          have LX : ∀ x : Later X, x.w'.cell? ⟨w.heap.size + 1 + 1, 1, none⟩ = some (.int .u64 (sumBits f j)) := fun x => x.cell lX (blk_cell hOX 1 rfl)
          have fX := blk_free hOX 1
          have cX := blk_cell hOX 1 rfl
          refine wp_region_num X 6 [(0, false), (1, false), (2, false), (3, true), (4, false), (5, false), (6, true)] (by kernel_rfl) (by kernel_rfl) ?_
          iterate 3 (refine num_quiet rfl rfl (later_mk (by repeat (first | exact More.refl _ | assumption | refine More.dr ?_ _ | refine More.al ?_ _ | refine More.st ?_ (by simp) _))) ?_; intro K hK; go_big_quiet_op; go_big_quiet_on)
          (refine num_next rfl rfl ?_; intro K hK; unfold loud; go_simp)
          refine (Two_any _ (by omega) (by omega) _).mono ?_
          rintro e w4 ⟨rfl, rfl⟩
          refine ⟨_, rfl, later_mk (by repeat (first | exact More.refl _ | assumption | refine More.dr ?_ _ | refine More.al ?_ _ | refine More.st ?_ (by simp) _)), hK _ _ ?_⟩
          clear hK K
          iterate 2 (refine num_quiet rfl rfl (later_mk (by repeat (first | exact More.refl _ | assumption | refine More.dr ?_ _ | refine More.al ?_ _ | refine More.st ?_ (by simp) _))) ?_; intro K hK; go_big_quiet_op; go_big_quiet_on)
          (refine num_end rfl rfl (by decide) ?_; intro K hK; unfold loud; go_simp)
          refine hK _ _ ?_
          clear hK K
          refine num_nil ?_
          go_wp2
          go_roundw
          case rel => exact ⟨j + 1, by omega, by go_num, blk_eq (blk_set (blk_drewN hOX 1) 1 _) (by rw [HS.out]; rfl), (hX.dr 1).st (by simp) _⟩
          case measure => simp [intOf]; omega
        · have hkf : know g b (n - (j : Int)) = false := by simpa using hk
          have hfj : f j = false := by rw [HF.out]; simp [hkf, hmn]
          rw [hfj] at hs
          have HS := Lib.hid (show sumBits f (j + 1 : Nat) = sumBits f j by rw [hs]; simp)
          have HKT := Lib.hid hkf
          clear hs hfj hmn hk hkf
          go_wp2_with (go_at_call 20; refine (RHas_any _ _ _ HG.out (by omega) HB.out _).mono ?_; rintro e X ⟨rfl, hmX⟩; rw [HKT.out])
          go_roundw
          case rel => exact ⟨j + 1, by omega, by go_num, blk_eq (blk_more hmX hO) (by rw [HS.out]), hW.trans hmX⟩
          case measure => simp [intOf]; omega
    · obtain rfl : j = 64 := by omega
      have c1 := blk_cell hO 1 rfl
      have lt2 := blk_lt hO
      have r0 : wr.cell? ⟨w.heap.size + 1, 0, none⟩ = some (.int .i64 0) := by rw [hW.cells _ _ (by simp)]; simp [go_sem]
      have r1 : wr.cell? ⟨w.heap.size + 1, 1, none⟩ = some (.int .u64 0) := by rw [hW.cells _ _ (by simp)]; simp [go_sem]
      have f0 : wr.frozen? ⟨w.heap.size + 1, 0, none⟩ = false := by rw [hW.rules.2 _ _ (by simp)]; simp [go_sem]
      have f1 : wr.frozen? ⟨w.heap.size + 1, 1, none⟩ = false := by rw [hW.rules.2 _ _ (by simp)]; simp [go_sem]
      go_wp2
      refine bodyPost_ret (v := .agg #[.int .i64 n, .int .u64 (sumBits f (64 : Nat))]) (by simp [results, Try.results18, go_sem, r0, r1]) rfl ⟨?_, ?_⟩
      · rw [HH.out]; rw [show ((64 : Nat) : Int) = 64 from rfl, HE.out]
      · exact ((((More.refl w).al _).al _ |>.trans hW).st (by simp) _).st (by simp) _

set_option maxHeartbeats 600000 in
theorem RMark_in (g b n : Int) (hg : Mid g) (hn : Mid n) (hb : U64 b) (hle : n ≤ g) (w : World) :
    Calls Try.prog 18 #[.agg #[.int .i64 g, .int .u64 b], .int .i64 n] w fun e w' => e = .returned (.agg #[.int .i64 (mark g b n).1, .int .u64 (mark g b n).2]) ∧ More w w' := by
  have HG := Lib.hid hg
  have HB := Lib.hid hb
  have HE := Lib.hid (rmark_eq g b n hb)
  have HH := Lib.hid (mark_high g b n)
  clear hb
  obtain ⟨g1, g2⟩ := hg
  obtain ⟨n1, n2⟩ := hn
  rw [show max g n = g from by omega] at HE HH
  obtain ⟨f, hf⟩ : ∃ f : Nat → Bool, f = (fun k : Nat => decide (g - (k : Int) = n) || know g b (g - (k : Int))) := ⟨_, rfl⟩
  rw [← hf] at HE
  have HF := Lib.hid hf
  clear hf
  go_enter Try.func18, Try.ntmps18
  go_wp2_with fail
  go_loopw [6] (fun i wr => ∃ j : Nat, j ≤ 64 ∧ i = .int .i64 j ∧ wr.heap[w.heap.size + 1 + 1]? = some (.cells #[.int .i64 g, .int .u64 (sumBits f j)] 27 (0, 0)) ∧ More ((w.alloc (.cells #[.int .i64 g, .int .u64 b] 27)).alloc (.cells #[.int .i64 0, .int .u64 0] 27)) wr) (fun i _ => 64 - (intOf i).toNat)
  case atStart => exact ⟨0, by omega, rfl, blk_new2 (by simp), More.alloc _ _⟩
  case round =>
    obtain ⟨j, hj, rfl, hO, hW⟩ := hrel
    have c0 := blk_cell hO 0 rfl
    have p0 : wr.cell? ⟨w.heap.size, 0, none⟩ = some (.int .i64 g) := by rw [hW.cells _ _ (by simp; omega)]; simp [go_sem]
    have p1 : wr.cell? ⟨w.heap.size, 1, none⟩ = some (.int .u64 b) := by rw [hW.cells _ _ (by simp; omega)]; simp [go_sem]
    by_cases hlt : j < 64
    · have b1 := two_pos j
      have b2 : 2 * two j ≤ 18446744073709551616 := by rw [← two_succ (by omega), ← two_64]; exact two_le (by omega)
      have b3 := sumBits_bd f j
      have hs := sumBits_succ f j (by omega)
      rw [Int.toNat_natCast, show (j : Int) + 1 = ((j + 1 : Nat) : Int) from by omega] at hs
      by_cases hmn : g - (j : Int) = n
      · have hfj : f j = true := by rw [HF.out]; simp [hmn]
        rw [hfj] at hs
        have HS := Lib.hid (show sumBits f (j + 1 : Nat) = sumBits f j + two j by rw [hs]; simp)
        have e1 : (g - (j : Int) == n) = true := by simp [hmn]
        clear hs hfj hmn
        obtain ⟨X, rfl⟩ : ∃ X, X = wr := ⟨_, rfl⟩
        have hOX := hO
        have hX := hW
        go_wp2_with fail
        have lX := blk_lt hOX
        have LX : ∀ x : Later X, x.w'.cell? ⟨w.heap.size + 1 + 1, 1, none⟩ = some (.int .u64 (sumBits f j)) := fun x => x.cell lX (blk_cell hOX 1 rfl)
        have fX := blk_free hOX 1
        have cX := blk_cell hOX 1 rfl
        refine wp_region_num X 6 [(0, false), (1, false), (2, false), (3, true), (4, false), (5, false), (6, true)] (by kernel_rfl) (by kernel_rfl) ?_
        iterate 3 (refine num_quiet rfl rfl (later_mk (by repeat (first | exact More.refl _ | assumption | refine More.dr ?_ _ | refine More.al ?_ _ | refine More.st ?_ (by simp) _))) ?_; intro K hK; go_big_quiet_op; go_big_quiet_on)
        (refine num_next rfl rfl ?_; intro K hK; unfold loud; go_simp)
        refine (Two_any _ (by omega) (by omega) _).mono ?_
        rintro e w4 ⟨rfl, rfl⟩
        refine ⟨_, rfl, later_mk (by repeat (first | exact More.refl _ | assumption | refine More.dr ?_ _ | refine More.al ?_ _ | refine More.st ?_ (by simp) _)), hK _ _ ?_⟩
        clear hK K
        iterate 2 (refine num_quiet rfl rfl (later_mk (by repeat (first | exact More.refl _ | assumption | refine More.dr ?_ _ | refine More.al ?_ _ | refine More.st ?_ (by simp) _))) ?_; intro K hK; go_big_quiet_op; go_big_quiet_on)
        (refine num_end rfl rfl (by decide) ?_; intro K hK; unfold loud; go_simp)
        refine hK _ _ ?_
        clear hK K
        refine num_nil ?_
        go_wp2
        go_roundw
        case rel => exact ⟨j + 1, by omega, by go_num, blk_eq (blk_set (blk_drewN hOX 1) 1 _) (by rw [HS.out]; rfl), (hX.dr 1).st (by simp) _⟩
        case measure => simp [intOf]; omega
      · have e1 : (g - (j : Int) == n) = false := by simp [hmn]
        by_cases hk : know g b (g - (j : Int)) = true
        · have hfj : f j = true := by rw [HF.out]; simp [hk]
          rw [hfj] at hs
          have HS := Lib.hid (show sumBits f (j + 1 : Nat) = sumBits f j + two j by rw [hs]; simp)
          have HKT := Lib.hid hk
          clear hs hfj hmn hk
          go_wp2_with (go_at_call 20; refine (RHas_any _ _ _ HG.out (by omega) HB.out _).mono ?_; rintro e X ⟨rfl, hmX⟩; rw [HKT.out])
          have hOX := blk_more hmX hO
          have hX := hW.trans hmX
          have lX := blk_lt hOX
          have LX : ∀ x : Later X, x.w'.cell? ⟨w.heap.size + 1 + 1, 1, none⟩ = some (.int .u64 (sumBits f j)) := fun x => x.cell lX (blk_cell hOX 1 rfl)
          have fX := blk_free hOX 1
          have cX := blk_cell hOX 1 rfl
          refine wp_region_num X 6 [(0, false), (1, false), (2, false), (3, true), (4, false), (5, false), (6, true)] (by kernel_rfl) (by kernel_rfl) ?_
          iterate 3 (refine num_quiet rfl rfl (later_mk (by repeat (first | exact More.refl _ | assumption | refine More.dr ?_ _ | refine More.al ?_ _ | refine More.st ?_ (by simp) _))) ?_; intro K hK; go_big_quiet_op; go_big_quiet_on)
          (refine num_next rfl rfl ?_; intro K hK; unfold loud; go_simp)
          refine (Two_any _ (by omega) (by omega) _).mono ?_
          rintro e w4 ⟨rfl, rfl⟩
          refine ⟨_, rfl, later_mk (by repeat (first | exact More.refl _ | assumption | refine More.dr ?_ _ | refine More.al ?_ _ | refine More.st ?_ (by simp) _)), hK _ _ ?_⟩
          clear hK K
          iterate 2 (refine num_quiet rfl rfl (later_mk (by repeat (first | exact More.refl _ | assumption | refine More.dr ?_ _ | refine More.al ?_ _ | refine More.st ?_ (by simp) _))) ?_; intro K hK; go_big_quiet_op; go_big_quiet_on)
          (refine num_end rfl rfl (by decide) ?_; intro K hK; unfold loud; go_simp)
          refine hK _ _ ?_
          clear hK K
          refine num_nil ?_
          go_wp2
          go_roundw
          case rel => exact ⟨j + 1, by omega, by go_num, blk_eq (blk_set (blk_drewN hOX 1) 1 _) (by rw [HS.out]; rfl), (hX.dr 1).st (by simp) _⟩
          case measure => simp [intOf]; omega
        · have hkf : know g b (g - (j : Int)) = false := by simpa using hk
          have hfj : f j = false := by rw [HF.out]; simp [hkf, hmn]
          rw [hfj] at hs
          have HS := Lib.hid (show sumBits f (j + 1 : Nat) = sumBits f j by rw [hs]; simp)
          have HKT := Lib.hid hkf
          clear hs hfj hmn hk hkf
          go_wp2_with (go_at_call 20; refine (RHas_any _ _ _ HG.out (by omega) HB.out _).mono ?_; rintro e X ⟨rfl, hmX⟩; rw [HKT.out])
          go_roundw
          case rel => exact ⟨j + 1, by omega, by go_num, blk_eq (blk_more hmX hO) (by rw [HS.out]), hW.trans hmX⟩
          case measure => simp [intOf]; omega
    · obtain rfl : j = 64 := by omega
      have c1 := blk_cell hO 1 rfl
      have lt2 := blk_lt hO
      have r0 : wr.cell? ⟨w.heap.size + 1, 0, none⟩ = some (.int .i64 0) := by rw [hW.cells _ _ (by simp)]; simp [go_sem]
      have r1 : wr.cell? ⟨w.heap.size + 1, 1, none⟩ = some (.int .u64 0) := by rw [hW.cells _ _ (by simp)]; simp [go_sem]
      have f0 : wr.frozen? ⟨w.heap.size + 1, 0, none⟩ = false := by rw [hW.rules.2 _ _ (by simp)]; simp [go_sem]
      have f1 : wr.frozen? ⟨w.heap.size + 1, 1, none⟩ = false := by rw [hW.rules.2 _ _ (by simp)]; simp [go_sem]
      go_wp2
      refine bodyPost_ret (v := .agg #[.int .i64 g, .int .u64 (sumBits f (64 : Nat))]) (by simp [results, Try.results18, go_sem, r0, r1]) rfl ⟨?_, ?_⟩
      · rw [HH.out]; rw [show ((64 : Nat) : Int) = 64 from rfl, HE.out]
      · exact ((((More.refl w).al _).al _ |>.trans hW).st (by simp) _).st (by simp) _

theorem RMark_any (g b n : Int) (hg : Mid g) (hn : Mid n) (hb : U64 b) (w : World) :
    Calls Try.prog 18 #[.agg #[.int .i64 g, .int .u64 b], .int .i64 n] w fun e w' => e = .returned (.agg #[.int .i64 (mark g b n).1, .int .u64 (mark g b n).2]) ∧ More w w' := by
  by_cases h : g < n
  · exact RMark_up g b n hg hn hb h w
  · exact RMark_in g b n hg hn hb (by omega) w

end Go.Proofs.Ytiifoobkmojdcaa
