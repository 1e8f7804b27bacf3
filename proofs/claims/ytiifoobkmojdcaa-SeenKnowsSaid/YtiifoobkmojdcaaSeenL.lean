/- The walks of the laws of layer 11. -/
import Derived.Test.YtiifoobkmojdcaaSeenB
namespace Go.Proofs.Ytiifoobkmojdcaa
open Go.RowKit
set_option maxRecDepth 100000

theorem may11_yes (n g b : Int) (hn : Mid n) (hg : Mid g) (hb : U64 b) (h : b % 2 = 1) (w : World) :
    Calls Try.prog 16 #[.int .i64 n, .agg #[.int .i64 g, .int .u64 b]] w fun e w' => e = .returned (.bool true) ∧ More w w' := by
  obtain ⟨g1, g2⟩ := hg
  obtain ⟨n1, n2⟩ := hn
  obtain ⟨b1, b2⟩ := hb
  have hh : (b % 2 == 1) = true := by simp [h]
  clear h
  go_enter Try.func16, Try.ntmps16
  go_wp2
  go_ret
  exact ⟨rfl, (More.refl w).al _⟩

theorem may11_no (n g b : Int) (hn : I64 n) (hg : I64 g) (hb : U64 b) (h : ¬ (Mid n ∧ Mid g ∧ b % 2 = 1)) (w : World) :
    Calls Try.prog 16 #[.int .i64 n, .agg #[.int .i64 g, .int .u64 b]] w fun e w' => e = .returned (.bool false) ∧ More w w' := by
  obtain ⟨g1, g2⟩ := hg
  obtain ⟨n1, n2⟩ := hn
  obtain ⟨b1, b2⟩ := hb
  unfold Mid at h
  by_cases h1 : -2305843009213693952 ≤ n
  · by_cases h2 : n ≤ 2305843009213693952
    · by_cases h3 : -2305843009213693952 ≤ g
      · by_cases h4 : g ≤ 2305843009213693952
        · have hh : (b % 2 == 1) = false := by simp; omega
          clear h
          go_enter Try.func16, Try.ntmps16
          go_wp2
          go_ret
          exact ⟨rfl, (More.refl w).al _⟩
        · clear h
          go_enter Try.func16, Try.ntmps16
          go_wp2
          go_ret
          exact ⟨rfl, (More.refl w).al _⟩
      · clear h
        go_enter Try.func16, Try.ntmps16
        go_wp2
        go_ret
        exact ⟨rfl, (More.refl w).al _⟩
    · clear h
      go_enter Try.func16, Try.ntmps16
      go_wp2
      go_ret
      exact ⟨rfl, (More.refl w).al _⟩
  · clear h
    go_enter Try.func16, Try.ntmps16
    go_wp2
    go_ret
    exact ⟨rfl, (More.refl w).al _⟩

set_option maxHeartbeats 1000000 in
theorem awake11 (w : World) :
    Calls Try.prog 15 #[] w fun e w' => e = .returned (.bool true) ∧ More w w' := by
  have e1 : mark 5 1 7 = (7, 5) := by decide +kernel
  have e2 : mark 7 5 6 = (7, 7) := by decide +kernel
  have e3 : mark 7 7 100 = (100, 1) := by decide +kernel
  have e4 : mark 7 7 (-100) = (7, 7) := by decide +kernel
  have k1 : know 7 7 5 = true := by decide +kernel
  have k2 : know 7 7 4 = false := by decide +kernel
  have k3 : know 7 7 8 = false := by decide +kernel
  have m1 : many 7 = 3 := by decide +kernel
  have EG := win_guard
  go_enter Try.func15, Try.ntmps15
  go_wp2_with (first | (go_at_call 23; refine (First_any _ _).mono ?_; rintro e w1 ⟨rfl, hm1⟩) | (go_at_call 17; with_reducible (refine (Mark_any 5 1 7 (by decide) (by decide) (by decide) _).mono ?_); rintro e w2 ⟨rfl, hm2⟩; simp only [e1]) | (go_at_call 17; refine (Mark_any 7 5 6 (by decide) (by decide) (by decide) _).mono ?_; rintro e w3 ⟨rfl, hm3⟩; simp only [e2]))
  have L0 : ∀ x : Later (w3.alloc (.cells #[.int .i64 7, .int .u64 7] 24)), x.w'.cell? ⟨w3.heap.size, 0, none⟩ = some (.int .i64 7) := fun x => x.new 0 rfl
  have L1 : ∀ x : Later (w3.alloc (.cells #[.int .i64 7, .int .u64 7] 24)), x.w'.cell? ⟨w3.heap.size, 1, none⟩ = some (.int .u64 7) := fun x => x.new 1 rfl
  refine wp_region_later (w3.alloc (.cells #[.int .i64 7, .int .u64 7] 24)) (More.refl _) (by kernel_rfl) (by kernel_rfl) ?_
  repeat (go_big_quiet_step ((first | (go_at_call 23; exact calls_later (First_any 100 _)) | (go_at_call 21; exact calls_later (m1 ▸ Many_any 7 7 (by decide) _)) | (go_at_call 19; with_reducible exact calls_later (k1 ▸ Has_any 7 7 5 (by decide) (by decide) (by decide) _)) | (go_at_call 19; with_reducible exact calls_later (k2 ▸ Has_any 7 7 4 (by decide) (by decide) (by decide) _)) | (go_at_call 19; with_reducible exact calls_later (k3 ▸ Has_any 7 7 8 (by decide) (by decide) (by decide) _)) | (go_at_call 17; with_reducible exact calls_later (e3 ▸ Mark_any 7 7 100 (by decide) (by decide) (by decide) _)) | (go_at_call 17; with_reducible exact calls_later (e4 ▸ Mark_any 7 7 (-100) (by decide) (by decide) (by decide) _)))))
  refine wpQuiet_nil ?_
  intro _ hw'
  obtain ⟨x, rfl⟩ := hw'
  go_wp2
  go_ret
  exact ⟨rfl, (((hm1.trans hm2).trans hm3).al _).trans x.h⟩

set_option maxHeartbeats 1000000 in
theorem SeenTells_law (g b n : Int) (w : World) (hg : I64 g) (hb : U64 b) (hn : I64 n) :
    Calls Try.prog 3 #[.agg #[.int .i64 g, .int .u64 b], .int .i64 n] w fun e w' => e = .returned (.bool true) ∧ More w w' := by
  by_cases h : Mid n ∧ Mid g ∧ b % 2 = 1
  · obtain ⟨h1, h2, h3⟩ := h
    have hmy := may11_yes n g b h1 h2 hb h3
    have HN := Lib.hid h1
    have HG := Lib.hid h2
    have HB := Lib.hid hb
    clear h1 h2 h3 hg hb hn
    have EG := win_guard
    have EG' := win_guard'
    go_enter Try.func3, Try.ntmps3
    go_wp2_with (first | (go_at_call 15; refine (awake11 _).mono ?_; rintro e w1 ⟨rfl, hm1⟩; obtain ⟨hc1, hf1⟩ := hm1.rules) | (go_at_call 16; refine (hmy _).mono ?_; rintro e w2 ⟨rfl, hm2⟩))
    have L0 : ∀ x : Later (w.alloc (.cells #[.int .i64 g, .int .u64 b] 24)), x.w'.cell? ⟨w.heap.size, 0, none⟩ = some (.int .i64 g) := fun x => x.new 0 rfl
    have L1 : ∀ x : Later (w.alloc (.cells #[.int .i64 g, .int .u64 b] 24)), x.w'.cell? ⟨w.heap.size, 1, none⟩ = some (.int .u64 b) := fun x => x.new 1 rfl
    refine wp_region_later (w.alloc (.cells #[.int .i64 g, .int .u64 b] 24)) (hm1.trans hm2) (by kernel_rfl) (by kernel_rfl) ?_
    repeat (go_big_quiet_step ((first | (go_at_call 23; exact calls_later (First_any _ _)) | (go_at_call 21; exact calls_later (Many_any _ _ HB.out _)) | (go_at_call 22; exact calls_later (RMany_any _ _ HB.out _)) | (go_at_call 19; exact calls_later (Has_any _ _ _ HG.out HN.out HB.out _)) | (go_at_call 20; exact calls_later (RHas_any _ _ _ HG.out (by have := HN.out; unfold Mid at this; omega) HB.out _)) | (go_at_call 17; exact calls_later (Mark_any _ _ _ HG.out HN.out HB.out _)) | (go_at_call 18; exact calls_later (RMark_any _ _ _ HG.out HN.out HB.out _)))))
    refine wpQuiet_nil ?_
    intro _ hw'
    obtain ⟨x, rfl⟩ := hw'
    go_wp2
    go_ret
    exact ⟨rfl, (More.alloc _ _).trans x.h⟩
  · have hmn := may11_no n g b hn hg hb h
    clear h
    go_enter Try.func3, Try.ntmps3
    go_wp2_with (first | (go_at_call 15; refine (awake11 _).mono ?_; rintro e w1 ⟨rfl, hm1⟩; obtain ⟨hc1, hf1⟩ := hm1.rules) | (go_at_call 16; refine (hmn _).mono ?_; rintro e w2 ⟨rfl, hm2⟩))
    go_ret
    exact ⟨rfl, ((More.alloc w _).trans hm1).trans hm2⟩

set_option maxHeartbeats 2000000 in
theorem SeenOrder_law (g b n m : Int) (w : World) (hg : I64 g) (hb : U64 b) (hn : I64 n) (hm : I64 m) :
    Calls Try.prog 5 #[.agg #[.int .i64 g, .int .u64 b], .int .i64 n, .int .i64 m] w fun e w' => e = .returned (.bool true) ∧ More w w' := by
  by_cases h : Mid n ∧ Mid g ∧ b % 2 = 1
  · obtain ⟨h1, h2, h3⟩ := h
    have hmy := may11_yes n g b h1 h2 hb h3
    by_cases h4 : Mid m
    · have hmz := may11_yes m g b h4 h2 hb h3
      have HN := Lib.hid h1
      have HM := Lib.hid h4
      have HG := Lib.hid h2
      have HB := Lib.hid hb
      obtain ⟨a1, ha1⟩ : ∃ x, x = mark g b n := ⟨_, rfl⟩
      obtain ⟨a2, ha2⟩ : ∃ x, x = mark g b m := ⟨_, rfl⟩
      obtain ⟨A, hA⟩ : ∃ x, x = mark a1.1 a1.2 m := ⟨_, rfl⟩
      have u1 : U64 a1.2 := ha1 ▸ mark_U64 g b n hb
      have u2 : U64 a2.2 := ha2 ▸ mark_U64 g b m hb
      have uA : U64 A.2 := hA ▸ mark_U64 _ _ _ u1
      have hB : mark a2.1 a2.2 n = A := by rw [hA, ha1, ha2]; exact (mark_comm g b n m hb).symm
      have hAn : mark A.1 A.2 n = A := by rw [hA, ha1]; exact mark_twice g b n m hb
      have hAm : mark A.1 A.2 m = A := by rw [← hB, ha2]; exact mark_twice g b m n hb
      have e1 : a1.1 = max g n := ha1 ▸ mark_high g b n
      have e2 : a2.1 = max g m := ha2 ▸ mark_high g b m
      have e3 : A.1 = max (max g n) m := by rw [hA, mark_high, e1]
      have odd : A.2 % 2 = 1 := by rw [hA]; exact mark_odd _ _ _ u1 (by rw [ha1]; exact mark_odd g b n hb h3)
      have mp := many_pos A.2 uA odd
      have G1 : Hid (Mid a1.1) := by rw [e1]; unfold Hid Mid at *; omega
      have G2 : Hid (Mid a2.1) := by rw [e2]; unfold Hid Mid at *; omega
      have G3 : Hid (Mid A.1) := by rw [e3]; unfold Hid Mid at *; omega
      have ge : g ≤ A.1 := by rw [e3]; omega
      have U1 := Lib.hid u1
      have U2 := Lib.hid u2
      have UA := Lib.hid uA
      have E1 := Lib.hid ha1
      have E2 := Lib.hid ha2
      have E3 := Lib.hid hA
      have E4 := Lib.hid hB
      have K5 := Lib.hid (fun w => Mark_any A.1 A.2 n G3.out HN.out uA w)
      have K6 := Lib.hid (fun w => Mark_any A.1 A.2 m G3.out HM.out uA w)
      rw [hAn] at K5
      rw [hAm] at K6
      clear h1 h2 h3 h4 hg hb hn hm ha1 ha2 hA hB hAn hAm e1 e2 e3 odd u1 u2 uA
      have EG := win_guard
      go_enter Try.func5, Try.ntmps5
      go_wp2_with (first | (go_at_call 15; refine (awake11 _).mono ?_; rintro e w1 ⟨rfl, hm1⟩; have p10 := hm1.new 0 rfl; have p11 := hm1.new 1 rfl) | (go_at_call 16; with_reducible (refine (hmy _).mono ?_); rintro e w2 ⟨rfl, hm2⟩; have M2 := hm1.trans hm2; have p20 := M2.new 0 rfl; have p21 := M2.new 1 rfl) | (go_at_call 16; refine (hmz _).mono ?_; rintro e w3 ⟨rfl, hm3⟩; have M3 := M2.trans hm3; have p30 := M3.new 0 rfl; have p31 := M3.new 1 rfl) | (go_at_call 17; with_reducible (refine (Mark_any g b n HG.out HN.out HB.out _).mono ?_); rintro e w4 ⟨rfl, hm4⟩; rw [← E1.out]) | (go_at_call 17; with_reducible (refine (Mark_any a1.1 a1.2 m G1.out HM.out U1.out _).mono ?_); rintro e w5 ⟨rfl, hm5⟩; rw [← E3.out]; have M5 := (M3.trans hm4).trans hm5; have p50 := M5.new 0 rfl; have p51 := M5.new 1 rfl; have lt5 : w.heap.size < w5.heap.size := by (have := M5.size; simp at this; omega)) | (go_at_call 17; with_reducible (refine (Mark_any g b m HG.out HM.out HB.out _).mono ?_); rintro e w6 ⟨rfl, hm6⟩; rw [← E2.out]) | (go_at_call 17; with_reducible (refine (Mark_any a2.1 a2.2 n G2.out HN.out U2.out _).mono ?_); rintro e w7 ⟨rfl, hm7⟩; rw [E4.out]))
      have M7 := ((M5.al _).trans hm6).trans hm7
      have N7 := hm6.trans hm7
      have p70 := M7.new 0 rfl
      have p71 := M7.new 1 rfl
      have a70 := N7.new 0 rfl
      have a71 := N7.new 1 rfl
      have l7 := Nat.lt_of_lt_of_le (show w5.heap.size < (w5.alloc (.cells #[.int .i64 A.1, .int .u64 A.2] 24)).heap.size by simp) N7.size
      have l8 := Nat.lt_trans lt5 l7
      have LP : ∀ x : Later (w7.alloc (.cells #[.int .i64 A.1, .int .u64 A.2] 24)), x.w'.cell? ⟨w.heap.size, 0, none⟩ = some (.int .i64 g) := fun x => Later.cell ⟨x.w', (More.alloc _ _).trans x.h⟩ l8 p70
      have LA0 : ∀ x : Later (w7.alloc (.cells #[.int .i64 A.1, .int .u64 A.2] 24)), x.w'.cell? ⟨w5.heap.size, 0, none⟩ = some (.int .i64 A.1) := fun x => Later.cell ⟨x.w', (More.alloc _ _).trans x.h⟩ l7 a70
      have LA1 : ∀ x : Later (w7.alloc (.cells #[.int .i64 A.1, .int .u64 A.2] 24)), x.w'.cell? ⟨w5.heap.size, 1, none⟩ = some (.int .u64 A.2) := fun x => Later.cell ⟨x.w', (More.alloc _ _).trans x.h⟩ l7 a71
      have LB0 : ∀ x : Later (w7.alloc (.cells #[.int .i64 A.1, .int .u64 A.2] 24)), x.w'.cell? ⟨w7.heap.size, 0, none⟩ = some (.int .i64 A.1) := fun x => x.new 0 rfl
      have LB1 : ∀ x : Later (w7.alloc (.cells #[.int .i64 A.1, .int .u64 A.2] 24)), x.w'.cell? ⟨w7.heap.size, 1, none⟩ = some (.int .u64 A.2) := fun x => x.new 1 rfl
      clear p10 p11 p20 p21 p30 p31 p50 p51 p70 p71 a70 a71
      refine wp_region_later (w7.alloc (.cells #[.int .i64 A.1, .int .u64 A.2] 24)) (More.refl _) (by kernel_rfl) (by kernel_rfl) ?_
      repeat (go_big_quiet_step ((first | (go_at_call 21; exact calls_later (Many_any _ _ UA.out _)) | (go_at_call 17; with_reducible exact calls_later (K5.out _)) | (go_at_call 17; with_reducible exact calls_later (K6.out _)))))
      refine wpQuiet_nil ?_
      intro _ hw'
      obtain ⟨x, rfl⟩ := hw'
      go_wp2
      go_ret
      exact ⟨rfl, ((((More.alloc w _).trans M7).al _).trans x.h)⟩
    · have hmz := may11_no m g b hm hg hb (fun x => h4 x.1)
      clear h1 h2 h3 h4
      go_enter Try.func5, Try.ntmps5
      go_wp2_with (first | (go_at_call 15; refine (awake11 _).mono ?_; rintro e w1 ⟨rfl, hm1⟩; have p10 := hm1.new 0 rfl; have p11 := hm1.new 1 rfl) | (go_at_call 16; with_reducible (refine (hmy _).mono ?_); rintro e w2 ⟨rfl, hm2⟩; have M2 := hm1.trans hm2; have p20 := M2.new 0 rfl; have p21 := M2.new 1 rfl) | (go_at_call 16; refine (hmz _).mono ?_; rintro e w3 ⟨rfl, hm3⟩))
      go_ret
      exact ⟨rfl, (More.alloc w _).trans (M2.trans hm3)⟩
  · have hmy := may11_no n g b hn hg hb h
    clear h
    go_enter Try.func5, Try.ntmps5
    go_wp2_with (first | (go_at_call 15; refine (awake11 _).mono ?_; rintro e w1 ⟨rfl, hm1⟩; have p10 := hm1.new 0 rfl; have p11 := hm1.new 1 rfl) | (go_at_call 16; with_reducible (refine (hmy _).mono ?_); rintro e w2 ⟨rfl, hm2⟩))
    go_ret
    exact ⟨rfl, (More.alloc w _).trans (hm1.trans hm2)⟩

end Go.Proofs.Ytiifoobkmojdcaa
