/- The law RingSums, walked. -/
import Derived.Test.YtiifoobkmojdcaaRingS
import Derived.Deep.Cut
import Derived.Deep.CutRange
import Derived.Deep.CutBlock
namespace Go.Proofs.Ytiifoobkmojdcaa
open Go.RowKit
set_option maxRecDepth 100000

set_option maxHeartbeats 4000000 in
theorem RingSums_law (room : Int) (v : Value) (l : List (Int × Int × Unit)) (w : World) (_hr : -9223372036854775808 ≤ room ∧ room ≤ 9223372036854775807) (sl : SlP 2 RAct13 w v l) :
    Calls Try.prog 10 #[.int .i64 room, v] w fun e w' => e = .returned (.bool true) ∧ More w w' := by
  have SL := Lib.hid sl
  obtain ⟨oa, cap, rfl, hl63, hel⟩ := act13 sl
  clear sl
  by_cases hroom : room < 1 ∨ 8 < room
  · go_enter Try.func10, Try.ntmps10
    go_wp2_with first | (go_at_call 37; refine (awake13 _).mono ?_; rintro e w1 ⟨rfl, hm1⟩) | (go_at_call 38; refine (RNew_bad room hroom _).mono ?_; rintro e w2 ⟨⟨x2, rfl⟩, hm2⟩)
    go_ret
    exact ⟨rfl, hm1.trans hm2⟩
  · obtain ⟨n, rfl⟩ : ∃ n : Nat, room = n := ⟨room.toNat, by omega⟩
    have hn1 : 1 ≤ n := by omega
    have hn8 : n ≤ 8 := by omega
    by_cases hlen : (l.length : Int) ≤ 300
    · go_enter Try.func10, Try.ntmps10
      go_wp2_with first | (go_at_call 37; refine (awake13 _).mono ?_; rintro e w1 ⟨rfl, hm1⟩) | (go_at_call 38; refine (RNew_good n n rfl hn1 hn8 _).mono ?_; rintro e w2 ⟨R, A, rfl, hR, hA, hr2, hm2⟩)
      have hM := hm1.trans hm2
      have hRw : w.heap.size ≤ R := Nat.le_trans hm1.size hR
      have hAw : w.heap.size ≤ A := Nat.le_trans hm1.size hA
      go_loopw [39] (fun i wr => ∃ j : Nat, j ≤ l.length ∧ i = .int .i64 j ∧ (∃ f s cs, RingAt wr R A n f s cs ∧ Sum13 s j) ∧ More w wr) (fun i _ => l.length - (intOf i).toNat)
      case atStart => exact ⟨0, by omega, rfl, ⟨0, _, _, hr2, ⟨rfl, ⟨by decide, by decide⟩, by decide, by decide, by decide⟩⟩, hM⟩
      case round =>
        obtain ⟨j, hj, rfl, ⟨f, s, cs, hr, hs⟩, hmr⟩ := hrel
        by_cases hlt : j < l.length
        · obtain ⟨b, off, rfl, hb, hx0, hx1⟩ := hel j hlt
          have c0 := hmr.cells b (off + j * 2) hb
          have c1 := hmr.cells b (off + j * 2 + 1) hb
          rw [hx0] at c0
          rw [hx1] at c1
          have hjl : (j : Int) < (l.length : Int) := by omega
          have hbw : b < wr.heap.size := Nat.lt_of_lt_of_le hb hmr.size
          generalize (l.getD j (0, 0, ())).1 = d at *
          generalize (l.getD j (0, 0, ())).2.1 = x at *
          clear hx0 hx1 hel
          have hqn : ∀ q : List Int, q ≠ [] → 0 < (q.length : Int) := fun q h => by have := List.length_pos_iff.2 h; omega
          have hsm := hs.small (show j ≤ 1000 by omega)
          have hRr := blk_lt hr.ring
          have hAr := blk_lt hr.row
          have hfit := hr.fits
          have HS := Lib.hid hs
          clear hs
          go_upto_block 2 with (first | (go_at_call 39; ((with_reducible refine (RCounts_any (hr.more (More.alloc wr _))).mono ?_); rintro e w3 ⟨rfl, hm3⟩; have q0 := hm3.new 0 (v := .int .i64 _) rfl; have q1 := hm3.new 1 (v := .int .i64 x) rfl; have hs3 : wr.heap.size < w3.heap.size := Nat.lt_of_lt_of_le (by simp) hm3.size; have hr3 := (hr.more (More.alloc wr _)).more hm3; have hmw := (hmr.al _).trans hm3; have hRl := blk_lt hr3.ring; have hAl := blk_lt hr3.row; have HY : Hid (Cop13 R A w3.heap.size s w (w3.alloc (.cells #[.int .i64 s.cin, .int .i64 s.cout, .int .i64 s.cdrop, .int .i64 s.cdrain] 58))) := Lib.hid ⟨_, Away.refl _ _, blk_new _ _, hmw.al _, hRl, hAl⟩; have HX : Hid (∃ f6 s6 cs6, RingAt (w3.alloc (.cells #[.int .i64 s.cin, .int .i64 s.cout, .int .i64 s.cdrop, .int .i64 s.cdrain] 58)) R A n f6 s6 cs6 ∧ Then13 s s6 j n) := Lib.hid ⟨f, s, cs, hr3.more (More.alloc _ _), Then13.same HS.out⟩)) | (go_at_call 40; ((with_reducible refine (RLen_any hr3).mono ?_); rintro e w4 ⟨rfl, rfl⟩)) | (go_at_call 41; ((with_reducible refine (RClosed_any hr3).mono ?_); rintro e w5 ⟨rfl, rfl⟩)))
          go_cut [10, 11, 12, 13, 14, 15, 16, 39] from 40 to 158 (fun s10 s11 s12 s13 s14 s15 s16 s39 wx => s10 = .int .i64 s.q.length ∧ s11 = .bool s.closed ∧ s39 = .int .i64 j ∧ Cop13 R A w5.heap.size s w wx ∧ ∃ f6 s6 cs6, RingAt wx R A n f6 s6 cs6 ∧ Then13 s s6 j n)
          case first =>
            have hways : (d = 0 ∧ s.closed = true) ∨ (d = 0 ∧ s.closed = false ∧ s.q.length < n) ∨ (d = 0 ∧ s.closed = false ∧ s.q.length = n) ∨ (d = 1 ∧ s.closed = true ∧ s.q = []) ∨ (d = 1 ∧ s.closed = false ∧ s.q = []) ∨ (d = 1 ∧ s.closed = true ∧ s.q ≠ []) ∨ (d = 1 ∧ s.closed = false ∧ s.q ≠ []) ∨ (d = 2 ∧ s.closed = true) ∨ (d = 2 ∧ s.closed = false) ∨ (d = 3 ∧ s.closed = true) ∨ (d = 3 ∧ s.closed = false) ∨ ((¬ d = 0 ∧ ¬ d = 1 ∧ ¬ d = 2 ∧ ¬ d = 3) ∧ s.closed = true) ∨ ((¬ d = 0 ∧ ¬ d = 1 ∧ ¬ d = 2 ∧ ¬ d = 3) ∧ s.closed = false) := by
              have hfit := hr.fits
              cases s.closed <;> by_cases h1 : s.q = [] <;> simp [h1] <;> omega
            rcases hways with ⟨hd, hc⟩ | ⟨hd, hc, hq⟩ | ⟨hd, hc, hq⟩ | ⟨hd, hc, hq⟩ | ⟨hd, hc, hq⟩ | ⟨hd, hc, hq⟩ | ⟨hd, hc, hq⟩ | ⟨hd, hc⟩ | ⟨hd, hc⟩ | ⟨hd, hc⟩ | ⟨hd, hc⟩ | ⟨hd, hc⟩ | ⟨hd, hc⟩
            all_goals try have hq5 := hqn _ hq
            all_goals try have hq8 := List.length_pos_iff.2 hq
            all_goals try have hq6 : ((s.q.length : Int) = (n : Int)) := by omega
            all_goals try have hq6 : ¬ ((s.q.length : Int) = (n : Int)) := by omega
            all_goals try have hq7 : ((s.q.length : Int) = 0) := by simp [hq]
            all_goals first | subst hd | obtain ⟨hd0, hd1, hd2, hd3⟩ := hd
            all_goals (go_wp2_with first | (go_at_call 42; ((with_reducible refine (RPush_closed (hr3.more (More.alloc _ _)) hc x).mono ?_); rintro e w6 ⟨rfl, rfl⟩)) | (go_at_call 42; ((with_reducible refine (RPush_room (hr3.more (More.alloc _ _)) hsm hc hq x).mono ?_); rintro e w6 ⟨rfl, h6, a6⟩; have HY := Lib.hid (HY.out.away a6); have HX := Lib.hid (⟨_, _, _, h6, Then13.put x HS.out hc⟩ : ∃ f6 s6 cs6, RingAt w6 R A n f6 s6 cs6 ∧ Then13 s s6 j n); clear h6 a6)) | (go_at_call 42; ((with_reducible refine (RPush_full (hr3.more (More.alloc _ _)) hsm hc hq x).mono ?_); rintro e w6 ⟨rfl, ⟨cs6, h6⟩, a6⟩; have HY := Lib.hid (HY.out.away a6); have HX := Lib.hid (⟨_, _, _, h6, Then13.full x HS.out hc (by intro e; rw [e] at hq; simp at hq; omega)⟩ : ∃ f6 s6 cs6, RingAt w6 R A n f6 s6 cs6 ∧ Then13 s s6 j n); clear h6 a6)) | (go_at_call 43; ((with_reducible refine (RPop_none (hr3.more (More.alloc _ _)) hq).mono ?_); rintro e w6 ⟨rfl, rfl⟩)) | (go_at_call 43; ((with_reducible refine (RPop_some (hr3.more (More.alloc _ _)) hsm hq).mono ?_); rintro e w6 ⟨rfl, h6, a6⟩; have HY := Lib.hid (HY.out.away a6); have HX := Lib.hid (⟨_, _, _, h6, Then13.pop HS.out hq⟩ : ∃ f6 s6 cs6, RingAt w6 R A n f6 s6 cs6 ∧ Then13 s s6 j n); clear h6 a6)) | (go_at_call 44; ((with_reducible refine (RDrain_any (hr3.more (More.alloc _ _)) hsm).mono ?_); rintro e w6 ⟨v6, rfl, ⟨oa6, cap6, rfl, _⟩, ⟨f6, cs6, h6⟩, a6⟩; have HY := Lib.hid (HY.out.away a6); have HX := Lib.hid (⟨_, _, _, h6, Then13.drain HS.out⟩ : ∃ f6 s6 cs6, RingAt w6 R A n f6 s6 cs6 ∧ Then13 s s6 j n); clear h6 a6)) | (go_at_call 45; ((with_reducible refine (RClose_any (hr3.more (More.alloc _ _))).mono ?_); rintro e w6 ⟨rfl, h6, a6⟩; have HY := Lib.hid (HY.out.away a6); have HX := Lib.hid (⟨_, _, _, h6, Then13.close HS.out⟩ : ∃ f6 s6 cs6, RingAt w6 R A n f6 s6 cs6 ∧ Then13 s s6 j n); clear h6 a6)))
            all_goals (go_meet; exact ⟨by first | rfl | (rw [hq6]) | (rw [hq7]), by first | rfl | (rw [hc]), rfl, HY.out, HX.out⟩)
          case rest =>
            obtain ⟨rfl, rfl, rfl, hy, f6, s6, cs6, h6, th⟩ := hcut
            have HT := Lib.hid th
            have HY := Lib.hid hy
            clear th hy
            cases hc : s.closed
            all_goals (
              go_wp2_with (go_at_call 39; refine (RCounts_any h6).mono ?_; rintro e w7 ⟨rfl, hm7⟩)
              have h8 := (h6.more hm7).more (More.alloc w7 (.cells #[.int .i64 s6.cin, .int .i64 s6.cout, .int .i64 s6.cdrop, .int .i64 s6.cdrain] 58))
              have k8 := blk_alloc (blk_more hm7 HY.out.blk) (.cells #[.int .i64 s6.cin, .int .i64 s6.cout, .int .i64 s6.cdrop, .int .i64 s6.cdrain] 58)
              have L0 : ∀ x : Later (w7.alloc (.cells #[.int .i64 s6.cin, .int .i64 s6.cout, .int .i64 s6.cdrop, .int .i64 s6.cdrain] 58)), x.w'.cell? ⟨w7.heap.size, 0, none⟩ = some (.int .i64 s6.cin) := fun x => x.new 0 rfl
              have L1 : ∀ x : Later (w7.alloc (.cells #[.int .i64 s6.cin, .int .i64 s6.cout, .int .i64 s6.cdrop, .int .i64 s6.cdrain] 58)), x.w'.cell? ⟨w7.heap.size, 1, none⟩ = some (.int .i64 s6.cout) := fun x => x.new 1 rfl
              have L2 : ∀ x : Later (w7.alloc (.cells #[.int .i64 s6.cin, .int .i64 s6.cout, .int .i64 s6.cdrop, .int .i64 s6.cdrain] 58)), x.w'.cell? ⟨w7.heap.size, 2, none⟩ = some (.int .i64 s6.cdrop) := fun x => x.new 2 rfl
              have L3 : ∀ x : Later (w7.alloc (.cells #[.int .i64 s6.cin, .int .i64 s6.cout, .int .i64 s6.cdrop, .int .i64 s6.cdrain] 58)), x.w'.cell? ⟨w7.heap.size, 3, none⟩ = some (.int .i64 s6.cdrain) := fun x => x.new 3 rfl
              have N0 : ∀ x : Later (w7.alloc (.cells #[.int .i64 s6.cin, .int .i64 s6.cout, .int .i64 s6.cdrop, .int .i64 s6.cdrain] 58)), x.w'.cell? ⟨w5.heap.size, 0, none⟩ = some (.int .i64 s.cin) := fun x => blk_cell (blk_more x.h k8) 0 rfl
              have N1 : ∀ x : Later (w7.alloc (.cells #[.int .i64 s6.cin, .int .i64 s6.cout, .int .i64 s6.cdrop, .int .i64 s6.cdrain] 58)), x.w'.cell? ⟨w5.heap.size, 1, none⟩ = some (.int .i64 s.cout) := fun x => blk_cell (blk_more x.h k8) 1 rfl
              have N2 : ∀ x : Later (w7.alloc (.cells #[.int .i64 s6.cin, .int .i64 s6.cout, .int .i64 s6.cdrop, .int .i64 s6.cdrain] 58)), x.w'.cell? ⟨w5.heap.size, 2, none⟩ = some (.int .i64 s.cdrop) := fun x => blk_cell (blk_more x.h k8) 2 rfl
              have N3 : ∀ x : Later (w7.alloc (.cells #[.int .i64 s6.cin, .int .i64 s6.cout, .int .i64 s6.cdrop, .int .i64 s6.cdrain] 58)), x.w'.cell? ⟨w5.heap.size, 3, none⟩ = some (.int .i64 s.cdrain) := fun x => blk_cell (blk_more x.h k8) 3 rfl
              have e0 := HT.out.inv.sum.symm
              have e1 : ¬ ((n : Int) < (s6.q.length : Int)) := by have := h8.fits; omega
              have e1' : ¬ (n < s6.q.length) := by have := h8.fits; omega
              have e2 : ¬ (s6.cin < s.cin) := by have := HT.out.i0; omega
              have e3 : ¬ (s6.cout < s.cout) := by have := HT.out.i1; omega
              have e4 : ¬ (s6.cdrop < s.cdrop) := by have := HT.out.i2; omega
              have e5 : ¬ (s6.cdrain < s.cdrain) := by have := HT.out.i3; omega
              have b0 : s6.cin ≤ 301 := by have := HT.out.inv.c0.2; omega
              have b1 : 0 ≤ s6.cin := HT.out.inv.c0.1
              have b2 := HT.out.inv.c1
              have b3 := HT.out.inv.c2
              have b4 := HT.out.inv.c3
              have b5 : s6.cout ≤ 301 := by omega
              have b6 : s6.cdrop ≤ 301 := by omega
              have b7 : s6.cdrain ≤ 301 := by omega
              have b8 : (s6.q.length : Int) ≤ 8 := by omega
              have b9 : 0 ≤ (s6.q.length : Int) := by omega
              try have e6 := HT.out.shut hc
              refine wp_region_later _ (More.refl _) (by kernel_rfl) (by kernel_rfl) ?_
              repeat (go_big_quiet_step ((go_at_call 40; exact calls_later_same (RLen_any (h8.more (Later.h _))))))
              refine wpQuiet_nil ?_
              intro _ hw'
              obtain ⟨x9, rfl⟩ := hw'
              go_wp2_with fail
              go_roundw
              case rel => exact ⟨j + 1, by omega, by go_num, ⟨f6, s6, cs6, h8.more x9.h, HT.out.inv⟩, (((HY.out.more hRw hAw).trans hm7).al _).trans x9.h⟩
              case measure => simp [intOf]; omega)
        · obtain rfl : j = l.length := by omega
          have hsm := hs.small (show l.length ≤ 1000 by omega)
          have hfit := hr.fits
          clear hel
          go_wp2_with first | (go_at_call 40; ((with_reducible refine (RLen_any hr).mono ?_); rintro e w4 ⟨rfl, rfl⟩)) | (go_at_call 45; ((with_reducible refine (RClose_any hr).mono ?_); rintro e w5 ⟨rfl, h5, a5⟩; have m5 := Away.to_more hmr a5 (by rintro k (rfl | rfl) <;> assumption)))
          go_loopw [164] (fun i wz => ∃ k : Nat, k ≤ s.q.length ∧ i = .int .i64 k ∧ (∃ f s' cs, RingAt wz R A n f s' cs ∧ Sum13 s' l.length ∧ s'.q.length + k = s.q.length) ∧ More w wz) (fun i _ => s.q.length - (intOf i).toNat)
          case atStart => exact ⟨0, by omega, rfl, ⟨_, _, _, h5, ⟨hs.sum, hs.c0, hs.c1, hs.c2, hs.c3⟩, rfl⟩, m5⟩
          case round =>
            obtain ⟨k, hk, rfl, ⟨f7, s7, cs7, hr7, hs7, hq7⟩, hm7⟩ := hrel
            have hsm7 := hs7.small (show l.length ≤ 1000 by omega)
            have HS7 := Lib.hid hs7
            clear hs7
            by_cases hlt : k < s.q.length
            · have hne : s7.q ≠ [] := by intro e; rw [e] at hq7; simp at hq7; omega
              go_wp2_with (go_at_call 43; ((with_reducible refine (RPop_some hr7 hsm7 hne).mono ?_); rintro e w8 ⟨rfl, h8, a8⟩))
              go_roundw
              case rel =>
                have hs7 := HS7.out
                have := List.length_pos_iff.2 hne
                exact ⟨k + 1, by omega, by go_num, ⟨_, _, _, h8, ⟨by have := hs7.sum; simp only [RS.pop, List.length_tail]; omega, hs7.c0, by have := hs7.c1; simp only [RS.pop]; omega, hs7.c2, hs7.c3⟩, by simp only [RS.pop, List.length_tail]; omega⟩, Away.to_more hm7 a8 (by rintro k (rfl | rfl) <;> assumption)⟩
              case measure => simp [intOf]; omega
            · obtain rfl : k = s.q.length := by omega
              have hnil : s7.q = [] := List.eq_nil_of_length_eq_zero (by omega)
              have hn0 : (s7.q.length : Int) = 0 := by simp [hnil]
              go_wp2_with first | (go_at_call 43; ((with_reducible refine (RPop_none hr7 hnil).mono ?_); rintro e w8 ⟨rfl, rfl⟩)) | (go_at_call 40; ((with_reducible refine (RLen_any hr7).mono ?_); rintro e w9 ⟨rfl, rfl⟩; rw [hn0]))
              go_ret
              exact ⟨rfl, hm7⟩
    · go_enter Try.func10, Try.ntmps10
      go_wp2_with first | (go_at_call 37; refine (awake13 _).mono ?_; rintro e w1 ⟨rfl, hm1⟩) | (go_at_call 38; refine (RNew_good n n rfl hn1 hn8 _).mono ?_; rintro e w2 ⟨R, A, rfl, hR, hA, hr2, hm2⟩)
      go_ret
      exact ⟨rfl, hm1.trans hm2⟩
end Go.Proofs.Ytiifoobkmojdcaa
