/- The law RingOrders, walked. -/
import Derived.Test.YtiifoobkmojdcaaRingO
import Derived.Deep.Cut
import Derived.Deep.CutRange
import Derived.Deep.CutBlock
namespace Go.Proofs.Ytiifoobkmojdcaa
open Go.RowKit
set_option maxRecDepth 100000

theorem slice_cap {w : World} {base oe n cap m : Nat} {oa : Option Addr} {xs : List Value} (h : w.ownsRow base oe 1 (.slice oa n cap) m xs) : n = m ∧ n ≤ cap := by
  rcases h.2 with ⟨e, h0⟩ | ⟨b, cap', cur, e, _, _, hc, _⟩
  · cases e; exact ⟨h0.symm, by omega⟩
  · cases e; exact ⟨rfl, hc⟩

set_option maxHeartbeats 4000000 in
theorem RingOrders_law (room : Int) (v : Value) (l : List (Int × Int × Unit)) (w : World) (_hr : -9223372036854775808 ≤ room ∧ room ≤ 9223372036854775807) (sl : SlP 2 RAct13 w v l) :
    Calls Try.prog 11 #[.int .i64 room, v] w fun e w' => e = .returned (.bool true) ∧ More w w' := by
  have SL := Lib.hid sl
  obtain ⟨i0, hi, hz0, hz1, hz2⟩ := info_parts (P := Try.prog) (e := 3) (z := .int .i64 0) (size := 1) (bytes := 8) (by kernel_rfl)
  obtain ⟨oa, cap, rfl, hl63, hel⟩ := act13 sl
  clear sl
  by_cases hroom : room < 1 ∨ 8 < room
  · go_enter Try.func11, Try.ntmps11
    go_wp2_with first | (go_at_call 37; refine (awake13 _).mono ?_; rintro e w1 ⟨rfl, hm1⟩) | (go_at_call 38; refine (RNew_bad room hroom _).mono ?_; rintro e w2 ⟨⟨x2, rfl⟩, hm2⟩)
    go_ret
    exact ⟨rfl, hm1.trans hm2⟩
  · obtain ⟨n, rfl⟩ : ∃ n : Nat, room = n := ⟨room.toNat, by omega⟩
    have hn1 : 1 ≤ n := by omega
    have hn8 : n ≤ 8 := by omega
    by_cases hlen : (l.length : Int) ≤ 300
    · go_enter Try.func11, Try.ntmps11
      go_wp2_with first | (go_at_call 37; refine (awake13 _).mono ?_; rintro e w1 ⟨rfl, hm1⟩) | (go_at_call 38; refine (RNew_good n n rfl hn1 hn8 _).mono ?_; rintro e w2 ⟨R, A, rfl, hR, hA, hr2, hm2⟩)
      have hM := hm1.trans hm2
      have hRw : w.heap.size ≤ R := Nat.le_trans hm1.size hR
      have hAw : w.heap.size ≤ A := Nat.le_trans hm1.size hA
      have hRb := blk_lt hr2.ring
      have hAb := blk_lt hr2.row
      have hbase : ∀ k, Two2 R A k → k < w2.heap.size := by rintro k (rfl | rfl) <;> assumption
      have hbw : ∀ k, Two2 R A k → w.heap.size ≤ k := by rintro k (rfl | rfl) <;> assumption
      go_loopw [7, 8, 32] (fun vc vg i wr => ∃ (j : Nat) (oc : Option Addr) (nc cc : Nat) (og : Option Addr) (ng cg : Nat), j ≤ l.length ∧ i = .int .i64 j ∧ vc = .slice oc nc cc ∧ vg = .slice og ng cg ∧ (Ord13 w w2.heap.size R A n j wr (.slice oc nc cc) (.slice og ng cg) nc ng ∧ w2.heap.size ≤ wr.heap.size)) (fun _ _ i _ => l.length - (intOf i).toNat)
      case atStart => exact ⟨0, none, 0, 0, none, 0, 0, by omega, rfl, rfl, rfl, ⟨[], [], 0, _, _, hr2, ⟨rfl, ⟨by decide, by decide⟩, by decide, by decide, by decide⟩, ⟨⟨rfl, Or.inl ⟨rfl, rfl⟩⟩, ⟨rfl, Or.inl ⟨rfl, rfl⟩⟩, fun b hb => by cases hb⟩, rfl, rfl, rfl, by omega, hM⟩, by omega⟩
      case round =>
        obtain ⟨j, oc, nc, cc, og, ng, cg, hj, rfl, rfl, rfl, ⟨lc, lg, f, s, cs, hr, hs, ro, hql, hnc, hng, hncj, hmr⟩, hsz⟩ := hrel
        by_cases hlt : j < l.length
        · obtain ⟨b, off, rfl, hb, hx0, hx1⟩ := hel j hlt
          have c0 := hmr.cells b (off + j * 2) hb
          have c1 := hmr.cells b (off + j * 2 + 1) hb
          rw [hx0] at c0
          rw [hx1] at c1
          have hjl : (j : Int) < (l.length : Int) := by omega
          have hbr : b < wr.heap.size := Nat.lt_of_lt_of_le hb hmr.size
          generalize (l.getD j (0, 0, ())).1 = d at *
          generalize (l.getD j (0, 0, ())).2.1 = x at *
          clear hx0 hx1 hel
          have hsm := hs.small (show j ≤ 1000 by omega)
          have hfit := hr.fits
          have HS := Lib.hid hs
          have HQ := Lib.hid hql
          have HC := Lib.hid hnc
          have HG := Lib.hid hng
          have hln : lc.length = lg.length + s.q.length := by rw [hql, List.length_append]
          clear hs hql
          have hRr := blk_lt hr.ring
          have hAr := blk_lt hr.row
          have hRE := More.alloc wr (.cells #[.int .i64 d, .int .i64 x] 56)
          have hx : (wr.alloc (.cells #[.int .i64 d, .int .i64 x] 56)).heap[wr.heap.size]? = some (.cells #[.int .i64 d, .int .i64 x] 56 (0, 0)) := blk_new _ _
          have hn0 : ¬ Two2 R A wr.heap.size := by rintro (e | e) <;> omega
          have hlc : lc.length ≤ 300 := by omega
          have hlj : lc.length ≤ j := by omega
          have hlg : lg.length ≤ 300 := by omega
          have hzE := Nat.le_trans hsz hRE.size
          have hlen8 : s.q.length ≤ 8 := by omega
          clear hnc hng
          have HX : Hid (Ord13 w w2.heap.size R A n (j + 1) (wr.alloc (.cells #[.int .i64 d, .int .i64 x] 56)) (.slice oc nc cc) (.slice og ng cg) nc ng ∧ w2.heap.size ≤ (wr.alloc (.cells #[.int .i64 d, .int .i64 x] 56)).heap.size) := Lib.hid ⟨⟨lc, lg, f, s, cs, hr.more hRE, (Then13.same (room := n) HS.out).inv, ro.more hRE, HQ.out, HC.out, HG.out, by omega, hmr.trans hRE⟩, hzE⟩
          go_upto_block 2 with fail
          go_cut [7, 8, 11, 12, 13, 14, 15, 32] from 33 to 106 (fun s7 s8 s11 s12 s13 s14 s15 s32 wx => s32 = .int .i64 j ∧ ∃ oc nc cc og ng cg, s7 = .slice oc nc cc ∧ s8 = .slice og ng cg ∧ (Ord13 w w2.heap.size R A n (j + 1) wx (.slice oc nc cc) (.slice og ng cg) nc ng ∧ w2.heap.size ≤ wx.heap.size))
          case first =>
            have hways : (d = 0 ∧ s.closed = true) ∨ (d = 0 ∧ s.closed = false ∧ s.q.length < n) ∨ (d = 0 ∧ s.closed = false ∧ s.q.length = n) ∨ (d = 1 ∧ s.q = []) ∨ (d = 1 ∧ s.q ≠ []) ∨ d = 2 ∨ d = 3 ∨ (¬ d = 0 ∧ ¬ d = 1 ∧ ¬ d = 2 ∧ ¬ d = 3) := by
              cases s.closed <;> by_cases h1 : s.q = [] <;> simp [h1] <;> omega
            rcases hways with ⟨hd, hc⟩ | ⟨hd, hc, hq⟩ | ⟨hd, hc, hq⟩ | ⟨hd, hq⟩ | ⟨hd, hq⟩ | hd | hd | ⟨hd0, hd1, hd2, hd3⟩
            all_goals first | subst hd | skip
            · go_wp2_with (go_at_call 42; ((with_reducible refine (RPush_closed (hr.more (More.alloc wr _)) hc x).mono ?_); rintro e w6 ⟨rfl, rfl⟩))
              go_meet
              exact ⟨rfl, _, _, _, _, _, _, rfl, rfl, HX.out⟩
            · go_wp2_with first | (go_at_call 42; ((with_reducible refine (RPush_room (hr.more (More.alloc wr _)) hsm hc hq x).mono ?_); rintro e w6 ⟨rfl, h6, a6⟩; have q1 := blk_cell (a6.blk hx hn0) 1 (v := .int .i64 x) rfl; have h7 := Lib.hid (h6.more (More.alloc w6 (.cells #[.int .i64 x] 3))); have o7 := (((ro.more hRE).away a6 hbase).more (More.alloc w6 (.cells #[.int .i64 x] 3))); have m7 := ((Away.to_more (hmr.trans hRE) a6 hbw).al (.cells #[.int .i64 x] 3)); have z7 := Nat.le_trans hzE (Nat.le_trans a6.size (More.alloc w6 (.cells #[.int .i64 x] 3)).size); clear h6; have s7 := Lib.hid (Then13.put (room := n) x HS.out hc).inv; have q7 : Hid (lc ++ [x] = lg ++ (s.put x).q) := Lib.hid (by rw [HQ.out]; simp [RS.put]))) | (at_builtin; refine wpList_append_at _ rfl (.tmp 50) (.tmp 53) 65 rfl w2.heap.size 3 i0 (.int .i64 0) 8 Try.underlying65 hi hz0 hz1 hz2 rfl _ .i64 lc rfl o7.c _ [x] rfl (SlI.lit .i64 w6 [x] 3 _ 1 _ (by simp) rfl rfl (by simp)) (by simp; omega) (by decide) z7 ?_; intro v' w8 ho hg hb; have h8 := Lib.hid (o7.grown_c hg h7.out hRb hAb); have o8 := Lib.hid (o7.came ho hg hb); have m8 := Lib.hid (more_grown m7 o7.c hg hM.size); have z8 := Nat.le_trans z7 hg.size; obtain ⟨oc8, nc8, cc8, rfl, hnc8, _⟩ := slice_of_owns ho; have C8 := Lib.hid hnc8; clear ho hg hb hnc8 h7)
              go_meet
              exact ⟨rfl, oc8, nc8, cc8, og, ng, cg, rfl, rfl, ⟨_, _, _, _, _, h8.out, s7.out, o8.out, q7.out, C8.out, HG.out, by rw [C8.out]; simp; omega, m8.out⟩, z8⟩
            · have hqn : s.q ≠ [] := by intro e; rw [e] at hq; simp at hq; omega
              go_wp2_with first | (go_at_call 42; ((with_reducible refine (RPush_full (hr.more (More.alloc wr _)) hsm hc hq x).mono ?_); rintro e w6 ⟨rfl, ⟨cs6, h6⟩, a6⟩; have q1 := blk_cell (a6.blk hx hn0) 1 (v := .int .i64 x) rfl; have h7 := Lib.hid (h6.more (More.alloc w6 (.cells #[.int .i64 x] 3))); have o7 := (((ro.more hRE).away a6 hbase).more (More.alloc w6 (.cells #[.int .i64 x] 3))); have m7 := ((Away.to_more (hmr.trans hRE) a6 hbw).al (.cells #[.int .i64 x] 3)); have z7 := Nat.le_trans hzE (Nat.le_trans a6.size (More.alloc w6 (.cells #[.int .i64 x] 3)).size); clear h6; have s7 := Lib.hid (Then13.full (room := n) x HS.out hc hqn).inv; have q7 : Hid (lc ++ [x] = (lg ++ [s.q.headD 0]) ++ (s.drop.put x).q) := Lib.hid (by rw [HQ.out]; cases hq' : s.q with | nil => exact absurd hq' hqn | cons y ys => simp [RS.put, RS.drop, hq']))) | (at_builtin; refine wpList_append_at _ rfl (.tmp 50) (.tmp 53) 65 rfl w2.heap.size 3 i0 (.int .i64 0) 8 Try.underlying65 hi hz0 hz1 hz2 rfl _ .i64 lc rfl o7.c _ [x] rfl (SlI.lit .i64 w6 [x] 3 _ 1 _ (by simp) rfl rfl (by simp)) (by simp; omega) (by decide) z7 ?_; intro v' w8 ho hg hb; have h8 := Lib.hid (o7.grown_c hg h7.out hRb hAb); have o8 := Lib.hid (o7.came ho hg hb); have m8 := Lib.hid (more_grown m7 o7.c hg hM.size); have z8 := Nat.le_trans z7 hg.size; obtain ⟨oc8, nc8, cc8, rfl, hnc8, _⟩ := slice_of_owns ho; have C8 := Lib.hid hnc8; clear ho hg hb hnc8 h7) | (at_builtin; refine wpList_append_at _ rfl (.tmp 56) (.tmp 58) 65 rfl w2.heap.size 3 i0 (.int .i64 0) 8 Try.underlying65 hi hz0 hz1 hz2 rfl _ .i64 lg rfl ((o8.out).more (More.alloc w8 _)).g _ [s.q.headD 0] rfl (SlI.lit .i64 w8 [s.q.headD 0] 3 _ 1 _ (by simp) rfl rfl (by simp)) (by simp; omega) (by decide) (Nat.le_trans z8 (More.alloc w8 _).size) ?_; intro v' w9 ho hg hb; have h9 := Lib.hid (((o8.out).more (More.alloc w8 _)).grown_g hg ((h8.out).more (More.alloc w8 _)) hRb hAb); have o9 := Lib.hid (((o8.out).more (More.alloc w8 _)).gone ho hg hb); have m9 := Lib.hid (more_grown ((m8.out).al _) ((o8.out).more (More.alloc w8 _)).g hg hM.size); have z9 := Nat.le_trans (Nat.le_trans z8 (More.alloc w8 _).size) hg.size; obtain ⟨og9, ng9, cg9, rfl, hng9, _⟩ := slice_of_owns ho; have C9 := Lib.hid hng9; clear ho hg hb hng9)
              go_meet
              exact ⟨rfl, oc8, nc8, cc8, og9, ng9, cg9, rfl, rfl, ⟨_, _, _, _, _, h9.out, s7.out, o9.out, q7.out, C8.out, C9.out, by rw [C8.out]; simp; omega, m9.out⟩, z9⟩
            · go_wp2_with (go_at_call 43; ((with_reducible refine (RPop_none (hr.more (More.alloc wr _)) hq).mono ?_); rintro e w6 ⟨rfl, rfl⟩))
              go_meet
              exact ⟨rfl, _, _, _, _, _, _, rfl, rfl, HX.out⟩
            · go_wp2_with first | (go_at_call 43; ((with_reducible refine (RPop_some (hr.more (More.alloc wr _)) hsm hq).mono ?_); rintro e w6 ⟨rfl, h6, a6⟩; have o6 := ((ro.more hRE).away a6 hbase); have m6 := (Away.to_more (hmr.trans hRE) a6 hbw); have z6 := Nat.le_trans hzE a6.size; have s7 := Lib.hid (Then13.pop (room := n) HS.out hq).inv; have q7 : Hid (lc = (lg ++ [s.q.headD 0]) ++ s.pop.q) := Lib.hid (by rw [HQ.out]; cases hq' : s.q with | nil => exact absurd hq' hq | cons y ys => simp [RS.pop, hq']))) | (at_builtin; refine wpList_append_at _ rfl (.tmp 68) (.tmp 70) 65 rfl w2.heap.size 3 i0 (.int .i64 0) 8 Try.underlying65 hi hz0 hz1 hz2 rfl _ .i64 lg rfl ((o6).more (More.alloc w6 _)).g _ [s.q.headD 0] rfl (SlI.lit .i64 w6 [s.q.headD 0] 3 _ 1 _ (by simp) rfl rfl (by simp)) (by simp; omega) (by decide) (Nat.le_trans z6 (More.alloc w6 _).size) ?_; intro v' w9 ho hg hb; have h9 := Lib.hid (((o6).more (More.alloc w6 _)).grown_g hg ((h6).more (More.alloc w6 _)) hRb hAb); have o9 := Lib.hid (((o6).more (More.alloc w6 _)).gone ho hg hb); have m9 := Lib.hid (more_grown ((m6).al _) ((o6).more (More.alloc w6 _)).g hg hM.size); have z9 := Nat.le_trans (Nat.le_trans z6 (More.alloc w6 _).size) hg.size; obtain ⟨og9, ng9, cg9, rfl, hng9, _⟩ := slice_of_owns ho; have C9 := Lib.hid hng9; clear ho hg hb hng9)
              go_meet
              exact ⟨rfl, oc, nc, cc, og9, ng9, cg9, rfl, rfl, ⟨_, _, _, _, _, h9.out, s7.out, o9.out, q7.out, HC.out, C9.out, by rw [HC.out]; omega, m9.out⟩, z9⟩
            · go_wp2_with first | (go_at_call 44; ((with_reducible refine (RDrain_any (hr.more (More.alloc wr _)) hsm).mono ?_); rintro e w6 ⟨v6, rfl, v6s, ⟨f6, cs6, h6⟩, a6⟩; have o6 := ((ro.more hRE).away a6 hbase); have m6 := (Away.to_more (hmr.trans hRE) a6 hbw); have z6 := Nat.le_trans hzE a6.size; have V6 := Lib.hid v6s; obtain ⟨oa6, cap6, rfl, _⟩ := v6s; have s7 := Lib.hid (Then13.drain (room := n) HS.out).inv; have q7 : Hid (lc = (lg ++ s.q) ++ []) := Lib.hid (by rw [HQ.out]; simp))) | (at_builtin; refine wpList_append_at _ rfl (.tmp 74) (.tmp 76) 65 rfl w2.heap.size 3 i0 (.int .i64 0) 8 Try.underlying65 hi hz0 hz1 hz2 rfl _ .i64 lg rfl o6.g _ s.q rfl V6.out (by omega) (by decide) z6 ?_; intro v' w9 ho hg hb; have h9 := Lib.hid (o6.grown_g hg h6 hRb hAb); have o9 := Lib.hid (o6.gone ho hg hb); have m9 := Lib.hid (more_grown m6 o6.g hg hM.size); have z9 := Nat.le_trans z6 hg.size; obtain ⟨og9, ng9, cg9, rfl, hng9, _⟩ := slice_of_owns ho; have C9 := Lib.hid hng9; clear ho hg hb hng9)
              go_meet
              exact ⟨rfl, oc, nc, cc, og9, ng9, cg9, rfl, rfl, ⟨_, _, _, _, _, h9.out, s7.out, o9.out, q7.out, HC.out, C9.out, by rw [HC.out]; omega, m9.out⟩, z9⟩
            · go_wp2_with (go_at_call 45; ((with_reducible refine (RClose_any (hr.more (More.alloc wr _))).mono ?_); rintro e w6 ⟨rfl, h6, a6⟩; have o6 := ((ro.more hRE).away a6 hbase); have m6 := (Away.to_more (hmr.trans hRE) a6 hbw); have z6 := Nat.le_trans hzE a6.size; have s7 := Lib.hid (Then13.close (room := n) HS.out).inv))
              go_meet
              exact ⟨rfl, oc, nc, cc, og, ng, cg, rfl, rfl, ⟨_, _, _, _, _, h6, s7.out, o6, HQ.out, HC.out, HG.out, by rw [HC.out]; omega, m6⟩, z6⟩
            · go_wp2_with fail
              go_meet
              exact ⟨rfl, _, _, _, _, _, _, rfl, rfl, HX.out⟩
          case rest =>
            obtain ⟨rfl, oc8, nc8, cc8, og8, ng8, cg8, rfl, rfl, ho8, z8⟩ := hcut
            have HX := Lib.hid ho8
            clear ho8
            obtain ⟨lc6, lg6, f6, s6, cs6, h6, hs6, ro6, hq6, hnc6, hng6, hb6, hm6⟩ := HX.out
            have S6 := Lib.hid hs6
            have M6 := Lib.hid hm6
            have hlen6 : lc6.length = lg6.length + s6.q.length := by rw [hq6, List.length_append]
            have slg := SlI.of_owns ro6.g (by omega)
            have slc := SlI.of_owns ro6.c (by omega)
            have hcap6 : nc8 ≤ cc8 := (slice_cap ro6.c).2
            have slc2 := slc.take lg6.length (by omega)
            rw [← hng6] at slc2
            have htake : decide (lg6 = lc6.take lg6.length) = true := by rw [hq6]; simp
            rw [← hng6] at htake
            have HT6 := Lib.hid htake
            have HG6 := Lib.hid slg
            have HC6 := Lib.hid slc2
            have g1 : ¬ ((lc6.length : Int) < (lg6.length : Int)) := by omega
            have g2 : (lc6.length : Int) - (lg6.length : Int) = (s6.q.length : Int) := by omega
            have g3 : (lc6.length : Int) ≤ 301 := by omega
            have g4 : (lg6.length : Int) ≤ 301 := by omega
            rw [← hnc6, ← hng6] at g1 g2
            rw [← hnc6] at g3
            rw [← hng6] at g4
            have HN6 := Lib.hid hng6
            have NC6 := Lib.hid hnc6
            have Q6 := Lib.hid hq6
            clear slg slc slc2 htake hs6 hm6 hq6 hnc6 hng6 hlen6
            go_wp2_with first | (go_at_call 40; ((with_reducible refine (RLen_any h6).mono ?_); rintro e w9 ⟨rfl, rfl⟩)) | (go_at_call 46; refine (SameI_any _ _ _ _ _ HG6.out HC6.out).mono ?_; rintro e w9 ⟨rfl, k9, rfl⟩; rw [HT6.out])
            go_roundw
            case rel => exact ⟨j + 1, _, _, _, _, _, _, by omega, by go_num, rfl, rfl, ⟨⟨lc6, lg6, f6, s6, cs6, h6.drewN _, S6.out, ro6.more (More.drewN _ _), Q6.out, NC6.out, HN6.out, by omega, M6.out.dr _⟩, z8⟩⟩
            case measure => simp [intOf]; omega
        · obtain rfl : j = l.length := by omega
          have hsm := hs.small (show l.length ≤ 1000 by omega)
          have hlen6 : lc.length = lg.length + s.q.length := by rw [hql, List.length_append]
          have hlt6 : lc.length ≤ 300 := by omega
          have hgl6 : lg.length ≤ lc.length := by omega
          have HO := Lib.hid ro
          have HR := Lib.hid hr
          have HM := Lib.hid hmr
          have hdrop : decide (s.q = lc.drop lg.length) = true := by rw [hql]; simp
          rw [← hng] at hdrop
          have HD := Lib.hid hdrop
          have hcap6 : nc ≤ cc := (slice_cap ro.c).2
          have gi : (ng : Int) ≤ (nc : Int) := by omega
          have gi0 : (0 : Int) ≤ (ng : Int) := by omega
          have gc : (nc : Int) ≤ (cc : Int) := by omega
          have HG := Lib.hid hng
          clear ro hr hql hnc hng hdrop hel hlen6
          go_wp2_with fail
          refine wp_region_numS (Two2 R A) wr 8 [(0, false), (2, false), (3, false), (4, false), (5, false), (1, true), (6, true), (7, false)] (by kernel_rfl) (by kernel_rfl) ?_
          iterate 5 (refine num_quiet rfl rfl (laterS_mk (by repeat (first | exact Away.refl _ _ | assumption | refine Away.drewN ?_ _ | refine Away.set ?_ (by first | rfl | exact Or.inl rfl | exact Or.inr rfl) _))) ?_; intro K hK; go_big_quiet_op; go_big_quiet_on)
          (refine num_next rfl rfl ?_; intro K hK; unfold loud; go_simp)
          refine (RDrain_any (HR.out.drewN _) hsm).mono ?_
          rintro e w6 ⟨v6, rfl, v6s, ⟨f6, cs6, h6⟩, a6⟩
          refine ⟨_, rfl, laterS_mk (((Away.refl _ _).drewN _).trans a6), hK _ _ ?_⟩
          clear hK K
          have V6 := Lib.hid v6s
          have o6 := ((HO.out.more (More.drewN _ _)).away a6 hbase).c
          have sl6 := SlI.of_owns o6 (by omega)
          have a7 := Lib.hid (((Away.refl (Two2 R A) wr).drewN _).trans a6)
          clear o6 v6s
          (refine num_next rfl rfl ?_; intro K hK; unfold loud; go_simp)
          refine (SameI_any _ _ _ _ _ V6.out (SlI.from_ sl6 ng (by rw [HG.out]; exact hgl6) _ rfl)).mono ?_
          rintro e w7 ⟨rfl, k7, rfl⟩
          refine ⟨_, rfl, laterS_mk (a7.out.drewN _), hK _ _ ?_⟩
          clear hK K
          rw [HD.out]
          iterate 1 (refine num_quiet rfl rfl (laterS_mk (a7.out.drewN _)) ?_; intro K hK; go_big_quiet_op; go_big_quiet_on)
          refine num_nil ?_
          go_wp2
          all_goals (go_ret; exact ⟨rfl, (Away.to_more HM.out a7.out hbw).dr _⟩)
    · go_enter Try.func11, Try.ntmps11
      go_wp2_with first | (go_at_call 37; refine (awake13 _).mono ?_; rintro e w1 ⟨rfl, hm1⟩) | (go_at_call 38; refine (RNew_good n n rfl hn1 hn8 _).mono ?_; rintro e w2 ⟨R, A, rfl, hR, hA, hr2, hm2⟩)
      go_ret
      exact ⟨rfl, hm1.trans hm2⟩
end Go.Proofs.Ytiifoobkmojdcaa
