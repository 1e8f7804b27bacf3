/- The law RouteAlone, walked. -/
import Derived.Test.YtmhkjamibcdcdaaRouteF
namespace Go.Proofs.Ytmhkjamibcdcdaa
open Go.RowKit
set_option maxRecDepth 100000

set_option maxHeartbeats 16000000 in
theorem RouteAlone_law (v : Value) (l : List A19) (sub : Int) (w : World) (sl : SlP 7 RAct19 w v l) (_b1 : -9223372036854775808 ≤ sub ∧ sub ≤ 9223372036854775807) :
    Calls Try.prog 13 #[v, .int .i64 sub] w fun e w' => e = .returned (.bool true) ∧ More w w' := by
  clear _b1
  obtain ⟨i0, hi, hz0, hz1, hz2⟩ := info_parts (P := Try.prog) (e := 3) (z := .int .i64 0) (size := 1) (bytes := 8) (by kernel_rfl)
  obtain ⟨oa, cap, rfl, hl63, hel⟩ := acts19 sl
  clear sl
  by_cases hlen : (200 : Int) < (l.length : Int)
  · go_enter Try.func13, Try.ntmps13
    go_wp2_with (go_at_call 35; refine (awake19 _).mono ?_; rintro e w1 ⟨rfl, hm1⟩)
    go_ret
    exact ⟨rfl, hm1⟩
  · have hl200 : l.length ≤ 200 := by omega
    have tok1 : True := trivial
    go_enter Try.func13, Try.ntmps13
    go_wp2_with first | (go_at_call 35; refine (awake19 _).mono ?_; rintro e w1 ⟨rfl, hm1⟩; have Z1 := hm1.size; have HM1 := Lib.hid hm1; clear hm1) | (go_at_call 36; ((with_reducible refine ((fun (_ : True) => RTNew w1) tok1).mono ?_); rintro e w2 ⟨T, a, b, c, rfl, hT, ha, hb, hc, h2, m2⟩; clear tok1; have H2 := Lib.hid h2; have HM2 := Lib.hid (HM1.out.trans m2); have qT := blk_lt h2.blk; have qa := h2.mo.lt; have qb := h2.ms.lt; have qc := h2.mu.lt; clear h2 m2)) | (go_at_call 36; ((with_reducible refine (RTNew w2).mono ?_); rintro e w3 ⟨T', a', b', c', rfl, hT', ha', hb', hc', h3, m3⟩; have H3 := Lib.hid h3; have H2' := Lib.hid (H2.out.more m3); have HM3 := Lib.hid (HM2.out.trans m3); clear h3 m3))
    have hn1 : ¬ T3 a b c T' := by rintro (e | e | e) <;> omega
    have hn2 : ¬ T3 a b c a' := by rintro (e | e | e) <;> omega
    have hn3 : ¬ T3 a b c b' := by rintro (e | e | e) <;> omega
    have hn4 : ¬ T3 a b c c' := by rintro (e | e | e) <;> omega
    have hm1 : ¬ T3 a' b' c' T := by rintro (e | e | e) <;> omega
    have hm2 : ¬ T3 a' b' c' a := by rintro (e | e | e) <;> omega
    have hm3 : ¬ T3 a' b' c' b := by rintro (e | e | e) <;> omega
    have hm4 : ¬ T3 a' b' c' c := by rintro (e | e | e) <;> omega
    have hnm : ∀ z, T3 a b c z → w.heap.size ≤ z := by rintro z (e | e | e) <;> omega
    have hmm : ∀ z, T3 a' b' c' z → w.heap.size ≤ z := by rintro z (e | e | e) <;> omega
    go_loopw [29] (fun i wr => ∃ j : Nat, j ≤ l.length ∧ i = .int .i64 j ∧ ∃ t : TS, TabAt wr T a b c t ∧ TabAt wr T' a' b' c' (fT sub t) ∧ t.u.length ≤ j ∧ More w wr) (fun i _ => l.length - (intOf i).toNat)
    case atStart => exact ⟨0, by omega, rfl, ⟨[], [], []⟩, H2'.out, H3.out, by simp, HM3.out⟩
    case round =>
      obtain ⟨j, hj, rfl, t, hbk, hbo, hml, hmr⟩ := hrel
      by_cases hlt : j < l.length
      · obtain ⟨xb, off, rfl, hxb, hxa⟩ := hel j hlt
        obtain ⟨c0, c1, c2, c3, c4, c5, c6⟩ := hxa.more hmr hxb
        have hjl : (j : Int) < (l.length : Int) := by omega
        have hbwr : xb < wr.heap.size := Nat.lt_of_lt_of_le hxb hmr.size
        clear hxa hel
        generalize l.getD j a19z = y at *
        obtain ⟨d, x, p, own, s0, s1, s2⟩ := y
        simp only at c0 c1 c2 c3 c4 c5 c6
        have K5 := Lib.hid (hbk.more (More.alloc wr (.cells #[.int .i64 d, .int .i64 x, .int .i64 p, .int .u32 own, .int .u32 s0, .int .u32 s1, .int .u32 s2] 88)))
        have O5 := Lib.hid (hbo.more (More.alloc wr (.cells #[.int .i64 d, .int .i64 x, .int .i64 p, .int .u32 own, .int .u32 s0, .int .u32 s1, .int .u32 s2] 88)))
        have M5 := Lib.hid (hmr.al (.cells #[.int .i64 d, .int .i64 x, .int .i64 p, .int .u32 own, .int .u32 s0, .int .u32 s1, .int .u32 s2] 88))
        have X5 := Lib.hid (blk_new wr (.cells #[.int .i64 d, .int .i64 x, .int .i64 p, .int .u32 own, .int .u32 s0, .int .u32 s1, .int .u32 s2] 88))
        have ra := hbk.mo.lt
        have rb := hbk.ms.lt
        have rc := hbk.mu.lt
        have hnx : ¬ T3 a b c wr.heap.size := by rintro (e | e | e) <;> omega
        have HML := Lib.hid hml
        clear hbk hbo hmr hml
        have hways : d < 1 ∨ (¬ d < 1 ∧ 4 < d) ∨ (¬ d < 1 ∧ ¬ 4 < d ∧ ¬ x = sub) ∨ (¬ d < 1 ∧ ¬ 4 < d ∧ x = sub) := by omega
        rcases hways with g1 | ⟨g1, g2⟩ | ⟨g1, g2, g3⟩ | ⟨g1, g2, g3⟩
        · skip
          have hsame := alone_same (sub := sub) (t := t) (y := ⟨d, x, p, own, s0, s1, s2⟩) (by simp only; omega)
          have HSM := Lib.hid hsame
          clear hsame
          go_wp2_with first | (go_at_call 37; ((with_reducible refine (RTDo K5.out ⟨d, x, p, own, s0, s1, s2⟩).mono ?_); rintro e w6 ⟨rfl, h6, a6⟩; have K6 := Lib.hid h6; have O6 := Lib.hid (O5.out.away a6 hn1 hn2 hn3 hn4); have X6 := Lib.hid (a6.blk X5.out hnx); have M6 := Lib.hid (Away.to_more M5.out a6 hnm); clear h6 a6; have y0 := blk_cell X6.out 0 (v := .int .i64 d) rfl; have y1 := blk_cell X6.out 1 (v := .int .i64 x) rfl; have y2 := blk_cell X6.out 2 (v := .int .i64 p) rfl; have y3 := blk_cell X6.out 3 (v := .int .u32 own) rfl; have y4 := blk_cell X6.out 4 (v := .int .u32 s0) rfl; have y5 := blk_cell X6.out 5 (v := .int .u32 s1) rfl; have y6 := blk_cell X6.out 6 (v := .int .u32 s2) rfl)) | (go_at_call 37; ((with_reducible refine (RTDo O6.out ⟨d, x, p, own, s0, s1, s2⟩).mono ?_); rintro e w7 ⟨rfl, h7, a7⟩; rw [HSM.out] at h7 ⊢; have O7 := Lib.hid h7; have K7 := Lib.hid (K6.out.away a7 hm1 hm2 hm3 hm4); have M7 := Lib.hid (Away.to_more M6.out a7 hmm); clear h7 a7))
          clear y0 y1 y2 y3 y4 y5 y6
          go_loopw [55] (fun i wq => ∃ k : Nat, k ≤ 6 ∧ i = .int .i64 k ∧ More w7 wq) (fun i _ => 6 - (intOf i).toNat)
          case atStart => exact ⟨0, by omega, rfl, More.refl _⟩
          case round =>
            obtain ⟨k, hk, rfl, hmq⟩ := hrel
            have HMQ := Lib.hid hmq
            clear hmq
            by_cases hk6 : k < 6
            · have hk6i : (k : Int) < 6 := by omega
              by_cases hks : (k : Int) = sub
              · go_wp2
                go_roundw
                case rel => exact ⟨k + 1, by omega, by go_num, HMQ.out⟩
                case measure => simp [intOf]; omega
              · have hks' : ((k : Int) == sub) = false := by simpa using hks
                have HG : Hid (mget (fT sub (doT t ⟨d, x, p, own, s0, s1, s2⟩).1).u (k : Int) = mget (doT t ⟨d, x, p, own, s0, s1, s2⟩).1.u (k : Int)) := Lib.hid (mget_fq (by unfold not_; simpa using hks) _)
                clear hks
                go_wp2_with first | (go_at_call 43; ((with_reducible refine (RTOf (K7.out.more HMQ.out) (k : Int)).mono ?_); rintro e w8 ⟨rfl, m8⟩; have M8 := Lib.hid (HMQ.out.trans m8); clear m8)) | (go_at_call 43; ((with_reducible refine (RTOf (O7.out.more M8.out) (k : Int)).mono ?_); rintro e w9 ⟨rfl, m9⟩; rw [HG.out]; have M9 := Lib.hid (M8.out.trans m9); clear m9))
                go_roundw
                case rel => exact ⟨k + 1, by omega, by go_num, M9.out⟩
                case measure => simp [intOf]; omega
            · obtain rfl : k = 6 := by omega
              go_wp2
              go_roundw
              case rel => exact ⟨j + 1, by omega, by go_num, (doT t ⟨d, x, p, own, s0, s1, s2⟩).1, K7.out.more HMQ.out, O7.out.more HMQ.out, Nat.le_trans (doT_len _ _) (by have := HML.out; omega), M7.out.trans HMQ.out⟩
              case measure => simp [intOf]; omega
        · skip
          have hsame := alone_same (sub := sub) (t := t) (y := ⟨d, x, p, own, s0, s1, s2⟩) (by simp only; omega)
          have HSM := Lib.hid hsame
          clear hsame
          go_wp2_with first | (go_at_call 37; ((with_reducible refine (RTDo K5.out ⟨d, x, p, own, s0, s1, s2⟩).mono ?_); rintro e w6 ⟨rfl, h6, a6⟩; have K6 := Lib.hid h6; have O6 := Lib.hid (O5.out.away a6 hn1 hn2 hn3 hn4); have X6 := Lib.hid (a6.blk X5.out hnx); have M6 := Lib.hid (Away.to_more M5.out a6 hnm); clear h6 a6; have y0 := blk_cell X6.out 0 (v := .int .i64 d) rfl; have y1 := blk_cell X6.out 1 (v := .int .i64 x) rfl; have y2 := blk_cell X6.out 2 (v := .int .i64 p) rfl; have y3 := blk_cell X6.out 3 (v := .int .u32 own) rfl; have y4 := blk_cell X6.out 4 (v := .int .u32 s0) rfl; have y5 := blk_cell X6.out 5 (v := .int .u32 s1) rfl; have y6 := blk_cell X6.out 6 (v := .int .u32 s2) rfl)) | (go_at_call 37; ((with_reducible refine (RTDo O6.out ⟨d, x, p, own, s0, s1, s2⟩).mono ?_); rintro e w7 ⟨rfl, h7, a7⟩; rw [HSM.out] at h7 ⊢; have O7 := Lib.hid h7; have K7 := Lib.hid (K6.out.away a7 hm1 hm2 hm3 hm4); have M7 := Lib.hid (Away.to_more M6.out a7 hmm); clear h7 a7))
          clear y0 y1 y2 y3 y4 y5 y6
          go_loopw [55] (fun i wq => ∃ k : Nat, k ≤ 6 ∧ i = .int .i64 k ∧ More w7 wq) (fun i _ => 6 - (intOf i).toNat)
          case atStart => exact ⟨0, by omega, rfl, More.refl _⟩
          case round =>
            obtain ⟨k, hk, rfl, hmq⟩ := hrel
            have HMQ := Lib.hid hmq
            clear hmq
            by_cases hk6 : k < 6
            · have hk6i : (k : Int) < 6 := by omega
              by_cases hks : (k : Int) = sub
              · go_wp2
                go_roundw
                case rel => exact ⟨k + 1, by omega, by go_num, HMQ.out⟩
                case measure => simp [intOf]; omega
              · have hks' : ((k : Int) == sub) = false := by simpa using hks
                have HG : Hid (mget (fT sub (doT t ⟨d, x, p, own, s0, s1, s2⟩).1).u (k : Int) = mget (doT t ⟨d, x, p, own, s0, s1, s2⟩).1.u (k : Int)) := Lib.hid (mget_fq (by unfold not_; simpa using hks) _)
                clear hks
                go_wp2_with first | (go_at_call 43; ((with_reducible refine (RTOf (K7.out.more HMQ.out) (k : Int)).mono ?_); rintro e w8 ⟨rfl, m8⟩; have M8 := Lib.hid (HMQ.out.trans m8); clear m8)) | (go_at_call 43; ((with_reducible refine (RTOf (O7.out.more M8.out) (k : Int)).mono ?_); rintro e w9 ⟨rfl, m9⟩; rw [HG.out]; have M9 := Lib.hid (M8.out.trans m9); clear m9))
                go_roundw
                case rel => exact ⟨k + 1, by omega, by go_num, M9.out⟩
                case measure => simp [intOf]; omega
            · obtain rfl : k = 6 := by omega
              go_wp2
              go_roundw
              case rel => exact ⟨j + 1, by omega, by go_num, (doT t ⟨d, x, p, own, s0, s1, s2⟩).1, K7.out.more HMQ.out, O7.out.more HMQ.out, Nat.le_trans (doT_len _ _) (by have := HML.out; omega), M7.out.trans HMQ.out⟩
              case measure => simp [intOf]; omega
        · have g4 : (x == sub) = false := by simpa using g3
          have hsame := alone_same (sub := sub) (t := t) (y := ⟨d, x, p, own, s0, s1, s2⟩) (by simp only; omega)
          have HSM := Lib.hid hsame
          clear hsame
          go_wp2_with first | (go_at_call 37; ((with_reducible refine (RTDo K5.out ⟨d, x, p, own, s0, s1, s2⟩).mono ?_); rintro e w6 ⟨rfl, h6, a6⟩; have K6 := Lib.hid h6; have O6 := Lib.hid (O5.out.away a6 hn1 hn2 hn3 hn4); have X6 := Lib.hid (a6.blk X5.out hnx); have M6 := Lib.hid (Away.to_more M5.out a6 hnm); clear h6 a6; have y0 := blk_cell X6.out 0 (v := .int .i64 d) rfl; have y1 := blk_cell X6.out 1 (v := .int .i64 x) rfl; have y2 := blk_cell X6.out 2 (v := .int .i64 p) rfl; have y3 := blk_cell X6.out 3 (v := .int .u32 own) rfl; have y4 := blk_cell X6.out 4 (v := .int .u32 s0) rfl; have y5 := blk_cell X6.out 5 (v := .int .u32 s1) rfl; have y6 := blk_cell X6.out 6 (v := .int .u32 s2) rfl)) | (go_at_call 37; ((with_reducible refine (RTDo O6.out ⟨d, x, p, own, s0, s1, s2⟩).mono ?_); rintro e w7 ⟨rfl, h7, a7⟩; rw [HSM.out] at h7 ⊢; have O7 := Lib.hid h7; have K7 := Lib.hid (K6.out.away a7 hm1 hm2 hm3 hm4); have M7 := Lib.hid (Away.to_more M6.out a7 hmm); clear h7 a7))
          clear y0 y1 y2 y3 y4 y5 y6
          go_loopw [55] (fun i wq => ∃ k : Nat, k ≤ 6 ∧ i = .int .i64 k ∧ More w7 wq) (fun i _ => 6 - (intOf i).toNat)
          case atStart => exact ⟨0, by omega, rfl, More.refl _⟩
          case round =>
            obtain ⟨k, hk, rfl, hmq⟩ := hrel
            have HMQ := Lib.hid hmq
            clear hmq
            by_cases hk6 : k < 6
            · have hk6i : (k : Int) < 6 := by omega
              by_cases hks : (k : Int) = sub
              · go_wp2
                go_roundw
                case rel => exact ⟨k + 1, by omega, by go_num, HMQ.out⟩
                case measure => simp [intOf]; omega
              · have hks' : ((k : Int) == sub) = false := by simpa using hks
                have HG : Hid (mget (fT sub (doT t ⟨d, x, p, own, s0, s1, s2⟩).1).u (k : Int) = mget (doT t ⟨d, x, p, own, s0, s1, s2⟩).1.u (k : Int)) := Lib.hid (mget_fq (by unfold not_; simpa using hks) _)
                clear hks
                go_wp2_with first | (go_at_call 43; ((with_reducible refine (RTOf (K7.out.more HMQ.out) (k : Int)).mono ?_); rintro e w8 ⟨rfl, m8⟩; have M8 := Lib.hid (HMQ.out.trans m8); clear m8)) | (go_at_call 43; ((with_reducible refine (RTOf (O7.out.more M8.out) (k : Int)).mono ?_); rintro e w9 ⟨rfl, m9⟩; rw [HG.out]; have M9 := Lib.hid (M8.out.trans m9); clear m9))
                go_roundw
                case rel => exact ⟨k + 1, by omega, by go_num, M9.out⟩
                case measure => simp [intOf]; omega
            · obtain rfl : k = 6 := by omega
              go_wp2
              go_roundw
              case rel => exact ⟨j + 1, by omega, by go_num, (doT t ⟨d, x, p, own, s0, s1, s2⟩).1, K7.out.more HMQ.out, O7.out.more HMQ.out, Nat.le_trans (doT_len _ _) (by have := HML.out; omega), M7.out.trans HMQ.out⟩
              case measure => simp [intOf]; omega
        · have hskip := alone_skip (sub := sub) (t := t) (y := ⟨d, x, p, own, s0, s1, s2⟩) (by simp only; omega)
          have HSK := Lib.hid hskip
          subst g3
          clear hskip
          go_wp2_with (go_at_call 37; ((with_reducible refine (RTDo K5.out ⟨d, x, p, own, s0, s1, s2⟩).mono ?_); rintro e w6 ⟨rfl, h6, a6⟩; have K6 := Lib.hid h6; have O6 := Lib.hid (O5.out.away a6 hn1 hn2 hn3 hn4); have X6 := Lib.hid (a6.blk X5.out hnx); have M6 := Lib.hid (Away.to_more M5.out a6 hnm); clear h6 a6; have y0 := blk_cell X6.out 0 (v := .int .i64 d) rfl; have y1 := blk_cell X6.out 1 (v := .int .i64 x) rfl))
          go_roundw
          case rel => exact ⟨j + 1, by omega, by go_num, (doT t ⟨d, x, p, own, s0, s1, s2⟩).1, K6.out, by rw [HSK.out]; exact O6.out, Nat.le_trans (doT_len _ _) (by have := HML.out; omega), M6.out⟩
          case measure => simp [intOf]; omega
      · obtain rfl : j = l.length := by omega
        have K9 := Lib.hid hbk
        have O9 := Lib.hid hbo
        have M9 := Lib.hid hmr
        have hml3 : t.u.length ≤ 1000000 := by omega
        have hml4 : (fT sub t).u.length ≤ 1000000 := Nat.le_trans (List.length_filter_le _ _) hml3
        clear hbk hbo hmr
        obtain ⟨W9, hW9⟩ : ∃ W9, W9 = wr := ⟨_, rfl⟩
        rw [← hW9]
        rw [← hW9] at K9 O9 M9
        clear hW9
        go_wp2_with fail
        go_loopw [85] (fun i wq => ∃ j2 : Nat, j2 ≤ l.length ∧ i = .int .i64 j2 ∧ More W9 wq) (fun i _ => l.length - (intOf i).toNat)
        case atStart => exact ⟨0, by omega, rfl, More.refl _⟩
        case round =>
          obtain ⟨j2, hj2, rfl, hmq⟩ := hrel
          have HMQ := Lib.hid hmq
          clear hmq
          by_cases hlt2 : j2 < l.length
          · obtain ⟨xb, off, rfl, hxb, hxa⟩ := hel j2 hlt2
            have hmw := M9.out.trans HMQ.out
            obtain ⟨c0, c1, c2, c3, c4, c5, c6⟩ := hxa.more hmw hxb
            have hjl : (j2 : Int) < (l.length : Int) := by omega
            have hbwr : xb < wr.heap.size := Nat.lt_of_lt_of_le hxb hmw.size
            clear hxa hel hmw
            generalize l.getD j2 a19z = y at *
            obtain ⟨d, x, p, own, s0, s1, s2⟩ := y
            simp only at c0 c1 c2 c3 c4 c5 c6
            have X5 := Lib.hid (blk_new wr (.cells #[.int .i64 d, .int .i64 x, .int .i64 p, .int .u32 own, .int .u32 s0, .int .u32 s1, .int .u32 s2] 88))
            have hLl : (whichT (prOwn own) t.u).length ≤ 1000000 := by
              have h1 := selT_len (prOwn own) t.u
              have h2 : (whichT (prOwn own) t.u).length = (selT (prOwn own) t.u).length := srt_len _
              omega
            have HW : Hid (whichT (prOwn own) (fT sub t).u = (whichT (prOwn own) t.u).filter (not_ sub)) := Lib.hid (which_fq sub (prOwn own) t.u)
            go_wp2_with (go_at_call 41; ((with_reducible refine (RTOwners (K9.out.more (HMQ.out.al (.cells #[.int .i64 d, .int .i64 x, .int .i64 p, .int .u32 own, .int .u32 s0, .int .u32 s1, .int .u32 s2] 88))) own hml3).mono ?_); rintro e w4 ⟨⟨v4, rfl, s4⟩, m4⟩; have S4 := Lib.hid s4; obtain ⟨o4, k4, rfl, _⟩ := s4; have X4 := Lib.hid (blk_more m4 X5.out); have M4 := Lib.hid ((HMQ.out.al (.cells #[.int .i64 d, .int .i64 x, .int .i64 p, .int .u32 own, .int .u32 s0, .int .u32 s1, .int .u32 s2] 88)).trans m4); clear m4))
            generalize whichT (prOwn own) t.u = L at *
            go_loopw [17, 94] (fun s17 s94 wz => ∃ k : Nat, k ≤ L.length ∧ s94 = .int .i64 k ∧ wz.ownsRow w4.heap.size 3 1 s17 ((L.take k).filter (not_ sub)).length (((L.take k).filter (not_ sub)).map (Value.int .i64)) ∧ More w4 wz) (fun _ i _ => L.length - (intOf i).toNat)
            case atStart => exact ⟨0, by omega, rfl, World.ownsRow_nil _ _ _ _, More.refl _⟩
            case round =>
              obtain ⟨k, hk, rfl, ho, hmz⟩ := hrel
              have HO := Lib.hid ho
              have HMZ := Lib.hid hmz
              have hfl : ((L.take k).filter (not_ sub)).length ≤ k := Nat.le_trans (List.length_filter_le _ _) (List.length_take_le _ _)
              by_cases hlt3 : k < L.length
              · obtain ⟨oa', cap', ev, hs63, h3, _⟩ := S4.out.keep hmz
                cases ev
                obtain ⟨pb, poff, rfl, hpb, hcell⟩ := h3 k hlt3
                have hkl : (k : Int) < (L.length : Int) := by omega
                have hgd : L.getD k 0 = L[k] := by simp [hlt3]
                rw [hgd] at hcell
                have htk : L.take (k + 1) = L.take k ++ [L[k]] := List.take_succ_eq_append_getElem hlt3
                have HF : Hid ((L.take (k + 1)).filter (not_ sub) = (L.take k).filter (not_ sub) ++ (if L[k] = sub then [] else [L[k]])) := Lib.hid (by
                  rw [htk, List.filter_append]
                  by_cases e : L[k] = sub <;> simp [not_, e])
                clear h3 hgd htk ho hmz
                generalize L[k] = q at *
                by_cases hq : q = sub
                · rw [if_pos hq, List.append_nil] at HF
                  have hq' : (q != sub) = false := by simpa using hq
                  clear hq
                  go_wp2
                  go_roundw
                  case rel => exact ⟨k + 1, by omega, by go_num, by rw [HF.out]; exact HO.out, HMZ.out⟩
                  case measure => simp [intOf]; omega
                · rw [if_neg hq] at HF
                  have hq' : (q != sub) = true := by simpa using hq
                  clear hq
                  have zw := HMZ.out.size
                  go_wp2_with (at_builtin; refine wpList_append_at _ rfl (.tmp 101) (.tmp 103) 47 rfl w4.heap.size 3 i0 (.int .i64 0) 8 Try.underlying47 hi hz0 hz1 hz2 rfl _ .i64 ((L.take k).filter (not_ sub)) rfl (HO.out.alloc _) _ [q] rfl (SlI.lit .i64 wr [q] 3 _ 1 _ (by simp) rfl rfl (by simp)) (by simp; omega) (by decide) (by simp; omega) ?_; intro v6 w6 own6 grow6 _; have HO6 := Lib.hid own6; have HG6 := Lib.hid grow6; clear own6 grow6)
                  go_roundw
                  case rel =>
                    refine ⟨k + 1, by omega, by go_num, by rw [HF.out]; exact HO6.out, ?_⟩
                    exact (HMZ.out.al _).grown HG6.out (HMZ.out.al _).size (fun z hz => own_ge HO.out hz)
                  case measure => simp [intOf]; omega
              · obtain rfl : k = L.length := by omega
                rw [List.take_length] at HO hfl
                have x3 := blk_cell (blk_more hmz X4.out) 3 (v := .int .u32 own) rfl
                clear ho hmz
                go_wp2_with first | (go_at_call 41; ((with_reducible refine (RTOwners (O9.out.more (M4.out.trans HMZ.out)) own hml4).mono ?_); rintro e w8 ⟨⟨v8, rfl, s8⟩, m8⟩; rw [HW.out] at s8; have S8 := Lib.hid s8; have R8 := Lib.hid (SlI.of_owns (owns_more HO.out m8) (show ((L.filter (not_ sub)).length : Int) ≤ 9223372036854775807 by omega)); have M8 := Lib.hid ((M4.out.trans HMZ.out).trans m8); clear m8 s8)) | (go_at_call 34; ((with_reducible refine (SameI_any (L.filter (not_ sub)) (L.filter (not_ sub)) _ _ _ R8.out S8.out).mono ?_); rintro e w9 ⟨rfl, k9, rfl⟩; rw [decide_eq_true rfl]))
                go_roundw
                case rel => exact ⟨j2 + 1, by omega, by go_num, M8.out.dr k9⟩
                case measure => simp [intOf]; omega
          · obtain rfl : j2 = l.length := by omega
            clear hel
            go_wp2
            go_ret
            exact ⟨rfl, M9.out.trans HMQ.out⟩
end Go.Proofs.Ytmhkjamibcdcdaa
