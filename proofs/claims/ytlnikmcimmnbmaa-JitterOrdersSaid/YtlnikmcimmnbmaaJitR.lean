/- The law JitterWaits, walked: the acts, and what comes out. -/
import Derived.Test.YtlnikmcimmnbmaaJitQ
namespace Go.Proofs.Ytlnikmcimmnbmaa
set_option linter.unusedSimpArgs false
set_option linter.unusedVariables false
open Go.RowKit Go.Lib
set_option maxRecDepth 100000

set_option maxHeartbeats 8000000 in
theorem JW_main (room wait till : Int) (l : List Act12) (v : Value) (w : World) (sl : SlP 4 RAct12 w v l) (h : newOK room wait) (h1 : l.length ≤ 200) (h2 : may60 till = true) (h3 : till ≤ 1152921504606845976) :
    Calls Try.prog 11 #[.int .i64 room, .int .i64 wait, v, .int .i64 till] w fun e w' => e = .returned (.bool true) ∧ More w w' := by
  have HN := Lib.hid (fun w => New_yes room wait w h)
  have HOK := Lib.hid h
  obtain ⟨oa, cap, rfl, hl63, hel⟩ := act12 sl
  have HEL := Lib.hid hel
  have ht0 : Num60 till := of_decide_eq_true h2
  obtain ⟨t0, t1⟩ := ht0
  obtain ⟨hr1, hr8, hw0, hw1⟩ := h
  have HT := Lib.hid (show Num60 (till + wait) from ⟨by omega, by omega⟩)
  have HT0 := Lib.hid (show Num60 till from ⟨t0, t1⟩)
  have h1' : decide ((200 : Int) < (l.length : Int)) = false := decide_eq_false (by omega)
  have h3' : decide ((1152921504606845976 : Int) < till) = false := decide_eq_false (by omega)
  have H2 := Lib.hid h2
  clear h2 h3 sl hel
  go_enter Try.func11, Try.ntmps11
  go_wp2_with (first | (go_at_call 52; ((with_reducible refine (awake12 _).mono ?_); rintro e w1 ⟨rfl, m1⟩; have M1 := Lib.hid m1; clear m1)) | (go_at_call 53; ((with_reducible refine (HN.out w1).mono ?_); rintro e w2 ⟨rfl, b2, m2, hz2⟩; have RU := Lib.hid (Run12.start b2 HOK.out (M1.out.trans m2) M1.out.size); have HZ2 := Lib.hid (show w1.heap.size < w2.heap.size from hz2); clear m2 b2 hz2)) | (go_at_call 54; ((with_reducible refine (may12_any till _).mono ?_); rintro e w3 ⟨rfl, rfl⟩; rw [H2.out])))
  generalize w1.heap.size = R at *
  go_loopw [47] (fun ix wr => ∃ (j : Nat) (v' : Value) (b : Jb), j ≤ l.length ∧ ix = .int .i64 j ∧ Run12 w wr R v' b ∧ By12 b till ∧ b.wait = wait) (fun ix _ => l.length - (intOf ix).toNat)
  case atStart => exact ⟨0, _, _, by omega, rfl, RU.out, fun k hk => (by cases hk), rfl⟩
  case round =>
    obtain ⟨j, v', b, hj, rfl, hru, hby, hwt⟩ := hrel
    have RR := Lib.hid hru
    have BY := Lib.hid hby
    have HWT := Lib.hid hwt
    have hRl := lt_of_block hru.buf.blk
    clear hru hby hwt
    by_cases hlt : j < l.length
    · obtain ⟨xb, off, rfl, hxb, x0, x1, x2, x3⟩ := HEL.out j hlt
      have y0 := (RR.out.more.cells xb (off + j * 4) hxb).trans x0
      have y1 := (RR.out.more.cells xb (off + j * 4 + 1) hxb).trans x1
      have y2 := (RR.out.more.cells xb (off + j * 4 + 2) hxb).trans x2
      have y3 := (RR.out.more.cells xb (off + j * 4 + 3) hxb).trans x3
      have hlti : (j : Int) < (l.length : Int) := by omega
      clear x0 x1 x2 x3
      generalize l.getD j (0, 0, 0, 0, ()) = y at *
      obtain ⟨d, n, t, x, u⟩ := y
      simp only at y0 y1 y2 y3
      have R1 := Lib.hid (RR.out.on (More.alloc wr (.cells #[.int .i64 d, .int .i64 n, .int .i64 t, .int .i64 x] 104)))
      have HMN := Lib.hid (fun w => may12_any n w)
      cases hmn : may60 n with
      | false =>
        have HM := Lib.hid hmn
        clear hmn
        go_wp2_with (go_at_call 54; ((with_reducible refine (HMN.out _).mono ?_); rintro e w4 ⟨rfl, rfl⟩; rw [HM.out]))
        go_ret
        exact ⟨rfl, R1.out.more⟩
      | true =>
        have HM := Lib.hid hmn
        have HNN : Hid (Num60 n) := Lib.hid (of_decide_eq_true hmn)
        clear hmn
        by_cases htn : t < 0
        · go_wp2_with (go_at_call 54; ((with_reducible refine (HMN.out _).mono ?_); rintro e w4 ⟨rfl, rfl⟩; rw [HM.out]))
          go_ret
          exact ⟨rfl, R1.out.more⟩
        · by_cases hte : till < t
          · have htn' : decide (t < 0) = false := decide_eq_false htn
            clear htn
            go_wp2_with (go_at_call 54; ((with_reducible refine (HMN.out _).mono ?_); rintro e w4 ⟨rfl, rfl⟩; rw [HM.out]))
            go_ret
            exact ⟨rfl, R1.out.more⟩
          · have htn' : decide (t < 0) = false := decide_eq_false htn
            have hte' : decide (till < t) = false := decide_eq_false hte
            have HTT := Lib.hid (show Num60 t from ⟨by omega, by omega⟩)
            have HTE := Lib.hid (show t ≤ till by omega)
            clear htn hte
            by_cases hd0 : d = 0
            · subst hd0
              go_wp2_with (first | (go_at_call 54; ((with_reducible refine (HMN.out _).mono ?_); rintro e w4 ⟨rfl, rfl⟩; rw [HM.out])) | (go_at_call 55; ((with_reducible refine (Push_any b RR.out.ok _ _ n t x HNN.out _ R1.out.buf).mono ?_); rintro e w5 ⟨rfl, v5, s5⟩; have R5 := Lib.hid (R1.out.step (push_ok RR.out.ok HNN.out HTT.out) s5); have z0 := blk_cell (s5.away.blk (blk_new wr (.cells #[.int .i64 0, .int .i64 n, .int .i64 t, .int .i64 x] 104)) (fun hk => hk.elim (fun e => by omega) (fun e => by have := (RR.out.buf.row.own_ge e).2; omega))) 0 rfl; clear s5)))
              go_roundw
              case rel => exact ⟨j + 1, v5, _, by omega, by go_num, R5.out, push_by BY.out HTE.out, (push_same b n t x).2.trans HWT.out⟩
              case measure => simp [intOf]; omega
            · by_cases hd1 : d = 1
              · subst hd1
                go_wp2_with (first | (go_at_call 54; ((with_reducible refine (HMN.out _).mono ?_); rintro e w4 ⟨rfl, rfl⟩; rw [HM.out])) | (go_at_call 57; ((with_reducible refine (Pop_any b RR.out.ok _ _ t HTT.out _ R1.out.buf).mono ?_); rintro e w5 ⟨rfl, v5, s5⟩; have R5 := Lib.hid (R1.out.step (pop_ok RR.out.ok t) s5); clear s5)))
                go_roundw
                case rel => exact ⟨j + 1, v5, _, by omega, by go_num, R5.out, pop_by BY.out, (pop_same b t).2.trans HWT.out⟩
                case measure => simp [intOf]; omega
              · have q0 : (d == 0) = false := beq_eq_false_iff_ne.2 hd0
                have q1 : (d == 1) = false := beq_eq_false_iff_ne.2 hd1
                clear hd0 hd1
                go_wp2_with (go_at_call 54; ((with_reducible refine (HMN.out _).mono ?_); rintro e w4 ⟨rfl, rfl⟩; rw [HM.out]))
                go_roundw
                case rel => exact ⟨j + 1, v', b, by omega, by go_num, R1.out, BY.out, HWT.out⟩
                case measure => simp [intOf]; omega
    · have hlti : ¬ (j : Int) < (l.length : Int) := by omega
      clear hlti HEL HN HT0
      go_wp2_with (go_at_call 58; ((with_reducible refine (Len_any b R _ wr RR.out.buf).mono ?_); rintro e w6 ⟨rfl, rfl⟩))
      go_loopw [13, 14] (fun s13 s14 w2 => ∃ (v2 : Value) (c : Jb) (last : Int) (m : Nat), Run12 w w2 R v2 c ∧ By12 c till ∧ c.wait = wait ∧ s13 = .int .i64 last ∧ s14 = .int .i64 m ∧ c.holds.length = m ∧ -1 ≤ last ∧ ∀ h ∈ c.holds, last < h.1) (fun _ s14 _ => (intOf s14).toNat)
      case atStart => exact ⟨v', b, -1, b.holds.length, RR.out, BY.out, HWT.out, rfl, rfl, rfl, by omega, fun h hh => by have := (RR.out.ok.nums h hh).1.1; omega⟩
      case round =>
        obtain ⟨v2, c, last, m, hru, hby, hwt, rfl, rfl, hm, hl, hla⟩ := hrel
        have RS := Lib.hid hru
        have BS := Lib.hid hby
        have WS := Lib.hid hwt
        clear hru hby hwt
        cases hc : c.holds with
        | nil =>
          have HC := Lib.hid hc
          rw [hc] at hm
          obtain rfl : m = 0 := hm.symm
          have PN := Lib.hid (pop_none hc (till + wait))
          have RN := Lib.hid (ready_none hc (till + wait))
          have LN : Hid (c.holds.length = 0) := Lib.hid (by rw [hc]; rfl)
          have TN : Hid (thJ c.holds = []) := Lib.hid (by rw [hc]; rfl)
          clear hc hla
          go_wp2_with (first | (go_at_call 57; ((with_reducible refine (Pop_any c RS.out.ok R _ (till + wait) HT.out _ RS.out.buf).mono ?_); rintro e w7 ⟨rfl, v7, s7⟩; rw [PN.out] at s7 ⊢; have R7 := Lib.hid (RS.out.step RS.out.ok s7); clear s7)) | (go_at_call 56; ((with_reducible refine (Ready_any c RS.out.ok R _ (till + wait) HT.out _ R7.out.buf).mono ?_); rintro e w8 ⟨rfl, m8⟩; rw [RN.out]; have R8 := Lib.hid (R7.out.on m8); clear m8)) | (go_at_call 58; ((with_reducible refine (Len_any c R _ w8 R8.out.buf).mono ?_); rintro e w9 ⟨rfl, rfl⟩; rw [LN.out])) | (go_at_call 59; ((with_reducible refine (Drain_any c RS.out.ok R _ w8 R8.out.buf).mono ?_); rintro e w10 ⟨vx, rfl, v10, c10, d10, _⟩; rw [TN.out] at d10; obtain ⟨ox, capx, rfl⟩ := owns_shape d10.row; have M10 := Lib.hid (Away.to_more R8.out.more d10.away (fun k hk => hk.elim (fun e => by have := R8.out.new; omega) (R8.out.own k))); clear d10)))
          go_ret
          exact ⟨rfl, M10.out⟩
        | cons h T =>
          rw [hc] at hm
          obtain ⟨k, rfl⟩ : ∃ k, m = k + 1 := ⟨T.length, hm.symm⟩
          have hTk : T.length = k := by simpa using hm
          have PW : Hid (popJ c (till + wait) = (leastJ c, h.1, h.2.2, true)) := Lib.hid (by rw [← WS.out]; exact pop_waited hc BS.out)
          have LH : (leastJ c).holds = T := by unfold leastJ; rw [hc]
          have LL : Hid ((leastJ c).holds.length = k) := Lib.hid (by rw [LH, hTk])
          have OK2 := Lib.hid (least_ok RS.out.ok hc)
          have BY2 : Hid (By12 (leastJ c) till) := Lib.hid fun x hx => BS.out x (by rw [hc]; rw [LH] at hx; exact List.mem_cons_of_mem _ hx)
          have WT2 : Hid ((leastJ c).wait = wait) := Lib.hid ((least_same c).2.trans WS.out)
          have hn1 : decide (h.1 ≤ last) = false := decide_eq_false (by have := hla h (by rw [hc]; exact List.mem_cons_self); omega)
          have LA2 : Hid (∀ x ∈ (leastJ c).holds, h.1 < x.1) := Lib.hid fun x hx => by
            have := RS.out.ok.rise
            rw [hc, List.pairwise_cons] at this
            rw [LH] at hx
            exact this.1 x hx
          have hn0 : Hid (-1 ≤ h.1) := Lib.hid (by have := (RS.out.ok.nums h (by rw [hc]; exact List.mem_cons_self)).1.1; omega)
          have h63 : (k : Int) + 1 ≤ 8 := by have e1 := RS.out.ok.fits; have e2 := RS.out.ok.room; rw [hc, List.length_cons, hTk] at e1; omega
          clear hc hla hm hTk LH
          obtain ⟨n0, s0, t0'⟩ := h
          simp only at hn1 PW LA2 hn0
          go_wp2_with (first | (go_at_call 57; ((with_reducible refine (Pop_any c RS.out.ok R _ (till + wait) HT.out _ RS.out.buf).mono ?_); rintro e w7 ⟨rfl, v7, s7⟩; rw [PW.out] at s7 ⊢; have R7 := Lib.hid (RS.out.step OK2.out s7); clear s7)) | (go_at_call 58; ((with_reducible refine (Len_any (leastJ c) R _ w7 R7.out.buf).mono ?_); rintro e w8 ⟨rfl, rfl⟩; rw [LL.out])))
          go_roundw
          case rel => exact ⟨v7, leastJ c, n0, k, R7.out, BY2.out, WT2.out, rfl, by go_num, LL.out, hn0.out, LA2.out⟩
          case measure => simp [intOf]
theorem JitterWaits_law (room wait : Int) (v : Value) (l : List Act12) (till : Int) (w : World) (_hr : -9223372036854775808 ≤ room ∧ room ≤ 9223372036854775807) (_hw : -9223372036854775808 ≤ wait ∧ wait ≤ 9223372036854775807) (sl : SlP 4 RAct12 w v l) (_ht : -9223372036854775808 ≤ till ∧ till ≤ 9223372036854775807) :
    Calls Try.prog 11 #[.int .i64 room, .int .i64 wait, v, .int .i64 till] w fun e w' => e = .returned (.bool true) ∧ More w w' := by
  by_cases h : newOK room wait
  · by_cases h1 : l.length ≤ 200
    · cases h2 : may60 till with
      | true =>
        by_cases h3 : till ≤ 1152921504606845976
        · exact JW_main room wait till l v w sl h h1 h2 h3
        · obtain ⟨oa, cap, rfl, _, _⟩ := act12 sl
          exact JW_guard room wait till oa l.length cap w h (Or.inr (Or.inr ⟨h1, h2, by omega⟩))
      | false =>
        obtain ⟨oa, cap, rfl, _, _⟩ := act12 sl
        exact JW_guard room wait till oa l.length cap w h (Or.inr (Or.inl ⟨h1, h2⟩))
    · obtain ⟨oa, cap, rfl, _, _⟩ := act12 sl
      exact JW_guard room wait till oa l.length cap w h (Or.inl (by omega))
  · exact JW_no room wait till v w h
end Go.Proofs.Ytlnikmcimmnbmaa
