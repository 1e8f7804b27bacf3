/- The law BookSums, walked. -/
import Derived.Test.YtmhkjamibcdcdaaBookI
import Derived.Deep.Cut
import Derived.Deep.CutRange
import Derived.Deep.CutBlock
namespace Go.Proofs.Ytmhkjamibcdcdaa
open Go.RowKit
set_option maxRecDepth 100000

theorem owe_flt (m : Bk) (sub kb : Int) : (oweB (flt m sub) (sub, kb)).2 = (oweB m (sub, kb)).2 := by
  unfold oweB
  rw [mget_flt]
  split
  · split <;> rfl
  · rfl
/-- The number of a subscriber's entries behind an act. -/
theorem ent_same (m : Bk) (d sub kb f : Int) : (flt (actB m (d, (sub, kb), f)).1 sub).length = (flt m sub).length + if d = 0 ∧ (oweB m (sub, kb)).2 = 0 then 1 else 0 := by
  rw [flt_same, act_len]
  by_cases h : d = 0
  · subst h
    have : (actB (flt m sub) (0, (sub, kb), f)).2 = (oweB m (sub, kb)).2 := by
      unfold actB
      simp only [if_true]
      exact owe_flt m sub kb
    rw [this]
  · simp [h]

theorem ent_any (m : Bk) (d ka kb f sub : Int) : (flt (actB m (d, (ka, kb), f)).1 sub).length = (flt m sub).length + if d = 0 ∧ (oweB m (ka, kb)).2 = 0 ∧ ka = sub then 1 else 0 := by
  by_cases h : ka = sub
  · subst h
    rw [ent_same]
    simp
  · rw [flt_other m d kb f h]
    simp [h]
set_option maxHeartbeats 16000000 in
theorem BookSums_law (v : Value) (l : List A14) (sub : Int) (w : World) (sl : SlP 4 RAct14 w v l) (_b1 : -9223372036854775808 ≤ sub ∧ sub ≤ 9223372036854775807) :
    Calls Try.prog 9 #[v, .int .i64 sub] w fun e w' => e = .returned (.bool true) ∧ More w w' := by
  clear _b1
  obtain ⟨oa, cap, rfl, hl63, hel⟩ := acts14 sl
  clear sl
  by_cases hlen : (150 : Int) < (l.length : Int)
  · go_enter Try.func9, Try.ntmps9
    go_wp2_with (go_at_call 26; refine (awake14 _).mono ?_; rintro e w1 ⟨rfl, hm1⟩)
    go_ret
    exact ⟨rfl, hm1⟩
  · have hl150 : l.length ≤ 150 := by omega
    have tok1 : True := trivial
    go_enter Try.func9, Try.ntmps9
    go_wp2_with first | (go_at_call 26; refine (awake14 _).mono ?_; rintro e w1 ⟨rfl, hm1⟩; have Z1 := hm1.size; have HM1 := Lib.hid hm1; clear hm1) | (go_at_call 27; ((with_reducible refine ((fun (_ : True) => BNew w1) tok1).mono ?_); rintro e w2 ⟨B, b, rfl, hB, hb, h2, m2⟩; clear tok1; have H2 := Lib.hid h2; have HM2 := Lib.hid (HM1.out.trans m2); have hbw : w.heap.size ≤ b := (by omega); have hb2 : b < w2.heap.size := h2.map.lt; have hB2 : B < w2.heap.size := blk_lt h2.blk; clear h2 m2)) | (go_at_call 27; ((with_reducible refine (BNew w2).mono ?_); rintro e w3 ⟨B2, b2, rfl, hB', hb', h3, m3⟩; have H3 := Lib.hid h3; have H2' := Lib.hid (H2.out.more m3); have HM3 := Lib.hid (HM2.out.trans m3); have hbw2 : w.heap.size ≤ b2 := (by omega); have g1 : b < b2 := (by omega); have g2 : b < B2 := (by omega); have g3 : B < b2 := (by omega); clear h3 m3))
    go_loopw [7, 23] (fun s7 i wr => ∃ j : Nat, j ≤ l.length ∧ i = .int .i64 j ∧ ∃ m : Bk, s7 = .int .i64 (flt m sub).length ∧ BookAt wr B b m ∧ BookAt wr B2 b2 (flt m sub) ∧ m.length ≤ j ∧ More w wr) (fun _ i _ => l.length - (intOf i).toNat)
    case atStart => exact ⟨0, by omega, rfl, [], rfl, H2'.out, H3.out, by simp, HM3.out⟩
    case round =>
      obtain ⟨j, hj, rfl, m, rfl, hbk, hbo, hml, hmr⟩ := hrel
      by_cases hlt : j < l.length
      · obtain ⟨xb, off, rfl, hxb, hx0, hx1, hx2, hx3⟩ := hel j hlt
        have c0 := hmr.cells xb (off + j * 4) hxb
        have c1 := hmr.cells xb (off + j * 4 + 1) hxb
        have c2 := hmr.cells xb (off + j * 4 + 2) hxb
        have c3 := hmr.cells xb (off + j * 4 + 3) hxb
        rw [hx0] at c0
        rw [hx1] at c1
        rw [hx2] at c2
        rw [hx3] at c3
        have hjl : (j : Int) < (l.length : Int) := by omega
        have hbwr : xb < wr.heap.size := Nat.lt_of_lt_of_le hxb hmr.size
        have hfl := flt_len m sub
        have hfl2 : ((flt m sub).length : Int) ≤ 150 := by omega
        have hfl3 : 0 ≤ ((flt m sub).length : Int) := by omega
        clear hx0 hx1 hx2 hx3 hel hfl
        generalize l.getD j a14z = x at *
        obtain ⟨d, ⟨ka, kb⟩, f⟩ := x
        simp only at c0 c1 c2 c3
        have K5 := Lib.hid (hbk.more (More.alloc wr (.cells #[.int .i64 d, .int .i64 ka, .int .i64 kb, .int .i64 f] 59)))
        have O5 := Lib.hid (hbo.more (More.alloc wr (.cells #[.int .i64 d, .int .i64 ka, .int .i64 kb, .int .i64 f] 59)))
        have M5 := Lib.hid (hmr.al (.cells #[.int .i64 d, .int .i64 ka, .int .i64 kb, .int .i64 f] 59))
        have X5 := Lib.hid (blk_new wr (.cells #[.int .i64 d, .int .i64 ka, .int .i64 kb, .int .i64 f] 59))
        have hbr : b < wr.heap.size := hbk.map.lt
        have hbr2 : b2 < wr.heap.size := hbo.map.lt
        have HML := Lib.hid hml
        clear hbk hbo hmr hml
        go_upto_block 2 with fail
        go_cut [7] from 29 to 132 (fun s7 wx => s7 = .int .i64 (flt (actB m (d, (ka, kb), f)).1 sub).length ∧ BookAt wx B b (actB m (d, (ka, kb), f)).1 ∧ Away (fun z => z = b) (wr.alloc (.cells #[.int .i64 d, .int .i64 ka, .int .i64 kb, .int .i64 f] 59)) wx)
        case first =>
          have x0 := blk_cell X5.out 0 (v := .int .i64 d) rfl
          have x1 := blk_cell X5.out 1 (v := .int .i64 ka) rfl
          have x2 := blk_cell X5.out 2 (v := .int .i64 kb) rfl
          have x3 := blk_cell X5.out 3 (v := .int .i64 f) rfl
          have hen := ent_any m d ka kb f sub
          have HEN := Lib.hid hen
          clear hen
          have hways : d = 0 ∨ d = 1 ∨ d = 2 ∨ (¬ d = 0 ∧ ¬ d = 1 ∧ ¬ d = 2) := by omega
          rcases hways with rfl | rfl | rfl | ⟨h0, h1, h2⟩
          · have e0 : actB m (0, (ka, kb), f) = oweB m (ka, kb) := by unfold actB; simp
            have E0 := Lib.hid e0
            clear e0
            by_cases he : (oweB m (ka, kb)).2 = 0
            · have HE := Lib.hid he
              clear he
              by_cases hs : ka = sub
              · have hs' := hs.symm
                subst hs'
                go_wp2_with (go_at_call 29; ((with_reducible refine (BOwe K5.out (sub, kb)).mono ?_); rintro e w6 ⟨rfl, h6, a6⟩; rw [HE.out]; have y1 := blk_cell (a6.blk X5.out (by omega)) 1 (v := .int .i64 sub) rfl; have H6 := Lib.hid h6; have A6 := Lib.hid a6; clear h6 a6))
                go_meet
                rw [HEN.out, E0.out, if_pos (by simp [HE.out])]
                exact ⟨by go_num, H6.out, A6.out⟩
              · have hs' : (ka == sub) = false := by simpa using hs
                have HS := Lib.hid hs
                clear hs
                go_wp2_with (go_at_call 29; ((with_reducible refine (BOwe K5.out (ka, kb)).mono ?_); rintro e w6 ⟨rfl, h6, a6⟩; rw [HE.out]; have y1 := blk_cell (a6.blk X5.out (by omega)) 1 (v := .int .i64 ka) rfl; have H6 := Lib.hid h6; have A6 := Lib.hid a6; clear h6 a6))
                go_meet
                rw [HEN.out, E0.out, if_neg (fun h => HS.out h.2.2)]
                exact ⟨rfl, H6.out, A6.out⟩
            · have he' : ((oweB m (ka, kb)).2 == 0) = false := by simpa using he
              have HE := Lib.hid he
              clear he
              go_wp2_with (go_at_call 29; ((with_reducible refine (BOwe K5.out (ka, kb)).mono ?_); rintro e w6 ⟨rfl, h6, a6⟩; have H6 := Lib.hid h6; have A6 := Lib.hid a6; clear h6 a6))
              go_meet
              rw [HEN.out, E0.out, if_neg (fun h => HE.out h.2.1)]
              exact ⟨rfl, H6.out, A6.out⟩
          · have e0 : actB m (1, (ka, kb), f) = settleB m (ka, kb) f := by unfold actB; simp
            have E0 := Lib.hid e0
            clear e0
            go_wp2_with (go_at_call 30; ((with_reducible refine (BSettle K5.out (ka, kb) f).mono ?_); rintro e w6 ⟨rfl, h6, a6⟩; have H6 := Lib.hid h6; have A6 := Lib.hid a6; clear h6 a6))
            go_meet
            rw [HEN.out, E0.out, if_neg (fun h => by cases h.1)]
            exact ⟨rfl, H6.out, A6.out⟩
          · have e0 : actB m (2, (ka, kb), f) = ((endB m ka f).1, 0) := by unfold actB; simp
            have E0 := Lib.hid e0
            clear e0
            go_wp2_with (go_at_call 31; ((with_reducible refine (BEnd K5.out ka f (by have := HML.out; omega)).mono ?_); rintro e w6 ⟨⟨v6, rfl, _⟩, h6, a6⟩; have H6 := Lib.hid h6; have A6 := Lib.hid a6; clear h6 a6))
            go_meet
            rw [HEN.out, E0.out, if_neg (fun h => by cases h.1)]
            exact ⟨rfl, H6.out, A6.out⟩
          · have e0 : actB m (d, (ka, kb), f) = (m, 0) := by unfold actB; simp [h0, h1, h2]
            have E0 := Lib.hid e0
            clear e0
            have b0 : (d == 0) = false := by simpa using h0
            have b1 : (d == 1) = false := by simpa using h1
            have b2 : (d == 2) = false := by simpa using h2
            have H00 := Lib.hid h0
            clear h0 h1 h2
            go_wp2
            go_meet
            rw [HEN.out, E0.out, if_neg (fun h => H00.out h.1)]
            exact ⟨rfl, K5.out, Away.refl _ _⟩
        case rest =>
          obtain ⟨rfl, hb6, ha6⟩ := hcut
          have HB := Lib.hid hb6
          have HO6 := Lib.hid (O5.out.away ha6 (by omega) (by omega))
          have X6 := Lib.hid (ha6.blk X5.out (by omega))
          have MM6 := Lib.hid (Away.to_more M5.out ha6 (fun z hz => by subst hz; omega))
          have hml2 := actB_len m (d, (ka, kb), f)
          have hml4 : (actB m (d, (ka, kb), f)).1.length ≤ j + 1 := by have := HML.out; omega
          have hml3 : (actB m (d, (ka, kb), f)).1.length ≤ 1000000 := by omega
          have HL2 := Lib.hid hml4
          have x0 := blk_cell X6.out 0 (v := .int .i64 d) rfl
          have x1 := blk_cell X6.out 1 (v := .int .i64 ka) rfl
          have x2 := blk_cell X6.out 2 (v := .int .i64 kb) rfl
          have x3 := blk_cell X6.out 3 (v := .int .i64 f) rfl
          have hf150 : ((flt (actB m (d, (ka, kb), f)).1 sub).length : Int) ≤ 1000000 := by have := flt_len (actB m (d, (ka, kb), f)).1 sub; omega
          clear hb6 ha6 hml2 hml4
          by_cases hs : ka = sub
          · have hs' := hs.symm
            subst hs'
            go_upto_block 3 with fail
            go_cut [] from 69 to 132 (fun wx => BookAt wx B2 b2 (actB (flt m sub) (d, (sub, kb), f)).1 ∧ Away (fun z => z = b2) wc wx)
            case first =>
              have hways : d = 0 ∨ d = 1 ∨ d = 2 ∨ (¬ d = 0 ∧ ¬ d = 1 ∧ ¬ d = 2) := by omega
              rcases hways with rfl | rfl | rfl | ⟨h0, h1, h2⟩
              · have e0 : actB (flt m sub) (0, (sub, kb), f) = oweB (flt m sub) (sub, kb) := by unfold actB; simp
                have E0 := Lib.hid e0
                clear e0
                go_wp2_with (go_at_call 29; ((with_reducible refine (BOwe HO6.out (sub, kb)).mono ?_); rintro e w6 ⟨rfl, h6, a6⟩; have H6 := Lib.hid h6; have A6 := Lib.hid a6; clear h6 a6))
                go_meet
                rw [E0.out]
                exact ⟨H6.out, A6.out⟩
              · have e0 : actB (flt m sub) (1, (sub, kb), f) = settleB (flt m sub) (sub, kb) f := by unfold actB; simp
                have E0 := Lib.hid e0
                clear e0
                go_wp2_with (go_at_call 30; ((with_reducible refine (BSettle HO6.out (sub, kb) f).mono ?_); rintro e w6 ⟨rfl, h6, a6⟩; have H6 := Lib.hid h6; have A6 := Lib.hid a6; clear h6 a6))
                go_meet
                rw [E0.out]
                exact ⟨H6.out, A6.out⟩
              · have e0 : actB (flt m sub) (2, (sub, kb), f) = ((endB (flt m sub) sub f).1, 0) := by unfold actB; simp
                have E0 := Lib.hid e0
                clear e0
                go_wp2_with (go_at_call 31; ((with_reducible refine (BEnd HO6.out sub f (by have := HML.out; have := flt_len m sub; omega)).mono ?_); rintro e w6 ⟨⟨v6, rfl, _⟩, h6, a6⟩; have H6 := Lib.hid h6; have A6 := Lib.hid a6; clear h6 a6))
                go_meet
                rw [E0.out]
                exact ⟨H6.out, A6.out⟩
              · have e0 : actB (flt m sub) (d, (sub, kb), f) = (flt m sub, 0) := by unfold actB; simp [h0, h1, h2]
                have E0 := Lib.hid e0
                clear e0
                have b0 : (d == 0) = false := by simpa using h0
                have b1 : (d == 1) = false := by simpa using h1
                have b2 : (d == 2) = false := by simpa using h2
                clear h0 h1 h2
                go_wp2
                go_meet
                rw [E0.out]
                exact ⟨HO6.out, Away.refl _ _⟩
            case rest =>
              obtain ⟨ho8, ha8⟩ := hcut
              rw [← flt_same] at ho8
              have HO := Lib.hid ho8
              have HB := Lib.hid (HB.out.away ha8 (by omega) (by omega))
              have MM := Lib.hid (Away.to_more MM6.out ha8 (fun z hz => by subst hz; omega))
              clear ho8 ha8 x0 x1 x2 x3
              generalize (actB m (d, (sub, kb), f)).1 = m' at *
              obtain ⟨n0, n1, n2, n3, n4, n5, n6, n7, n8, hc, hsum, hc0, hcb⟩ := nine m' sub HB.out.ok hml3
              have HC := Lib.hid hc
              have HSUM := Lib.hid hsum
              have HCB := Lib.hid hcb
              have hps := psum_le [n0, n1, n2, n3, n4, n5, n6, n7, n8] hcb
              have HPS := Lib.hid hps
              have HC0 := Lib.hid hc0
              clear hc hsum hcb hps hc0
              go_wp2_with (go_at_call 33; ((with_reducible refine (BCounts HB.out sub hml3).mono ?_); rintro e w7 ⟨rfl, m7⟩; rw [HC.out]; have HB7 := Lib.hid ((HB.out.more m7).more (More.alloc w7 (.cells #[.int .i64 n0, .int .i64 n1, .int .i64 n2, .int .i64 n3, .int .i64 n4, .int .i64 n5, .int .i64 n6, .int .i64 n7, .int .i64 n8] 67))); have HO7 := Lib.hid ((HO.out.more m7).more (More.alloc w7 (.cells #[.int .i64 n0, .int .i64 n1, .int .i64 n2, .int .i64 n3, .int .i64 n4, .int .i64 n5, .int .i64 n6, .int .i64 n7, .int .i64 n8] 67))); have MM7 := Lib.hid ((MM.out.trans m7).al (.cells #[.int .i64 n0, .int .i64 n1, .int .i64 n2, .int .i64 n3, .int .i64 n4, .int .i64 n5, .int .i64 n6, .int .i64 n7, .int .i64 n8] 67)); clear m7))
              go_loop [10, 96] (fun s10 s96 => ∃ t : Nat, t ≤ 9 ∧ s96 = .int .i64 t ∧ s10 = .int .i64 ([n0, n1, n2, n3, n4, n5, n6, n7, n8].take t).sum) (fun _ i => 9 - (intOf i).toNat)
              case atStart => exact ⟨0, by omega, rfl, by simp⟩
              case round =>
                obtain ⟨t, ht, rfl, rfl⟩ := hrel
                by_cases ht9 : t < 9
                · have hix := fun w => idx9 n0 n1 n2 n3 n4 n5 n6 n7 n8 t ht9 w
                  have hp1 := (HPS.out t).1
                  have hp2 := (HPS.out t).2
                  have hq1 := (HPS.out (t + 1)).1
                  have hq2 := (HPS.out (t + 1)).2
                  have hst := psum_step [n0, n1, n2, n3, n4, n5, n6, n7, n8] t ht9
                  rw [hst] at hq1 hq2
                  have HST := Lib.hid hst
                  have ht9i : (t : Int) < 9 := by omega
                  generalize ([n0, n1, n2, n3, n4, n5, n6, n7, n8].take t).sum = a at *
                  generalize [n0, n1, n2, n3, n4, n5, n6, n7, n8].getD t 0 = c at *
                  have hc1 : -100000000 ≤ c := by omega
                  have hc2 : c ≤ 100000000 := by omega
                  clear hst
                  go_wp2
                  go_round
                  case rel => exact ⟨t + 1, by omega, by go_num, by rw [HST.out]⟩
                  case measure => simp [intOf]; omega
                · obtain rfl : t = 9 := by omega
                  have hfin : ([n0, n1, n2, n3, n4, n5, n6, n7, n8].take 9).sum = ((flt m' sub).length : Int) := HSUM.out
                  rw [hfin]
                  clear hfin
                  have qn : ∀ w, (binOp .neq 67 (.agg #[.int .i64 n0, .int .i64 n1, .int .i64 n2, .int .i64 n3, .int .i64 n4, .int .i64 n5, .int .i64 n6, .int .i64 n7, .int .i64 n8]) (.agg #[.int .i64 n0, .int .i64 n1, .int .i64 n2, .int .i64 n3, .int .i64 n4, .int .i64 n5, .int .i64 n6, .int .i64 n7, .int .i64 n8])).run Try.prog w = .ok (.bool false) w := fun w => by
                    have := arr9_neq [n0, n1, n2, n3, n4, n5, n6, n7, n8] [n0, n1, n2, n3, n4, n5, n6, n7, n8] rfl rfl w
                    simpa using this
                  have hne0 : (n0 != ((pendB m' sub).length : Int)) = false := by rw [HC0.out]; simp
                  go_wp2_with fail
                  have L0 : ∀ x : Later (w7.alloc (.cells #[.int .i64 n0, .int .i64 n1, .int .i64 n2, .int .i64 n3, .int .i64 n4, .int .i64 n5, .int .i64 n6, .int .i64 n7, .int .i64 n8] 67)), x.w'.cell? ⟨w7.heap.size, 0, none⟩ = some (.int .i64 n0) := fun x => x.new 0 rfl
                  have L1 : ∀ x : Later (w7.alloc (.cells #[.int .i64 n0, .int .i64 n1, .int .i64 n2, .int .i64 n3, .int .i64 n4, .int .i64 n5, .int .i64 n6, .int .i64 n7, .int .i64 n8] 67)), x.w'.cell? ⟨w7.heap.size, 1, none⟩ = some (.int .i64 n1) := fun x => x.new 1 rfl
                  have L2 : ∀ x : Later (w7.alloc (.cells #[.int .i64 n0, .int .i64 n1, .int .i64 n2, .int .i64 n3, .int .i64 n4, .int .i64 n5, .int .i64 n6, .int .i64 n7, .int .i64 n8] 67)), x.w'.cell? ⟨w7.heap.size, 2, none⟩ = some (.int .i64 n2) := fun x => x.new 2 rfl
                  have L3 : ∀ x : Later (w7.alloc (.cells #[.int .i64 n0, .int .i64 n1, .int .i64 n2, .int .i64 n3, .int .i64 n4, .int .i64 n5, .int .i64 n6, .int .i64 n7, .int .i64 n8] 67)), x.w'.cell? ⟨w7.heap.size, 3, none⟩ = some (.int .i64 n3) := fun x => x.new 3 rfl
                  have L4 : ∀ x : Later (w7.alloc (.cells #[.int .i64 n0, .int .i64 n1, .int .i64 n2, .int .i64 n3, .int .i64 n4, .int .i64 n5, .int .i64 n6, .int .i64 n7, .int .i64 n8] 67)), x.w'.cell? ⟨w7.heap.size, 4, none⟩ = some (.int .i64 n4) := fun x => x.new 4 rfl
                  have L5 : ∀ x : Later (w7.alloc (.cells #[.int .i64 n0, .int .i64 n1, .int .i64 n2, .int .i64 n3, .int .i64 n4, .int .i64 n5, .int .i64 n6, .int .i64 n7, .int .i64 n8] 67)), x.w'.cell? ⟨w7.heap.size, 5, none⟩ = some (.int .i64 n5) := fun x => x.new 5 rfl
                  have L6 : ∀ x : Later (w7.alloc (.cells #[.int .i64 n0, .int .i64 n1, .int .i64 n2, .int .i64 n3, .int .i64 n4, .int .i64 n5, .int .i64 n6, .int .i64 n7, .int .i64 n8] 67)), x.w'.cell? ⟨w7.heap.size, 6, none⟩ = some (.int .i64 n6) := fun x => x.new 6 rfl
                  have L7 : ∀ x : Later (w7.alloc (.cells #[.int .i64 n0, .int .i64 n1, .int .i64 n2, .int .i64 n3, .int .i64 n4, .int .i64 n5, .int .i64 n6, .int .i64 n7, .int .i64 n8] 67)), x.w'.cell? ⟨w7.heap.size, 7, none⟩ = some (.int .i64 n7) := fun x => x.new 7 rfl
                  have L8 : ∀ x : Later (w7.alloc (.cells #[.int .i64 n0, .int .i64 n1, .int .i64 n2, .int .i64 n3, .int .i64 n4, .int .i64 n5, .int .i64 n6, .int .i64 n7, .int .i64 n8] 67)), x.w'.cell? ⟨w7.heap.size, 8, none⟩ = some (.int .i64 n8) := fun x => x.new 8 rfl
                  generalize w7.alloc (.cells #[.int .i64 n0, .int .i64 n1, .int .i64 n2, .int .i64 n3, .int .i64 n4, .int .i64 n5, .int .i64 n6, .int .i64 n7, .int .i64 n8] 67) = W9 at *
                  refine wp_region_num W9 29 [(0, false), (1, false), (2, false), (3, false), (4, false), (5, false), (6, false), (7, false), (8, true), (9, false), (10, false), (11, false), (12, false), (13, false), (14, false), (15, false), (16, true), (17, false), (18, false), (19, false), (20, false), (21, false), (23, false), (24, false), (22, true), (25, true), (26, true), (27, false), (28, false)] (by kernel_rfl) (by kernel_rfl) ?_
                  iterate 8 (refine num_quiet rfl rfl (later_mk (by repeat (first | exact More.refl _ | assumption | refine More.dr ?_ _ | refine More.al ?_ _ | refine More.st ?_ (by simp) _))) ?_; intro K hK; go_big_quiet_op; go_big_quiet_on)
                  (refine num_next rfl rfl ?_; intro K hK; unfold loud; go_simp)
                  refine (BPending (HB7.out.more (More.drewN _ 1)) sub hml3).mono ?_
                  rintro e w10 ⟨⟨v10, rfl, s10⟩, m10⟩
                  have M10 : More W9 w10 := (More.drewN W9 1).trans m10
                  obtain ⟨o10, k10, rfl, _⟩ := s10
                  refine ⟨_, rfl, later_mk M10, hK _ _ ?_⟩
                  clear hK K m10
                  iterate 7 (refine num_quiet rfl rfl (later_mk M10) ?_; intro K hK; go_big_quiet_op; go_big_quiet_on)
                  (refine num_next rfl rfl ?_; intro K hK; unfold loud; go_simp)
                  refine (BCounts (HO7.out.more M10) sub (Nat.le_trans (flt_len m' sub) hml3)).mono ?_
                  rintro e w11 ⟨rfl, m11⟩
                  rw [cntArr_flt, HC.out]
                  have M11 := M10.trans m11
                  refine ⟨_, rfl, later_mk M11, hK _ _ ?_⟩
                  clear hK K m11
                  iterate 7 (refine num_quiet rfl rfl (later_mk M11) ?_; intro K hK; go_big_quiet_op; go_big_quiet_on)
                  (refine num_next rfl rfl ?_; intro K hK; unfold loud; go_simp)
                  refine (BPending (HB7.out.more M11) sub hml3).mono ?_
                  rintro e w12 ⟨⟨v12, rfl, s12⟩, m12⟩
                  have M12 : More W9 w12 := M11.trans m12
                  have S12 := Lib.hid s12
                  refine ⟨_, rfl, later_mk M12, hK _ _ ?_⟩
                  clear hK K m12 s12
                  (refine num_next rfl rfl ?_; intro K hK; unfold loud; go_simp)
                  refine (BPending (HO7.out.more M12) sub (Nat.le_trans (flt_len m' sub) hml3)).mono ?_
                  rintro e w13 ⟨⟨v13, rfl, s13⟩, m13⟩
                  rw [pendB_flt] at s13
                  have M13 : More W9 w13 := M12.trans m13
                  have S12' := Lib.hid (S12.out.keep m13)
                  have S13 := Lib.hid s13
                  refine ⟨_, rfl, later_mk M13, hK _ _ ?_⟩
                  clear hK K m13 s13 S12
                  (refine num_next rfl rfl ?_; intro K hK; unfold loud; go_simp)
                  refine (SameI_any (pendB m' sub) (pendB m' sub) v12 v13 w13 S12'.out S13.out).mono ?_
                  rintro e w14 ⟨rfl, k14, rfl⟩
                  rw [decide_eq_true rfl]
                  have M14 : More W9 (w13.drewN k14) := M13.trans (More.drewN _ _)
                  refine ⟨_, rfl, later_mk M14, hK _ _ ?_⟩
                  clear hK K
                  iterate 2 (refine num_quiet rfl rfl (later_mk M14) ?_; intro K hK; go_big_quiet_op; go_big_quiet_on)
                  refine num_nil ?_
                  go_wp2
                  go_roundw
                  case rel => exact ⟨j + 1, by omega, by go_num, m', rfl, HB7.out.more M14, HO7.out.more M14, HL2.out, MM7.out.trans M14⟩
                  case measure => simp [intOf]; omega
          · have hs' : (ka == sub) = false := by simpa using hs
            have HO := Lib.hid HO6.out
            rw [← flt_other m d kb f hs] at HO
            have MM := MM6
            clear hs
            generalize (actB m (d, (ka, kb), f)).1 = m' at *
            obtain ⟨n0, n1, n2, n3, n4, n5, n6, n7, n8, hc, hsum, hc0, hcb⟩ := nine m' sub HB.out.ok hml3
            have HC := Lib.hid hc
            have HSUM := Lib.hid hsum
            have HCB := Lib.hid hcb
            have hps := psum_le [n0, n1, n2, n3, n4, n5, n6, n7, n8] hcb
            have HPS := Lib.hid hps
            have HC0 := Lib.hid hc0
            clear hc hsum hcb hps hc0
            go_wp2_with (go_at_call 33; ((with_reducible refine (BCounts HB.out sub hml3).mono ?_); rintro e w7 ⟨rfl, m7⟩; rw [HC.out]; have HB7 := Lib.hid ((HB.out.more m7).more (More.alloc w7 (.cells #[.int .i64 n0, .int .i64 n1, .int .i64 n2, .int .i64 n3, .int .i64 n4, .int .i64 n5, .int .i64 n6, .int .i64 n7, .int .i64 n8] 67))); have HO7 := Lib.hid ((HO.out.more m7).more (More.alloc w7 (.cells #[.int .i64 n0, .int .i64 n1, .int .i64 n2, .int .i64 n3, .int .i64 n4, .int .i64 n5, .int .i64 n6, .int .i64 n7, .int .i64 n8] 67))); have MM7 := Lib.hid ((MM.out.trans m7).al (.cells #[.int .i64 n0, .int .i64 n1, .int .i64 n2, .int .i64 n3, .int .i64 n4, .int .i64 n5, .int .i64 n6, .int .i64 n7, .int .i64 n8] 67)); clear m7))
            go_loop [10, 96] (fun s10 s96 => ∃ t : Nat, t ≤ 9 ∧ s96 = .int .i64 t ∧ s10 = .int .i64 ([n0, n1, n2, n3, n4, n5, n6, n7, n8].take t).sum) (fun _ i => 9 - (intOf i).toNat)
            case atStart => exact ⟨0, by omega, rfl, by simp⟩
            case round =>
              obtain ⟨t, ht, rfl, rfl⟩ := hrel
              by_cases ht9 : t < 9
              · have hix := fun w => idx9 n0 n1 n2 n3 n4 n5 n6 n7 n8 t ht9 w
                have hp1 := (HPS.out t).1
                have hp2 := (HPS.out t).2
                have hq1 := (HPS.out (t + 1)).1
                have hq2 := (HPS.out (t + 1)).2
                have hst := psum_step [n0, n1, n2, n3, n4, n5, n6, n7, n8] t ht9
                rw [hst] at hq1 hq2
                have HST := Lib.hid hst
                have ht9i : (t : Int) < 9 := by omega
                generalize ([n0, n1, n2, n3, n4, n5, n6, n7, n8].take t).sum = a at *
                generalize [n0, n1, n2, n3, n4, n5, n6, n7, n8].getD t 0 = c at *
                have hc1 : -100000000 ≤ c := by omega
                have hc2 : c ≤ 100000000 := by omega
                clear hst
                go_wp2
                go_round
                case rel => exact ⟨t + 1, by omega, by go_num, by rw [HST.out]⟩
                case measure => simp [intOf]; omega
              · obtain rfl : t = 9 := by omega
                have hfin : ([n0, n1, n2, n3, n4, n5, n6, n7, n8].take 9).sum = ((flt m' sub).length : Int) := HSUM.out
                rw [hfin]
                clear hfin
                have qn : ∀ w, (binOp .neq 67 (.agg #[.int .i64 n0, .int .i64 n1, .int .i64 n2, .int .i64 n3, .int .i64 n4, .int .i64 n5, .int .i64 n6, .int .i64 n7, .int .i64 n8]) (.agg #[.int .i64 n0, .int .i64 n1, .int .i64 n2, .int .i64 n3, .int .i64 n4, .int .i64 n5, .int .i64 n6, .int .i64 n7, .int .i64 n8])).run Try.prog w = .ok (.bool false) w := fun w => by
                  have := arr9_neq [n0, n1, n2, n3, n4, n5, n6, n7, n8] [n0, n1, n2, n3, n4, n5, n6, n7, n8] rfl rfl w
                  simpa using this
                have hne0 : (n0 != ((pendB m' sub).length : Int)) = false := by rw [HC0.out]; simp
                go_wp2_with fail
                have L0 : ∀ x : Later (w7.alloc (.cells #[.int .i64 n0, .int .i64 n1, .int .i64 n2, .int .i64 n3, .int .i64 n4, .int .i64 n5, .int .i64 n6, .int .i64 n7, .int .i64 n8] 67)), x.w'.cell? ⟨w7.heap.size, 0, none⟩ = some (.int .i64 n0) := fun x => x.new 0 rfl
                have L1 : ∀ x : Later (w7.alloc (.cells #[.int .i64 n0, .int .i64 n1, .int .i64 n2, .int .i64 n3, .int .i64 n4, .int .i64 n5, .int .i64 n6, .int .i64 n7, .int .i64 n8] 67)), x.w'.cell? ⟨w7.heap.size, 1, none⟩ = some (.int .i64 n1) := fun x => x.new 1 rfl
                have L2 : ∀ x : Later (w7.alloc (.cells #[.int .i64 n0, .int .i64 n1, .int .i64 n2, .int .i64 n3, .int .i64 n4, .int .i64 n5, .int .i64 n6, .int .i64 n7, .int .i64 n8] 67)), x.w'.cell? ⟨w7.heap.size, 2, none⟩ = some (.int .i64 n2) := fun x => x.new 2 rfl
                have L3 : ∀ x : Later (w7.alloc (.cells #[.int .i64 n0, .int .i64 n1, .int .i64 n2, .int .i64 n3, .int .i64 n4, .int .i64 n5, .int .i64 n6, .int .i64 n7, .int .i64 n8] 67)), x.w'.cell? ⟨w7.heap.size, 3, none⟩ = some (.int .i64 n3) := fun x => x.new 3 rfl
                have L4 : ∀ x : Later (w7.alloc (.cells #[.int .i64 n0, .int .i64 n1, .int .i64 n2, .int .i64 n3, .int .i64 n4, .int .i64 n5, .int .i64 n6, .int .i64 n7, .int .i64 n8] 67)), x.w'.cell? ⟨w7.heap.size, 4, none⟩ = some (.int .i64 n4) := fun x => x.new 4 rfl
                have L5 : ∀ x : Later (w7.alloc (.cells #[.int .i64 n0, .int .i64 n1, .int .i64 n2, .int .i64 n3, .int .i64 n4, .int .i64 n5, .int .i64 n6, .int .i64 n7, .int .i64 n8] 67)), x.w'.cell? ⟨w7.heap.size, 5, none⟩ = some (.int .i64 n5) := fun x => x.new 5 rfl
                have L6 : ∀ x : Later (w7.alloc (.cells #[.int .i64 n0, .int .i64 n1, .int .i64 n2, .int .i64 n3, .int .i64 n4, .int .i64 n5, .int .i64 n6, .int .i64 n7, .int .i64 n8] 67)), x.w'.cell? ⟨w7.heap.size, 6, none⟩ = some (.int .i64 n6) := fun x => x.new 6 rfl
                have L7 : ∀ x : Later (w7.alloc (.cells #[.int .i64 n0, .int .i64 n1, .int .i64 n2, .int .i64 n3, .int .i64 n4, .int .i64 n5, .int .i64 n6, .int .i64 n7, .int .i64 n8] 67)), x.w'.cell? ⟨w7.heap.size, 7, none⟩ = some (.int .i64 n7) := fun x => x.new 7 rfl
                have L8 : ∀ x : Later (w7.alloc (.cells #[.int .i64 n0, .int .i64 n1, .int .i64 n2, .int .i64 n3, .int .i64 n4, .int .i64 n5, .int .i64 n6, .int .i64 n7, .int .i64 n8] 67)), x.w'.cell? ⟨w7.heap.size, 8, none⟩ = some (.int .i64 n8) := fun x => x.new 8 rfl
                generalize w7.alloc (.cells #[.int .i64 n0, .int .i64 n1, .int .i64 n2, .int .i64 n3, .int .i64 n4, .int .i64 n5, .int .i64 n6, .int .i64 n7, .int .i64 n8] 67) = W9 at *
                refine wp_region_num W9 29 [(0, false), (1, false), (2, false), (3, false), (4, false), (5, false), (6, false), (7, false), (8, true), (9, false), (10, false), (11, false), (12, false), (13, false), (14, false), (15, false), (16, true), (17, false), (18, false), (19, false), (20, false), (21, false), (23, false), (24, false), (22, true), (25, true), (26, true), (27, false), (28, false)] (by kernel_rfl) (by kernel_rfl) ?_
                iterate 8 (refine num_quiet rfl rfl (later_mk (by repeat (first | exact More.refl _ | assumption | refine More.dr ?_ _ | refine More.al ?_ _ | refine More.st ?_ (by simp) _))) ?_; intro K hK; go_big_quiet_op; go_big_quiet_on)
                (refine num_next rfl rfl ?_; intro K hK; unfold loud; go_simp)
                refine (BPending (HB7.out.more (More.drewN _ 1)) sub hml3).mono ?_
                rintro e w10 ⟨⟨v10, rfl, s10⟩, m10⟩
                have M10 : More W9 w10 := (More.drewN W9 1).trans m10
                obtain ⟨o10, k10, rfl, _⟩ := s10
                refine ⟨_, rfl, later_mk M10, hK _ _ ?_⟩
                clear hK K m10
                iterate 7 (refine num_quiet rfl rfl (later_mk M10) ?_; intro K hK; go_big_quiet_op; go_big_quiet_on)
                (refine num_next rfl rfl ?_; intro K hK; unfold loud; go_simp)
                refine (BCounts (HO7.out.more M10) sub (Nat.le_trans (flt_len m' sub) hml3)).mono ?_
                rintro e w11 ⟨rfl, m11⟩
                rw [cntArr_flt, HC.out]
                have M11 := M10.trans m11
                refine ⟨_, rfl, later_mk M11, hK _ _ ?_⟩
                clear hK K m11
                iterate 7 (refine num_quiet rfl rfl (later_mk M11) ?_; intro K hK; go_big_quiet_op; go_big_quiet_on)
                (refine num_next rfl rfl ?_; intro K hK; unfold loud; go_simp)
                refine (BPending (HB7.out.more M11) sub hml3).mono ?_
                rintro e w12 ⟨⟨v12, rfl, s12⟩, m12⟩
                have M12 : More W9 w12 := M11.trans m12
                have S12 := Lib.hid s12
                refine ⟨_, rfl, later_mk M12, hK _ _ ?_⟩
                clear hK K m12 s12
                (refine num_next rfl rfl ?_; intro K hK; unfold loud; go_simp)
                refine (BPending (HO7.out.more M12) sub (Nat.le_trans (flt_len m' sub) hml3)).mono ?_
                rintro e w13 ⟨⟨v13, rfl, s13⟩, m13⟩
                rw [pendB_flt] at s13
                have M13 : More W9 w13 := M12.trans m13
                have S12' := Lib.hid (S12.out.keep m13)
                have S13 := Lib.hid s13
                refine ⟨_, rfl, later_mk M13, hK _ _ ?_⟩
                clear hK K m13 s13 S12
                (refine num_next rfl rfl ?_; intro K hK; unfold loud; go_simp)
                refine (SameI_any (pendB m' sub) (pendB m' sub) v12 v13 w13 S12'.out S13.out).mono ?_
                rintro e w14 ⟨rfl, k14, rfl⟩
                rw [decide_eq_true rfl]
                have M14 : More W9 (w13.drewN k14) := M13.trans (More.drewN _ _)
                refine ⟨_, rfl, later_mk M14, hK _ _ ?_⟩
                clear hK K
                iterate 2 (refine num_quiet rfl rfl (later_mk M14) ?_; intro K hK; go_big_quiet_op; go_big_quiet_on)
                refine num_nil ?_
                go_wp2
                go_roundw
                case rel => exact ⟨j + 1, by omega, by go_num, m', rfl, HB7.out.more M14, HO7.out.more M14, HL2.out, MM7.out.trans M14⟩
                case measure => simp [intOf]; omega
      · obtain rfl : j = l.length := by omega
        clear hel
        go_wp2
        go_ret
        exact ⟨rfl, hmr⟩
end Go.Proofs.Ytmhkjamibcdcdaa
