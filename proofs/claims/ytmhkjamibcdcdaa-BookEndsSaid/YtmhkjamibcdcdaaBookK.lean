/- The law BookEnds, walked. -/
import Derived.Test.YtmhkjamibcdcdaaBookI
import Derived.Test.YtmhkjamibcdcdaaRowS
namespace Go.Proofs.Ytmhkjamibcdcdaa
open Go.RowKit
set_option maxRecDepth 100000

theorem pend_end (m : Bk) (sub f : Int) (hf : f ≠ 0) : pendB (endM m sub f) sub = [] := by
  have : pendOf sub (endM m sub f) = [] := by
    unfold pendOf endM
    rw [List.filterMap_map]
    induction m with
    | nil => rfl
    | cons p l ih =>
      rw [List.filterMap_cons, ih]
      simp only [Function.comp]
      by_cases h : p.1.1 = sub ∧ p.2 = 0
      · simp [h, hf]
      · simp [h]
  unfold pendB
  rw [this]
  exact srt_of_sorted (by simp)
theorem cnt_end (m : Bk) (sub : Int) (nf : Nat) (hf : 1 ≤ nf) (g : Nat) : cntF sub g (endM m sub (nf : Int)) = if g = 0 then 0 else if g = nf then cntF sub nf m + cntF sub 0 m else cntF sub g m := by
  have hc : ∀ (g : Nat) (p : (Int × Int) × Int) (l : Bk), cntF sub g (p :: l) = cntF sub g l + if p.1.1 = sub ∧ p.2 = (g : Int) then 1 else 0 := fun g p l => by
    unfold cntF
    rw [List.countP_cons]
    by_cases e : p.1.1 = sub ∧ p.2 = (g : Int) <;> simp [e]
  induction m with
  | nil => simp [endM, cntF]
  | cons p l ih =>
    have e : endM (p :: l) sub (nf : Int) = (if p.1.1 = sub ∧ p.2 = 0 then (p.1, (nf : Int)) else p) :: endM l sub (nf : Int) := rfl
    rw [e, hc, ih]
    simp only [hc]
    by_cases h1 : p.1.1 = sub
    · by_cases h2 : p.2 = 0
      · by_cases g0 : g = 0
        · subst g0; simp [h1, h2]; omega
        · by_cases gn : g = nf
          · subst gn; simp [h1, h2, g0]; omega
          · have gn' : ¬ (nf : Int) = (g : Int) := by omega
            have g0' : ¬ (0 : Int) = (g : Int) := by omega
            simp [h1, h2, g0, gn, gn', g0']
      · by_cases g0 : g = 0
        · subst g0; simp [h1, h2]
        · by_cases gn : g = nf
          · subst gn; simp [h1, h2, g0]; omega
          · simp [h1, h2, g0, gn]
    · by_cases g0 : g = 0
      · subst g0; simp [h1]
      · by_cases gn : g = nf
        · subst gn; simp [h1, g0]
        · simp [h1, g0, gn]
theorem arr_end (m : Bk) (sub : Int) (nf : Nat) (h1 : 1 ≤ nf) (h8 : nf ≤ 8) : ((cntArr sub m).setIfInBounds nf (.int .i64 (cntF sub nf m + cntF sub 0 m))).setIfInBounds 0 (.int .i64 0) = cntArr sub (endM m sub (nf : Int)) := by
  have hc := cnt_end m sub nf h1
  unfold cntArr
  simp only [hc]
  have : nf = 1 ∨ nf = 2 ∨ nf = 3 ∨ nf = 4 ∨ nf = 5 ∨ nf = 6 ∨ nf = 7 ∨ nf = 8 := by omega
  rcases this with rfl | rfl | rfl | rfl | rfl | rfl | rfl | rfl <;> simp
theorem SlI.onmap2 {K V : Type} {k : IntKind} {w w' : World} {b : Nat} {v : Value} {l : List Int} {ke : K → Value} {ve : V → Value} {L : List (K × V)} (h : SlI k w v l) (hm : MapAt w b ke ve L) (a : Away (fun z => z = b ∨ w.heap.size ≤ z) w w') : SlI k w' v l := by
  obtain ⟨oa, cap, h1, h2, h3, h4⟩ := h
  refine ⟨oa, cap, h1, h2, fun i hi => ?_, h4⟩
  obtain ⟨c, off, e, hc, hv⟩ := h3 i hi
  have hne : ¬ (c = b ∨ w.heap.size ≤ c) := by
    rintro (rfl | h)
    · obtain ⟨es, cl, hb, _⟩ := hm.ex
      simp [World.cell?, hb] at hv
    · omega
  exact ⟨c, off, e, Nat.lt_of_lt_of_le hc a.size, by rw [a.cells c (off + i) hc hne]; exact hv⟩
theorem owe_len (m : Bk) (k : Int × Int) : (oweB m k).1.length ≤ m.length + 1 := by have := actB_len m (0, k, 0); simpa [actB] using this
theorem settle_len (m : Bk) (k : Int × Int) (f : Int) : (settleB m k f).1.length ≤ m.length + 1 := by have := actB_len m (1, k, f); simpa [actB] using this
theorem endM_len (m : Bk) (sub f : Int) : (endM m sub f).length = m.length := by simp [endM]

set_option maxHeartbeats 16000000 in
theorem BookEnds_law (v : Value) (l : List A14) (sub f : Int) (w : World) (sl : SlP 4 RAct14 w v l) (_b1 : -9223372036854775808 ≤ sub ∧ sub ≤ 9223372036854775807) (_b2 : -9223372036854775808 ≤ f ∧ f ≤ 9223372036854775807) :
    Calls Try.prog 10 #[v, .int .i64 sub, .int .i64 f] w fun e w' => e = .returned (.bool true) ∧ More w w' := by
  clear _b1 _b2
  obtain ⟨oa, cap, rfl, hl63, hel⟩ := acts14 sl
  clear sl
  have hways : (150 : Int) < (l.length : Int) ∨ (¬ (150 : Int) < (l.length : Int) ∧ f < 1) ∨ (¬ (150 : Int) < (l.length : Int) ∧ ¬ f < 1 ∧ 8 < f) ∨ (¬ (150 : Int) < (l.length : Int) ∧ ¬ f < 1 ∧ ¬ 8 < f) := by omega
  rcases hways with hlen | ⟨hlen, hf1⟩ | ⟨hlen, hf1, hf8⟩ | ⟨hlen, hf1, hf8⟩
  · go_enter Try.func10, Try.ntmps10
    go_wp2_with (go_at_call 26; refine (awake14 _).mono ?_; rintro e w1 ⟨rfl, hm1⟩)
    go_ret
    exact ⟨rfl, hm1⟩
  · go_enter Try.func10, Try.ntmps10
    go_wp2_with (go_at_call 26; refine (awake14 _).mono ?_; rintro e w1 ⟨rfl, hm1⟩)
    go_ret
    exact ⟨rfl, hm1⟩
  · go_enter Try.func10, Try.ntmps10
    go_wp2_with (go_at_call 26; refine (awake14 _).mono ?_; rintro e w1 ⟨rfl, hm1⟩)
    go_ret
    exact ⟨rfl, hm1⟩
  · obtain ⟨nf, rfl⟩ : ∃ n : Nat, f = n := ⟨f.toNat, by omega⟩
    have hn1 : 1 ≤ nf := by omega
    have hn8 : nf ≤ 8 := by omega
    have hl150 : l.length ≤ 150 := by omega
    go_enter Try.func10, Try.ntmps10
    go_wp2_with first | (go_at_call 26; refine (awake14 _).mono ?_; rintro e w1 ⟨rfl, hm1⟩; have Z1 := hm1.size; have HM1 := Lib.hid hm1; clear hm1) | (go_at_call 27; ((with_reducible refine (BNew _).mono ?_); rintro e w2 ⟨B, b, rfl, hB, hb, h2, m2⟩; have H2 := Lib.hid h2; have HM2 := Lib.hid (HM1.out.trans m2); have hbw : w.heap.size ≤ b := (by omega); clear h2 m2))
    go_loopw [33] (fun i wr => ∃ j : Nat, j ≤ l.length ∧ i = .int .i64 j ∧ ∃ m : Bk, BookAt wr B b m ∧ m.length ≤ j ∧ More w wr) (fun i _ => l.length - (intOf i).toNat)
    case atStart => exact ⟨0, by omega, rfl, [], H2.out, by simp, HM2.out⟩
    case round =>
      obtain ⟨j, hj, rfl, m, hbk, hml, hmr⟩ := hrel
      by_cases hlt : j < l.length
      · obtain ⟨xb, off, rfl, hxb, hx0, hx1, hx2, hx3⟩ := hel j hlt
        have c0 := hmr.cells xb (off + j * 4) hxb
        have c1 := hmr.cells xb (off + j * 4 + 1) hxb
        have c2 := hmr.cells xb (off + j * 4 + 2) hxb
        have c3 := hmr.cells xb (off + j * 4 + 3) hxb
        rw [hx0] at c0
        rw [hx1] at c1
        rw [hx2] at c2
        rw [hx3] at c3
        have hjl : (j : Int) < (l.length : Int) := by omega
        have hbwr : xb < wr.heap.size := Nat.lt_of_lt_of_le hxb hmr.size
        clear hx0 hx1 hx2 hx3 hel
        generalize l.getD j a14z = x at *
        obtain ⟨d, ⟨ka, kb⟩, f⟩ := x
        simp only at c0 c1 c2 c3
        have K5 := Lib.hid (hbk.more (More.alloc wr (.cells #[.int .i64 d, .int .i64 ka, .int .i64 kb, .int .i64 f] 59)))
        have M5 := Lib.hid (hmr.al (.cells #[.int .i64 d, .int .i64 ka, .int .i64 kb, .int .i64 f] 59))
        have X5 := Lib.hid (blk_new wr (.cells #[.int .i64 d, .int .i64 ka, .int .i64 kb, .int .i64 f] 59))
        have hbr : b < wr.heap.size := hbk.map.lt
        have HML := Lib.hid hml
        clear hbk hmr hml
        have hways : d = 0 ∨ d = 1 ∨ (¬ d = 0 ∧ ¬ d = 1) := by omega
        rcases hways with rfl | rfl | ⟨h0, h1⟩
        · go_wp2_with (go_at_call 29; ((with_reducible refine (BOwe K5.out (ka, kb)).mono ?_); rintro e w6 ⟨rfl, h6, a6⟩; have H6 := Lib.hid h6; have M6 := Lib.hid (Away.to_more M5.out a6 (fun z hz => by subst hz; exact hbw)); have y0 := blk_cell (a6.blk X5.out (by omega)) 0 (v := .int .i64 0) rfl; clear h6 a6))
          go_roundw
          case rel => exact ⟨j + 1, by omega, by go_num, _, H6.out, by have := owe_len m (ka, kb); have := HML.out; omega, M6.out⟩
          case measure => simp [intOf]; omega
        · go_wp2_with (go_at_call 30; ((with_reducible refine (BSettle K5.out (ka, kb) f).mono ?_); rintro e w6 ⟨rfl, h6, a6⟩; have H6 := Lib.hid h6; have M6 := Lib.hid (Away.to_more M5.out a6 (fun z hz => by subst hz; exact hbw)); clear h6 a6))
          go_roundw
          case rel => exact ⟨j + 1, by omega, by go_num, _, H6.out, by have := settle_len m (ka, kb) f; have := HML.out; omega, M6.out⟩
          case measure => simp [intOf]; omega
        · have b0 : (d == 0) = false := by simpa using h0
          have b1 : (d == 1) = false := by simpa using h1
          clear h0 h1
          go_wp2
          go_roundw
          case rel => exact ⟨j + 1, by omega, by go_num, m, K5.out, by have := HML.out; omega, M5.out⟩
          case measure => simp [intOf]; omega
      · obtain rfl : j = l.length := by omega
        clear hel
        have hml3 : m.length ≤ 1000000 := by omega
        have HK := Lib.hid hbk
        have HMR := Lib.hid hmr
        have hbr : b < wr.heap.size := hbk.map.lt
        have hBr : B < wr.heap.size := blk_lt hbk.blk
        obtain ⟨n0, n1, n2, n3, n4, n5, n6, n7, n8, hc, hu1, hu2, hcb⟩ := nine m sub hbk.ok hml3
        obtain ⟨e0, e1, e2, e3, e4, e5, e6, e7, e8, he, hu3, hu4, hu5⟩ := nine (endM m sub (nf : Int)) sub (fun p hp => by
          obtain ⟨q, hq, rfl⟩ := List.mem_map.1 hp
          split
          · simp only; omega
          · exact hbk.ok q hq) (by rw [endM_len]; exact hml3)
        have hen : endB m sub (nf : Int) = (endM m sub (nf : Int), pendB m sub) := by unfold endB; rw [if_pos (by omega)]
        have HEN := Lib.hid hen
        have HC := Lib.hid hc
        have HE := Lib.hid he
        have hn0 : cntF sub 0 m = n0 := by
          have := cntArr_at sub m 0 (by omega)
          rw [hc] at this
          simpa using this.symm
        have hb0 := hcb n0 (by simp)
        have hbf := cntF_le sub nf m
        have HN0 := Lib.hid hn0
        have hcf : (#[.int .i64 n0, .int .i64 n1, .int .i64 n2, .int .i64 n3, .int .i64 n4, .int .i64 n5, .int .i64 n6, .int .i64 n7, .int .i64 n8] : Array Value)[nf]? = some (.int .i64 (cntF sub nf m)) := by rw [← hc]; exact cntArr_at sub m nf hn8
        have HCF := Lib.hid hcf
        have hcc : ∃ c, c = cntF sub nf m := ⟨_, rfl⟩
        obtain ⟨c, hcc⟩ := hcc
        rw [← hcc] at HCF hbf
        have HCC := Lib.hid hcc
        clear hbk hmr hc he hen hcb hn0 hu1 hu2 hu3 hu4 hu5 hcf hcc
        go_wp2_with first | (go_at_call 32; ((with_reducible refine (BPendingN HK.out sub hml3).mono ?_); rintro e w4 ⟨⟨v4, rfl, s4, _⟩, m4⟩; have S4 := Lib.hid s4; obtain ⟨o4, k4, rfl, _⟩ := s4; have H4 := Lib.hid (HK.out.more m4); have M4 := Lib.hid (HMR.out.trans m4); have z4 := m4.size; clear m4)) | (go_at_call 33; ((with_reducible refine (BCounts H4.out sub hml3).mono ?_); rintro e w5 ⟨rfl, m5⟩; rw [HC.out]; have A5 := Lib.hid (Away.of_more (S := fun z => z = b ∨ w4.heap.size ≤ z) (m5.al (.cells #[.int .i64 n0, .int .i64 n1, .int .i64 n2, .int .i64 n3, .int .i64 n4, .int .i64 n5, .int .i64 n6, .int .i64 n7, .int .i64 n8] 67))); have H5 := Lib.hid ((H4.out.more m5).more (More.alloc w5 (.cells #[.int .i64 n0, .int .i64 n1, .int .i64 n2, .int .i64 n3, .int .i64 n4, .int .i64 n5, .int .i64 n6, .int .i64 n7, .int .i64 n8] 67))); have M5 := Lib.hid ((M4.out.trans m5).al (.cells #[.int .i64 n0, .int .i64 n1, .int .i64 n2, .int .i64 n3, .int .i64 n4, .int .i64 n5, .int .i64 n6, .int .i64 n7, .int .i64 n8] 67)); have z5 := m5.size; clear m5)) | (go_at_call 31; ((with_reducible refine (BEndN H5.out sub (nf : Int) hml3).mono ?_); rintro e w6 ⟨⟨v6, rfl, s6, n6'⟩, h6, a6⟩; rw [HEN.out] at s6 h6; have S6 := Lib.hid s6; have N6 := Lib.hid n6'; obtain ⟨o6, k6, rfl, _⟩ := s6; have H6 := Lib.hid h6; have A6 := Lib.hid a6; have z6 := a6.size; clear n6' h6 a6))
        have BN6 := Lib.hid (A6.out.blk (blk_new w5 (.cells #[.int .i64 n0, .int .i64 n1, .int .i64 n2, .int .i64 n3, .int .i64 n4, .int .i64 n5, .int .i64 n6, .int .i64 n7, .int .i64 n8] 67)) (by omega))
        have LN : ∀ x : Later w6, x.w'.cell? ⟨w5.heap.size, nf, none⟩ = some (.int .i64 c) := fun x => blk_cell (blk_more x.h BN6.out) nf HCF.out
        have LN0 : ∀ x : Later w6, x.w'.cell? ⟨w5.heap.size, 0, none⟩ = some (.int .i64 n0) := fun x => blk_cell (blk_more x.h BN6.out) 0 rfl
        have fzN := blk_free BN6.out
        have dN := blk_cell BN6.out nf HCF.out
        have dN0 := blk_cell BN6.out 0 (v := .int .i64 n0) rfl
        refine wp_region_num w6 7 [(0, false), (1, false), (2, false), (3, false), (4, false), (5, false), (6, false), (7, true)] (by kernel_rfl) (by kernel_rfl) ?_
        iterate 7 (refine num_quiet rfl rfl (later_mk (by repeat (first | exact More.refl _ | assumption | refine More.dr ?_ _ | refine More.al ?_ _ | refine More.st ?_ (by simp) _))) ?_; intro K hK; go_big_quiet_op; go_big_quiet_on)
        (refine num_end rfl rfl (by decide) ?_; intro K hK; unfold loud; go_simp)
        refine hK _ _ ?_
        clear hK K
        refine num_nil ?_
        go_wp2_with fail
        have hNb : ¬ w5.heap.size = b := by omega
        have aT := ((Away.refl (fun z => z = w5.heap.size) w6).drewN 1).set (p := ⟨w5.heap.size, nf, none⟩) rfl (.int .i64 (c + n0))
        have aT := aT.set (p := ⟨w5.heap.size, 0, none⟩) rfl (.int .i64 0)
        have BT := Lib.hid (blk_set (blk_set (blk_drewN BN6.out 1) nf (.int .i64 (c + n0))) 0 (.int .i64 0))
        have aT2 := (((A5.out.trans (A6.out.mono (fun z hz => Or.inl hz))).trans (aT.mono (fun z hz => Or.inr (by subst hz; omega)))))
        have ST := Lib.hid (S4.out.onmap2 H4.out.map aT2)
        have GT := Lib.hid (S6.out.off (D := fun z => z = w5.heap.size) (fun q hq hz => by have := N6.out q hq; simp at this; omega) aT)
        have HT := Lib.hid (H6.out.away aT (by omega) (by omega))
        have MT := Lib.hid (((((Away.to_more M5.out A6.out (fun z hz => by subst hz; exact hbw)).dr 1).st (p := ⟨w5.heap.size, nf, none⟩) (by simp; omega) (.int .i64 (c + n0))).st (p := ⟨w5.heap.size, 0, none⟩) (by simp; omega) (.int .i64 0)))
        clear aT aT2 dN dN0 fzN LN LN0
        generalize ((w6.drewN 1).setCell ⟨w5.heap.size, nf, none⟩ (.int .i64 (c + n0))).setCell ⟨w5.heap.size, 0, none⟩ (.int .i64 0) = wT at *
        have hbt : (((#[.int .i64 n0, .int .i64 n1, .int .i64 n2, .int .i64 n3, .int .i64 n4, .int .i64 n5, .int .i64 n6, .int .i64 n7, .int .i64 n8] : Array Value).setIfInBounds nf (.int .i64 (c + n0))).setIfInBounds 0 (.int .i64 0)) = #[.int .i64 e0, .int .i64 e1, .int .i64 e2, .int .i64 e3, .int .i64 e4, .int .i64 e5, .int .i64 e6, .int .i64 e7, .int .i64 e8] := by
          have := arr_end m sub nf hn1 hn8
          rw [HE.out, HC.out, HN0.out, ← HCC.out] at this
          exact this
        have BT' := BT.out
        rw [hbt] at BT'
        have BTH := Lib.hid BT'
        clear hbt BT' BT
        go_loopw [74] (fun i wq => ∃ t : Nat, t ≤ (pendB m sub).length ∧ i = .int .i64 t ∧ More wT wq) (fun i _ => (pendB m sub).length - (intOf i).toNat)
        case atStart => exact ⟨0, by omega, rfl, More.refl _⟩
        case round =>
          obtain ⟨t, ht, rfl, hmq⟩ := hrel
          have HMQ := Lib.hid hmq
          by_cases hlt2 : t < (pendB m sub).length
          · have hs4 := ST.out.keep hmq
            obtain ⟨oa', cap', ev, hs63, h3, _⟩ := hs4
            cases ev
            obtain ⟨pb, poff, rfl, hpb, hcell⟩ := h3 t hlt2
            have htl : (t : Int) < ((pendB m sub).length : Int) := by omega
            have hgd : (pendB m sub).getD t 0 = (pendB m sub)[t] := by simp [hlt2]
            rw [hgd] at hcell
            have hmem : (pendB m sub)[t] ∈ pendB m sub := List.getElem_mem hlt2
            clear h3 hgd hmq
            generalize (pendB m sub)[t] = p at *
            have hg : mget (endM m sub (nf : Int)) (sub, p) = some (nf : Int) := by
              rw [mget_endM, (mget_mem HK.out.map.keys).2 (pendB_mem.1 hmem)]
              simp
            clear hmem
            go_wp2_with (go_at_call 28; ((with_reducible refine (BFate (HT.out.more HMQ.out) (sub, p)).mono ?_); rintro e w9 ⟨rfl, m9⟩; rw [hg]; have M9 := Lib.hid (HMQ.out.trans m9); clear m9))
            go_roundw
            case rel => exact ⟨t + 1, by omega, by go_num, M9.out⟩
            case measure => simp [intOf]; omega
          · obtain rfl : t = (pendB m sub).length := by omega
            have BQ := Lib.hid (blk_more hmq BTH.out)
            have L0 : ∀ x : LaterS (fun z => z = b) wr, x.w'.cell? ⟨w5.heap.size, 0, none⟩ = some (.int .i64 e0) := fun x => blk_cell (x.h.blk BQ.out hNb) 0 rfl
            have L1 : ∀ x : LaterS (fun z => z = b) wr, x.w'.cell? ⟨w5.heap.size, 1, none⟩ = some (.int .i64 e1) := fun x => blk_cell (x.h.blk BQ.out hNb) 1 rfl
            have L2 : ∀ x : LaterS (fun z => z = b) wr, x.w'.cell? ⟨w5.heap.size, 2, none⟩ = some (.int .i64 e2) := fun x => blk_cell (x.h.blk BQ.out hNb) 2 rfl
            have L3 : ∀ x : LaterS (fun z => z = b) wr, x.w'.cell? ⟨w5.heap.size, 3, none⟩ = some (.int .i64 e3) := fun x => blk_cell (x.h.blk BQ.out hNb) 3 rfl
            have L4 : ∀ x : LaterS (fun z => z = b) wr, x.w'.cell? ⟨w5.heap.size, 4, none⟩ = some (.int .i64 e4) := fun x => blk_cell (x.h.blk BQ.out hNb) 4 rfl
            have L5 : ∀ x : LaterS (fun z => z = b) wr, x.w'.cell? ⟨w5.heap.size, 5, none⟩ = some (.int .i64 e5) := fun x => blk_cell (x.h.blk BQ.out hNb) 5 rfl
            have L6 : ∀ x : LaterS (fun z => z = b) wr, x.w'.cell? ⟨w5.heap.size, 6, none⟩ = some (.int .i64 e6) := fun x => blk_cell (x.h.blk BQ.out hNb) 6 rfl
            have L7 : ∀ x : LaterS (fun z => z = b) wr, x.w'.cell? ⟨w5.heap.size, 7, none⟩ = some (.int .i64 e7) := fun x => blk_cell (x.h.blk BQ.out hNb) 7 rfl
            have L8 : ∀ x : LaterS (fun z => z = b) wr, x.w'.cell? ⟨w5.heap.size, 8, none⟩ = some (.int .i64 e8) := fun x => blk_cell (x.h.blk BQ.out hNb) 8 rfl
            have qe : ∀ w, (binOp .eql 67 (.agg #[.int .i64 e0, .int .i64 e1, .int .i64 e2, .int .i64 e3, .int .i64 e4, .int .i64 e5, .int .i64 e6, .int .i64 e7, .int .i64 e8]) (.agg #[.int .i64 e0, .int .i64 e1, .int .i64 e2, .int .i64 e3, .int .i64 e4, .int .i64 e5, .int .i64 e6, .int .i64 e7, .int .i64 e8])).run Try.prog w = .ok (.bool true) w := fun w => by
              have := arr9_eql [e0, e1, e2, e3, e4, e5, e6, e7, e8] [e0, e1, e2, e3, e4, e5, e6, e7, e8] rfl rfl w
              simpa using this
            have SQ := Lib.hid (ST.out.keep hmq)
            have GQ := Lib.hid (GT.out.keep hmq)
            have HQ := Lib.hid (HT.out.more hmq)
            have hl3 : (endM m sub (nf : Int)).length ≤ 1000000 := by rw [endM_len]; exact hml3
            have hpe := pend_end m sub (nf : Int) (by omega)
            have HPE := Lib.hid hpe
            clear hmq hpe
            go_wp2_with fail
            refine wp_region_numS (fun z => z = b) wr 26 [(0, false), (1, false), (2, true), (3, false), (4, false), (5, false), (7, false), (6, true), (8, false), (9, false), (10, false), (11, false), (12, false), (13, true), (14, false), (15, false), (16, false), (17, false), (18, false), (19, false), (20, false), (21, true), (22, false), (23, false), (24, false), (25, false)] (by kernel_rfl) (by kernel_rfl) ?_
            iterate 2 (refine num_quiet rfl rfl (laterS_mk (by repeat (first | exact Away.refl _ _ | assumption | refine Away.drewN ?_ _ | refine Away.set ?_ (by first | rfl | exact Or.inl rfl | exact Or.inr rfl) _))) ?_; intro K hK; go_big_quiet_op; go_big_quiet_on)
            (refine num_next rfl rfl ?_; intro K hK; unfold loud; go_simp)
            refine (SameI_any (pendB m sub) (pendB m sub) _ _ (wr.drewN 1) (GQ.out.keep (More.drewN _ 1)) (SQ.out.keep (More.drewN _ 1))).mono ?_
            rintro e w10 ⟨rfl, k10, rfl⟩
            rw [decide_eq_true rfl]
            refine ⟨_, rfl, laterS_mk (by repeat (first | exact Away.refl _ _ | assumption | refine Away.drewN ?_ _ | refine Away.set ?_ (by first | rfl | exact Or.inl rfl | exact Or.inr rfl) _)), hK _ _ ?_⟩
            clear hK K
            iterate 4 (refine num_quiet rfl rfl (laterS_mk (by repeat (first | exact Away.refl _ _ | assumption | refine Away.drewN ?_ _ | refine Away.set ?_ (by first | rfl | exact Or.inl rfl | exact Or.inr rfl) _))) ?_; intro K hK; go_big_quiet_op; go_big_quiet_on)
            (refine num_next rfl rfl ?_; intro K hK; unfold loud; go_simp)
            refine (BCounts (HQ.out.more (More.drewN _ (1 + k10))) sub hl3).mono ?_
            rintro e w11 ⟨rfl, m11⟩
            rw [HE.out]
            have A11 : More wr w11 := (More.drewN wr (1 + k10)).trans m11
            refine ⟨_, rfl, laterS_mk (Away.of_more A11), hK _ _ ?_⟩
            clear hK K m11
            iterate 5 (refine num_quiet rfl rfl (laterS_mk (Away.of_more A11)) ?_; intro K hK; go_big_quiet_op; go_big_quiet_on)
            (refine num_next rfl rfl ?_; intro K hK; unfold loud; go_simp)
            refine (BPending (HQ.out.more A11) sub hl3).mono ?_
            rintro e w12 ⟨⟨v12, rfl, s12⟩, m12⟩
            rw [HPE.out] at s12
            obtain ⟨o12, k12, rfl, _⟩ := s12
            have A12 : More wr w12 := A11.trans m12
            refine ⟨_, rfl, laterS_mk (Away.of_more A12), hK _ _ ?_⟩
            clear hK K m12
            iterate 7 (refine num_quiet rfl rfl (laterS_mk (Away.of_more A12)) ?_; intro K hK; go_big_quiet_op; go_big_quiet_on)
            (refine num_next rfl rfl ?_; intro K hK; unfold loud; go_simp)
            have hen2 : (endB (endM m sub (nf : Int)) sub (nf : Int)).2 = [] := by unfold endB; rw [if_pos (by omega)]; exact HPE.out
            refine (BEnd (HQ.out.more A12) sub (nf : Int) hl3).mono ?_
            rintro e w13 ⟨⟨v13, rfl, s13⟩, h13, a13⟩
            rw [hen2] at s13
            obtain ⟨o13, k13, rfl, _⟩ := s13
            have A13 := (Away.of_more A12).trans a13
            have M13 := Lib.hid (Away.to_more (MT.out.trans (HMQ.out.trans A12)) a13 (fun z hz => by subst hz; exact hbw))
            refine ⟨_, rfl, laterS_mk A13, hK _ _ ?_⟩
            clear hK K h13 a13 hen2
            iterate 4 (refine num_quiet rfl rfl (laterS_mk A13) ?_; intro K hK; go_big_quiet_op; go_big_quiet_on)
            refine num_nil ?_
            go_wp2
            go_ret
            exact ⟨rfl, M13.out⟩
end Go.Proofs.Ytmhkjamibcdcdaa
