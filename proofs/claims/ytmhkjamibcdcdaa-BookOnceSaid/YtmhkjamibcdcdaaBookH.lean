/- The law BookOnce, walked. -/
import Derived.Test.YtmhkjamibcdcdaaBookG
import Derived.Deep.Cut
import Derived.Deep.CutRange
import Derived.Deep.CutBlock
namespace Go.Proofs.Ytmhkjamibcdcdaa
open Go.RowKit
set_option maxRecDepth 100000

theorem key_neq_same (k1 k2 : Int) (w : World) : (binOp .neq 54 (.agg #[.int .i64 k1, .int .i64 k2]) (.agg #[.int .i64 k1, .int .i64 k2])).run Try.prog w = .ok (.bool false) w := by
  have h1 : Try.prog.stoodInHeld 54 = false := by kernel_rfl
  rw [run_neq_struct, run_equalIn_agg w 9999 54 _ _ (by kernel_rfl) h1]
  simp [go_sem]
theorem key_guard : Try.prog.eqGuardType Try.prog.depth 54 = false := by kernel_rfl
/-- Ways of an entry by an act, and whether it is pending behind it. -/
theorem once_ways (m : Bk) (x : A14) (k : Int × Int) (hn : ((actB m x).1.map Prod.fst).Nodup) :
    (mget m k = none ∧ mget (actB m x).1 k = none ∧ decide (k.2 ∈ pendB (actB m x).1 k.1) = false) ∨ (mget m k = none ∧ mget (actB m x).1 k = some 0 ∧ decide (k.2 ∈ pendB (actB m x).1 k.1) = true ∧ x.1 = 0 ∧ x.2.1 = k ∧ (actB m x).2 = 0) ∨ (mget m k = some 0 ∧ mget (actB m x).1 k = some 0 ∧ decide (k.2 ∈ pendB (actB m x).1 k.1) = true) ∨
      (∃ v, mget m k = some 0 ∧ mget (actB m x).1 k = some v ∧ decide (k.2 ∈ pendB (actB m x).1 k.1) = false ∧ (v == 0) = false) ∨ (∃ v, mget m k = some v ∧ mget (actB m x).1 k = some v ∧ decide (k.2 ∈ pendB (actB m x).1 k.1) = false ∧ (v == 0) = false) := by
  have hp := pend_iff hn k
  rcases actB_get m x k with ⟨g1, g2⟩ | ⟨g1, g2, g3, g4, g5⟩ | ⟨g1, v, g2⟩ | ⟨v, hv, g1, g2⟩
  · exact Or.inl ⟨g1, g2, decide_eq_false (fun h => by rw [hp.1 h] at g2; cases g2)⟩
  · exact Or.inr (Or.inl ⟨g1, g2, decide_eq_true (hp.2 g2), g3, g4, g5⟩)
  · by_cases hv : v = 0
    · subst hv
      exact Or.inr (Or.inr (Or.inl ⟨g1, g2, decide_eq_true (hp.2 g2)⟩))
    · exact Or.inr (Or.inr (Or.inr (Or.inl ⟨v, g1, g2, decide_eq_false (fun h => by rw [hp.1 h] at g2; cases g2; exact hv rfl), by simpa using hv⟩)))
  · exact Or.inr (Or.inr (Or.inr (Or.inr ⟨v, g1, g2, decide_eq_false (fun h => by rw [hp.1 h] at g2; cases g2; exact hv rfl), by simpa using hv⟩)))

set_option maxHeartbeats 8000000 in
theorem BookOnce_law (v : Value) (l : List A14) (k1 k2 : Int) (w : World) (sl : SlP 4 RAct14 w v l) (_b1 : -9223372036854775808 ≤ k1 ∧ k1 ≤ 9223372036854775807) (_b2 : -9223372036854775808 ≤ k2 ∧ k2 ≤ 9223372036854775807) :
    Calls Try.prog 8 #[v, .agg #[.int .i64 k1, .int .i64 k2]] w fun e w' => e = .returned (.bool true) ∧ More w w' := by
  clear _b1 _b2
  obtain ⟨oa, cap, rfl, hl63, hel⟩ := acts14 sl
  clear sl
  have EG := key_guard
  by_cases hlen : (150 : Int) < (l.length : Int)
  · go_enter Try.func8, Try.ntmps8
    go_wp2_with (go_at_call 26; refine (awake14 _).mono ?_; rintro e w1 ⟨rfl, hm1⟩)
    go_ret
    exact ⟨rfl, (More.alloc _ _).trans hm1⟩
  · have hl150 : l.length ≤ 150 := by omega
    go_enter Try.func8, Try.ntmps8
    go_wp2_with first | (go_at_call 26; refine (awake14 _).mono ?_; rintro e w1 ⟨rfl, hm1⟩; have HK1 := Lib.hid (blk_more hm1 (blk_new w (.cells #[.int .i64 k1, .int .i64 k2] 54))); have HM1 := Lib.hid ((More.alloc w (.cells #[.int .i64 k1, .int .i64 k2] 54)).trans hm1); have Z1 : w.heap.size + 1 ≤ w1.heap.size := Nat.le_trans (by simp) hm1.size; clear hm1) | (go_at_call 27; ((with_reducible refine (BNew _).mono ?_); rintro e w2 ⟨B, b, rfl, hB, hb, h2, m2⟩; have H2 := Lib.hid h2; have HK2 := Lib.hid (blk_more m2 HK1.out); have HM2 := Lib.hid (HM1.out.trans m2); have hbw : w.heap.size < b := (by omega); clear h2 m2))
    go_loopw [24] (fun i wr => ∃ j : Nat, j ≤ l.length ∧ i = .int .i64 j ∧ (∃ m : Bk, BookAt wr B b m ∧ m.length ≤ j) ∧ wr.heap[w.heap.size]? = some (.cells #[.int .i64 k1, .int .i64 k2] 54 (0, 0)) ∧ More w wr) (fun i _ => l.length - (intOf i).toNat)
    case atStart => exact ⟨0, by omega, rfl, ⟨[], H2.out, by simp⟩, HK2.out, HM2.out⟩
    case round =>
      obtain ⟨j, hj, rfl, ⟨m, hbk, hml⟩, hkb, hmr⟩ := hrel
      by_cases hlt : j < l.length
      · obtain ⟨xb, off, rfl, hxb, hx0, hx1, hx2, hx3⟩ := hel j hlt
        have c0 := hmr.cells xb (off + j * 4) hxb
        have c1 := hmr.cells xb (off + j * 4 + 1) hxb
        have c2 := hmr.cells xb (off + j * 4 + 2) hxb
        have c3 := hmr.cells xb (off + j * 4 + 3) hxb
        rw [hx0] at c0
        rw [hx1] at c1
        rw [hx2] at c2
        rw [hx3] at c3
        have hjl : (j : Int) < (l.length : Int) := by omega
        have hbwr : xb < wr.heap.size := Nat.lt_of_lt_of_le hxb hmr.size
        clear hx0 hx1 hx2 hx3 hel
        generalize l.getD j a14z = x at *
        obtain ⟨d, ⟨ka, kb⟩, f⟩ := x
        simp only at c0 c1 c2 c3
        have k0 := blk_cell (blk_alloc hkb (.cells #[.int .i64 d, .int .i64 ka, .int .i64 kb, .int .i64 f] 59)) 0 (v := .int .i64 k1) rfl
        have k1' := blk_cell (blk_alloc hkb (.cells #[.int .i64 d, .int .i64 ka, .int .i64 kb, .int .i64 f] 59)) 1 (v := .int .i64 k2) rfl
        have HBK := Lib.hid hbk
        have HKB := Lib.hid hkb
        have HMR := Lib.hid hmr
        have HML := Lib.hid hml
        clear hbk hkb hmr hml
        have hboxlt : w.heap.size < wr.heap.size := blk_lt HKB.out
        go_upto_block 2 with ((go_at_call 28; ((with_reducible refine (BFate (HBK.out.more (More.alloc _ _)) (k1, k2)).mono ?_); rintro e w5 ⟨rfl, m5⟩; have K5 := Lib.hid ((HBK.out.more (More.alloc wr _)).more m5); have KB5 := Lib.hid (blk_more m5 (blk_alloc HKB.out _)); have X5 := Lib.hid (blk_more m5 (blk_new wr _)); have M5 := Lib.hid ((HMR.out.al _).trans m5); have s5 : wr.heap.size < w5.heap.size := Nat.lt_of_lt_of_le (by simp) m5.size; clear m5; have x0 := blk_cell X5.out 0 (v := .int .i64 d) rfl; have x1 := blk_cell X5.out 1 (v := .int .i64 ka) rfl; have x2 := blk_cell X5.out 2 (v := .int .i64 kb) rfl; have x3 := blk_cell X5.out 3 (v := .int .i64 f) rfl)))
        go_cut [10] from 36 to 130 (fun s10 wx => s10 = .int .i64 (actB m (d, (ka, kb), f)).2 ∧ BookAt wx B b (actB m (d, (ka, kb), f)).1 ∧ Away (fun z => z = b) w5 wx)
        case first =>
          have hways : d = 0 ∨ d = 1 ∨ d = 2 ∨ (¬ d = 0 ∧ ¬ d = 1 ∧ ¬ d = 2) := by omega
          rcases hways with rfl | rfl | rfl | ⟨h0, h1, h2⟩
          · have e0 : actB m (0, (ka, kb), f) = oweB m (ka, kb) := by unfold actB; simp
            have E0 := Lib.hid e0
            clear e0
            go_wp2_with (go_at_call 29; ((with_reducible refine (BOwe K5.out (ka, kb)).mono ?_); rintro e w6 ⟨rfl, h6, a6⟩; have H6 := Lib.hid h6; have A6 := Lib.hid a6; clear h6 a6))
            go_meet
            rw [E0.out]
            exact ⟨rfl, H6.out, A6.out⟩
          · have e0 : actB m (1, (ka, kb), f) = settleB m (ka, kb) f := by unfold actB; simp
            have E0 := Lib.hid e0
            clear e0
            go_wp2_with (go_at_call 30; ((with_reducible refine (BSettle K5.out (ka, kb) f).mono ?_); rintro e w6 ⟨rfl, h6, a6⟩; have H6 := Lib.hid h6; have A6 := Lib.hid a6; clear h6 a6))
            go_meet
            rw [E0.out]
            exact ⟨rfl, H6.out, A6.out⟩
          · have e0 : actB m (2, (ka, kb), f) = ((endB m ka f).1, 0) := by unfold actB; simp
            have E0 := Lib.hid e0
            clear e0
            go_wp2_with (go_at_call 31; ((with_reducible refine (BEnd K5.out ka f (by have := HML.out; omega)).mono ?_); rintro e w6 ⟨⟨v6, rfl, _⟩, h6, a6⟩; have H6 := Lib.hid h6; have A6 := Lib.hid a6; clear h6 a6))
            go_meet
            rw [E0.out]
            exact ⟨rfl, H6.out, A6.out⟩
          · have e0 : actB m (d, (ka, kb), f) = (m, 0) := by unfold actB; simp [h0, h1, h2]
            have E0 := Lib.hid e0
            clear e0
            have b0 : (d == 0) = false := by simpa using h0
            have b1 : (d == 1) = false := by simpa using h1
            have b2 : (d == 2) = false := by simpa using h2
            clear h0 h1 h2
            go_wp2
            go_meet
            rw [E0.out]
            exact ⟨rfl, K5.out, Away.refl _ _⟩
        case rest =>
          obtain ⟨rfl, hb6, ha6⟩ := hcut
          have H6 := Lib.hid hb6
          have hbr := HBK.out.map.lt
          have KB6 := Lib.hid (ha6.blk KB5.out (by omega))
          have X6 := Lib.hid (ha6.blk X5.out (by omega))
          have M6 := Lib.hid (Away.to_more M5.out ha6 (fun z hz => by subst hz; omega))
          have hw := once_ways m (d, (ka, kb), f) (k1, k2) hb6.map.keys
          have hml := actB_len m (d, (ka, kb), f)
          have hml2 : (actB m (d, (ka, kb), f)).1.length ≤ j + 1 := by have := HML.out; omega
          have hml3 : (actB m (d, (ka, kb), f)).1.length ≤ 1000000 := by omega
          have HL2 := Lib.hid hml2
          have y0 := blk_cell KB6.out 0 (v := .int .i64 k1) rfl
          have y1 := blk_cell KB6.out 1 (v := .int .i64 k2) rfl
          have z0 := blk_cell X6.out 0 (v := .int .i64 d) rfl
          have z1 := blk_cell X6.out 1 (v := .int .i64 ka) rfl
          have z2 := blk_cell X6.out 2 (v := .int .i64 kb) rfl
          have z3 := blk_cell X6.out 3 (v := .int .i64 f) rfl
          clear k0 k1' x0 x1 x2 x3 hb6 ha6 hml hml2
          have qn := fun w => key_neq_same k1 k2 w
          generalize (actB m (d, (ka, kb), f)).1 = m' at *
          generalize (actB m (d, (ka, kb), f)).2 = e10 at *
          rcases hw with ⟨g1, g2, hp⟩ | ⟨g1, g2, hp, hd, hx, he⟩ | ⟨g1, g2, hp⟩ | ⟨u, g1, g2, hp, hv⟩ | ⟨u, g1, g2, hp, hv⟩
          all_goals try (simp only at hd hx he; subst hd he; have ex := Prod.mk.inj hx; have e1 := ex.1.symm; have e2 := ex.2.symm; clear hx ex; subst e1 e2)
          all_goals try have hv2 : (u != 0) = true := by simp only [bne, hv, Bool.not_false]
          all_goals simp only at hp
          all_goals have HP := Lib.hid hp
          all_goals clear hp
          all_goals go_wp2_with first | (go_at_call 28; ((with_reducible refine (BFate H6.out (k1, k2)).mono ?_); rintro e w7 ⟨rfl, m7⟩; have K7 := Lib.hid (H6.out.more m7); have KB7 := Lib.hid (blk_more m7 KB6.out); have M7 := Lib.hid (M6.out.trans m7); have X7 := Lib.hid (blk_more m7 X6.out); clear m7; have p0 := blk_cell KB7.out 0 (v := .int .i64 k1) rfl; have p1 := blk_cell KB7.out 1 (v := .int .i64 k2) rfl; have xd := blk_cell X7.out 0 rfl; have xa := blk_cell X7.out 1 rfl; have xb' := blk_cell X7.out 2 rfl)) | (go_at_call 32; ((with_reducible refine (BPending K7.out k1 hml3).mono ?_); rintro e w8 ⟨⟨v8, rfl, s8⟩, m8⟩; have S8 := Lib.hid s8; obtain ⟨o8, c8, rfl, _⟩ := s8; have K8 := Lib.hid (K7.out.more m8); have KB8 := Lib.hid (blk_more m8 KB7.out); have M8 := Lib.hid (M7.out.trans m8); clear m8; have q0 := blk_cell KB8.out 0 (v := .int .i64 k1) rfl; have q1 := blk_cell KB8.out 1 (v := .int .i64 k2) rfl))
          all_goals
            go_loop [13, 111] (fun s13 s111 => ∃ t : Nat, t ≤ (pendB m' k1).length ∧ s111 = .int .i64 t ∧ s13 = .bool (decide (k2 ∈ (pendB m' k1).take t))) (fun _ i => (pendB m' k1).length - (intOf i).toNat)
            case atStart => exact ⟨0, by omega, rfl, by simp⟩
            case round =>
              obtain ⟨t, ht, rfl, rfl⟩ := hrel
              by_cases hlt2 : t < (pendB m' k1).length
              · obtain ⟨oa, cap, ev, hs63, h3, _⟩ := S8.out
                cases ev
                obtain ⟨pb, poff, rfl, hpb, hcell⟩ := h3 t hlt2
                have htl : (t : Int) < ((pendB m' k1).length : Int) := by omega
                have hgd : (pendB m' k1).getD t 0 = (pendB m' k1)[t] := by simp [hlt2]
                rw [hgd] at hcell
                have htk : (pendB m' k1).take (t + 1) = (pendB m' k1).take t ++ [(pendB m' k1)[t]] := List.take_succ_eq_append_getElem hlt2
                have HT : Hid (decide (k2 ∈ (pendB m' k1).take (t + 1)) = (decide (k2 ∈ (pendB m' k1).take t) || decide ((pendB m' k1)[t] = k2))) := Lib.hid (by
                  rw [htk, Bool.eq_iff_iff]
                  simp only [List.mem_append, List.mem_singleton, Bool.or_eq_true, decide_eq_true_eq]
                  exact ⟨fun h => h.imp id Eq.symm, fun h => h.imp id Eq.symm⟩)
                clear h3 hgd htk
                generalize (pendB m' k1)[t] = p at *
                by_cases hin : k2 ∈ (pendB m' k1).take t
                · have hin2 : decide (k2 ∈ (pendB m' k1).take t) = true := decide_eq_true hin
                  rw [hin2] at HT ⊢
                  clear hin hin2
                  go_wp2
                  go_round
                  case rel => exact ⟨t + 1, by omega, by go_num, by rw [HT.out]; rfl⟩
                  case measure => simp [intOf]; omega
                · have hin2 : decide (k2 ∈ (pendB m' k1).take t) = false := decide_eq_false hin
                  rw [hin2] at HT ⊢
                  clear hin hin2
                  go_wp2
                  go_round
                  case rel => exact ⟨t + 1, by omega, by go_num, by rw [HT.out]; first | rfl | simp⟩
                  case measure => simp [intOf]; omega
              · obtain rfl : t = (pendB m' k1).length := by omega
                rw [List.take_length, HP.out]
                go_wp2
                go_roundw
                case rel => exact ⟨j + 1, by omega, by go_num, ⟨m', K8.out, HL2.out⟩, KB8.out, M8.out⟩
                case measure => simp [intOf]; omega
      · obtain rfl : j = l.length := by omega
        clear hel
        go_wp2
        go_ret
        exact ⟨rfl, hmr⟩
end Go.Proofs.Ytmhkjamibcdcdaa
