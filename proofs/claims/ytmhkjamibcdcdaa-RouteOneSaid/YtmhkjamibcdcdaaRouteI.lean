/- The law RouteOne, walked. -/
import Derived.Test.YtmhkjamibcdcdaaRouteH
namespace Go.Proofs.Ytmhkjamibcdcdaa
open Go.RowKit
set_option maxRecDepth 100000

set_option maxHeartbeats 16000000 in
theorem RouteOne_law (v : Value) (l : List A19) (w : World) (sl : SlP 7 RAct19 w v l) :
    Calls Try.prog 12 #[v] w fun e w' => e = .returned (.bool true) ∧ More w w' := by
  obtain ⟨oa, cap, rfl, hl63, hel⟩ := acts19 sl
  clear sl
  have EG := org_guard
  by_cases hlen : (200 : Int) < (l.length : Int)
  · go_enter Try.func12, Try.ntmps12
    go_wp2_with (go_at_call 35; refine (awake19 _).mono ?_; rintro e w1 ⟨rfl, hm1⟩)
    go_ret
    exact ⟨rfl, hm1⟩
  · have hl200 : l.length ≤ 200 := by omega
    go_enter Try.func12, Try.ntmps12
    go_wp2_with first | (go_at_call 35; refine (awake19 _).mono ?_; rintro e w1 ⟨rfl, hm1⟩; have Z1 := hm1.size; have HM1 := Lib.hid hm1; clear hm1) | (go_at_call 36; ((with_reducible refine (RTNew _).mono ?_); rintro e w2 ⟨T, a, b, c, rfl, hT, ha, hb, hc, h2, m2⟩; have H2 := Lib.hid h2; have HM2 := Lib.hid (HM1.out.trans m2); clear h2 m2))
    have hnm : ∀ z, T3 a b c z → w.heap.size ≤ z := by rintro z (e | e | e) <;> omega
    go_loopw [34] (fun i wr => ∃ j : Nat, j ≤ l.length ∧ i = .int .i64 j ∧ ∃ t : TS, TabAt wr T a b c t ∧ Inv t ∧ t.u.length ≤ j ∧ More w wr) (fun i _ => l.length - (intOf i).toNat)
    case atStart => exact ⟨0, by omega, rfl, ⟨[], [], []⟩, H2.out, Inv.nil, by simp, HM2.out⟩
    case round =>
      obtain ⟨j, hj, rfl, t, hbk, hinv, hml, hmr⟩ := hrel
      by_cases hlt : j < l.length
      · obtain ⟨xb, off, rfl, hxb, hxa⟩ := hel j hlt
        obtain ⟨c0, c1, c2, c3, c4, c5, c6⟩ := hxa.more hmr hxb
        have hjl : (j : Int) < (l.length : Int) := by omega
        have hbwr : xb < wr.heap.size := Nat.lt_of_lt_of_le hxb hmr.size
        clear hxa hel
        generalize l.getD j a19z = y at *
        obtain ⟨d, x, p, own, s0, s1, s2⟩ := y
        simp only at c0 c1 c2 c3 c4 c5 c6
        have K5 := Lib.hid (hbk.more (More.alloc wr (.cells #[.int .i64 d, .int .i64 x, .int .i64 p, .int .u32 own, .int .u32 s0, .int .u32 s1, .int .u32 s2] 88)))
        have M5 := Lib.hid (hmr.al (.cells #[.int .i64 d, .int .i64 x, .int .i64 p, .int .u32 own, .int .u32 s0, .int .u32 s1, .int .u32 s2] 88))
        have HI := Lib.hid (hinv.do hbk.mu.keys ⟨d, x, p, own, s0, s1, s2⟩)
        have HML := Lib.hid hml
        clear hbk hinv hml hmr
        go_wp2_with (go_at_call 37; ((with_reducible refine (RTDo K5.out ⟨d, x, p, own, s0, s1, s2⟩).mono ?_); rintro e w6 ⟨rfl, h6, a6⟩; have K6 := Lib.hid h6; have M6 := Lib.hid (Away.to_more M5.out a6 hnm); clear h6 a6))
        go_roundw
        case rel => exact ⟨j + 1, by omega, by go_num, _, K6.out, HI.out, Nat.le_trans (doT_len _ _) (by have := HML.out; omega), M6.out⟩
        case measure => simp [intOf]; omega
      · obtain rfl : j = l.length := by omega
        have K9 := Lib.hid hbk
        have HI := Lib.hid hinv
        have hml3 : t.u.length ≤ 1000000 := by omega
        have hkeys := hbk.mu.keys
        have HKS := Lib.hid hkeys
        have M9 := Lib.hid hmr
        clear hel hbk hinv hmr hkeys
        obtain ⟨W9, hW9⟩ : ∃ W9, W9 = wr := ⟨_, rfl⟩
        rw [← hW9]
        rw [← hW9] at K9 M9
        clear hW9
        go_wp2_with fail
        go_loopw [42] (fun i wq => ∃ p : Nat, p ≤ 3 ∧ i = .int .i64 p ∧ More W9 wq) (fun i _ => 3 - (intOf i).toNat)
        case atStart => exact ⟨0, by omega, rfl, More.refl _⟩
        case round =>
          obtain ⟨p, hp, rfl, hmq⟩ := hrel
          have HMQ := Lib.hid hmq
          clear hmq
          by_cases hp3 : p < 3
          · have hp3i : (p : Int) < 3 := by omega
            go_wp2_with fail
            go_loopw [45] (fun i wz => ∃ k : Nat, k ≤ 3 ∧ i = .int .i64 k ∧ More W9 wz) (fun i _ => 3 - (intOf i).toNat)
            case atStart => exact ⟨0, by omega, rfl, HMQ.out⟩
            case round =>
              obtain ⟨k, hk, rfl, hmz⟩ := hrel
              have HMZ := Lib.hid hmz
              clear hmz
              by_cases hk3 : k < 3
              · have hk3i : (k : Int) < 3 := by omega
                have hlay := HI.out.lay (p : Int) (k : Int) (by omega) (by omega)
                have hOB := Lib.hid (blk_new wr (.cells #[.int .i64 (p : Int), .int .i64 (k : Int)] 74))
                cases hg : mget t.s ((p : Int), (k : Int)) with
                | none =>
                  rw [hg] at hlay
                  have HG := Lib.hid hg
                  have HLY := Lib.hid hlay.symm
                  clear hg hlay
                  go_wp2_with first | (go_at_call 45; ((with_reducible refine (RTSource (K9.out.more (HMZ.out.al _)) ((p : Int), (k : Int))).mono ?_); rintro e w4 ⟨rfl, m4⟩; rw [HG.out]; have M4 := Lib.hid ((HMZ.out.al (.cells #[.int .i64 (p : Int), .int .i64 (k : Int)] 74)).trans m4); clear m4)) | (go_at_call 39; ((with_reducible refine (RTFind (K9.out.more M4.out) 0).mono ?_); rintro e w5 ⟨rfl, m5⟩; generalize (mget t.o 0).getD (0, 0) = z; generalize (mget t.o 0).isSome = zz; have M5 := Lib.hid ((M4.out.trans m5).al (.cells #[.int .i64 z.1, .int .i64 z.2] 74)); clear m5)) | (go_at_call 45; ((with_reducible refine (RTSource (K9.out.more M5.out) ((p : Int), 0)).mono ?_); rintro e w6 ⟨rfl, m6⟩; rw [HLY.out]; have M6 := Lib.hid (M5.out.trans m6); clear m6))
                  go_roundw
                  case rel => exact ⟨k + 1, by omega, by go_num, M6.out⟩
                  case measure => simp [intOf]; omega
                | some s =>
                  have hbk := HI.out.back _ _ hg
                  rw [hg] at hlay
                  have HG := Lib.hid hg
                  have HBK := Lib.hid hbk
                  have HLY := Lib.hid hlay.symm
                  have qn := fun w => org_neq (p : Int) (k : Int) w
                  clear hg hlay hbk
                  go_wp2_with first | (go_at_call 45; ((with_reducible refine (RTSource (K9.out.more (HMZ.out.al _)) ((p : Int), (k : Int))).mono ?_); rintro e w4 ⟨rfl, m4⟩; rw [HG.out]; have M4 := Lib.hid ((HMZ.out.al (.cells #[.int .i64 (p : Int), .int .i64 (k : Int)] 74)).trans m4); have B4 := Lib.hid (blk_more m4 hOB.out); clear m4)) | (go_at_call 39; ((with_reducible refine (RTFind (K9.out.more M4.out) s).mono ?_); rintro e w5 ⟨rfl, m5⟩; rw [HBK.out]; have M5 := Lib.hid ((M4.out.trans m5).al (.cells #[.int .i64 (p : Int), .int .i64 (k : Int)] 74)); have B5 := Lib.hid (blk_alloc (blk_more m5 B4.out) (.cells #[.int .i64 (p : Int), .int .i64 (k : Int)] 74)); clear m5; have g0 := blk_cell B5.out 0 (v := .int .i64 (p : Int)) rfl; have g1 := blk_cell B5.out 1 (v := .int .i64 (k : Int)) rfl)) | (go_at_call 45; ((with_reducible refine (RTSource (K9.out.more M5.out) ((p : Int), 0)).mono ?_); rintro e w6 ⟨rfl, m6⟩; rw [HLY.out]; have M6 := Lib.hid (M5.out.trans m6); clear m6))
                  go_roundw
                  case rel => exact ⟨k + 1, by omega, by go_num, M6.out⟩
                  case measure => simp [intOf]; omega
              · obtain rfl : k = 3 := by omega
                go_wp2
                go_roundw
                case rel => exact ⟨p + 1, by omega, by go_num, HMZ.out⟩
                case measure => simp [intOf]; omega
          · obtain rfl : p = 3 := by omega
            have KQ := Lib.hid (K9.out.more HMQ.out)
            have MQ := Lib.hid (M9.out.trans HMQ.out)
            have qT := blk_lt KQ.out.blk
            have qa := KQ.out.mo.lt
            have qb := KQ.out.ms.lt
            have qc := KQ.out.mu.lt
            have hww : w.heap.size ≤ wr.heap.size := MQ.out.size
            clear HMQ
            obtain ⟨W8, hW8⟩ : ∃ W8, W8 = wr := ⟨_, rfl⟩
            rw [← hW8]
            rw [← hW8] at KQ MQ qT qa qb qc hww
            clear hW8
            go_wp2_with fail
            have hnT : ¬ T = W8.heap.size := by omega
            have hna : ¬ a = W8.heap.size := by omega
            have hnb : ¬ b = W8.heap.size := by omega
            have hnc : ¬ c = W8.heap.size := by omega
            go_loopw [86] (fun i wq => ∃ p : Nat, p ≤ 3 ∧ i = .int .i64 p ∧ TabAt wq T a b c t ∧ wq.heap[W8.heap.size]? = some (.cells (LA (Pl t.u p)) 84 (0, 0)) ∧ More w wq) (fun i _ => 3 - (intOf i).toNat)
            case atStart => exact ⟨0, by omega, rfl, KQ.out.more (More.alloc _ _), blk_new W8 _, MQ.out.al _⟩
            case round =>
              obtain ⟨p, hp, rfl, hK, hB, hM⟩ := hrel
              have HK := Lib.hid hK
              have HB := Lib.hid hB
              have HM := Lib.hid hM
              have hNw : W8.heap.size < wr.heap.size := blk_lt hB
              clear hK hB hM
              by_cases hp3 : p < 3
              · have hp3i : (p : Int) < 3 := by omega
                have hLl : (whichT (prPub (p : Int)) t.u).length ≤ 1000000 := by
                  have h1 := selT_len (prPub (p : Int)) t.u
                  have h2 : (whichT (prPub (p : Int)) t.u).length = (selT (prPub (p : Int)) t.u).length := srt_len _
                  omega
                have HLT := Lib.hid (which_lt HKS.out (p : Int))
                have HLM : Hid (∀ x ∈ whichT (prPub (p : Int)) t.u, ∃ sb, mget t.u x = some sb ∧ sb.2.1 = true ∧ sb.2.2 = (p : Int)) := Lib.hid (fun x hx => (which_mem HKS.out (p : Int) x).1 hx)
                have HPL : Hid (Pl t.u (p + 1) = Pl t.u p ++ whichT (prPub (p : Int)) t.u) := Lib.hid rfl
                have hpl := pl_len t.u p
                have hpl2 : (Pl t.u p).length ≤ 3000000 := Nat.le_trans hpl (Nat.le_trans (Nat.mul_le_mul (show p ≤ 3 by omega) hml3) (by omega))
                clear hpl
                go_wp2_with (go_at_call 47; ((with_reducible refine (RTSubsN HK.out (p : Int) hml3).mono ?_); rintro e w4 ⟨⟨v4, rfl, s4, n4⟩, m4⟩; have S4 := Lib.hid s4; have N4 := Lib.hid n4; obtain ⟨o4, k4, rfl, _⟩ := s4; have K4 := Lib.hid (HK.out.more m4); have B4 := Lib.hid (blk_more m4 HB.out); have M4 := Lib.hid (HM.out.trans m4); clear m4 n4))
                generalize whichT (prPub (p : Int)) t.u = L at *
                go_loopw [17, 93] (fun s17 s93 wz => ∃ k : Nat, k ≤ L.length ∧ s93 = .int .i64 k ∧ (∃ last : Int, s17 = .int .i64 last ∧ ∀ x ∈ L.drop k, last < x) ∧ TabAt wz T a b c t ∧ SlI .i64 wz (.slice o4 L.length k4) L ∧ wz.heap[W8.heap.size]? = some (.cells (LA (Pl t.u p ++ L.take k)) 84 (0, 0)) ∧ More w wz) (fun _ i _ => L.length - (intOf i).toNat)
                case atStart =>
                  refine ⟨0, by omega, rfl, ⟨-1, rfl, fun x hx => ?_⟩, K4.out, S4.out, by simpa using B4.out, M4.out⟩
                  obtain ⟨sb, h1, _⟩ := HLM.out x (by simpa using hx)
                  have := (HI.out.us x sb h1).1
                  omega
                case round =>
                  obtain ⟨k, hk, rfl, ⟨last, rfl, hlast⟩, hK, hS, hB, hM⟩ := hrel
                  have HK5 := Lib.hid hK
                  have HS5 := Lib.hid hS
                  have HB5 := Lib.hid hB
                  have HM5 := Lib.hid hM
                  have HLA := Lib.hid hlast
                  clear hK hB hM hlast
                  by_cases hlt3 : k < L.length
                  · obtain ⟨oa', cap', ev, hs63, h3, _⟩ := hS
                    cases ev
                    obtain ⟨pb, poff, rfl, hpb, hcell⟩ := h3 k hlt3
                    have hkl : (k : Int) < (L.length : Int) := by omega
                    have hgd : L.getD k 0 = L[k] := by simp [hlt3]
                    rw [hgd] at hcell
                    have htk : L.take (k + 1) = L.take k ++ [L[k]] := List.take_succ_eq_append_getElem hlt3
                    have hdr : L.drop k = L[k] :: L.drop (k + 1) := List.drop_eq_getElem_cons hlt3
                    have hq1 : last < L[k] := HLA.out _ (by rw [hdr]; exact List.mem_cons_self)
                    have hq2 : ∀ x ∈ L.drop (k + 1), L[k] < x := by
                      have := HLT.out.drop (i := k)
                      rw [hdr, List.pairwise_cons] at this
                      exact this.1
                    obtain ⟨⟨ow, bb, pp⟩, hm1, hm2, hm3⟩ := HLM.out L[k] (List.getElem_mem hlt3)
                    simp only at hm2 hm3
                    subst hm2 hm3
                    have hus := HI.out.us _ _ hm1
                    have HT := Lib.hid htk
                    have HQ2 := Lib.hid hq2
                    have HM1 := Lib.hid hm1
                    clear h3 hgd htk hdr hq2 hm1
                    generalize L[k] = q at *
                    obtain ⟨n, rfl⟩ : ∃ n : Nat, q = n := ⟨q.toNat, by omega⟩
                    have hn6 : n < 6 := by omega
                    have hle : ¬ (n : Int) ≤ last := by omega
                    have hge : ¬ (6 : Int) ≤ (n : Int) := by omega
                    have hcn : ((Pl t.u p ++ L.take k).count (n : Int)) ≤ 5000000 := by
                      have h1 := List.count_le_length (a := (n : Int)) (l := Pl t.u p ++ L.take k)
                      have h2 : (L.take k).length ≤ k := List.length_take_le _ _
                      rw [List.length_append] at h1
                      omega
                    have HST := Lib.hid (LA_step (Pl t.u p ++ L.take k) n hn6)
                    have HAT := Lib.hid (LA_at (Pl t.u p ++ L.take k) n hn6)
                    generalize (Pl t.u p ++ L.take k).count (n : Int) = cn at *
                    have hN5 : W8.heap.size < wr.heap.size := blk_lt HB5.out
                    clear hus
                    go_wp2_with (go_at_call 43; ((with_reducible refine (RTOf HK5.out (n : Int)).mono ?_); rintro e w5 ⟨rfl, m5⟩; rw [HM1.out]; have K6 := Lib.hid (HK5.out.more m5); have B6 := Lib.hid (blk_more m5 HB5.out); have S6 := Lib.hid (HS5.out.keep m5); have M6 := Lib.hid (HM5.out.trans m5); clear m5; have g0 := blk_cell B6.out n HAT.out; have fz := blk_free B6.out n))
                    go_roundw
                    case rel =>
                      have aT := Away.set (Away.refl (fun z => z = W8.heap.size) w5) (p := ⟨W8.heap.size, n, none⟩) rfl (.int .i64 ((cn : Int) + 1))
                      refine ⟨k + 1, by omega, by go_num, ⟨_, rfl, HQ2.out⟩, K6.out.away aT hnT hna hnb hnc, S6.out.off (D := fun z => z = W8.heap.size) (fun z hz e => by have := N4.out z hz; omega) aT, ?_, M6.out.st (p := ⟨W8.heap.size, n, none⟩) hww _⟩
                      rw [HT.out, ← List.append_assoc, ← HST.out]
                      exact blk_set B6.out n _
                    case measure => simp [intOf]; omega
                  · obtain rfl : k = L.length := by omega
                    rw [List.take_length] at HB5
                    clear hS
                    have HB6 : wr.heap[W8.heap.size]? = some (.cells (LA (Pl t.u (p + 1))) 84 (0, 0)) := by rw [HPL.out]; exact HB5.out
                    have HB6 := Lib.hid HB6
                    go_wp2
                    go_roundw
                    case rel =>
                      first
                      | exact ⟨p + 1, by omega, by go_num, HK5.out, HB6.out, HM5.out⟩
                      | ((repeat apply Exists.intro); exact ⟨⟨p + 1, by omega, by go_num, HK5.out, HB6.out, HM5.out⟩, rfl⟩)
                    case measure => simp [intOf]; omega
              · obtain rfl : p = 3 := by omega
                have hfin : ∀ k : Nat, k < 6 → [(((Pl t.u 3).count 0 : Nat) : Int), (((Pl t.u 3).count 1 : Nat) : Int), (((Pl t.u 3).count 2 : Nat) : Int), (((Pl t.u 3).count 3 : Nat) : Int), (((Pl t.u 3).count 4 : Nat) : Int), (((Pl t.u 3).count 5 : Nat) : Int)].getD k 0 = if ((mget t.u (k : Int)).getD sb0).2.1 = true then 1 else 0 := fun k hk => by
                  rw [← pl_count HI.out HKS.out]
                  have : k = 0 ∨ k = 1 ∨ k = 2 ∨ k = 3 ∨ k = 4 ∨ k = 5 := by omega
                  rcases this with rfl | rfl | rfl | rfl | rfl | rfl <;> rfl
                have hB' := HB.out
                unfold LA at hB'
                have HFIN := Lib.hid hfin
                clear hfin HB
                generalize (((Pl t.u 3).count 0 : Nat) : Int) = c0 at *
                generalize (((Pl t.u 3).count 1 : Nat) : Int) = c1 at *
                generalize (((Pl t.u 3).count 2 : Nat) : Int) = c2 at *
                generalize (((Pl t.u 3).count 3 : Nat) : Int) = c3 at *
                generalize (((Pl t.u 3).count 4 : Nat) : Int) = c4 at *
                generalize (((Pl t.u 3).count 5 : Nat) : Int) = c5 at *
                have g0 := blk_cell hB' 0 (v := .int .i64 c0) rfl
                have g1 := blk_cell hB' 1 (v := .int .i64 c1) rfl
                have g2 := blk_cell hB' 2 (v := .int .i64 c2) rfl
                have g3 := blk_cell hB' 3 (v := .int .i64 c3) rfl
                have g4 := blk_cell hB' 4 (v := .int .i64 c4) rfl
                have g5 := blk_cell hB' 5 (v := .int .i64 c5) rfl
                clear hB'
                go_wp2_with fail
                clear g0 g1 g2 g3 g4 g5
                go_loopw [128] (fun i wz => ∃ k : Nat, k ≤ 6 ∧ i = .int .i64 k ∧ TabAt wz T a b c t ∧ More w wz) (fun i _ => 6 - (intOf i).toNat)
                case atStart => exact ⟨0, by omega, rfl, HK.out, HM.out⟩
                case round =>
                  obtain ⟨k, hk, rfl, hK, hM⟩ := hrel
                  have HK5 := Lib.hid hK
                  have HM5 := Lib.hid hM
                  clear hK hM
                  by_cases hk6 : k < 6
                  · have hk6i : (k : Int) < 6 := by omega
                    have hix := fun w => idx6 c0 c1 c2 c3 c4 c5 k hk6 w
                    have hf := HFIN.out k hk6
                    cases hb : ((mget t.u (k : Int)).getD sb0).2.1 with
                    | true =>
                      rw [hb, if_pos rfl] at hf
                      rw [hf] at hix
                      have HBB := Lib.hid hb
                      clear hb hf
                      go_wp2_with (go_at_call 43; ((with_reducible refine (RTOf HK5.out (k : Int)).mono ?_); rintro e w5 ⟨rfl, m5⟩; rw [HBB.out]; have K6 := Lib.hid (HK5.out.more m5); have M6 := Lib.hid (HM5.out.trans m5); clear m5))
                      go_roundw
                      case rel => first | exact ⟨k + 1, by omega, by go_num, K6.out, M6.out⟩ | ((repeat apply Exists.intro); exact ⟨⟨k + 1, by omega, by go_num, K6.out, M6.out⟩, rfl⟩)
                      case measure => simp [intOf]; omega
                    | false =>
                      rw [hb, if_neg (by simp)] at hf
                      rw [hf] at hix
                      have HBB := Lib.hid hb
                      clear hb hf
                      go_wp2_with (go_at_call 43; ((with_reducible refine (RTOf HK5.out (k : Int)).mono ?_); rintro e w5 ⟨rfl, m5⟩; rw [HBB.out]; have K6 := Lib.hid (HK5.out.more m5); have M6 := Lib.hid (HM5.out.trans m5); clear m5))
                      go_roundw
                      case rel => first | exact ⟨k + 1, by omega, by go_num, K6.out, M6.out⟩ | ((repeat apply Exists.intro); exact ⟨⟨k + 1, by omega, by go_num, K6.out, M6.out⟩, rfl⟩)
                      case measure => simp [intOf]; omega
                  · obtain rfl : k = 6 := by omega
                    go_wp2
                    go_ret
                    exact ⟨rfl, HM5.out⟩
end Go.Proofs.Ytmhkjamibcdcdaa
