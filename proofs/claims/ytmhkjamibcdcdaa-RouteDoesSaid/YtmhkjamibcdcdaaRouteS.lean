/- The law RouteDoes, walked. -/
import Derived.Test.YtmhkjamibcdcdaaRouteR
import Derived.Test.YtmhkjamibcdcdaaSliceC
namespace Go.Proofs.Ytmhkjamibcdcdaa
open Go.RowKit
set_option maxRecDepth 100000

theorem org19_neq (x y : Int) (w : World) : (binOp .neq 94 (.agg #[.int .i64 x, .int .i64 y]) (.agg #[.int .i64 x, .int .i64 y])).run Try.prog w = .ok (.bool false) w := by
  have h1 : Try.prog.stoodInHeld 94 = false := by kernel_rfl
  rw [run_neq_struct, show (10000 : Nat) = 9999 + 1 from rfl, run_equalIn_agg w 9999 94 _ _ (by kernel_rfl) h1]
  simp [go_sem]
theorem act_row {w : World} {A : Nat} {d x p own s0 s1 s2 : Int} (h : w.heap[A]? = some (.cells #[.int .i64 d, .int .i64 x, .int .i64 p, .int .u32 own, .int .u32 s0, .int .u32 s1, .int .u32 s2] 88 (0, 0))) : SlI .u32 w (.slice (some ⟨A, 4, none⟩) 3 3) [s0, s1, s2] := by
  refine ⟨_, 3, rfl, by simp, fun i hi => ?_, by simp, by decide, fun h => by cases h⟩
  refine ⟨A, 4, rfl, blk_lt h, ?_⟩
  have : i = 0 ∨ i = 1 ∨ i = 2 := by simp at hi; omega
  rcases this with rfl | rfl | rfl
  · exact blk_cell h 4 rfl
  · exact blk_cell h 5 rfl
  · exact blk_cell h 6 rfl
set_option maxHeartbeats 16000000 in
theorem RouteDoes_law (v : Value) (l : List A19) (k1 k2 : Int) (w : World) (sl : SlP 7 RAct19 w v l) (_b1 : -9223372036854775808 ≤ k1 ∧ k1 ≤ 9223372036854775807) (_b2 : -9223372036854775808 ≤ k2 ∧ k2 ≤ 9223372036854775807) :
    Calls Try.prog 11 #[v, .agg #[.int .i64 k1, .int .i64 k2]] w fun e w' => e = .returned (.bool true) ∧ More w w' := by
  obtain ⟨oa, cap, rfl, hl63, hel⟩ := acts19 sl
  clear sl _b1 _b2
  by_cases hlen : (200 : Int) < (l.length : Int)
  · go_enter Try.func11, Try.ntmps11
    go_wp2_with (go_at_call 35; refine (awake19 _).mono ?_; rintro e w1 ⟨rfl, hm1⟩)
    go_ret
    exact ⟨rfl, (More.alloc _ _).trans hm1⟩
  · have hl200 : l.length ≤ 200 := by omega
    obtain ⟨i0, hi, hz0, hz1, hz2⟩ := info_parts (P := Try.prog) (e := 79) (z := .int .u32 0) (size := 1) (bytes := 4) (by kernel_rfl)
    go_enter Try.func11, Try.ntmps11
    go_wp2_with first | (go_at_call 35; refine (awake19 _).mono ?_; rintro e w1 ⟨rfl, hm1⟩; have Z1 := hm1.size; have HO1 := Lib.hid (blk_more hm1 (blk_new w (.cells #[.int .i64 k1, .int .i64 k2] 74))); have HM1 := Lib.hid ((More.alloc w (.cells #[.int .i64 k1, .int .i64 k2] 74)).trans hm1); clear hm1) | (go_at_call 36; ((with_reducible refine (RTNew _).mono ?_); rintro e w2 ⟨T, a, b, c, rfl, hT, ha, hb, hc, h2, m2⟩; have Z2 := m2.size; have H2 := Lib.hid h2; have HO2 := Lib.hid (blk_more m2 HO1.out); have HM2 := Lib.hid (HM1.out.trans m2); clear h2 m2))
    have hww := HM1.out.size
    have hww2 := HM2.out.size
    have hnm : ∀ z, (T3 a b c z ∨ z = w2.heap.size) → w.heap.size ≤ z := by rintro z ((e | e | e) | e) <;> omega
    have HNM := Lib.hid hnm
    have qT := blk_lt H2.out.blk
    have qa := H2.out.mo.lt
    have qb := H2.out.ms.lt
    have qc := H2.out.mu.lt
    have HnT : Hid (¬ T = w2.heap.size) := Lib.hid (by omega)
    have HnO : Hid (¬ (T3 a b c w.heap.size ∨ w.heap.size = w2.heap.size)) := Lib.hid (by
      have := blk_lt HO1.out
      rintro ((e | e | e) | e) <;> omega)
    have HnR : Hid (¬ T3 a b c w2.heap.size) := Lib.hid (by rintro (e | e | e) <;> omega)
    clear hnm
    go_loopw [33] (fun i wr => ∃ j : Nat, j ≤ l.length ∧ i = .int .i64 j ∧ ∃ (t : TS) (r : RS), TabAt wr T a b c t ∧ RefAt wr w2.heap.size r ∧ RR t r ∧ wr.heap[w.heap.size]? = some (.cells #[.int .i64 k1, .int .i64 k2] 74 (0, 0)) ∧ t.u.length ≤ j ∧ More w wr) (fun i _ => l.length - (intOf i).toNat)
    case atStart => exact ⟨0, by omega, rfl, ⟨[], [], []⟩, rs0, H2.out.more (More.alloc _ _), blk_new _ _, RR.empty, blk_alloc HO2.out _, by simp, HM2.out.al _⟩
    case round =>
      obtain ⟨j, hj, rfl, t, r, hbk, href, hrr, horg, hml, hmr⟩ := hrel
      by_cases hlt : j < l.length
      · obtain ⟨xb, off, rfl, hxb, hxa⟩ := hel j hlt
        obtain ⟨c0, c1, c2, c3, c4, c5, c6⟩ := hxa.more hmr hxb
        have hjl : (j : Int) < (l.length : Int) := by omega
        have hbwr : xb < wr.heap.size := Nat.lt_of_lt_of_le hxb hmr.size
        have hR0 : w2.heap.size < wr.heap.size := blk_lt href
        have hO0 : w.heap.size < wr.heap.size := blk_lt horg
        have ra := hbk.mo.lt
        have rb := hbk.ms.lt
        have rc := hbk.mu.lt
        clear hxa hel
        generalize l.getD j a19z = y at *
        obtain ⟨d, x, p, own, s0, s1, s2⟩ := y
        simp only at c0 c1 c2 c3 c4 c5 c6
        obtain ⟨tk, htk⟩ : ∃ tk : Bool, tk = true ↔ Taken r s0 s1 s2 := by
          classical exact ⟨decide (Taken r s0 s1 s2), by simp⟩
        have hdo := hrr.do hbk.mu.keys ⟨d, x, p, own, s0, s1, s2⟩ tk htk
        have HTK := Lib.hid htk
        have HE := Lib.hid hdo.1
        have HRR := Lib.hid hdo.2
        have HLT : Hid ((doT t ⟨d, x, p, own, s0, s1, s2⟩).1.u.length ≤ j + 1) := Lib.hid (Nat.le_trans (doT_len _ _) (by omega))
        have K5 := Lib.hid (hbk.more (More.alloc wr (.cells #[.int .i64 d, .int .i64 x, .int .i64 p, .int .u32 own, .int .u32 s0, .int .u32 s1, .int .u32 s2] 88)))
        have R5 := Lib.hid (href.more (More.alloc wr (.cells #[.int .i64 d, .int .i64 x, .int .i64 p, .int .u32 own, .int .u32 s0, .int .u32 s1, .int .u32 s2] 88)))
        have O5 := Lib.hid (blk_alloc horg (.cells #[.int .i64 d, .int .i64 x, .int .i64 p, .int .u32 own, .int .u32 s0, .int .u32 s1, .int .u32 s2] 88))
        have M5 := Lib.hid (hmr.al (.cells #[.int .i64 d, .int .i64 x, .int .i64 p, .int .u32 own, .int .u32 s0, .int .u32 s1, .int .u32 s2] 88))
        have X5 := Lib.hid (blk_new wr (.cells #[.int .i64 d, .int .i64 x, .int .i64 p, .int .u32 own, .int .u32 s0, .int .u32 s1, .int .u32 s2] 88))
        have hnx : ¬ (T3 a b c wr.heap.size ∨ wr.heap.size = w2.heap.size) := by rintro ((e | e | e) | e) <;> omega
        have HNX := Lib.hid hnx
        clear hbk href hrr horg hml hmr hdo htk hnx
        go_wp2_with fail
        generalize (wr.alloc (.cells #[.int .i64 d, .int .i64 x, .int .i64 p, .int .u32 own, .int .u32 s0, .int .u32 s1, .int .u32 s2] 88)) = W5 at *
        have L0 : ∀ x' : LaterS (fun z => T3 a b c z ∨ z = w2.heap.size) W5, x'.w'.cell? ⟨wr.heap.size, 0, none⟩ = some (.int .i64 d) := fun x' => blk_cell (x'.h.blk X5.out HNX.out) 0 rfl
        have L1 : ∀ x' : LaterS (fun z => T3 a b c z ∨ z = w2.heap.size) W5, x'.w'.cell? ⟨wr.heap.size, 1, none⟩ = some (.int .i64 x) := fun x' => blk_cell (x'.h.blk X5.out HNX.out) 1 rfl
        have L2 : ∀ x' : LaterS (fun z => T3 a b c z ∨ z = w2.heap.size) W5, x'.w'.cell? ⟨wr.heap.size, 2, none⟩ = some (.int .i64 p) := fun x' => blk_cell (x'.h.blk X5.out HNX.out) 2 rfl
        have L3 : ∀ x' : LaterS (fun z => T3 a b c z ∨ z = w2.heap.size) W5, x'.w'.cell? ⟨wr.heap.size, 3, none⟩ = some (.int .u32 own) := fun x' => blk_cell (x'.h.blk X5.out HNX.out) 3 rfl
        have L4 : ∀ x' : LaterS (fun z => T3 a b c z ∨ z = w2.heap.size) W5, x'.w'.cell? ⟨wr.heap.size, 4, none⟩ = some (.int .u32 s0) := fun x' => blk_cell (x'.h.blk X5.out HNX.out) 4 rfl
        have L5 : ∀ x' : LaterS (fun z => T3 a b c z ∨ z = w2.heap.size) W5, x'.w'.cell? ⟨wr.heap.size, 5, none⟩ = some (.int .u32 s1) := fun x' => blk_cell (x'.h.blk X5.out HNX.out) 5 rfl
        have L6 : ∀ x' : LaterS (fun z => T3 a b c z ∨ z = w2.heap.size) W5, x'.w'.cell? ⟨wr.heap.size, 6, none⟩ = some (.int .u32 s2) := fun x' => blk_cell (x'.h.blk X5.out HNX.out) 6 rfl
        refine wp_region_numS (fun z => T3 a b c z ∨ z = w2.heap.size) W5 7 [(0, false), (1, false), (3, false), (4, false), (2, true), (5, true), (6, false)] (by kernel_rfl) (by kernel_rfl) ?_
        iterate 4 (refine num_quiet rfl rfl (laterS_mk (by repeat (first | exact Away.refl _ _ | assumption | refine Away.drewN ?_ _ | refine Away.set ?_ (by first | rfl | exact Or.inl rfl | exact Or.inr rfl) _))) ?_; intro K hK; go_big_quiet_op; go_big_quiet_on)
        (refine num_next rfl rfl ?_; intro K hK; unfold loud; go_simp)
        refine (RTDo (K5.out.more (More.drewN _ 1)) ⟨d, x, p, own, s0, s1, s2⟩).mono ?_
        rintro e w6 ⟨rfl, h6, a6⟩
        have A6 : Away (fun z => T3 a b c z ∨ z = w2.heap.size) W5 w6 := ((Away.refl _ _).drewN 1).trans (a6.mono fun z h => Or.inl h)
        have R6 := Lib.hid ((R5.out.more (More.drewN _ 1)).away a6 HnR.out)
        have K6 := Lib.hid h6
        refine ⟨_, rfl, laterS_mk A6, hK _ _ ?_⟩
        clear hK K h6 a6
        (refine num_next rfl rfl ?_; intro K hK; unfold loud; go_simp)
        refine (ROwn R6.out ⟨d, x, p, own, s0, s1, s2⟩ tk HTK.out).mono ?_
        rintro e w7 ⟨rfl, h7, a7⟩
        rw [← HE.out]
        have A7 : Away (fun z => T3 a b c z ∨ z = w2.heap.size) W5 w7 := A6.trans (a7.mono fun z h => Or.inr h)
        have R7 := Lib.hid h7
        have K7 := Lib.hid (K6.out.away a7 HnT.out (fun e => HnR.out (Or.inl e.symm)) (fun e => HnR.out (Or.inr (Or.inl e.symm))) (fun e => HnR.out (Or.inr (Or.inr e.symm))))
        refine ⟨_, rfl, laterS_mk A7, hK _ _ ?_⟩
        clear hK K h7 a7
        iterate 1 (refine num_quiet rfl rfl (laterS_mk A7) ?_; intro K hK; go_big_quiet_op; go_big_quiet_on)
        refine num_nil ?_
        have X7 := Lib.hid (A7.blk X5.out HNX.out)
        have O7 := Lib.hid (A7.blk O5.out HnO.out)
        have M7 := Lib.hid (Away.to_more M5.out A7 HNM.out)
        clear L0 L1 L2 L3 L4 L5 L6 A6 A7 K5 R5 X5 O5 M5 K6 R6 c0 c1 c2 c3 c4 c5 c6
        generalize (doT t ⟨d, x, p, own, s0, s1, s2⟩).1 = t' at *
        generalize (doT t ⟨d, x, p, own, s0, s1, s2⟩).2 = ans at *
        generalize (doR r ⟨d, x, p, own, s0, s1, s2⟩ tk).1 = r' at *
        clear HE HTK
        generalize wr.heap.size = AX at *
        have hml3 : t'.u.length ≤ 1000000 := by have := HLT.out; omega
        have HKS := Lib.hid K7.out.mu.keys
        go_wp2_with fail
        have L3 : ∀ x' : Later w7, x'.w'.cell? ⟨AX, 3, none⟩ = some (.int .u32 own) := fun x' => blk_cell (blk_more x'.h X7.out) 3 rfl
        refine wp_region_num w7 8 [(0, false), (1, false), (3, false), (4, false), (7, false), (2, true), (5, true), (6, false)] (by kernel_rfl) (by kernel_rfl) ?_
        iterate 5 (refine num_quiet rfl rfl (later_mk (by repeat (first | exact More.refl _ | assumption | refine More.dr ?_ _ | refine More.al ?_ _ | refine More.st ?_ (by simp) _))) ?_; intro K hK; go_big_quiet_op; go_big_quiet_on)
        (refine num_next rfl rfl ?_; intro K hK; unfold loud; go_simp)
        refine ⟨later_mk ((More.drewN w7 1).al _), hK _ _ ?_⟩
        clear hK K
        (refine num_next rfl rfl ?_; intro K hK)
        refine loud_append_at (.tmp 46) (.tmp 48) 91 rfl w7.heap.size 79 i0 (.int .u32 0) 4 Try.underlying91 hi hz0 hz1 hz2 rfl (.slice (some ⟨w7.heap.size, 0, none⟩) 1 1) .u32 [own] rfl (World.ownsRow_lit (e := 79) (size := 1) (base := w7.heap.size) (w7.drewN 1) #[.int .u32 own] 1 (Nat.le_refl _) (by unfold maxLen; omega) rfl) ⟨AX, 4, none⟩ 3 [s0, s1, s2] rfl (act_row (blk_more ((More.drewN w7 1).al _) X7.out)) (by simp) (by decide) (by simp) ?_
        intro v8 w8 ho8 hg8 _
        have hg9 : More w7 w8 := ((More.drewN w7 1).al _).grown hg8 ((More.drewN w7 1).al _).size (fun z hz => by cases hz; exact Nat.le_refl _)
        refine ⟨later_mk hg9, hK _ _ ?_⟩
        clear hK K
        have S8 := Lib.hid (SlI.of_owns ho8 (by simp))
        have HS := SlI.of_owns ho8 (by simp)
        obtain ⟨o8, k8, rfl, _⟩ := HS
        have S8 : Hid (SlI .u32 w8 (.slice o8 4 k8) [own, s0, s1, s2]) := S8
        have M8 := Lib.hid hg9
        clear ho8 hg8 hg9
        go_simp
        iterate 1 (refine num_quiet rfl rfl (later_mk M8.out) ?_; intro K hK; go_big_quiet_op; go_big_quiet_on)
        refine num_nil ?_
        clear L3
        go_wp2_with fail
        go_loopw [51] (fun i wq => ∃ k : Nat, k ≤ 4 ∧ i = .int .i64 k ∧ More w8 wq) (fun i _ => 4 - (intOf i).toNat)
        case atStart => exact ⟨0, by omega, rfl, More.refl _⟩
        case round =>
          obtain ⟨k, hk, rfl, hmq⟩ := hrel
          have HMQ := Lib.hid hmq
          have HM8 := Lib.hid (M8.out.trans hmq)
          by_cases hk4 : k < 4
          · have hk4i : (k : Int) < 4 := by omega
            obtain ⟨oa', cap', ev, _, h3, _⟩ := S8.out.keep hmq
            cases ev
            obtain ⟨pb, poff, rfl, hpb, hcell⟩ := h3 k hk4
            have hpw := Nat.lt_of_lt_of_le hpb (Nat.le_refl _)
            clear h3 hmq
            generalize [own, s0, s1, s2].getD k 0 = s at *
            have qn := fun (x y : Int) w => org19_neq x y w
            have HOW := Lib.hid (HRR.out.owns HKS.out s)
            go_wp2_with first | (go_at_call 39; ((with_reducible refine (RTFind (K7.out.more HM8.out) s).mono ?_); rintro e w10 ⟨rfl, m10⟩; have M10 := Lib.hid (HM8.out.trans m10); have N10 := Lib.hid (HMQ.out.trans m10); have B10 := Lib.hid (blk_new w10 (.cells #[.int .i64 ((mget t'.o s).getD (0, 0)).1, .int .i64 ((mget t'.o s).getD (0, 0)).2] 74)); clear m10)) | (go_at_call 40; ((with_reducible refine (RFind (R7.out.more (M10.out.al _)) s).mono ?_); rintro e w11 ⟨⟨vf, rfl, hf⟩, m11⟩; have hff := HRR.out.find hf; subst hff; clear hf; generalize mget t'.o s = og at *; have M11 := Lib.hid ((M10.out.al (.cells #[.int .i64 (og.getD (0, 0)).1, .int .i64 (og.getD (0, 0)).2] 74)).trans m11); have N11 := Lib.hid ((N10.out.al (.cells #[.int .i64 (og.getD (0, 0)).1, .int .i64 (og.getD (0, 0)).2] 74)).trans m11); have B11 := Lib.hid (blk_alloc (blk_more m11 B10.out) (.cells #[.int .i64 (og.getD (0, 0)).1, .int .i64 (og.getD (0, 0)).2] 94)); have g0 := blk_cell B11.out 0 (v := .int .i64 (og.getD (0, 0)).1) rfl; have g1 := blk_cell B11.out 1 (v := .int .i64 (og.getD (0, 0)).2) rfl; clear m11)) | (go_at_call 41; ((with_reducible refine (RTOwners (K7.out.more (M11.out.al _)) s hml3).mono ?_); rintro e w12 ⟨⟨v12, rfl, s12⟩, m12⟩; rw [HOW.out] at s12; have S12 := Lib.hid s12; have M12 := Lib.hid ((M11.out.al (.cells #[.int .i64 (og.getD (0, 0)).1, .int .i64 (og.getD (0, 0)).2] 94)).trans m12); have N12 := Lib.hid ((N11.out.al (.cells #[.int .i64 (og.getD (0, 0)).1, .int .i64 (og.getD (0, 0)).2] 94)).trans m12); clear m12 s12 g0 g1)) | (go_at_call 42; ((with_reducible refine (ROwners (R7.out.more M12.out) s).mono ?_); rintro e w13 ⟨⟨v13, rfl, s13⟩, m13⟩; have S13 := Lib.hid s13; have R13 := Lib.hid (S12.out.keep m13); have N13 := Lib.hid (N12.out.trans m13); clear m13 s13)) | (go_at_call 34; ((with_reducible refine (SameI_any (pick6 (rOwns r' s) 6) (pick6 (rOwns r' s) 6) _ _ _ R13.out S13.out).mono ?_); rintro e w14 ⟨rfl, k14, rfl⟩; rw [decide_eq_true rfl]; have SW := Lib.hid (N13.out.dr k14)))
            go_roundw
            case rel => exact ⟨k + 1, by omega, by go_num, SW.out⟩
            case measure => simp [intOf]; omega
          · obtain rfl : k = 4 := by omega
            have x1 := blk_cell (blk_more HM8.out X7.out) 1 (v := .int .i64 x) rfl
            have HOF := Lib.hid (HRR.out.of x)
            have HSR := Lib.hid (HRR.out.src (k1, k2))
            have o0 := blk_cell (blk_more HM8.out O7.out) 0 (v := .int .i64 k1) rfl
            have o1 := blk_cell (blk_more HM8.out O7.out) 1 (v := .int .i64 k2) rfl
            clear hmq
            go_wp2_with first | (go_at_call 43; ((with_reducible refine (RTOf (K7.out.more HM8.out) x).mono ?_); rintro e w10 ⟨rfl, m10⟩; have M10 := Lib.hid (HM8.out.trans m10); clear m10 x1 o0 o1; have x1 := blk_cell (blk_more M10.out X7.out) 1 (v := .int .i64 x) rfl)) | (go_at_call 44; ((with_reducible refine (ROf (R7.out.more M10.out) x).mono ?_); rintro e w11 ⟨rfl, m11⟩; rw [← HOF.out]; have M11 := Lib.hid (M10.out.trans m11); clear m11 x1; have o0 := blk_cell (blk_more M11.out O7.out) 0 (v := .int .i64 k1) rfl; have o1 := blk_cell (blk_more M11.out O7.out) 1 (v := .int .i64 k2) rfl)) | (go_at_call 45; ((with_reducible refine (RTSource (K7.out.more M11.out) (k1, k2)).mono ?_); rintro e w12 ⟨rfl, m12⟩; have M12 := Lib.hid (M11.out.trans m12); clear m12 o0 o1; have o0 := blk_cell (blk_more M12.out O7.out) 0 (v := .int .i64 k1) rfl; have o1 := blk_cell (blk_more M12.out O7.out) 1 (v := .int .i64 k2) rfl)) | (go_at_call 46; ((with_reducible refine (RSource (R7.out.more M12.out) k1 k2).mono ?_); rintro e w13 ⟨rfl, m13⟩; rw [← HSR.out]; have M13 := Lib.hid (M12.out.trans m13); clear m13 o0 o1))
            have L2 : ∀ x' : Later w13, x'.w'.cell? ⟨AX, 2, none⟩ = some (.int .i64 p) := fun x' => blk_cell (blk_more (M13.out.trans x'.h) X7.out) 2 rfl
            have HSU := Lib.hid (HRR.out.subs HKS.out p)
            refine wp_region_num w13 30 [(0, false), (1, false), (2, false), (3, false), (4, false), (5, false), (6, false), (7, false), (8, false), (9, false), (10, false), (11, false), (12, false), (13, false), (14, false), (15, false), (16, false), (17, false), (18, false), (19, false), (20, false), (21, false), (23, false), (24, false), (25, false), (22, true), (26, true), (27, true), (28, false), (29, false)] (by kernel_rfl) (by kernel_rfl) ?_
            iterate 25 (refine num_quiet rfl rfl (later_mk (by repeat (first | exact More.refl _ | assumption | refine More.dr ?_ _ | refine More.al ?_ _ | refine More.st ?_ (by simp) _))) ?_; intro K hK; go_big_quiet_op; go_big_quiet_on)
            (refine num_next rfl rfl ?_; intro K hK; unfold loud; go_simp)
            refine (RTSubs (K7.out.more (M13.out.dr 1)) p hml3).mono ?_
            rintro e w14 ⟨⟨v14, rfl, s14⟩, m14⟩
            rw [HSU.out] at s14
            have N14 : More w13 w14 := (More.drewN w13 1).trans m14
            refine ⟨_, rfl, later_mk N14, hK _ _ ?_⟩
            clear hK K m14
            (refine num_next rfl rfl ?_; intro K hK; unfold loud; go_simp)
            refine (RSubs (R7.out.more (M13.out.trans N14)) p).mono ?_
            rintro e w15 ⟨⟨v15, rfl, s15⟩, m15⟩
            have N15 : More w13 w15 := N14.trans m15
            have r15 := s14.keep m15
            refine ⟨_, rfl, later_mk N15, hK _ _ ?_⟩
            clear hK K m15 s14
            (refine num_next rfl rfl ?_; intro K hK; unfold loud; go_simp)
            refine (SameI_any (pick6 (rSubs r' p) 6) (pick6 (rSubs r' p) 6) _ _ w15 r15 s15).mono ?_
            rintro e w16 ⟨rfl, k16, rfl⟩
            rw [decide_eq_true rfl]
            have N16 : More w13 (w15.drewN k16) := N15.dr k16
            have K16 := Lib.hid (K7.out.more (M13.out.trans N16))
            have R16 := Lib.hid (R7.out.more (M13.out.trans N16))
            have O16 := Lib.hid (blk_more (M13.out.trans N16) O7.out)
            have M16 := Lib.hid (M7.out.trans (M13.out.trans N16))
            refine ⟨_, rfl, later_mk N16, hK _ _ ?_⟩
            clear hK K r15 s15
            iterate 2 (refine num_quiet rfl rfl (later_mk N16) ?_; intro K hK; go_big_quiet_op; go_big_quiet_on)
            refine num_nil ?_
            clear L2 N14 N15 N16
            go_wp2_with fail
            go_roundw
            case rel => exact ⟨j + 1, by omega, by go_num, t', r', K16.out, R16.out, HRR.out, O16.out, HLT.out, M16.out⟩
            case measure => simp [intOf]; omega
      · obtain rfl : j = l.length := by omega
        go_wp2
        go_ret
        exact ⟨rfl, hmr⟩
end Go.Proofs.Ytmhkjamibcdcdaa
