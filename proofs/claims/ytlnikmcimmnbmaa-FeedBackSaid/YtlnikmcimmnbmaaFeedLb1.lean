/- The law FeedBack, walked: a part. -/
import Derived.Test.YtlnikmcimmnbmaaFeedL
import Derived.Test.YtlnikmcimmnbmaaTreeB
namespace Go.Proofs.Ytlnikmcimmnbmaa
set_option linter.unusedSimpArgs false
set_option linter.unusedVariables false
open Go.RowKit
set_option maxRecDepth 100000

set_option maxHeartbeats 8000000 in
theorem FeedBack_b1 (m n : Msg) (c : Chunk) (oa1 ol1 oa2 ol2 oc : Option Addr) (ka1 kl1 ka2 kl2 kc : Nat) (w : World) (SM : Hid (MsgS w (.slice oa1 m.asks.length ka1) (.slice ol1 m.lost.length kl1) m)) (SN : Hid (MsgS w (.slice oa2 n.asks.length ka2) (.slice ol2 n.lost.length kl2) n)) (SC : Hid (SlI .u8 w (.slice oc c.2.2.1.length kc) c.2.2.1)) (KM : Hid (MsgOK m)) (KN : Hid (MsgOK n)) (KC : Hid (ChunkOK c))
    (H1 : Hid (lrgM m = false)) (H2 : Hid (lrgM n = false)) (h400 : ¬ (400 : Int) < c.2.2.1.length) (HRM : Hid (rightM m = true)) (HRN : Hid (rightM n = false)) (x1 x2 : Int) (XB : List Int) (xe : Int) (HX : Hid (writeM m = ((x1, x2, XB, ()), xe))) (y1 y2 : Int) (YB : List Int) (ye : Int) (HY : Hid (writeM n = ((y1, y2, YB, ()), ye))) (k : Msg) (ke : Int) (HK : Hid (readM c = (k, ke))) :
    Calls Try.prog 8 #[.agg #[.int .i64 m.kind, .int .u32 m.snd, .int .u32 m.med, .slice oa1 m.asks.length ka1, .slice ol1 m.lost.length kl1], .agg #[.int .i64 n.kind, .int .u32 n.snd, .int .u32 n.med, .slice oa2 n.asks.length ka2, .slice ol2 n.lost.length kl2], .agg #[.int .u8 c.1, .int .u8 c.2.1, .slice oc c.2.2.1.length kc]] w fun e w' => e = .returned (.bool true) ∧ More w w' := by
  have ML : Hid (m.asks.length ≤ 100000 ∧ m.lost.length ≤ 100000) := Lib.hid (by have := of_decide_eq_false H1.out; omega)
  have NL : Hid (n.asks.length ≤ 100000 ∧ n.lost.length ≤ 100000) := Lib.hid (by have := of_decide_eq_false H2.out; omega)
  have KL : Hid (k.asks.length ≤ 100000 ∧ k.lost.length ≤ 100000) := Lib.hid (by have := readM_small (c := c) (by omega); rw [HK.out] at this; exact this)
  have KK : Hid (MsgOK k) := Lib.hid (by have := readM_ok KC.out; rw [HK.out] at this; exact this)
  have hc6 : c.2.2.1.length ≤ 1000000 := by omega
  obtain ⟨Q, hQ⟩ : ∃ Q : Bool, (decide (ke = 0) && rightM k) = Q := ⟨_, rfl⟩
  have HQ := Lib.hid hQ
  clear hQ
  go_enter Try.func8, Try.ntmps8
  go_upto_region 6 with (first | (go_at_call 42; ((with_reducible refine (awake09 _).mono ?_); rintro e w1 ⟨rfl, m1⟩; have X1 := Lib.hid ((Box3.new w #[.int .i64 m.kind, .int .u32 m.snd, .int .u32 m.med, .slice oa1 m.asks.length ka1, .slice ol1 m.lost.length kl1] #[.int .i64 n.kind, .int .u32 n.snd, .int .u32 n.med, .slice oa2 n.asks.length ka2, .slice ol2 n.lost.length kl2] #[.int .u8 c.1, .int .u8 c.2.1, .slice oc c.2.2.1.length kc] 85 85 30).on m1); clear m1; obtain ⟨q0, q1, q2, q3, q4⟩ := cells5 X1.out.r)) | (go_at_call 43; ((with_reducible refine (large09 m oa1 ol1 ka1 kl1 w1).mono ?_); rintro e w2 ⟨rfl, m2⟩; rw [H1.out]; have X2 := Lib.hid (X1.out.on m2); clear m2 q0 q1 q2 q3 q4; obtain ⟨q0, q1, q2, q3, q4⟩ := cells5 X2.out.s)) | (go_at_call 43; ((with_reducible refine (large09 n oa2 ol2 ka2 kl2 w2).mono ?_); rintro e w3 ⟨rfl, m3⟩; rw [H2.out]; have X4 := Lib.hid (X2.out.on m3); clear m3 q0 q1 q2 q3 q4; have z0 := blk_cell X4.out.c 0 (v := .int .u8 c.1) rfl; have z1 := blk_cell X4.out.c 1 (v := .int .u8 c.2.1) rfl; have z2 := blk_cell X4.out.c 2 (v := .slice oc c.2.2.1.length kc) rfl)) | (go_at_call 44; ((with_reducible refine (Read09_any c (SC.out.keep X4.out.more) KC.out hc6).mono ?_); rintro e w4 ⟨⟨va4, vl4, rfl, s4⟩, m4⟩; rw [HK.out]; rw [HK.out] at s4; have S4 := Lib.hid s4; obtain ⟨⟨oa3, ka3, rfl, -⟩, ⟨ol3, kl3, rfl, -⟩⟩ := s4; have m4 := m4.trans (More.alloc w4 (.cells #[.int .i64 k.kind, .int .u32 k.snd, .int .u32 k.med, .slice oa3 k.asks.length ka3, .slice ol3 k.lost.length kl3] 85)); have X5 := Lib.hid (X4.out.on m4); have S5 := Lib.hid (S4.out.keep (More.alloc w4 (.cells #[.int .i64 k.kind, .int .u32 k.snd, .int .u32 k.med, .slice oa3 k.asks.length ka3, .slice ol3 k.lost.length kl3] 85))); have N5 := Lib.hid (blk_new w4 (.cells #[.int .i64 k.kind, .int .u32 k.snd, .int .u32 k.med, .slice oa3 k.asks.length ka3, .slice ol3 k.lost.length kl3] 85)); clear m4 S4 z0 z1 z2)))
  clear X1 X2 X4
  generalize hw5 : w4.alloc (.cells #[.int .i64 k.kind, .int .u32 k.snd, .int .u32 k.med, .slice oa3 k.asks.length ka3, .slice ol3 k.lost.length kl3] 85) = w5 at *
  clear hw5
  go_cut [43] from 38 to 42 (fun v wx => v = .bool Q ∧ More w5 wx)
  case first =>
    by_cases hke : ke = 0
    · have bE := eqB hke
      obtain ⟨q0, q1, q2, q3, q4⟩ := cells5 N5.out
      have HKE := Lib.hid hke
      clear hke
      go_wp2_with (go_at_call 45; ((with_reducible refine (Right09_any k _ _ _ S5.out KK.out KL.out.2).mono ?_); rintro e w6 ⟨rfl, m6⟩; have M6 := Lib.hid m6; clear m6))
      go_meet
      exact ⟨by rw [← HQ.out, decide_eq_true HKE.out]; rfl, M6.out⟩
    · have bE := neB hke
      have HKE := Lib.hid hke
      clear hke
      go_wp2
      go_meet
      exact ⟨by rw [← HQ.out, decide_eq_false HKE.out]; rfl, More.refl _⟩
  case rest =>
  obtain ⟨rfl, hm6⟩ := hcut
  have X6 := Lib.hid (X5.out.on hm6)
  have N6 := Lib.hid (blk_more hm6 N5.out)
  have S6 := Lib.hid (S5.out.keep hm6)
  clear hm6 X5 N5 S5
  go_upto_if 43 with fail
  obtain ⟨w6, hw6⟩ : ∃ x, x = wc := ⟨_, rfl⟩
  rw [← hw6] at X6 N6 S6 ⊢
  clear hw6
  go_cut [] from 44 to 90 (fun wx => More w6 wx)
  case first =>
    cases Q with
    | false =>
      go_wp2
      go_meet
      exact More.refl _
    | true =>
      have hq := HQ.out
      rw [Bool.and_eq_true] at hq
      obtain ⟨hk0, hrk⟩ := hq
      have hk0 := of_decide_eq_true hk0
      have HRK := Lib.hid hrk
      have hrd : readM c = (k, 0) := by rw [HK.out, hk0]
      obtain ⟨e1, e2, e3⟩ := writeM_readM KC.out hrd hrk
      have hback := readM_writeM KK.out hrk
      have hkd := writeM_ok KK.out
      have hsm := writeM_small k
      have hwe : (writeM k).2 = 0 := by rw [writeM_yes hrk]
      obtain ⟨DB, hDB⟩ : ∃ DB, (writeM k).1.2.2.1 = DB := ⟨_, rfl⟩
      have hW : writeM k = ((c.1, c.2.1, DB, ()), 0) := by rw [← e1, ← e2, ← hDB, ← hwe]
      rw [hDB] at e3 hsm
      rw [hW] at hback hkd
      have HW := Lib.hid hW
      have HBK := Lib.hid hback
      have HKD := Lib.hid hkd
      have hsm6 : DB.length ≤ 1000000 := by omega
      have hle : decide ((c.2.2.1.length : Int) < (DB.length : Int)) = false := decide_eq_false (by omega)
      have hle2 : decide (c.2.2.1.length < DB.length) = false := decide_eq_false (by omega)
      have hle3 : ¬ (c.2.2.1.length : Int) < (DB.length : Int) := by omega
      obtain ⟨q0, q1, q2, q3, q4⟩ := cells5 N6.out
      clear e1 e2 e3 hback hkd hwe hW hDB hrd hrk hk0 hsm
      go_wp2_with (first | (go_at_call 46; ((with_reducible refine (Write09_any k _ _ _ S6.out KK.out KL.out.2).mono ?_); rintro e w7 ⟨vd, rfl, sd, m7⟩; rw [HW.out]; rw [HW.out] at sd; have SD := Lib.hid sd; obtain ⟨od, kd, rfl, -⟩ := sd; have m7 := m7.trans (More.alloc w7 (.cells #[.int .u8 c.1, .int .u8 c.2.1, .slice od DB.length kd] 30)); have SD7 := Lib.hid (SD.out.keep (More.alloc w7 (.cells #[.int .u8 c.1, .int .u8 c.2.1, .slice od DB.length kd] 30))); have ND := Lib.hid (blk_new w7 (.cells #[.int .u8 c.1, .int .u8 c.2.1, .slice od DB.length kd] 30)); have X7 := Lib.hid (X6.out.on m7); have N7 := Lib.hid (blk_more m7 N6.out); have S7 := Lib.hid (S6.out.keep m7); have M7 := Lib.hid m7; clear m7 SD q0 q1 q2 q3 q4)) | (go_at_call 44; ((with_reducible refine (Read09_any (c.1, c.2.1, DB, ()) SD7.out HKD.out hsm6).mono ?_); rintro e w9 ⟨⟨va9, vl9, rfl, s9⟩, m9⟩; rw [HBK.out]; rw [HBK.out] at s9; have S9 := Lib.hid s9; obtain ⟨⟨oa4, ka4, rfl, -⟩, ⟨ol4, kl4, rfl, -⟩⟩ := s9; have m9 := m9.trans (More.alloc w9 (.cells #[.int .i64 k.kind, .int .u32 k.snd, .int .u32 k.med, .slice oa4 k.asks.length ka4, .slice ol4 k.lost.length kl4] 85)); have SO := Lib.hid (S9.out.keep (More.alloc w9 (.cells #[.int .i64 k.kind, .int .u32 k.snd, .int .u32 k.med, .slice oa4 k.asks.length ka4, .slice ol4 k.lost.length kl4] 85))); have NO := Lib.hid (blk_new w9 (.cells #[.int .i64 k.kind, .int .u32 k.snd, .int .u32 k.med, .slice oa4 k.asks.length ka4, .slice ol4 k.lost.length kl4] 85)); have X8 := Lib.hid (X7.out.on m9); have N8 := Lib.hid (blk_more m9 N7.out); have ND8 := Lib.hid (blk_more m9 ND.out); have SK8 := Lib.hid (S7.out.keep m9); have M8 := Lib.hid (M7.out.trans m9); clear m9 S9)))
      clear X7 N7 S7 M7 ND SD7 S6 N6
      generalize hw8 : w9.alloc (.cells #[.int .i64 k.kind, .int .u32 k.snd, .int .u32 k.med, .slice oa4 k.asks.length ka4, .slice ol4 k.lost.length kl4] 85) = w8 at *
      clear hw8
      have cO0 : ∀ x : Later w8, x.w'.cell? ⟨w9.heap.size, 0, none⟩ = some (.int .i64 k.kind) := fun x => blk_cell (blk_more x.h NO.out) 0 rfl
      have cO1 : ∀ x : Later w8, x.w'.cell? ⟨w9.heap.size, 1, none⟩ = some (.int .u32 k.snd) := fun x => blk_cell (blk_more x.h NO.out) 1 rfl
      have cO2 : ∀ x : Later w8, x.w'.cell? ⟨w9.heap.size, 2, none⟩ = some (.int .u32 k.med) := fun x => blk_cell (blk_more x.h NO.out) 2 rfl
      have cO3 : ∀ x : Later w8, x.w'.cell? ⟨w9.heap.size, 3, none⟩ = some (.slice oa4 k.asks.length ka4) := fun x => blk_cell (blk_more x.h NO.out) 3 rfl
      have cO4 : ∀ x : Later w8, x.w'.cell? ⟨w9.heap.size, 4, none⟩ = some (.slice ol4 k.lost.length kl4) := fun x => blk_cell (blk_more x.h NO.out) 4 rfl
      have cK0 : ∀ x : Later w8, x.w'.cell? ⟨w4.heap.size, 0, none⟩ = some (.int .i64 k.kind) := fun x => blk_cell (blk_more x.h N8.out) 0 rfl
      have cK1 : ∀ x : Later w8, x.w'.cell? ⟨w4.heap.size, 1, none⟩ = some (.int .u32 k.snd) := fun x => blk_cell (blk_more x.h N8.out) 1 rfl
      have cK2 : ∀ x : Later w8, x.w'.cell? ⟨w4.heap.size, 2, none⟩ = some (.int .u32 k.med) := fun x => blk_cell (blk_more x.h N8.out) 2 rfl
      have cK3 : ∀ x : Later w8, x.w'.cell? ⟨w4.heap.size, 3, none⟩ = some (.slice oa3 k.asks.length ka3) := fun x => blk_cell (blk_more x.h N8.out) 3 rfl
      have cK4 : ∀ x : Later w8, x.w'.cell? ⟨w4.heap.size, 4, none⟩ = some (.slice ol3 k.lost.length kl3) := fun x => blk_cell (blk_more x.h N8.out) 4 rfl
      have cD0 : ∀ x : Later w8, x.w'.cell? ⟨w7.heap.size, 0, none⟩ = some (.int .u8 c.1) := fun x => blk_cell (blk_more x.h ND8.out) 0 rfl
      have cD1 : ∀ x : Later w8, x.w'.cell? ⟨w7.heap.size, 1, none⟩ = some (.int .u8 c.2.1) := fun x => blk_cell (blk_more x.h ND8.out) 1 rfl
      have cD2 : ∀ x : Later w8, x.w'.cell? ⟨w7.heap.size, 2, none⟩ = some (.slice od DB.length kd) := fun x => blk_cell (blk_more x.h ND8.out) 2 rfl
      have cC0 : ∀ x : Later w8, x.w'.cell? ⟨w.heap.size + 2, 0, none⟩ = some (.int .u8 c.1) := fun x => blk_cell (blk_more x.h X8.out.c) 0 rfl
      have cC1 : ∀ x : Later w8, x.w'.cell? ⟨w.heap.size + 2, 1, none⟩ = some (.int .u8 c.2.1) := fun x => blk_cell (blk_more x.h X8.out.c) 1 rfl
      have cC2 : ∀ x : Later w8, x.w'.cell? ⟨w.heap.size + 2, 2, none⟩ = some (.slice oc c.2.2.1.length kc) := fun x => blk_cell (blk_more x.h X8.out.c) 2 rfl
      clear NO N8 ND8
      refine wp_region_trL w8 37 (.op 0 false (.op 1 false (.op 2 false (.op 3 false (.op 4 false (.op 5 false (.op 6 false (.op 7 false (.op 9 false (.op 8 true (.op 10 true (.op 11 true (.op 12 false (.op 13 false (.op 14 false (.op 15 false (.op 16 false (.op 17 false (.op 18 false (.op 19 false (.op 20 false (.op 21 false (.op 22 false (.op 23 false (.op 24 false (.op 25 false (.op 26 false (.op 27 false (.op 28 false (.op 29 false (.op 30 false (.op 31 false (.op 32 false (.op 33 false (.op 34 false (.op 35 false (.op 36 false (.done)))))))))))))))))))))))))))))))))))))) (by kernel_rfl) (by kernel_rfl) ?_
      repeat (first | (refine tr_skip rfl rfl (later_mk (More.drewN w8 1)) ?_) | (refine tr_quiet rfl rfl (later_mk (More.drewN w8 1)) ?_; intro K hK; go_big_quiet_op; go_big_quiet_on))
      (refine tr_next rfl rfl ?_; intro K hK; unfold loud; go_simp)
      (with_reducible refine (own09 k (SO.out.keep (More.drewN w8 1)) KL.out.1).mono ?_)
      rintro e w20 ⟨⟨v20, rfl, s20⟩, m_w20⟩
      have S20 := Lib.hid s20
      clear s20
      have h_w20 : More w8 w20 := More.trans (More.drewN w8 1) m_w20
      clear m_w20
      refine ⟨_, rfl, later_mk h_w20, hK _ _ ?_⟩
      clear hK K
      repeat (first | (refine tr_skip rfl rfl (later_mk h_w20) ?_) | (refine tr_quiet rfl rfl (later_mk h_w20) ?_; intro K hK; go_big_quiet_op; go_big_quiet_on))
      (refine tr_next rfl rfl ?_; intro K hK; unfold loud; go_simp)
      (with_reducible refine (own09 k (SK8.out.keep h_w20) KL.out.1).mono ?_)
      rintro e w21 ⟨⟨v21, rfl, s21⟩, m_w21⟩
      have S21 := Lib.hid s21
      have S20b := Lib.hid (S20.out.keep m_w21)
      clear s21 S20
      have h_w21 : More w8 w21 := More.trans h_w20 m_w21
      clear m_w21
      refine ⟨_, rfl, later_mk h_w21, hK _ _ ?_⟩
      clear hK K
      repeat (first | (refine tr_skip rfl rfl (later_mk h_w21) ?_) | (refine tr_quiet rfl rfl (later_mk h_w21) ?_; intro K hK; go_big_quiet_op; go_big_quiet_on))
      (refine tr_next rfl rfl ?_; intro K hK; unfold loud; go_simp)
      (with_reducible refine (Same09_any k k S20b.out S21.out).mono ?_)
      rintro e w22 ⟨rfl, m_w22⟩
      rw [decide_eq_true rfl]
      have h_w22 : More w8 w22 := More.trans h_w21 m_w22
      clear m_w22
      refine ⟨_, rfl, later_mk h_w22, hK _ _ ?_⟩
      clear hK K
      repeat (first | (refine tr_skip rfl rfl (later_mk h_w22) ?_) | (refine tr_quiet rfl rfl (later_mk h_w22) ?_; intro K hK; go_big_quiet_op; go_big_quiet_on))
      refine tr_done ?_
      go_wp2
      go_meet
      exact M8.out.trans h_w22
  case rest =>
  have X7 := Lib.hid (X6.out.on hcut)
  clear hcut X6 N6 S6 HQ HK KL KK
  obtain ⟨q0, q1, q2, q3, q4⟩ := cells5 X7.out.r
  have hwm := writeM_yes HRM.out
  have hxe : xe = 0 := by have := HX.out; rw [hwm] at this; injection this with _ h; exact h.symm
  subst hxe
  have hbk := readM_writeM KM.out HRM.out
  have hrx := writeM_right HRM.out
  have hkx := writeM_ok KM.out
  have hky := writeM_ok KN.out
  have hxs := writeM_small m
  rw [HX.out] at hbk hrx hkx hxs
  rw [HY.out] at hky
  have HBX := Lib.hid hbk
  have HRX := Lib.hid hrx
  have KX := Lib.hid hkx
  have KY := Lib.hid hky
  have HXS : Hid (XB.length ≤ 1000000) := Lib.hid (by simp only at hxs; omega)
  have hye : ye = 1 := by have := HY.out; rw [writeM_no HRN.out] at this; injection this with _ h; exact h.symm
  subst hye
  clear hwm hbk hrx hkx hky hxs
  go_wp2_with (first | (go_at_call 46; ((with_reducible refine (Write09_any m _ _ _ (SM.out.keep X7.out.more) KM.out ML.out.2).mono ?_); rintro e w10 ⟨vx, rfl, sx, m10⟩; rw [HX.out]; rw [HX.out] at sx; have SX0 := Lib.hid sx; obtain ⟨ox, kx, rfl, -⟩ := sx; have m10 := m10.trans (More.alloc w10 (.cells #[.int .u8 x1, .int .u8 x2, .slice ox XB.length kx] 30)); have SX1 := Lib.hid (SX0.out.keep (More.alloc w10 (.cells #[.int .u8 x1, .int .u8 x2, .slice ox XB.length kx] 30))); have NX1 := Lib.hid (blk_new w10 (.cells #[.int .u8 x1, .int .u8 x2, .slice ox XB.length kx] 30)); have X8 := Lib.hid (X7.out.on m10); clear m10 SX0 q0 q1 q2 q3 q4; obtain ⟨q0, q1, q2, q3, q4⟩ := cells5 X8.out.s)) | (go_at_call 46; ((with_reducible refine (Write09_any n _ _ _ (SN.out.keep X8.out.more) KN.out NL.out.2).mono ?_); rintro e w11 ⟨vy, rfl, sy, m11⟩; rw [HY.out]; rw [HY.out] at sy; have SY0 := Lib.hid sy; obtain ⟨oy, ky, rfl, -⟩ := sy; have m11 := m11.trans (More.alloc w11 (.cells #[.int .u8 y1, .int .u8 y2, .slice oy YB.length ky] 30)); have SY1 := Lib.hid (SY0.out.keep (More.alloc w11 (.cells #[.int .u8 y1, .int .u8 y2, .slice oy YB.length ky] 30))); have NY1 := Lib.hid (blk_new w11 (.cells #[.int .u8 y1, .int .u8 y2, .slice oy YB.length ky] 30)); have SX2 := Lib.hid (SX1.out.keep m11); have NX2 := Lib.hid (blk_more m11 NX1.out); have X85 := Lib.hid (X8.out.on m11); clear m11 SY0 q0 q1 q2 q3 q4; have z0 := blk_cell NX2.out 0 (v := .int .u8 x1) rfl; have z1 := blk_cell NX2.out 1 (v := .int .u8 x2) rfl; have z2 := blk_cell NX2.out 2 (v := .slice ox XB.length kx) rfl)) | (go_at_call 44; ((with_reducible refine (Read09_any (x1, x2, XB, ()) SX2.out KX.out HXS.out).mono ?_); rintro e w12 ⟨⟨va12, vl12, rfl, s12⟩, m12⟩; rw [HBX.out]; rw [HBX.out] at s12; have S12 := Lib.hid s12; obtain ⟨⟨oa5, ka5, rfl, -⟩, ⟨ol5, kl5, rfl, -⟩⟩ := s12; have m12 := m12.trans (More.alloc w12 (.cells #[.int .i64 m.kind, .int .u32 m.snd, .int .u32 m.med, .slice oa5 m.asks.length ka5, .slice ol5 m.lost.length kl5] 85)); have SP := Lib.hid (S12.out.keep (More.alloc w12 (.cells #[.int .i64 m.kind, .int .u32 m.snd, .int .u32 m.med, .slice oa5 m.asks.length ka5, .slice ol5 m.lost.length kl5] 85))); have NP := Lib.hid (blk_new w12 (.cells #[.int .i64 m.kind, .int .u32 m.snd, .int .u32 m.med, .slice oa5 m.asks.length ka5, .slice ol5 m.lost.length kl5] 85)); have X9 := Lib.hid (X85.out.on m12); have NX := Lib.hid (blk_more m12 NX2.out); have NY := Lib.hid (blk_more m12 NY1.out); have SX := Lib.hid (SX2.out.keep m12); have SY := Lib.hid (SY1.out.keep m12); clear m12 S12 z0 z1 z2)))
  clear X7 X8 X85 SX1 SX2 SY1 NX1 NX2 NY1
  generalize hw16 : w12.alloc (.cells #[.int .i64 m.kind, .int .u32 m.snd, .int .u32 m.med, .slice oa5 m.asks.length ka5, .slice ol5 m.lost.length kl5] 85) = w16 at *
  clear hw16
  have cP0 : ∀ x : Later w16, x.w'.cell? ⟨w12.heap.size, 0, none⟩ = some (.int .i64 m.kind) := fun x => blk_cell (blk_more x.h NP.out) 0 rfl
  have cP1 : ∀ x : Later w16, x.w'.cell? ⟨w12.heap.size, 1, none⟩ = some (.int .u32 m.snd) := fun x => blk_cell (blk_more x.h NP.out) 1 rfl
  have cP2 : ∀ x : Later w16, x.w'.cell? ⟨w12.heap.size, 2, none⟩ = some (.int .u32 m.med) := fun x => blk_cell (blk_more x.h NP.out) 2 rfl
  have cP3 : ∀ x : Later w16, x.w'.cell? ⟨w12.heap.size, 3, none⟩ = some (.slice oa5 m.asks.length ka5) := fun x => blk_cell (blk_more x.h NP.out) 3 rfl
  have cP4 : ∀ x : Later w16, x.w'.cell? ⟨w12.heap.size, 4, none⟩ = some (.slice ol5 m.lost.length kl5) := fun x => blk_cell (blk_more x.h NP.out) 4 rfl
  have cM0 : ∀ x : Later w16, x.w'.cell? ⟨w.heap.size, 0, none⟩ = some (.int .i64 m.kind) := fun x => blk_cell (blk_more x.h X9.out.r) 0 rfl
  have cM1 : ∀ x : Later w16, x.w'.cell? ⟨w.heap.size, 1, none⟩ = some (.int .u32 m.snd) := fun x => blk_cell (blk_more x.h X9.out.r) 1 rfl
  have cM2 : ∀ x : Later w16, x.w'.cell? ⟨w.heap.size, 2, none⟩ = some (.int .u32 m.med) := fun x => blk_cell (blk_more x.h X9.out.r) 2 rfl
  have cM3 : ∀ x : Later w16, x.w'.cell? ⟨w.heap.size, 3, none⟩ = some (.slice oa1 m.asks.length ka1) := fun x => blk_cell (blk_more x.h X9.out.r) 3 rfl
  have cM4 : ∀ x : Later w16, x.w'.cell? ⟨w.heap.size, 4, none⟩ = some (.slice ol1 m.lost.length kl1) := fun x => blk_cell (blk_more x.h X9.out.r) 4 rfl
  have cX0 : ∀ x : Later w16, x.w'.cell? ⟨w10.heap.size, 0, none⟩ = some (.int .u8 x1) := fun x => blk_cell (blk_more x.h NX.out) 0 rfl
  have cX1 : ∀ x : Later w16, x.w'.cell? ⟨w10.heap.size, 1, none⟩ = some (.int .u8 x2) := fun x => blk_cell (blk_more x.h NX.out) 1 rfl
  have cX2 : ∀ x : Later w16, x.w'.cell? ⟨w10.heap.size, 2, none⟩ = some (.slice ox XB.length kx) := fun x => blk_cell (blk_more x.h NX.out) 2 rfl
  clear NP NX NY
  refine wp_region_trL w16 33 (.op 0 false (.op 1 false (.op 2 false (.op 3 false (.op 5 false (.op 4 true (.op 6 true (.op 7 true (.op 8 false (.op 9 false (.op 10 false (.op 11 true (.op 12 false (.op 13 false (.op 14 false (.op 15 true (.op 16 false (.op 17 false (.op 18 false (.op 19 false (.op 20 false (.op 21 false (.op 22 false (.op 24 false (.op 26 false (.op 23 true (.op 25 true (.op 27 true (.op 28 true (.op 29 false (.op 30 false (.op 31 false (.op 32 false (.done)))))))))))))))))))))))))))))))))) (by kernel_rfl) (by kernel_rfl) ?_
  repeat (first | (refine tr_skip rfl rfl (later_mk (More.drewN w16 1)) ?_) | (refine tr_quiet rfl rfl (later_mk (More.drewN w16 1)) ?_; intro K hK; go_big_quiet_op; go_big_quiet_on))
  (refine tr_next rfl rfl ?_; intro K hK; unfold loud; go_simp)
  (with_reducible refine (own09 m (SP.out.keep (More.drewN w16 1)) ML.out.1).mono ?_)
  rintro e w30 ⟨⟨v30, rfl, s30⟩, m_w30⟩
  have S30 := Lib.hid s30
  clear s30
  have h_w30 : More w16 w30 := More.trans (More.drewN w16 1) m_w30
  clear m_w30
  refine ⟨_, rfl, later_mk h_w30, hK _ _ ?_⟩
  clear hK K
  repeat (first | (refine tr_skip rfl rfl (later_mk h_w30) ?_) | (refine tr_quiet rfl rfl (later_mk h_w30) ?_; intro K hK; go_big_quiet_op; go_big_quiet_on))
  (refine tr_next rfl rfl ?_; intro K hK; unfold loud; go_simp)
  (with_reducible refine (own09 m (SM.out.keep (X9.out.more.trans h_w30)) ML.out.1).mono ?_)
  rintro e w31 ⟨⟨v31, rfl, s31⟩, m_w31⟩
  have S31 := Lib.hid s31
  have S30b := Lib.hid (S30.out.keep m_w31)
  clear s31 S30
  have h_w31 : More w16 w31 := More.trans h_w30 m_w31
  clear m_w31
  refine ⟨_, rfl, later_mk h_w31, hK _ _ ?_⟩
  clear hK K
  repeat (first | (refine tr_skip rfl rfl (later_mk h_w31) ?_) | (refine tr_quiet rfl rfl (later_mk h_w31) ?_; intro K hK; go_big_quiet_op; go_big_quiet_on))
  (refine tr_next rfl rfl ?_; intro K hK; unfold loud; go_simp)
  (with_reducible refine (Same09_any m m S30b.out S31.out).mono ?_)
  rintro e w32 ⟨rfl, m_w32⟩
  rw [decide_eq_true rfl]
  have h_w32 : More w16 w32 := More.trans h_w31 m_w32
  clear m_w32
  refine ⟨_, rfl, later_mk h_w32, hK _ _ ?_⟩
  clear hK K
  repeat (first | (refine tr_skip rfl rfl (later_mk h_w32) ?_) | (refine tr_quiet rfl rfl (later_mk h_w32) ?_; intro K hK; go_big_quiet_op; go_big_quiet_on))
  (refine tr_next rfl rfl ?_; intro K hK; unfold loud; go_simp)
  (with_reducible refine (Right07_any (x1, x2, XB, ()) (SX.out.keep h_w32) HXS.out).mono ?_)
  rintro e w33 ⟨rfl, m_w33⟩
  rw [HRX.out]
  have h_w33 : More w16 w33 := More.trans h_w32 m_w33
  clear m_w33
  refine ⟨_, rfl, later_mk h_w33, hK _ _ ?_⟩
  clear hK K
  repeat (first | (refine tr_skip rfl rfl (later_mk h_w33) ?_) | (refine tr_quiet rfl rfl (later_mk h_w33) ?_; intro K hK; go_big_quiet_op; go_big_quiet_on))
  (refine tr_next rfl rfl ?_; intro K hK; unfold loud; go_simp)
  (with_reducible refine (Right09_any m _ _ _ (SM.out.keep (X9.out.more.trans h_w33)) KM.out ML.out.2).mono ?_)
  rintro e w34 ⟨rfl, m_w34⟩
  rw [HRM.out]
  have h_w34 : More w16 w34 := More.trans h_w33 m_w34
  clear m_w34
  refine ⟨_, rfl, later_mk h_w34, hK _ _ ?_⟩
  clear hK K
  repeat (first | (refine tr_skipK rfl rfl (later_mk h_w34) ?_; intro K hK; go_simp; go_big_quiet_on) | (refine tr_quiet rfl rfl (later_mk h_w34) ?_; intro K hK; go_big_quiet_op; go_big_quiet_on))
  refine tr_done ?_
  go_wp2
  go_ret
  exact ⟨by first | rfl | (cases q <;> rfl), X9.out.more.trans h_w34⟩
end Go.Proofs.Ytlnikmcimmnbmaa
