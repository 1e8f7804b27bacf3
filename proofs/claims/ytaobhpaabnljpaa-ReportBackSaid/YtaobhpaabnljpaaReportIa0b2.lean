/- The law ReportBack, walked: a part. -/
import Derived.Test.YtaobhpaabnljpaaReportI
namespace Go.Proofs.Ytaobhpaabnljpaa
open Go.RowKit
set_option maxRecDepth 100000

set_option maxHeartbeats 8000000 in
theorem ReportBack_a0b2 {w : World} (o1 : Option Addr) (k1 : Nat) (o2 : Option Addr) (k2 : Nat) (o3 : Option Addr) (k3 : Nat) (r s : Rep) (c : Chunk) (SR : Hid (SlP 7 RBlk w (.slice o1 r.bl.length k1) r.bl)) (SS : Hid (SlP 7 RBlk w (.slice o2 s.bl.length k2) s.bl)) (SC : Hid (SlI .u8 w (.slice o3 c.2.2.1.length k3) c.2.2.1)) (okr : RepOK r) (oks : RepOK s) (okc : ChunkOK c) (hl1 : ¬ (40 : Int) < (r.bl.length : Int)) (hl2 : ¬ (40 : Int) < (s.bl.length : Int)) (hl3 : ¬ (400 : Int) < (c.2.2.1.length : Int)) (hr40 : r.bl.length ≤ 100000) (hs40 : s.bl.length ≤ 100000) (hc4 : c.2.2.1.length ≤ 1000000)
    (t : Rep) (et : Int) (HT : Hid (readR c = (t, et))) (het : (et == 0) = false) (D KD : Chunk) (q : Bool) (HW : Hid (writeR r = (D, 0))) (HRd : Hid (readR D = (r, 0))) (okD : ChunkOK D) (hD4 : D.2.2.1.length ≤ 1000000) (HRr : Hid (rightR r = true)) (HRc : Hid (rightB D = true)) (HS : Hid (writeR s = (KD, 0))) (okK : ChunkOK KD) (HQ1 : Hid (decide (D = KD) = q)) (HQ2 : Hid (decide (r = s) = q)) :
    Calls Try.prog 10 #[.agg #[.bool r.snd, .int .u32 r.src, .int .u32 r.inf.sec, .int .u32 r.inf.frac, .int .u32 r.inf.stamp, .int .u32 r.inf.pkts, .int .u32 r.inf.octs, .slice o1 r.bl.length k1], .agg #[.bool s.snd, .int .u32 s.src, .int .u32 s.inf.sec, .int .u32 s.inf.frac, .int .u32 s.inf.stamp, .int .u32 s.inf.pkts, .int .u32 s.inf.octs, .slice o2 s.bl.length k2], .agg #[.int .u8 c.1, .int .u8 c.2.1, .slice o3 c.2.2.1.length k3]] w fun e w' => e = .returned (.bool true) ∧ More w w' := by
  go_enter Try.func10, Try.ntmps10
  go_wp2_with first | (go_at_call 46; refine (awake08 _).mono ?_; rintro e w1 ⟨rfl, m1⟩; have X1 := (Box3.new w _ _ _ _ _ _).on m1; have a0 := blk_cell X1.r 0 (v := .bool r.snd) rfl; have a1 := blk_cell X1.r 1 (v := .int .u32 r.src) rfl; have a2 := blk_cell X1.r 2 (v := .int .u32 r.inf.sec) rfl; have a3 := blk_cell X1.r 3 (v := .int .u32 r.inf.frac) rfl; have a4 := blk_cell X1.r 4 (v := .int .u32 r.inf.stamp) rfl; have a5 := blk_cell X1.r 5 (v := .int .u32 r.inf.pkts) rfl; have a6 := blk_cell X1.r 6 (v := .int .u32 r.inf.octs) rfl; have a7 := blk_cell X1.r 7 (v := .slice o1 r.bl.length k1) rfl; have b0 := blk_cell X1.s 0 (v := .bool s.snd) rfl; have b1 := blk_cell X1.s 1 (v := .int .u32 s.src) rfl; have b2 := blk_cell X1.s 2 (v := .int .u32 s.inf.sec) rfl; have b3 := blk_cell X1.s 3 (v := .int .u32 s.inf.frac) rfl; have b4 := blk_cell X1.s 4 (v := .int .u32 s.inf.stamp) rfl; have b5 := blk_cell X1.s 5 (v := .int .u32 s.inf.pkts) rfl; have b6 := blk_cell X1.s 6 (v := .int .u32 s.inf.octs) rfl; have b7 := blk_cell X1.s 7 (v := .slice o2 s.bl.length k2) rfl; have e0 := blk_cell X1.c 0 (v := .int .u8 c.1) rfl; have e1 := blk_cell X1.c 1 (v := .int .u8 c.2.1) rfl; have e2 := blk_cell X1.c 2 (v := .slice o3 c.2.2.1.length k3) rfl) | (go_at_call 50; ((with_reducible refine (Read08_any c (SC.out.keep X1.more) okc hc4).mono ?_); rintro e w2 ⟨⟨vt, rfl, st⟩, m2⟩; rw [HT.out]; rw [HT.out] at st; have ST := Lib.hid st; obtain ⟨ot, kt, rfl, _⟩ := st; have X2 := (X1.on m2).on (More.alloc w2 (.cells #[.bool t.snd, .int .u32 t.src, .int .u32 t.inf.sec, .int .u32 t.inf.frac, .int .u32 t.inf.stamp, .int .u32 t.inf.pkts, .int .u32 t.inf.octs, .slice ot t.bl.length kt] 82)); have f0 := blk_cell X2.r 0 (v := .bool r.snd) rfl; have f1 := blk_cell X2.r 1 (v := .int .u32 r.src) rfl; have f2 := blk_cell X2.r 2 (v := .int .u32 r.inf.sec) rfl; have f3 := blk_cell X2.r 3 (v := .int .u32 r.inf.frac) rfl; have f4 := blk_cell X2.r 4 (v := .int .u32 r.inf.stamp) rfl; have f5 := blk_cell X2.r 5 (v := .int .u32 r.inf.pkts) rfl; have f6 := blk_cell X2.r 6 (v := .int .u32 r.inf.octs) rfl; have f7 := blk_cell X2.r 7 (v := .slice o1 r.bl.length k1) rfl)) | (go_at_call 47; ((with_reducible refine (Write08_any r (SR.out.keep keepsBlk X2.more) okr).mono ?_); rintro e w5 ⟨vd, rfl, sd, m5⟩; rw [HW.out]; rw [HW.out] at sd; have SD : Hid (SlI .u8 w5 vd D.2.2.1) := Lib.hid sd; obtain ⟨od, kd, rfl, _⟩ := sd; have X5 := (X2.on m5).on (More.alloc w5 (.cells #[.int .u8 D.1, .int .u8 D.2.1, .slice od D.2.2.1.length kd] 84)); have N5 := blk_new w5 (.cells #[.int .u8 D.1, .int .u8 D.2.1, .slice od D.2.2.1.length kd] 84))) | (go_at_call 50; ((with_reducible refine (Read08_any D (SD.out.keep (More.alloc w5 (.cells #[.int .u8 D.1, .int .u8 D.2.1, .slice od D.2.2.1.length kd] 84))) okD hD4).mono ?_); rintro e w6 ⟨⟨v8, rfl, s8⟩, m6⟩; rw [HRd.out]; rw [HRd.out] at s8; have S8 : Hid (SlP 7 RBlk w6 v8 r.bl) := Lib.hid s8; obtain ⟨o8, k8, rfl, _⟩ := s8; have X6 := Lib.hid ((X5.on m6).on (More.alloc w6 (.cells #[.bool r.snd, .int .u32 r.src, .int .u32 r.inf.sec, .int .u32 r.inf.frac, .int .u32 r.inf.stamp, .int .u32 r.inf.pkts, .int .u32 r.inf.octs, .slice o8 r.bl.length k8] 82))); have N6 := Lib.hid (blk_more (More.alloc w6 (.cells #[.bool r.snd, .int .u32 r.src, .int .u32 r.inf.sec, .int .u32 r.inf.frac, .int .u32 r.inf.stamp, .int .u32 r.inf.pkts, .int .u32 r.inf.octs, .slice o8 r.bl.length k8] 82)) (blk_more m6 N5)); have M56 := Lib.hid (((More.alloc w5 (.cells #[.int .u8 D.1, .int .u8 D.2.1, .slice od D.2.2.1.length kd] 84)).trans m6).al (.cells #[.bool r.snd, .int .u32 r.src, .int .u32 r.inf.sec, .int .u32 r.inf.frac, .int .u32 r.inf.stamp, .int .u32 r.inf.pkts, .int .u32 r.inf.octs, .slice o8 r.bl.length k8] 82))))
  have N8 := Lib.hid (blk_new w6 (.cells #[.bool r.snd, .int .u32 r.src, .int .u32 r.inf.sec, .int .u32 r.inf.frac, .int .u32 r.inf.stamp, .int .u32 r.inf.pkts, .int .u32 r.inf.octs, .slice o8 r.bl.length k8] 82))
  have V8 := Lib.hid (S8.out.keep keepsBlk (More.alloc w6 (.cells #[.bool r.snd, .int .u32 r.src, .int .u32 r.inf.sec, .int .u32 r.inf.frac, .int .u32 r.inf.stamp, .int .u32 r.inf.pkts, .int .u32 r.inf.octs, .slice o8 r.bl.length k8] 82)))
  have VD := Lib.hid (SD.out.keep M56.out)
  clear S8 SD
  generalize hw7 : w6.alloc (.cells #[.bool r.snd, .int .u32 r.src, .int .u32 r.inf.sec, .int .u32 r.inf.frac, .int .u32 r.inf.stamp, .int .u32 r.inf.pkts, .int .u32 r.inf.octs, .slice o8 r.bl.length k8] 82) = w7 at *
  clear hw7
  have P0 : ∀ x : Later w7, x.w'.cell? ⟨w6.heap.size, 0, none⟩ = some (.bool r.snd) := fun x => blk_cell (blk_more x.h N8.out) 0 rfl
  have P1 : ∀ x : Later w7, x.w'.cell? ⟨w6.heap.size, 1, none⟩ = some (.int .u32 r.src) := fun x => blk_cell (blk_more x.h N8.out) 1 rfl
  have P2 : ∀ x : Later w7, x.w'.cell? ⟨w6.heap.size, 2, none⟩ = some (.int .u32 r.inf.sec) := fun x => blk_cell (blk_more x.h N8.out) 2 rfl
  have P3 : ∀ x : Later w7, x.w'.cell? ⟨w6.heap.size, 3, none⟩ = some (.int .u32 r.inf.frac) := fun x => blk_cell (blk_more x.h N8.out) 3 rfl
  have P4 : ∀ x : Later w7, x.w'.cell? ⟨w6.heap.size, 4, none⟩ = some (.int .u32 r.inf.stamp) := fun x => blk_cell (blk_more x.h N8.out) 4 rfl
  have P5 : ∀ x : Later w7, x.w'.cell? ⟨w6.heap.size, 5, none⟩ = some (.int .u32 r.inf.pkts) := fun x => blk_cell (blk_more x.h N8.out) 5 rfl
  have P6 : ∀ x : Later w7, x.w'.cell? ⟨w6.heap.size, 6, none⟩ = some (.int .u32 r.inf.octs) := fun x => blk_cell (blk_more x.h N8.out) 6 rfl
  have P7 : ∀ x : Later w7, x.w'.cell? ⟨w6.heap.size, 7, none⟩ = some (.slice o8 r.bl.length k8) := fun x => blk_cell (blk_more x.h N8.out) 7 rfl
  have Q0 : ∀ x : Later w7, x.w'.cell? ⟨w.heap.size, 0, none⟩ = some (.bool r.snd) := fun x => blk_cell (blk_more x.h X6.out.r) 0 rfl
  have Q1 : ∀ x : Later w7, x.w'.cell? ⟨w.heap.size, 1, none⟩ = some (.int .u32 r.src) := fun x => blk_cell (blk_more x.h X6.out.r) 1 rfl
  have Q2 : ∀ x : Later w7, x.w'.cell? ⟨w.heap.size, 2, none⟩ = some (.int .u32 r.inf.sec) := fun x => blk_cell (blk_more x.h X6.out.r) 2 rfl
  have Q3 : ∀ x : Later w7, x.w'.cell? ⟨w.heap.size, 3, none⟩ = some (.int .u32 r.inf.frac) := fun x => blk_cell (blk_more x.h X6.out.r) 3 rfl
  have Q4 : ∀ x : Later w7, x.w'.cell? ⟨w.heap.size, 4, none⟩ = some (.int .u32 r.inf.stamp) := fun x => blk_cell (blk_more x.h X6.out.r) 4 rfl
  have Q5 : ∀ x : Later w7, x.w'.cell? ⟨w.heap.size, 5, none⟩ = some (.int .u32 r.inf.pkts) := fun x => blk_cell (blk_more x.h X6.out.r) 5 rfl
  have Q6 : ∀ x : Later w7, x.w'.cell? ⟨w.heap.size, 6, none⟩ = some (.int .u32 r.inf.octs) := fun x => blk_cell (blk_more x.h X6.out.r) 6 rfl
  have Q7 : ∀ x : Later w7, x.w'.cell? ⟨w.heap.size, 7, none⟩ = some (.slice o1 r.bl.length k1) := fun x => blk_cell (blk_more x.h X6.out.r) 7 rfl
  have U0 : ∀ x : Later w7, x.w'.cell? ⟨w5.heap.size, 0, none⟩ = some (.int .u8 D.1) := fun x => blk_cell (blk_more x.h N6.out) 0 rfl
  have U1 : ∀ x : Later w7, x.w'.cell? ⟨w5.heap.size, 1, none⟩ = some (.int .u8 D.2.1) := fun x => blk_cell (blk_more x.h N6.out) 1 rfl
  have U2 : ∀ x : Later w7, x.w'.cell? ⟨w5.heap.size, 2, none⟩ = some (.slice od D.2.2.1.length kd) := fun x => blk_cell (blk_more x.h N6.out) 2 rfl
  refine wp_region_trL w7 20 (.op 0 false (.op 1 false (.op 2 false (.op 3 false (.op 5 false (.op 4 true (.op 6 true (.op 7 true (.op 8 false (.op 9 false (.op 10 false (.op 11 false (.op 12 true (.op 13 false (.op 14 false (.op 15 false (.op 16 false (.op 17 true (.op 18 false (.op 19 false (.done))))))))))))))))))))) (by kernel_rfl) (by kernel_rfl) ?_
  repeat (first | (refine tr_skip rfl rfl (later_mk (by repeat (first | exact More.refl _ | assumption | refine More.dr ?_ _ | refine More.al ?_ _ | refine More.st ?_ (by simp) _))) ?_) | (refine tr_quiet rfl rfl (later_mk (by repeat (first | exact More.refl _ | assumption | refine More.dr ?_ _ | refine More.al ?_ _ | refine More.st ?_ (by simp) _))) ?_; intro K hK; go_big_quiet_op; go_big_quiet_on))
  (refine tr_next rfl rfl ?_; intro K hK; unfold loud; go_simp)
  refine (own08 r (V8.out.keep keepsBlk (show More w7 _ from (by repeat (first | exact More.refl _ | assumption | refine More.dr ?_ _ | refine More.al ?_ _ | refine More.st ?_ (by simp) _)))) hr40).mono ?_
  rintro e w20 ⟨⟨v20, rfl, s20⟩, m20⟩
  have h20 : More w7 w20 := (show More w7 _ from (by repeat (first | exact More.refl _ | assumption | refine More.dr ?_ _ | refine More.al ?_ _ | refine More.st ?_ (by simp) _))).trans m20
  have S20 := Lib.hid s20
  clear s20 m20
  refine ⟨_, rfl, later_mk h20, hK _ _ ?_⟩
  clear hK K
  repeat (first | (refine tr_skip rfl rfl (later_mk (by repeat (first | exact More.refl _ | assumption | refine More.dr ?_ _ | refine More.al ?_ _ | refine More.st ?_ (by simp) _))) ?_) | (refine tr_quiet rfl rfl (later_mk (by repeat (first | exact More.refl _ | assumption | refine More.dr ?_ _ | refine More.al ?_ _ | refine More.st ?_ (by simp) _))) ?_; intro K hK; go_big_quiet_op; go_big_quiet_on))
  (refine tr_next rfl rfl ?_; intro K hK; unfold loud; go_simp)
  refine (own08 r (SR.out.keep keepsBlk (X6.out.more.trans h20)) hr40).mono ?_
  rintro e w21 ⟨⟨v21, rfl, s21⟩, m21⟩
  have h21 : More w7 w21 := h20.trans m21
  have S21 := Lib.hid s21
  have S20' := Lib.hid (S20.out.keep keepsBlk m21)
  clear s21 m21
  refine ⟨_, rfl, later_mk h21, hK _ _ ?_⟩
  clear hK K
  repeat (first | (refine tr_skip rfl rfl (later_mk (by repeat (first | exact More.refl _ | assumption | refine More.dr ?_ _ | refine More.al ?_ _ | refine More.st ?_ (by simp) _))) ?_) | (refine tr_quiet rfl rfl (later_mk (by repeat (first | exact More.refl _ | assumption | refine More.dr ?_ _ | refine More.al ?_ _ | refine More.st ?_ (by simp) _))) ?_; intro K hK; go_big_quiet_op; go_big_quiet_on))
  (refine tr_next rfl rfl ?_; intro K hK; unfold loud; go_simp)
  refine (Same08_any r r S20'.out S21.out).mono ?_
  rintro e w22 ⟨rfl, m22⟩
  rw [decide_eq_true rfl]
  have h22 : More w7 w22 := h21.trans m22
  clear m22 S20 S20' S21
  refine ⟨_, rfl, later_mk h22, hK _ _ ?_⟩
  clear hK K
  repeat (first | (refine tr_skip rfl rfl (later_mk (by repeat (first | exact More.refl _ | assumption | refine More.dr ?_ _ | refine More.al ?_ _ | refine More.st ?_ (by simp) _))) ?_) | (refine tr_quiet rfl rfl (later_mk (by repeat (first | exact More.refl _ | assumption | refine More.dr ?_ _ | refine More.al ?_ _ | refine More.st ?_ (by simp) _))) ?_; intro K hK; go_big_quiet_op; go_big_quiet_on))
  (refine tr_next rfl rfl ?_; intro K hK; unfold loud; go_simp)
  refine (Right07_any D (VD.out.keep h22) hD4).mono ?_
  rintro e w23 ⟨rfl, m23⟩
  rw [HRc.out]
  have h23 : More w7 w23 := h22.trans m23
  clear m23
  refine ⟨_, rfl, later_mk h23, hK _ _ ?_⟩
  clear hK K
  repeat (first | (refine tr_skip rfl rfl (later_mk (by repeat (first | exact More.refl _ | assumption | refine More.dr ?_ _ | refine More.al ?_ _ | refine More.st ?_ (by simp) _))) ?_) | (refine tr_quiet rfl rfl (later_mk (by repeat (first | exact More.refl _ | assumption | refine More.dr ?_ _ | refine More.al ?_ _ | refine More.st ?_ (by simp) _))) ?_; intro K hK; go_big_quiet_op; go_big_quiet_on))
  (refine tr_next rfl rfl ?_; intro K hK; unfold loud; go_simp)
  refine (Right08_any r (SR.out.keep keepsBlk (X6.out.more.trans h23))).mono ?_
  rintro e w24 ⟨rfl, m24⟩
  rw [HRr.out]
  have h24 : More w7 w24 := h23.trans m24
  clear m24
  refine ⟨_, rfl, later_mk h24, hK _ _ ?_⟩
  clear hK K
  repeat (first | (refine tr_skip rfl rfl (later_mk (by repeat (first | exact More.refl _ | assumption | refine More.dr ?_ _ | refine More.al ?_ _ | refine More.st ?_ (by simp) _))) ?_) | (refine tr_quiet rfl rfl (later_mk (by repeat (first | exact More.refl _ | assumption | refine More.dr ?_ _ | refine More.al ?_ _ | refine More.st ?_ (by simp) _))) ?_; intro K hK; go_big_quiet_op; go_big_quiet_on))
  refine tr_done ?_
  have X24 := X6.out.on h24
  have N24 := blk_more h24 N6.out
  have VD24 := Lib.hid (VD.out.keep h24)
  have j0 := blk_cell X24.s 0 (v := .bool s.snd) rfl
  have j1 := blk_cell X24.s 1 (v := .int .u32 s.src) rfl
  have j2 := blk_cell X24.s 2 (v := .int .u32 s.inf.sec) rfl
  have j3 := blk_cell X24.s 3 (v := .int .u32 s.inf.frac) rfl
  have j4 := blk_cell X24.s 4 (v := .int .u32 s.inf.stamp) rfl
  have j5 := blk_cell X24.s 5 (v := .int .u32 s.inf.pkts) rfl
  have j6 := blk_cell X24.s 6 (v := .int .u32 s.inf.octs) rfl
  have j7 := blk_cell X24.s 7 (v := .slice o2 s.bl.length k2) rfl
  clear P0 P1 P2 P3 P4 P5 P6 P7 Q0 Q1 Q2 Q3 Q4 Q5 Q6 Q7 U0 U1 U2
  go_wp2_with (go_at_call 47; ((with_reducible refine (Write08_any s (SS.out.keep keepsBlk X24.more) oks).mono ?_); rintro e w25 ⟨vz, rfl, sz, m25⟩; rw [HS.out]; rw [HS.out] at sz; have SZ : Hid (SlI .u8 w25 vz KD.2.2.1) := Lib.hid sz; obtain ⟨ok, kk, rfl, _⟩ := sz; have X25 := Lib.hid ((X24.on m25).on (More.alloc w25 (.cells #[.int .u8 KD.1, .int .u8 KD.2.1, .slice ok KD.2.2.1.length kk] 84))); have N25 := Lib.hid (blk_more (More.alloc w25 (.cells #[.int .u8 KD.1, .int .u8 KD.2.1, .slice ok KD.2.2.1.length kk] 84)) (blk_more m25 N24)); have VD25 := Lib.hid ((VD24.out.keep m25).keep (More.alloc w25 (.cells #[.int .u8 KD.1, .int .u8 KD.2.1, .slice ok KD.2.2.1.length kk] 84)))))
  have N26 := Lib.hid (blk_new w25 (.cells #[.int .u8 KD.1, .int .u8 KD.2.1, .slice ok KD.2.2.1.length kk] 84))
  have VK := Lib.hid (SZ.out.keep (More.alloc w25 (.cells #[.int .u8 KD.1, .int .u8 KD.2.1, .slice ok KD.2.2.1.length kk] 84)))
  clear SZ
  generalize hw8 : w25.alloc (.cells #[.int .u8 KD.1, .int .u8 KD.2.1, .slice ok KD.2.2.1.length kk] 84) = w8 at *
  clear hw8
  have P0 : ∀ x : Later w8, x.w'.cell? ⟨w25.heap.size, 0, none⟩ = some (.int .u8 KD.1) := fun x => blk_cell (blk_more x.h N26.out) 0 rfl
  have P1 : ∀ x : Later w8, x.w'.cell? ⟨w25.heap.size, 1, none⟩ = some (.int .u8 KD.2.1) := fun x => blk_cell (blk_more x.h N26.out) 1 rfl
  have P2 : ∀ x : Later w8, x.w'.cell? ⟨w25.heap.size, 2, none⟩ = some (.slice ok KD.2.2.1.length kk) := fun x => blk_cell (blk_more x.h N26.out) 2 rfl
  have Q0 : ∀ x : Later w8, x.w'.cell? ⟨w.heap.size, 0, none⟩ = some (.bool r.snd) := fun x => blk_cell (blk_more x.h X25.out.r) 0 rfl
  have Q1 : ∀ x : Later w8, x.w'.cell? ⟨w.heap.size, 1, none⟩ = some (.int .u32 r.src) := fun x => blk_cell (blk_more x.h X25.out.r) 1 rfl
  have Q2 : ∀ x : Later w8, x.w'.cell? ⟨w.heap.size, 2, none⟩ = some (.int .u32 r.inf.sec) := fun x => blk_cell (blk_more x.h X25.out.r) 2 rfl
  have Q3 : ∀ x : Later w8, x.w'.cell? ⟨w.heap.size, 3, none⟩ = some (.int .u32 r.inf.frac) := fun x => blk_cell (blk_more x.h X25.out.r) 3 rfl
  have Q4 : ∀ x : Later w8, x.w'.cell? ⟨w.heap.size, 4, none⟩ = some (.int .u32 r.inf.stamp) := fun x => blk_cell (blk_more x.h X25.out.r) 4 rfl
  have Q5 : ∀ x : Later w8, x.w'.cell? ⟨w.heap.size, 5, none⟩ = some (.int .u32 r.inf.pkts) := fun x => blk_cell (blk_more x.h X25.out.r) 5 rfl
  have Q6 : ∀ x : Later w8, x.w'.cell? ⟨w.heap.size, 6, none⟩ = some (.int .u32 r.inf.octs) := fun x => blk_cell (blk_more x.h X25.out.r) 6 rfl
  have Q7 : ∀ x : Later w8, x.w'.cell? ⟨w.heap.size, 7, none⟩ = some (.slice o1 r.bl.length k1) := fun x => blk_cell (blk_more x.h X25.out.r) 7 rfl
  have Z0 : ∀ x : Later w8, x.w'.cell? ⟨w.heap.size + 1, 0, none⟩ = some (.bool s.snd) := fun x => blk_cell (blk_more x.h X25.out.s) 0 rfl
  have Z1 : ∀ x : Later w8, x.w'.cell? ⟨w.heap.size + 1, 1, none⟩ = some (.int .u32 s.src) := fun x => blk_cell (blk_more x.h X25.out.s) 1 rfl
  have Z2 : ∀ x : Later w8, x.w'.cell? ⟨w.heap.size + 1, 2, none⟩ = some (.int .u32 s.inf.sec) := fun x => blk_cell (blk_more x.h X25.out.s) 2 rfl
  have Z3 : ∀ x : Later w8, x.w'.cell? ⟨w.heap.size + 1, 3, none⟩ = some (.int .u32 s.inf.frac) := fun x => blk_cell (blk_more x.h X25.out.s) 3 rfl
  have Z4 : ∀ x : Later w8, x.w'.cell? ⟨w.heap.size + 1, 4, none⟩ = some (.int .u32 s.inf.stamp) := fun x => blk_cell (blk_more x.h X25.out.s) 4 rfl
  have Z5 : ∀ x : Later w8, x.w'.cell? ⟨w.heap.size + 1, 5, none⟩ = some (.int .u32 s.inf.pkts) := fun x => blk_cell (blk_more x.h X25.out.s) 5 rfl
  have Z6 : ∀ x : Later w8, x.w'.cell? ⟨w.heap.size + 1, 6, none⟩ = some (.int .u32 s.inf.octs) := fun x => blk_cell (blk_more x.h X25.out.s) 6 rfl
  have Z7 : ∀ x : Later w8, x.w'.cell? ⟨w.heap.size + 1, 7, none⟩ = some (.slice o2 s.bl.length k2) := fun x => blk_cell (blk_more x.h X25.out.s) 7 rfl
  have U0 : ∀ x : Later w8, x.w'.cell? ⟨w5.heap.size, 0, none⟩ = some (.int .u8 D.1) := fun x => blk_cell (blk_more x.h N25.out) 0 rfl
  have U1 : ∀ x : Later w8, x.w'.cell? ⟨w5.heap.size, 1, none⟩ = some (.int .u8 D.2.1) := fun x => blk_cell (blk_more x.h N25.out) 1 rfl
  have U2 : ∀ x : Later w8, x.w'.cell? ⟨w5.heap.size, 2, none⟩ = some (.slice od D.2.2.1.length kd) := fun x => blk_cell (blk_more x.h N25.out) 2 rfl
  refine wp_region_trL w8 14 (.op 0 false (.op 1 false (.op 2 false (.op 3 false (.op 4 false (.op 6 false (.op 8 false (.op 5 true (.op 7 true (.op 9 true (.op 10 true (.op 11 false (.op 12 false (.op 13 false (.done))))))))))))))) (by kernel_rfl) (by kernel_rfl) ?_
  repeat (first | (refine tr_skip rfl rfl (later_mk (by repeat (first | exact More.refl _ | assumption | refine More.dr ?_ _ | refine More.al ?_ _ | refine More.st ?_ (by simp) _))) ?_) | (refine tr_quiet rfl rfl (later_mk (by repeat (first | exact More.refl _ | assumption | refine More.dr ?_ _ | refine More.al ?_ _ | refine More.st ?_ (by simp) _))) ?_; intro K hK; go_big_quiet_op; go_big_quiet_on))
  (refine tr_next rfl rfl ?_; intro K hK; unfold loud; go_simp)
  refine (same08 D KD (VD25.out.keep (show More w8 _ from (by repeat (first | exact More.refl _ | assumption | refine More.dr ?_ _ | refine More.al ?_ _ | refine More.st ?_ (by simp) _)))) (VK.out.keep (show More w8 _ from (by repeat (first | exact More.refl _ | assumption | refine More.dr ?_ _ | refine More.al ?_ _ | refine More.st ?_ (by simp) _)))) okD okK).mono ?_
  rintro e w30 ⟨rfl, m30⟩
  rw [HQ1.out]
  have h30 : More w8 w30 := (show More w8 _ from (by repeat (first | exact More.refl _ | assumption | refine More.dr ?_ _ | refine More.al ?_ _ | refine More.st ?_ (by simp) _))).trans m30
  clear m30
  refine ⟨_, rfl, later_mk h30, hK _ _ ?_⟩
  clear hK
  repeat (first | (refine tr_skip rfl rfl (later_mk (by repeat (first | exact More.refl _ | assumption | refine More.dr ?_ _ | refine More.al ?_ _ | refine More.st ?_ (by simp) _))) ?_) | (refine tr_quiet rfl rfl (later_mk (by repeat (first | exact More.refl _ | assumption | refine More.dr ?_ _ | refine More.al ?_ _ | refine More.st ?_ (by simp) _))) ?_; intro K hK; go_big_quiet_op; go_big_quiet_on))
  (refine tr_next rfl rfl ?_; intro K hK; unfold loud; go_simp)
  refine (own08 r (SR.out.keep keepsBlk (X25.out.more.trans h30)) hr40).mono ?_
  rintro e w31 ⟨⟨v31, rfl, s31⟩, m31⟩
  have h31 : More w8 w31 := h30.trans m31
  have S31 := Lib.hid s31
  clear s31 m31
  refine ⟨_, rfl, later_mk h31, hK _ _ ?_⟩
  clear hK
  repeat (first | (refine tr_skip rfl rfl (later_mk (by repeat (first | exact More.refl _ | assumption | refine More.dr ?_ _ | refine More.al ?_ _ | refine More.st ?_ (by simp) _))) ?_) | (refine tr_quiet rfl rfl (later_mk (by repeat (first | exact More.refl _ | assumption | refine More.dr ?_ _ | refine More.al ?_ _ | refine More.st ?_ (by simp) _))) ?_; intro K hK; go_big_quiet_op; go_big_quiet_on))
  (refine tr_next rfl rfl ?_; intro K hK; unfold loud; go_simp)
  refine (own08 s (SS.out.keep keepsBlk (X25.out.more.trans h31)) hs40).mono ?_
  rintro e w32 ⟨⟨v32, rfl, s32⟩, m32⟩
  have h32 : More w8 w32 := h31.trans m32
  have S32 := Lib.hid s32
  have S31' := Lib.hid (S31.out.keep keepsBlk m32)
  clear s32 m32
  refine ⟨_, rfl, later_mk h32, hK _ _ ?_⟩
  clear hK
  repeat (first | (refine tr_skip rfl rfl (later_mk (by repeat (first | exact More.refl _ | assumption | refine More.dr ?_ _ | refine More.al ?_ _ | refine More.st ?_ (by simp) _))) ?_) | (refine tr_quiet rfl rfl (later_mk (by repeat (first | exact More.refl _ | assumption | refine More.dr ?_ _ | refine More.al ?_ _ | refine More.st ?_ (by simp) _))) ?_; intro K hK; go_big_quiet_op; go_big_quiet_on))
  (refine tr_next rfl rfl ?_; intro K hK; unfold loud; go_simp)
  refine (Same08_any r s S31'.out S32.out).mono ?_
  rintro e w33 ⟨rfl, m33⟩
  rw [HQ2.out]
  have h33 : More w8 w33 := h32.trans m33
  clear m33
  refine ⟨_, rfl, later_mk h33, hK _ _ ?_⟩
  clear hK
  repeat (first | (refine tr_skip rfl rfl (later_mk (by repeat (first | exact More.refl _ | assumption | refine More.dr ?_ _ | refine More.al ?_ _ | refine More.st ?_ (by simp) _))) ?_) | (refine tr_quiet rfl rfl (later_mk (by repeat (first | exact More.refl _ | assumption | refine More.dr ?_ _ | refine More.al ?_ _ | refine More.st ?_ (by simp) _))) ?_; intro K hK; go_big_quiet_op; go_big_quiet_on))
  refine tr_done ?_
  go_wp2
  go_ret
  exact ⟨by cases q <;> rfl, X25.out.more.trans h33⟩
end Go.Proofs.Ytaobhpaabnljpaa
