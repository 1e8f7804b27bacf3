/- Feedback messages: awake. -/
import Derived.Test.YtlnikmcimmnbmaaFeedJ
import Derived.Test.YtlnikmcimmnbmaaTree
namespace Go.Proofs.Ytlnikmcimmnbmaa
set_option linter.unusedSimpArgs false
set_option linter.unusedVariables false
open Go.RowKit
set_option maxRecDepth 100000

theorem lit_u8 {x : World} {n : Nat} (l : List Int) (cs : Array Value) (N : Nat) (hcs : cs = (l.map (Value.int .u8)).toArray) (hn : n = x.heap.size) (hN : N = l.length) (hl : l.length ≤ 1000) : SlI .u8 (x.alloc (.cells cs 5)) (.slice (some ⟨n, 0, none⟩) N N) l :=
  SlI.lit .u8 x l 5 cs N n hcs hN hn hl
theorem aw9M1_ok : MsgOK (⟨3, 1, 2, [], [10, 12, 26, 27]⟩ : Msg) := ⟨by decide, by decide, fun a h => (by cases h), by decide⟩
theorem aw9M2_ok : MsgOK (⟨1, 1, 2, [], []⟩ : Msg) := ⟨by decide, by decide, fun a h => (by cases h), fun a h => (by cases h)⟩
theorem aw9M3_ok : MsgOK (⟨3, 0, 0, [], []⟩ : Msg) := ⟨by decide, by decide, fun a h => (by cases h), fun a h => (by cases h)⟩
theorem aw9W1 : writeM (⟨3, 1, 2, [], [10, 12, 26, 27]⟩ : Msg) = ((1, 205, [0, 0, 0, 1, 0, 0, 0, 2, 0, 10, 128, 2, 0, 27, 0, 0], ()), 0) := by decide +kernel
theorem aw9W2 : writeM (⟨1, 1, 2, [], []⟩ : Msg) = ((1, 206, [0, 0, 0, 1, 0, 0, 0, 2], ()), 0) := by decide +kernel
theorem aw9K1 : readM (1, 205, [0, 0, 0, 1, 0, 0, 0, 2, 0, 10, 128, 2, 0, 27, 0, 0], ()) = ((⟨3, 1, 2, [], [10, 12, 26, 27]⟩ : Msg), 0) := by decide +kernel
theorem aw9K2 : readM (0, 9, [], ()) = ((⟨0, 0, 0, [], []⟩ : Msg), 5) := by decide +kernel
theorem aw9R1 : rightM (⟨3, 1, 2, [], [10, 12, 26, 27]⟩ : Msg) = true := by decide +kernel
theorem aw9R3 : rightM (⟨3, 0, 0, [], []⟩ : Msg) = false := by decide +kernel
theorem KC1 : ChunkOK (1, 205, [0, 0, 0, 1, 0, 0, 0, 2, 0, 10, 128, 2, 0, 27, 0, 0], ()) := ⟨by decide, by decide, Byt.of_all (by decide)⟩
set_option maxHeartbeats 8000000 in
theorem awake09 (w : World) :
    Calls Try.prog 42 #[] w fun e w' => e = .returned (.bool true) ∧ More w w' := by
  have KC := KC1
  have L0 := Lib.hid (SlI.lit .u16 w [10, 12, 26, 27] 52 #[.int .u16 10, .int .u16 12, .int .u16 26, .int .u16 27] 4 w.heap.size rfl rfl rfl (by decide))
  have S0 : Hid (MsgS ((w.alloc (.cells #[.int .u16 10, .int .u16 12, .int .u16 26, .int .u16 27] 52)).alloc (.cells #[.int .i64 3, .int .u32 1, .int .u32 2, .slice none 0 0, .slice (some ⟨w.heap.size, 0, none⟩) 4 4] 85)) (.slice none 0 0) (.slice (some ⟨w.heap.size, 0, none⟩) 4 4) (⟨3, 1, 2, [], [10, 12, 26, 27]⟩ : Msg)) := Lib.hid ⟨SlP.nil _ _ _, L0.out.keep (More.alloc _ _)⟩
  have N0 := Lib.hid (blk_new2 (w := w.alloc (.cells #[.int .u16 10, .int .u16 12, .int .u16 26, .int .u16 27] 52)) (n := w.heap.size + 1) (o := (.cells #[.int .i64 3, .int .u32 1, .int .u32 2, .slice none 0 0, .slice (some ⟨w.heap.size, 0, none⟩) 4 4] 85)) (by simp))
  have M0 := Lib.hid ((More.alloc w (.cells #[.int .u16 10, .int .u16 12, .int .u16 26, .int .u16 27] 52)).al (.cells #[.int .i64 3, .int .u32 1, .int .u32 2, .slice none 0 0, .slice (some ⟨w.heap.size, 0, none⟩) 4 4] 85))
  go_enter Try.func42, Try.ntmps42
  go_wp2_with (first | (go_at_call 46; ((with_reducible refine (Write09_any (⟨3, 1, 2, [], [10, 12, 26, 27]⟩ : Msg) _ _ _ S0.out aw9M1_ok (by decide)).mono ?_); rintro e w2 ⟨v2, rfl, s2, m2⟩; rw [aw9W1]; rw [aw9W1] at s2; have S2 : Hid (SlI .u8 w2 v2 [0, 0, 0, 1, 0, 0, 0, 2, 0, 10, 128, 2, 0, 27, 0, 0]) := Lib.hid s2; obtain ⟨o2, k2, rfl, -⟩ := s2; have S2 : Hid (SlI .u8 w2 (.slice o2 16 k2) [0, 0, 0, 1, 0, 0, 0, 2, 0, 10, 128, 2, 0, 27, 0, 0]) := S2; have m2 := m2.trans (More.alloc w2 (.cells #[.int .u8 1, .int .u8 205, .slice o2 16 k2] 30)); have S2b := Lib.hid (S2.out.keep (More.alloc w2 (.cells #[.int .u8 1, .int .u8 205, .slice o2 16 k2] 30))); have ND := Lib.hid (blk_new w2 (.cells #[.int .u8 1, .int .u8 205, .slice o2 16 k2] 30)); have NM := Lib.hid (blk_more m2 N0.out); have SM := Lib.hid (S0.out.keep m2); have MM := Lib.hid (M0.out.trans m2); clear m2 S2)) | (go_at_call 44; ((with_reducible refine (Read09_any (1, 205, [0, 0, 0, 1, 0, 0, 0, 2, 0, 10, 128, 2, 0, 27, 0, 0], ()) S2b.out KC (by decide)).mono ?_); rintro e w3 ⟨⟨va3, vl3, rfl, s3⟩, m3⟩; rw [aw9K1]; rw [aw9K1] at s3; have S3 : Hid (MsgS w3 va3 vl3 (⟨3, 1, 2, [], [10, 12, 26, 27]⟩ : Msg)) := Lib.hid s3; obtain ⟨⟨oa3, ka3, rfl, -⟩, ⟨ol3, kl3, rfl, -⟩⟩ := s3; have S3 : Hid (MsgS w3 (.slice oa3 0 ka3) (.slice ol3 4 kl3) (⟨3, 1, 2, [], [10, 12, 26, 27]⟩ : Msg)) := S3; have m3 := m3.trans (More.alloc w3 (.cells #[.int .i64 3, .int .u32 1, .int .u32 2, .slice oa3 0 ka3, .slice ol3 4 kl3] 85)); have S3b := Lib.hid (S3.out.keep (More.alloc w3 (.cells #[.int .i64 3, .int .u32 1, .int .u32 2, .slice oa3 0 ka3, .slice ol3 4 kl3] 85))); have NK := Lib.hid (blk_new w3 (.cells #[.int .i64 3, .int .u32 1, .int .u32 2, .slice oa3 0 ka3, .slice ol3 4 kl3] 85)); have ND3 := Lib.hid (blk_more m3 ND.out); have NM3 := Lib.hid (blk_more m3 NM.out); have SM3 := Lib.hid (SM.out.keep m3); have SD3 := Lib.hid (S2b.out.keep m3); have MM3 := Lib.hid (MM.out.trans m3); clear m3 S3)) | (go_at_call 46; ((with_reducible refine (Write09_any (⟨1, 1, 2, [], []⟩ : Msg) (.slice none 0 0) (.slice none 0 0) _ ⟨SlP.nil _ _ _, SlI.nil _ _⟩ aw9M2_ok (by decide)).mono ?_); rintro e w4 ⟨v4, rfl, s4, m4⟩; rw [aw9W2]; rw [aw9W2] at s4; have S4 : Hid (SlI .u8 w4 v4 [0, 0, 0, 1, 0, 0, 0, 2]) := Lib.hid s4; obtain ⟨o4, k4, rfl, -⟩ := s4; have m4 := m4.trans (More.alloc w4 (.cells #[.int .u8 1, .int .u8 206, .slice o4 8 k4] 30)); have NP := Lib.hid (blk_new w4 (.cells #[.int .u8 1, .int .u8 206, .slice o4 8 k4] 30)); have S3c := Lib.hid (S3b.out.keep m4); have NK4 := Lib.hid (blk_more m4 NK.out); have ND4 := Lib.hid (blk_more m4 ND3.out); have NM4 := Lib.hid (blk_more m4 NM3.out); have SM4 := Lib.hid (SM3.out.keep m4); have SD4 := Lib.hid (SD3.out.keep m4); have MM4 := Lib.hid (MM3.out.trans m4); clear m4 S4)) | (go_at_call 44; ((with_reducible refine (Read09_any (0, 9, [], ()) (vb := .slice none 0 0) (SlI.nil _ _) ⟨by decide, by decide, byt_nil⟩ (by decide)).mono ?_); rintro e w5 ⟨⟨va5, vl5, rfl, s5⟩, m5⟩; rw [aw9K2]; rw [aw9K2] at s5; obtain ⟨⟨oa5, ka5, rfl, -⟩, ⟨ol5, kl5, rfl, -⟩⟩ := s5; have m5 := m5.trans (More.alloc w5 (.cells #[.int .i64 0, .int .u32 0, .int .u32 0, .slice oa5 0 ka5, .slice ol5 0 kl5] 85)); have NP5 := Lib.hid (blk_more m5 NP.out); have SK := Lib.hid (S3c.out.keep m5); have NK5 := Lib.hid (blk_more m5 NK4.out); have ND5 := Lib.hid (blk_more m5 ND4.out); have NM5 := Lib.hid (blk_more m5 NM4.out); have SM5 := Lib.hid (SM4.out.keep m5); have SD := Lib.hid (SD4.out.keep m5); have MM5 := Lib.hid (MM4.out.trans m5); clear m5)))
  clear NM NM3 NM4 ND ND3 ND4 NK NK4 NP SM SM3 SM4 SD3 SD4 S2b S3b S3c MM MM3 MM4 L0 S0 N0 M0
  have SM := SM5
  clear SM5
  generalize hw6 : w5.alloc (.cells #[.int .i64 0, .int .u32 0, .int .u32 0, .slice oa5 0 ka5, .slice ol5 0 kl5] 85) = w6 at *
  clear hw6
  have cD0 : ∀ x : Later w6, x.w'.cell? ⟨w2.heap.size, 0, none⟩ = some (.int .u8 1) := fun x => blk_cell (blk_more x.h ND5.out) 0 rfl
  have cD1 : ∀ x : Later w6, x.w'.cell? ⟨w2.heap.size, 1, none⟩ = some (.int .u8 205) := fun x => blk_cell (blk_more x.h ND5.out) 1 rfl
  have cD2 : ∀ x : Later w6, x.w'.cell? ⟨w2.heap.size, 2, none⟩ = some (.slice o2 16 k2) := fun x => blk_cell (blk_more x.h ND5.out) 2 rfl
  have cM0 : ∀ x : Later w6, x.w'.cell? ⟨w.heap.size + 1, 0, none⟩ = some (.int .i64 3) := fun x => blk_cell (blk_more x.h NM5.out) 0 rfl
  have cM1 : ∀ x : Later w6, x.w'.cell? ⟨w.heap.size + 1, 1, none⟩ = some (.int .u32 1) := fun x => blk_cell (blk_more x.h NM5.out) 1 rfl
  have cM2 : ∀ x : Later w6, x.w'.cell? ⟨w.heap.size + 1, 2, none⟩ = some (.int .u32 2) := fun x => blk_cell (blk_more x.h NM5.out) 2 rfl
  have cM3 : ∀ x : Later w6, x.w'.cell? ⟨w.heap.size + 1, 3, none⟩ = some (.slice none 0 0) := fun x => blk_cell (blk_more x.h NM5.out) 3 rfl
  have cM4 : ∀ x : Later w6, x.w'.cell? ⟨w.heap.size + 1, 4, none⟩ = some (.slice (some ⟨w.heap.size, 0, none⟩) 4 4) := fun x => blk_cell (blk_more x.h NM5.out) 4 rfl
  have cK0 : ∀ x : Later w6, x.w'.cell? ⟨w3.heap.size, 0, none⟩ = some (.int .i64 3) := fun x => blk_cell (blk_more x.h NK5.out) 0 rfl
  have cK1 : ∀ x : Later w6, x.w'.cell? ⟨w3.heap.size, 1, none⟩ = some (.int .u32 1) := fun x => blk_cell (blk_more x.h NK5.out) 1 rfl
  have cK2 : ∀ x : Later w6, x.w'.cell? ⟨w3.heap.size, 2, none⟩ = some (.int .u32 2) := fun x => blk_cell (blk_more x.h NK5.out) 2 rfl
  have cK3 : ∀ x : Later w6, x.w'.cell? ⟨w3.heap.size, 3, none⟩ = some (.slice oa3 0 ka3) := fun x => blk_cell (blk_more x.h NK5.out) 3 rfl
  have cK4 : ∀ x : Later w6, x.w'.cell? ⟨w3.heap.size, 4, none⟩ = some (.slice ol3 4 kl3) := fun x => blk_cell (blk_more x.h NK5.out) 4 rfl
  have cP0 : ∀ x : Later w6, x.w'.cell? ⟨w4.heap.size, 0, none⟩ = some (.int .u8 1) := fun x => blk_cell (blk_more x.h NP5.out) 0 rfl
  have cP1 : ∀ x : Later w6, x.w'.cell? ⟨w4.heap.size, 1, none⟩ = some (.int .u8 206) := fun x => blk_cell (blk_more x.h NP5.out) 1 rfl
  have cP2 : ∀ x : Later w6, x.w'.cell? ⟨w4.heap.size, 2, none⟩ = some (.slice o4 8 k4) := fun x => blk_cell (blk_more x.h NP5.out) 2 rfl
  clear NP5 NK5 ND5 NM5
  refine wp_region_trL w6 53 (.op 0 false (.op 1 true (.op 2 false (.op 3 true (.op 4 false (.op 5 false (.op 6 false (.op 7 false (.op 8 false (.op 9 false (.op 10 false (.op 11 false (.op 12 false (.op 13 false (.op 15 false (.op 14 true (.op 16 true (.op 17 true (.op 18 false (.op 19 false (.op 20 false (.op 21 false (.op 22 false (.op 23 false (.op 24 false (.op 25 false (.op 26 false (.op 27 false (.op 28 false (.op 29 false (.op 30 false (.op 31 false (.op 32 false (.op 33 false (.op 34 false (.op 35 false (.op 36 false (.op 37 false (.op 38 false (.op 39 false (.op 40 false (.op 41 false (.op 42 false (.op 43 false (.op 44 false (.op 45 true (.op 46 false (.op 47 false (.op 48 false (.op 49 true (.op 50 false (.op 51 false (.op 52 false (.done)))))))))))))))))))))))))))))))))))))))))))))))))))))) (by kernel_rfl) (by kernel_rfl) ?_
  repeat (first | (refine tr_skip rfl rfl (later_mk (More.drewN w6 1)) ?_) | (refine tr_quiet rfl rfl (later_mk (More.drewN w6 1)) ?_; intro K hK; go_big_quiet_op; go_big_quiet_on))
  (refine tr_next rfl rfl ?_; intro K hK; unfold loud; go_simp)
  refine ⟨later_mk ((More.drewN w6 1).al _), hK _ _ ?_⟩
  clear hK K
  repeat (first | (refine tr_skip rfl rfl (later_mk ((More.drewN w6 1).al (.cells #[.int .u8 0, .int .u8 0, .int .u8 0, .int .u8 1, .int .u8 0, .int .u8 0, .int .u8 0, .int .u8 2, .int .u8 0, .int .u8 10, .int .u8 128, .int .u8 2, .int .u8 0, .int .u8 27, .int .u8 0, .int .u8 0] 5))) ?_) | (refine tr_quiet rfl rfl (later_mk ((More.drewN w6 1).al (.cells #[.int .u8 0, .int .u8 0, .int .u8 0, .int .u8 1, .int .u8 0, .int .u8 0, .int .u8 0, .int .u8 2, .int .u8 0, .int .u8 10, .int .u8 128, .int .u8 2, .int .u8 0, .int .u8 27, .int .u8 0, .int .u8 0] 5))) ?_; intro K hK; go_big_quiet_op; go_big_quiet_on))
  (refine tr_next rfl rfl ?_; intro K hK; unfold loud; go_simp)
  (with_reducible refine (same09 (1, 205, [0, 0, 0, 1, 0, 0, 0, 2, 0, 10, 128, 2, 0, 27, 0, 0], ()) (1, 205, [0, 0, 0, 1, 0, 0, 0, 2, 0, 10, 128, 2, 0, 27, 0, 0], ()) (SD.out.keep ((More.drewN w6 1).al (.cells #[.int .u8 0, .int .u8 0, .int .u8 0, .int .u8 1, .int .u8 0, .int .u8 0, .int .u8 0, .int .u8 2, .int .u8 0, .int .u8 10, .int .u8 128, .int .u8 2, .int .u8 0, .int .u8 27, .int .u8 0, .int .u8 0] 5))) ((lit_u8 (x := w6.drewN 1) (n := w6.heap.size) [0, 0, 0, 1, 0, 0, 0, 2, 0, 10, 128, 2, 0, 27, 0, 0] _ 16 rfl rfl rfl (by decide))) KC KC).mono ?_)
  rintro e w10 ⟨rfl, m_w10⟩
  rw [decide_eq_true rfl]
  have h_w10 : More w6 w10 := More.trans ((More.drewN w6 1).al (.cells #[.int .u8 0, .int .u8 0, .int .u8 0, .int .u8 1, .int .u8 0, .int .u8 0, .int .u8 0, .int .u8 2, .int .u8 0, .int .u8 10, .int .u8 128, .int .u8 2, .int .u8 0, .int .u8 27, .int .u8 0, .int .u8 0] 5)) m_w10
  clear m_w10
  refine ⟨_, rfl, later_mk h_w10, hK _ _ ?_⟩
  clear hK K
  repeat (first | (refine tr_skip rfl rfl (later_mk h_w10) ?_) | (refine tr_quiet rfl rfl (later_mk h_w10) ?_; intro K hK; go_big_quiet_op; go_big_quiet_on))
  (refine tr_next rfl rfl ?_; intro K hK; unfold loud; go_simp)
  (with_reducible refine (own09 (⟨3, 1, 2, [], [10, 12, 26, 27]⟩ : Msg) (SK.out.keep h_w10) (by decide)).mono ?_)
  rintro e w11 ⟨⟨v11, rfl, s11⟩, m_w11⟩
  have S11 := Lib.hid s11
  clear s11
  have h_w11 : More w6 w11 := More.trans h_w10 m_w11
  clear m_w11
  refine ⟨_, rfl, later_mk h_w11, hK _ _ ?_⟩
  clear hK K
  repeat (first | (refine tr_skip rfl rfl (later_mk h_w11) ?_) | (refine tr_quiet rfl rfl (later_mk h_w11) ?_; intro K hK; go_big_quiet_op; go_big_quiet_on))
  (refine tr_next rfl rfl ?_; intro K hK; unfold loud; go_simp)
  (with_reducible refine (own09 (⟨3, 1, 2, [], [10, 12, 26, 27]⟩ : Msg) (SM.out.keep h_w11) (by decide)).mono ?_)
  rintro e w12 ⟨⟨v12, rfl, s12⟩, m_w12⟩
  have S12 := Lib.hid s12
  have S11b := Lib.hid (S11.out.keep m_w12)
  clear s12 S11
  have h_w12 : More w6 w12 := More.trans h_w11 m_w12
  clear m_w12
  refine ⟨_, rfl, later_mk h_w12, hK _ _ ?_⟩
  clear hK K
  repeat (first | (refine tr_skip rfl rfl (later_mk h_w12) ?_) | (refine tr_quiet rfl rfl (later_mk h_w12) ?_; intro K hK; go_big_quiet_op; go_big_quiet_on))
  (refine tr_next rfl rfl ?_; intro K hK; unfold loud; go_simp)
  (with_reducible refine (Same09_any (⟨3, 1, 2, [], [10, 12, 26, 27]⟩ : Msg) (⟨3, 1, 2, [], [10, 12, 26, 27]⟩ : Msg) S11b.out S12.out).mono ?_)
  rintro e w13 ⟨rfl, m_w13⟩
  rw [decide_eq_true rfl]
  have h_w13 : More w6 w13 := More.trans h_w12 m_w13
  clear m_w13
  refine ⟨_, rfl, later_mk h_w13, hK _ _ ?_⟩
  clear hK K
  repeat (first | (refine tr_skip rfl rfl (later_mk h_w13) ?_) | (refine tr_quiet rfl rfl (later_mk h_w13) ?_; intro K hK; go_big_quiet_op; go_big_quiet_on))
  (refine tr_next rfl rfl ?_; intro K hK; unfold loud; go_simp)
  (with_reducible refine (Right09_any (⟨3, 1, 2, [], [10, 12, 26, 27]⟩ : Msg) _ _ _ (SM.out.keep h_w13) aw9M1_ok (by decide)).mono ?_)
  rintro e w14 ⟨rfl, m_w14⟩
  rw [aw9R1]
  have h_w14 : More w6 w14 := More.trans h_w13 m_w14
  clear m_w14
  refine ⟨_, rfl, later_mk h_w14, hK _ _ ?_⟩
  clear hK K
  repeat (first | (refine tr_skip rfl rfl (later_mk h_w14) ?_) | (refine tr_quiet rfl rfl (later_mk h_w14) ?_; intro K hK; go_big_quiet_op; go_big_quiet_on))
  (refine tr_next rfl rfl ?_; intro K hK; unfold loud; go_simp)
  (with_reducible refine (Right09_any (⟨3, 0, 0, [], []⟩ : Msg) _ _ _ ⟨SlP.nil _ _ _, SlI.nil _ _⟩ aw9M3_ok (by decide)).mono ?_)
  rintro e w15 ⟨rfl, m_w15⟩
  rw [aw9R3]
  have h_w15 : More w6 w15 := More.trans h_w14 m_w15
  clear m_w15
  refine ⟨_, rfl, later_mk h_w15, hK _ _ ?_⟩
  clear hK K
  repeat (first | (refine tr_skip rfl rfl (later_mk h_w15) ?_) | (refine tr_quiet rfl rfl (later_mk h_w15) ?_; intro K hK; go_big_quiet_op; go_big_quiet_on))
  refine tr_done ?_
  go_wp2
  go_ret
  exact ⟨rfl, MM5.out.trans h_w15⟩
end Go.Proofs.Ytlnikmcimmnbmaa
