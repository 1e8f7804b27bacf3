/- Packets: the law's awake. -/
import Derived.Test.YtlnikmcimmnbmaaHeadE
import Derived.Test.YtlnikmcimmnbmaaHeadB
namespace Go.Proofs.Ytlnikmcimmnbmaa
set_option linter.unusedSimpArgs false
set_option linter.unusedVariables false
open Go.RowKit
set_option maxRecDepth 100000

abbrev pkA : Pk := ⟨false, 96, 258, 1, 2, [], false, 0, [], [7]⟩
theorem aw04_ok : PkOK pkA := ⟨by decide, by decide, by decide, by decide, fun i => by simp [U32], by decide, byt_nil, Byt.of_all (by decide)⟩
theorem aw04_1 : rightH pkA = true := by decide
theorem aw04_2 : pkB pkA = [128, 96, 1, 2, 0, 0, 0, 1, 0, 0, 0, 2, 7] := by decide
theorem aw04_3 : readH [128, 96, 1, 2, 0, 0, 0, 1, 0, 0, 0, 2, 7] = (pkA, 0) := by
  have h := read_pre aw04_1 aw04_ok [7] (by decide)
  have e : preB pkA ++ [7] = [128, 96, 1, 2, 0, 0, 0, 1, 0, 0, 0, 2, 7] := by decide
  rw [e] at h
  exact h
theorem aw04_4 : readH [] = (pk0, 3) := by rfl
theorem aw04_5 : rightH ⟨false, 0, 0, 0, 0, [], false, 1, [], []⟩ = false := by decide
theorem aw04_6 : ctlH [0, 200] = true := by decide
theorem aw04_7 : ctlH [128, 96, 1, 2, 0, 0, 0, 1, 0, 0, 0, 2, 7] = false := by decide
theorem ReadH_any (v : Value) (b : List Int) (w : World) (sl : SlI .u8 w v b) (hb : Byt b) :
    Calls Try.prog 30 #[v] w (ReadPost (readH b) w) := by
  by_cases hl : (200 : Int) < b.length
  · exact ReadH_long v b w sl hl
  · exact ReadH_short v b w sl hb hl
theorem PkS.three {w : World} {vs ve vp : Value} {p : Pk} (h : PkS w vs ve vp p) (a b c : Nat) (ha : p.ss.length = a) (hb : p.ex.length = b) (hc : p.pl.length = c) : (∃ o k, vs = .slice o a k) ∧ (∃ o k, ve = .slice o b k) ∧ (∃ o k, vp = .slice o c k) := by
  subst ha hb hc
  obtain ⟨⟨os, ks, rfl, -⟩, ⟨oe, ke, rfl, -⟩, ⟨ol, kl, rfl, -⟩⟩ := h
  exact ⟨⟨_, _, rfl⟩, ⟨_, _, rfl⟩, ⟨_, _, rfl⟩⟩
theorem aw04_s (w : World) : PkS ((w.alloc (.cells #[.int .u8 7] 5)).alloc (.cells #[.bool false, .int .u8 96, .int .u16 258, .int .u32 1, .int .u32 2, .slice none 0 0, .bool false, .int .u16 0, .slice none 0 0, .slice (some ⟨w.heap.size, 0, none⟩) 1 1] 57)) (.slice none 0 0) (.slice none 0 0) (.slice (some ⟨w.heap.size, 0, none⟩) 1 1) pkA :=
  ⟨SlI.nil _ _, SlI.nil _ _, (SlI.lit .u8 w [7] 5 _ 1 w.heap.size (by simp) rfl rfl (by simp)).keep (More.alloc _ _)⟩
set_option maxHeartbeats 8000000 in
theorem awake04 (w : World) : Calls Try.prog 25 #[] w fun e w' => e = .returned (.bool true) ∧ More w w' := by
  have m1 := Lib.hid ((More.alloc w (.cells #[.int .u8 7] 5)).al (.cells #[.bool false, .int .u8 96, .int .u16 258, .int .u32 1, .int .u32 2, .slice none 0 0, .bool false, .int .u16 0, .slice none 0 0, .slice (some ⟨w.heap.size, 0, none⟩) 1 1] 57))
  have hb1 : Hid (((w.alloc (.cells #[.int .u8 7] 5)).alloc (.cells #[.bool false, .int .u8 96, .int .u16 258, .int .u32 1, .int .u32 2, .slice none 0 0, .bool false, .int .u16 0, .slice none 0 0, .slice (some ⟨w.heap.size, 0, none⟩) 1 1] 57)).heap[w.heap.size + 1]? = some (.cells #[.bool false, .int .u8 96, .int .u16 258, .int .u32 1, .int .u32 2, .slice none 0 0, .bool false, .int .u16 0, .slice none 0 0, .slice (some ⟨w.heap.size, 0, none⟩) 1 1] 57)) := Lib.hid (blk_new2 (by simp))
  go_enter Try.func25, Try.ntmps25
  go_wp2_with (first | (go_at_call 27; ((with_reducible refine (BytesH_yes pkA _ _ _ _ (aw04_s w) aw04_ok aw04_1).mono ?_); rintro e w2 ⟨⟨v2, rfl, ho⟩, m2⟩; rw [aw04_2] at ho; have s2 := SlI.of_owns ho (by simp); obtain ⟨o2, n2, c2, rfl, hn2, _⟩ := slice_of_row ho; have hn3 : n2 = 13 := hn2; clear hn2; subst n2; have S2 : Hid (SlI .u8 w2 (.slice o2 13 c2) [128, 96, 1, 2, 0, 0, 0, 1, 0, 0, 0, 2, 7]) := Lib.hid s2; clear s2; have B2 := Lib.hid (blk_more m2 hb1.out); have PS2 := Lib.hid ((aw04_s w).keep m2); have M2 := Lib.hid (m1.out.trans m2); clear ho m2)) | (go_at_call 30; ((with_reducible refine (ReadH_any (.slice o2 13 c2) _ w2 S2.out (Byt.of_all (by decide))).mono ?_); rintro e w3 ⟨va, vb, vc, he, ps, m3⟩; rw [aw04_3] at he ps; obtain rfl := he; obtain ⟨⟨oa, ka, rfl⟩, ⟨ob, kb, rfl⟩, ⟨oc, kc, rfl⟩⟩ := PkS.three ps 0 0 1 rfl rfl rfl; have PS3 : Hid (PkS w3 (.slice oa 0 ka) (.slice ob 0 kb) (.slice oc 1 kc) pkA) := Lib.hid ps; have S3 := Lib.hid (S2.out.keep m3); have B3 := Lib.hid (blk_more m3 B2.out); have PT3 := Lib.hid (PS2.out.keep m3); have M3 := Lib.hid (M2.out.trans m3); clear m3 ps)) | (go_at_call 30; ((with_reducible refine (ReadH_any (.slice none 0 0) [] _ (SlI.nil _ _) byt_nil).mono ?_); rintro e w4 ⟨vd, ve, vf, he, ps4, m4⟩; rw [aw04_4] at he ps4; obtain rfl := he; obtain ⟨⟨od, kd, rfl⟩, ⟨oe, ke, rfl⟩, ⟨of, kf, rfl⟩⟩ := PkS.three ps4 0 0 0 rfl rfl rfl; have X4 := Lib.hid (blk_more m4 (blk_new w3 (.cells #[.bool false, .int .u8 96, .int .u16 258, .int .u32 1, .int .u32 2, .slice oa 0 ka, .bool false, .int .u16 0, .slice ob 0 kb, .slice oc 1 kc] 57))); have q3 := (More.alloc w3 (.cells #[.bool false, .int .u8 96, .int .u16 258, .int .u32 1, .int .u32 2, .slice oa 0 ka, .bool false, .int .u16 0, .slice ob 0 kb, .slice oc 1 kc] 57)).trans m4; have S4 := Lib.hid (S3.out.keep q3); have B4 := Lib.hid (blk_more q3 B3.out); have PT4 := Lib.hid (PT3.out.keep q3); have PS4 := Lib.hid (PS3.out.keep q3); have M4 := Lib.hid (M3.out.trans q3); clear m4 ps4 q3)))
  have m6 := More.alloc w4 (.cells #[.bool pk0.mr, .int .u8 pk0.ty, .int .u16 pk0.sq, .int .u32 pk0.st, .int .u32 pk0.sc, .slice od 0 kd, .bool pk0.has, .int .u16 pk0.pr, .slice oe 0 ke, .slice of 0 kf] 57)
  have B6 := Lib.hid (blk_more m6 B4.out)
  have X6 := Lib.hid (blk_more m6 X4.out)
  have S6 := Lib.hid (S4.out.keep m6)
  have PT6 := Lib.hid (PT4.out.keep m6)
  have PS6 := Lib.hid (PS4.out.keep m6)
  have M6 := Lib.hid (M4.out.trans m6)
  clear m6 B4 X4 S4 PT4 PS4 M4 S3 B3 PT3 PS3 M3 S2 B2 PS2 M2 m1 hb1
  generalize w4.alloc (.cells #[.bool pk0.mr, .int .u8 pk0.ty, .int .u16 pk0.sq, .int .u32 pk0.st, .int .u32 pk0.sc, .slice od 0 kd, .bool pk0.has, .int .u16 pk0.pr, .slice oe 0 ke, .slice of 0 kf] 57) = w6 at *
  have e0 : ∀ x : Later w6, x.w'.cell? ⟨w.heap.size + 1, 0, none⟩ = some (.bool false) := fun x => blk_cell (blk_more x.h B6.out) 0 rfl
  have e1 : ∀ x : Later w6, x.w'.cell? ⟨w.heap.size + 1, 1, none⟩ = some (.int .u8 96) := fun x => blk_cell (blk_more x.h B6.out) 1 rfl
  have e2 : ∀ x : Later w6, x.w'.cell? ⟨w.heap.size + 1, 2, none⟩ = some (.int .u16 258) := fun x => blk_cell (blk_more x.h B6.out) 2 rfl
  have e3 : ∀ x : Later w6, x.w'.cell? ⟨w.heap.size + 1, 3, none⟩ = some (.int .u32 1) := fun x => blk_cell (blk_more x.h B6.out) 3 rfl
  have e4 : ∀ x : Later w6, x.w'.cell? ⟨w.heap.size + 1, 4, none⟩ = some (.int .u32 2) := fun x => blk_cell (blk_more x.h B6.out) 4 rfl
  have e5 : ∀ x : Later w6, x.w'.cell? ⟨w.heap.size + 1, 5, none⟩ = some (.slice none 0 0) := fun x => blk_cell (blk_more x.h B6.out) 5 rfl
  have e6 : ∀ x : Later w6, x.w'.cell? ⟨w.heap.size + 1, 6, none⟩ = some (.bool false) := fun x => blk_cell (blk_more x.h B6.out) 6 rfl
  have e7 : ∀ x : Later w6, x.w'.cell? ⟨w.heap.size + 1, 7, none⟩ = some (.int .u16 0) := fun x => blk_cell (blk_more x.h B6.out) 7 rfl
  have e8 : ∀ x : Later w6, x.w'.cell? ⟨w.heap.size + 1, 8, none⟩ = some (.slice none 0 0) := fun x => blk_cell (blk_more x.h B6.out) 8 rfl
  have e9 : ∀ x : Later w6, x.w'.cell? ⟨w.heap.size + 1, 9, none⟩ = some (.slice (some ⟨w.heap.size, 0, none⟩) 1 1) := fun x => blk_cell (blk_more x.h B6.out) 9 rfl
  have f0 : ∀ x : Later w6, x.w'.cell? ⟨w3.heap.size, 0, none⟩ = some (.bool false) := fun x => blk_cell (blk_more x.h X6.out) 0 rfl
  have f1 : ∀ x : Later w6, x.w'.cell? ⟨w3.heap.size, 1, none⟩ = some (.int .u8 96) := fun x => blk_cell (blk_more x.h X6.out) 1 rfl
  have f2 : ∀ x : Later w6, x.w'.cell? ⟨w3.heap.size, 2, none⟩ = some (.int .u16 258) := fun x => blk_cell (blk_more x.h X6.out) 2 rfl
  have f3 : ∀ x : Later w6, x.w'.cell? ⟨w3.heap.size, 3, none⟩ = some (.int .u32 1) := fun x => blk_cell (blk_more x.h X6.out) 3 rfl
  have f4 : ∀ x : Later w6, x.w'.cell? ⟨w3.heap.size, 4, none⟩ = some (.int .u32 2) := fun x => blk_cell (blk_more x.h X6.out) 4 rfl
  have f5 : ∀ x : Later w6, x.w'.cell? ⟨w3.heap.size, 5, none⟩ = some (.slice oa 0 ka) := fun x => blk_cell (blk_more x.h X6.out) 5 rfl
  have f6 : ∀ x : Later w6, x.w'.cell? ⟨w3.heap.size, 6, none⟩ = some (.bool false) := fun x => blk_cell (blk_more x.h X6.out) 6 rfl
  have f7 : ∀ x : Later w6, x.w'.cell? ⟨w3.heap.size, 7, none⟩ = some (.int .u16 0) := fun x => blk_cell (blk_more x.h X6.out) 7 rfl
  have f8 : ∀ x : Later w6, x.w'.cell? ⟨w3.heap.size, 8, none⟩ = some (.slice ob 0 kb) := fun x => blk_cell (blk_more x.h X6.out) 8 rfl
  have f9 : ∀ x : Later w6, x.w'.cell? ⟨w3.heap.size, 9, none⟩ = some (.slice oc 1 kc) := fun x => blk_cell (blk_more x.h X6.out) 9 rfl
  refine wp_region_trL w6 41 (.op 0 false (.op 1 true (.op 2 true (.op 3 false (.op 4 false (.op 5 false (.op 6 false (.op 7 false (.op 8 false (.op 9 false (.op 10 false (.op 11 false (.op 12 false (.op 14 false (.op 13 true (.op 15 true (.op 16 true (.op 17 false (.op 18 false (.op 19 false (.op 20 false (.op 21 false (.op 22 false (.op 23 false (.op 24 true (.op 25 false (.op 26 false (.op 27 false (.op 28 true (.op 29 false (.op 30 false (.op 31 false (.op 32 true (.op 33 true (.op 34 false (.op 35 false (.op 36 false (.op 37 true (.op 38 false (.op 39 false (.op 40 false (.done)))))))))))))))))))))))))))))))))))))))))) (by kernel_rfl) (by kernel_rfl) ?_
  repeat (first | (refine tr_skip rfl rfl (later_mk (by repeat (first | exact More.refl _ | assumption | refine More.dr ?_ _ | refine More.al ?_ _ | refine More.st ?_ (by simp) _))) ?_) | (refine tr_quiet rfl rfl (later_mk (by repeat (first | exact More.refl _ | assumption | refine More.dr ?_ _ | refine More.al ?_ _ | refine More.st ?_ (by simp) _))) ?_; intro K hK; go_big_quiet_op; go_big_quiet_on))
  (refine tr_next rfl rfl ?_; intro K hK; unfold loud; go_simp)
  refine ⟨later_mk (by repeat (first | exact More.refl _ | assumption | refine More.dr ?_ _ | refine More.al ?_ _ | refine More.st ?_ (by simp) _)), hK _ _ ?_⟩
  clear hK K
  repeat (first | (refine tr_skip rfl rfl (later_mk (by repeat (first | exact More.refl _ | assumption | refine More.dr ?_ _ | refine More.al ?_ _ | refine More.st ?_ (by simp) _))) ?_) | (refine tr_quiet rfl rfl (later_mk (by repeat (first | exact More.refl _ | assumption | refine More.dr ?_ _ | refine More.al ?_ _ | refine More.st ?_ (by simp) _))) ?_; intro K hK; go_big_quiet_op; go_big_quiet_on))
  (refine tr_next rfl rfl ?_; intro K hK; unfold loud; go_simp)
  refine (Same_any [128, 96, 1, 2, 0, 0, 0, 1, 0, 0, 0, 2, 7] [128, 96, 1, 2, 0, 0, 0, 1, 0, 0, 0, 2, 7] _ _ _ (S6.out.keep (show More w6 _ from (by repeat (first | exact More.refl _ | assumption | refine More.dr ?_ _ | refine More.al ?_ _ | refine More.st ?_ (by simp) _)))) (SlI.lit .u8 _ [128, 96, 1, 2, 0, 0, 0, 1, 0, 0, 0, 2, 7] 5 _ 13 w6.heap.size (by simp) rfl (by simp) (by simp))).mono ?_
  rintro e w7 ⟨rfl, k7, q7⟩
  rw [decide_eq_true rfl]
  have h7 : More w6 w7 := by rw [q7]; exact (by repeat (first | exact More.refl _ | assumption | refine More.dr ?_ _ | refine More.al ?_ _ | refine More.st ?_ (by simp) _))
  clear q7
  refine ⟨_, rfl, later_mk h7, hK _ _ ?_⟩
  clear hK K
  repeat (first | (refine tr_skip rfl rfl (later_mk (by repeat (first | exact More.refl _ | assumption | refine More.dr ?_ _ | refine More.al ?_ _ | refine More.st ?_ (by simp) _))) ?_) | (refine tr_quiet rfl rfl (later_mk (by repeat (first | exact More.refl _ | assumption | refine More.dr ?_ _ | refine More.al ?_ _ | refine More.st ?_ (by simp) _))) ?_; intro K hK; go_big_quiet_op; go_big_quiet_on))
  (refine tr_next rfl rfl ?_; intro K hK; unfold loud; go_simp)
  refine (own04 pkA _ _ _ _ (PT6.out.keep h7)).mono ?_
  rintro e w8 ⟨rfl, m8⟩
  have h8 := h7.trans m8
  clear m8
  refine ⟨_, rfl, later_mk h8, hK _ _ ?_⟩
  clear hK K
  repeat (first | (refine tr_skip rfl rfl (later_mk (by repeat (first | exact More.refl _ | assumption | refine More.dr ?_ _ | refine More.al ?_ _ | refine More.st ?_ (by simp) _))) ?_) | (refine tr_quiet rfl rfl (later_mk (by repeat (first | exact More.refl _ | assumption | refine More.dr ?_ _ | refine More.al ?_ _ | refine More.st ?_ (by simp) _))) ?_; intro K hK; go_big_quiet_op; go_big_quiet_on))
  (refine tr_next rfl rfl ?_; intro K hK; unfold loud; go_simp)
  refine (own04 pkA _ _ _ _ (PS6.out.keep h8)).mono ?_
  rintro e w9 ⟨rfl, m9⟩
  have h9 := h8.trans m9
  clear m9
  refine ⟨_, rfl, later_mk h9, hK _ _ ?_⟩
  clear hK K
  repeat (first | (refine tr_skip rfl rfl (later_mk (by repeat (first | exact More.refl _ | assumption | refine More.dr ?_ _ | refine More.al ?_ _ | refine More.st ?_ (by simp) _))) ?_) | (refine tr_quiet rfl rfl (later_mk (by repeat (first | exact More.refl _ | assumption | refine More.dr ?_ _ | refine More.al ?_ _ | refine More.st ?_ (by simp) _))) ?_; intro K hK; go_big_quiet_op; go_big_quiet_on))
  (refine tr_next rfl rfl ?_; intro K hK; unfold loud; go_simp)
  refine (Same04_eq pkA _ _ _ _ _ _ _ (PT6.out.keep h9) (PS6.out.keep h9)).mono ?_
  rintro e w10 ⟨rfl, m10⟩
  have h10 := h9.trans m10
  clear m10
  refine ⟨_, rfl, later_mk h10, hK _ _ ?_⟩
  clear hK K
  repeat (first | (refine tr_skip rfl rfl (later_mk (by repeat (first | exact More.refl _ | assumption | refine More.dr ?_ _ | refine More.al ?_ _ | refine More.st ?_ (by simp) _))) ?_) | (refine tr_quiet rfl rfl (later_mk (by repeat (first | exact More.refl _ | assumption | refine More.dr ?_ _ | refine More.al ?_ _ | refine More.st ?_ (by simp) _))) ?_; intro K hK; go_big_quiet_op; go_big_quiet_on))
  (refine tr_next rfl rfl ?_; intro K hK; unfold loud; go_simp)
  refine (RightH_any pkA _ _ _ _ (PT6.out.keep h10) ⟨by decide, by decide, by decide⟩).mono ?_
  rintro e w11 ⟨rfl, m11⟩
  rw [aw04_1]
  have h11 := h10.trans m11
  clear m11
  refine ⟨_, rfl, later_mk h11, hK _ _ ?_⟩
  clear hK K
  repeat (first | (refine tr_skip rfl rfl (later_mk (by repeat (first | exact More.refl _ | assumption | refine More.dr ?_ _ | refine More.al ?_ _ | refine More.st ?_ (by simp) _))) ?_) | (refine tr_quiet rfl rfl (later_mk (by repeat (first | exact More.refl _ | assumption | refine More.dr ?_ _ | refine More.al ?_ _ | refine More.st ?_ (by simp) _))) ?_; intro K hK; go_big_quiet_op; go_big_quiet_on))
  (refine tr_next rfl rfl ?_; intro K hK; unfold loud; go_simp)
  refine (RightH_any ⟨false, 0, 0, 0, 0, [], false, 1, [], []⟩ _ _ _ _ ⟨SlI.nil _ _, SlI.nil _ _, SlI.nil _ _⟩ ⟨by decide, by decide, by decide⟩).mono ?_
  rintro e w12 ⟨rfl, m12⟩
  rw [aw04_5]
  have h12 := h11.trans m12
  clear m12
  refine ⟨_, rfl, later_mk h12, hK _ _ ?_⟩
  clear hK K
  repeat (first | (refine tr_skip rfl rfl (later_mk (by repeat (first | exact More.refl _ | assumption | refine More.dr ?_ _ | refine More.al ?_ _ | refine More.st ?_ (by simp) _))) ?_) | (refine tr_quiet rfl rfl (later_mk (by repeat (first | exact More.refl _ | assumption | refine More.dr ?_ _ | refine More.al ?_ _ | refine More.st ?_ (by simp) _))) ?_; intro K hK; go_big_quiet_op; go_big_quiet_on))
  (refine tr_next rfl rfl ?_; intro K hK; unfold loud; go_simp)
  have h13 := h12.al (.cells #[.int .u8 0, .int .u8 200] 5)
  refine ⟨later_mk h13, hK _ _ ?_⟩
  clear hK K
  repeat (first | (refine tr_skip rfl rfl (later_mk (by repeat (first | exact More.refl _ | assumption | refine More.dr ?_ _ | refine More.al ?_ _ | refine More.st ?_ (by simp) _))) ?_) | (refine tr_quiet rfl rfl (later_mk (by repeat (first | exact More.refl _ | assumption | refine More.dr ?_ _ | refine More.al ?_ _ | refine More.st ?_ (by simp) _))) ?_; intro K hK; go_big_quiet_op; go_big_quiet_on))
  (refine tr_next rfl rfl ?_; intro K hK; unfold loud; go_simp)
  refine (CtlH_any _ [0, 200] _ (SlI.lit .u8 _ [0, 200] 5 _ 2 w12.heap.size (by simp) rfl (by simp) (by simp))).mono ?_
  rintro e w14 ⟨rfl, m14⟩
  rw [aw04_6]
  have h14 : More w6 w14 := by rw [← m14]; exact h13
  clear m14
  refine ⟨_, rfl, later_mk h14, hK _ _ ?_⟩
  clear hK K
  repeat (first | (refine tr_skip rfl rfl (later_mk (by repeat (first | exact More.refl _ | assumption | refine More.dr ?_ _ | refine More.al ?_ _ | refine More.st ?_ (by simp) _))) ?_) | (refine tr_quiet rfl rfl (later_mk (by repeat (first | exact More.refl _ | assumption | refine More.dr ?_ _ | refine More.al ?_ _ | refine More.st ?_ (by simp) _))) ?_; intro K hK; go_big_quiet_op; go_big_quiet_on))
  (refine tr_next rfl rfl ?_; intro K hK; unfold loud; go_simp)
  refine (CtlH_any _ [128, 96, 1, 2, 0, 0, 0, 1, 0, 0, 0, 2, 7] _ (S6.out.keep h14)).mono ?_
  rintro e w15 ⟨rfl, m15⟩
  rw [aw04_7]
  have h15 : More w6 w15 := by rw [← m15]; exact h14
  clear m15
  refine ⟨_, rfl, later_mk h15, hK _ _ ?_⟩
  clear hK K
  repeat (first | (refine tr_skip rfl rfl (later_mk (by repeat (first | exact More.refl _ | assumption | refine More.dr ?_ _ | refine More.al ?_ _ | refine More.st ?_ (by simp) _))) ?_) | (refine tr_quiet rfl rfl (later_mk (by repeat (first | exact More.refl _ | assumption | refine More.dr ?_ _ | refine More.al ?_ _ | refine More.st ?_ (by simp) _))) ?_; intro K hK; go_big_quiet_op; go_big_quiet_on))
  refine tr_done ?_
  go_wp2
  go_ret
  exact ⟨rfl, M6.out.trans h15⟩
end Go.Proofs.Ytlnikmcimmnbmaa
