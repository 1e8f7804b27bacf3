/- Packets: HeadCuts, walked: cut within the payload; the law. -/
import Derived.Test.YtlnikmcimmnbmaaHeadH
namespace Go.Proofs.Ytlnikmcimmnbmaa
set_option linter.unusedSimpArgs false
set_option linter.unusedVariables false
open Go.RowKit
set_option maxRecDepth 100000

set_option maxHeartbeats 8000000 in
theorem HeadCuts_tail (p : Pk) (os oe op : Option Addr) (ks ke kp : Nat) (m : Nat) (w : World) (h : PkS w (.slice os p.ss.length ks) (.slice oe p.ex.length ke) (.slice op p.pl.length kp) p) (hk : PkOK p) (hc : m ≤ 255) (hl : lrgH p = false) (hr : rightH p = true) (N : Nat) (hN : (pkB p).length = N) (hm : m ≤ N) (E : Nat) (hE : (preB p).length = E) (he : E ≤ m) :
    Calls Try.prog 5 #[.agg #[.bool p.mr, .int .u8 p.ty, .int .u16 p.sq, .int .u32 p.st, .int .u32 p.sc, .slice os p.ss.length ks, .bool p.has, .int .u16 p.pr, .slice oe p.ex.length ke, .slice op p.pl.length kp], .int .u8 m] w fun e w' => e = .returned (.bool true) ∧ More w w' := by
  have h200 := byt_len hr
  have hsum : (pkB p).length = (preB p).length + p.pl.length := List.length_append
  obtain ⟨k, hEk⟩ : ∃ k, m = E + k := ⟨m - E, by omega⟩
  have hkl : k ≤ p.pl.length := by omega
  obtain ⟨l, hll⟩ : ∃ l, p.pl.take k = l := ⟨_, rfl⟩
  have hlk : l.length = k := by rw [← hll, List.length_take]; omega
  have RC : Hid (readH ((pkB p).take m) = (⟨p.mr, p.ty, p.sq, p.st, p.sc, p.ss, p.has, p.pr, p.ex, l⟩, 0)) := Lib.hid (by
    have e1 : (pkB p).take m = preB p ++ p.pl.take k := by unfold pkB; rw [hEk, ← hE, List.take_length_add_append]
    rw [e1, hll]
    exact read_pre hr hk l (by omega))
  have DR : ((pkB p).drop E).take k = l := by unfold pkB; rw [← hE, List.drop_left, hll]
  have HD := Lib.hid DR
  have HS := Lib.hid h
  have HK := Lib.hid hk
  have HPB := Lib.hid (pkB_byt hk)
  have M0 := Lib.hid (More.alloc w (.cells #[.bool p.mr, .int .u8 p.ty, .int .u16 p.sq, .int .u32 p.st, .int .u32 p.sc, .slice os p.ss.length ks, .bool p.has, .int .u16 p.pr, .slice oe p.ex.length ke, .slice op p.pl.length kp] 57))
  have B0 := Lib.hid (blk_new w (.cells #[.bool p.mr, .int .u8 p.ty, .int .u16 p.sq, .int .u32 p.st, .int .u32 p.sc, .slice os p.ss.length ks, .bool p.has, .int .u16 p.pr, .slice oe p.ex.length ke, .slice op p.pl.length kp] 57))
  have HL := Lib.hid hl
  have HR := Lib.hid hr
  have HN := Lib.hid hN
  have hmn : ¬ (N : Int) < (m : Int) := by omega
  have hme : ¬ (m : Int) < (E : Int) := by omega
  have hw : IntKind.i64.wrap (m : Int) = (m : Int) := IntWalk.i64_in _ (by omega)
  have hs : (N : Int) - (p.pl.length : Int) = (E : Int) := by omega
  have hw2 : IntKind.i64.wrap (E : Int) = (E : Int) := IntWalk.i64_in _ (by omega)
  subst hlk
  have HEK := Lib.hid hEk
  clear h hk hl hr hE DR hll hEk
  go_enter Try.func5, Try.ntmps5
  go_wp2_with (first | (go_at_call 25; ((with_reducible refine (awake04 _).mono ?_); rintro e w1 ⟨rfl, m1⟩; have M1 := Lib.hid (M0.out.trans m1); have B1 := Lib.hid (blk_more m1 B0.out); clear m1; obtain ⟨x0, x1, x2, x3, x4, x5, x6, x7, x8, x9⟩ := blk10 B1.out)) | (go_at_call 26; ((with_reducible refine (large04d p _ _ _ _ (HS.out.keep M1.out)).mono ?_); rintro e w2 ⟨rfl, m2⟩; rw [HL.out]; have M2 := Lib.hid (M1.out.trans m2); have B2 := Lib.hid (blk_more m2 B1.out); clear m2 x0 x1 x2 x3 x4 x5 x6 x7 x8 x9; obtain ⟨y0, y1, y2, y3, y4, y5, y6, y7, y8, y9⟩ := blk10 B2.out)) | (go_at_call 27; ((with_reducible refine (BytesH_yes p _ _ _ _ (HS.out.keep M2.out) HK.out HR.out).mono ?_); rintro e w3 ⟨⟨v3, rfl, o3⟩, m3⟩; have M3 := Lib.hid (M2.out.trans m3); have B3 := Lib.hid (blk_more m3 B2.out); have S3 := Lib.hid (SlI.of_owns o3 (owns_small o3)); clear y0 y1 y2 y3 y4 y5 y6 y7 y8 y9 m3; obtain ⟨z0, z1, z2, z3, z4, z5, z6, z7, z8, z9⟩ := blk10 B3.out; obtain ⟨v4, hv4, s4⟩ := sl_upto8 S3.out m (by rw [HN.out]; exact hm); have S4 := Lib.hid s4; clear s4; obtain ⟨v6, hv6, s6, o6, c6, rfl⟩ := sl_part8 S3.out E l.length m (by rw [HN.out]; exact hm) HEK.out; rw [HD.out] at s6; have S6 := Lib.hid s6; clear s6; obtain ⟨b3, n3, c3, rfl, hn3, -⟩ := slice_of_row o3; clear o3; rw [HN.out] at hn3; subst hn3)) | (go_at_call 30; ((with_reducible refine (ReadH_any v4 _ _ S4.out (Byt.take HPB.out m)).mono ?_); rintro e w5 ⟨va, vb, vc, he, ps, m5⟩; rw [RC.out] at he ps; obtain rfl := he; have M5 := Lib.hid (M3.out.trans m5); have B5 := Lib.hid (blk_more m5 B3.out); obtain ⟨⟨oa, ka, rfl⟩, ⟨ob, kb, rfl⟩, ⟨oc, kc, rfl⟩⟩ := PkS.three ps p.ss.length p.ex.length l.length rfl rfl rfl; have PQ5 := Lib.hid ps; have S65 := Lib.hid (S6.out.keep m5); have B6 := Lib.hid (blk_alloc B5.out (.cells #[.bool p.mr, .int .u8 p.ty, .int .u16 p.sq, .int .u32 p.st, .int .u32 p.sc, .slice oa p.ss.length ka, .bool p.has, .int .u16 p.pr, .slice ob p.ex.length kb, .slice oc l.length kc] 57)); have fz := blk_free B6.out 9; clear ps m5 z0 z1 z2 z3 z4 z5 z6 z7 z8 z9; obtain ⟨q0, q1, q2, q3, q4, q5, q6, q7, q8, q9⟩ := blk10 B6.out)))
  obtain ⟨w7, h7⟩ : ∃ W, ((w5.alloc (.cells #[.bool p.mr, .int .u8 p.ty, .int .u16 p.sq, .int .u32 p.st, .int .u32 p.sc, .slice oa p.ss.length ka, .bool p.has, .int .u16 p.pr, .slice ob p.ex.length kb, .slice oc l.length kc] 57)).setCell ⟨w.heap.size, 9, none⟩ (.slice o6 l.length c6)) = W := ⟨_, rfl⟩
  rw [h7]
  have hlt := blk_lt B5.out
  have c9 : ∀ k n, (w5.alloc (.cells #[.bool p.mr, .int .u8 p.ty, .int .u16 p.sq, .int .u32 p.st, .int .u32 p.sc, .slice oa p.ss.length ka, .bool p.has, .int .u16 p.pr, .slice ob p.ex.length kb, .slice oc l.length kc] 57)).cell? ⟨w.heap.size, 9, none⟩ ≠ some (.int k n) := by
    intro k n e
    have := blk_cell B6.out 9 (v := .slice op p.pl.length kp) rfl
    rw [this] at e
    cases e
  have M7 : Hid (More w w7) := Lib.hid (by rw [← h7]; exact (M5.out.al (.cells #[.bool p.mr, .int .u8 p.ty, .int .u16 p.sq, .int .u32 p.st, .int .u32 p.sc, .slice oa p.ss.length ka, .bool p.has, .int .u16 p.pr, .slice ob p.ex.length kb, .slice oc l.length kc] 57)).st (p := ⟨w.heap.size, 9, none⟩) (Nat.le_refl _) _)
  have B7 : Hid (w7.heap[w.heap.size]? = some (.cells #[.bool p.mr, .int .u8 p.ty, .int .u16 p.sq, .int .u32 p.st, .int .u32 p.sc, .slice os p.ss.length ks, .bool p.has, .int .u16 p.pr, .slice oe p.ex.length ke, .slice o6 l.length c6] 57)) := Lib.hid (by rw [← h7]; exact blk_eq (blk_set B6.out 9 _) rfl)
  have X7 : Hid (w7.heap[w5.heap.size]? = some (.cells #[.bool p.mr, .int .u8 p.ty, .int .u16 p.sq, .int .u32 p.st, .int .u32 p.sc, .slice oa p.ss.length ka, .bool p.has, .int .u16 p.pr, .slice ob p.ex.length kb, .slice oc l.length kc] 57)) := Lib.hid (by rw [← h7]; exact blk_other (blk_new w5 (.cells #[.bool p.mr, .int .u8 p.ty, .int .u16 p.sq, .int .u32 p.st, .int .u32 p.sc, .slice oa p.ss.length ka, .bool p.has, .int .u16 p.pr, .slice ob p.ex.length kb, .slice oc l.length kc] 57)) _ _ (by show w5.heap.size ≠ w.heap.size; omega))
  have PQ : Hid (PkS w7 (.slice oa p.ss.length ka) (.slice ob p.ex.length kb) (.slice oc l.length kc) ⟨p.mr, p.ty, p.sq, p.st, p.sc, p.ss, p.has, p.pr, p.ex, l⟩) := Lib.hid (by
    rw [← h7]
    have q := PQ5.out.keep (More.alloc w5 (.cells #[.bool p.mr, .int .u8 p.ty, .int .u16 p.sq, .int .u32 p.st, .int .u32 p.sc, .slice oa p.ss.length ka, .bool p.has, .int .u16 p.pr, .slice ob p.ex.length kb, .slice oc l.length kc] 57))
    exact ⟨q.s.st_other _ _ (c9 _), q.e.st_other _ _ (c9 _), q.l.st_other _ _ (c9 _)⟩)
  have S7 : SlI .u8 w7 (.slice o6 l.length c6) l := by rw [← h7]; exact (S65.out.keep (More.alloc w5 (.cells #[.bool p.mr, .int .u8 p.ty, .int .u16 p.sq, .int .u32 p.st, .int .u32 p.sc, .slice oa p.ss.length ka, .bool p.has, .int .u16 p.pr, .slice ob p.ex.length kb, .slice oc l.length kc] 57))).st_other _ _ (c9 _)
  have PP : Hid (PkS w7 (.slice os p.ss.length ks) (.slice oe p.ex.length ke) (.slice o6 l.length c6) ⟨p.mr, p.ty, p.sq, p.st, p.sc, p.ss, p.has, p.pr, p.ex, l⟩) := Lib.hid ⟨(HS.out.keep M7.out).s, (HS.out.keep M7.out).e, S7⟩
  clear h7 S7 c9 hlt q0 q1 q2 q3 q4 q5 q6 q7 q8 q9 fz S65 PQ5 B6 B5 M5 S4 S6 M3 B3 S3 M2 B2 M1 B1 hv4 hv6 M0 B0 HPB
  have e0 : ∀ x : Later w7, x.w'.cell? ⟨w.heap.size, 0, none⟩ = some (.bool p.mr) := fun x => blk_cell (blk_more x.h B7.out) 0 rfl
  have e1 : ∀ x : Later w7, x.w'.cell? ⟨w.heap.size, 1, none⟩ = some (.int .u8 p.ty) := fun x => blk_cell (blk_more x.h B7.out) 1 rfl
  have e2 : ∀ x : Later w7, x.w'.cell? ⟨w.heap.size, 2, none⟩ = some (.int .u16 p.sq) := fun x => blk_cell (blk_more x.h B7.out) 2 rfl
  have e3 : ∀ x : Later w7, x.w'.cell? ⟨w.heap.size, 3, none⟩ = some (.int .u32 p.st) := fun x => blk_cell (blk_more x.h B7.out) 3 rfl
  have e4 : ∀ x : Later w7, x.w'.cell? ⟨w.heap.size, 4, none⟩ = some (.int .u32 p.sc) := fun x => blk_cell (blk_more x.h B7.out) 4 rfl
  have e5 : ∀ x : Later w7, x.w'.cell? ⟨w.heap.size, 5, none⟩ = some (.slice os p.ss.length ks) := fun x => blk_cell (blk_more x.h B7.out) 5 rfl
  have e6 : ∀ x : Later w7, x.w'.cell? ⟨w.heap.size, 6, none⟩ = some (.bool p.has) := fun x => blk_cell (blk_more x.h B7.out) 6 rfl
  have e7 : ∀ x : Later w7, x.w'.cell? ⟨w.heap.size, 7, none⟩ = some (.int .u16 p.pr) := fun x => blk_cell (blk_more x.h B7.out) 7 rfl
  have e8 : ∀ x : Later w7, x.w'.cell? ⟨w.heap.size, 8, none⟩ = some (.slice oe p.ex.length ke) := fun x => blk_cell (blk_more x.h B7.out) 8 rfl
  have e9 : ∀ x : Later w7, x.w'.cell? ⟨w.heap.size, 9, none⟩ = some (.slice o6 l.length c6) := fun x => blk_cell (blk_more x.h B7.out) 9 rfl
  have f0 : ∀ x : Later w7, x.w'.cell? ⟨w5.heap.size, 0, none⟩ = some (.bool p.mr) := fun x => blk_cell (blk_more x.h X7.out) 0 rfl
  have f1 : ∀ x : Later w7, x.w'.cell? ⟨w5.heap.size, 1, none⟩ = some (.int .u8 p.ty) := fun x => blk_cell (blk_more x.h X7.out) 1 rfl
  have f2 : ∀ x : Later w7, x.w'.cell? ⟨w5.heap.size, 2, none⟩ = some (.int .u16 p.sq) := fun x => blk_cell (blk_more x.h X7.out) 2 rfl
  have f3 : ∀ x : Later w7, x.w'.cell? ⟨w5.heap.size, 3, none⟩ = some (.int .u32 p.st) := fun x => blk_cell (blk_more x.h X7.out) 3 rfl
  have f4 : ∀ x : Later w7, x.w'.cell? ⟨w5.heap.size, 4, none⟩ = some (.int .u32 p.sc) := fun x => blk_cell (blk_more x.h X7.out) 4 rfl
  have f5 : ∀ x : Later w7, x.w'.cell? ⟨w5.heap.size, 5, none⟩ = some (.slice oa p.ss.length ka) := fun x => blk_cell (blk_more x.h X7.out) 5 rfl
  have f6 : ∀ x : Later w7, x.w'.cell? ⟨w5.heap.size, 6, none⟩ = some (.bool p.has) := fun x => blk_cell (blk_more x.h X7.out) 6 rfl
  have f7 : ∀ x : Later w7, x.w'.cell? ⟨w5.heap.size, 7, none⟩ = some (.int .u16 p.pr) := fun x => blk_cell (blk_more x.h X7.out) 7 rfl
  have f8 : ∀ x : Later w7, x.w'.cell? ⟨w5.heap.size, 8, none⟩ = some (.slice ob p.ex.length kb) := fun x => blk_cell (blk_more x.h X7.out) 8 rfl
  have f9 : ∀ x : Later w7, x.w'.cell? ⟨w5.heap.size, 9, none⟩ = some (.slice oc l.length kc) := fun x => blk_cell (blk_more x.h X7.out) 9 rfl
  refine wp_region_later w7 (More.refl _) (by kernel_rfl) (by kernel_rfl) ?_
  repeat (go_big_quiet_step ((first | (go_at_call 29; with_reducible exact calls_later (own04 ⟨p.mr, p.ty, p.sq, p.st, p.sc, p.ss, p.has, p.pr, p.ex, l⟩ _ _ _ _ (PQ.out.keep (Later.h _)))) | (go_at_call 29; with_reducible exact calls_later (own04 ⟨p.mr, p.ty, p.sq, p.st, p.sc, p.ss, p.has, p.pr, p.ex, l⟩ _ _ _ _ (PP.out.keep (Later.h _)))) | (go_at_call 35; with_reducible exact calls_later (Same04_eq ⟨p.mr, p.ty, p.sq, p.st, p.sc, p.ss, p.has, p.pr, p.ex, l⟩ _ _ _ _ _ _ _ (PQ.out.keep (Later.h _)) (PP.out.keep (Later.h _)))))))
  refine wpQuiet_nil ?_
  intro _ hw'
  obtain ⟨x9, rfl⟩ := hw'
  go_wp2
  go_ret
  exact ⟨rfl, M7.out.trans x9.h⟩
theorem HeadCuts_law (cs : Array Value) (p : Pk) (cut : Int) (w : World) (rd : RPk w cs.toList p) (hc : 0 ≤ cut ∧ cut ≤ 255) :
    Calls Try.prog 5 #[.agg cs, .int .u8 cut] w fun e w' => e = .returned (.bool true) ∧ More w w' := by
  obtain ⟨vs, ve, vp, hcs, ps, ok⟩ := rd
  obtain rfl : cs = #[.bool p.mr, .int .u8 p.ty, .int .u16 p.sq, .int .u32 p.st, .int .u32 p.sc, vs, .bool p.has, .int .u16 p.pr, ve, vp] := by rw [← Array.toArray_toList (xs := cs), hcs]
  obtain ⟨⟨os, ks, rfl, -⟩, ⟨oe, ke, rfl, -⟩, ⟨op, kp, rfl, -⟩⟩ := id ps
  by_cases hl : lrgH p = true
  · exact HeadCuts_large p os oe op ks ke kp cut w ps hc hl
  have hl : lrgH p = false := by simpa using hl
  by_cases hr : rightH p = true
  · obtain ⟨m, rfl⟩ : ∃ m : Nat, cut = m := ⟨cut.toNat, by omega⟩
    by_cases h1 : (pkB p).length < m
    · exact HeadCuts_over p os oe op ks ke kp m w ps ok (by omega) hl hr _ rfl h1
    by_cases h2 : m < (preB p).length
    · exact HeadCuts_head p os oe op ks ke kp m w ps ok (by omega) hl hr _ rfl (by omega) h2
    · exact HeadCuts_tail p os oe op ks ke kp m w ps ok (by omega) hl hr _ rfl (by omega) _ rfl (by omega)
  · exact HeadCuts_no p os oe op ks ke kp cut w ps hc hl (by simpa using hr)

end Go.Proofs.Ytlnikmcimmnbmaa
