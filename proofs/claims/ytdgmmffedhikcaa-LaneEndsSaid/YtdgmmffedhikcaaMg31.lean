/- Merged from my texts LaneEn. -/
import Derived.Test.YtdgmmffedhikcaaMg30
import Derived.Deep.Cut
import Derived.Deep.CutRange
import Derived.Deep.CutBlock
/- The law LaneEnds of lane, walked. (printed by gen_laneEn.py) -/
namespace Go.Proofs.Ytdgmmffedhikcaa
set_option linter.unusedSimpArgs false
set_option linter.unusedVariables false
open Go.RowKit
set_option maxRecDepth 100000

set_option maxHeartbeats 2000000 in
theorem LaneEnds_bad (m mo src sq st : Int) (oa : Option Addr) (n cap : Nat) (w : World) (h : cfgB m mo = false) :
    Calls Try.prog 4 #[.agg #[.int .i64 m, .int .i64 mo, .int .u32 src, .int .u16 sq, .int .u32 st], .slice oa n cap] w fun e w' => e = .returned (.bool true) ∧ More w w' := by
  have HB := Lib.hid (new_bad m mo src sq st h)
  clear h
  go_enter Try.func4, Try.ntmps4
  go_wp2_with (first | (go_at_call 9; ((with_reducible refine (awake20 _).mono ?_); rintro e w1 ⟨rfl, m1⟩; have B1 := Lib.hid (blk_more m1 (blk_new w (.cells #[.int .i64 m, .int .i64 mo, .int .u32 src, .int .u16 sq, .int .u32 st] 25))); have M1 : Hid (More w w1) := Lib.hid ((More.alloc _ _).trans m1); have q0 : w1.cell? ⟨w.heap.size, 0, none⟩ = some (.int .i64 m) := blk_cell B1.out 0 rfl; have q1 : w1.cell? ⟨w.heap.size, 1, none⟩ = some (.int .i64 mo) := blk_cell B1.out 1 rfl; have q2 : w1.cell? ⟨w.heap.size, 2, none⟩ = some (.int .u32 src) := blk_cell B1.out 2 rfl; have q3 : w1.cell? ⟨w.heap.size, 3, none⟩ = some (.int .u16 sq) := blk_cell B1.out 3 rfl; have q4 : w1.cell? ⟨w.heap.size, 4, none⟩ = some (.int .u32 st) := blk_cell B1.out 4 rfl; clear m1)) | (go_at_call 10; ((with_reducible refine (HB.out _).mono ?_); rintro e w2 ⟨rfl, m2⟩; have M2 : Hid (More w w2) := Lib.hid (M1.out.trans m2); clear m2)))
  go_ret
  exact ⟨rfl, M2.out⟩
set_option maxHeartbeats 2000000 in
theorem LaneEnds_large (n : Nat) (mo src sq st : Int) (v : Value) (l : List ActS) (w : World) (h1 : 1 ≤ n) (h2 : n ≤ 8) (h3 : 1 ≤ mo) (h4 : mo ≤ 10) (hq : U16 sq) (hs : U32 src) (sl : SlP 16 RAct w v l) (hl : lrgA l = true) :
    Calls Try.prog 4 #[.agg #[.int .i64 n, .int .i64 mo, .int .u32 src, .int .u16 sq, .int .u32 st], v] w fun e w' => e = .returned (.bool true) ∧ More w w' := by
  have HN := Lib.hid (fun w1 (m1 : More w w1) => new_hF w w1 m1 [] (fun b hb => by simp at hb) (n : Int) mo src sq st n rfl h1 h2 h3 h4 hq hs)
  have HL := Lib.hid (fun w1 (m1 : More w w1) => large20 v l w1 (sl.keep keepsAct m1))
  rw [hl] at HL
  clear h1 h2 h3 h4 hq hs sl hl
  go_enter Try.func4, Try.ntmps4
  go_wp2_with (first | (go_at_call 9; ((with_reducible refine (awake20 _).mono ?_); rintro e w1 ⟨rfl, m1⟩; have B1 := Lib.hid (blk_more m1 (blk_new w (.cells #[.int .i64 n, .int .i64 mo, .int .u32 src, .int .u16 sq, .int .u32 st] 25))); have M1 : Hid (More w w1) := Lib.hid ((More.alloc _ _).trans m1); have q0 : w1.cell? ⟨w.heap.size, 0, none⟩ = some (.int .i64 n) := blk_cell B1.out 0 rfl; have q1 : w1.cell? ⟨w.heap.size, 1, none⟩ = some (.int .i64 mo) := blk_cell B1.out 1 rfl; have q2 : w1.cell? ⟨w.heap.size, 2, none⟩ = some (.int .u32 src) := blk_cell B1.out 2 rfl; have q3 : w1.cell? ⟨w.heap.size, 3, none⟩ = some (.int .u16 sq) := blk_cell B1.out 3 rfl; have q4 : w1.cell? ⟨w.heap.size, 4, none⟩ = some (.int .u32 st) := blk_cell B1.out 4 rfl; clear m1)) | (go_at_call 10; ((with_reducible refine (HN.out _ M1.out).mono ?_); rintro e w2 ⟨L, rfl, h2, m2⟩; have M2 : Hid (More w w2) := Lib.hid (M1.out.trans m2); clear h2 m2)) | (go_at_call 11; ((with_reducible refine (HL.out _ M2.out).mono ?_); rintro e w3 ⟨rfl, m3⟩; have M3 : Hid (More w w3) := Lib.hid (M2.out.trans m3); clear m3)))
  go_ret
  exact ⟨rfl, M3.out⟩
set_option maxHeartbeats 8000000 in
theorem LaneEnds_main (n : Nat) (mo src sq st : Int) (v : Value) (l : List ActS) (w : World) (h1 : 1 ≤ n) (h2 : n ≤ 8) (h3 : 1 ≤ mo) (h4 : mo ≤ 10) (hq : U16 sq) (hs : U32 src) (sl : SlP 16 RAct w v l) (hl : lrgA l = false) :
    Calls Try.prog 4 #[.agg #[.int .i64 n, .int .i64 mo, .int .u32 src, .int .u16 sq, .int .u32 st], v] w fun e w' => e = .returned (.bool true) ∧ More w w' := by
  have HN := Lib.hid (fun w1 (m1 : More w w1) hF => new_hF w w1 m1 [w.heap.size] hF (n : Int) mo src sq st n rfl h1 h2 h3 h4 hq hs)
  have HL := Lib.hid (fun w1 (m1 : More w w1) => large20 v l w1 (sl.keep keepsAct m1))
  rw [hl] at HL
  obtain ⟨oa, cap, rfl, hl63, hel, hok⟩ := acts sl
  have HEL := Lib.hid hel
  have HSM := Lib.hid (lrgA_no hl)
  have HOK := Lib.hid hok
  have hl120 : l.length ≤ 120 := HSM.out.1
  clear h3 h4 hq hs sl hl hel hok
  go_enter Try.func4, Try.ntmps4
  go_wp2_with (first | (go_at_call 9; ((with_reducible refine (awake20 _).mono ?_); rintro e w1 ⟨rfl, m1⟩; have B1 := Lib.hid (blk_more m1 (blk_new w (.cells #[.int .i64 n, .int .i64 mo, .int .u32 src, .int .u16 sq, .int .u32 st] 25))); have M1 : Hid (More w w1) := Lib.hid ((More.alloc _ _).trans m1); have q0 : w1.cell? ⟨w.heap.size, 0, none⟩ = some (.int .i64 n) := blk_cell B1.out 0 rfl; have q1 : w1.cell? ⟨w.heap.size, 1, none⟩ = some (.int .i64 mo) := blk_cell B1.out 1 rfl; have q2 : w1.cell? ⟨w.heap.size, 2, none⟩ = some (.int .u32 src) := blk_cell B1.out 2 rfl; have q3 : w1.cell? ⟨w.heap.size, 3, none⟩ = some (.int .u16 sq) := blk_cell B1.out 3 rfl; have q4 : w1.cell? ⟨w.heap.size, 4, none⟩ = some (.int .u32 st) := blk_cell B1.out 4 rfl; clear m1)) | (go_at_call 10; ((with_reducible refine (HN.out _ M1.out (fun b hb => (by have := blk_lt B1.out; simp at hb; subst hb; omega))).mono ?_); rintro e w2 ⟨L, rfl, h2, m2⟩; have H2 := Lib.hid h2; have B2 := Lib.hid (blk_more m2 B1.out); clear h2 m2)) | (go_at_call 11; ((with_reducible refine (HL.out _ H2.out.more).mono ?_); rintro e w3 ⟨rfl, m3⟩; have H3 := Lib.hid (H2.out.on m3); have B3 := Lib.hid (blk_more m3 B2.out); clear m3)))
  go_loopw [7, 27] (fun pu ix wr => ∃ (j : Nat) (s : LnS) (p : Nat), j ≤ l.length ∧ ix = .int .i64 j ∧ pu = .int .i64 p ∧ p ≤ j ∧ s.room = n ∧ s.W.length ≤ j ∧ LnH w wr L s [w.heap.size] ∧ wr.heap[w.heap.size]? = some (.cells #[.int .i64 n, .int .i64 mo, .int .u32 src, .int .u16 sq, .int .u32 st] 25 (0, 0))) (fun _ ix _ => l.length - (intOf ix).toNat)
  case atStart => exact ⟨0, _, 0, by omega, rfl, rfl, by omega, rfl, by simp [newL], H3.out, B3.out⟩
  case round =>
    obtain ⟨j, s, p, hj, rfl, rfl, hp, hroom, hW, hh, hbx⟩ := hrel
    have HH := Lib.hid hh
    have HB := Lib.hid hbx
    have HROOM := Lib.hid hroom
    have HW := Lib.hid hW
    clear hh hbx hroom hW
    by_cases hlt : j < l.length
    · obtain ⟨b, off, os, ks, oe, ke, ol, kl, rfl, hb, ht, hs⟩ := HEL.out j hlt
      have HRG := Lib.hid (ht wr HH.out.more)
      have HPS := Lib.hid (fun w' (m : More w w') => hs.keep m)
      have hjl : (j : Int) < (l.length : Int) := by omega
      have hbw : b < wr.heap.size := Nat.lt_of_lt_of_le hb HH.out.more.size
      have HMEM : Hid (l.getD j act0 ∈ l) := Lib.hid (by rw [List.getD_eq_getElem?_getD, List.getElem?_eq_getElem hlt]; exact List.getElem_mem hlt)
      have HPO := Lib.hid (HOK.out _ HMEM.out)
      have HPM := Lib.hid (HSM.out.2 _ HMEM.out)
      have HGD := Lib.hid (List.getD_eq_getElem?_getD (l := l) (i := j) (a := act0))
      clear ht hs
      generalize hact : l.getD j act0 = act at *
      have HACT := Lib.hid hact
      clear hact HGD HMEM
      obtain ⟨d, g, c, x⟩ := act
      have hfr := doP_frame s ⟨d, g, c, x⟩ p
      obtain ⟨s', b', hR⟩ : ∃ s' b', doP s ⟨d, g, c, x⟩ p = (s', b') := ⟨_, _, rfl⟩
      rw [hR] at hfr
      have HR := Lib.hid hR
      have HFR : Hid (s'.room = n ∧ s'.W.length ≤ j + 1) := Lib.hid ⟨hfr.1.trans HROOM.out, by have := HW.out; have := hfr.2; simp only at this; omega⟩
      have HDO := Lib.hid (do_h (HH.out.on (More.alloc wr (.cells #[.int .i64 d, .int .i64 g, .bool c, .int .i64 x.id, .int .i64 x.layer, .bool x.key, .bool x.pk.mr, .int .u8 x.pk.ty, .int .u16 x.pk.sq, .int .u32 x.pk.st, .int .u32 x.pk.sc, .slice os x.pk.ss.length ks, .bool x.pk.has, .int .u16 x.pk.pr, .slice oe x.pk.ex.length ke, .slice ol x.pk.pl.length kl] 43))) (by have := HW.out; omega) d g c x p os oe ol ks ke kl (HPS.out _ (HH.out.more.trans (More.alloc _ _))) HPO.out HPM.out)
      have HBX := Lib.hid (blk_alloc HB.out (.cells #[.int .i64 d, .int .i64 g, .bool c, .int .i64 x.id, .int .i64 x.layer, .bool x.key, .bool x.pk.mr, .int .u8 x.pk.ty, .int .u16 x.pk.sq, .int .u32 x.pk.st, .int .u32 x.pk.sc, .slice os x.pk.ss.length ks, .bool x.pk.has, .int .u16 x.pk.pr, .slice oe x.pk.ex.length ke, .slice ol x.pk.pl.length kl] 43))
      clear hR hfr
      cases b' with
      | true =>
        go_wp2_with (first | (refine lnIf (.load 43 (.tmp 29)) rfl ?_; refine wpList_load_mid rfl 43 (.tmp 29) rfl b (off + j * 16) rfl [.int .i64 d, .int .i64 g, .bool c, .int .i64 x.id, .int .i64 x.layer, .bool x.key, .bool x.pk.mr, .int .u8 x.pk.ty, .int .u16 x.pk.sq, .int .u32 x.pk.st, .int .u32 x.pk.sc, .slice os x.pk.ss.length ks, .bool x.pk.has, .int .u16 x.pk.pr, .slice oe x.pk.ex.length ke, .slice ol x.pk.pl.length kl] _ HRG.out Try.underlying43 rfl (by kernel_rfl) ?_) | (refine lnIf (.store 43 (.tmp 9) (.tmp 30)) rfl ?_; refine ln_store_new rfl 43 (.tmp 9) (.tmp 30) rfl wr _ #[.int .i64 d, .int .i64 g, .bool c, .int .i64 x.id, .int .i64 x.layer, .bool x.key, .bool x.pk.mr, .int .u8 x.pk.ty, .int .u16 x.pk.sq, .int .u32 x.pk.st, .int .u32 x.pk.sc, .slice os x.pk.ss.length ks, .bool x.pk.has, .int .u16 x.pk.pr, .slice oe x.pk.ex.length ke, .slice ol x.pk.pl.length kl] rfl rfl rfl (by kernel_rfl) rfl rfl ?_) | (refine lnIf (.load 43 (.tmp 9)) rfl ?_; refine lnLoad rfl 43 (.tmp 9) rfl wr.heap.size 43 _ _ (blk_new wr (.cells #[.int .i64 d, .int .i64 g, .bool c, .int .i64 x.id, .int .i64 x.layer, .bool x.key, .bool x.pk.mr, .int .u8 x.pk.ty, .int .u16 x.pk.sq, .int .u32 x.pk.st, .int .u32 x.pk.sc, .slice os x.pk.ss.length ks, .bool x.pk.has, .int .u16 x.pk.pr, .slice oe x.pk.ex.length ke, .slice ol x.pk.pl.length kl] 43)) rfl Try.underlying43 rfl (by kernel_rfl) ?_) | (go_at_call 19; ((with_reducible refine (HDO.out).mono ?_); rintro e w4 ⟨rfl, h4, t4⟩; rw [HR.out] at h4; rw [HR.out]; have H4 := Lib.hid h4; have B4 := Lib.hid (t4.blk (by simp) HBX.out); clear h4 t4)))
        go_roundw
        case rel => exact ⟨j + 1, s', p + 1, by omega, by go_num, by go_num, by omega, HFR.out.1, HFR.out.2, H4.out, B4.out⟩
        case measure => simp [intOf]; omega
      | false =>
        go_wp2_with (first | (refine lnIf (.load 43 (.tmp 29)) rfl ?_; refine wpList_load_mid rfl 43 (.tmp 29) rfl b (off + j * 16) rfl [.int .i64 d, .int .i64 g, .bool c, .int .i64 x.id, .int .i64 x.layer, .bool x.key, .bool x.pk.mr, .int .u8 x.pk.ty, .int .u16 x.pk.sq, .int .u32 x.pk.st, .int .u32 x.pk.sc, .slice os x.pk.ss.length ks, .bool x.pk.has, .int .u16 x.pk.pr, .slice oe x.pk.ex.length ke, .slice ol x.pk.pl.length kl] _ HRG.out Try.underlying43 rfl (by kernel_rfl) ?_) | (refine lnIf (.store 43 (.tmp 9) (.tmp 30)) rfl ?_; refine ln_store_new rfl 43 (.tmp 9) (.tmp 30) rfl wr _ #[.int .i64 d, .int .i64 g, .bool c, .int .i64 x.id, .int .i64 x.layer, .bool x.key, .bool x.pk.mr, .int .u8 x.pk.ty, .int .u16 x.pk.sq, .int .u32 x.pk.st, .int .u32 x.pk.sc, .slice os x.pk.ss.length ks, .bool x.pk.has, .int .u16 x.pk.pr, .slice oe x.pk.ex.length ke, .slice ol x.pk.pl.length kl] rfl rfl rfl (by kernel_rfl) rfl rfl ?_) | (refine lnIf (.load 43 (.tmp 9)) rfl ?_; refine lnLoad rfl 43 (.tmp 9) rfl wr.heap.size 43 _ _ (blk_new wr (.cells #[.int .i64 d, .int .i64 g, .bool c, .int .i64 x.id, .int .i64 x.layer, .bool x.key, .bool x.pk.mr, .int .u8 x.pk.ty, .int .u16 x.pk.sq, .int .u32 x.pk.st, .int .u32 x.pk.sc, .slice os x.pk.ss.length ks, .bool x.pk.has, .int .u16 x.pk.pr, .slice oe x.pk.ex.length ke, .slice ol x.pk.pl.length kl] 43)) rfl Try.underlying43 rfl (by kernel_rfl) ?_) | (go_at_call 19; ((with_reducible refine (HDO.out).mono ?_); rintro e w4 ⟨rfl, h4, t4⟩; rw [HR.out] at h4; rw [HR.out]; have H4 := Lib.hid h4; have B4 := Lib.hid (t4.blk (by simp) HBX.out); clear h4 t4)))
        go_roundw
        case rel => exact ⟨j + 1, s', p, by omega, by go_num, rfl, by omega, HFR.out.1, HFR.out.2, H4.out, B4.out⟩
        case measure => simp [intOf]; omega
    · obtain rfl : j = l.length := by omega
      have hnl : ¬ (l.length : Int) < (l.length : Int) := by omega
      have q0 : wr.cell? ⟨w.heap.size, 0, none⟩ = some (.int .i64 n) := blk_cell HB.out 0 rfl
      have HT0 : Hid (totP s ≤ 3 * n) := Lib.hid (by have := HH.out.fit; rw [HROOM.out] at this; unfold totP; omega)
      have H0 := Lib.hid (HH.out.sub (F' := []) (by simp))
      go_wp2
      go_loopw [42] (fun ix wr => ∃ (j : Nat) (s : LnS), j ≤ 3 * n + 1 ∧ ix = .int .i64 j ∧ s.room = n ∧ totP s ≤ 3 * n - j ∧ s.W.length ≤ l.length + j ∧ LnH w wr L s []) (fun ix _ => 3 * n + 1 - (intOf ix).toNat)
      case atStart => exact ⟨0, s, by omega, rfl, HROOM.out, HT0.out, HW.out, H0.out⟩
      case round =>
        clear HROOM HW HH HB q0 HT0 H0
        obtain ⟨j, s, hj, rfl, hroom, htot, hW, hh⟩ := hrel
        have HS := Lib.hid hh
        by_cases hlt : j < 3 * n + 1
        · have hjl : (j : Int) < 3 * (n : Int) + 1 := by omega
          have hmy := mays s (by have := hh.fit; omega) (by have := hh.fit; omega)
          have HRP : Hid ((roundP s).room = n ∧ totP (roundP s) ≤ 3 * n - (j + 1) ∧ (roundP s).W.length ≤ l.length + (j + 1)) := Lib.hid ⟨by unfold roundP; rw [(writeP_frame _ _).1, (rewriteP_frame _).1, (chooseP_frame _).1]; exact hroom, by have := round_tot s (by have := hh.fit; omega); omega, by
            have := (writeP_frame (rewriteP (chooseP s).1).1 true).2
            rw [(rewriteP_frame _).2, (chooseP_frame _).2] at this
            unfold roundP
            omega⟩
          have HW2 : Hid ((rewriteP (chooseP s).1).1.W.length ≤ 1000000) := Lib.hid (by rw [(rewriteP_frame _).2, (chooseP_frame _).2]; omega)
          have hEQ := fun w => len3_neq s.A.length s.B.length s.C.length 0 0 0 w
          rw [← hmy] at hEQ
          obtain ⟨m1, hm1⟩ : ∃ m1, mayP s 1 = m1 := ⟨_, rfl⟩
          obtain ⟨m2, hm2⟩ : ∃ m2, mayP s 2 = m2 := ⟨_, rfl⟩
          obtain ⟨m3, hm3⟩ : ∃ m3, mayP s 3 = m3 := ⟨_, rfl⟩
          rw [hm1, hm2, hm3] at hEQ
          have HM1 := Lib.hid hm1
          have HM2 := Lib.hid hm2
          have HM3 := Lib.hid hm3
          clear hm1 hm2 hm3 hmy hh hroom htot hW
          cases m1 with
          | true =>
            rw [show (true || m2 || m3) = true from rfl] at hEQ
            go_wp2_with (first | (go_at_call 12; ((with_reducible refine (lens_h HS.out).mono ?_); rintro e w5 ⟨rfl, h5, _⟩; have H5 : Hid (LnH w (w5.alloc (.cells #[.int .i64 s.A.length, .int .i64 s.B.length, .int .i64 s.C.length] 44)) L s [w5.heap.size]) := Lib.hid (h5.add (More.alloc _ (.cells #[.int .i64 s.A.length, .int .i64 s.B.length, .int .i64 s.C.length] 44)) (Nat.le_refl _) (by simp)); have LB5 : Hid ((w5.alloc (.cells #[.int .i64 s.A.length, .int .i64 s.B.length, .int .i64 s.C.length] 44)).heap[w5.heap.size]? = some (.cells #[.int .i64 s.A.length, .int .i64 s.B.length, .int .i64 s.C.length] 44 (0, 0))) := Lib.hid (blk_new w5 _); clear h5)) | (go_at_call 20; ((with_reducible refine (may_h H5.out 1 (by omega)).mono ?_); rintro e w6 ⟨rfl, h6, t6⟩; rw [HM1.out]; have H6 := Lib.hid h6; have LB6 := Lib.hid (t6.blk (by simp) LB5.out); have z0 : w6.cell? ⟨w5.heap.size, 0, none⟩ = some (.int .i64 s.A.length) := blk_cell LB6.out 0 rfl; have z1 : w6.cell? ⟨w5.heap.size, 1, none⟩ = some (.int .i64 s.B.length) := blk_cell LB6.out 1 rfl; have z2 : w6.cell? ⟨w5.heap.size, 2, none⟩ = some (.int .i64 s.C.length) := blk_cell LB6.out 2 rfl; clear h6 t6)) | (go_at_call 14; ((with_reducible refine (choose_h (H6.out.sub (F' := []) (by simp))).mono ?_); rintro e w10 ⟨rfl, h10, _⟩; have H10 := Lib.hid h10; clear h10)) | (go_at_call 15; ((with_reducible refine (rewrite_h H10.out).mono ?_); rintro e w11 ⟨rfl, h11, _⟩; have H11 := Lib.hid h11; clear h11)) | (go_at_call 16; ((with_reducible refine (write_h H11.out HW2.out true).mono ?_); rintro e w12 ⟨rfl, h12, _⟩; have H12 := Lib.hid h12; clear h12)))
            go_roundw
            case rel => exact ⟨j + 1, roundP s, by omega, by go_num, HRP.out.1, HRP.out.2.1, HRP.out.2.2, H12.out⟩
            case measure => simp [intOf]; omega
          | false =>
            cases m2 with
            | true =>
              rw [show (false || true || m3) = true from rfl] at hEQ
              go_wp2_with (first | (go_at_call 12; ((with_reducible refine (lens_h HS.out).mono ?_); rintro e w5 ⟨rfl, h5, _⟩; have H5 : Hid (LnH w (w5.alloc (.cells #[.int .i64 s.A.length, .int .i64 s.B.length, .int .i64 s.C.length] 44)) L s [w5.heap.size]) := Lib.hid (h5.add (More.alloc _ (.cells #[.int .i64 s.A.length, .int .i64 s.B.length, .int .i64 s.C.length] 44)) (Nat.le_refl _) (by simp)); have LB5 : Hid ((w5.alloc (.cells #[.int .i64 s.A.length, .int .i64 s.B.length, .int .i64 s.C.length] 44)).heap[w5.heap.size]? = some (.cells #[.int .i64 s.A.length, .int .i64 s.B.length, .int .i64 s.C.length] 44 (0, 0))) := Lib.hid (blk_new w5 _); clear h5)) | (go_at_call 20; ((with_reducible refine (may_h H5.out 1 (by omega)).mono ?_); rintro e w6 ⟨rfl, h6, t6⟩; rw [HM1.out]; have H6 := Lib.hid h6; have LB6 := Lib.hid (t6.blk (by simp) LB5.out); have z0 : w6.cell? ⟨w5.heap.size, 0, none⟩ = some (.int .i64 s.A.length) := blk_cell LB6.out 0 rfl; have z1 : w6.cell? ⟨w5.heap.size, 1, none⟩ = some (.int .i64 s.B.length) := blk_cell LB6.out 1 rfl; have z2 : w6.cell? ⟨w5.heap.size, 2, none⟩ = some (.int .i64 s.C.length) := blk_cell LB6.out 2 rfl; clear h6 t6)) | (go_at_call 20; ((with_reducible refine (may_h H6.out 2 (by omega)).mono ?_); rintro e w7 ⟨rfl, h7, t7⟩; rw [HM2.out]; have H7 := Lib.hid h7; have LB7 := Lib.hid (t7.blk (by simp) LB6.out); have z0 : w7.cell? ⟨w5.heap.size, 0, none⟩ = some (.int .i64 s.A.length) := blk_cell LB7.out 0 rfl; have z1 : w7.cell? ⟨w5.heap.size, 1, none⟩ = some (.int .i64 s.B.length) := blk_cell LB7.out 1 rfl; have z2 : w7.cell? ⟨w5.heap.size, 2, none⟩ = some (.int .i64 s.C.length) := blk_cell LB7.out 2 rfl; clear h7 t7)) | (go_at_call 14; ((with_reducible refine (choose_h (H7.out.sub (F' := []) (by simp))).mono ?_); rintro e w10 ⟨rfl, h10, _⟩; have H10 := Lib.hid h10; clear h10)) | (go_at_call 15; ((with_reducible refine (rewrite_h H10.out).mono ?_); rintro e w11 ⟨rfl, h11, _⟩; have H11 := Lib.hid h11; clear h11)) | (go_at_call 16; ((with_reducible refine (write_h H11.out HW2.out true).mono ?_); rintro e w12 ⟨rfl, h12, _⟩; have H12 := Lib.hid h12; clear h12)))
              go_roundw
              case rel => exact ⟨j + 1, roundP s, by omega, by go_num, HRP.out.1, HRP.out.2.1, HRP.out.2.2, H12.out⟩
              case measure => simp [intOf]; omega
            | false =>
              rw [show (false || false || m3) = m3 from rfl] at hEQ
              cases m3 with
              | true =>
                go_wp2_with (first | (go_at_call 12; ((with_reducible refine (lens_h HS.out).mono ?_); rintro e w5 ⟨rfl, h5, _⟩; have H5 : Hid (LnH w (w5.alloc (.cells #[.int .i64 s.A.length, .int .i64 s.B.length, .int .i64 s.C.length] 44)) L s [w5.heap.size]) := Lib.hid (h5.add (More.alloc _ (.cells #[.int .i64 s.A.length, .int .i64 s.B.length, .int .i64 s.C.length] 44)) (Nat.le_refl _) (by simp)); have LB5 : Hid ((w5.alloc (.cells #[.int .i64 s.A.length, .int .i64 s.B.length, .int .i64 s.C.length] 44)).heap[w5.heap.size]? = some (.cells #[.int .i64 s.A.length, .int .i64 s.B.length, .int .i64 s.C.length] 44 (0, 0))) := Lib.hid (blk_new w5 _); clear h5)) | (go_at_call 20; ((with_reducible refine (may_h H5.out 1 (by omega)).mono ?_); rintro e w6 ⟨rfl, h6, t6⟩; rw [HM1.out]; have H6 := Lib.hid h6; have LB6 := Lib.hid (t6.blk (by simp) LB5.out); have z0 : w6.cell? ⟨w5.heap.size, 0, none⟩ = some (.int .i64 s.A.length) := blk_cell LB6.out 0 rfl; have z1 : w6.cell? ⟨w5.heap.size, 1, none⟩ = some (.int .i64 s.B.length) := blk_cell LB6.out 1 rfl; have z2 : w6.cell? ⟨w5.heap.size, 2, none⟩ = some (.int .i64 s.C.length) := blk_cell LB6.out 2 rfl; clear h6 t6)) | (go_at_call 20; ((with_reducible refine (may_h H6.out 2 (by omega)).mono ?_); rintro e w7 ⟨rfl, h7, t7⟩; rw [HM2.out]; have H7 := Lib.hid h7; have LB7 := Lib.hid (t7.blk (by simp) LB6.out); have z0 : w7.cell? ⟨w5.heap.size, 0, none⟩ = some (.int .i64 s.A.length) := blk_cell LB7.out 0 rfl; have z1 : w7.cell? ⟨w5.heap.size, 1, none⟩ = some (.int .i64 s.B.length) := blk_cell LB7.out 1 rfl; have z2 : w7.cell? ⟨w5.heap.size, 2, none⟩ = some (.int .i64 s.C.length) := blk_cell LB7.out 2 rfl; clear h7 t7)) | (go_at_call 20; ((with_reducible refine (may_h H7.out 3 (by omega)).mono ?_); rintro e w8 ⟨rfl, h8, t8⟩; rw [HM3.out]; have H8 := Lib.hid h8; have LB8 := Lib.hid (t8.blk (by simp) LB7.out); have z0 : w8.cell? ⟨w5.heap.size, 0, none⟩ = some (.int .i64 s.A.length) := blk_cell LB8.out 0 rfl; have z1 : w8.cell? ⟨w5.heap.size, 1, none⟩ = some (.int .i64 s.B.length) := blk_cell LB8.out 1 rfl; have z2 : w8.cell? ⟨w5.heap.size, 2, none⟩ = some (.int .i64 s.C.length) := blk_cell LB8.out 2 rfl; clear h8 t8)) | (go_at_call 14; ((with_reducible refine (choose_h (H8.out.sub (F' := []) (by simp))).mono ?_); rintro e w10 ⟨rfl, h10, _⟩; have H10 := Lib.hid h10; clear h10)) | (go_at_call 15; ((with_reducible refine (rewrite_h H10.out).mono ?_); rintro e w11 ⟨rfl, h11, _⟩; have H11 := Lib.hid h11; clear h11)) | (go_at_call 16; ((with_reducible refine (write_h H11.out HW2.out true).mono ?_); rintro e w12 ⟨rfl, h12, _⟩; have H12 := Lib.hid h12; clear h12)))
                go_roundw
                case rel => exact ⟨j + 1, roundP s, by omega, by go_num, HRP.out.1, HRP.out.2.1, HRP.out.2.2, H12.out⟩
                case measure => simp [intOf]; omega
              | false =>
                go_wp2_with (first | (go_at_call 12; ((with_reducible refine (lens_h HS.out).mono ?_); rintro e w5 ⟨rfl, h5, _⟩; have H5 : Hid (LnH w (w5.alloc (.cells #[.int .i64 s.A.length, .int .i64 s.B.length, .int .i64 s.C.length] 44)) L s [w5.heap.size]) := Lib.hid (h5.add (More.alloc _ (.cells #[.int .i64 s.A.length, .int .i64 s.B.length, .int .i64 s.C.length] 44)) (Nat.le_refl _) (by simp)); have LB5 : Hid ((w5.alloc (.cells #[.int .i64 s.A.length, .int .i64 s.B.length, .int .i64 s.C.length] 44)).heap[w5.heap.size]? = some (.cells #[.int .i64 s.A.length, .int .i64 s.B.length, .int .i64 s.C.length] 44 (0, 0))) := Lib.hid (blk_new w5 _); clear h5)) | (go_at_call 20; ((with_reducible refine (may_h H5.out 1 (by omega)).mono ?_); rintro e w6 ⟨rfl, h6, t6⟩; rw [HM1.out]; have H6 := Lib.hid h6; have LB6 := Lib.hid (t6.blk (by simp) LB5.out); have z0 : w6.cell? ⟨w5.heap.size, 0, none⟩ = some (.int .i64 s.A.length) := blk_cell LB6.out 0 rfl; have z1 : w6.cell? ⟨w5.heap.size, 1, none⟩ = some (.int .i64 s.B.length) := blk_cell LB6.out 1 rfl; have z2 : w6.cell? ⟨w5.heap.size, 2, none⟩ = some (.int .i64 s.C.length) := blk_cell LB6.out 2 rfl; clear h6 t6)) | (go_at_call 20; ((with_reducible refine (may_h H6.out 2 (by omega)).mono ?_); rintro e w7 ⟨rfl, h7, t7⟩; rw [HM2.out]; have H7 := Lib.hid h7; have LB7 := Lib.hid (t7.blk (by simp) LB6.out); have z0 : w7.cell? ⟨w5.heap.size, 0, none⟩ = some (.int .i64 s.A.length) := blk_cell LB7.out 0 rfl; have z1 : w7.cell? ⟨w5.heap.size, 1, none⟩ = some (.int .i64 s.B.length) := blk_cell LB7.out 1 rfl; have z2 : w7.cell? ⟨w5.heap.size, 2, none⟩ = some (.int .i64 s.C.length) := blk_cell LB7.out 2 rfl; clear h7 t7)) | (go_at_call 20; ((with_reducible refine (may_h H7.out 3 (by omega)).mono ?_); rintro e w8 ⟨rfl, h8, t8⟩; rw [HM3.out]; have H8 := Lib.hid h8; have LB8 := Lib.hid (t8.blk (by simp) LB7.out); have z0 : w8.cell? ⟨w5.heap.size, 0, none⟩ = some (.int .i64 s.A.length) := blk_cell LB8.out 0 rfl; have z1 : w8.cell? ⟨w5.heap.size, 1, none⟩ = some (.int .i64 s.B.length) := blk_cell LB8.out 1 rfl; have z2 : w8.cell? ⟨w5.heap.size, 2, none⟩ = some (.int .i64 s.C.length) := blk_cell LB8.out 2 rfl; clear h8 t8)) | (go_at_call 14; ((with_reducible refine (choose_h (H8.out.sub (F' := []) (by simp))).mono ?_); rintro e w10 ⟨rfl, h10, _⟩; have H10 := Lib.hid h10; clear h10)) | (go_at_call 15; ((with_reducible refine (rewrite_h H10.out).mono ?_); rintro e w11 ⟨rfl, h11, _⟩; have H11 := Lib.hid h11; clear h11)) | (go_at_call 16; ((with_reducible refine (write_h H11.out HW2.out true).mono ?_); rintro e w12 ⟨rfl, h12, _⟩; have H12 := Lib.hid h12; clear h12)))
                go_roundw
                case rel => exact ⟨j + 1, roundP s, by omega, by go_num, HRP.out.1, HRP.out.2.1, HRP.out.2.2, H12.out⟩
                case measure => simp [intOf]; omega
        · obtain rfl : j = 3 * n + 1 := by omega
          have hnl : ¬ ((3 * n + 1 : Nat) : Int) < 3 * (n : Int) + 1 := by omega
          have hz : s.A.length = 0 ∧ s.B.length = 0 ∧ s.C.length = 0 := by unfold totP at htot; omega
          have hEQ := fun w => len3_eql s.A.length s.B.length s.C.length 0 0 0 w
          rw [show decide ([(s.A.length : Int), s.B.length, s.C.length] = [0, 0, 0]) = true by rw [hz.1, hz.2.1, hz.2.2]; rfl] at hEQ
          clear hz htot hroom hW hh
          go_wp2_with (go_at_call 12; ((with_reducible refine (lens_h HS.out).mono ?_); rintro e w5 ⟨rfl, h5, _⟩; have H5 := Lib.hid h5; clear h5))
          go_ret
          exact ⟨rfl, H5.out.more⟩
/-- The law. -/
theorem LaneEnds_law (cs : Array Value) (c : CfS) (v : Value) (l : List ActS) (w : World) (hc : RCfg w cs.toList c) (sl : SlP 16 RAct w v l) :
    Calls Try.prog 4 #[.agg cs, v] w fun e w' => e = .returned (.bool true) ∧ More w w' := by
  obtain ⟨hcs, h1, h2, h3⟩ := hc
  obtain ⟨m, mo, src, sq, st⟩ := c
  obtain rfl : cs = #[.int .i64 m, .int .i64 mo, .int .u32 src, .int .u16 sq, .int .u32 st] := by
    cases cs
    simpa using hcs
  cases hB : cfgB m mo with
  | false =>
    obtain ⟨oa, cap, rfl, _⟩ := acts sl
    exact LaneEnds_bad m mo src sq st oa l.length cap w hB
  | true =>
    have hB := of_decide_eq_true hB
    obtain ⟨n, rfl⟩ : ∃ n : Nat, m = n := ⟨m.toNat, by omega⟩
    cases hl : lrgA l with
    | true => exact LaneEnds_large n mo src sq st _ l w (by omega) (by omega) (by omega) (by omega) h2 h1 sl hl
    | false => exact LaneEnds_main n mo src sq st _ l w (by omega) (by omega) (by omega) (by omega) h2 h1 sl hl
end Go.Proofs.Ytdgmmffedhikcaa
