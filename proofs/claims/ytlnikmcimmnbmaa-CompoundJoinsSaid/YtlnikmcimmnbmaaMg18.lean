/- Merged from my texts ReportC. -/
import Derived.Test.YtlnikmcimmnbmaaMg17
/- Reports: Write. -/
namespace Go.Proofs.Ytlnikmcimmnbmaa
set_option linter.unusedSimpArgs false
set_option linter.unusedVariables false
open Go.RowKit
set_option maxRecDepth 100000

theorem len4 (x : Int) : (bysA x 4).length = 4 := bysA_len2 x 4 (by decide)
theorem len3 (x : Int) : (bysA x 3).length = 3 := bysA_len2 x 3 (by decide)
theorem len1 (x : Int) : (bysA x 1).length = 1 := bysA_len2 x 1 (by decide)
/-- A writer; all that was there when it was made stays. -/
structure WrM (w0 w : World) (W : Nat) (v : Value) (l : List Int) : Prop where
  wr : WriterAt w W v l
  more : More w0 w
  base : w0.heap.size ≤ W
theorem WrM.wrote {w0 w w' : World} {W : Nat} {v : Value} {l l' : List Int} (h : WrM w0 w W v l) (x : Wrote w w' W v l') : ∃ v', WrM w0 w' W v' l' := by
  have hm := x.to_more h.wr h.more h.base
  obtain ⟨⟨v', h1, _⟩, _⟩ := x
  exact ⟨v', h1, hm, h.base⟩
theorem flR_succ (l : List Blk) (j : Nat) (h : j < l.length) : flR (l.take (j + 1)) = flR (l.take j) ++ blkB (l.getD j blk0) := by
  unfold flR
  rw [getD_snoc l j blk0 h, List.flatMap_append]
  simp
theorem headB_len (r : Rep) : (headB r).length ≤ 24 := by
  unfold headB
  cases r.snd with
  | true => simp [infB_len, len4]
  | false => simp [len4]
theorem writeR_no {r : Rep} (h : rightR r = false) : writeR r = ((0, 0, [], ()), 1) := by unfold writeR; rw [h]; rfl
theorem Write08_no_true {w : World} (src : Int) (i : Inf) (bl : List Blk) (oa : Option Addr) (cap : Nat) (SL : Hid (SlP 7 RBlk w (.slice oa bl.length cap) bl)) (HR : Hid (rightR ⟨true, src, i, bl⟩ = false)) :
    Calls Try.prog 16 #[.agg #[.bool true, .int .u32 src, .int .u32 i.sec, .int .u32 i.frac, .int .u32 i.stamp, .int .u32 i.pkts, .int .u32 i.octs, .slice oa bl.length cap]] w fun e w' => e = .returned (.tuple #[.agg #[.int .u8 0, .int .u8 0, .slice none 0 0], .int .i64 1]) ∧ More w w' := by
  have m0 : More w ((w.alloc (.cells #[.bool true, .int .u32 src, .int .u32 i.sec, .int .u32 i.frac, .int .u32 i.stamp, .int .u32 i.pkts, .int .u32 i.octs, .slice oa bl.length cap] 27)).alloc (.cells #[.int .u8 0, .int .u8 0, .slice none 0 0] 30)) := (More.alloc _ _).al _
  have hB0w : ((w.alloc (.cells #[.bool true, .int .u32 src, .int .u32 i.sec, .int .u32 i.frac, .int .u32 i.stamp, .int .u32 i.pkts, .int .u32 i.octs, .slice oa bl.length cap] 27)).alloc (.cells #[.int .u8 0, .int .u8 0, .slice none 0 0] 30)).heap[w.heap.size]? = some (.cells #[.bool true, .int .u32 src, .int .u32 i.sec, .int .u32 i.frac, .int .u32 i.stamp, .int .u32 i.pkts, .int .u32 i.octs, .slice oa bl.length cap] 27) := blk_alloc (blk_new w _) _
  have hB1w : ((w.alloc (.cells #[.bool true, .int .u32 src, .int .u32 i.sec, .int .u32 i.frac, .int .u32 i.stamp, .int .u32 i.pkts, .int .u32 i.octs, .slice oa bl.length cap] 27)).alloc (.cells #[.int .u8 0, .int .u8 0, .slice none 0 0] 30)).heap[w.heap.size + 1]? = some (.cells #[.int .u8 0, .int .u8 0, .slice none 0 0] 30) := blk_new2 (by simp)
  go_enter Try.func16, Try.ntmps16
  go_wp2_with (go_at_call 21; refine (Right08_any ⟨true, src, i, bl⟩ (SL.out.keep keepsBlk m0)).mono ?_; rintro e w3 ⟨rfl, hm3⟩; rw [HR.out]; have M3 := m0.trans hm3; have hB0 := blk_more hm3 hB0w; have hB1 := blk_more hm3 hB1w; have hw3 : w.heap.size + 2 ≤ w3.heap.size := Nat.le_trans (by simp) hm3.size; have K1 := Lib.hid hB1; have f0 := blk_cell hB1 0 (v := .int .u8 0) rfl; have f1 := blk_cell hB1 1 (v := .int .u8 0) rfl; have f2 := blk_cell hB1 2 (v := .slice none 0 0) rfl; have z0 := blk_free hB1 0; have z1 := blk_free hB1 1; have z2 := blk_free hB1 2; clear hB0 hB1 hB0w hB1w)
  (refine bodyPost_ret (v := .tuple #[.agg #[.int .u8 0, .int .u8 0, .slice none 0 0], .int .i64 1]) ?rr1 rfl ?_; (case rr1 => (simp [results, Try.results16, go_sem, f0, f1, f2])))
  exact ⟨rfl, ((M3.st (by simp) _).st (by simp) _).st (by simp) _⟩
theorem Write08_no_false {w : World} (src : Int) (i : Inf) (bl : List Blk) (oa : Option Addr) (cap : Nat) (SL : Hid (SlP 7 RBlk w (.slice oa bl.length cap) bl)) (HR : Hid (rightR ⟨false, src, i, bl⟩ = false)) :
    Calls Try.prog 16 #[.agg #[.bool false, .int .u32 src, .int .u32 i.sec, .int .u32 i.frac, .int .u32 i.stamp, .int .u32 i.pkts, .int .u32 i.octs, .slice oa bl.length cap]] w fun e w' => e = .returned (.tuple #[.agg #[.int .u8 0, .int .u8 0, .slice none 0 0], .int .i64 1]) ∧ More w w' := by
  have m0 : More w ((w.alloc (.cells #[.bool false, .int .u32 src, .int .u32 i.sec, .int .u32 i.frac, .int .u32 i.stamp, .int .u32 i.pkts, .int .u32 i.octs, .slice oa bl.length cap] 27)).alloc (.cells #[.int .u8 0, .int .u8 0, .slice none 0 0] 30)) := (More.alloc _ _).al _
  have hB0w : ((w.alloc (.cells #[.bool false, .int .u32 src, .int .u32 i.sec, .int .u32 i.frac, .int .u32 i.stamp, .int .u32 i.pkts, .int .u32 i.octs, .slice oa bl.length cap] 27)).alloc (.cells #[.int .u8 0, .int .u8 0, .slice none 0 0] 30)).heap[w.heap.size]? = some (.cells #[.bool false, .int .u32 src, .int .u32 i.sec, .int .u32 i.frac, .int .u32 i.stamp, .int .u32 i.pkts, .int .u32 i.octs, .slice oa bl.length cap] 27) := blk_alloc (blk_new w _) _
  have hB1w : ((w.alloc (.cells #[.bool false, .int .u32 src, .int .u32 i.sec, .int .u32 i.frac, .int .u32 i.stamp, .int .u32 i.pkts, .int .u32 i.octs, .slice oa bl.length cap] 27)).alloc (.cells #[.int .u8 0, .int .u8 0, .slice none 0 0] 30)).heap[w.heap.size + 1]? = some (.cells #[.int .u8 0, .int .u8 0, .slice none 0 0] 30) := blk_new2 (by simp)
  go_enter Try.func16, Try.ntmps16
  go_wp2_with (go_at_call 21; refine (Right08_any ⟨false, src, i, bl⟩ (SL.out.keep keepsBlk m0)).mono ?_; rintro e w3 ⟨rfl, hm3⟩; rw [HR.out]; have M3 := m0.trans hm3; have hB0 := blk_more hm3 hB0w; have hB1 := blk_more hm3 hB1w; have hw3 : w.heap.size + 2 ≤ w3.heap.size := Nat.le_trans (by simp) hm3.size; have K1 := Lib.hid hB1; have f0 := blk_cell hB1 0 (v := .int .u8 0) rfl; have f1 := blk_cell hB1 1 (v := .int .u8 0) rfl; have f2 := blk_cell hB1 2 (v := .slice none 0 0) rfl; have z0 := blk_free hB1 0; have z1 := blk_free hB1 1; have z2 := blk_free hB1 2; clear hB0 hB1 hB0w hB1w)
  (refine bodyPost_ret (v := .tuple #[.agg #[.int .u8 0, .int .u8 0, .slice none 0 0], .int .i64 1]) ?rr2 rfl ?_; (case rr2 => (simp [results, Try.results16, go_sem, f0, f1, f2])))
  exact ⟨rfl, ((M3.st (by simp) _).st (by simp) _).st (by simp) _⟩
set_option maxHeartbeats 4000000 in
theorem Write08_yes_true {w : World} (src : Int) (i : Inf) (bl : List Blk) (oa : Option Addr) (cap : Nat) (SL : Hid (SlP 7 RBlk w (.slice oa bl.length cap) bl)) (HR : Hid (rightR ⟨true, src, i, bl⟩ = true)) (hn8 : bl.length ≤ 8) (hsrc : U32 src) (i0 : U32 i.sec) (i1 : U32 i.frac) (i2 : U32 i.stamp) (i3 : U32 i.pkts) (i4 : U32 i.octs)
    (hel : ∀ k, k < bl.length → ∃ b off, oa = some ⟨b, off, none⟩ ∧ b < w.heap.size ∧ BlkAt w b off k (bl.getD k blk0)) (hl63 : (bl.length : Int) ≤ 9223372036854775807) :
    Calls Try.prog 16 #[.agg #[.bool true, .int .u32 src, .int .u32 i.sec, .int .u32 i.frac, .int .u32 i.stamp, .int .u32 i.pkts, .int .u32 i.octs, .slice oa bl.length cap]] w fun e w' => ∃ vx, e = .returned (.tuple #[.agg #[.int .u8 (bl.length : Int), .int .u8 200, vx], .int .i64 0]) ∧ SlI .u8 w' vx (repB ⟨true, src, i, bl⟩) ∧ More w w' ∧ NewB w vx := by
  have m0 : More w ((w.alloc (.cells #[.bool true, .int .u32 src, .int .u32 i.sec, .int .u32 i.frac, .int .u32 i.stamp, .int .u32 i.pkts, .int .u32 i.octs, .slice oa bl.length cap] 27)).alloc (.cells #[.int .u8 0, .int .u8 0, .slice none 0 0] 30)) := (More.alloc _ _).al _
  have hB0w : ((w.alloc (.cells #[.bool true, .int .u32 src, .int .u32 i.sec, .int .u32 i.frac, .int .u32 i.stamp, .int .u32 i.pkts, .int .u32 i.octs, .slice oa bl.length cap] 27)).alloc (.cells #[.int .u8 0, .int .u8 0, .slice none 0 0] 30)).heap[w.heap.size]? = some (.cells #[.bool true, .int .u32 src, .int .u32 i.sec, .int .u32 i.frac, .int .u32 i.stamp, .int .u32 i.pkts, .int .u32 i.octs, .slice oa bl.length cap] 27) := blk_alloc (blk_new w _) _
  have hB1w : ((w.alloc (.cells #[.bool true, .int .u32 src, .int .u32 i.sec, .int .u32 i.frac, .int .u32 i.stamp, .int .u32 i.pkts, .int .u32 i.octs, .slice oa bl.length cap] 27)).alloc (.cells #[.int .u8 0, .int .u8 0, .slice none 0 0] 30)).heap[w.heap.size + 1]? = some (.cells #[.int .u8 0, .int .u8 0, .slice none 0 0] 30) := blk_new2 (by simp)
  go_enter Try.func16, Try.ntmps16
  go_wp2_with first | (go_at_call 21; refine (Right08_any ⟨true, src, i, bl⟩ (SL.out.keep keepsBlk m0)).mono ?_; rintro e w3 ⟨rfl, hm3⟩; rw [HR.out]; have M3 := m0.trans hm3; have hB0 := blk_more hm3 hB0w; have hB1 := blk_more hm3 hB1w; have hw3 : w.heap.size + 2 ≤ w3.heap.size := Nat.le_trans (by simp) hm3.size; have XM : WrM w3 (w3.alloc (.cells #[.slice none 0 0] 138)) w3.heap.size (.slice none 0 0) [] := ⟨writer_new w3, More.alloc _ _, Nat.le_refl _⟩; have d21 := blk_cell (blk_more XM.more hB0) 1 (v := .int .u32 src) rfl) | (go_at_call 71; ((with_reducible refine (WNum_any XM.wr src hsrc (by simp only [List.length_append, len4, List.length_nil]; omega)).mono ?_); rintro e w10 ⟨rfl, hw⟩; obtain ⟨v10, X10⟩ := XM.wrote hw; clear hw; have d100 := blk_cell (blk_more X10.more hB0) 0 (v := .bool true) rfl; have d102 := blk_cell (blk_more X10.more hB0) 2 (v := .int .u32 i.sec) rfl)) | (go_at_call 71; ((with_reducible refine (WNum_any X10.wr i.sec i0 (by simp only [List.length_append, len4, List.length_nil]; omega)).mono ?_); rintro e w11 ⟨rfl, hw⟩; obtain ⟨v11, X11⟩ := X10.wrote hw; clear hw; have d113 := blk_cell (blk_more X11.more hB0) 3 (v := .int .u32 i.frac) rfl)) | (go_at_call 71; ((with_reducible refine (WNum_any X11.wr i.frac i1 (by simp only [List.length_append, len4, List.length_nil]; omega)).mono ?_); rintro e w12 ⟨rfl, hw⟩; obtain ⟨v12, X12⟩ := X11.wrote hw; clear hw; have d124 := blk_cell (blk_more X12.more hB0) 4 (v := .int .u32 i.stamp) rfl)) | (go_at_call 71; ((with_reducible refine (WNum_any X12.wr i.stamp i2 (by simp only [List.length_append, len4, List.length_nil]; omega)).mono ?_); rintro e w13 ⟨rfl, hw⟩; obtain ⟨v13, X13⟩ := X12.wrote hw; clear hw; have d135 := blk_cell (blk_more X13.more hB0) 5 (v := .int .u32 i.pkts) rfl)) | (go_at_call 71; ((with_reducible refine (WNum_any X13.wr i.pkts i3 (by simp only [List.length_append, len4, List.length_nil]; omega)).mono ?_); rintro e w14 ⟨rfl, hw⟩; obtain ⟨v14, X14⟩ := X13.wrote hw; clear hw; have d146 := blk_cell (blk_more X14.more hB0) 6 (v := .int .u32 i.octs) rfl)) | (go_at_call 71; ((with_reducible refine (WNum_any X14.wr i.octs i4 (by simp only [List.length_append, len4, List.length_nil]; omega)).mono ?_); rintro e w15 ⟨rfl, hw⟩; obtain ⟨v15, X15⟩ := X14.wrote hw; clear hw; have d157 := blk_cell (blk_more X15.more hB0) 7 (v := .slice oa bl.length cap) rfl))
  have XL : WrM w3 _ w3.heap.size v15 (headB ⟨true, src, i, bl⟩ ++ flR (bl.take 0)) := ⟨by have e9 : headB ⟨true, src, i, bl⟩ ++ flR (bl.take 0) = [] ++ bysA src 4 ++ bysA i.sec 4 ++ bysA i.frac 4 ++ bysA i.stamp 4 ++ bysA i.pkts 4 ++ bysA i.octs 4 := (by simp [headB, infB, flR]); rw [e9]; exact X15.wr, X15.more, X15.base⟩
  generalize hWe : w3.heap.size = W at *
  go_loopw [40] (fun ix wr => ∃ j : Nat, j ≤ bl.length ∧ ix = .int .i64 j ∧ (∃ v, WrM w3 wr W v (headB ⟨true, src, i, bl⟩ ++ flR (bl.take j)))) (fun ix _ => bl.length - (intOf ix).toNat)
  case atStart => exact ⟨0, by omega, rfl, ⟨_, XL⟩⟩
  case round =>
    obtain ⟨j, hj, rfl, ⟨v, hr⟩⟩ := hrel
    have hmr := M3.trans hr.more
    by_cases hlt : j < bl.length
    · obtain ⟨b, off, rfl, hb, ht⟩ := hel j hlt
      obtain ⟨c0, c1, c2, c3, c4, c5, c6, hok⟩ := ht.more hmr hb
      have hjl : (j : Int) < (bl.length : Int) := by omega
      have hbw : b < wr.heap.size := Nat.lt_of_lt_of_le hb hmr.size
      have HE := Lib.hid (flR_succ bl j hlt)
      have hal : (headB ⟨true, src, i, bl⟩ ++ flR (bl.take j)).length ≤ 300 := by
        have h1 := flR_len (bl.take j)
        have h2 := headB_len ⟨true, src, i, bl⟩
        rw [List.length_append, h1, List.length_take]
        omega
      clear hel ht
      generalize bl.getD j blk0 = x at *
      obtain ⟨k0, k1, k2, k3, k4, k5, k6⟩ := x
      simp only at c0 c1 c2 c3 c4 c5 c6
      obtain ⟨o0, o1, o2, o3, o4, o5, o6⟩ := hok
      simp only at o0 o1 o2 o3 o4 o5 o6
      have o7 : 0 ≤ k2 % 4294967296 ∧ k2 % 4294967296 ≤ 4294967295 := by omega
      have X0 := Lib.hid (WrK.new (.cells #[.int .u32 k0, .int .u8 k1, .int .i32 k2, .int .u32 k3, .int .u32 k4, .int .u32 k5, .int .u32 k6] 134) hr.wr hr.more hr.base)
      have HA : Hid ((headB ⟨true, src, i, bl⟩ ++ flR (bl.take j)) ++ bysA k0 4 ++ bysA k1 1 ++ bysA (k2 % 4294967296) 3 ++ bysA k3 4 ++ bysA k4 4 ++ bysA k5 4 ++ bysA k6 4 = headB ⟨true, src, i, bl⟩ ++ flR (bl.take (j + 1))) := Lib.hid (by rw [HE.out]; unfold blkB; simp only [List.append_assoc])
      generalize headB ⟨true, src, i, bl⟩ ++ flR (bl.take j) = acc at *
      go_wp2_with first | (go_at_call 71; ((with_reducible refine (WNum_any X0.out.wr k0 o0 (by (try simp only [List.length_append, len4, len3, len1]); omega)).mono ?_); rintro e w20 ⟨rfl, hw⟩; obtain ⟨v20, X20⟩ := X0.out.wrote hw; have e1 := blk_cell X20.keep 1 (v := .int .u8 k1) rfl; clear hw)) | (go_at_call 72; ((with_reducible refine (WByte_any X20.wr k1 o1 (by (try simp only [List.length_append, len4, len3, len1]); omega)).mono ?_); rintro e w21 ⟨rfl, hw⟩; obtain ⟨v21, X21⟩ := X20.wrote hw; have e2 := blk_cell X21.keep 2 (v := .int .i32 k2) rfl; clear hw)) | (go_at_call 73; ((with_reducible refine (WThree_any X21.wr (k2 % 4294967296) o7 (by (try simp only [List.length_append, len4, len3, len1]); omega)).mono ?_); rintro e w22 ⟨rfl, hw⟩; obtain ⟨v22, X22⟩ := X21.wrote hw; have e3 := blk_cell X22.keep 3 (v := .int .u32 k3) rfl; clear hw)) | (go_at_call 71; ((with_reducible refine (WNum_any X22.wr k3 o3 (by (try simp only [List.length_append, len4, len3, len1]); omega)).mono ?_); rintro e w23 ⟨rfl, hw⟩; obtain ⟨v23, X23⟩ := X22.wrote hw; have e4 := blk_cell X23.keep 4 (v := .int .u32 k4) rfl; clear hw)) | (go_at_call 71; ((with_reducible refine (WNum_any X23.wr k4 o4 (by (try simp only [List.length_append, len4, len3, len1]); omega)).mono ?_); rintro e w24 ⟨rfl, hw⟩; obtain ⟨v24, X24⟩ := X23.wrote hw; have e5 := blk_cell X24.keep 5 (v := .int .u32 k5) rfl; clear hw)) | (go_at_call 71; ((with_reducible refine (WNum_any X24.wr k5 o5 (by (try simp only [List.length_append, len4, len3, len1]); omega)).mono ?_); rintro e w25 ⟨rfl, hw⟩; obtain ⟨v25, X25⟩ := X24.wrote hw; have e6 := blk_cell X25.keep 6 (v := .int .u32 k6) rfl; clear hw)) | (go_at_call 71; ((with_reducible refine (WNum_any X25.wr k6 o6 (by (try simp only [List.length_append, len4, len3, len1]); omega)).mono ?_); rintro e w26 ⟨rfl, hw⟩; obtain ⟨v26, X26⟩ := X25.wrote hw; clear hw))
      go_roundw
      case rel => exact ⟨j + 1, by omega, by go_num, ⟨v26, by rw [← HA.out]; exact ⟨X26.wr, X26.more, X26.base⟩⟩⟩
      case measure => simp [intOf]; omega
    · obtain rfl : j = bl.length := by omega
      rw [List.take_length] at hr
      have hal : (repB ⟨true, src, i, bl⟩).length ≤ 300 := by
        have h1 := flR_len bl
        have h2 := headB_len ⟨true, src, i, bl⟩
        unfold repB
        rw [List.length_append, h1]
        omega
      have hr : WrM w3 wr W v (repB ⟨true, src, i, bl⟩) := hr
      have HR := Lib.hid hr
      clear hel
      have C7 : ∀ x : LaterS (fun b => b = w.heap.size + 1) wr, x.w'.cell? ⟨w.heap.size, 7, none⟩ = some (.slice oa bl.length cap) := fun x => blk_cell (x.h.blk (blk_more hr.more hB0) (by simp)) 7 rfl
      have hB1r := Lib.hid (blk_more hr.more hB1)
      have hlen8 : ((bl.length : Int)) % 256 = (bl.length : Int) := by omega
      go_wp2_with fail
      refine wp_region_numS (fun b => b = w.heap.size + 1) wr 9 [(0, false), (1, false), (2, false), (3, false), (4, false), (5, true), (6, false), (7, true), (8, false)] (by kernel_rfl) (by kernel_rfl) ?_
      iterate 5 (refine num_quiet rfl rfl (laterS_mk (by repeat (first | exact Away.refl _ _ | assumption | refine Away.drewN ?_ _ | refine Away.set ?_ (by first | rfl | exact Or.inl rfl | exact Or.inr rfl) _))) ?_; intro K hK; go_big_quiet_op; go_big_quiet_on)
      (refine num_next rfl rfl ?_; intro K hK; unfold loud; go_simp)
      refine (WBytes_any (HR.out.wr.more (More.drewN _ 1)) (by omega)).mono ?_
      rintro e w30 ⟨v30, rfl, ho30, m30⟩
      have a30 : Away (fun b => b = w.heap.size + 1) wr w30 := (Away.of_more (More.drewN _ 1)).trans (Away.of_more m30)
      refine ⟨_, rfl, laterS_mk a30, hK _ _ ?_⟩
      clear hK K
      have s30 := SlI.of_owns ho30 (by omega)
      have g30 : Hid (∀ g, v30.ownBlock = some g → w.heap.size + 2 ≤ g) := Lib.hid (fun g h => by have := owns_ge ho30 h; have := HR.out.more.size; have := hw3; simp at *; omega)
      have S30 := Lib.hid s30
      obtain ⟨o30, cap30, rfl, _⟩ := s30
      have K30 := Lib.hid (blk_more m30 (blk_drewN hB1r.out 1))
      clear ho30
      have f0 := blk_cell K30.out 0 (v := .int .u8 0) rfl
      have f1 := blk_cell K30.out 1 (v := .int .u8 0) rfl
      have f2 := blk_cell K30.out 2 (v := .slice none 0 0) rfl
      have z0 := blk_free K30.out 0
      have z1 := blk_free K30.out 1
      have z2 := blk_free K30.out 2
      iterate 1 (refine num_quiet rfl rfl (laterS_mk a30) ?_; intro K hK; go_big_quiet_op; go_big_quiet_on)
      (refine num_next rfl rfl ?_; intro K hK; unfold loud; go_simp)
      have a31 : Away (fun b => b = w.heap.size + 1) w30 (((w30.setCell ⟨w.heap.size + 1, 0, none⟩ (.int .u8 (bl.length : Int))).setCell ⟨w.heap.size + 1, 1, none⟩ (.int .u8 200)).setCell ⟨w.heap.size + 1, 2, none⟩ (.slice o30 (repB ⟨true, src, i, bl⟩).length cap30)) := (((Away.refl (fun b => b = w.heap.size + 1) w30).set (p := ⟨w.heap.size + 1, 0, none⟩) rfl _).set (p := ⟨w.heap.size + 1, 1, none⟩) rfl _).set (p := ⟨w.heap.size + 1, 2, none⟩) rfl _
      refine ⟨laterS_mk (a30.trans a31), hK _ _ ?_⟩
      clear hK K
      iterate 1 (refine num_quiet rfl rfl (laterS_mk (a30.trans a31)) ?_; intro K hK; go_big_quiet_op; go_big_quiet_on)
      refine num_nil ?_
      go_wp2
      (refine bodyPost_ret (v := .tuple #[.agg #[.int .u8 (bl.length : Int), .int .u8 200, .slice o30 (repB ⟨true, src, i, bl⟩).length cap30], .int .i64 0]) ?rr3 rfl ?_; (case rr3 => (simp [results, Try.results16, go_sem, f0, f1, f2])))
      refine ⟨_, rfl, S30.out.off (fun b hb e => by have := g30.out b hb; have e : b = w.heap.size + 1 := e; omega) a31, (((((M3.trans HR.out.more).dr 1).trans m30).st (by simp) _).st (by simp) _).st (by simp) _, fun g hg => ?_⟩
      have := g30.out g hg
      omega
set_option maxHeartbeats 4000000 in
theorem Write08_yes_false {w : World} (src : Int) (i : Inf) (bl : List Blk) (oa : Option Addr) (cap : Nat) (SL : Hid (SlP 7 RBlk w (.slice oa bl.length cap) bl)) (HR : Hid (rightR ⟨false, src, i, bl⟩ = true)) (hn8 : bl.length ≤ 8) (hsrc : U32 src) (i0 : U32 i.sec) (i1 : U32 i.frac) (i2 : U32 i.stamp) (i3 : U32 i.pkts) (i4 : U32 i.octs)
    (hel : ∀ k, k < bl.length → ∃ b off, oa = some ⟨b, off, none⟩ ∧ b < w.heap.size ∧ BlkAt w b off k (bl.getD k blk0)) (hl63 : (bl.length : Int) ≤ 9223372036854775807) :
    Calls Try.prog 16 #[.agg #[.bool false, .int .u32 src, .int .u32 i.sec, .int .u32 i.frac, .int .u32 i.stamp, .int .u32 i.pkts, .int .u32 i.octs, .slice oa bl.length cap]] w fun e w' => ∃ vx, e = .returned (.tuple #[.agg #[.int .u8 (bl.length : Int), .int .u8 201, vx], .int .i64 0]) ∧ SlI .u8 w' vx (repB ⟨false, src, i, bl⟩) ∧ More w w' ∧ NewB w vx := by
  have m0 : More w ((w.alloc (.cells #[.bool false, .int .u32 src, .int .u32 i.sec, .int .u32 i.frac, .int .u32 i.stamp, .int .u32 i.pkts, .int .u32 i.octs, .slice oa bl.length cap] 27)).alloc (.cells #[.int .u8 0, .int .u8 0, .slice none 0 0] 30)) := (More.alloc _ _).al _
  have hB0w : ((w.alloc (.cells #[.bool false, .int .u32 src, .int .u32 i.sec, .int .u32 i.frac, .int .u32 i.stamp, .int .u32 i.pkts, .int .u32 i.octs, .slice oa bl.length cap] 27)).alloc (.cells #[.int .u8 0, .int .u8 0, .slice none 0 0] 30)).heap[w.heap.size]? = some (.cells #[.bool false, .int .u32 src, .int .u32 i.sec, .int .u32 i.frac, .int .u32 i.stamp, .int .u32 i.pkts, .int .u32 i.octs, .slice oa bl.length cap] 27) := blk_alloc (blk_new w _) _
  have hB1w : ((w.alloc (.cells #[.bool false, .int .u32 src, .int .u32 i.sec, .int .u32 i.frac, .int .u32 i.stamp, .int .u32 i.pkts, .int .u32 i.octs, .slice oa bl.length cap] 27)).alloc (.cells #[.int .u8 0, .int .u8 0, .slice none 0 0] 30)).heap[w.heap.size + 1]? = some (.cells #[.int .u8 0, .int .u8 0, .slice none 0 0] 30) := blk_new2 (by simp)
  go_enter Try.func16, Try.ntmps16
  go_wp2_with first | (go_at_call 21; refine (Right08_any ⟨false, src, i, bl⟩ (SL.out.keep keepsBlk m0)).mono ?_; rintro e w3 ⟨rfl, hm3⟩; rw [HR.out]; have M3 := m0.trans hm3; have hB0 := blk_more hm3 hB0w; have hB1 := blk_more hm3 hB1w; have hw3 : w.heap.size + 2 ≤ w3.heap.size := Nat.le_trans (by simp) hm3.size; have XM : WrM w3 (w3.alloc (.cells #[.slice none 0 0] 138)) w3.heap.size (.slice none 0 0) [] := ⟨writer_new w3, More.alloc _ _, Nat.le_refl _⟩; have d21 := blk_cell (blk_more XM.more hB0) 1 (v := .int .u32 src) rfl) | (go_at_call 71; ((with_reducible refine (WNum_any XM.wr src hsrc (by simp only [List.length_append, len4, List.length_nil]; omega)).mono ?_); rintro e w10 ⟨rfl, hw⟩; obtain ⟨v10, X10⟩ := XM.wrote hw; clear hw; have d100 := blk_cell (blk_more X10.more hB0) 0 (v := .bool false) rfl; have d107 := blk_cell (blk_more X10.more hB0) 7 (v := .slice oa bl.length cap) rfl))
  have XL : WrM w3 _ w3.heap.size v10 (headB ⟨false, src, i, bl⟩ ++ flR (bl.take 0)) := ⟨by have e9 : headB ⟨false, src, i, bl⟩ ++ flR (bl.take 0) = [] ++ bysA src 4 := (by simp [headB, infB, flR]); rw [e9]; exact X10.wr, X10.more, X10.base⟩
  generalize hWe : w3.heap.size = W at *
  go_loopw [40] (fun ix wr => ∃ j : Nat, j ≤ bl.length ∧ ix = .int .i64 j ∧ (∃ v, WrM w3 wr W v (headB ⟨false, src, i, bl⟩ ++ flR (bl.take j)))) (fun ix _ => bl.length - (intOf ix).toNat)
  case atStart => exact ⟨0, by omega, rfl, ⟨_, XL⟩⟩
  case round =>
    obtain ⟨j, hj, rfl, ⟨v, hr⟩⟩ := hrel
    have hmr := M3.trans hr.more
    by_cases hlt : j < bl.length
    · obtain ⟨b, off, rfl, hb, ht⟩ := hel j hlt
      obtain ⟨c0, c1, c2, c3, c4, c5, c6, hok⟩ := ht.more hmr hb
      have hjl : (j : Int) < (bl.length : Int) := by omega
      have hbw : b < wr.heap.size := Nat.lt_of_lt_of_le hb hmr.size
      have HE := Lib.hid (flR_succ bl j hlt)
      have hal : (headB ⟨false, src, i, bl⟩ ++ flR (bl.take j)).length ≤ 300 := by
        have h1 := flR_len (bl.take j)
        have h2 := headB_len ⟨false, src, i, bl⟩
        rw [List.length_append, h1, List.length_take]
        omega
      clear hel ht
      generalize bl.getD j blk0 = x at *
      obtain ⟨k0, k1, k2, k3, k4, k5, k6⟩ := x
      simp only at c0 c1 c2 c3 c4 c5 c6
      obtain ⟨o0, o1, o2, o3, o4, o5, o6⟩ := hok
      simp only at o0 o1 o2 o3 o4 o5 o6
      have o7 : 0 ≤ k2 % 4294967296 ∧ k2 % 4294967296 ≤ 4294967295 := by omega
      have X0 := Lib.hid (WrK.new (.cells #[.int .u32 k0, .int .u8 k1, .int .i32 k2, .int .u32 k3, .int .u32 k4, .int .u32 k5, .int .u32 k6] 134) hr.wr hr.more hr.base)
      have HA : Hid ((headB ⟨false, src, i, bl⟩ ++ flR (bl.take j)) ++ bysA k0 4 ++ bysA k1 1 ++ bysA (k2 % 4294967296) 3 ++ bysA k3 4 ++ bysA k4 4 ++ bysA k5 4 ++ bysA k6 4 = headB ⟨false, src, i, bl⟩ ++ flR (bl.take (j + 1))) := Lib.hid (by rw [HE.out]; unfold blkB; simp only [List.append_assoc])
      generalize headB ⟨false, src, i, bl⟩ ++ flR (bl.take j) = acc at *
      go_wp2_with first | (go_at_call 71; ((with_reducible refine (WNum_any X0.out.wr k0 o0 (by (try simp only [List.length_append, len4, len3, len1]); omega)).mono ?_); rintro e w20 ⟨rfl, hw⟩; obtain ⟨v20, X20⟩ := X0.out.wrote hw; have e1 := blk_cell X20.keep 1 (v := .int .u8 k1) rfl; clear hw)) | (go_at_call 72; ((with_reducible refine (WByte_any X20.wr k1 o1 (by (try simp only [List.length_append, len4, len3, len1]); omega)).mono ?_); rintro e w21 ⟨rfl, hw⟩; obtain ⟨v21, X21⟩ := X20.wrote hw; have e2 := blk_cell X21.keep 2 (v := .int .i32 k2) rfl; clear hw)) | (go_at_call 73; ((with_reducible refine (WThree_any X21.wr (k2 % 4294967296) o7 (by (try simp only [List.length_append, len4, len3, len1]); omega)).mono ?_); rintro e w22 ⟨rfl, hw⟩; obtain ⟨v22, X22⟩ := X21.wrote hw; have e3 := blk_cell X22.keep 3 (v := .int .u32 k3) rfl; clear hw)) | (go_at_call 71; ((with_reducible refine (WNum_any X22.wr k3 o3 (by (try simp only [List.length_append, len4, len3, len1]); omega)).mono ?_); rintro e w23 ⟨rfl, hw⟩; obtain ⟨v23, X23⟩ := X22.wrote hw; have e4 := blk_cell X23.keep 4 (v := .int .u32 k4) rfl; clear hw)) | (go_at_call 71; ((with_reducible refine (WNum_any X23.wr k4 o4 (by (try simp only [List.length_append, len4, len3, len1]); omega)).mono ?_); rintro e w24 ⟨rfl, hw⟩; obtain ⟨v24, X24⟩ := X23.wrote hw; have e5 := blk_cell X24.keep 5 (v := .int .u32 k5) rfl; clear hw)) | (go_at_call 71; ((with_reducible refine (WNum_any X24.wr k5 o5 (by (try simp only [List.length_append, len4, len3, len1]); omega)).mono ?_); rintro e w25 ⟨rfl, hw⟩; obtain ⟨v25, X25⟩ := X24.wrote hw; have e6 := blk_cell X25.keep 6 (v := .int .u32 k6) rfl; clear hw)) | (go_at_call 71; ((with_reducible refine (WNum_any X25.wr k6 o6 (by (try simp only [List.length_append, len4, len3, len1]); omega)).mono ?_); rintro e w26 ⟨rfl, hw⟩; obtain ⟨v26, X26⟩ := X25.wrote hw; clear hw))
      go_roundw
      case rel => exact ⟨j + 1, by omega, by go_num, ⟨v26, by rw [← HA.out]; exact ⟨X26.wr, X26.more, X26.base⟩⟩⟩
      case measure => simp [intOf]; omega
    · obtain rfl : j = bl.length := by omega
      rw [List.take_length] at hr
      have hal : (repB ⟨false, src, i, bl⟩).length ≤ 300 := by
        have h1 := flR_len bl
        have h2 := headB_len ⟨false, src, i, bl⟩
        unfold repB
        rw [List.length_append, h1]
        omega
      have hr : WrM w3 wr W v (repB ⟨false, src, i, bl⟩) := hr
      have HR := Lib.hid hr
      clear hel
      have C7 : ∀ x : LaterS (fun b => b = w.heap.size + 1) wr, x.w'.cell? ⟨w.heap.size, 7, none⟩ = some (.slice oa bl.length cap) := fun x => blk_cell (x.h.blk (blk_more hr.more hB0) (by simp)) 7 rfl
      have hB1r := Lib.hid (blk_more hr.more hB1)
      have hlen8 : ((bl.length : Int)) % 256 = (bl.length : Int) := by omega
      go_wp2_with fail
      refine wp_region_numS (fun b => b = w.heap.size + 1) wr 9 [(0, false), (1, false), (2, false), (3, false), (4, false), (5, true), (6, false), (7, true), (8, false)] (by kernel_rfl) (by kernel_rfl) ?_
      iterate 5 (refine num_quiet rfl rfl (laterS_mk (by repeat (first | exact Away.refl _ _ | assumption | refine Away.drewN ?_ _ | refine Away.set ?_ (by first | rfl | exact Or.inl rfl | exact Or.inr rfl) _))) ?_; intro K hK; go_big_quiet_op; go_big_quiet_on)
      (refine num_next rfl rfl ?_; intro K hK; unfold loud; go_simp)
      refine (WBytes_any (HR.out.wr.more (More.drewN _ 1)) (by omega)).mono ?_
      rintro e w30 ⟨v30, rfl, ho30, m30⟩
      have a30 : Away (fun b => b = w.heap.size + 1) wr w30 := (Away.of_more (More.drewN _ 1)).trans (Away.of_more m30)
      refine ⟨_, rfl, laterS_mk a30, hK _ _ ?_⟩
      clear hK K
      have s30 := SlI.of_owns ho30 (by omega)
      have g30 : Hid (∀ g, v30.ownBlock = some g → w.heap.size + 2 ≤ g) := Lib.hid (fun g h => by have := owns_ge ho30 h; have := HR.out.more.size; have := hw3; simp at *; omega)
      have S30 := Lib.hid s30
      obtain ⟨o30, cap30, rfl, _⟩ := s30
      have K30 := Lib.hid (blk_more m30 (blk_drewN hB1r.out 1))
      clear ho30
      have f0 := blk_cell K30.out 0 (v := .int .u8 0) rfl
      have f1 := blk_cell K30.out 1 (v := .int .u8 0) rfl
      have f2 := blk_cell K30.out 2 (v := .slice none 0 0) rfl
      have z0 := blk_free K30.out 0
      have z1 := blk_free K30.out 1
      have z2 := blk_free K30.out 2
      iterate 1 (refine num_quiet rfl rfl (laterS_mk a30) ?_; intro K hK; go_big_quiet_op; go_big_quiet_on)
      (refine num_next rfl rfl ?_; intro K hK; unfold loud; go_simp)
      have a31 : Away (fun b => b = w.heap.size + 1) w30 (((w30.setCell ⟨w.heap.size + 1, 0, none⟩ (.int .u8 (bl.length : Int))).setCell ⟨w.heap.size + 1, 1, none⟩ (.int .u8 201)).setCell ⟨w.heap.size + 1, 2, none⟩ (.slice o30 (repB ⟨false, src, i, bl⟩).length cap30)) := (((Away.refl (fun b => b = w.heap.size + 1) w30).set (p := ⟨w.heap.size + 1, 0, none⟩) rfl _).set (p := ⟨w.heap.size + 1, 1, none⟩) rfl _).set (p := ⟨w.heap.size + 1, 2, none⟩) rfl _
      refine ⟨laterS_mk (a30.trans a31), hK _ _ ?_⟩
      clear hK K
      iterate 1 (refine num_quiet rfl rfl (laterS_mk (a30.trans a31)) ?_; intro K hK; go_big_quiet_op; go_big_quiet_on)
      refine num_nil ?_
      go_wp2
      (refine bodyPost_ret (v := .tuple #[.agg #[.int .u8 (bl.length : Int), .int .u8 201, .slice o30 (repB ⟨false, src, i, bl⟩).length cap30], .int .i64 0]) ?rr4 rfl ?_; (case rr4 => (simp [results, Try.results16, go_sem, f0, f1, f2])))
      refine ⟨_, rfl, S30.out.off (fun b hb e => by have := g30.out b hb; have e : b = w.heap.size + 1 := e; omega) a31, (((((M3.trans HR.out.more).dr 1).trans m30).st (by simp) _).st (by simp) _).st (by simp) _, fun g hg => ?_⟩
      have := g30.out g hg
      omega
theorem Write08_new {w : World} {vb : Value} (r : Rep) (sl : SlP 7 RBlk w vb r.bl) (hk : RepOK r) :
    Calls Try.prog 16 #[.agg #[.bool r.snd, .int .u32 r.src, .int .u32 r.inf.sec, .int .u32 r.inf.frac, .int .u32 r.inf.stamp, .int .u32 r.inf.pkts, .int .u32 r.inf.octs, vb]] w fun e w' => ∃ vx, e = .returned (.tuple #[.agg #[.int .u8 (writeR r).1.1, .int .u8 (writeR r).1.2.1, vx], .int .i64 (writeR r).2]) ∧ SlI .u8 w' vx (writeR r).1.2.2.1 ∧ More w w' ∧ NewB w vx := by
  obtain ⟨s, src, i, bl⟩ := r
  obtain ⟨hsrc, ⟨i0, i1, i2, i3, i4⟩, hbl⟩ := hk
  simp only at *
  have SL := Lib.hid sl
  obtain ⟨oa, cap, rfl, hl63, hel⟩ := blks sl
  clear sl
  cases hr : rightR ⟨s, src, i, bl⟩ with
  | false =>
    rw [writeR_no hr]
    cases s with
    | true => exact (Write08_no_true src i bl oa cap SL (Lib.hid hr)).mono fun e w' ⟨h1, h2⟩ => ⟨_, h1, SlI.nil _ _, h2, NewB.nil w⟩
    | false => exact (Write08_no_false src i bl oa cap SL (Lib.hid hr)).mono fun e w' ⟨h1, h2⟩ => ⟨_, h1, SlI.nil _ _, h2, NewB.nil w⟩
  | true =>
    rw [writeR_yes hr]
    have hm8 : bl.length ≤ 8 := by
      obtain ⟨_, _, h9⟩ := (rightR_iff _).1 hr
      cases s <;> simp at h9 <;> omega
    cases s with
    | true => exact Write08_yes_true src i bl oa cap SL (Lib.hid hr) hm8 hsrc i0 i1 i2 i3 i4 hel hl63
    | false => exact Write08_yes_false src i bl oa cap SL (Lib.hid hr) hm8 hsrc i0 i1 i2 i3 i4 hel hl63
theorem Write08_any {w : World} {vb : Value} (r : Rep) (sl : SlP 7 RBlk w vb r.bl) (hk : RepOK r) :
    Calls Try.prog 16 #[.agg #[.bool r.snd, .int .u32 r.src, .int .u32 r.inf.sec, .int .u32 r.inf.frac, .int .u32 r.inf.stamp, .int .u32 r.inf.pkts, .int .u32 r.inf.octs, vb]] w fun e w' => ∃ vx, e = .returned (.tuple #[.agg #[.int .u8 (writeR r).1.1, .int .u8 (writeR r).1.2.1, vx], .int .i64 (writeR r).2]) ∧ SlI .u8 w' vx (writeR r).1.2.2.1 ∧ More w w' := by
  exact (Write08_new r sl hk).mono fun e w' ⟨vx, h1, h2, h3, _⟩ => ⟨vx, h1, h2, h3⟩
end Go.Proofs.Ytlnikmcimmnbmaa
