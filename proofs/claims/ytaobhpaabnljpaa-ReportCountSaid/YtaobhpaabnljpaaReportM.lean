/- The law ReportCount. -/
import Derived.Test.YtaobhpaabnljpaaReportL
namespace Go.Proofs.Ytaobhpaabnljpaa
open Go.RowKit
set_option maxRecDepth 100000

theorem ReportCount_no {w : World} (o1 : Option Addr) (k1 : Nat) (r : Rep) (cnt : Int) (SR : Hid (SlP 7 RBlk w (.slice o1 r.bl.length k1) r.bl)) (okr : RepOK r) (hn0 : 0 ≤ cnt) (hn1 : cnt ≤ 255) (hl1 : ¬ (40 : Int) < (r.bl.length : Int)) (HW : Hid (writeR r = ((0, 0, [], ()), 1))) :
    Calls Try.prog 11 #[.agg #[.bool r.snd, .int .u32 r.src, .int .u32 r.inf.sec, .int .u32 r.inf.frac, .int .u32 r.inf.stamp, .int .u32 r.inf.pkts, .int .u32 r.inf.octs, .slice o1 r.bl.length k1], .int .u8 cnt] w fun e w' => e = .returned (.bool true) ∧ More w w' := by
  go_enter Try.func11, Try.ntmps11
  go_wp2_with first | (go_at_call 46; refine (awake08 _).mono ?_; rintro e w1 ⟨rfl, m1⟩; have A1 := blk_more m1 (blk_new w (.cells #[.bool r.snd, .int .u32 r.src, .int .u32 r.inf.sec, .int .u32 r.inf.frac, .int .u32 r.inf.stamp, .int .u32 r.inf.pkts, .int .u32 r.inf.octs, .slice o1 r.bl.length k1] 82)); have M1 := (More.alloc w (.cells #[.bool r.snd, .int .u32 r.src, .int .u32 r.inf.sec, .int .u32 r.inf.frac, .int .u32 r.inf.stamp, .int .u32 r.inf.pkts, .int .u32 r.inf.octs, .slice o1 r.bl.length k1] 82)).trans m1; have a0 := blk_cell A1 0 (v := .bool r.snd) rfl; have a1 := blk_cell A1 1 (v := .int .u32 r.src) rfl; have a2 := blk_cell A1 2 (v := .int .u32 r.inf.sec) rfl; have a3 := blk_cell A1 3 (v := .int .u32 r.inf.frac) rfl; have a4 := blk_cell A1 4 (v := .int .u32 r.inf.stamp) rfl; have a5 := blk_cell A1 5 (v := .int .u32 r.inf.pkts) rfl; have a6 := blk_cell A1 6 (v := .int .u32 r.inf.octs) rfl; have a7 := blk_cell A1 7 (v := .slice o1 r.bl.length k1) rfl) | (go_at_call 47; ((with_reducible refine (Write08_any r (SR.out.keep keepsBlk M1) okr).mono ?_); rintro e w2 ⟨vd, rfl, sd, m2⟩; rw [HW.out]; rw [HW.out] at sd; obtain ⟨od, kd, rfl, _⟩ := sd))
  go_ret
  exact ⟨rfl, (M1.trans m2).al _⟩
theorem ReportCount_law (c1 : Array Value) (r : Rep) (cnt : Int) (w : World) (hr : RRep w c1.toList r) (hn : 0 ≤ cnt ∧ cnt ≤ 255) :
    Calls Try.prog 11 #[.agg c1, .int .u8 cnt] w fun e w' => e = .returned (.bool true) ∧ More w w' := by
  obtain ⟨o1, k1, rfl, sr, okr⟩ := rep_cells hr
  obtain ⟨hn0, hn1⟩ := hn
  clear hr
  have SR := Lib.hid sr
  clear sr
  by_cases hl1 : (40 : Int) < (r.bl.length : Int)
  · go_enter Try.func11, Try.ntmps11
    go_wp2_with (go_at_call 46; refine (awake08 _).mono ?_; rintro e w1 ⟨rfl, m1⟩; have A1 := blk_more m1 (blk_new w (.cells #[.bool r.snd, .int .u32 r.src, .int .u32 r.inf.sec, .int .u32 r.inf.frac, .int .u32 r.inf.stamp, .int .u32 r.inf.pkts, .int .u32 r.inf.octs, .slice o1 r.bl.length k1] 82)); have a7 := blk_cell A1 7 (v := .slice o1 r.bl.length k1) rfl)
    go_ret
    exact ⟨rfl, (More.alloc _ _).trans m1⟩
  cases hR : rightR r with
  | false => exact ReportCount_no o1 k1 r cnt SR okr hn0 hn1 hl1 (Lib.hid (writeR_no hR))
  | true =>
    obtain ⟨hl, h8, h196⟩ := count_len hR
    have hb := (writeR_ok okr).byt
    have hw := writeR_yes hR
    rw [hw] at hb
    have hF := count_cut hR
    have hG := count_pad hR
    have hH := count_other hR (cnt % 32) (by omega)
    have hpl : (repB r ++ [0, 0, 0, 0]).length = (repB r).length + 4 := by simp
    rw [hpl] at hG
    obtain ⟨s, src, i, bl⟩ := r
    cases s with
    | true =>
      simp only [if_true] at hl hw hF hG hH hb
      by_cases hm : (196 : Int) < ((repB ⟨true, src, i, bl⟩).length : Int) + 4
      · exact ReportCount_true_more o1 k1 src i bl cnt SR okr h8 hn0 hn1 _ hb (Lib.hid hw) h196 (by omega) (by simp only [bne_eq_false_iff_eq]; omega) (by omega) _ _ (Lib.hid hF) (Lib.hid rfl) (Lib.hid rfl) hm (Lib.hid hH)
      · exact ReportCount_true_less o1 k1 src i bl cnt SR okr h8 hn0 hn1 _ hb (Lib.hid hw) h196 (by omega) (by simp only [bne_eq_false_iff_eq]; omega) (by omega) 4 _ (Lib.hid hF) (Lib.hid (by rcases hG with h | h; exact h; omega)) (Lib.hid rfl) hm (Lib.hid hH)
    | false =>
      simp only [Bool.false_eq_true, if_false] at hl hw hF hG hH hb
      by_cases hm : (196 : Int) < ((repB ⟨false, src, i, bl⟩).length : Int) + 4
      · exact ReportCount_false_more o1 k1 src i bl cnt SR okr h8 hn0 hn1 _ hb (Lib.hid hw) h196 (by omega) (by simp only [bne_eq_false_iff_eq]; omega) (by omega) _ _ (Lib.hid hF) (Lib.hid rfl) (Lib.hid rfl) hm (Lib.hid hH)
      · exact ReportCount_false_less o1 k1 src i bl cnt SR okr h8 hn0 hn1 _ hb (Lib.hid hw) h196 (by omega) (by simp only [bne_eq_false_iff_eq]; omega) (by omega) 4 _ (Lib.hid hF) (Lib.hid (by rcases hG with h | h; exact h; omega)) (Lib.hid rfl) hm (Lib.hid hH)
end Go.Proofs.Ytaobhpaabnljpaa
