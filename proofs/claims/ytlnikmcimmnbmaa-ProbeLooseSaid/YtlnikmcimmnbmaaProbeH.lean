/- The law ProbeBegins, walked. -/
import Derived.Test.YtlnikmcimmnbmaaProbeG
import Derived.Deep.Cut
import Derived.Deep.CutRange
import Derived.Deep.CutBlock
namespace Go.Proofs.Ytlnikmcimmnbmaa
set_option linter.unusedSimpArgs false
set_option linter.unusedVariables false
open Go.RowKit Go.ChangeShapes
set_option maxRecDepth 100000

def RDs : Reader Ds := fun _ cs d => cs = [.bool d.lo, .bool d.st, .int .u8 d.pt, .int .i64 d.pic, .bool d.wd, .int .i64 d.bs, .int .i64 d.tr, .bool d.sy, .int .i64 d.ky] ∧ DsOK d
def TDs : Reader (Bool × Bool × Int × Int × Bool × Int × Int × Bool × Int × Unit) := RCons 1 RBool (RCons 1 RBool (RCons 1 (RInt .u8) (RCons 1 (RInt .i64) (RCons 1 RBool (RCons 1 (RInt .i64) (RCons 1 (RInt .i64) (RCons 1 RBool (RCons 1 (RInt .i64) RNil))))))))
theorem ds_of_t {w : World} {cs : List Value} {y : Bool × Bool × Int × Int × Bool × Int × Int × Bool × Int × Unit} (hl : cs.length = 9) (h : TDs w cs y) : ∃ z, RDs w cs z := by
  match cs, hl with
  | [k0, k1, k2, k3, k4, k5, k6, k7, k8], _ =>
    obtain ⟨r0, r1, ⟨r2, b2⟩, ⟨r3, _⟩, r4, ⟨r5, _⟩, ⟨r6, _⟩, r7, ⟨r8, _⟩, _⟩ := h
    simp [RBool] at r0 r1 r2 r3 r4 r5 r6 r7 r8
    subst r0 r1 r2 r3 r4 r5 r6 r7 r8
    exact ⟨⟨_, _, _, _, _, _, _, _, _⟩, rfl, ⟨bounds_u8 b2⟩⟩
theorem trod_len6 {P : Program} {t : TypeId} {fs : Array Field} {n : Nat} (ht : P.underlying t = some (.struct fs)) (hn : P.cellsOf t = n) (H : Type) (enc : TypeId × Value → H) (w : World) (base : Nat) (spare : Nat → Bool) (held : Bool) (fuel : Nat) (cs : List Value) (x : DataW H × List MemPlace)
    (h : DataW.trod enc P w base spare held fuel t cs = some x) : cs.length = n := by
  obtain ⟨_, _, _, _, hl, _⟩ := DataW.trod_struct ht h
  rw [hl, hn]
theorem opensDs : Opens Try.prog 77 RDs := fun H enc w base spare held fuel cs x hx => by
  obtain ⟨y, hy⟩ := (Opens.struct (R := TDs) Try.underlying77 (by kernel_rfl) (OpensF.cons rfl (by kernel_rfl) (Opens.bool Try.underlying4) (OpensF.cons rfl (by kernel_rfl) (Opens.bool Try.underlying4) (OpensF.cons rfl (by kernel_rfl) (Opens.int Try.underlying5) (OpensF.cons rfl (by kernel_rfl) (Opens.int Try.underlying3) (OpensF.cons rfl (by kernel_rfl) (Opens.bool Try.underlying4) (OpensF.cons rfl (by kernel_rfl) (Opens.int Try.underlying3) (OpensF.cons rfl (by kernel_rfl) (Opens.int Try.underlying3) (OpensF.cons rfl (by kernel_rfl) (Opens.bool Try.underlying4) (OpensF.cons rfl (by kernel_rfl) (Opens.int Try.underlying3) OpensF.nil)))))))))) H enc w base spare held fuel cs x hx
  exact ds_of_t (trod_len6 Try.underlying77 (by kernel_rfl) H enc w base spare held fuel cs x hx) hy
theorem dsB_le {d : Ds} : (dsB d).length ≤ 40 := by
  have h1 := bysA_le (oneD d) 1
  have h2 := bysA_le (toldD d) 1
  have h3 := bysA_le (32768 + d.pic) 2
  have h4 := bysA_le d.pic 1
  have h5 := bysA_le d.bs 1
  have h6 := bysA_le (lastD d) 1
  unfold dsB
  simp only [List.length_append]
  have e1 : (if toldD d ≠ 0 then bysA (toldD d) 1 else []).length ≤ 8 := by (split; exact bysA_le _ _; simp)
  have e2 : (if d.wd then bysA (32768 + d.pic) 2 else if d.pic ≠ -1 then bysA d.pic 1 else []).length ≤ 8 := by
    split
    · exact bysA_le _ _
    · split
      · exact bysA_le _ _
      · simp
  have e3 : (if d.bs ≠ -1 then bysA d.bs 1 else []).length ≤ 8 := by (split; exact bysA_le _ _; simp)
  have e4 : (if d.tr ≠ -1 ∨ d.ky ≠ -1 then bysA (lastD d) 1 else []).length ≤ 8 := by (split; exact bysA_le _ _; simp)
  omega
theorem byt_bysA (n s : Int) : Byt (bysA n s) := by
  unfold bysA
  split
  · exact Byt_bys _ _
  · exact byt_nil
theorem dsB_byt (d : Ds) : Byt (dsB d) := by
  unfold dsB
  refine byt_app (byt_app (byt_app (byt_app (byt_bysA _ _) ?_) ?_) ?_) ?_
  · split; exact byt_bysA _ _; exact byt_nil
  · split; exact byt_bysA _ _; split; exact byt_bysA _ _; exact byt_nil
  · split; exact byt_bysA _ _; exact byt_nil
  · split; exact byt_bysA _ _; exact byt_nil
set_option maxHeartbeats 8000000 in
theorem ProbeBegins_law (cs : Array Value) (d : Ds) (v : Value) (rest : List Int) (w : World) (rd : RDs w cs.toList d) (sl : SlI .u8 w v rest) (hb : Byt rest) :
    Calls Try.prog 6 #[.agg cs, v] w fun e w' => e = .returned (.bool true) ∧ More w w' := by
  obtain ⟨hcs, hok⟩ := rd
  obtain rfl : cs = #[.bool d.lo, .bool d.st, .int .u8 d.pt, .int .i64 d.pic, .bool d.wd, .int .i64 d.bs, .int .i64 d.tr, .bool d.sy, .int .i64 d.ky] := by cases cs; simpa using hcs
  clear hcs
  have SL := Lib.hid sl
  obtain ⟨i0, hi, hz0, hz1, hz2⟩ := info_parts Try.info_u8
  obtain ⟨ov, cv, rfl, hlv, hel, _⟩ := sl
  by_cases hlen : (300 : Int) < (rest.length : Int)
  · clear hel
    go_enter Try.func6, Try.ntmps6
    go_wp2_with (go_at_call 38; refine (awake06 _).mono ?_; rintro e w1 ⟨rfl, hm1⟩)
    go_ret
    exact ⟨rfl, (More.alloc _ _).trans hm1⟩
  · have hl300 : rest.length ≤ 300 := by omega
    cases hr : rightD d with
    | false =>
      have HR := Lib.hid hr
      clear hel hr
      go_enter Try.func6, Try.ntmps6
      go_wp2_with first | (go_at_call 38; refine (awake06 _).mono ?_; rintro e w1 ⟨rfl, hm1⟩; have B1 := Lib.hid (blk_more hm1 (blk_new w (.cells #[.bool d.lo, .bool d.st, .int .u8 d.pt, .int .i64 d.pic, .bool d.wd, .int .i64 d.bs, .int .i64 d.tr, .bool d.sy, .int .i64 d.ky] 77))); have M1 := Lib.hid ((More.alloc w (.cells #[.bool d.lo, .bool d.st, .int .u8 d.pt, .int .i64 d.pic, .bool d.wd, .int .i64 d.bs, .int .i64 d.tr, .bool d.sy, .int .i64 d.ky] 77)).trans hm1); clear hm1; have f0 := blk_cell B1.out 0 (v := .bool d.lo) rfl; have f1 := blk_cell B1.out 1 (v := .bool d.st) rfl; have f2 := blk_cell B1.out 2 (v := .int .u8 d.pt) rfl; have f3 := blk_cell B1.out 3 (v := .int .i64 d.pic) rfl; have f4 := blk_cell B1.out 4 (v := .bool d.wd) rfl; have f5 := blk_cell B1.out 5 (v := .int .i64 d.bs) rfl; have f6 := blk_cell B1.out 6 (v := .int .i64 d.tr) rfl; have f7 := blk_cell B1.out 7 (v := .bool d.sy) rfl; have f8 := blk_cell B1.out 8 (v := .int .i64 d.ky) rfl) | (go_at_call 39; ((with_reducible refine (ProbeBytes_no d HR.out _).mono ?_); rintro e w2 ⟨rfl, m2⟩; have M2 := Lib.hid (M1.out.trans m2); clear m2))
      go_ret
      exact ⟨rfl, M2.out⟩
    | true =>
      have HR := Lib.hid hr
      obtain ⟨WB, hWB⟩ : ∃ WB, WB = (d.st && decide (d.pt = 0) && decide (0 < rest.length) && decide (rest.getD 0 0 % 2 = 0)) := ⟨_, rfl⟩
      have hg1 : beginsD (dsB d ++ rest) = WB := by rw [hWB]; exact begins_dsB hr hok rest
      have hg2 : beginsD (dsB d) = false := by
        have := begins_dsB hr hok []
        rw [List.append_nil] at this
        rw [this]
        simp
      have hby := byt_app (dsB_byt d) hb
      have hle := dsB_le (d := d)
      have HG1 := Lib.hid hg1
      have HG2 := Lib.hid hg2
      have HBY := Lib.hid hby
      have HBD := Lib.hid (dsB_byt d)
      have HOK := Lib.hid hok
      have HWB := Lib.hid hWB
      have HEL := Lib.hid hel
      have HB := Lib.hid hb
      have hpt := hok.pt
      clear hg1 hg2 hby hok hWB hel hr hb
      go_enter Try.func6, Try.ntmps6
      go_upto_region 8 with (first | (go_at_call 38; refine (awake06 _).mono ?_; rintro e w1 ⟨rfl, hm1⟩; have B1 := Lib.hid (blk_more hm1 (blk_new w (.cells #[.bool d.lo, .bool d.st, .int .u8 d.pt, .int .i64 d.pic, .bool d.wd, .int .i64 d.bs, .int .i64 d.tr, .bool d.sy, .int .i64 d.ky] 77))); have M1 := Lib.hid ((More.alloc w (.cells #[.bool d.lo, .bool d.st, .int .u8 d.pt, .int .i64 d.pic, .bool d.wd, .int .i64 d.bs, .int .i64 d.tr, .bool d.sy, .int .i64 d.ky] 77)).trans hm1); clear hm1; have f0 := blk_cell B1.out 0 (v := .bool d.lo) rfl; have f1 := blk_cell B1.out 1 (v := .bool d.st) rfl; have f2 := blk_cell B1.out 2 (v := .int .u8 d.pt) rfl; have f3 := blk_cell B1.out 3 (v := .int .i64 d.pic) rfl; have f4 := blk_cell B1.out 4 (v := .bool d.wd) rfl; have f5 := blk_cell B1.out 5 (v := .int .i64 d.bs) rfl; have f6 := blk_cell B1.out 6 (v := .int .i64 d.tr) rfl; have f7 := blk_cell B1.out 7 (v := .bool d.sy) rfl; have f8 := blk_cell B1.out 8 (v := .int .i64 d.ky) rfl) | (go_at_call 39; ((with_reducible refine (ProbeBytes_yes d HOK.out HR.out _).mono ?_); rintro e w2 ⟨⟨v2, rfl, ho⟩, m2⟩; have S2 := Lib.hid (SlI.of_owns ho (by omega)); have M2 := Lib.hid (M1.out.trans m2); have B2 := Lib.hid (blk_more m2 B1.out); have g1 := blk_cell B2.out 1 (v := .bool d.st) rfl; have g2 := blk_cell B2.out 2 (v := .int .u8 d.pt) rfl; clear m2 ho f0 f1 f2 f3 f4 f5 f6 f7 f8)))
      have SR := Lib.hid (SL.out.keep M2.out)
      go_cut [7] from 20 (fun s7 wx => s7 = .bool WB ∧ wx = w2)
      case first =>
        by_cases hst : d.st = false
        · have HX : Hid (WB = false) := Lib.hid (by rw [HWB.out, hst]; rfl)
          rw [hst] at g1
          clear hst
          go_wp2
          go_meet
          exact ⟨by rw [HX.out], rfl⟩
        · replace hst : d.st = true := by simpa using hst
          rw [hst] at g1
          by_cases hp : d.pt = 0
          · by_cases hl0 : rest.length = 0
            · have HX : Hid (WB = false) := Lib.hid (by rw [HWB.out, decide_eq_false (show ¬ 0 < rest.length by omega)]; simp)
              have hl0i : ¬ (0 : Int) < (rest.length : Int) := by omega
              rw [hp] at g2
              clear hst hp hl0
              go_wp2
              go_meet
              exact ⟨by rw [HX.out], rfl⟩
            · obtain ⟨bb, off, rfl, hbw, hc⟩ := HEL.out 0 (by omega)
              have HX : Hid (WB = decide (rest.getD 0 0 % 2 = 0)) := Lib.hid (by rw [HWB.out, hst, decide_eq_true hp, decide_eq_true (show 0 < rest.length by omega)]; simp)
              have hl0i : (0 : Int) < (rest.length : Int) := by omega
              have hl0n : 0 < rest.length := by omega
              have hbk := HB.out 0
              have hc2 : w2.cell? ⟨bb, off, none⟩ = some (.int .u8 (rest.getD 0 0)) := by rw [M2.out.cells bb _ hbw]; exact hc
              rw [hp] at g2
              clear hst hp hc hl0
              generalize rest.getD 0 0 = x at *
              obtain ⟨x0, x1⟩ := hbk
              go_wp2
              go_meet
              exact ⟨by rw [HX.out]; first | rfl | (congr 1; rw [Bool.eq_iff_iff]; simp), rfl⟩
          · have HX : Hid (WB = false) := Lib.hid (by rw [HWB.out, decide_eq_false hp]; simp)
            have hp' : (d.pt == 0) = false := by simpa using hp
            clear hst hp
            go_wp2
            go_meet
            exact ⟨by rw [HX.out], rfl⟩
      case rest =>
        obtain ⟨rfl, rfl⟩ := hcut
        clear g1 g2
        go_wp2_with first | (at_builtin; refine wpList_append_sl _ rfl (.tmp 39) (.tmp 40) 28 rfl wc.heap.size 5 i0 (.int .u8 0) 1 Try.underlying28 hi hz0 hz1 hz2 rfl _ .u8 [] rfl (World.ownsRow_lit (e := 5) (size := 1) (base := wc.heap.size) wc #[] 0 (Nat.le_refl _) (by unfold maxLen; omega) rfl) v2 (dsB d) rfl (S2.out.keep (More.alloc _ _)) (by simp; omega) (by decide) (by simp) ?_; intro v3 w3 ho3 hg3; have HO3 := Lib.hid ho3; have G3 : Hid (More wc w3) := Lib.hid ((More.alloc wc (.cells #[] 5)).grown hg3 (More.alloc wc (.cells #[] 5)).size (fun z hz => by cases hz; exact Nat.le_refl _)); clear ho3 hg3) | (at_builtin; refine wpList_append_sl _ rfl (.tmp 41) (.tmp 42) 28 rfl wc.heap.size 5 i0 (.int .u8 0) 1 Try.underlying28 hi hz0 hz1 hz2 rfl _ .u8 ([] ++ dsB d) rfl HO3.out _ rest rfl (SR.out.keep G3.out) (by simp; omega) (by decide) G3.out.size ?_; intro v4 w4 ho4 hg4; rw [List.nil_append] at ho4; have S4 := Lib.hid (SlI.of_owns ho4 (by rw [List.length_append]; omega)); have G4 : Hid (More wc w4) := Lib.hid (G3.out.grown hg4 G3.out.size (fun z hz => owns_ge HO3.out hz)); clear ho4 hg4) | (go_at_call 40; ((with_reducible refine (BeginsD_any v4 (dsB d ++ rest) w4 S4.out HBY.out (by rw [List.length_append]; omega)).mono ?_); rintro e w5 ⟨rfl, m5⟩; rw [HG1.out]; have G5 := Lib.hid (G4.out.trans m5); have S5 := Lib.hid (S2.out.keep (G4.out.trans m5)); clear m5)) | (go_at_call 40; ((with_reducible refine (BeginsD_any v2 (dsB d) w5 S5.out HBD.out (by omega)).mono ?_); rintro e w6 ⟨rfl, m6⟩; rw [HG2.out]; have G6 := Lib.hid (G5.out.trans m6); clear m6))
        go_ret
        exact ⟨rfl, M2.out.trans G6.out⟩
end Go.Proofs.Ytlnikmcimmnbmaa
