/- Descriptions: their bytes. -/
import Derived.Test.YtlnikmcimmnbmaaProbeA
import Derived.Test.YtlnikmcimmnbmaaProbeB
import Derived.Deep.CutBlock
import Derived.Deep.CutRange
namespace Go.Proofs.Ytlnikmcimmnbmaa
set_option linter.unusedSimpArgs false
set_option linter.unusedVariables false
open Go.RowKit
set_option maxRecDepth 100000

/-- The writer of a description's bytes, beside the description. -/
def WrD (w0 w : World) (W : Nat) (B : Nat) (o : Obj) (l : List Int) : Prop := (∃ v, WrK w0 w W v l B o) ∧ l.length ≤ 100
theorem WrD.wrote {w0 w w' : World} {W B : Nat} {o : Obj} {l l' : List Int} {v : Value} (h : WrK w0 w W v l B o) (x : Wrote w w' W v l') (hl : l'.length ≤ 100) : WrD w0 w' W B o l' := ⟨h.wrote x, hl⟩
theorem WrD.start {w w2 : World} {o : Obj} (m : More (w.alloc o) w2) : WrD w (w2.alloc (.cells #[.slice none 0 0] 138)) w2.heap.size w.heap.size o [] := by
  have hlt : w.heap.size < w2.heap.size := blk_lt (blk_more m (blk_new w o))
  exact ⟨⟨_, writer_new w2, ((More.alloc w o).trans m).al _, Nat.le_of_lt hlt, blk_alloc (blk_more m (blk_new w o)) _, by omega, by simp [Value.ownBlock]⟩, by simp⟩
theorem WrD.cell {w0 w : World} {W B : Nat} {cs : Array Value} {t : TypeId} {l : List Int} (h : WrD w0 w W B (.cells cs t (0, 0)) l) (i : Nat) {v : Value} (hi : cs[i]? = some v) : w.cell? ⟨B, i, none⟩ = some v := by
  obtain ⟨⟨v', k⟩, _⟩ := h
  exact blk_cell k.keep i hi
theorem bysA_le (n s : Int) : (bysA n s).length ≤ 8 := by
  unfold bysA
  split
  · rw [bys_length]; omega
  · simp
set_option maxHeartbeats 4000000 in
theorem ProbeBytes_yes (d : Ds) (hk : DsOK d) (hr : rightD d = true) (w : World) :
    Calls Try.prog 39 #[.agg #[.bool d.lo, .bool d.st, .int .u8 d.pt, .int .i64 d.pic, .bool d.wd, .int .i64 d.bs, .int .i64 d.tr, .bool d.sy, .int .i64 d.ky]] w fun e w' => (∃ v, e = .returned (.tuple #[v, .int .i64 0]) ∧ w'.ownsRow w.heap.size 5 1 v (dsB d).length ((dsB d).map (Value.int .u8))) ∧ More w w' := by
  obtain ⟨r1, ⟨r2, r3⟩, ⟨r4, r5⟩, ⟨r6, r7⟩, ⟨r8, r9⟩, r10, r11⟩ := (rightD_iff d).1 hr
  have hpt := hk.pt
  have t5 := (told_bits d).2.2.2.2.1
  have t6 := (told_bits d).2.2.2.2.2
  have o5 := (one_bits r1 hk).2.2.2.2.1
  have o6 := (one_bits r1 hk).2.2.2.2.2
  have l5 := (last_bits hr).2.2.2.1
  have l6 := (last_bits hr).2.2.2.2
  have HRD := Lib.hid (fun w => RightD_any d w)
  have HFL := Lib.hid (fun w => Flags_any d w)
  have HLA := Lib.hid (fun w => Last_any d w ⟨r6, r7⟩ ⟨r8, r9⟩)
  have hds : dsB d = bysA (oneD d) 1 ++ (if toldD d ≠ 0 then bysA (toldD d) 1 else []) ++ (if d.wd then bysA (32768 + d.pic) 2 else if d.pic ≠ -1 then bysA d.pic 1 else []) ++ (if d.bs ≠ -1 then bysA d.bs 1 else []) ++ (if d.tr ≠ -1 ∨ d.ky ≠ -1 then bysA (lastD d) 1 else []) := rfl
  have hon : oneD d = d.pt + b1 (decide (toldD d ≠ 0)) 128 + b1 d.lo 32 + b1 d.st 16 := rfl
  obtain ⟨Q1, q1, q2, hq1, hQ1⟩ : ∃ Q1, (toldD d = 0 → Q1 = []) ∧ (¬ toldD d = 0 → Q1 = bysA (toldD d) 1) ∧ Q1.length ≤ 8 ∧ Q1 = if toldD d ≠ 0 then bysA (toldD d) 1 else [] := ⟨if toldD d ≠ 0 then bysA (toldD d) 1 else [], fun h => by simp [h], fun h => by simp [h], by (split; exact bysA_le _ _; simp), rfl⟩
  obtain ⟨Q2, q3, q4, q5, hq2, hQ2⟩ : ∃ Q2, (d.wd = true → Q2 = bysA (32768 + d.pic) 2) ∧ (d.wd = false → d.pic = -1 → Q2 = []) ∧ (d.wd = false → ¬ d.pic = -1 → Q2 = bysA d.pic 1) ∧ Q2.length ≤ 8 ∧ Q2 = if d.wd then bysA (32768 + d.pic) 2 else if d.pic ≠ -1 then bysA d.pic 1 else [] := ⟨if d.wd then bysA (32768 + d.pic) 2 else if d.pic ≠ -1 then bysA d.pic 1 else [], fun h => by simp [h], fun h h2 => by simp [h, h2], fun h h2 => by simp [h, h2], by (split; exact bysA_le _ _; split; exact bysA_le _ _; simp), rfl⟩
  obtain ⟨Q3, q6, q7, hq3, hQ3⟩ : ∃ Q3, (d.bs = -1 → Q3 = []) ∧ (¬ d.bs = -1 → Q3 = bysA d.bs 1) ∧ Q3.length ≤ 8 ∧ Q3 = if d.bs ≠ -1 then bysA d.bs 1 else [] := ⟨if d.bs ≠ -1 then bysA d.bs 1 else [], fun h => by simp [h], fun h => by simp [h], by (split; exact bysA_le _ _; simp), rfl⟩
  obtain ⟨Q4, q8, q9, hq4, hQ4⟩ : ∃ Q4, (d.tr = -1 → d.ky = -1 → Q4 = []) ∧ ((¬ d.tr = -1 ∨ ¬ d.ky = -1) → Q4 = bysA (lastD d) 1) ∧ Q4.length ≤ 8 ∧ Q4 = if d.tr ≠ -1 ∨ d.ky ≠ -1 then bysA (lastD d) 1 else [] := ⟨if d.tr ≠ -1 ∨ d.ky ≠ -1 then bysA (lastD d) 1 else [], fun h h2 => by simp [h, h2], fun h => by rw [if_pos h], by (split; exact bysA_le _ _; simp), rfl⟩
  rw [hds, ← hQ1, ← hQ2, ← hQ3, ← hQ4]
  clear hQ1 hQ2 hQ3 hQ4
  clear hds hk
  generalize toldD d = TL at *
  generalize hO : oneD d = ON at *
  generalize lastD d = LA at *
  have hb := b1_cases (decide (TL ≠ 0)) 128
  have hb2 := b1_cases d.lo 32
  have X1 : Hid (bits .or .u8 d.pt 128 = d.pt + 128) := Lib.hid ((orB' hpt).1 (by omega))
  obtain ⟨F1, y1, y2, hy1⟩ : ∃ F1, (TL = 0 → F1 = d.pt) ∧ (¬ TL = 0 → F1 = d.pt + 128) ∧ F1 = d.pt + b1 (decide (TL ≠ 0)) 128 := ⟨_, fun h => by simp [b1, h], fun h => by simp [b1, h], rfl⟩
  have X2 : Hid (bits .or .u8 F1 32 = F1 + 32) := Lib.hid ((orB' (by omega)).2.2.1 (by omega))
  obtain ⟨F2, y3, y4, hy2⟩ : ∃ F2, (d.lo = false → F2 = F1) ∧ (d.lo = true → F2 = F1 + 32) ∧ F2 = F1 + b1 d.lo 32 := ⟨_, fun h => by simp [b1, h], fun h => by simp [b1, h], rfl⟩
  have X3 : Hid (bits .or .u8 F2 16 = F2 + 16) := Lib.hid ((orB' (by omega)).2.2.2 (by omega))
  have y5 : d.st = false → ON = F2 := fun h => by rw [hon, h, hy2, hy1]; simp [b1]
  have y6 : d.st = true → ON = F2 + 16 := fun h => by rw [hon, h, hy2, hy1]; simp [b1]
  obtain ⟨lo, st, pt, pic, wd, bs, tr, sy, ky⟩ := d
  simp only at q3 q4 q5 q6 q7 q8 q9 HRD HFL HLA r1 r2 r3 r4 r5 r6 r7 r8 r9 r10 r11 hpt X1 y1 y2 y3 y4 y5 y6 hr ⊢
  have Y1 := Lib.hid y1
  have Y2 := Lib.hid y2
  have Y3 := Lib.hid y3
  have Y4 := Lib.hid y4
  have Y5 := Lib.hid y5
  have Y6 := Lib.hid y6
  have Z1 := Lib.hid q1
  have Z2 := Lib.hid q2
  have Z3 := Lib.hid q3
  have Z4 := Lib.hid q4
  have Z5 := Lib.hid q5
  have Z6 := Lib.hid q6
  have Z7 := Lib.hid q7
  have Z8 := Lib.hid q8
  have Z9 := Lib.hid q9
  have R10 := Lib.hid r10
  have HRI := Lib.hid hr
  have HO := Lib.hid hO
  clear q1 q2 q3 q4 q5 q6 q7 q8 q9 hon hy1 hy2 y1 y2 y3 y4 y5 y6 r10 r11 hb hb2 hr hO
  have hw2 : wd = true → pic ≤ 32767 := fun e => by rw [e] at r3; simpa using r3
  have hw1 : wd = false → pic ≤ 127 := fun e => by rw [e] at r3; simpa using r3
  have HW2 := Lib.hid hw2
  have HW1 := Lib.hid hw1
  clear r3 hw1 hw2
  go_enter Try.func39, Try.ntmps39
  go_upto_if 15 with (first | (go_at_call 97; ((with_reducible refine (HRD.out _).mono ?_); rintro e w1 ⟨rfl, m1⟩; rw [HRI.out]; have M1 := Lib.hid m1; have BX := Lib.hid (blk_more m1 (blk_new w (.cells #[.bool lo, .bool st, .int .u8 pt, .int .i64 pic, .bool wd, .int .i64 bs, .int .i64 tr, .bool sy, .int .i64 ky] 77))); clear m1; have f0 := blk_cell BX.out 0 (v := .bool lo) rfl; have f1 := blk_cell BX.out 1 (v := .bool st) rfl; have f2 := blk_cell BX.out 2 (v := .int .u8 pt) rfl; have f3 := blk_cell BX.out 3 (v := .int .i64 pic) rfl; have f4 := blk_cell BX.out 4 (v := .bool wd) rfl; have f5 := blk_cell BX.out 5 (v := .int .i64 bs) rfl; have f6 := blk_cell BX.out 6 (v := .int .i64 tr) rfl; have f7 := blk_cell BX.out 7 (v := .bool sy) rfl; have f8 := blk_cell BX.out 8 (v := .int .i64 ky) rfl)) | (go_at_call 98; ((with_reducible refine (HFL.out _).mono ?_); rintro e w2 ⟨rfl, m2⟩; have M2 := Lib.hid (M1.out.trans m2); have BY := Lib.hid (blk_more m2 BX.out); clear m2 f0 f1 f2 f3 f4 f5 f6 f7 f8; have f0 := blk_cell BY.out 0 (v := .bool lo) rfl; have f1 := blk_cell BY.out 1 (v := .bool st) rfl; have f2 := blk_cell BY.out 2 (v := .int .u8 pt) rfl; have f3 := blk_cell BY.out 3 (v := .int .i64 pic) rfl; have f4 := blk_cell BY.out 4 (v := .bool wd) rfl; have f5 := blk_cell BY.out 5 (v := .int .i64 bs) rfl; have f6 := blk_cell BY.out 6 (v := .int .i64 tr) rfl; have f7 := blk_cell BY.out 7 (v := .bool sy) rfl; have f8 := blk_cell BY.out 8 (v := .int .i64 ky) rfl)))
  go_cut [5] from 15 (fun s5 wx => s5 = .int .u8 F1 ∧ wx = w2)
  case first =>
    by_cases h : TL = 0
    · have hq : (TL != 0) = false := by simpa using h
      have HE := Lib.hid (Y1.out h)
      clear h
      go_wp2
      go_meet
      exact ⟨by rw [HE.out], rfl⟩
    · have hq : (TL != 0) = true := by simpa using h
      have HE := Lib.hid (Y2.out h)
      clear h
      have hx := X1.out
      go_wp2
      go_meet
      exact ⟨by rw [HE.out], rfl⟩
  case rest =>
    obtain ⟨rfl, rfl⟩ := hcut
    go_upto_if 19 with fail
    go_cut [5] from 19 (fun s5 wx => s5 = .int .u8 F2 ∧ wx = wc)
    case first =>
      cases lo with
      | false =>
        go_wp2
        go_meet
        exact ⟨by rw [Y3.out (by simp)], rfl⟩
      | true =>
        have hx := X2.out
        go_wp2
        go_meet
        exact ⟨by rw [Y4.out (by simp)], rfl⟩
    case rest =>
      obtain ⟨rfl, rfl⟩ := hcut
      go_upto_if 23 with fail
      go_cut [5] from 23 (fun s5 wx => s5 = .int .u8 ON ∧ wx = wc)
      case first =>
        cases st with
        | false =>
          go_wp2
          go_meet
          exact ⟨by rw [Y5.out (by simp)], rfl⟩
        | true =>
          have hx := X3.out
          go_wp2
          go_meet
          exact ⟨by rw [Y6.out (by simp)], rfl⟩
      case rest =>
        obtain ⟨rfl, rfl⟩ := hcut
        obtain ⟨⟨v0, hk0⟩, _⟩ := WrD.start M2.out
        have K0 := Lib.hid hk0
        clear hk0 Y1 Y2 Y3 Y4 Y5 Y6 X1 X2 X3 HRD HFL HRI HO
        clear f0 f1 f2 f3 f4 f5 f6 f7 f8
        go_upto_if 29 with (go_at_call 72; ((with_reducible refine (WByte_any K0.out.wr ON ⟨o5, o6⟩ (by decide)).mono ?_); rintro e w3 ⟨rfl, x3⟩; have W3 := Lib.hid (WrD.wrote K0.out x3 (by have := bysA_le ON 1; simp; omega)); clear x3; have f0 := WrD.cell W3.out 0 (v := .bool lo) rfl; have f1 := WrD.cell W3.out 1 (v := .bool st) rfl; have f2 := WrD.cell W3.out 2 (v := .int .u8 pt) rfl; have f3 := WrD.cell W3.out 3 (v := .int .i64 pic) rfl; have f4 := WrD.cell W3.out 4 (v := .bool wd) rfl; have f5 := WrD.cell W3.out 5 (v := .int .i64 bs) rfl; have f6 := WrD.cell W3.out 6 (v := .int .i64 tr) rfl; have f7 := WrD.cell W3.out 7 (v := .bool sy) rfl; have f8 := WrD.cell W3.out 8 (v := .int .i64 ky) rfl))
        generalize wc.heap.size = WW at *
        go_cut [] from 29 (fun wx => WrD w wx WW w.heap.size (.cells #[.bool lo, .bool st, .int .u8 pt, .int .i64 pic, .bool wd, .int .i64 bs, .int .i64 tr, .bool sy, .int .i64 ky] 77) (bysA ON 1 ++ Q1))
        case first =>
          by_cases h : TL = 0
          · have hq : (TL != 0) = false := by simpa using h
            have HX : Hid (WrD w w3 WW w.heap.size (.cells #[.bool lo, .bool st, .int .u8 pt, .int .i64 pic, .bool wd, .int .i64 bs, .int .i64 tr, .bool sy, .int .i64 ky] 77) (bysA ON 1 ++ Q1)) := Lib.hid (by rw [Z1.out h, List.append_nil]; simpa using W3.out)
            clear h
            go_wp2
            go_meet
            exact HX.out
          · have hq : (TL != 0) = true := by simpa using h
            obtain ⟨⟨v3, k3⟩, l3⟩ := W3.out
            have K3 := Lib.hid k3
            have HH := Lib.hid h
            clear k3 h
            go_wp2_with (go_at_call 72; ((with_reducible refine (WByte_any K3.out.wr TL ⟨t5, by omega⟩ (by omega)).mono ?_); rintro e w4 ⟨rfl, x4⟩; have W4 := Lib.hid (WrD.wrote K3.out x4 (by have := bysA_le ON 1; have := bysA_le TL 1; have := bysA_le (32768 + pic) 2; have := bysA_le pic 1; have := bysA_le bs 1; have := bysA_le LA 1; simp only [List.length_append, List.length_nil]; omega)); clear x4))
            go_meet
            rw [Z2.out HH.out]
            simpa using W4.out
        case rest =>
          have W5 := Lib.hid hcut
          clear W3 hcut f0 f1 f2 f3 f4 f5 f6 f7 f8
          have f0 := WrD.cell W5.out 0 (v := .bool lo) rfl; have f1 := WrD.cell W5.out 1 (v := .bool st) rfl; have f2 := WrD.cell W5.out 2 (v := .int .u8 pt) rfl; have f3 := WrD.cell W5.out 3 (v := .int .i64 pic) rfl; have f4 := WrD.cell W5.out 4 (v := .bool wd) rfl; have f5 := WrD.cell W5.out 5 (v := .int .i64 bs) rfl; have f6 := WrD.cell W5.out 6 (v := .int .i64 tr) rfl; have f7 := WrD.cell W5.out 7 (v := .bool sy) rfl; have f8 := WrD.cell W5.out 8 (v := .int .i64 ky) rfl
          go_upto_block 0 with fail
          go_cut [] from 32 (fun wx => WrD w wx WW w.heap.size (.cells #[.bool lo, .bool st, .int .u8 pt, .int .i64 pic, .bool wd, .int .i64 bs, .int .i64 tr, .bool sy, .int .i64 ky] 77) (bysA ON 1 ++ Q1 ++ Q2))
          case first =>
            obtain ⟨⟨v5, k5⟩, l5'⟩ := W5.out
            have K5 := Lib.hid k5
            have L5 := Lib.hid l5'
            clear k5 l5'
            cases wd with
            | true =>
              have p1 := R10.out (by simp)
              have p2 := HW2.out (by simp)
              have p0 : 0 ≤ pic := by omega
              clear p1
              go_wp2_with (go_at_call 86; ((with_reducible refine (WShort_any K5.out.wr (32768 + pic) (by omega) (by have := L5.out; omega)).mono ?_); rintro e w6 ⟨rfl, x6⟩; have W6 := Lib.hid (WrD.wrote K5.out x6 (by have := bysA_le ON 1; have := bysA_le TL 1; have := bysA_le (32768 + pic) 2; have := bysA_le pic 1; have := bysA_le bs 1; have := bysA_le LA 1; simp only [List.length_append, List.length_nil]; omega)); clear x6))
              go_meet
              rw [Z3.out (by simp)]
              exact W6.out
            | false =>
              by_cases h : pic = -1
              · have hq : (pic != -1) = false := by simpa using h
                have HX : Hid (Q2 = []) := Lib.hid (Z4.out (by simp) h)
                clear h
                go_wp2
                go_meet
                rw [HX.out, List.append_nil]
                exact ⟨⟨_, K5.out⟩, L5.out⟩
              · have hq : (pic != -1) = true := by simpa using h
                have p2 := HW1.out (by simp)
                have p0 : 0 ≤ pic := by omega
                have HH := Lib.hid h
                clear h
                go_wp2_with (go_at_call 72; ((with_reducible refine (WByte_any K5.out.wr pic (by omega) (by have := L5.out; omega)).mono ?_); rintro e w6 ⟨rfl, x6⟩; have W6 := Lib.hid (WrD.wrote K5.out x6 (by have := bysA_le ON 1; have := bysA_le TL 1; have := bysA_le (32768 + pic) 2; have := bysA_le pic 1; have := bysA_le bs 1; have := bysA_le LA 1; simp only [List.length_append, List.length_nil]; omega)); clear x6))
                go_meet
                rw [Z5.out (by simp) HH.out]
                exact W6.out
          case rest =>
            have W7 := Lib.hid hcut
            clear W5 hcut f0 f1 f2 f3 f4 f5 f6 f7 f8
            have f0 := WrD.cell W7.out 0 (v := .bool lo) rfl; have f1 := WrD.cell W7.out 1 (v := .bool st) rfl; have f2 := WrD.cell W7.out 2 (v := .int .u8 pt) rfl; have f3 := WrD.cell W7.out 3 (v := .int .i64 pic) rfl; have f4 := WrD.cell W7.out 4 (v := .bool wd) rfl; have f5 := WrD.cell W7.out 5 (v := .int .i64 bs) rfl; have f6 := WrD.cell W7.out 6 (v := .int .i64 tr) rfl; have f7 := WrD.cell W7.out 7 (v := .bool sy) rfl; have f8 := WrD.cell W7.out 8 (v := .int .i64 ky) rfl
            go_upto_if 50 with fail
            go_cut [] from 50 (fun wx => WrD w wx WW w.heap.size (.cells #[.bool lo, .bool st, .int .u8 pt, .int .i64 pic, .bool wd, .int .i64 bs, .int .i64 tr, .bool sy, .int .i64 ky] 77) (bysA ON 1 ++ Q1 ++ Q2 ++ Q3))
            case first =>
              obtain ⟨⟨v5, k5⟩, l5'⟩ := W7.out
              have K5 := Lib.hid k5
              have L5 := Lib.hid l5'
              clear k5 l5'
              by_cases h : bs = -1
              · have hq : (bs != -1) = false := by simpa using h
                have HX : Hid (Q3 = []) := Lib.hid (Z6.out h)
                clear h
                go_wp2
                go_meet
                rw [HX.out, List.append_nil]
                exact ⟨⟨_, K5.out⟩, L5.out⟩
              · have hq : (bs != -1) = true := by simpa using h
                have p0 : 0 ≤ bs := by omega
                have HH := Lib.hid h
                clear h
                go_wp2_with (go_at_call 72; ((with_reducible refine (WByte_any K5.out.wr bs (by omega) (by have := L5.out; omega)).mono ?_); rintro e w6 ⟨rfl, x6⟩; have W6 := Lib.hid (WrD.wrote K5.out x6 (by have := bysA_le ON 1; have := bysA_le TL 1; have := bysA_le (32768 + pic) 2; have := bysA_le pic 1; have := bysA_le bs 1; have := bysA_le LA 1; simp only [List.length_append, List.length_nil]; omega)); clear x6))
                go_meet
                rw [Z7.out HH.out]
                exact W6.out
            case rest =>
              have W9 := Lib.hid hcut
              clear W7 hcut f0 f1 f2 f3 f4 f5 f6 f7 f8
              have f0 := WrD.cell W9.out 0 (v := .bool lo) rfl; have f1 := WrD.cell W9.out 1 (v := .bool st) rfl; have f2 := WrD.cell W9.out 2 (v := .int .u8 pt) rfl; have f3 := WrD.cell W9.out 3 (v := .int .i64 pic) rfl; have f4 := WrD.cell W9.out 4 (v := .bool wd) rfl; have f5 := WrD.cell W9.out 5 (v := .int .i64 bs) rfl; have f6 := WrD.cell W9.out 6 (v := .int .i64 tr) rfl; have f7 := WrD.cell W9.out 7 (v := .bool sy) rfl; have f8 := WrD.cell W9.out 8 (v := .int .i64 ky) rfl
              obtain ⟨QB, hb1, hb2⟩ : ∃ QB : Bool, (QB = true → ¬ tr = -1 ∨ ¬ ky = -1) ∧ (QB = false → tr = -1 ∧ ky = -1) := ⟨decide (¬ tr = -1 ∨ ¬ ky = -1), fun h => by simpa using h, fun h => by simp at h; omega⟩
              have HB1 := Lib.hid hb1
              have HB2 := Lib.hid hb2
              clear hb1 hb2
              go_upto_region 21 with fail
              go_cut [62] from 55 (fun s62 wx => s62 = .bool QB ∧ wx = wc)
              case first =>
                cases QB with
                | false =>
                  obtain ⟨h1, h2⟩ := HB2.out (by simp)
                  have q1 : (tr != -1) = false := by simpa using h1
                  have q2 : (ky != -1) = false := by simpa using h2
                  clear h1 h2
                  go_wp2
                  go_meet
                  exact ⟨rfl, rfl⟩
                | true =>
                  have hh := HB1.out (by simp)
                  by_cases h1 : tr = -1
                  · have q1 : (tr != -1) = false := by simpa using h1
                    have q2 : (ky != -1) = true := by simp; omega
                    clear h1 hh
                    go_wp2
                    go_meet
                    exact ⟨rfl, rfl⟩
                  · have q1 : (tr != -1) = true := by simpa using h1
                    clear h1 hh
                    go_wp2
                    go_meet
                    exact ⟨rfl, rfl⟩
              case rest =>
              obtain ⟨rfl, rfl⟩ := hcut
              go_upto_if 62 with fail
              go_cut [] from 63 (fun wx => WrD w wx WW w.heap.size (.cells #[.bool lo, .bool st, .int .u8 pt, .int .i64 pic, .bool wd, .int .i64 bs, .int .i64 tr, .bool sy, .int .i64 ky] 77) (bysA ON 1 ++ Q1 ++ Q2 ++ Q3 ++ Q4))
              case first =>
                obtain ⟨⟨v5, k5⟩, l5'⟩ := W9.out
                have K5 := Lib.hid k5
                have L5 := Lib.hid l5'
                clear k5 l5'
                cases QB with
                | false =>
                  obtain ⟨h1, h2⟩ := HB2.out (by simp)
                  have HX := Lib.hid (Z8.out h1 h2)
                  clear h1 h2
                  go_wp2
                  go_meet
                  rw [HX.out, List.append_nil]
                  exact ⟨⟨_, K5.out⟩, L5.out⟩
                | true =>
                  have HX := Lib.hid (Z9.out (HB1.out (by simp)))
                  go_wp2_with first | (go_at_call 99; ((with_reducible refine (HLA.out _).mono ?_); rintro e w6 ⟨rfl, m6⟩; have N6 := Lib.hid (K5.out.on m6); clear m6)) | (go_at_call 72; ((with_reducible refine (WByte_any N6.out.wr LA ⟨l5, l6⟩ (by have := L5.out; omega)).mono ?_); rintro e w7 ⟨rfl, x7⟩; have W7' := Lib.hid (WrD.wrote N6.out x7 (by have := bysA_le ON 1; have := bysA_le LA 1; simp only [List.length_append]; omega)); clear x7))
                  go_meet
                  rw [HX.out]
                  exact W7'.out
              case rest =>
                obtain ⟨⟨v5, k5⟩, l5'⟩ := hcut
                have K5 := Lib.hid k5
                have HT := k5.base
                clear k5 W9 f0 f1 f2 f3 f4 f5 f6 f7 f8
                go_wp2_with (go_at_call 74; ((with_reducible refine (WBytes_any K5.out.wr (by omega)).mono ?_); rintro e w6 ⟨v6, rfl, ho, hm⟩; have HO := Lib.hid ho; have HM := Lib.hid hm; clear ho hm))
                go_ret2
                exact ⟨⟨_, rfl, owns_down HO.out K5.out.more.size⟩, K5.out.more.trans HM.out⟩
set_option maxHeartbeats 1000000 in
theorem ProbeBytes_no (d : Ds) (hr : rightD d = false) (w : World) :
    Calls Try.prog 39 #[.agg #[.bool d.lo, .bool d.st, .int .u8 d.pt, .int .i64 d.pic, .bool d.wd, .int .i64 d.bs, .int .i64 d.tr, .bool d.sy, .int .i64 d.ky]] w fun e w' => e = .returned (.tuple #[.slice none 0 0, .int .i64 1]) ∧ More w w' := by
  have HRI := Lib.hid hr
  clear hr
  go_enter Try.func39, Try.ntmps39
  go_wp2_with (go_at_call 97; ((with_reducible refine (RightD_any d _).mono ?_); rintro e w1 ⟨rfl, m1⟩; rw [HRI.out]; have M1 := Lib.hid m1; clear m1))
  go_ret2
  exact ⟨rfl, (More.alloc _ _).trans M1.out⟩
end Go.Proofs.Ytlnikmcimmnbmaa
