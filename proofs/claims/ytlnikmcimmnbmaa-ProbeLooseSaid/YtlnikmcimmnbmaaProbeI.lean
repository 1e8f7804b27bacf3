/- The law ProbeLoose, walked. -/
import Derived.Test.YtlnikmcimmnbmaaProbeH
import Derived.Test.YtlnikmcimmnbmaaOwnSet
namespace Go.Proofs.Ytlnikmcimmnbmaa
set_option linter.unusedSimpArgs false
set_option linter.unusedVariables false
open Go.RowKit
set_option maxRecDepth 100000

theorem owns_sl {w : World} {base e n : Nat} {v : Value} {k : IntKind} {l : List Int} (h : w.ownsRow base e 1 v n (l.map (Value.int k))) (hn : n = l.length) (h63 : (n : Int) ≤ 9223372036854775807) : SlI k w v l := by
  subst hn
  exact SlI.of_owns h h63
set_option maxHeartbeats 8000000 in
theorem ProbeLoose_law (v : Value) (b : List Int) (w : World) (sl : SlI .u8 w v b) (hb : Byt b) :
    Calls Try.prog 7 #[v] w fun e w' => e = .returned (.bool true) ∧ More w w' := by
  have SL := Lib.hid sl
  obtain ⟨i0, hi, hz0, hz1, hz2⟩ := info_parts Try.info_u8
  obtain ⟨ov, cv, rfl, hlv, hel, _⟩ := sl
  clear hel
  by_cases hl0 : b.length = 0
  · have hl0i : (b.length : Int) = 0 := by omega
    go_enter Try.func7, Try.ntmps7
    go_wp2_with (go_at_call 38; refine (awake06 _).mono ?_; rintro e w1 ⟨rfl, hm1⟩)
    go_ret
    exact ⟨rfl, hm1⟩
  by_cases hlen : (300 : Int) < (b.length : Int)
  · have hl0i : ((b.length : Int) == 0) = false := by rw [beq_eq_false_iff_ne]; omega
    clear hl0
    go_enter Try.func7, Try.ntmps7
    go_wp2_with (go_at_call 38; refine (awake06 _).mono ?_; rintro e w1 ⟨rfl, hm1⟩)
    go_ret
    exact ⟨rfl, hm1⟩
  have hl300 : b.length ≤ 300 := by omega
  have hl0i : ((b.length : Int) == 0) = false := by rw [beq_eq_false_iff_ne]; omega
  obtain ⟨x, r, hB⟩ : ∃ x r, b = x :: r := by
    cases b with
    | nil => exact absurd rfl hl0
    | cons x r => exact ⟨x, r, rfl⟩
  have hx : 0 ≤ x ∧ x ≤ 255 := by rw [hB] at hb; simpa using hb 0
  have HRL := Lib.hid (readD_loose hb).1
  have HBL := Lib.hid (begins_loose hb)
  have hby : Byt (loose b) := by
    rw [hB] at hb ⊢
    obtain ⟨⟨_, _, _, _, a5, a6, _⟩, _⟩ := flips' hx
    cases r with
    | nil =>
      intro i
      match i with
      | 0 => exact ⟨a5, a6⟩
      | i + 1 => simp [loose]
    | cons y r =>
      have hy : 0 ≤ y ∧ y ≤ 255 := by simpa using hb 1
      obtain ⟨_, _, _, c5, c6⟩ := flips' hy
      intro i
      match i with
      | 0 => exact ⟨a5, a6⟩
      | 1 => show 0 ≤ (if 128 ≤ flip1 x then flip2 y else y) ∧ (if 128 ≤ flip1 x then flip2 y else y) ≤ 255; split <;> omega
      | i + 2 => exact hb (i + 2)
  have HLB := Lib.hid hby
  have tok1 : True := trivial
  have tok2 : True := trivial
  have EG := ds_guard
  have qe := fun w => ds_eql (readD b).1.lo (readD b).1.st (readD b).1.pt (readD b).1.pic (readD b).1.wd (readD b).1.bs (readD b).1.tr (readD b).1.sy (readD b).1.ky w
  have x5 := (flips' hx).1.2.2.2.2.1
  have x6 := (flips' hx).1.2.2.2.2.2.1
  have HB := Lib.hid hB
  have hbl : 0 < b.length := by omega
  clear hby hB hl0
  obtain ⟨F1, hF1⟩ : ∃ F1, F1 = flip1 x := ⟨_, rfl⟩
  rw [← hF1] at x5 x6
  have HF1 := Lib.hid hF1
  have hxor : bits .xor .u8 x 72 = F1 := hF1.symm
  obtain ⟨x0, x1⟩ := hx
  clear hF1
  go_enter Try.func7, Try.ntmps7
  go_upto_region 6 with (first | (go_at_call 38; refine (awake06 _).mono ?_; rintro e w1 ⟨rfl, hm1⟩; have M1 := Lib.hid hm1; have S1 := Lib.hid (SL.out.keep hm1); clear hm1) | (at_builtin; refine wpList_append_sl _ rfl (.tmp 20) (.tmp 21) 28 rfl w1.heap.size 5 i0 (.int .u8 0) 1 Try.underlying28 hi hz0 hz1 hz2 rfl _ .u8 [] rfl (World.ownsRow_lit (e := 5) (size := 1) (base := w1.heap.size) w1 #[] 0 (Nat.le_refl _) (by unfold maxLen; omega) rfl) _ b rfl (S1.out.keep (More.alloc _ _)) (by simp; omega) (by decide) (by simp) ?_; intro v3 w3 ho3 hg3; rw [List.nil_append] at ho3; have HO3 := Lib.hid ho3; have G3 : Hid (More w1 w3) := Lib.hid ((More.alloc w1 (.cells #[] 5)).grown hg3 (More.alloc w1 (.cells #[] 5)).size (fun z hz => by cases hz; exact Nat.le_refl _)); clear ho3 hg3))
  have MC := Lib.hid (M1.out.trans G3.out)
  have SB3 := Lib.hid (S1.out.keep G3.out)
  obtain ⟨g, cg, hv3⟩ : ∃ g cg, v3 = .slice (some ⟨g, 0, none⟩) b.length cg := by
    have := HO3.out.2
    rcases this with ⟨_, h⟩ | ⟨g, cap, cur, h, _⟩
    · omega
    · exact ⟨g, cap, h⟩
  subst hv3
  obtain ⟨q1, q2, q3, q4, q5⟩ := owns_set HO3.out 0 hbl
  have q6 := q5 (.int .u8 F1)
  have hcx : w3.cell? ⟨g, 0, none⟩ = some (.int .u8 x) := by rw [q1, HB.out]; rfl
  have HG := Lib.hid q3
  have Q6 := Lib.hid q6
  have Q5 := Lib.hid q5
  have hbli : (0 : Int) < (b.length : Int) := by omega
  clear q1 q5 q6 HO3
  have HG0 : Hid (w.heap.size ≤ g) := Lib.hid (Nat.le_trans M1.out.size q3)
  have ML := Lib.hid (MC.out.st (p := ⟨g, 0, none⟩) HG0.out (.int .u8 F1))
  clear q3
  by_cases hr : b.length = 1
  · have hl1 : ¬ (1 : Int) < (b.length : Int) := by omega
    have hlo : loose b = b.set 0 F1 := by
      rw [HB.out] at hr ⊢
      cases r with
      | nil => rw [HF1.out]; rfl
      | cons y r => simp at hr
    have SC : Hid (SlI .u8 (w3.setCell ⟨g, 0, none⟩ (.int .u8 F1)) (.slice (some ⟨g, 0, none⟩) b.length cg) (loose b)) := Lib.hid (owns_sl (by rw [hlo, List.map_set]; exact Q6.out) (loose_len b).symm (by omega))
    have SB := Lib.hid (SL.out.keep ML.out)
    have MC := ML
    clear hr hlo
    go_wp2_with first | (go_at_call 41; ((with_reducible refine ((fun (_ : True) => ReadD_any _ b _ SB.out hb (by omega)) tok1).mono ?_); rintro e w5 ⟨rfl, m5⟩; clear tok1; have X5 := Lib.hid (blk_new w5 (.cells #[.bool (readD b).1.lo, .bool (readD b).1.st, .int .u8 (readD b).1.pt, .int .i64 (readD b).1.pic, .bool (readD b).1.wd, .int .i64 (readD b).1.bs, .int .i64 (readD b).1.tr, .bool (readD b).1.sy, .int .i64 (readD b).1.ky] 77)); have M5 := Lib.hid (m5.al (.cells #[.bool (readD b).1.lo, .bool (readD b).1.st, .int .u8 (readD b).1.pt, .int .i64 (readD b).1.pic, .bool (readD b).1.wd, .int .i64 (readD b).1.bs, .int .i64 (readD b).1.tr, .bool (readD b).1.sy, .int .i64 (readD b).1.ky] 77)); clear m5)) | (go_at_call 41; ((with_reducible refine (ReadD_any _ (loose b) _ (SC.out.keep M5.out) HLB.out (by rw [loose_len]; omega)).mono ?_); rintro e w6 ⟨rfl, m6⟩; rw [HRL.out]; have M6 := Lib.hid ((M5.out.trans m6).al (.cells #[.bool (readD b).1.lo, .bool (readD b).1.st, .int .u8 (readD b).1.pt, .int .i64 (readD b).1.pic, .bool (readD b).1.wd, .int .i64 (readD b).1.bs, .int .i64 (readD b).1.tr, .bool (readD b).1.sy, .int .i64 (readD b).1.ky] 77)); have X6 := Lib.hid (blk_alloc (blk_more m6 X5.out) (.cells #[.bool (readD b).1.lo, .bool (readD b).1.st, .int .u8 (readD b).1.pt, .int .i64 (readD b).1.pic, .bool (readD b).1.wd, .int .i64 (readD b).1.bs, .int .i64 (readD b).1.tr, .bool (readD b).1.sy, .int .i64 (readD b).1.ky] 77)); clear m6; have g0 := blk_cell X6.out 0 (v := .bool (readD b).1.lo) rfl; have g1 := blk_cell X6.out 1 (v := .bool (readD b).1.st) rfl; have g2 := blk_cell X6.out 2 (v := .int .u8 (readD b).1.pt) rfl; have g3 := blk_cell X6.out 3 (v := .int .i64 (readD b).1.pic) rfl; have g4 := blk_cell X6.out 4 (v := .bool (readD b).1.wd) rfl; have g5 := blk_cell X6.out 5 (v := .int .i64 (readD b).1.bs) rfl; have g6 := blk_cell X6.out 6 (v := .int .i64 (readD b).1.tr) rfl; have g7 := blk_cell X6.out 7 (v := .bool (readD b).1.sy) rfl; have g8 := blk_cell X6.out 8 (v := .int .i64 (readD b).1.ky) rfl)) | (go_at_call 40; ((with_reducible refine ((fun (_ : True) => BeginsD_any _ b _ (SB.out.keep M6.out) hb (by omega)) tok2).mono ?_); rintro e w7 ⟨rfl, m7⟩; clear tok2; have M7 := Lib.hid (M6.out.trans m7); clear m7)) | (go_at_call 40; ((with_reducible refine (BeginsD_any _ (loose b) _ (SC.out.keep M7.out) HLB.out (by rw [loose_len]; omega)).mono ?_); rintro e w8 ⟨rfl, m8⟩; rw [HBL.out]; have M8 := Lib.hid (M7.out.trans m8); clear m8))
    go_ret
    exact ⟨rfl, MC.out.trans M8.out⟩
  · have hl1 : (1 : Int) < (b.length : Int) := by omega
    have hl1n : 1 < b.length := by omega
    obtain ⟨y, r', hr'⟩ : ∃ y r', b = x :: y :: r' := by
      have hB := HB.out
      cases r with
      | nil => rw [hB] at hl1n; simp at hl1n
      | cons y r' => exact ⟨y, r', hB⟩
    have hy : 0 ≤ y ∧ y ≤ 255 := by rw [hr'] at hb; simpa using hb 1
    obtain ⟨y0, y1⟩ := hy
    have z5 := (flips' ⟨y0, y1⟩).2.2.2.1
    have z6 := (flips' ⟨y0, y1⟩).2.2.2.2
    obtain ⟨F2, hF2⟩ : ∃ F2, F2 = flip2 y := ⟨_, rfl⟩
    rw [← hF2] at z5 z6
    have hxor2 : bits .xor .u8 y 15 = F2 := hF2.symm
    obtain ⟨k1, k2, _, _, k5⟩ := owns_set (Q5.out (.int .u8 F1)) 1 hl1n
    have hcy : (w3.setCell ⟨g, 0, none⟩ (.int .u8 F1)).cell? ⟨g, 1, none⟩ = some (.int .u8 y) := by rw [k1, hr']; rfl
    have K5 := Lib.hid (k5 (.int .u8 F2))
    have HR2 := Lib.hid hr'
    have HF2 := Lib.hid hF2
    clear k1 k5 hr hr' hF2
    by_cases hge : 128 ≤ F1
    · have hlo : loose b = (b.set 0 F1).set 1 F2 := by
        rw [HR2.out]
        show flip1 x :: (if 128 ≤ flip1 x then flip2 y else y) :: r' = _
        rw [← HF1.out, ← HF2.out, if_pos hge]
        rfl
      have SC : Hid (SlI .u8 ((w3.setCell ⟨g, 0, none⟩ (.int .u8 F1)).setCell ⟨g, 1, none⟩ (.int .u8 F2)) (.slice (some ⟨g, 0, none⟩) b.length cg) (loose b)) := Lib.hid (owns_sl (by rw [hlo, List.map_set, List.map_set]; exact K5.out) (loose_len b).symm (by omega))
      have MC := Lib.hid (ML.out.st (p := ⟨g, 1, none⟩) HG0.out (.int .u8 F2))
      have SB := Lib.hid (SL.out.keep MC.out)
      clear hlo
      go_wp2_with first | (go_at_call 41; ((with_reducible refine ((fun (_ : True) => ReadD_any _ b _ SB.out hb (by omega)) tok1).mono ?_); rintro e w5 ⟨rfl, m5⟩; clear tok1; have X5 := Lib.hid (blk_new w5 (.cells #[.bool (readD b).1.lo, .bool (readD b).1.st, .int .u8 (readD b).1.pt, .int .i64 (readD b).1.pic, .bool (readD b).1.wd, .int .i64 (readD b).1.bs, .int .i64 (readD b).1.tr, .bool (readD b).1.sy, .int .i64 (readD b).1.ky] 77)); have M5 := Lib.hid (m5.al (.cells #[.bool (readD b).1.lo, .bool (readD b).1.st, .int .u8 (readD b).1.pt, .int .i64 (readD b).1.pic, .bool (readD b).1.wd, .int .i64 (readD b).1.bs, .int .i64 (readD b).1.tr, .bool (readD b).1.sy, .int .i64 (readD b).1.ky] 77)); clear m5)) | (go_at_call 41; ((with_reducible refine (ReadD_any _ (loose b) _ (SC.out.keep M5.out) HLB.out (by rw [loose_len]; omega)).mono ?_); rintro e w6 ⟨rfl, m6⟩; rw [HRL.out]; have M6 := Lib.hid ((M5.out.trans m6).al (.cells #[.bool (readD b).1.lo, .bool (readD b).1.st, .int .u8 (readD b).1.pt, .int .i64 (readD b).1.pic, .bool (readD b).1.wd, .int .i64 (readD b).1.bs, .int .i64 (readD b).1.tr, .bool (readD b).1.sy, .int .i64 (readD b).1.ky] 77)); have X6 := Lib.hid (blk_alloc (blk_more m6 X5.out) (.cells #[.bool (readD b).1.lo, .bool (readD b).1.st, .int .u8 (readD b).1.pt, .int .i64 (readD b).1.pic, .bool (readD b).1.wd, .int .i64 (readD b).1.bs, .int .i64 (readD b).1.tr, .bool (readD b).1.sy, .int .i64 (readD b).1.ky] 77)); clear m6; have g0 := blk_cell X6.out 0 (v := .bool (readD b).1.lo) rfl; have g1 := blk_cell X6.out 1 (v := .bool (readD b).1.st) rfl; have g2 := blk_cell X6.out 2 (v := .int .u8 (readD b).1.pt) rfl; have g3 := blk_cell X6.out 3 (v := .int .i64 (readD b).1.pic) rfl; have g4 := blk_cell X6.out 4 (v := .bool (readD b).1.wd) rfl; have g5 := blk_cell X6.out 5 (v := .int .i64 (readD b).1.bs) rfl; have g6 := blk_cell X6.out 6 (v := .int .i64 (readD b).1.tr) rfl; have g7 := blk_cell X6.out 7 (v := .bool (readD b).1.sy) rfl; have g8 := blk_cell X6.out 8 (v := .int .i64 (readD b).1.ky) rfl)) | (go_at_call 40; ((with_reducible refine ((fun (_ : True) => BeginsD_any _ b _ (SB.out.keep M6.out) hb (by omega)) tok2).mono ?_); rintro e w7 ⟨rfl, m7⟩; clear tok2; have M7 := Lib.hid (M6.out.trans m7); clear m7)) | (go_at_call 40; ((with_reducible refine (BeginsD_any _ (loose b) _ (SC.out.keep M7.out) HLB.out (by rw [loose_len]; omega)).mono ?_); rintro e w8 ⟨rfl, m8⟩; rw [HBL.out]; have M8 := Lib.hid (M7.out.trans m8); clear m8))
      go_ret
      exact ⟨rfl, MC.out.trans M8.out⟩
    · have hlo : loose b = b.set 0 F1 := by
        rw [HR2.out]
        show flip1 x :: (if 128 ≤ flip1 x then flip2 y else y) :: r' = _
        rw [← HF1.out, if_neg hge]
        rfl
      have SC : Hid (SlI .u8 (w3.setCell ⟨g, 0, none⟩ (.int .u8 F1)) (.slice (some ⟨g, 0, none⟩) b.length cg) (loose b)) := Lib.hid (owns_sl (by rw [hlo, List.map_set]; exact Q6.out) (loose_len b).symm (by omega))
      have SB := Lib.hid (SL.out.keep ML.out)
      have MC := ML
      clear hlo hcy k2
      go_wp2_with first | (go_at_call 41; ((with_reducible refine ((fun (_ : True) => ReadD_any _ b _ SB.out hb (by omega)) tok1).mono ?_); rintro e w5 ⟨rfl, m5⟩; clear tok1; have X5 := Lib.hid (blk_new w5 (.cells #[.bool (readD b).1.lo, .bool (readD b).1.st, .int .u8 (readD b).1.pt, .int .i64 (readD b).1.pic, .bool (readD b).1.wd, .int .i64 (readD b).1.bs, .int .i64 (readD b).1.tr, .bool (readD b).1.sy, .int .i64 (readD b).1.ky] 77)); have M5 := Lib.hid (m5.al (.cells #[.bool (readD b).1.lo, .bool (readD b).1.st, .int .u8 (readD b).1.pt, .int .i64 (readD b).1.pic, .bool (readD b).1.wd, .int .i64 (readD b).1.bs, .int .i64 (readD b).1.tr, .bool (readD b).1.sy, .int .i64 (readD b).1.ky] 77)); clear m5)) | (go_at_call 41; ((with_reducible refine (ReadD_any _ (loose b) _ (SC.out.keep M5.out) HLB.out (by rw [loose_len]; omega)).mono ?_); rintro e w6 ⟨rfl, m6⟩; rw [HRL.out]; have M6 := Lib.hid ((M5.out.trans m6).al (.cells #[.bool (readD b).1.lo, .bool (readD b).1.st, .int .u8 (readD b).1.pt, .int .i64 (readD b).1.pic, .bool (readD b).1.wd, .int .i64 (readD b).1.bs, .int .i64 (readD b).1.tr, .bool (readD b).1.sy, .int .i64 (readD b).1.ky] 77)); have X6 := Lib.hid (blk_alloc (blk_more m6 X5.out) (.cells #[.bool (readD b).1.lo, .bool (readD b).1.st, .int .u8 (readD b).1.pt, .int .i64 (readD b).1.pic, .bool (readD b).1.wd, .int .i64 (readD b).1.bs, .int .i64 (readD b).1.tr, .bool (readD b).1.sy, .int .i64 (readD b).1.ky] 77)); clear m6; have g0 := blk_cell X6.out 0 (v := .bool (readD b).1.lo) rfl; have g1 := blk_cell X6.out 1 (v := .bool (readD b).1.st) rfl; have g2 := blk_cell X6.out 2 (v := .int .u8 (readD b).1.pt) rfl; have g3 := blk_cell X6.out 3 (v := .int .i64 (readD b).1.pic) rfl; have g4 := blk_cell X6.out 4 (v := .bool (readD b).1.wd) rfl; have g5 := blk_cell X6.out 5 (v := .int .i64 (readD b).1.bs) rfl; have g6 := blk_cell X6.out 6 (v := .int .i64 (readD b).1.tr) rfl; have g7 := blk_cell X6.out 7 (v := .bool (readD b).1.sy) rfl; have g8 := blk_cell X6.out 8 (v := .int .i64 (readD b).1.ky) rfl)) | (go_at_call 40; ((with_reducible refine ((fun (_ : True) => BeginsD_any _ b _ (SB.out.keep M6.out) hb (by omega)) tok2).mono ?_); rintro e w7 ⟨rfl, m7⟩; clear tok2; have M7 := Lib.hid (M6.out.trans m7); clear m7)) | (go_at_call 40; ((with_reducible refine (BeginsD_any _ (loose b) _ (SC.out.keep M7.out) HLB.out (by rw [loose_len]; omega)).mono ?_); rintro e w8 ⟨rfl, m8⟩; rw [HBL.out]; have M8 := Lib.hid (M7.out.trans m8); clear m8))
      go_ret
      exact ⟨rfl, MC.out.trans M8.out⟩
end Go.Proofs.Ytlnikmcimmnbmaa
