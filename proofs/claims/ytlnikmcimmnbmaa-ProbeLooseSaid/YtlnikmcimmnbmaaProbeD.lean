/- Descriptions are read: the state, and the functions within Read. -/
import Derived.Test.YtlnikmcimmnbmaaProbeQ
import Derived.Test.YtlnikmcimmnbmaaByteF
namespace Go.Proofs.Ytlnikmcimmnbmaa
set_option linter.unusedSimpArgs false
set_option linter.unusedVariables false
open Go.RowKit
set_option maxRecDepth 100000

/-- A reader, and what Read has beside it: the result's place, the reader's address, what is told, the description. -/
structure PrS (w0 w : World) (R hi Br B5 B7 B8 : Nat) (s : RdS) (t : Int) (cs : Array Value) : Prop where
  rd : ReaderAt w R s.1 s.2 (fun g => g < hi)
  more : More w0 w
  br : w.heap[Br]? = some (.cells #[.bool false, .bool false, .int .u8 0, .int .i64 0, .bool false, .int .i64 0, .int .i64 0, .bool false, .int .i64 0] 77 (0, 0))
  b5 : w.heap[B5]? = some (.cells #[.pointer (some ⟨R, 0, none⟩)] 146 (0, 0))
  b7 : w.heap[B7]? = some (.cells #[.int .u8 t] 5 (0, 0))
  b8 : w.heap[B8]? = some (.cells cs 77 (0, 0))
  n0 : w0.heap.size ≤ Br
  nR : Br < R
  n1 : R < hi
  n5 : hi ≤ B5
  n7 : B5 < B7
  n8 : B7 < B8
theorem PrS.step {w0 w w' : World} {R hi Br B5 B7 B8 : Nat} {s s' : RdS} {t : Int} {cs : Array Value} (h : PrS w0 w R hi Br B5 B7 B8 s t cs) (r : ReaderAt w' R s'.1 s'.2 (fun g => g < hi)) (a : Away (fun b => b = R) w w') : PrS w0 w' R hi Br B5 B7 B8 s' t cs := by
  have := h.n0; have := h.nR; have := h.n1; have := h.n5; have := h.n7; have := h.n8
  exact ⟨r, Away.to_more h.more a (fun k hk => by omega), a.blk h.br (by omega), a.blk h.b5 (by omega), a.blk h.b7 (by omega), a.blk h.b8 (by omega), h.n0, h.nR, h.n1, h.n5, h.n7, h.n8⟩
theorem PrS.on {w0 w w' : World} {R hi Br B5 B7 B8 : Nat} {s : RdS} {t : Int} {cs : Array Value} (h : PrS w0 w R hi Br B5 B7 B8 s t cs) (m : More w w') : PrS w0 w' R hi Br B5 B7 B8 s t cs :=
  ⟨h.rd.more m, h.more.trans m, blk_more m h.br, blk_more m h.b5, blk_more m h.b7, blk_more m h.b8, h.n0, h.nR, h.n1, h.n5, h.n7, h.n8⟩
theorem PrS.put7 {w0 w : World} {R hi Br B5 B7 B8 : Nat} {s : RdS} {t : Int} {cs : Array Value} (h : PrS w0 w R hi Br B5 B7 B8 s t cs) (t' : Int) : PrS w0 (w.setCell ⟨B7, 0, none⟩ (.int .u8 t')) R hi Br B5 B7 B8 s t' cs := by
  have := h.n0; have := h.nR; have := h.n1; have := h.n5; have := h.n7; have := h.n8
  have a : Away (fun b => b = B7) w (w.setCell ⟨B7, 0, none⟩ (.int .u8 t')) := (Away.refl (fun b => b = B7) w).set (p := ⟨B7, 0, none⟩) rfl _
  exact ⟨h.rd.off a (by omega) (fun g hg e => by omega), h.more.st (p := ⟨B7, 0, none⟩) (by show _ ≤ B7; omega) _, a.blk h.br (by omega), a.blk h.b5 (by omega), blk_eq (blk_set h.b7 0 _) rfl, a.blk h.b8 (by omega), h.n0, h.nR, h.n1, h.n5, h.n7, h.n8⟩
theorem PrS.put8 {w0 w : World} {R hi Br B5 B7 B8 : Nat} {s : RdS} {t : Int} {cs : Array Value} (h : PrS w0 w R hi Br B5 B7 B8 s t cs) (i : Nat) (v : Value) : PrS w0 (w.setCell ⟨B8, i, none⟩ v) R hi Br B5 B7 B8 s t (cs.setIfInBounds i v) := by
  have := h.n0; have := h.nR; have := h.n1; have := h.n5; have := h.n7; have := h.n8
  have a : Away (fun b => b = B8) w (w.setCell ⟨B8, i, none⟩ v) := (Away.refl (fun b => b = B8) w).set (p := ⟨B8, i, none⟩) rfl _
  exact ⟨h.rd.off a (by omega) (fun g hg e => by omega), h.more.st (p := ⟨B8, i, none⟩) (by show _ ≤ B8; omega) _, a.blk h.br (by omega), a.blk h.b5 (by omega), a.blk h.b7 (by omega), blk_set h.b8 i v, h.n0, h.nR, h.n1, h.n5, h.n7, h.n8⟩
theorem nB_bd {s : RdS} (h : Byt s.1) : 0 ≤ nB s ∧ nB s ≤ 255 := by
  have := num_lt (tkB s.1 1) 1 (tkB_byt h 1) (tkB_len s.1 1 (by decide)) (by decide)
  unfold nB
  have h2 : num (tkB s.1 1) < 256 := this.2
  omega
/-- The description as it is filled. -/
def dC (f pic : Int) (wd : Bool) (bs tr : Int) (sy : Bool) (ky : Int) : Array Value := #[.bool (bit f 32), .bool (bit f 16), .int .u8 (f % 8), .int .i64 pic, .bool wd, .int .i64 bs, .int .i64 tr, .bool sy, .int .i64 ky]
/-- What number and what it calls leave. -/
def PrQ (w0 w' : World) (R hi Br B5 B7 B8 B10 : Nat) (s : RdS) (t : Int) (cs : Array Value) (q : Int) : Prop := PrS w0 w' R hi Br B5 B7 B8 s t cs ∧ w'.heap[B10]? = some (.cells #[.int .u64 q] 145 (0, 0))
/-- A picture's number. -/
def picV (s : RdS) : Int := if nB s < 128 then nB s else (nB s - 128) * 256 + nB (tkS s 1)
def picR (s : RdS) : RdS := if nB s < 128 then tkS s 1 else tkS (tkS s 1) 1
def picW (s : RdS) : Bool := decide (¬ nB s < 128)
set_option maxHeartbeats 1000000 in
theorem Pic_any {w0 w : World} {R hi Br B5 B7 B8 : Nat} {s : RdS} {t f : Int} (h : PrS w0 w R hi Br B5 B7 B8 s t (dC f 0 false 0 0 false 0)) :
    Calls Try.prog 101 #[.pointer (some ⟨B5, 0, none⟩), .pointer (some ⟨B8, 0, none⟩)] w fun e w' => e = .returned (.int .i64 (picV s)) ∧ PrS w0 w' R hi Br B5 B7 B8 (picR s) t (dC f 0 (picW s) 0 0 false 0) := by
  unfold picV picR picW
  have hb := nB_bd h.rd.byt
  have hb2 : Byt (tkS s 1).1 := h.rd.byt.drop _
  have hc := nB_bd hb2
  have c5 := blk_cell h.b5 0 (v := .pointer (some ⟨R, 0, none⟩)) rfl
  have H := Lib.hid h
  have e1 : num (tkB s.1 1) = nB s := rfl
  have e2 : num (tkB (tkS s 1).1 1) = nB (tkS s 1) := rfl
  have E1 := Lib.hid e1
  have E2 := Lib.hid e2
  clear h e1 e2 hb2
  by_cases hn : nB s < 128
  · rw [if_pos hn, if_pos hn, decide_eq_false (by omega)]
    generalize hq : nB s = q at *
    clear hq
    go_enter Try.func101, Try.ntmps101
    go_wp2_with (go_at_call 88; ((with_reducible refine (RdByte_any H.out.rd).mono ?_); rintro e w1 ⟨rfl, r1, a1⟩; rw [E1.out]; have H1 := Lib.hid (H.out.step (s' := tkS s 1) r1 a1); clear r1 a1))
    go_ret
    exact ⟨rfl, H1.out⟩
  · rw [if_neg hn, if_neg hn, decide_eq_true (by omega)]
    generalize nB s = q at *
    generalize hq2 : nB (tkS s 1) = q2 at *
    clear hq2
    go_enter Try.func101, Try.ntmps101
    go_wp2_with first | (go_at_call 88; ((with_reducible refine (RdByte_any H.out.rd).mono ?_); rintro e w1 ⟨rfl, r1, a1⟩; rw [E1.out]; have H1 := Lib.hid ((H.out.step (s' := tkS s 1) r1 a1).put8 4 (.bool true)); have c8 := blk_cell (H.out.step (s' := tkS s 1) r1 a1).b8 4 (v := .bool false) rfl; have z8 := blk_free (H.out.step (s' := tkS s 1) r1 a1).b8 4; have d5 := blk_cell H1.out.b5 0 (v := .pointer (some ⟨R, 0, none⟩)) rfl; clear r1 a1)) | (go_at_call 88; ((with_reducible refine (RdByte_any H1.out.rd).mono ?_); rintro e w2 ⟨rfl, r2, a2⟩; rw [E2.out]; have H2 := Lib.hid (H1.out.step (s' := tkS (tkS s 1) 1) r2 a2); clear r2 a2))
    go_ret
    exact ⟨rfl, H2.out⟩
set_option maxHeartbeats 1000000 in
theorem Bas_any {w0 w : World} {R hi Br B5 B7 B8 : Nat} {s : RdS} {t : Int} {cs : Array Value} (h : PrS w0 w R hi Br B5 B7 B8 s t cs) :
    Calls Try.prog 102 #[.pointer (some ⟨B5, 0, none⟩)] w fun e w' => e = .returned (.int .i64 (nB s)) ∧ PrS w0 w' R hi Br B5 B7 B8 (tkS s 1) t cs := by
  have hb := nB_bd h.rd.byt
  have c5 := blk_cell h.b5 0 (v := .pointer (some ⟨R, 0, none⟩)) rfl
  have H := Lib.hid h
  have e1 : num (tkB s.1 1) = nB s := rfl
  have E1 := Lib.hid e1
  clear h e1
  generalize nB s = q at *
  go_enter Try.func102, Try.ntmps102
  go_wp2_with (go_at_call 88; ((with_reducible refine (RdByte_any H.out.rd).mono ?_); rintro e w1 ⟨rfl, r1, a1⟩; rw [E1.out]; have H1 := Lib.hid (H.out.step (s' := tkS s 1) r1 a1); clear r1 a1))
  go_ret
  exact ⟨rfl, H1.out⟩
theorem fld_q {q : Int} (h : 0 ≤ q ∧ q ≤ 255) : fld q 5 1 = q / 32 % 2 ∧ fld q 6 2 = q / 64 ∧ fld q 0 5 = q % 32 := by
  have t0 : two 0 = 1 := by decide
  have t1 : two 1 = 2 := by decide
  have t2 : two 2 = 4 := by decide
  have t5 : two 5 = 32 := by decide
  have t6 : two 6 = 64 := by decide
  unfold fld
  refine ⟨?_, ?_, ?_⟩
  · rw [if_pos (show May 5 1 by unfold May; decide), t5, t1]
  · rw [if_pos (show May 6 2 by unfold May; decide), t6, t2]; omega
  · rw [if_pos (show May 0 5 by unfold May; decide), t0, t5]; omega
set_option maxHeartbeats 1000000 in
theorem Tier_any {w0 w : World} {R hi Br B5 B7 B8 B10 : Nat} {s : RdS} {t q : Int} {f pic bs : Int} {wd : Bool} (h : PrQ w0 w R hi Br B5 B7 B8 B10 s t (dC f pic wd bs 0 false 0) q) (hq : 0 ≤ q ∧ q ≤ 255) (h10 : B8 < B10) :
    Calls Try.prog 103 #[.pointer (some ⟨B10, 0, none⟩), .pointer (some ⟨B8, 0, none⟩)] w fun e w' => e = .returned (.int .i64 (q / 64)) ∧ PrQ w0 w' R hi Br B5 B7 B8 B10 s t (dC f pic wd bs 0 (bit q 32) 0) q := by
  obtain ⟨h, hb⟩ := h
  obtain ⟨f1, f2, f3⟩ := fld_q hq
  have hu : U64 q := by unfold U64; omega
  have hbit : (q / 32 % 2 == 1) = bit q 32 := by unfold bit; rw [Bool.eq_iff_iff]; simp
  have F1 := Lib.hid f1
  have F2 := Lib.hid f2
  have HB := Lib.hid hbit
  have c10 := blk_cell hb 0 (v := .int .u64 q) rfl
  have H := Lib.hid h
  have H10 := Lib.hid hb
  obtain ⟨q1, q2⟩ := hq
  have q3 : q / 64 ≤ 3 := by omega
  have q4 : 0 ≤ q / 64 := by omega
  clear h hb f1 f2 f3 hbit
  generalize q / 64 = q6 at *
  go_enter Try.func103, Try.ntmps103
  go_wp2_with first | (go_at_call 104; ((with_reducible refine (Field_yes q 5 1 hu (by unfold May; decide) _).mono ?_); rintro e w1 ⟨rfl, k1, rfl⟩; rw [F1.out]; have H1 := Lib.hid ((H.out.on (More.drewN _ k1)).put8 7 (.bool (bit q 32))); have G1 := Lib.hid (blk_other (blk_drewN H10.out k1) ⟨B8, 7, none⟩ (.bool (bit q 32)) (by show B10 ≠ B8; omega)); have c8 := blk_cell (H.out.on (More.drewN w k1)).b8 7 (v := .bool false) rfl; have z8 := blk_free (H.out.on (More.drewN w k1)).b8 7; have hbt := HB.out; have d10 := blk_cell G1.out 0 (v := .int .u64 q) rfl)) | (go_at_call 104; ((with_reducible refine (Field_yes q 6 2 hu (by unfold May; decide) _).mono ?_); rintro e w2 ⟨rfl, k2, rfl⟩; rw [F2.out]; have H2 := Lib.hid (H1.out.on (More.drewN _ k2)); have G2 := Lib.hid (blk_drewN G1.out k2)))
  go_ret
  exact ⟨rfl, H2.out, G2.out⟩
set_option maxHeartbeats 1000000 in
theorem Key_any {w0 w : World} {R hi Br B5 B7 B8 B10 : Nat} {s : RdS} {t q : Int} {cs : Array Value} (h : PrQ w0 w R hi Br B5 B7 B8 B10 s t cs q) (hq : 0 ≤ q ∧ q ≤ 255) :
    Calls Try.prog 105 #[.pointer (some ⟨B10, 0, none⟩)] w fun e w' => e = .returned (.int .i64 (q % 32)) ∧ PrQ w0 w' R hi Br B5 B7 B8 B10 s t cs q := by
  obtain ⟨h, hb⟩ := h
  obtain ⟨f1, f2, f3⟩ := fld_q hq
  have hu : U64 q := by unfold U64; omega
  have F3 := Lib.hid f3
  have c10 := blk_cell hb 0 (v := .int .u64 q) rfl
  have H := Lib.hid h
  have H10 := Lib.hid hb
  have q3 : q % 32 ≤ 31 := by omega
  have q4 : 0 ≤ q % 32 := by omega
  clear h hb f1 f2 f3
  generalize q % 32 = q5 at *
  go_enter Try.func105, Try.ntmps105
  go_wp2_with (go_at_call 104; ((with_reducible refine (Field_yes q 0 5 hu (by unfold May; decide) _).mono ?_); rintro e w1 ⟨rfl, k1, rfl⟩; rw [F3.out]; have H1 := Lib.hid (H.out.on (More.drewN _ k1)); have G1 := Lib.hid (blk_drewN H10.out k1)))
  go_ret
  exact ⟨rfl, H1.out, G1.out⟩
set_option maxHeartbeats 1000000 in
theorem NumPic {w0 w : World} {R hi Br B5 B7 B8 : Nat} {s : RdS} {t f : Int} (h : PrS w0 w R hi Br B5 B7 B8 s t (dC f 0 false 0 0 false 0)) (ht : 0 ≤ t ∧ t ≤ 255) :
    Calls Try.prog 100 #[.int .u8 128, .func (.func 101) #[] #[.pointer (some ⟨B5, 0, none⟩), .pointer (some ⟨B8, 0, none⟩)], .pointer (some ⟨B7, 0, none⟩)] w fun e w' => e = .returned (.int .i64 (picD t s).1.1) ∧ PrS w0 w' R hi Br B5 B7 B8 (picD t s).2 t (dC f 0 (picD t s).1.2 0 0 false 0) := by
  have c7 := blk_cell h.b7 0 (v := .int .u8 t) rfl
  have H := Lib.hid h
  have ha := (andB' ht).1
  clear h
  cases hb : bit t 128 with
  | false =>
    rw [hb, if_neg (by simp)] at ha
    have e : picD t s = ((-1, false), s) := by unfold picD; rw [hb, if_neg (by simp)]
    rw [e]
    clear e hb
    go_enter Try.func100, Try.ntmps100
    go_wp2
    go_ret
    exact ⟨rfl, H.out⟩
  | true =>
    rw [hb, if_pos rfl] at ha
    have e : picD t s = ((picV s, picW s), picR s) := by unfold picD picV picR picW; rw [hb, if_pos rfl]; by_cases hn : nB s < 128 <;> simp [hn]
    have E := Lib.hid e
    clear e hb
    go_enter Try.func100, Try.ntmps100
    go_wp2_with (go_at_call 101; ((with_reducible refine (Pic_any H.out).mono ?_); rintro e w1 ⟨rfl, h1⟩; have H1 := Lib.hid h1; clear h1))
    go_ret
    rw [E.out]
    exact ⟨rfl, H1.out⟩
set_option maxHeartbeats 1000000 in
theorem NumBas {w0 w : World} {R hi Br B5 B7 B8 : Nat} {s : RdS} {t : Int} {cs : Array Value} (h : PrS w0 w R hi Br B5 B7 B8 s t cs) (ht : 0 ≤ t ∧ t ≤ 255) :
    Calls Try.prog 100 #[.int .u8 64, .func (.func 102) #[] #[.pointer (some ⟨B5, 0, none⟩)], .pointer (some ⟨B7, 0, none⟩)] w fun e w' => e = .returned (.int .i64 (basD t s).1) ∧ PrS w0 w' R hi Br B5 B7 B8 (basD t s).2 t cs := by
  have c7 := blk_cell h.b7 0 (v := .int .u8 t) rfl
  have H := Lib.hid h
  have ha := (andB' ht).2.1
  clear h
  cases hb : bit t 64 with
  | false =>
    rw [hb, if_neg (by simp)] at ha
    have e : basD t s = (-1, s) := by unfold basD; rw [hb, if_neg (by simp)]
    rw [e]
    clear e hb
    go_enter Try.func100, Try.ntmps100
    go_wp2
    go_ret
    exact ⟨rfl, H.out⟩
  | true =>
    rw [hb, if_pos rfl] at ha
    have e : basD t s = (nB s, tkS s 1) := by unfold basD; rw [hb, if_pos rfl]
    have E := Lib.hid e
    clear e hb
    go_enter Try.func100, Try.ntmps100
    go_wp2_with (go_at_call 102; ((with_reducible refine (Bas_any H.out).mono ?_); rintro e w1 ⟨rfl, h1⟩; have H1 := Lib.hid h1; clear h1))
    go_ret
    rw [E.out]
    exact ⟨rfl, H1.out⟩
set_option maxHeartbeats 1000000 in
theorem NumTier {w0 w : World} {R hi Br B5 B7 B8 B10 : Nat} {s : RdS} {t q : Int} {f pic bs : Int} {wd : Bool} (h : PrQ w0 w R hi Br B5 B7 B8 B10 s t (dC f pic wd bs 0 false 0) q) (ht : 0 ≤ t ∧ t ≤ 255) (hq : 0 ≤ q ∧ q ≤ 255) (h10 : B8 < B10) :
    Calls Try.prog 100 #[.int .u8 32, .func (.func 103) #[] #[.pointer (some ⟨B10, 0, none⟩), .pointer (some ⟨B8, 0, none⟩)], .pointer (some ⟨B7, 0, none⟩)] w fun e w' => e = .returned (.int .i64 (if bit t 32 then q / 64 else -1)) ∧ PrQ w0 w' R hi Br B5 B7 B8 B10 s t (dC f pic wd bs 0 (bit t 32 && bit q 32) 0) q := by
  have c7 := blk_cell h.1.b7 0 (v := .int .u8 t) rfl
  have H := Lib.hid h
  have ha := (andB' ht).2.2.1
  have HQ := Lib.hid hq
  clear h hq
  cases hb : bit t 32 with
  | false =>
    rw [hb, if_neg (by simp)] at ha
    rw [if_neg (by simp), Bool.false_and]
    clear hb
    go_enter Try.func100, Try.ntmps100
    go_wp2
    go_ret
    exact ⟨rfl, H.out⟩
  | true =>
    rw [hb, if_pos rfl] at ha
    rw [if_pos rfl, Bool.true_and]
    clear hb
    go_enter Try.func100, Try.ntmps100
    go_wp2_with (go_at_call 103; ((with_reducible refine (Tier_any H.out HQ.out h10).mono ?_); rintro e w1 ⟨rfl, h1⟩; have H1 := Lib.hid h1; clear h1))
    go_ret
    exact ⟨rfl, H1.out⟩
set_option maxHeartbeats 1000000 in
theorem NumKey {w0 w : World} {R hi Br B5 B7 B8 B10 : Nat} {s : RdS} {t q : Int} {cs : Array Value} (h : PrQ w0 w R hi Br B5 B7 B8 B10 s t cs q) (ht : 0 ≤ t ∧ t ≤ 255) (hq : 0 ≤ q ∧ q ≤ 255) :
    Calls Try.prog 100 #[.int .u8 16, .func (.func 105) #[] #[.pointer (some ⟨B10, 0, none⟩)], .pointer (some ⟨B7, 0, none⟩)] w fun e w' => e = .returned (.int .i64 (if bit t 16 then q % 32 else -1)) ∧ PrQ w0 w' R hi Br B5 B7 B8 B10 s t cs q := by
  have c7 := blk_cell h.1.b7 0 (v := .int .u8 t) rfl
  have H := Lib.hid h
  have ha := (andB' ht).2.2.2.1
  have HQ := Lib.hid hq
  clear h hq
  cases hb : bit t 16 with
  | false =>
    rw [hb, if_neg (by simp)] at ha
    rw [if_neg (by simp)]
    clear hb
    go_enter Try.func100, Try.ntmps100
    go_wp2
    go_ret
    exact ⟨rfl, H.out⟩
  | true =>
    rw [hb, if_pos rfl] at ha
    rw [if_pos rfl]
    clear hb
    go_enter Try.func100, Try.ntmps100
    go_wp2_with (go_at_call 105; ((with_reducible refine (Key_any H.out HQ.out).mono ?_); rintro e w1 ⟨rfl, h1⟩; have H1 := Lib.hid h1; clear h1))
    go_ret
    exact ⟨rfl, H1.out⟩
end Go.Proofs.Ytlnikmcimmnbmaa
