/- Merged from my texts ReportD. -/
import Derived.Test.YtlnikmcimmnbmaaMg18
/- Reports: readInfo, readBlock. -/
namespace Go.Proofs.Ytlnikmcimmnbmaa
set_option linter.unusedSimpArgs false
set_option linter.unusedVariables false
open Go.RowKit
set_option maxRecDepth 100000

/-- A reader; a block that stays, and one that is filled. -/
structure RdB (w0 w : World) (R : Nat) (l : List Int) (e : Int) (C : Nat → Prop) (B1 B2 : Nat) (z cs : Array Value) (T : Nat) : Prop where
  rd : ReaderAt w R l e (fun g => C g ∧ g < w0.heap.size)
  away : Away (fun b => b = R) w0 w
  b1 : w.heap[B1]? = some (.cells z T (0, 0))
  b2 : w.heap[B2]? = some (.cells cs T (0, 0))
  n1 : w0.heap.size ≤ B1
  n2 : B1 < B2
  hR : R < w0.heap.size
theorem RdB.new {w : World} {R : Nat} {l : List Int} {e : Int} {C : Nat → Prop} (z : Array Value) (T : Nat) (h : ReaderAt w R l e C) : RdB w ((w.alloc (.cells z T)).alloc (.cells z T)) R l e C w.heap.size (w.heap.size + 1) z z T :=
  ⟨(h.old.more (More.alloc _ _)).more (More.alloc _ _), Away.of_more ((More.alloc _ _).al _), blk_alloc (blk_new w _) _, blk_new2 (by simp), Nat.le_refl _, Nat.lt_succ_self _, by obtain ⟨v, h1, _⟩ := h.blk; exact blk_lt h1⟩
theorem RdB.step {w0 w w' : World} {R : Nat} {l l' : List Int} {e e' : Int} {C : Nat → Prop} {B1 B2 : Nat} {z cs : Array Value} {T : Nat} (h : RdB w0 w R l e C B1 B2 z cs T) (r : ReaderAt w' R l' e' (fun g => C g ∧ g < w0.heap.size)) (a : Away (fun b => b = R) w w') : RdB w0 w' R l' e' C B1 B2 z cs T :=
  ⟨r, h.away.trans a, a.blk h.b1 (by have := h.n1; have := h.hR; omega), a.blk h.b2 (by have := h.n1; have := h.n2; have := h.hR; omega), h.n1, h.n2, h.hR⟩
theorem away_new {w0 w : World} {R B : Nat} (h : Away (fun b => b = R) w0 w) (hB : w0.heap.size ≤ B) (o : Nat) (v : Value) : Away (fun b => b = R) w0 (w.setCell ⟨B, o, none⟩ v) := by
  have a : Away (fun b => b = B) w (w.setCell ⟨B, o, none⟩ v) := (Away.refl (fun b => b = B) w).set (p := ⟨B, o, none⟩) rfl v
  exact ⟨a.os.trans h.os, a.tape.trans h.tape, a.output.trans h.output, Nat.le_trans h.size a.size, fun k hk hs => by rw [a.block k (Nat.lt_of_lt_of_le hk h.size) (by omega)]; exact h.block k hk hs⟩
theorem RdB.store {w0 w : World} {R : Nat} {l : List Int} {e : Int} {C : Nat → Prop} {B1 B2 : Nat} {z cs : Array Value} {T : Nat} (h : RdB w0 w R l e C B1 B2 z cs T) (i : Nat) (v : Value) : RdB w0 (w.setCell ⟨B2, i, none⟩ v) R l e C B1 B2 z (cs.setIfInBounds i v) T := by
  have h1 := h.n1
  have h2 := h.n2
  have h3 := h.hR
  have a : Away (fun b => b = B2) w (w.setCell ⟨B2, i, none⟩ v) := (Away.refl (fun b => b = B2) w).set (p := ⟨B2, i, none⟩) rfl v
  exact ⟨h.rd.off a (by omega) (fun g hg e => by omega), away_new h.away (by omega) i v, a.blk h.b1 (by omega), blk_set h.b2 i v, h.n1, h.n2, h.hR⟩
theorem RdB.fill {w0 w : World} {R : Nat} {l : List Int} {e : Int} {C : Nat → Prop} {B1 B2 : Nat} {z cs : Array Value} {T : Nat} (h : RdB w0 w R l e C B1 B2 z cs T) (i : Nat) (v : Value) : RdB w0 (w.setCell ⟨B1, i, none⟩ v) R l e C B1 B2 (z.setIfInBounds i v) cs T := by
  have h1 := h.n1
  have h2 := h.n2
  have h3 := h.hR
  have a : Away (fun b => b = B1) w (w.setCell ⟨B1, i, none⟩ v) := (Away.refl (fun b => b = B1) w).set (p := ⟨B1, i, none⟩) rfl v
  exact ⟨h.rd.off a (by omega) (fun g hg e => by omega), away_new h.away (by omega) i v, blk_set h.b1 i v, a.blk h.b2 (by omega), h.n1, h.n2, h.hR⟩
theorem rdNum_u32 {s : RdS} (h : Byt s.1) : U32 (rdNum s) := by
  have := num_lt (tkB s.1 4) 4 (tkB_byt h 4) (tkB_len s.1 4 (by decide)) (by decide)
  unfold rdNum
  have h2 : num (tkB s.1 4) < 4294967296 := this.2
  exact ⟨this.1, by omega⟩
theorem wrap_i32 (q : Int) : IntKind.i32.wrap q = (q + 2147483648) % 4294967296 - 2147483648 := by
  unfold IntKind.wrap
  simp [IntKind.bits, IntKind.signed]
  try omega
set_option maxHeartbeats 4000000 in
theorem ReadInf_any {w : World} {R : Nat} {s : RdS} {C : Nat → Prop} (h : ReaderAt w R s.1 s.2 C) :
    Calls Try.prog 79 #[.pointer (some ⟨R, 0, none⟩)] w fun e w' => e = .returned (.agg #[.int .u32 (readInf s).1.sec, .int .u32 (readInf s).1.frac, .int .u32 (readInf s).1.stamp, .int .u32 (readInf s).1.pkts, .int .u32 (readInf s).1.octs]) ∧ ReaderAt w' R (readInf s).2.1 (readInf s).2.2 C ∧ Away (fun b => b = R) w w' := by
  obtain ⟨L, E⟩ := s
  simp only at h
  have X0 := RdB.new #[.int .u32 0, .int .u32 0, .int .u32 0, .int .u32 0, .int .u32 0] 24 h
  have hb0 := h.byt
  have hd : readInf (L, E) = (⟨num (tkB L 4), num (tkB (tkL L 4) 4), num (tkB (tkL (tkL L 4) 4) 4), num (tkB (tkL (tkL (tkL L 4) 4) 4) 4), num (tkB (tkL (tkL (tkL (tkL L 4) 4) 4) 4) 4)⟩, ((tkL (tkL (tkL (tkL (tkL L 4) 4) 4) 4) 4), (tkE (tkL (tkL (tkL (tkL L 4) 4) 4) 4) 4 (tkE (tkL (tkL (tkL L 4) 4) 4) 4 (tkE (tkL (tkL L 4) 4) 4 (tkE (tkL L 4) 4 (tkE L 4 E))))))) := rfl
  have HD := Lib.hid hd
  clear hd
  have hb1 : Byt (tkL L 4) := hb0.drop _
  generalize hn0 : num (tkB L 4) = n0 at *
  generalize hE1 : tkE L 4 E = E1 at *
  generalize hL1 : tkL L 4 = L1 at *
  have hb2 : Byt (tkL L1 4) := hb1.drop _
  generalize hn1 : num (tkB L1 4) = n1 at *
  generalize hE2 : tkE L1 4 E1 = E2 at *
  generalize hL2 : tkL L1 4 = L2 at *
  have hb3 : Byt (tkL L2 4) := hb2.drop _
  generalize hn2 : num (tkB L2 4) = n2 at *
  generalize hE3 : tkE L2 4 E2 = E3 at *
  generalize hL3 : tkL L2 4 = L3 at *
  have hb4 : Byt (tkL L3 4) := hb3.drop _
  generalize hn3 : num (tkB L3 4) = n3 at *
  generalize hE4 : tkE L3 4 E3 = E4 at *
  generalize hL4 : tkL L3 4 = L4 at *
  have hb5 : Byt (tkL L4 4) := hb4.drop _
  generalize hn4 : num (tkB L4 4) = n4 at *
  generalize hE5 : tkE L4 4 E4 = E5 at *
  generalize hL5 : tkL L4 4 = L5 at *
  clear hb0 hb1 hb2 hb3 hb4 hb5
  go_enter Try.func79, Try.ntmps79
  go_wp2_with first | (go_at_call 78; ((with_reducible refine (RdNum_any X0.rd).mono ?_); rintro e w10 ⟨rfl, r0, a0⟩; have X10 := X0.step r0 a0; rw [hL1, hE1] at X10; rw [hn0]; have Y10 := X10.store 0 (.int .u32 n0); have c0 := blk_cell X10.b2 0 (v := .int .u32 0) rfl; have f0 := blk_free X10.b2 0)) | (go_at_call 78; ((with_reducible refine (RdNum_any Y10.rd).mono ?_); rintro e w11 ⟨rfl, r1, a1⟩; have X11 := Y10.step r1 a1; rw [hL2, hE2] at X11; rw [hn1]; have Y11 := X11.store 1 (.int .u32 n1); have c1 := blk_cell X11.b2 1 (v := .int .u32 0) rfl; have f1 := blk_free X11.b2 1)) | (go_at_call 78; ((with_reducible refine (RdNum_any Y11.rd).mono ?_); rintro e w12 ⟨rfl, r2, a2⟩; have X12 := Y11.step r2 a2; rw [hL3, hE3] at X12; rw [hn2]; have Y12 := X12.store 2 (.int .u32 n2); have c2 := blk_cell X12.b2 2 (v := .int .u32 0) rfl; have f2 := blk_free X12.b2 2)) | (go_at_call 78; ((with_reducible refine (RdNum_any Y12.rd).mono ?_); rintro e w13 ⟨rfl, r3, a3⟩; have X13 := Y12.step r3 a3; rw [hL4, hE4] at X13; rw [hn3]; have Y13 := X13.store 3 (.int .u32 n3); have c3 := blk_cell X13.b2 3 (v := .int .u32 0) rfl; have f3 := blk_free X13.b2 3)) | (go_at_call 78; ((with_reducible refine (RdNum_any Y13.rd).mono ?_); rintro e w14 ⟨rfl, r4, a4⟩; have X14 := Y13.step r4 a4; rw [hL5, hE5] at X14; rw [hn4]; have Y14 := X14.store 4 (.int .u32 n4); have c4 := blk_cell X14.b2 4 (v := .int .u32 0) rfl; have f4 := blk_free X14.b2 4; have d0 := blk_cell X14.b2 0 (v := .int .u32 n0) rfl; have d1 := blk_cell X14.b2 1 (v := .int .u32 n1) rfl; have d2 := blk_cell X14.b2 2 (v := .int .u32 n2) rfl; have d3 := blk_cell X14.b2 3 (v := .int .u32 n3) rfl; have g0 := blk_cell X14.b1 0 (v := .int .u32 0) rfl; have z0 := blk_free X14.b1 0; have g1 := blk_cell X14.b1 1 (v := .int .u32 0) rfl; have z1 := blk_free X14.b1 1; have g2 := blk_cell X14.b1 2 (v := .int .u32 0) rfl; have z2 := blk_free X14.b1 2; have g3 := blk_cell X14.b1 3 (v := .int .u32 0) rfl; have z3 := blk_free X14.b1 3; have g4 := blk_cell X14.b1 4 (v := .int .u32 0) rfl; have z4 := blk_free X14.b1 4))
  (refine bodyPost_ret (v := .agg #[.int .u32 n0, .int .u32 n1, .int .u32 n2, .int .u32 n3, .int .u32 n4]) ?rr1 rfl ?_; (case rr1 => (simp [results, Try.results79, go_sem, g0, g1, g2, g3, g4])))
  have Z := (((((Y14.fill 0 (.int .u32 n0)).fill 1 (.int .u32 n1)).fill 2 (.int .u32 n2)).fill 3 (.int .u32 n3)).fill 4 (.int .u32 n4))
  exact ⟨by rw [HD.out], by rw [HD.out]; exact Z.rd.mono fun g h => h.1, Z.away⟩
set_option maxHeartbeats 4000000 in
theorem ReadBlk_any {w : World} {R : Nat} {s : RdS} {C : Nat → Prop} (h : ReaderAt w R s.1 s.2 C) :
    Calls Try.prog 80 #[.pointer (some ⟨R, 0, none⟩)] w fun e w' => e = .returned (.agg #[.int .u32 (readBlk s).1.src, .int .u8 (readBlk s).1.part, .int .i32 (readBlk s).1.miss, .int .u32 (readBlk s).1.high, .int .u32 (readBlk s).1.jit, .int .u32 (readBlk s).1.last, .int .u32 (readBlk s).1.dly]) ∧ ReaderAt w' R (readBlk s).2.1 (readBlk s).2.2 C ∧ Away (fun b => b = R) w w' := by
  obtain ⟨L, E⟩ := s
  simp only at h
  have X0 := RdB.new #[.int .u32 0, .int .u8 0, .int .i32 0, .int .u32 0, .int .u32 0, .int .u32 0, .int .u32 0] 134 h
  have hb0 := h.byt
  have hd : readBlk (L, E) = (⟨num (tkB L 4), num (tkB (tkL L 4) 1), sgd (num (tkB (tkL (tkL L 4) 1) 3)) 24, num (tkB (tkL (tkL (tkL L 4) 1) 3) 4), num (tkB (tkL (tkL (tkL (tkL L 4) 1) 3) 4) 4), num (tkB (tkL (tkL (tkL (tkL (tkL L 4) 1) 3) 4) 4) 4), num (tkB (tkL (tkL (tkL (tkL (tkL (tkL L 4) 1) 3) 4) 4) 4) 4)⟩, ((tkL (tkL (tkL (tkL (tkL (tkL (tkL L 4) 1) 3) 4) 4) 4) 4), (tkE (tkL (tkL (tkL (tkL (tkL (tkL L 4) 1) 3) 4) 4) 4) 4 (tkE (tkL (tkL (tkL (tkL (tkL L 4) 1) 3) 4) 4) 4 (tkE (tkL (tkL (tkL (tkL L 4) 1) 3) 4) 4 (tkE (tkL (tkL (tkL L 4) 1) 3) 4 (tkE (tkL (tkL L 4) 1) 3 (tkE (tkL L 4) 1 (tkE L 4 E))))))))) := rfl
  have HD := Lib.hid hd
  clear hd
  have hb1 : Byt (tkL L 4) := hb0.drop _
  generalize hn0 : num (tkB L 4) = n0 at *
  generalize hE1 : tkE L 4 E = E1 at *
  generalize hL1 : tkL L 4 = L1 at *
  have hb2 : Byt (tkL L1 1) := hb1.drop _
  generalize hn1 : num (tkB L1 1) = n1 at *
  generalize hE2 : tkE L1 1 E1 = E2 at *
  generalize hL2 : tkL L1 1 = L2 at *
  have hbd2 := num_lt (tkB L2 3) 3 (tkB_byt hb2 3) (tkB_len L2 3 (by decide)) (by decide)
  have hb3 : Byt (tkL L2 3) := hb2.drop _
  generalize hn2 : num (tkB L2 3) = n2 at *
  generalize hE3 : tkE L2 3 E2 = E3 at *
  generalize hL3 : tkL L2 3 = L3 at *
  have hu2 : U64 n2 := by
    have h1 := hbd2.1
    have h2 : n2 < 16777216 := hbd2.2
    unfold U64; omega
  have hwr : IntKind.u64.wrap n2 = n2 := by
    have h2 : n2 < 16777216 := hbd2.2
    exact Int.emod_eq_of_lt hbd2.1 (by show n2 < 18446744073709551616; omega)
  have hsb := sgd_bd n2 24 (by decide) (by decide)
  have hq0 : (sgd n2 24 + 2147483648) % 4294967296 - 2147483648 = sgd n2 24 := by
    have e : two (24 - 1) = 8388608 := by decide
    rw [e] at hsb; omega
  generalize hq : sgd n2 24 = q at *
  have hq1 : IntKind.i32.wrap q = q := (wrap_i32 q).trans hq0
  have hb4 : Byt (tkL L3 4) := hb3.drop _
  generalize hn3 : num (tkB L3 4) = n3 at *
  generalize hE4 : tkE L3 4 E3 = E4 at *
  generalize hL4 : tkL L3 4 = L4 at *
  have hb5 : Byt (tkL L4 4) := hb4.drop _
  generalize hn4 : num (tkB L4 4) = n4 at *
  generalize hE5 : tkE L4 4 E4 = E5 at *
  generalize hL5 : tkL L4 4 = L5 at *
  have hb6 : Byt (tkL L5 4) := hb5.drop _
  generalize hn5 : num (tkB L5 4) = n5 at *
  generalize hE6 : tkE L5 4 E5 = E6 at *
  generalize hL6 : tkL L5 4 = L6 at *
  have hb7 : Byt (tkL L6 4) := hb6.drop _
  generalize hn6 : num (tkB L6 4) = n6 at *
  generalize hE7 : tkE L6 4 E6 = E7 at *
  generalize hL7 : tkL L6 4 = L7 at *
  clear hb0 hb1 hb2 hb3 hb4 hb5 hb6 hb7 hsb hbd2
  go_enter Try.func80, Try.ntmps80
  go_wp2_with first | (go_at_call 78; ((with_reducible refine (RdNum_any X0.rd).mono ?_); rintro e w10 ⟨rfl, r0, a0⟩; have X10 := X0.step r0 a0; rw [hL1, hE1] at X10; rw [hn0]; have Y10 := X10.store 0 (.int .u32 n0); have c0 := blk_cell X10.b2 0 (v := .int .u32 0) rfl; have f0 := blk_free X10.b2 0)) | (go_at_call 88; ((with_reducible refine (RdByte_any Y10.rd).mono ?_); rintro e w11 ⟨rfl, r1, a1⟩; have X11 := Y10.step r1 a1; rw [hL2, hE2] at X11; rw [hn1]; have Y11 := X11.store 1 (.int .u8 n1); have c1 := blk_cell X11.b2 1 (v := .int .u8 0) rfl; have f1 := blk_free X11.b2 1)) | (go_at_call 137; ((with_reducible refine (RdThree_any Y11.rd).mono ?_); rintro e w12 ⟨rfl, r2, a2⟩; have X12 := Y11.step r2 a2; rw [hL3, hE3] at X12; rw [hn2]; have Y12 := X12.store 2 (.int .i32 q); have c2 := blk_cell X12.b2 2 (v := .int .i32 0) rfl; have f2 := blk_free X12.b2 2)) | (go_at_call 136; ((with_reducible refine (Signed_any n2 24 hu2 (by decide) _).mono ?_); rintro e wS ⟨rfl, rfl⟩; rw [hq])) | (go_at_call 78; ((with_reducible refine (RdNum_any Y12.rd).mono ?_); rintro e w13 ⟨rfl, r3, a3⟩; have X13 := Y12.step r3 a3; rw [hL4, hE4] at X13; rw [hn3]; have Y13 := X13.store 3 (.int .u32 n3); have c3 := blk_cell X13.b2 3 (v := .int .u32 0) rfl; have f3 := blk_free X13.b2 3)) | (go_at_call 78; ((with_reducible refine (RdNum_any Y13.rd).mono ?_); rintro e w14 ⟨rfl, r4, a4⟩; have X14 := Y13.step r4 a4; rw [hL5, hE5] at X14; rw [hn4]; have Y14 := X14.store 4 (.int .u32 n4); have c4 := blk_cell X14.b2 4 (v := .int .u32 0) rfl; have f4 := blk_free X14.b2 4)) | (go_at_call 78; ((with_reducible refine (RdNum_any Y14.rd).mono ?_); rintro e w15 ⟨rfl, r5, a5⟩; have X15 := Y14.step r5 a5; rw [hL6, hE6] at X15; rw [hn5]; have Y15 := X15.store 5 (.int .u32 n5); have c5 := blk_cell X15.b2 5 (v := .int .u32 0) rfl; have f5 := blk_free X15.b2 5)) | (go_at_call 78; ((with_reducible refine (RdNum_any Y15.rd).mono ?_); rintro e w16 ⟨rfl, r6, a6⟩; have X16 := Y15.step r6 a6; rw [hL7, hE7] at X16; rw [hn6]; have Y16 := X16.store 6 (.int .u32 n6); have c6 := blk_cell X16.b2 6 (v := .int .u32 0) rfl; have f6 := blk_free X16.b2 6; have d0 := blk_cell X16.b2 0 (v := .int .u32 n0) rfl; have d1 := blk_cell X16.b2 1 (v := .int .u8 n1) rfl; have d2 := blk_cell X16.b2 2 (v := .int .i32 q) rfl; have d3 := blk_cell X16.b2 3 (v := .int .u32 n3) rfl; have d4 := blk_cell X16.b2 4 (v := .int .u32 n4) rfl; have d5 := blk_cell X16.b2 5 (v := .int .u32 n5) rfl; have g0 := blk_cell X16.b1 0 (v := .int .u32 0) rfl; have z0 := blk_free X16.b1 0; have g1 := blk_cell X16.b1 1 (v := .int .u8 0) rfl; have z1 := blk_free X16.b1 1; have g2 := blk_cell X16.b1 2 (v := .int .i32 0) rfl; have z2 := blk_free X16.b1 2; have g3 := blk_cell X16.b1 3 (v := .int .u32 0) rfl; have z3 := blk_free X16.b1 3; have g4 := blk_cell X16.b1 4 (v := .int .u32 0) rfl; have z4 := blk_free X16.b1 4; have g5 := blk_cell X16.b1 5 (v := .int .u32 0) rfl; have z5 := blk_free X16.b1 5; have g6 := blk_cell X16.b1 6 (v := .int .u32 0) rfl; have z6 := blk_free X16.b1 6))
  (refine bodyPost_ret (v := .agg #[.int .u32 n0, .int .u8 n1, .int .i32 q, .int .u32 n3, .int .u32 n4, .int .u32 n5, .int .u32 n6]) ?rr2 rfl ?_; (case rr2 => (simp [results, Try.results80, go_sem, g0, g1, g2, g3, g4, g5, g6])))
  have Z := (((((((Y16.fill 0 (.int .u32 n0)).fill 1 (.int .u8 n1)).fill 2 (.int .i32 q)).fill 3 (.int .u32 n3)).fill 4 (.int .u32 n4)).fill 5 (.int .u32 n5)).fill 6 (.int .u32 n6))
  exact ⟨by rw [HD.out], by rw [HD.out]; exact Z.rd.mono fun g h => h.1, Z.away⟩
end Go.Proofs.Ytlnikmcimmnbmaa
