/- Reports: the law ReportTells. -/
import Derived.Test.YtlnikmcimmnbmaaReportX
import Derived.Test.YtlnikmcimmnbmaaReportH
import Derived.Test.YtlnikmcimmnbmaaReportS
namespace Go.Proofs.Ytlnikmcimmnbmaa
set_option linter.unusedSimpArgs false
set_option linter.unusedVariables false
open Go.RowKit
set_option maxRecDepth 100000

set_option maxHeartbeats 4000000 in
theorem RRead08_no {w : World} (k t : Int) (B : List Int) (ob : Option Addr) (cb : Nat) (SL : Hid (SlI .u8 w (.slice ob B.length cb) B)) (HR : Hid (rightB (k, t, B, ()) = false)) :
    Calls Try.prog 20 #[.agg #[.int .u8 k, .int .u8 t, .slice ob B.length cb]] w fun e w' => e = .returned (.tuple #[.agg #[.bool false, .int .u32 0, .int .u32 0, .int .u32 0, .int .u32 0, .int .u32 0, .int .u32 0, .slice none 0 0], .int .i64 1]) ∧ More w w' := by
  have HRT := Lib.hid (RRight07_any (w := (w.alloc (.cells #[.int .u8 k, .int .u8 t, .slice ob B.length cb] 35)).alloc (.cells #[.bool false, .int .u32 0, .int .u32 0, .int .u32 0, .int .u32 0, .int .u32 0, .int .u32 0, .slice none 0 0] 41)) (k, t, B, ()) (SL.out.keep ((More.alloc _ _).al _)))
  have B0 := Lib.hid (blk_new2 (w := w.alloc (.cells #[.int .u8 k, .int .u8 t, .slice ob B.length cb] 35)) (n := w.heap.size + 1) (o := .cells #[.bool false, .int .u32 0, .int .u32 0, .int .u32 0, .int .u32 0, .int .u32 0, .int .u32 0, .slice none 0 0] 41) (by simp))
  go_enter Try.func20, Try.ntmps20
  go_wp2_with (go_at_call 82; ((with_reducible refine (HRT.out).mono ?_); rintro e w3 ⟨rfl, m3⟩; rw [HR.out]; have B3 := Lib.hid (blk_more m3 B0.out); have M3 := Lib.hid (((More.alloc w (.cells #[.int .u8 k, .int .u8 t, .slice ob B.length cb] 35)).al (.cells #[.bool false, .int .u32 0, .int .u32 0, .int .u32 0, .int .u32 0, .int .u32 0, .int .u32 0, .slice none 0 0] 41)).trans m3); clear m3; obtain ⟨g0, g1, g2, g3, g4, g5, g6, g7⟩ := cells8 B3.out; obtain ⟨f0, f1, f2, f3, f4, f5, f6, f7⟩ := free8 B3.out))
  have fin := st8_blk B3.out (.bool false) (.int .u32 0) (.int .u32 0) (.int .u32 0) (.int .u32 0) (.int .u32 0) (.int .u32 0) (.slice none 0 0)
  have a8 := Away.st8 w3 (w.heap.size + 1) (.bool false) (.int .u32 0) (.int .u32 0) (.int .u32 0) (.int .u32 0) (.int .u32 0) (.int .u32 0) (.slice none 0 0)
  have mf := Away.to_more M3.out a8 (fun b e => by omega)
  obtain ⟨WF, hWF⟩ : ∃ WF, ((((((((w3.setCell ⟨w.heap.size + 1, 0, none⟩ (.bool false)).setCell ⟨w.heap.size + 1, 1, none⟩ (.int .u32 0)).setCell ⟨w.heap.size + 1, 2, none⟩ (.int .u32 0)).setCell ⟨w.heap.size + 1, 3, none⟩ (.int .u32 0)).setCell ⟨w.heap.size + 1, 4, none⟩ (.int .u32 0)).setCell ⟨w.heap.size + 1, 5, none⟩ (.int .u32 0)).setCell ⟨w.heap.size + 1, 6, none⟩ (.int .u32 0)).setCell ⟨w.heap.size + 1, 7, none⟩ (.slice none 0 0)) = WF := ⟨_, rfl⟩
  rw [hWF] at fin mf ⊢
  clear hWF a8
  obtain ⟨r0, r1, r2, r3, r4, r5, r6, r7⟩ := cells8 fin
  (refine bodyPost_ret (v := .tuple #[.agg #[.bool false, .int .u32 0, .int .u32 0, .int .u32 0, .int .u32 0, .int .u32 0, .int .u32 0, .slice none 0 0], .int .i64 1]) ?rr1 rfl ?_; (case rr1 => (simp [results, Try.results20, go_sem, r0, r1, r2, r3, r4, r5, r6, r7])))
  exact ⟨rfl, mf⟩
set_option maxHeartbeats 4000000 in
theorem RRead08_other {w : World} (k t : Int) (B : List Int) (ob : Option Addr) (cb : Nat) (SL : Hid (SlI .u8 w (.slice ob B.length cb) B)) (HR : Hid (rightB (k, t, B, ()) = true)) (h200 : ¬ t = 200) (h201 : ¬ t = 201) :
    Calls Try.prog 20 #[.agg #[.int .u8 k, .int .u8 t, .slice ob B.length cb]] w fun e w' => e = .returned (.tuple #[.agg #[.bool false, .int .u32 0, .int .u32 0, .int .u32 0, .int .u32 0, .int .u32 0, .int .u32 0, .slice none 0 0], .int .i64 5]) ∧ More w w' := by
  have HRT := Lib.hid (RRight07_any (w := (w.alloc (.cells #[.int .u8 k, .int .u8 t, .slice ob B.length cb] 35)).alloc (.cells #[.bool false, .int .u32 0, .int .u32 0, .int .u32 0, .int .u32 0, .int .u32 0, .int .u32 0, .slice none 0 0] 41)) (k, t, B, ()) (SL.out.keep ((More.alloc _ _).al _)))
  have A0 := Lib.hid (blk_alloc (blk_new w (.cells #[.int .u8 k, .int .u8 t, .slice ob B.length cb] 35)) (.cells #[.bool false, .int .u32 0, .int .u32 0, .int .u32 0, .int .u32 0, .int .u32 0, .int .u32 0, .slice none 0 0] 41))
  have B0 := Lib.hid (blk_new2 (w := w.alloc (.cells #[.int .u8 k, .int .u8 t, .slice ob B.length cb] 35)) (n := w.heap.size + 1) (o := .cells #[.bool false, .int .u32 0, .int .u32 0, .int .u32 0, .int .u32 0, .int .u32 0, .int .u32 0, .slice none 0 0] 41) (by simp))
  have hb200 : (t != 200) = true := by simpa using h200
  have hb201 : (t != 201) = true := by simpa using h201
  clear h200 h201
  go_enter Try.func20, Try.ntmps20
  go_wp2_with (go_at_call 82; ((with_reducible refine (HRT.out).mono ?_); rintro e w3 ⟨rfl, m3⟩; rw [HR.out]; have B3 := Lib.hid (blk_more m3 B0.out); have p1 := blk_cell (blk_more m3 A0.out) 1 (v := .int .u8 t) rfl; have M3 := Lib.hid (((More.alloc w (.cells #[.int .u8 k, .int .u8 t, .slice ob B.length cb] 35)).al (.cells #[.bool false, .int .u32 0, .int .u32 0, .int .u32 0, .int .u32 0, .int .u32 0, .int .u32 0, .slice none 0 0] 41)).trans m3); clear m3; obtain ⟨g0, g1, g2, g3, g4, g5, g6, g7⟩ := cells8 B3.out; obtain ⟨f0, f1, f2, f3, f4, f5, f6, f7⟩ := free8 B3.out))
  have fin := st8_blk B3.out (.bool false) (.int .u32 0) (.int .u32 0) (.int .u32 0) (.int .u32 0) (.int .u32 0) (.int .u32 0) (.slice none 0 0)
  have a8 := Away.st8 w3 (w.heap.size + 1) (.bool false) (.int .u32 0) (.int .u32 0) (.int .u32 0) (.int .u32 0) (.int .u32 0) (.int .u32 0) (.slice none 0 0)
  have mf := Away.to_more M3.out a8 (fun b e => by omega)
  obtain ⟨WF, hWF⟩ : ∃ WF, ((((((((w3.setCell ⟨w.heap.size + 1, 0, none⟩ (.bool false)).setCell ⟨w.heap.size + 1, 1, none⟩ (.int .u32 0)).setCell ⟨w.heap.size + 1, 2, none⟩ (.int .u32 0)).setCell ⟨w.heap.size + 1, 3, none⟩ (.int .u32 0)).setCell ⟨w.heap.size + 1, 4, none⟩ (.int .u32 0)).setCell ⟨w.heap.size + 1, 5, none⟩ (.int .u32 0)).setCell ⟨w.heap.size + 1, 6, none⟩ (.int .u32 0)).setCell ⟨w.heap.size + 1, 7, none⟩ (.slice none 0 0)) = WF := ⟨_, rfl⟩
  rw [hWF] at fin mf ⊢
  clear hWF a8
  obtain ⟨r0, r1, r2, r3, r4, r5, r6, r7⟩ := cells8 fin
  (refine bodyPost_ret (v := .tuple #[.agg #[.bool false, .int .u32 0, .int .u32 0, .int .u32 0, .int .u32 0, .int .u32 0, .int .u32 0, .slice none 0 0], .int .i64 5]) ?rr2 rfl ?_; (case rr2 => (simp [results, Try.results20, go_sem, r0, r1, r2, r3, r4, r5, r6, r7])))
  exact ⟨rfl, mf⟩
theorem RRead08_any {w : World} {vb : Value} (c : Chunk) (sl : SlI .u8 w vb c.2.2.1) (hk : ChunkOK c) (hl : c.2.2.1.length ≤ 1000000) :
    Calls Try.prog 20 #[.agg #[.int .u8 c.1, .int .u8 c.2.1, vb]] w fun e w' => (∃ vb, e = .returned (.tuple #[.agg #[.bool (readR c).1.snd, .int .u32 (readR c).1.src, .int .u32 (readR c).1.inf.sec, .int .u32 (readR c).1.inf.frac, .int .u32 (readR c).1.inf.stamp, .int .u32 (readR c).1.inf.pkts, .int .u32 (readR c).1.inf.octs, vb], .int .i64 (readR c).2]) ∧ SlP 7 RBlk w' vb (readR c).1.bl) ∧ More w w' := by
  obtain ⟨k, t, B, ⟨⟩⟩ := c
  obtain ⟨⟨k0, k1⟩, _, hb⟩ := hk
  simp only at *
  have SL := Lib.hid sl
  obtain ⟨ob, cb, rfl, _⟩ := sl
  cases hr : rightB (k, t, B, ()) with
  | false =>
    have e : readR (k, t, B, ()) = (rep0, 1) := by unfold readR; rw [if_pos hr]
    rw [e]
    exact (RRead08_no k t B ob cb SL (Lib.hid hr)).mono fun e w' ⟨h1, h2⟩ => ⟨⟨_, h1, SlP.nil _ _ _⟩, h2⟩
  | true =>
    have hk31 := ((rightB_iff _).1 hr).1
    simp only at hk31
    obtain ⟨kn, rfl⟩ : ∃ n : Nat, k = n := ⟨k.toNat, by omega⟩
    by_cases h200 : t = 200
    · subst h200
      have e : readR ((kn : Int), 200, B, ()) = doneR ⟨true, rdNum (B, 0), (readInf (tkS (B, 0) 4)).1, (readBls kn (readInf (tkS (B, 0) 4)).2).1⟩ (readBls kn (readInf (tkS (B, 0) 4)).2).2 := by
        unfold readR
        rw [if_neg (by rw [hr]; simp), if_pos rfl]
        rfl
      exact RRead08_200 kn B ob cb _ SL (Lib.hid hb) hl (by omega) (Lib.hid hr) _ (Lib.hid rfl) (Lib.hid e.symm)
    · by_cases h201 : t = 201
      · subst h201
        have e : readR ((kn : Int), 201, B, ()) = doneR ⟨false, rdNum (B, 0), inf0, (readBls kn (tkS (B, 0) 4)).1⟩ (readBls kn (tkS (B, 0) 4)).2 := by
          unfold readR
          rw [if_neg (by rw [hr]; simp), if_neg (show ¬ (201 : Int) = 200 by decide), if_pos rfl]
          rfl
        exact RRead08_201 kn B ob cb _ SL (Lib.hid hb) hl (by omega) (Lib.hid hr) _ (Lib.hid rfl) (Lib.hid e.symm)
      · have e : readR ((kn : Int), t, B, ()) = (rep0, 5) := by unfold readR; rw [if_neg (by rw [hr]; simp), if_neg h200, if_neg h201]
        rw [e]
        exact (RRead08_other (kn : Int) t B ob cb SL (Lib.hid hr) h200 h201).mono fun e w' ⟨h1, h2⟩ => ⟨⟨_, h1, SlP.nil _ _ _⟩, h2⟩
theorem RWrite08_all {w : World} {vb : Value} (r : Rep) (sl : SlP 7 RBlk w vb r.bl) (hk : RepOK r) :
    Calls Try.prog 17 #[.agg #[.bool r.snd, .int .u32 r.src, .int .u32 r.inf.sec, .int .u32 r.inf.frac, .int .u32 r.inf.stamp, .int .u32 r.inf.pkts, .int .u32 r.inf.octs, vb]] w fun e w' => ∃ vx, e = .returned (.tuple #[.agg #[.int .u8 (writeR r).1.1, .int .u8 (writeR r).1.2.1, vx], .int .i64 (writeR r).2]) ∧ SlI .u8 w' vx (writeR r).1.2.2.1 ∧ More w w' := by
  obtain ⟨s, src, i, bl⟩ := r
  simp only at *
  have SL := Lib.hid sl
  obtain ⟨oa, cap, rfl, -⟩ := sl
  cases hr : rightR ⟨s, src, i, bl⟩ with
  | false =>
    rw [writeR_no hr]
    exact (RWrite08_no s src i bl oa cap SL.out hr).mono fun e w' ⟨h1, h2⟩ => ⟨_, h1, SlI.nil _ _, h2⟩
  | true =>
    rw [writeR_yes hr]
    exact RWrite08_yes s src i bl oa cap SL.out _ (Lib.hid rfl) hk hr
/-- The boxes of the arguments. -/
structure Box2 (w x : World) (or oc : Obj) : Prop where
  r : x.heap[w.heap.size]? = some or
  c : x.heap[w.heap.size + 1]? = some oc
  more : More w x
theorem Box2.new (w : World) (cr cc : Array Value) (tr tc : Nat) : Box2 w ((w.alloc (.cells cr tr)).alloc (.cells cc tc)) (.cells cr tr) (.cells cc tc) :=
  ⟨blk_alloc (blk_new w _) _, blk_new2 (by simp), (More.alloc _ _).al _⟩
theorem Box2.on {w x y : World} {a b : Obj} (h : Box2 w x a b) (m : More x y) : Box2 w y a b := ⟨blk_more m h.r, blk_more m h.c, h.more.trans m⟩
set_option maxHeartbeats 4000000 in
theorem ReportTells_long {w : World} (o1 : Option Addr) (k1 : Nat) (o2 : Option Addr) (k2 : Nat) (r : Rep) (c : Chunk) (hx : (40 : Int) < r.bl.length ∨ (¬ (40 : Int) < r.bl.length ∧ (400 : Int) < c.2.2.1.length)) :
    Calls Try.prog 3 #[.agg #[.bool r.snd, .int .u32 r.src, .int .u32 r.inf.sec, .int .u32 r.inf.frac, .int .u32 r.inf.stamp, .int .u32 r.inf.pkts, .int .u32 r.inf.octs, .slice o1 r.bl.length k1], .agg #[.int .u8 c.1, .int .u8 c.2.1, .slice o2 c.2.2.1.length k2]] w fun e w' => e = .returned (.bool true) ∧ More w w' := by
  rcases hx with h1 | ⟨h1, h2⟩
  all_goals
    go_enter Try.func3, Try.ntmps3
    go_wp2_with (go_at_call 15; ((with_reducible refine (awake08 _).mono ?_); rintro e w1 ⟨rfl, m1⟩; have X1 := Lib.hid ((Box2.new w #[.bool r.snd, .int .u32 r.src, .int .u32 r.inf.sec, .int .u32 r.inf.frac, .int .u32 r.inf.stamp, .int .u32 r.inf.pkts, .int .u32 r.inf.octs, .slice o1 r.bl.length k1] #[.int .u8 c.1, .int .u8 c.2.1, .slice o2 c.2.2.1.length k2] 27 30).on m1); clear m1; have x7 := blk_cell X1.out.r 7 (v := .slice o1 r.bl.length k1) rfl; have x2 := blk_cell X1.out.c 2 (v := .slice o2 c.2.2.1.length k2) rfl))
    go_ret
    exact ⟨rfl, X1.out.more⟩
set_option maxHeartbeats 8000000 in
theorem ReportTells_main {w : World} (o1 : Option Addr) (k1 : Nat) (o2 : Option Addr) (k2 : Nat) (r : Rep) (c : Chunk) (SR : Hid (SlP 7 RBlk w (.slice o1 r.bl.length k1) r.bl)) (SC : Hid (SlI .u8 w (.slice o2 c.2.2.1.length k2) c.2.2.1)) (KR : Hid (RepOK r)) (KC : Hid (ChunkOK c))
    (h1 : ¬ (40 : Int) < r.bl.length) (h2 : ¬ (400 : Int) < c.2.2.1.length) (wk wt : Int) (WB : List Int) (we : Int) (HW : Hid (writeR r = ((wk, wt, WB, ()), we))) (q : Rep) (qe : Int) (hq40 : Hid (q.bl.length ≤ 100000)) (HQ : Hid (readR c = (q, qe))) (KW : Hid (ChunkOK (wk, wt, WB, ()))) :
    Calls Try.prog 3 #[.agg #[.bool r.snd, .int .u32 r.src, .int .u32 r.inf.sec, .int .u32 r.inf.frac, .int .u32 r.inf.stamp, .int .u32 r.inf.pkts, .int .u32 r.inf.octs, .slice o1 r.bl.length k1], .agg #[.int .u8 c.1, .int .u8 c.2.1, .slice o2 c.2.2.1.length k2]] w fun e w' => e = .returned (.bool true) ∧ More w w' := by
  have hr40 : r.bl.length ≤ 100000 := by omega
  have hc6 : c.2.2.1.length ≤ 1000000 := by omega
  go_enter Try.func3, Try.ntmps3
  go_wp2_with (first | (go_at_call 15; ((with_reducible refine (awake08 _).mono ?_); rintro e w1 ⟨rfl, m1⟩; have X1 := Lib.hid ((Box2.new w #[.bool r.snd, .int .u32 r.src, .int .u32 r.inf.sec, .int .u32 r.inf.frac, .int .u32 r.inf.stamp, .int .u32 r.inf.pkts, .int .u32 r.inf.octs, .slice o1 r.bl.length k1] #[.int .u8 c.1, .int .u8 c.2.1, .slice o2 c.2.2.1.length k2] 27 30).on m1); clear m1; obtain ⟨x0, x1, x2, x3, x4, x5, x6, x7⟩ := cells8 X1.out.r; have y2 := blk_cell X1.out.c 2 (v := .slice o2 c.2.2.1.length k2) rfl)) | (go_at_call 16; ((with_reducible refine (Write08_any r (SR.out.keep keepsBlk X1.out.more) KR.out).mono ?_); rintro e w2 ⟨vd, rfl, sd, m2⟩; rw [HW.out]; rw [HW.out] at sd; have SD := Lib.hid sd; obtain ⟨od, kd, rfl, -⟩ := sd; have X2 := Lib.hid (X1.out.on (m2.trans (More.alloc w2 (.cells #[.int .u8 wk, .int .u8 wt, .slice od WB.length kd] 30)))); have N2 := Lib.hid (blk_new w2 (.cells #[.int .u8 wk, .int .u8 wt, .slice od WB.length kd] 30)); have SD2 := Lib.hid (SD.out.keep (More.alloc w2 (.cells #[.int .u8 wk, .int .u8 wt, .slice od WB.length kd] 30))); clear m2 SD x0 x1 x2 x3 x4 x5 x6 x7 y2; obtain ⟨x0, x1, x2, x3, x4, x5, x6, x7⟩ := cells8 X2.out.r)) | (go_at_call 18; ((with_reducible refine (own08 r (SR.out.keep keepsBlk X2.out.more) hr40).mono ?_); rintro e w3 ⟨⟨v3, rfl, s3⟩, m3⟩; have S3 := Lib.hid s3; have X3 := Lib.hid (X2.out.on m3); have N3 := Lib.hid (blk_more m3 N2.out); have SD3 := Lib.hid (SD2.out.keep m3); clear m3 s3 SD2 x0 x1 x2 x3 x4 x5 x6 x7)) | (go_at_call 17; ((with_reducible refine (RWrite08_all r S3.out KR.out).mono ?_); rintro e w4 ⟨vk, rfl, sk, m4⟩; rw [HW.out]; rw [HW.out] at sk; have SK := Lib.hid sk; obtain ⟨ok, kk, rfl, -⟩ := sk; have m4 := m4.trans (More.alloc w4 (.cells #[.int .u8 wk, .int .u8 wt, .slice ok WB.length kk] 35)); have X4 := Lib.hid (X3.out.on m4); have N4 := Lib.hid (blk_more m4 N3.out); have SD4 := Lib.hid (SD3.out.keep m4); have O4 := Lib.hid (blk_new w4 (.cells #[.int .u8 wk, .int .u8 wt, .slice ok WB.length kk] 35)); have SK4 := Lib.hid (SK.out.keep (More.alloc w4 (.cells #[.int .u8 wk, .int .u8 wt, .slice ok WB.length kk] 35))); clear m4 SK SD3 S3; have y0 := blk_cell X4.out.c 0 (v := .int .u8 c.1) rfl; have y1 := blk_cell X4.out.c 1 (v := .int .u8 c.2.1) rfl; have y2 := blk_cell X4.out.c 2 (v := .slice o2 c.2.2.1.length k2) rfl)) | (go_at_call 19; ((with_reducible refine (Read08_any c (SC.out.keep X4.out.more) KC.out hc6).mono ?_); rintro e w5 ⟨⟨vs, rfl, ss⟩, m5⟩; rw [HQ.out]; rw [HQ.out] at ss; have SS := Lib.hid ss; obtain ⟨os, ks, rfl, -⟩ := ss; have m5 := m5.trans (More.alloc w5 (.cells #[.bool q.snd, .int .u32 q.src, .int .u32 q.inf.sec, .int .u32 q.inf.frac, .int .u32 q.inf.stamp, .int .u32 q.inf.pkts, .int .u32 q.inf.octs, .slice os q.bl.length ks] 27)); have X5 := Lib.hid (X4.out.on m5); have N5 := Lib.hid (blk_more m5 N4.out); have SD5 := Lib.hid (SD4.out.keep m5); have O5 := Lib.hid (blk_more m5 O4.out); have SK5 := Lib.hid (SK4.out.keep m5); have P5 := Lib.hid (blk_new w5 (.cells #[.bool q.snd, .int .u32 q.src, .int .u32 q.inf.sec, .int .u32 q.inf.frac, .int .u32 q.inf.stamp, .int .u32 q.inf.pkts, .int .u32 q.inf.octs, .slice os q.bl.length ks] 27)); have SS5 := Lib.hid (SS.out.keep keepsBlk (More.alloc w5 (.cells #[.bool q.snd, .int .u32 q.src, .int .u32 q.inf.sec, .int .u32 q.inf.frac, .int .u32 q.inf.stamp, .int .u32 q.inf.pkts, .int .u32 q.inf.octs, .slice os q.bl.length ks] 27))); clear m5 SS SD4 SK4 y0 y1 y2; have y0 := blk_cell X5.out.c 0 (v := .int .u8 c.1) rfl; have y1 := blk_cell X5.out.c 1 (v := .int .u8 c.2.1) rfl; have y2 := blk_cell X5.out.c 2 (v := .slice o2 c.2.2.1.length k2) rfl)) | (go_at_call 20; ((with_reducible refine (RRead08_any c (SC.out.keep X5.out.more) KC.out hc6).mono ?_); rintro e w6 ⟨⟨vt, rfl, st⟩, m6⟩; rw [HQ.out]; rw [HQ.out] at st; have ST := Lib.hid st; obtain ⟨ot, kt, rfl, -⟩ := st; have m6 := m6.trans (More.alloc w6 (.cells #[.bool q.snd, .int .u32 q.src, .int .u32 q.inf.sec, .int .u32 q.inf.frac, .int .u32 q.inf.stamp, .int .u32 q.inf.pkts, .int .u32 q.inf.octs, .slice ot q.bl.length kt] 41)); have X6 := Lib.hid (X5.out.on m6); have N6 := Lib.hid (blk_more m6 N5.out); have SD6 := Lib.hid (SD5.out.keep m6); have O6 := Lib.hid (blk_more m6 O5.out); have SK6 := Lib.hid (SK5.out.keep m6); have P6 := Lib.hid (blk_more m6 P5.out); have SS6 := Lib.hid (SS5.out.keep keepsBlk m6); have Q6 := Lib.hid (blk_new w6 (.cells #[.bool q.snd, .int .u32 q.src, .int .u32 q.inf.sec, .int .u32 q.inf.frac, .int .u32 q.inf.stamp, .int .u32 q.inf.pkts, .int .u32 q.inf.octs, .slice ot q.bl.length kt] 41)); have ST6 := Lib.hid (ST.out.keep keepsBlk (More.alloc w6 (.cells #[.bool q.snd, .int .u32 q.src, .int .u32 q.inf.sec, .int .u32 q.inf.frac, .int .u32 q.inf.stamp, .int .u32 q.inf.pkts, .int .u32 q.inf.octs, .slice ot q.bl.length kt] 41))); clear m6 ST SD5 SK5 SS5 y0 y1 y2)))
  clear N2 N3 N4 N5 O4 O5 P5 X1 X2 X3 X4 X5
  generalize w6.alloc (.cells #[.bool q.snd, .int .u32 q.src, .int .u32 q.inf.sec, .int .u32 q.inf.frac, .int .u32 q.inf.stamp, .int .u32 q.inf.pkts, .int .u32 q.inf.octs, .slice ot q.bl.length kt] 41) = w8 at *
  have cP0 : ∀ x : Later w8, x.w'.cell? ⟨w.heap.size, 0, none⟩ = some (.bool r.snd) := fun x => blk_cell (blk_more x.h X6.out.r) 0 rfl
  have cP1 : ∀ x : Later w8, x.w'.cell? ⟨w.heap.size, 1, none⟩ = some (.int .u32 r.src) := fun x => blk_cell (blk_more x.h X6.out.r) 1 rfl
  have cP2 : ∀ x : Later w8, x.w'.cell? ⟨w.heap.size, 2, none⟩ = some (.int .u32 r.inf.sec) := fun x => blk_cell (blk_more x.h X6.out.r) 2 rfl
  have cP3 : ∀ x : Later w8, x.w'.cell? ⟨w.heap.size, 3, none⟩ = some (.int .u32 r.inf.frac) := fun x => blk_cell (blk_more x.h X6.out.r) 3 rfl
  have cP4 : ∀ x : Later w8, x.w'.cell? ⟨w.heap.size, 4, none⟩ = some (.int .u32 r.inf.stamp) := fun x => blk_cell (blk_more x.h X6.out.r) 4 rfl
  have cP5 : ∀ x : Later w8, x.w'.cell? ⟨w.heap.size, 5, none⟩ = some (.int .u32 r.inf.pkts) := fun x => blk_cell (blk_more x.h X6.out.r) 5 rfl
  have cP6 : ∀ x : Later w8, x.w'.cell? ⟨w.heap.size, 6, none⟩ = some (.int .u32 r.inf.octs) := fun x => blk_cell (blk_more x.h X6.out.r) 6 rfl
  have cP7 : ∀ x : Later w8, x.w'.cell? ⟨w.heap.size, 7, none⟩ = some (.slice o1 r.bl.length k1) := fun x => blk_cell (blk_more x.h X6.out.r) 7 rfl
  have cU0 : ∀ x : Later w8, x.w'.cell? ⟨w2.heap.size, 0, none⟩ = some (.int .u8 wk) := fun x => blk_cell (blk_more x.h N6.out) 0 rfl
  have cU1 : ∀ x : Later w8, x.w'.cell? ⟨w2.heap.size, 1, none⟩ = some (.int .u8 wt) := fun x => blk_cell (blk_more x.h N6.out) 1 rfl
  have cU2 : ∀ x : Later w8, x.w'.cell? ⟨w2.heap.size, 2, none⟩ = some (.slice od WB.length kd) := fun x => blk_cell (blk_more x.h N6.out) 2 rfl
  have cZ0 : ∀ x : Later w8, x.w'.cell? ⟨w4.heap.size, 0, none⟩ = some (.int .u8 wk) := fun x => blk_cell (blk_more x.h O6.out) 0 rfl
  have cZ1 : ∀ x : Later w8, x.w'.cell? ⟨w4.heap.size, 1, none⟩ = some (.int .u8 wt) := fun x => blk_cell (blk_more x.h O6.out) 1 rfl
  have cZ2 : ∀ x : Later w8, x.w'.cell? ⟨w4.heap.size, 2, none⟩ = some (.slice ok WB.length kk) := fun x => blk_cell (blk_more x.h O6.out) 2 rfl
  have cV0 : ∀ x : Later w8, x.w'.cell? ⟨w5.heap.size, 0, none⟩ = some (.bool q.snd) := fun x => blk_cell (blk_more x.h P6.out) 0 rfl
  have cV1 : ∀ x : Later w8, x.w'.cell? ⟨w5.heap.size, 1, none⟩ = some (.int .u32 q.src) := fun x => blk_cell (blk_more x.h P6.out) 1 rfl
  have cV2 : ∀ x : Later w8, x.w'.cell? ⟨w5.heap.size, 2, none⟩ = some (.int .u32 q.inf.sec) := fun x => blk_cell (blk_more x.h P6.out) 2 rfl
  have cV3 : ∀ x : Later w8, x.w'.cell? ⟨w5.heap.size, 3, none⟩ = some (.int .u32 q.inf.frac) := fun x => blk_cell (blk_more x.h P6.out) 3 rfl
  have cV4 : ∀ x : Later w8, x.w'.cell? ⟨w5.heap.size, 4, none⟩ = some (.int .u32 q.inf.stamp) := fun x => blk_cell (blk_more x.h P6.out) 4 rfl
  have cV5 : ∀ x : Later w8, x.w'.cell? ⟨w5.heap.size, 5, none⟩ = some (.int .u32 q.inf.pkts) := fun x => blk_cell (blk_more x.h P6.out) 5 rfl
  have cV6 : ∀ x : Later w8, x.w'.cell? ⟨w5.heap.size, 6, none⟩ = some (.int .u32 q.inf.octs) := fun x => blk_cell (blk_more x.h P6.out) 6 rfl
  have cV7 : ∀ x : Later w8, x.w'.cell? ⟨w5.heap.size, 7, none⟩ = some (.slice os q.bl.length ks) := fun x => blk_cell (blk_more x.h P6.out) 7 rfl
  have cT0 : ∀ x : Later w8, x.w'.cell? ⟨w6.heap.size, 0, none⟩ = some (.bool q.snd) := fun x => blk_cell (blk_more x.h Q6.out) 0 rfl
  have cT1 : ∀ x : Later w8, x.w'.cell? ⟨w6.heap.size, 1, none⟩ = some (.int .u32 q.src) := fun x => blk_cell (blk_more x.h Q6.out) 1 rfl
  have cT2 : ∀ x : Later w8, x.w'.cell? ⟨w6.heap.size, 2, none⟩ = some (.int .u32 q.inf.sec) := fun x => blk_cell (blk_more x.h Q6.out) 2 rfl
  have cT3 : ∀ x : Later w8, x.w'.cell? ⟨w6.heap.size, 3, none⟩ = some (.int .u32 q.inf.frac) := fun x => blk_cell (blk_more x.h Q6.out) 3 rfl
  have cT4 : ∀ x : Later w8, x.w'.cell? ⟨w6.heap.size, 4, none⟩ = some (.int .u32 q.inf.stamp) := fun x => blk_cell (blk_more x.h Q6.out) 4 rfl
  have cT5 : ∀ x : Later w8, x.w'.cell? ⟨w6.heap.size, 5, none⟩ = some (.int .u32 q.inf.pkts) := fun x => blk_cell (blk_more x.h Q6.out) 5 rfl
  have cT6 : ∀ x : Later w8, x.w'.cell? ⟨w6.heap.size, 6, none⟩ = some (.int .u32 q.inf.octs) := fun x => blk_cell (blk_more x.h Q6.out) 6 rfl
  have cT7 : ∀ x : Later w8, x.w'.cell? ⟨w6.heap.size, 7, none⟩ = some (.slice ot q.bl.length kt) := fun x => blk_cell (blk_more x.h Q6.out) 7 rfl
  have LR : ∀ x : Later w8, SlP 7 RBlk x.w' (.slice o1 r.bl.length k1) r.bl := fun x => SR.out.keep keepsBlk (X6.out.more.trans x.h)
  have HLR := Lib.hid LR
  clear LR N6 O6 P6 Q6
  generalize hqr : rightR r = Q at *
  have HQR := Lib.hid hqr
  clear hqr
  refine wp_region_num w8 28 [(0, false), (2, false), (1, true), (3, true), (4, true), (5, false), (6, false), (7, false), (8, false), (9, true), (10, false), (11, false), (12, false), (13, false), (14, false), (15, false), (16, false), (17, false), (19, false), (18, true), (20, true), (21, false), (22, false), (23, false), (24, false), (25, false), (26, false), (27, false)] (by kernel_rfl) (by kernel_rfl) ?_
  iterate 2 (refine num_quiet rfl rfl (later_mk (by repeat (first | exact More.refl _ | assumption | refine More.dr ?_ _ | refine More.al ?_ _ | refine More.st ?_ (by simp) _))) ?_; intro K hK; go_big_quiet_op; go_big_quiet_on)
  (refine num_next rfl rfl ?_; intro K hK; unfold loud; go_simp)
  (with_reducible refine (Right08_any r (HLR.out ⟨_, More.drewN w8 1⟩)).mono ?_)
  rintro e w11 ⟨rfl, m11⟩
  rw [HQR.out]
  have h11 : More w8 w11 := (More.drewN _ 1).trans m11
  clear m11
  refine ⟨_, rfl, later_mk h11, hK _ _ ?_⟩
  clear hK K
  (refine num_next rfl rfl ?_; intro K hK; unfold loud; go_simp)
  (with_reducible refine (own08 r (HLR.out ⟨_, h11⟩) hr40).mono ?_)
  rintro e w12 ⟨⟨v12, rfl, s12⟩, m12⟩
  have S12 := Lib.hid s12
  have h12 : More w8 w12 := h11.trans m12
  clear m12 s12 h11
  refine ⟨_, rfl, later_mk h12, hK _ _ ?_⟩
  clear hK K
  (refine num_next rfl rfl ?_; intro K hK; unfold loud; go_simp)
  (with_reducible refine (RRight08_any r S12.out).mono ?_)
  rintro e w13 ⟨rfl, m13⟩
  rw [HQR.out]
  have h13 : More w8 w13 := h12.trans m13
  clear m13 S12 h12
  refine ⟨_, rfl, later_mk h13, hK _ _ ?_⟩
  clear hK K
  iterate 4 (refine num_quiet rfl rfl (later_mk h13) ?_; intro K hK; go_big_quiet_op; go_big_quiet_on)
  (refine num_next rfl rfl ?_; intro K hK; unfold loud; go_simp)
  (with_reducible refine (same08 (wk, wt, WB, ()) (wk, wt, WB, ()) (SD6.out.keep h13) (SK6.out.keep h13) KW.out KW.out).mono ?_)
  rintro e w14 ⟨rfl, m14⟩
  rw [decide_eq_true rfl]
  have h14 : More w8 w14 := h13.trans m14
  clear m14 h13
  refine ⟨_, rfl, later_mk h14, hK _ _ ?_⟩
  clear hK K
  iterate 9 (refine num_quiet rfl rfl (later_mk h14) ?_; intro K hK; go_big_quiet_op; go_big_quiet_on)
  (refine num_next rfl rfl ?_; intro K hK; unfold loud; go_simp)
  (with_reducible refine (own08 q (SS6.out.keep keepsBlk h14) hq40.out).mono ?_)
  rintro e w15 ⟨⟨v15, rfl, s15⟩, m15⟩
  have S15 := Lib.hid s15
  have h15 : More w8 w15 := h14.trans m15
  clear m15 s15 h14
  refine ⟨_, rfl, later_mk h15, hK _ _ ?_⟩
  clear hK K
  (refine num_next rfl rfl ?_; intro K hK; unfold loud; go_simp)
  (with_reducible refine (Same08_any q q S15.out (ST6.out.keep keepsBlk h15)).mono ?_)
  rintro e w16 ⟨rfl, m16⟩
  rw [decide_eq_true rfl]
  have h16 : More w8 w16 := h15.trans m16
  clear m16 h15
  refine ⟨_, rfl, later_mk h16, hK _ _ ?_⟩
  clear hK K
  iterate 7 (refine num_quiet rfl rfl (later_mk h16) ?_; intro K hK; go_big_quiet_op; go_big_quiet_on)
  refine num_nil ?_
  go_wp2
  go_ret
  exact ⟨rfl, X6.out.more.trans h16⟩
theorem readR_few {c : Chunk} (hk : ChunkOK c) : (readR c).1.bl.length ≤ 100000 := by
  have hd : ∀ (r : Rep) (s : RdS), r.bl.length ≤ 100000 → (doneR r s).1.bl.length ≤ 100000 := by
    intro r s h
    unfold doneR
    split
    · exact h
    · exact Nat.zero_le _
  have h1 := hk.n
  unfold readR
  split
  · decide
  · split
    · exact hd _ _ (by simp only; rw [readBls_len]; omega)
    · split
      · exact hd _ _ (by simp only; rw [readBls_len]; omega)
      · decide
theorem ReportTells_law (cs0 cs1 : Array Value) (r : Rep) (c : Chunk) (w : World) (rr : RRep w cs0.toList r) (rc : RChunk w cs1.toList c) (hs : cs1.size = 3) :
    Calls Try.prog 3 #[.agg cs0, .agg cs1] w fun e w' => e = .returned (.bool true) ∧ More w w' := by
  obtain ⟨vb, e0, sb, okr⟩ := rr
  obtain ⟨vc, e1, sc, okc⟩ := chunk_of rc (by simpa using hs)
  obtain rfl : cs0 = (r.cells vb).toArray := by rw [← Array.toArray_toList (xs := cs0), e0]
  obtain rfl : cs1 = #[.int .u8 c.1, .int .u8 c.2.1, vc] := by rw [← Array.toArray_toList (xs := cs1), e1]
  have SR := Lib.hid sb
  have SC := Lib.hid sc
  obtain ⟨o1, k1, rfl, -⟩ := sb
  obtain ⟨o2, k2, rfl, -⟩ := sc
  by_cases h1 : (40 : Int) < r.bl.length
  · exact ReportTells_long o1 k1 o2 k2 r c (Or.inl h1)
  by_cases h2 : (400 : Int) < c.2.2.1.length
  · exact ReportTells_long o1 k1 o2 k2 r c (Or.inr ⟨h1, h2⟩)
  have kw := writeR_ok okr
  obtain ⟨⟨⟨wk, wt, WB, ⟨⟩⟩, we⟩, hW⟩ : ∃ x, writeR r = x := ⟨_, rfl⟩
  rw [hW] at kw
  have hq := readR_few okc
  obtain ⟨⟨q, qe⟩, hQ⟩ : ∃ x, readR c = x := ⟨_, rfl⟩
  rw [hQ] at hq
  exact ReportTells_main o1 k1 o2 k2 r c SR SC (Lib.hid okr) (Lib.hid okc) h1 h2 wk wt WB we (Lib.hid hW) q qe (Lib.hid hq) (Lib.hid hQ) (Lib.hid kw)
end Go.Proofs.Ytlnikmcimmnbmaa
