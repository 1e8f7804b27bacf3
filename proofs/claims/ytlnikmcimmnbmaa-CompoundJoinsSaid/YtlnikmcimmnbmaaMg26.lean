/- Merged from my texts ReportE. -/
import Derived.Test.YtlnikmcimmnbmaaMg25
import Derived.Test.YtlnikmcimmnbmaaMg14
/- Reports: Read. -/
namespace Go.Proofs.Ytlnikmcimmnbmaa
set_option linter.unusedSimpArgs false
set_option linter.unusedVariables false
open Go.RowKit
set_option maxRecDepth 100000

theorem slP_off {S : Nat → Prop} {w w' : World} {v : Value} {l : List Blk} (h : SlP 7 RBlk w v l) (hb : ∀ b, v.ownBlock = some b → ¬ S b) (a : Away S w w') : SlP 7 RBlk w' v l := by
  obtain ⟨oa, cap, rfl, h2, h3, h4⟩ := h
  refine ⟨oa, cap, rfl, h2, fun i hi => ?_, h4⟩
  obtain ⟨b, off, cs, rfl, hlt, hl, hc, hr⟩ := h3 i hi
  exact ⟨b, off, cs, rfl, Nat.lt_of_lt_of_le hlt a.size, hl, fun j hj => by rw [a.cells b _ hlt (hb b rfl)]; exact hc j hj, hr⟩
theorem RdEnd_S {w : World} {R : Nat} {s : RdS} {C : Nat → Prop} (h : ReaderAt w R s.1 s.2 C) :
    Calls Try.prog 81 #[.pointer (some ⟨R, 0, none⟩)] w fun e' w' => e' = .returned (.int .i64 (endS s)) ∧ w' = w := RdEnd_any h
/-- A reader, the report that is being read, and its blocks. -/
structure RpJ (w0 w : World) (R B5 : Nat) (C : Nat → Prop) (o0 o1 : Obj) (xs : List Value) (v : Value) (bl : List Blk) (s : RdS) : Prop where
  rd : ReaderAt w R s.1 s.2 C
  b0 : w.heap[w0.heap.size]? = some o0
  b1 : w.heap[w0.heap.size + 1]? = some o1
  b5 : w.heap[B5]? = some (.cells (xs ++ [v]).toArray 27 (0, 0))
  row : RowP 7 RBlk (fun b => b = R ∨ b = B5) w (B5 + 1) 134 v bl
  more : More w0 w
  h1 : w0.heap.size + 1 < R
  h2 : R < B5
  hC : ∀ g, C g → w0.heap.size + 1 < g ∧ g < B5
theorem RpJ.new {w w3 w4 w5 : World} {R : Nat} {o0 o1 : Obj} {s : RdS} (xs : List Value) (cs : Array Value) (hcs : cs = (xs ++ [Value.slice none 0 0]).toArray) (hB0 : w4.heap[w.heap.size]? = some o0) (hB1 : w4.heap[w.heap.size + 1]? = some o1) (r5 : ReaderAt w5 R s.1 s.2 (fun g => w3.heap.size ≤ g ∧ g < w4.heap.size)) (a5 : Away (fun b => b = R) w4 w5) (M4 : More w w4) (hw3 : w.heap.size + 2 ≤ w3.heap.size) (hR : w3.heap.size ≤ R) (hR4 : R < w4.heap.size) :
    RpJ w (w5.alloc (.cells cs 27)) R w5.heap.size (fun g => w3.heap.size ≤ g ∧ g < w4.heap.size) o0 o1 xs (.slice none 0 0) [] s := by
  subst hcs
  have h5 := a5.size
  exact ⟨r5.more (More.alloc _ _), blk_alloc (a5.blk hB0 (by omega)) _, blk_alloc (a5.blk hB1 (by omega)) _, blk_new w5 _, RowP.nil _ _ _ _ _ _, (rd_more a5 M4 (by omega)).al _, by omega, by omega, fun g h => ⟨by omega, by omega⟩⟩
theorem RpJ.read {w0 w w' : World} {R B5 : Nat} {C : Nat → Prop} {o0 o1 : Obj} {xs : List Value} {v : Value} {bl : List Blk} {s s' : RdS} (h : RpJ w0 w R B5 C o0 o1 xs v bl s) (r : ReaderAt w' R s'.1 s'.2 C) (a : Away (fun b => b = R) w w') : RpJ w0 w' R B5 C o0 o1 xs v bl s' := by
  have h1 := h.h1
  have h2 := h.h2
  exact ⟨r, a.blk h.b0 (by omega), a.blk h.b1 (by omega), a.blk h.b5 (by omega), h.row.step (a.mono fun k hk => Or.inl hk), rd_more a h.more (by omega), h1, h2, h.hC⟩
theorem RpJ.on {w0 w w' : World} {R B5 : Nat} {C : Nat → Prop} {o0 o1 : Obj} {xs : List Value} {v : Value} {bl : List Blk} {s : RdS} (h : RpJ w0 w R B5 C o0 o1 xs v bl s) (m : More w w') : RpJ w0 w' R B5 C o0 o1 xs v bl s :=
  ⟨h.rd.more m, blk_more m h.b0, blk_more m h.b1, blk_more m h.b5, h.row.on m, h.more.trans m, h.h1, h.h2, h.hC⟩
theorem RpJ.put {w0 w w' : World} {R B5 : Nat} {C : Nat → Prop} {o0 o1 : Obj} {xs : List Value} {v v' : Value} {bl bl' : List Blk} {s : RdS} (h : RpJ w0 w R B5 C o0 o1 xs v bl s) (hl : xs.length = 7)
    (ho : RowP 7 RBlk (fun b => b = R ∨ b = B5) w' (B5 + 1) 134 v' bl') (hg : w.grownBy w' v.ownBlock) : RpJ w0 (w'.setCell ⟨B5, 7, none⟩ v') R B5 C o0 o1 xs v' bl' s := by
  have h1 := h.h1
  have h2 := h.h2
  have hv : ∀ g, v.ownBlock = some g → B5 + 1 ≤ g := fun g e => h.row.ge e
  have a : Away (fun b => v.ownBlock = some b) w w' := ⟨hg.os, hg.tape, hg.output, hg.size, fun k hk hs => hg.block k hk (fun e => hs e.symm)⟩
  have a5 : Away (fun b => b = B5) w' (w'.setCell ⟨B5, 7, none⟩ v') := (Away.refl (fun b => b = B5) w').set (p := ⟨B5, 7, none⟩) rfl v'
  have hm : More w0 w' := Away.to_more h.more a (fun k e => by have := hv k e; omega)
  refine ⟨(h.rd.off a (fun e => by have := hv R e; omega) (fun g hc e => by have := hv g e; have := (h.hC g hc).2; omega)).off a5 (by omega) (fun g hc e => by have := (h.hC g hc).2; omega), a5.blk (a.blk h.b0 (fun e => by have := hv _ e; omega)) (by omega), a5.blk (a.blk h.b1 (fun e => by have := hv _ e; omega)) (by omega), blk_eq (blk_set (a.blk h.b5 (fun e => by have := hv _ e; omega)) 7 v') ?_, ho.step (a5.mono fun k hk => Or.inr hk), hm.st (by show w0.heap.size ≤ B5; omega) v', h1, h2, h.hC⟩
  match xs, hl with
  | [x0, x1, x2, x3, x4, x5, x6], _ => rfl
theorem RpJ.set {w0 w : World} {R B5 : Nat} {C : Nat → Prop} {o0 o1 : Obj} {xs : List Value} {v : Value} {bl : List Blk} {s : RdS} (h : RpJ w0 w R B5 C o0 o1 xs v bl s) (i : Nat) (hi : i < xs.length) (x : Value) : RpJ w0 (w.setCell ⟨B5, i, none⟩ x) R B5 C o0 o1 (xs.set i x) v bl s := by
  have h1 := h.h1
  have h2 := h.h2
  have a5 : Away (fun b => b = B5) w (w.setCell ⟨B5, i, none⟩ x) := (Away.refl (fun b => b = B5) w).set (p := ⟨B5, i, none⟩) rfl x
  refine ⟨h.rd.off a5 (by omega) (fun g hc e => by have := (h.hC g hc).2; omega), a5.blk h.b0 (by omega), a5.blk h.b1 (by omega), blk_eq (blk_set h.b5 i x) ?_, h.row.step (a5.mono fun k hk => Or.inr hk), h.more.st (by show w0.heap.size ≤ B5; omega) x, h1, h2, h.hC⟩
  simp [List.setIfInBounds_toArray, List.set_append, hi]
theorem readBls_step (n : Nat) (s : RdS) (acc : List Blk) : acc ++ (readBls (n + 1) s).1 = (acc ++ [(readBlk s).1]) ++ (readBls n (readBlk s).2).1 ∧ (readBls (n + 1) s).2 = (readBls n (readBlk s).2).2 := by
  constructor
  · show acc ++ ((readBlk s).1 :: (readBls n (readBlk s).2).1) = _
    simp
  · rfl
theorem readBlk_ok {s : RdS} (h : Byt s.1) : BlkOK (readBlk s).1 := by
  have h1 := tkS_byt h 4
  have h2 := tkS_byt h1 1
  have h3 := tkS_byt h2 3
  have h4 := tkS_byt h3 4
  have h5 := tkS_byt h4 4
  have h6 := tkS_byt h5 4
  have hp := num_lt (tkB (tkS s 4).1 1) 1 (tkB_byt h1 1) (tkB_len _ 1 (by decide)) (by decide)
  have hp2 : num (tkB (tkS s 4).1 1) < 256 := hp.2
  have hs := sgd_bd (num (tkB (tkS (tkS s 4) 1).1 3)) 24 (by decide) (by decide)
  have e2 : two (24 - 1) = 8388608 := by decide
  rw [e2] at hs
  exact ⟨rdNum_u32 h, ⟨hp.1, by show num (tkB (tkS s 4).1 1) ≤ 255; omega⟩, ⟨by show -2147483648 ≤ sgd _ 24; omega, by show sgd _ 24 ≤ 2147483647; omega⟩, rdNum_u32 h3, rdNum_u32 h4, rdNum_u32 h5, rdNum_u32 h6⟩
theorem readR_ok {c : Chunk} (hk : ChunkOK c) : RepOK (readR c).1 := by
  by_cases h : (readR c).2 = 0
  · exact (writeR_readR (r := (readR c).1) hk (by rw [← h])).2.1
  · have : (readR c).1 = rep0 := by
      unfold readR at h ⊢
      have hd : ∀ r s, ¬ (doneR r s).2 = 0 → (doneR r s).1 = rep0 := by
        intro r s hx
        unfold doneR at hx ⊢
        split
        · rename_i y; rw [if_pos y] at hx; exact absurd rfl hx
        · rfl
      split
      · rfl
      · rename_i h1
        rw [if_neg h1] at h
        split
        · rename_i h2; rw [if_pos h2] at h; exact hd _ _ h
        · rename_i h2
          rw [if_neg h2] at h
          split
          · rename_i h3; rw [if_pos h3] at h; exact hd _ _ h
          · rfl
    rw [this]
    exact ⟨by decide, inf0_ok, fun b hb => by cases hb⟩
theorem Read08_no {w : World} (k t : Int) (B : List Int) (ob : Option Addr) (cb : Nat) (SL : Hid (SlI .u8 w (.slice ob B.length cb) B)) (HB : Hid (Byt B)) (hl : B.length ≤ 1000000) (HR : Hid (rightB (k, t, B, ()) = false)) :
    Calls Try.prog 19 #[.agg #[.int .u8 k, .int .u8 t, .slice ob B.length cb]] w fun e w' => e = .returned (.tuple #[.agg #[.bool false, .int .u32 0, .int .u32 0, .int .u32 0, .int .u32 0, .int .u32 0, .int .u32 0, .slice none 0 0], .int .i64 1]) ∧ More w w' := by
  have m0 : More w ((w.alloc (.cells #[.int .u8 k, .int .u8 t, .slice ob B.length cb] 30)).alloc (.cells #[.bool false, .int .u32 0, .int .u32 0, .int .u32 0, .int .u32 0, .int .u32 0, .int .u32 0, .slice none 0 0] 27)) := (More.alloc _ _).al _
  have hB0w : ((w.alloc (.cells #[.int .u8 k, .int .u8 t, .slice ob B.length cb] 30)).alloc (.cells #[.bool false, .int .u32 0, .int .u32 0, .int .u32 0, .int .u32 0, .int .u32 0, .int .u32 0, .slice none 0 0] 27)).heap[w.heap.size]? = some (.cells #[.int .u8 k, .int .u8 t, .slice ob B.length cb] 30) := blk_alloc (blk_new w _) _
  have hB1w : ((w.alloc (.cells #[.int .u8 k, .int .u8 t, .slice ob B.length cb] 30)).alloc (.cells #[.bool false, .int .u32 0, .int .u32 0, .int .u32 0, .int .u32 0, .int .u32 0, .int .u32 0, .slice none 0 0] 27)).heap[w.heap.size + 1]? = some (.cells #[.bool false, .int .u32 0, .int .u32 0, .int .u32 0, .int .u32 0, .int .u32 0, .int .u32 0, .slice none 0 0] 27) := blk_new2 (by simp)
  go_enter Try.func19, Try.ntmps19
  go_wp2_with (go_at_call 49; refine (Right07_any (k, t, B, ()) (SL.out.keep m0) hl).mono ?_; rintro e w3 ⟨rfl, hm3⟩; rw [HR.out]; have M3 := m0.trans hm3; have hB0 := blk_more hm3 hB0w; have hB1 := blk_more hm3 hB1w; have hw3 : w.heap.size + 2 ≤ w3.heap.size := Nat.le_trans (by simp) hm3.size; have g0 := blk_cell hB1 0 (v := .bool false) rfl; have z0 := blk_free hB1 0; have g1 := blk_cell hB1 1 (v := .int .u32 0) rfl; have z1 := blk_free hB1 1; have g2 := blk_cell hB1 2 (v := .int .u32 0) rfl; have z2 := blk_free hB1 2; have g3 := blk_cell hB1 3 (v := .int .u32 0) rfl; have z3 := blk_free hB1 3; have g4 := blk_cell hB1 4 (v := .int .u32 0) rfl; have z4 := blk_free hB1 4; have g5 := blk_cell hB1 5 (v := .int .u32 0) rfl; have z5 := blk_free hB1 5; have g6 := blk_cell hB1 6 (v := .int .u32 0) rfl; have z6 := blk_free hB1 6; have g7 := blk_cell hB1 7 (v := .slice none 0 0) rfl; have z7 := blk_free hB1 7; clear hB0 hB1 hB0w hB1w)
  (refine bodyPost_ret (v := .tuple #[.agg #[.bool false, .int .u32 0, .int .u32 0, .int .u32 0, .int .u32 0, .int .u32 0, .int .u32 0, .slice none 0 0], .int .i64 1]) ?rr1 rfl ?_; (case rr1 => (simp [results, Try.results19, go_sem, g0, g1, g2, g3, g4, g5, g6, g7])))
  exact ⟨rfl, ((((((((M3.st (by simp) _).st (by simp) _).st (by simp) _).st (by simp) _).st (by simp) _).st (by simp) _).st (by simp) _).st (by simp) _)⟩
theorem Read08_other {w : World} (k t : Int) (B : List Int) (ob : Option Addr) (cb : Nat) (SL : Hid (SlI .u8 w (.slice ob B.length cb) B)) (HB : Hid (Byt B)) (hl : B.length ≤ 1000000) (HR : Hid (rightB (k, t, B, ()) = true)) (h200 : ¬ t = 200) (h201 : ¬ t = 201) :
    Calls Try.prog 19 #[.agg #[.int .u8 k, .int .u8 t, .slice ob B.length cb]] w fun e w' => e = .returned (.tuple #[.agg #[.bool false, .int .u32 0, .int .u32 0, .int .u32 0, .int .u32 0, .int .u32 0, .int .u32 0, .slice none 0 0], .int .i64 5]) ∧ More w w' := by
  have m0 : More w ((w.alloc (.cells #[.int .u8 k, .int .u8 t, .slice ob B.length cb] 30)).alloc (.cells #[.bool false, .int .u32 0, .int .u32 0, .int .u32 0, .int .u32 0, .int .u32 0, .int .u32 0, .slice none 0 0] 27)) := (More.alloc _ _).al _
  have hB0w : ((w.alloc (.cells #[.int .u8 k, .int .u8 t, .slice ob B.length cb] 30)).alloc (.cells #[.bool false, .int .u32 0, .int .u32 0, .int .u32 0, .int .u32 0, .int .u32 0, .int .u32 0, .slice none 0 0] 27)).heap[w.heap.size]? = some (.cells #[.int .u8 k, .int .u8 t, .slice ob B.length cb] 30) := blk_alloc (blk_new w _) _
  have hB1w : ((w.alloc (.cells #[.int .u8 k, .int .u8 t, .slice ob B.length cb] 30)).alloc (.cells #[.bool false, .int .u32 0, .int .u32 0, .int .u32 0, .int .u32 0, .int .u32 0, .int .u32 0, .slice none 0 0] 27)).heap[w.heap.size + 1]? = some (.cells #[.bool false, .int .u32 0, .int .u32 0, .int .u32 0, .int .u32 0, .int .u32 0, .int .u32 0, .slice none 0 0] 27) := blk_new2 (by simp)
  have hb200 : (t == 200) = false := by simpa using h200
  have hb201 : (t == 201) = false := by simpa using h201
  go_enter Try.func19, Try.ntmps19
  go_wp2_with first | (go_at_call 49; refine (Right07_any (k, t, B, ()) (SL.out.keep m0) hl).mono ?_; rintro e w3 ⟨rfl, hm3⟩; rw [HR.out]; have M3 := m0.trans hm3; have hB0 := blk_more hm3 hB0w; have hB1 := blk_more hm3 hB1w; have hw3 : w.heap.size + 2 ≤ w3.heap.size := Nat.le_trans (by simp) hm3.size; have cb2 := blk_cell hB0 2 (v := .slice ob B.length cb) rfl) | (go_at_call 77; ((with_reducible refine (RdNew_in _ B w3 (SL.out.keep M3) HB.out hl).mono ?_); rintro e w4 ⟨R, rfl, hR, r4, m4⟩; have hB04 := blk_more m4 hB0; have hB14 := blk_more m4 hB1; have M4 := M3.trans m4; have hR4 : R < w4.heap.size := by (obtain ⟨v, h1, _⟩ := r4.blk; exact blk_lt h1))) | (go_at_call 78; ((with_reducible refine (RdNum_any r4).mono ?_); rintro e w5 ⟨rfl, r5, a5⟩; have J0 : RpJ w (w5.alloc (.cells #[.bool false, .int .u32 (num (tkB B 4)), .int .u32 0, .int .u32 0, .int .u32 0, .int .u32 0, .int .u32 0, .slice none 0 0] 27)) R w5.heap.size (fun g => w3.heap.size ≤ g ∧ g < w4.heap.size) (.cells #[.int .u8 k, .int .u8 t, .slice ob B.length cb] 30) (.cells #[.bool false, .int .u32 0, .int .u32 0, .int .u32 0, .int .u32 0, .int .u32 0, .int .u32 0, .slice none 0 0] 27) [.bool false, .int .u32 (num (tkB B 4)), .int .u32 0, .int .u32 0, .int .u32 0, .int .u32 0, .int .u32 0] (.slice none 0 0) [] (tkL B 4, tkE B 4 0) := RpJ.new _ _ rfl hB04 hB14 r5 a5 M4 hw3 hR hR4; have ct := blk_cell J0.b0 1 (v := .int .u8 t) rfl; have ck := blk_cell J0.b0 0 (v := .int .u8 k) rfl; have g0 := blk_cell J0.b1 0 (v := .bool false) rfl; have z0 := blk_free J0.b1 0; have g1 := blk_cell J0.b1 1 (v := .int .u32 0) rfl; have z1 := blk_free J0.b1 1; have g2 := blk_cell J0.b1 2 (v := .int .u32 0) rfl; have z2 := blk_free J0.b1 2; have g3 := blk_cell J0.b1 3 (v := .int .u32 0) rfl; have z3 := blk_free J0.b1 3; have g4 := blk_cell J0.b1 4 (v := .int .u32 0) rfl; have z4 := blk_free J0.b1 4; have g5 := blk_cell J0.b1 5 (v := .int .u32 0) rfl; have z5 := blk_free J0.b1 5; have g6 := blk_cell J0.b1 6 (v := .int .u32 0) rfl; have z6 := blk_free J0.b1 6; have g7 := blk_cell J0.b1 7 (v := .slice none 0 0) rfl; have z7 := blk_free J0.b1 7))
  (refine bodyPost_ret (v := .tuple #[.agg #[.bool false, .int .u32 0, .int .u32 0, .int .u32 0, .int .u32 0, .int .u32 0, .int .u32 0, .slice none 0 0], .int .i64 5]) ?rr2 rfl ?_; (case rr2 => (simp [results, Try.results19, go_sem, g0, g1, g2, g3, g4, g5, g6, g7])))
  exact ⟨rfl, ((((((((J0.more.st (by simp) _).st (by simp) _).st (by simp) _).st (by simp) _).st (by simp) _).st (by simp) _).st (by simp) _).st (by simp) _)⟩
theorem Read08_200 {w : World} (kn : Nat) (B : List Int) (ob : Option Addr) (cb : Nat) (D : Rep × Int) (SL : Hid (SlI .u8 w (.slice ob B.length cb) B)) (HB : Hid (Byt B)) (hl : B.length ≤ 1000000) (hk31 : kn ≤ 31) (HR : Hid (rightB ((kn : Int), 200, B, ()) = true))
    (HD : Hid (doneR ⟨true, num (tkB B 4), (readInf (tkL B 4, tkE B 4 0)).1, (readBls kn (readInf (tkL B 4, tkE B 4 0)).2).1⟩ (readBls kn (readInf (tkL B 4, tkE B 4 0)).2).2 = D)) :
    Calls Try.prog 19 #[.agg #[.int .u8 (kn : Int), .int .u8 200, .slice ob B.length cb]] w fun e w' => (∃ vb, e = .returned (.tuple #[.agg #[.bool D.1.snd, .int .u32 D.1.src, .int .u32 D.1.inf.sec, .int .u32 D.1.inf.frac, .int .u32 D.1.inf.stamp, .int .u32 D.1.inf.pkts, .int .u32 D.1.inf.octs, vb], .int .i64 D.2]) ∧ SlP 7 RBlk w' vb D.1.bl ∧ NewB w vb) ∧ More w w' := by
  obtain ⟨j0, hi, hz0, hz1, hz2⟩ := info_parts (P := Try.prog) (e := 134) (z := .agg #[.int .u32 0, .int .u8 0, .int .i32 0, .int .u32 0, .int .u32 0, .int .u32 0, .int .u32 0]) (size := 7) (bytes := 28) (by kernel_rfl)
  obtain ⟨k, hkk⟩ : ∃ k : Int, k = (kn : Int) := ⟨_, rfl⟩
  rw [← hkk] at HR ⊢
  have HKK := Lib.hid hkk
  clear hkk
  have m0 : More w ((w.alloc (.cells #[.int .u8 k, .int .u8 200, .slice ob B.length cb] 30)).alloc (.cells #[.bool false, .int .u32 0, .int .u32 0, .int .u32 0, .int .u32 0, .int .u32 0, .int .u32 0, .slice none 0 0] 27)) := (More.alloc _ _).al _
  have hB0w : ((w.alloc (.cells #[.int .u8 k, .int .u8 200, .slice ob B.length cb] 30)).alloc (.cells #[.bool false, .int .u32 0, .int .u32 0, .int .u32 0, .int .u32 0, .int .u32 0, .int .u32 0, .slice none 0 0] 27)).heap[w.heap.size]? = some (.cells #[.int .u8 k, .int .u8 200, .slice ob B.length cb] 30) := blk_alloc (blk_new w _) _
  have hB1w : ((w.alloc (.cells #[.int .u8 k, .int .u8 200, .slice ob B.length cb] 30)).alloc (.cells #[.bool false, .int .u32 0, .int .u32 0, .int .u32 0, .int .u32 0, .int .u32 0, .int .u32 0, .slice none 0 0] 27)).heap[w.heap.size + 1]? = some (.cells #[.bool false, .int .u32 0, .int .u32 0, .int .u32 0, .int .u32 0, .int .u32 0, .int .u32 0, .slice none 0 0] 27) := blk_new2 (by simp)
  go_enter Try.func19, Try.ntmps19
  go_wp2_with first | (go_at_call 49; refine (Right07_any (k, 200, B, ()) (SL.out.keep m0) hl).mono ?_; rintro e w3 ⟨rfl, hm3⟩; rw [HR.out]; have M3 := m0.trans hm3; have hB0 := blk_more hm3 hB0w; have hB1 := blk_more hm3 hB1w; have hw3 : w.heap.size + 2 ≤ w3.heap.size := Nat.le_trans (by simp) hm3.size; have cb2 := blk_cell hB0 2 (v := .slice ob B.length cb) rfl) | (go_at_call 77; ((with_reducible refine (RdNew_in _ B w3 (SL.out.keep M3) HB.out hl).mono ?_); rintro e w4 ⟨R, rfl, hR, r4, m4⟩; have hB04 := blk_more m4 hB0; have hB14 := blk_more m4 hB1; have M4 := M3.trans m4; have hR4 : R < w4.heap.size := by (obtain ⟨v, h1, _⟩ := r4.blk; exact blk_lt h1))) | (go_at_call 78; ((with_reducible refine (RdNum_any r4).mono ?_); rintro e w5 ⟨rfl, r5, a5⟩; have J0 : RpJ w (w5.alloc (.cells #[.bool true, .int .u32 (num (tkB B 4)), .int .u32 0, .int .u32 0, .int .u32 0, .int .u32 0, .int .u32 0, .slice none 0 0] 27)) R w5.heap.size (fun g => w3.heap.size ≤ g ∧ g < w4.heap.size) (.cells #[.int .u8 k, .int .u8 200, .slice ob B.length cb] 30) (.cells #[.bool false, .int .u32 0, .int .u32 0, .int .u32 0, .int .u32 0, .int .u32 0, .int .u32 0, .slice none 0 0] 27) [.bool true, .int .u32 (num (tkB B 4)), .int .u32 0, .int .u32 0, .int .u32 0, .int .u32 0, .int .u32 0] (.slice none 0 0) [] (tkL B 4, tkE B 4 0) := RpJ.new _ _ rfl hB04 hB14 r5 a5 M4 hw3 hR hR4; have ct := blk_cell J0.b0 1 (v := .int .u8 200) rfl; have ck := blk_cell J0.b0 0 (v := .int .u8 k) rfl; have ct := blk_cell (blk_alloc (a5.blk hB04 (by have := hR; have := hw3; omega)) (.cells #[.bool false, .int .u32 (num (tkB B 4)), .int .u32 0, .int .u32 0, .int .u32 0, .int .u32 0, .int .u32 0, .slice none 0 0] 27)) 1 (v := .int .u8 200) rfl)) | (go_at_call 79; ((with_reducible refine (ReadInf_any (s := (tkL B 4, tkE B 4 0)) J0.rd).mono ?_); rintro e w7 ⟨rfl, r7, a7⟩; have J2 := J0.read r7 a7; have q2 := blk_cell J2.b5 2 (v := .int .u32 0) rfl; have y2 := blk_free J2.b5 2; have q3 := blk_cell J2.b5 3 (v := .int .u32 0) rfl; have y3 := blk_free J2.b5 3; have q4 := blk_cell J2.b5 4 (v := .int .u32 0) rfl; have y4 := blk_free J2.b5 4; have q5 := blk_cell J2.b5 5 (v := .int .u32 0) rfl; have y5 := blk_free J2.b5 5; have q6 := blk_cell J2.b5 6 (v := .int .u32 0) rfl; have y6 := blk_free J2.b5 6; have J3 := (((((J2.set 2 (by simp) (.int .u32 (readInf (tkL B 4, tkE B 4 0)).1.sec)).set 3 (by simp) (.int .u32 (readInf (tkL B 4, tkE B 4 0)).1.frac)).set 4 (by simp) (.int .u32 (readInf (tkL B 4, tkE B 4 0)).1.stamp)).set 5 (by simp) (.int .u32 (readInf (tkL B 4, tkE B 4 0)).1.pkts)).set 6 (by simp) (.int .u32 (readInf (tkL B 4, tkE B 4 0)).1.octs)); have ck := blk_cell J3.b0 0 (v := .int .u8 k) rfl))
  have JL : RpJ w _ R w5.heap.size (fun g => w3.heap.size ≤ g ∧ g < w4.heap.size) (.cells #[.int .u8 k, .int .u8 200, .slice ob B.length cb] 30) (.cells #[.bool false, .int .u32 0, .int .u32 0, .int .u32 0, .int .u32 0, .int .u32 0, .int .u32 0, .slice none 0 0] 27) [.bool true, .int .u32 (num (tkB B 4)), .int .u32 (readInf (tkL B 4, tkE B 4 0)).1.sec, .int .u32 (readInf (tkL B 4, tkE B 4 0)).1.frac, .int .u32 (readInf (tkL B 4, tkE B 4 0)).1.stamp, .int .u32 (readInf (tkL B 4, tkE B 4 0)).1.pkts, .int .u32 (readInf (tkL B 4, tkE B 4 0)).1.octs] (.slice none 0 0) [] (readInf (tkL B 4, tkE B 4 0)).2 := J3
  clear cb2 ct m0 hB0w hB1w
  have HJL := Lib.hid JL
  clear JL
  obtain ⟨R', hRR⟩ : ∃ R', R' = R := ⟨_, rfl⟩
  obtain ⟨B5, hB5⟩ : ∃ B5, B5 = w5.heap.size := ⟨_, rfl⟩
  obtain ⟨C, hC⟩ : ∃ C : Nat → Prop, C = fun g => w3.heap.size ≤ g ∧ g < w4.heap.size := ⟨_, rfl⟩
  rw [← hB5, ← hC] at HJL
  have HKB := Lib.hid (And.intro hB5 HKK.out)
  rw [← hB5]
  clear hB5 hC
  obtain ⟨s0, hs0⟩ : ∃ s0 : RdS, s0 = (readInf (tkL B 4, tkE B 4 0)).2 := ⟨_, rfl⟩
  have HD' : Hid (doneR ⟨true, num (tkB B 4), (readInf (tkL B 4, tkE B 4 0)).1, (readBls kn s0).1⟩ (readBls kn s0).2 = D) := by rw [hs0]; exact HD
  rw [← hs0] at HJL
  clear hs0 HD
  go_loopw [29] (fun ix wr => ∃ j : Nat, j ≤ kn ∧ ix = .int .u8 (j : Int) ∧ (∃ v bl s, RpJ w wr R B5 C (.cells #[.int .u8 k, .int .u8 200, .slice ob B.length cb] 30) (.cells #[.bool false, .int .u32 0, .int .u32 0, .int .u32 0, .int .u32 0, .int .u32 0, .int .u32 0, .slice none 0 0] 27) [.bool true, .int .u32 (num (tkB B 4)), .int .u32 (readInf (tkL B 4, tkE B 4 0)).1.sec, .int .u32 (readInf (tkL B 4, tkE B 4 0)).1.frac, .int .u32 (readInf (tkL B 4, tkE B 4 0)).1.stamp, .int .u32 (readInf (tkL B 4, tkE B 4 0)).1.pkts, .int .u32 (readInf (tkL B 4, tkE B 4 0)).1.octs] v bl s ∧ bl.length = j ∧ (readBls kn s0).1 = bl ++ (readBls (kn - j) s).1 ∧ (readBls kn s0).2 = (readBls (kn - j) s).2)) (fun ix _ => kn - (intOf ix).toNat)
  case atStart => exact ⟨0, by omega, rfl, ⟨_, _, _, HJL.out, rfl, by simp, rfl⟩⟩
  case round =>
    obtain ⟨j, hj, rfl, ⟨v, bl, s, hJ, hlen, hr1, hr2⟩⟩ := hrel
    have HJ := Lib.hid hJ
    have HL := Lib.hid hlen
    clear hJ hlen
    by_cases hlt : j < kn
    · have hjk : (j : Int) < k := by rw [HKK.out]; omega
      have e1 : kn - j = (kn - (j + 1)) + 1 := by omega
      have hst := readBls_step (kn - (j + 1)) s bl
      rw [e1, hst.1] at hr1
      rw [e1, hst.2] at hr2
      have H1 := Lib.hid hr1
      have H2 := Lib.hid hr2
      clear hr1 hr2 hst e1
      have hj255 : ((j : Int) + 1) % 256 = (j : Int) + 1 := by omega
      have hrB5 : ¬ (B5 = R ∨ v.ownBlock = some B5) := by
        rintro (e | e)
        · have := HJ.out.h2; omega
        · have := HJ.out.row.ge e; omega
      have C7 : ∀ x : LaterS (fun b => b = R ∨ v.ownBlock = some b) wr, x.w'.cell? ⟨B5, 7, none⟩ = some v := fun x => blk_cell (x.h.blk HJ.out.b5 hrB5) 7 rfl
      go_wp2_with fail
      refine wp_region_numS (fun b => b = R ∨ v.ownBlock = some b) wr 7 [(0, false), (1, false), (2, false), (3, true), (4, true), (5, true), (6, false), (7, true)] (by kernel_rfl) (by kernel_rfl) ?_
      iterate 3 (refine num_quiet rfl rfl (laterS_mk (by repeat (first | exact Away.refl _ _ | assumption | refine Away.drewN ?_ _ | refine Away.set ?_ (by first | rfl | exact Or.inl rfl | exact Or.inr rfl) _))) ?_; intro K hK; go_big_quiet_op; go_big_quiet_on)
      (refine num_next rfl rfl ?_; intro K hK; unfold loud; go_simp)
      refine (ReadBlk_any (s := s) (HJ.out.rd.more (More.drewN _ 1))).mono ?_
      rintro e w8 ⟨rfl, r8, a8⟩
      have a8' : Away (fun b => b = R ∨ v.ownBlock = some b) wr w8 := ((Away.refl _ _).drewN _).trans (a8.mono fun b h => Or.inl h)
      refine ⟨_, rfl, laterS_mk a8', hK _ _ ?_⟩
      clear hK K
      (refine num_next rfl rfl ?_; intro K hK; unfold loud; go_simp)
      have a9 := a8'.more (More.alloc w8 (.cells #[.int .u32 (readBlk s).1.src, .int .u8 (readBlk s).1.part, .int .i32 (readBlk s).1.miss, .int .u32 (readBlk s).1.high, .int .u32 (readBlk s).1.jit, .int .u32 (readBlk s).1.last, .int .u32 (readBlk s).1.dly] 134))
      refine ⟨laterS_mk a9, hK _ _ ?_⟩
      clear hK K
      have J8 := (HJ.out.on (More.drewN wr 1)).read r8 a8
      have J9 := J8.on (More.alloc w8 (.cells #[.int .u32 (readBlk s).1.src, .int .u8 (readBlk s).1.part, .int .i32 (readBlk s).1.miss, .int .u32 (readBlk s).1.high, .int .u32 (readBlk s).1.jit, .int .u32 (readBlk s).1.last, .int .u32 (readBlk s).1.dly] 134))
      have okb := readBlk_ok (s := s) HJ.out.rd.byt
      (refine num_next rfl rfl ?_; intro K hK)
      refine loud_append_row (.tmp 32) (.tmp 35) 25 rfl (B5 + 1) 134 j0 (.agg #[.int .u32 0, .int .u8 0, .int .i32 0, .int .u32 0, .int .u32 0, .int .u32 0, .int .u32 0]) 7 28 Try.underlying25 hi hz0 hz1 hz2 rfl (by decide) v bl rfl J9.row w8.heap.size (readBlk s).1.cells (readBlk s).1 rfl rfl (new_cells rfl) (by simp [Blk.cells, Value.oneCell']) (fun _ _ => ⟨rfl, okb⟩) (fun b hb => by have := J9.h2; have := blk_lt J9.b5; omega) (by decide) (by have := HL.out; omega) (by have := blk_lt J9.b5; omega) ?_
      intro v10 w10 ho10 hg10 hb10
      have a10 : Away (fun b => b = R ∨ v.ownBlock = some b) wr w10 := a9.trans ⟨hg10.os, hg10.tape, hg10.output, hg10.size, fun k hk hs => hg10.block k hk (fun e => hs (Or.inr e.symm))⟩
      have J10 := Lib.hid (J9.put (by rfl) ho10 hg10)
      have q7 : w10.cell? ⟨B5, 7, none⟩ = some v := by
        have : w10.heap[B5]? = _ := (hg10.block B5 (blk_lt J9.b5) (fun e => by have := J9.row.ge e.symm; omega)).trans J9.b5
        exact blk_cell this 7 rfl
      have z7 : w10.frozen? ⟨B5, 7, none⟩ = false := by
        have : w10.heap[B5]? = _ := (hg10.block B5 (blk_lt J9.b5) (fun e => by have := J9.row.ge e.symm; omega)).trans J9.b5
        exact blk_free this 7
      obtain ⟨o10, n10, c10, rfl, hz8, hz9⟩ := ho10.shape
      clear hz8 hz9 ho10 hg10 hb10
      refine ⟨laterS_mk a10, hK _ _ ?_⟩
      clear hK K
      go_simp
      iterate 1 (refine num_quiet rfl rfl (laterS_mk a10) ?_; intro K hK; go_big_quiet_op; go_big_quiet_on)
      (refine num_end rfl rfl (by decide) ?_; intro K hK; unfold loud; go_simp)
      refine hK _ _ ?_
      clear hK K
      refine num_nil ?_
      go_wp2
      go_roundw
      case rel => exact ⟨j + 1, by omega, by go_num, ⟨_, _, _, J10.out, by (have := HL.out; simp; omega), H1.out, H2.out⟩⟩
      case measure => simp [intOf]; omega
    · obtain rfl : j = kn := by omega
      rw [Nat.sub_self] at hr1 hr2
      have hr1 : (readBls j s0).1 = bl := by rw [hr1]; exact List.append_nil _
      have hr2 : (readBls j s0).2 = s := hr2
      have hDD := HD'.out
      rw [hr1, hr2] at hDD
      unfold doneR at hDD
      have hJ := HJ.out
      have hjk : ¬ (j : Int) < k := by rw [HKK.out]; omega
      obtain ⟨ov, nv, cv, rfl, hz8, hz9⟩ := hJ.row.shape
      have SV := Lib.hid (hJ.row.sl (by decide))
      have GV : Hid (∀ b, (Value.slice ov nv cv).ownBlock = some b → ¬ b = w.heap.size + 1) := Lib.hid (fun b hb e => by have := hJ.row.ge hb; have := hJ.h1; have := hJ.h2; omega)
      have GW : Hid (NewB w (.slice ov nv cv)) := Lib.hid (fun b hb => by have := hJ.row.ge hb; have := hJ.h1; have := hJ.h2; omega)
      have MV := Lib.hid hJ.more
      clear hr1 hr2 hz8 hz9
      have p0 := blk_cell hJ.b5 0 (v := .bool true) rfl
      have p1 := blk_cell hJ.b5 1 (v := .int .u32 (num (tkB B 4))) rfl
      have p2 := blk_cell hJ.b5 2 (v := .int .u32 (readInf (tkL B 4, tkE B 4 0)).1.sec) rfl
      have p3 := blk_cell hJ.b5 3 (v := .int .u32 (readInf (tkL B 4, tkE B 4 0)).1.frac) rfl
      have p4 := blk_cell hJ.b5 4 (v := .int .u32 (readInf (tkL B 4, tkE B 4 0)).1.stamp) rfl
      have p5 := blk_cell hJ.b5 5 (v := .int .u32 (readInf (tkL B 4, tkE B 4 0)).1.pkts) rfl
      have p6 := blk_cell hJ.b5 6 (v := .int .u32 (readInf (tkL B 4, tkE B 4 0)).1.octs) rfl
      have p7 := blk_cell hJ.b5 7 (v := .slice ov nv cv) rfl
      have g0 := blk_cell hJ.b1 0 (v := .bool false) rfl
      have z0 := blk_free hJ.b1 0
      have g1 := blk_cell hJ.b1 1 (v := .int .u32 0) rfl
      have z1 := blk_free hJ.b1 1
      have g2 := blk_cell hJ.b1 2 (v := .int .u32 0) rfl
      have z2 := blk_free hJ.b1 2
      have g3 := blk_cell hJ.b1 3 (v := .int .u32 0) rfl
      have z3 := blk_free hJ.b1 3
      have g4 := blk_cell hJ.b1 4 (v := .int .u32 0) rfl
      have z4 := blk_free hJ.b1 4
      have g5 := blk_cell hJ.b1 5 (v := .int .u32 0) rfl
      have z5 := blk_free hJ.b1 5
      have g6 := blk_cell hJ.b1 6 (v := .int .u32 0) rfl
      have z6 := blk_free hJ.b1 6
      have g7 := blk_cell hJ.b1 7 (v := .slice none 0 0) rfl
      have z7 := blk_free hJ.b1 7
      by_cases he : endS s = 0
      · rw [if_pos he] at hDD
        have HDD := Lib.hid hDD
        clear hDD hJ
        go_wp2_with (go_at_call 81; ((with_reducible refine (RdEnd_S (s := s) HJ.out.rd).mono ?_); rintro e w11 ⟨rfl, rfl⟩; rw [he]))
        (refine bodyPost_ret (v := .tuple #[.agg #[.bool true, .int .u32 (num (tkB B 4)), .int .u32 (readInf (tkL B 4, tkE B 4 0)).1.sec, .int .u32 (readInf (tkL B 4, tkE B 4 0)).1.frac, .int .u32 (readInf (tkL B 4, tkE B 4 0)).1.stamp, .int .u32 (readInf (tkL B 4, tkE B 4 0)).1.pkts, .int .u32 (readInf (tkL B 4, tkE B 4 0)).1.octs, .slice ov nv cv], .int .i64 0]) ?rr3 rfl ?_; (case rr3 => (simp [results, Try.results19, go_sem, g0, g1, g2, g3, g4, g5, g6, g7])))
        refine ⟨⟨.slice ov nv cv, by first | (rw [← HDD.out]; done) | (rw [← HDD.out]; rfl), ?_⟩, ((((((((MV.out.st (by simp) _).st (by simp) _).st (by simp) _).st (by simp) _).st (by simp) _).st (by simp) _).st (by simp) _).st (by simp) _)⟩
        rw [← HDD.out]
        exact ⟨slP_off SV.out GV.out ((((((((Away.refl (fun b => b = w.heap.size + 1) _).set rfl _).set rfl _).set rfl _).set rfl _).set rfl _).set rfl _).set rfl _ |>.set rfl _), GW.out⟩
      · rw [if_neg he] at hDD
        have HDD := Lib.hid hDD
        have heb : (endS s != 0) = true := by simpa using he
        clear hDD hJ
        go_wp2_with (go_at_call 81; ((with_reducible refine (RdEnd_S (s := s) HJ.out.rd).mono ?_); rintro e w11 ⟨rfl, rfl⟩))
        (refine bodyPost_ret (v := .tuple #[.agg #[.bool false, .int .u32 0, .int .u32 0, .int .u32 0, .int .u32 0, .int .u32 0, .int .u32 0, .slice none 0 0], .int .i64 (endS s)]) ?rr4 rfl ?_; (case rr4 => (simp [results, Try.results19, go_sem, g0, g1, g2, g3, g4, g5, g6, g7])))
        refine ⟨⟨.slice none 0 0, by first | (rw [← HDD.out]; done) | (rw [← HDD.out]; rfl), ?_⟩, ((((((((MV.out.st (by simp) _).st (by simp) _).st (by simp) _).st (by simp) _).st (by simp) _).st (by simp) _).st (by simp) _).st (by simp) _)⟩
        rw [← HDD.out]
        exact ⟨SlP.nil _ _ _, NewB.nil w⟩
theorem Read08_201 {w : World} (kn : Nat) (B : List Int) (ob : Option Addr) (cb : Nat) (D : Rep × Int) (SL : Hid (SlI .u8 w (.slice ob B.length cb) B)) (HB : Hid (Byt B)) (hl : B.length ≤ 1000000) (hk31 : kn ≤ 31) (HR : Hid (rightB ((kn : Int), 201, B, ()) = true))
    (HD : Hid (doneR ⟨false, num (tkB B 4), inf0, (readBls kn (tkL B 4, tkE B 4 0)).1⟩ (readBls kn (tkL B 4, tkE B 4 0)).2 = D)) :
    Calls Try.prog 19 #[.agg #[.int .u8 (kn : Int), .int .u8 201, .slice ob B.length cb]] w fun e w' => (∃ vb, e = .returned (.tuple #[.agg #[.bool D.1.snd, .int .u32 D.1.src, .int .u32 D.1.inf.sec, .int .u32 D.1.inf.frac, .int .u32 D.1.inf.stamp, .int .u32 D.1.inf.pkts, .int .u32 D.1.inf.octs, vb], .int .i64 D.2]) ∧ SlP 7 RBlk w' vb D.1.bl ∧ NewB w vb) ∧ More w w' := by
  obtain ⟨j0, hi, hz0, hz1, hz2⟩ := info_parts (P := Try.prog) (e := 134) (z := .agg #[.int .u32 0, .int .u8 0, .int .i32 0, .int .u32 0, .int .u32 0, .int .u32 0, .int .u32 0]) (size := 7) (bytes := 28) (by kernel_rfl)
  obtain ⟨k, hkk⟩ : ∃ k : Int, k = (kn : Int) := ⟨_, rfl⟩
  rw [← hkk] at HR ⊢
  have HKK := Lib.hid hkk
  clear hkk
  have m0 : More w ((w.alloc (.cells #[.int .u8 k, .int .u8 201, .slice ob B.length cb] 30)).alloc (.cells #[.bool false, .int .u32 0, .int .u32 0, .int .u32 0, .int .u32 0, .int .u32 0, .int .u32 0, .slice none 0 0] 27)) := (More.alloc _ _).al _
  have hB0w : ((w.alloc (.cells #[.int .u8 k, .int .u8 201, .slice ob B.length cb] 30)).alloc (.cells #[.bool false, .int .u32 0, .int .u32 0, .int .u32 0, .int .u32 0, .int .u32 0, .int .u32 0, .slice none 0 0] 27)).heap[w.heap.size]? = some (.cells #[.int .u8 k, .int .u8 201, .slice ob B.length cb] 30) := blk_alloc (blk_new w _) _
  have hB1w : ((w.alloc (.cells #[.int .u8 k, .int .u8 201, .slice ob B.length cb] 30)).alloc (.cells #[.bool false, .int .u32 0, .int .u32 0, .int .u32 0, .int .u32 0, .int .u32 0, .int .u32 0, .slice none 0 0] 27)).heap[w.heap.size + 1]? = some (.cells #[.bool false, .int .u32 0, .int .u32 0, .int .u32 0, .int .u32 0, .int .u32 0, .int .u32 0, .slice none 0 0] 27) := blk_new2 (by simp)
  go_enter Try.func19, Try.ntmps19
  go_wp2_with first | (go_at_call 49; refine (Right07_any (k, 201, B, ()) (SL.out.keep m0) hl).mono ?_; rintro e w3 ⟨rfl, hm3⟩; rw [HR.out]; have M3 := m0.trans hm3; have hB0 := blk_more hm3 hB0w; have hB1 := blk_more hm3 hB1w; have hw3 : w.heap.size + 2 ≤ w3.heap.size := Nat.le_trans (by simp) hm3.size; have cb2 := blk_cell hB0 2 (v := .slice ob B.length cb) rfl) | (go_at_call 77; ((with_reducible refine (RdNew_in _ B w3 (SL.out.keep M3) HB.out hl).mono ?_); rintro e w4 ⟨R, rfl, hR, r4, m4⟩; have hB04 := blk_more m4 hB0; have hB14 := blk_more m4 hB1; have M4 := M3.trans m4; have hR4 : R < w4.heap.size := by (obtain ⟨v, h1, _⟩ := r4.blk; exact blk_lt h1))) | (go_at_call 78; ((with_reducible refine (RdNum_any r4).mono ?_); rintro e w5 ⟨rfl, r5, a5⟩; have J0 : RpJ w (w5.alloc (.cells #[.bool false, .int .u32 (num (tkB B 4)), .int .u32 0, .int .u32 0, .int .u32 0, .int .u32 0, .int .u32 0, .slice none 0 0] 27)) R w5.heap.size (fun g => w3.heap.size ≤ g ∧ g < w4.heap.size) (.cells #[.int .u8 k, .int .u8 201, .slice ob B.length cb] 30) (.cells #[.bool false, .int .u32 0, .int .u32 0, .int .u32 0, .int .u32 0, .int .u32 0, .int .u32 0, .slice none 0 0] 27) [.bool false, .int .u32 (num (tkB B 4)), .int .u32 0, .int .u32 0, .int .u32 0, .int .u32 0, .int .u32 0] (.slice none 0 0) [] (tkL B 4, tkE B 4 0) := RpJ.new _ _ rfl hB04 hB14 r5 a5 M4 hw3 hR hR4; have ct := blk_cell J0.b0 1 (v := .int .u8 201) rfl; have ck := blk_cell J0.b0 0 (v := .int .u8 k) rfl))
  have JL : RpJ w _ R w5.heap.size (fun g => w3.heap.size ≤ g ∧ g < w4.heap.size) (.cells #[.int .u8 k, .int .u8 201, .slice ob B.length cb] 30) (.cells #[.bool false, .int .u32 0, .int .u32 0, .int .u32 0, .int .u32 0, .int .u32 0, .int .u32 0, .slice none 0 0] 27) [.bool false, .int .u32 (num (tkB B 4)), .int .u32 0, .int .u32 0, .int .u32 0, .int .u32 0, .int .u32 0] (.slice none 0 0) [] (tkL B 4, tkE B 4 0) := J0
  clear cb2 ct m0 hB0w hB1w
  have HJL := Lib.hid JL
  clear JL
  obtain ⟨R', hRR⟩ : ∃ R', R' = R := ⟨_, rfl⟩
  obtain ⟨B5, hB5⟩ : ∃ B5, B5 = w5.heap.size := ⟨_, rfl⟩
  obtain ⟨C, hC⟩ : ∃ C : Nat → Prop, C = fun g => w3.heap.size ≤ g ∧ g < w4.heap.size := ⟨_, rfl⟩
  rw [← hB5, ← hC] at HJL
  have HKB := Lib.hid (And.intro hB5 HKK.out)
  rw [← hB5]
  clear hB5 hC
  obtain ⟨s0, hs0⟩ : ∃ s0 : RdS, s0 = (tkL B 4, tkE B 4 0) := ⟨_, rfl⟩
  have HD' : Hid (doneR ⟨false, num (tkB B 4), inf0, (readBls kn s0).1⟩ (readBls kn s0).2 = D) := by rw [hs0]; exact HD
  rw [← hs0] at HJL
  clear hs0 HD
  go_loopw [29] (fun ix wr => ∃ j : Nat, j ≤ kn ∧ ix = .int .u8 (j : Int) ∧ (∃ v bl s, RpJ w wr R B5 C (.cells #[.int .u8 k, .int .u8 201, .slice ob B.length cb] 30) (.cells #[.bool false, .int .u32 0, .int .u32 0, .int .u32 0, .int .u32 0, .int .u32 0, .int .u32 0, .slice none 0 0] 27) [.bool false, .int .u32 (num (tkB B 4)), .int .u32 0, .int .u32 0, .int .u32 0, .int .u32 0, .int .u32 0] v bl s ∧ bl.length = j ∧ (readBls kn s0).1 = bl ++ (readBls (kn - j) s).1 ∧ (readBls kn s0).2 = (readBls (kn - j) s).2)) (fun ix _ => kn - (intOf ix).toNat)
  case atStart => exact ⟨0, by omega, rfl, ⟨_, _, _, HJL.out, rfl, by simp, rfl⟩⟩
  case round =>
    obtain ⟨j, hj, rfl, ⟨v, bl, s, hJ, hlen, hr1, hr2⟩⟩ := hrel
    have HJ := Lib.hid hJ
    have HL := Lib.hid hlen
    clear hJ hlen
    by_cases hlt : j < kn
    · have hjk : (j : Int) < k := by rw [HKK.out]; omega
      have e1 : kn - j = (kn - (j + 1)) + 1 := by omega
      have hst := readBls_step (kn - (j + 1)) s bl
      rw [e1, hst.1] at hr1
      rw [e1, hst.2] at hr2
      have H1 := Lib.hid hr1
      have H2 := Lib.hid hr2
      clear hr1 hr2 hst e1
      have hj255 : ((j : Int) + 1) % 256 = (j : Int) + 1 := by omega
      have hrB5 : ¬ (B5 = R ∨ v.ownBlock = some B5) := by
        rintro (e | e)
        · have := HJ.out.h2; omega
        · have := HJ.out.row.ge e; omega
      have C7 : ∀ x : LaterS (fun b => b = R ∨ v.ownBlock = some b) wr, x.w'.cell? ⟨B5, 7, none⟩ = some v := fun x => blk_cell (x.h.blk HJ.out.b5 hrB5) 7 rfl
      go_wp2_with fail
      refine wp_region_numS (fun b => b = R ∨ v.ownBlock = some b) wr 7 [(0, false), (1, false), (2, false), (3, true), (4, true), (5, true), (6, false), (7, true)] (by kernel_rfl) (by kernel_rfl) ?_
      iterate 3 (refine num_quiet rfl rfl (laterS_mk (by repeat (first | exact Away.refl _ _ | assumption | refine Away.drewN ?_ _ | refine Away.set ?_ (by first | rfl | exact Or.inl rfl | exact Or.inr rfl) _))) ?_; intro K hK; go_big_quiet_op; go_big_quiet_on)
      (refine num_next rfl rfl ?_; intro K hK; unfold loud; go_simp)
      refine (ReadBlk_any (s := s) (HJ.out.rd.more (More.drewN _ 1))).mono ?_
      rintro e w8 ⟨rfl, r8, a8⟩
      have a8' : Away (fun b => b = R ∨ v.ownBlock = some b) wr w8 := ((Away.refl _ _).drewN _).trans (a8.mono fun b h => Or.inl h)
      refine ⟨_, rfl, laterS_mk a8', hK _ _ ?_⟩
      clear hK K
      (refine num_next rfl rfl ?_; intro K hK; unfold loud; go_simp)
      have a9 := a8'.more (More.alloc w8 (.cells #[.int .u32 (readBlk s).1.src, .int .u8 (readBlk s).1.part, .int .i32 (readBlk s).1.miss, .int .u32 (readBlk s).1.high, .int .u32 (readBlk s).1.jit, .int .u32 (readBlk s).1.last, .int .u32 (readBlk s).1.dly] 134))
      refine ⟨laterS_mk a9, hK _ _ ?_⟩
      clear hK K
      have J8 := (HJ.out.on (More.drewN wr 1)).read r8 a8
      have J9 := J8.on (More.alloc w8 (.cells #[.int .u32 (readBlk s).1.src, .int .u8 (readBlk s).1.part, .int .i32 (readBlk s).1.miss, .int .u32 (readBlk s).1.high, .int .u32 (readBlk s).1.jit, .int .u32 (readBlk s).1.last, .int .u32 (readBlk s).1.dly] 134))
      have okb := readBlk_ok (s := s) HJ.out.rd.byt
      (refine num_next rfl rfl ?_; intro K hK)
      refine loud_append_row (.tmp 32) (.tmp 35) 25 rfl (B5 + 1) 134 j0 (.agg #[.int .u32 0, .int .u8 0, .int .i32 0, .int .u32 0, .int .u32 0, .int .u32 0, .int .u32 0]) 7 28 Try.underlying25 hi hz0 hz1 hz2 rfl (by decide) v bl rfl J9.row w8.heap.size (readBlk s).1.cells (readBlk s).1 rfl rfl (new_cells rfl) (by simp [Blk.cells, Value.oneCell']) (fun _ _ => ⟨rfl, okb⟩) (fun b hb => by have := J9.h2; have := blk_lt J9.b5; omega) (by decide) (by have := HL.out; omega) (by have := blk_lt J9.b5; omega) ?_
      intro v10 w10 ho10 hg10 hb10
      have a10 : Away (fun b => b = R ∨ v.ownBlock = some b) wr w10 := a9.trans ⟨hg10.os, hg10.tape, hg10.output, hg10.size, fun k hk hs => hg10.block k hk (fun e => hs (Or.inr e.symm))⟩
      have J10 := Lib.hid (J9.put (by rfl) ho10 hg10)
      have q7 : w10.cell? ⟨B5, 7, none⟩ = some v := by
        have : w10.heap[B5]? = _ := (hg10.block B5 (blk_lt J9.b5) (fun e => by have := J9.row.ge e.symm; omega)).trans J9.b5
        exact blk_cell this 7 rfl
      have z7 : w10.frozen? ⟨B5, 7, none⟩ = false := by
        have : w10.heap[B5]? = _ := (hg10.block B5 (blk_lt J9.b5) (fun e => by have := J9.row.ge e.symm; omega)).trans J9.b5
        exact blk_free this 7
      obtain ⟨o10, n10, c10, rfl, hz8, hz9⟩ := ho10.shape
      clear hz8 hz9 ho10 hg10 hb10
      refine ⟨laterS_mk a10, hK _ _ ?_⟩
      clear hK K
      go_simp
      iterate 1 (refine num_quiet rfl rfl (laterS_mk a10) ?_; intro K hK; go_big_quiet_op; go_big_quiet_on)
      (refine num_end rfl rfl (by decide) ?_; intro K hK; unfold loud; go_simp)
      refine hK _ _ ?_
      clear hK K
      refine num_nil ?_
      go_wp2
      go_roundw
      case rel => exact ⟨j + 1, by omega, by go_num, ⟨_, _, _, J10.out, by (have := HL.out; simp; omega), H1.out, H2.out⟩⟩
      case measure => simp [intOf]; omega
    · obtain rfl : j = kn := by omega
      rw [Nat.sub_self] at hr1 hr2
      have hr1 : (readBls j s0).1 = bl := by rw [hr1]; exact List.append_nil _
      have hr2 : (readBls j s0).2 = s := hr2
      have hDD := HD'.out
      rw [hr1, hr2] at hDD
      unfold doneR at hDD
      have hJ := HJ.out
      have hjk : ¬ (j : Int) < k := by rw [HKK.out]; omega
      obtain ⟨ov, nv, cv, rfl, hz8, hz9⟩ := hJ.row.shape
      have SV := Lib.hid (hJ.row.sl (by decide))
      have GV : Hid (∀ b, (Value.slice ov nv cv).ownBlock = some b → ¬ b = w.heap.size + 1) := Lib.hid (fun b hb e => by have := hJ.row.ge hb; have := hJ.h1; have := hJ.h2; omega)
      have GW : Hid (NewB w (.slice ov nv cv)) := Lib.hid (fun b hb => by have := hJ.row.ge hb; have := hJ.h1; have := hJ.h2; omega)
      have MV := Lib.hid hJ.more
      clear hr1 hr2 hz8 hz9
      have p0 := blk_cell hJ.b5 0 (v := .bool false) rfl
      have p1 := blk_cell hJ.b5 1 (v := .int .u32 (num (tkB B 4))) rfl
      have p2 := blk_cell hJ.b5 2 (v := .int .u32 0) rfl
      have p3 := blk_cell hJ.b5 3 (v := .int .u32 0) rfl
      have p4 := blk_cell hJ.b5 4 (v := .int .u32 0) rfl
      have p5 := blk_cell hJ.b5 5 (v := .int .u32 0) rfl
      have p6 := blk_cell hJ.b5 6 (v := .int .u32 0) rfl
      have p7 := blk_cell hJ.b5 7 (v := .slice ov nv cv) rfl
      have g0 := blk_cell hJ.b1 0 (v := .bool false) rfl
      have z0 := blk_free hJ.b1 0
      have g1 := blk_cell hJ.b1 1 (v := .int .u32 0) rfl
      have z1 := blk_free hJ.b1 1
      have g2 := blk_cell hJ.b1 2 (v := .int .u32 0) rfl
      have z2 := blk_free hJ.b1 2
      have g3 := blk_cell hJ.b1 3 (v := .int .u32 0) rfl
      have z3 := blk_free hJ.b1 3
      have g4 := blk_cell hJ.b1 4 (v := .int .u32 0) rfl
      have z4 := blk_free hJ.b1 4
      have g5 := blk_cell hJ.b1 5 (v := .int .u32 0) rfl
      have z5 := blk_free hJ.b1 5
      have g6 := blk_cell hJ.b1 6 (v := .int .u32 0) rfl
      have z6 := blk_free hJ.b1 6
      have g7 := blk_cell hJ.b1 7 (v := .slice none 0 0) rfl
      have z7 := blk_free hJ.b1 7
      by_cases he : endS s = 0
      · rw [if_pos he] at hDD
        have HDD := Lib.hid hDD
        clear hDD hJ
        go_wp2_with (go_at_call 81; ((with_reducible refine (RdEnd_S (s := s) HJ.out.rd).mono ?_); rintro e w11 ⟨rfl, rfl⟩; rw [he]))
        (refine bodyPost_ret (v := .tuple #[.agg #[.bool false, .int .u32 (num (tkB B 4)), .int .u32 0, .int .u32 0, .int .u32 0, .int .u32 0, .int .u32 0, .slice ov nv cv], .int .i64 0]) ?rr5 rfl ?_; (case rr5 => (simp [results, Try.results19, go_sem, g0, g1, g2, g3, g4, g5, g6, g7])))
        refine ⟨⟨.slice ov nv cv, by first | (rw [← HDD.out]; done) | (rw [← HDD.out]; rfl), ?_⟩, ((((((((MV.out.st (by simp) _).st (by simp) _).st (by simp) _).st (by simp) _).st (by simp) _).st (by simp) _).st (by simp) _).st (by simp) _)⟩
        rw [← HDD.out]
        exact ⟨slP_off SV.out GV.out ((((((((Away.refl (fun b => b = w.heap.size + 1) _).set rfl _).set rfl _).set rfl _).set rfl _).set rfl _).set rfl _).set rfl _ |>.set rfl _), GW.out⟩
      · rw [if_neg he] at hDD
        have HDD := Lib.hid hDD
        have heb : (endS s != 0) = true := by simpa using he
        clear hDD hJ
        go_wp2_with (go_at_call 81; ((with_reducible refine (RdEnd_S (s := s) HJ.out.rd).mono ?_); rintro e w11 ⟨rfl, rfl⟩))
        (refine bodyPost_ret (v := .tuple #[.agg #[.bool false, .int .u32 0, .int .u32 0, .int .u32 0, .int .u32 0, .int .u32 0, .int .u32 0, .slice none 0 0], .int .i64 (endS s)]) ?rr6 rfl ?_; (case rr6 => (simp [results, Try.results19, go_sem, g0, g1, g2, g3, g4, g5, g6, g7])))
        refine ⟨⟨.slice none 0 0, by first | (rw [← HDD.out]; done) | (rw [← HDD.out]; rfl), ?_⟩, ((((((((MV.out.st (by simp) _).st (by simp) _).st (by simp) _).st (by simp) _).st (by simp) _).st (by simp) _).st (by simp) _).st (by simp) _)⟩
        rw [← HDD.out]
        exact ⟨SlP.nil _ _ _, NewB.nil w⟩
theorem Read08_new {w : World} {vb : Value} (c : Chunk) (sl : SlI .u8 w vb c.2.2.1) (hk : ChunkOK c) (hl : c.2.2.1.length ≤ 1000000) :
    Calls Try.prog 19 #[.agg #[.int .u8 c.1, .int .u8 c.2.1, vb]] w fun e w' => (∃ vb, e = .returned (.tuple #[.agg #[.bool (readR c).1.snd, .int .u32 (readR c).1.src, .int .u32 (readR c).1.inf.sec, .int .u32 (readR c).1.inf.frac, .int .u32 (readR c).1.inf.stamp, .int .u32 (readR c).1.inf.pkts, .int .u32 (readR c).1.inf.octs, vb], .int .i64 (readR c).2]) ∧ SlP 7 RBlk w' vb (readR c).1.bl ∧ NewB w vb) ∧ More w w' := by
  obtain ⟨k, t, B, ⟨⟩⟩ := c
  obtain ⟨⟨k0, k1⟩, _, hb⟩ := hk
  simp only at *
  have SL := Lib.hid sl
  obtain ⟨ob, cb, rfl, _⟩ := sl
  cases hr : rightB (k, t, B, ()) with
  | false =>
    have e : readR (k, t, B, ()) = (rep0, 1) := by unfold readR; rw [if_pos hr]
    rw [e]
    exact (Read08_no k t B ob cb SL (Lib.hid hb) hl (Lib.hid hr)).mono fun e w' ⟨h1, h2⟩ => ⟨⟨_, h1, SlP.nil _ _ _, NewB.nil w⟩, h2⟩
  | true =>
    have hk31 := ((rightB_iff _).1 hr).1
    simp only at hk31
    obtain ⟨kn, rfl⟩ : ∃ n : Nat, k = n := ⟨k.toNat, by omega⟩
    by_cases h200 : t = 200
    · subst h200
      have e : readR ((kn : Int), 200, B, ()) = doneR ⟨true, num (tkB B 4), (readInf (tkL B 4, tkE B 4 0)).1, (readBls kn (readInf (tkL B 4, tkE B 4 0)).2).1⟩ (readBls kn (readInf (tkL B 4, tkE B 4 0)).2).2 := by
        unfold readR
        rw [if_neg (by rw [hr]; simp), if_pos rfl]
        rfl
      exact Read08_200 kn B ob cb _ SL (Lib.hid hb) hl (by omega) (Lib.hid hr) (Lib.hid e.symm)
    · by_cases h201 : t = 201
      · subst h201
        have e : readR ((kn : Int), 201, B, ()) = doneR ⟨false, num (tkB B 4), inf0, (readBls kn (tkL B 4, tkE B 4 0)).1⟩ (readBls kn (tkL B 4, tkE B 4 0)).2 := by
          unfold readR
          rw [if_neg (by rw [hr]; simp), if_neg (show ¬ (201 : Int) = 200 by decide), if_pos rfl]
          rfl
        exact Read08_201 kn B ob cb _ SL (Lib.hid hb) hl (by omega) (Lib.hid hr) (Lib.hid e.symm)
      · have e : readR ((kn : Int), t, B, ()) = (rep0, 5) := by unfold readR; rw [if_neg (by rw [hr]; simp), if_neg h200, if_neg h201]
        rw [e]
        exact (Read08_other (kn : Int) t B ob cb SL (Lib.hid hb) hl (Lib.hid hr) h200 h201).mono fun e w' ⟨h1, h2⟩ => ⟨⟨_, h1, SlP.nil _ _ _, NewB.nil w⟩, h2⟩
theorem Read08_any {w : World} {vb : Value} (c : Chunk) (sl : SlI .u8 w vb c.2.2.1) (hk : ChunkOK c) (hl : c.2.2.1.length ≤ 1000000) :
    Calls Try.prog 19 #[.agg #[.int .u8 c.1, .int .u8 c.2.1, vb]] w fun e w' => (∃ vb, e = .returned (.tuple #[.agg #[.bool (readR c).1.snd, .int .u32 (readR c).1.src, .int .u32 (readR c).1.inf.sec, .int .u32 (readR c).1.inf.frac, .int .u32 (readR c).1.inf.stamp, .int .u32 (readR c).1.inf.pkts, .int .u32 (readR c).1.inf.octs, vb], .int .i64 (readR c).2]) ∧ SlP 7 RBlk w' vb (readR c).1.bl) ∧ More w w' := by
  exact (Read08_new c sl hk hl).mono fun e w' ⟨⟨vx, h1, h2, _⟩, h3⟩ => ⟨⟨vx, h1, h2⟩, h3⟩
end Go.Proofs.Ytlnikmcimmnbmaa
