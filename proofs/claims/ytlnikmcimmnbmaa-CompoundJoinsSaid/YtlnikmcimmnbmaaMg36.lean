/- Merged from my texts ReportF, ReportG. -/
import Derived.Test.YtlnikmcimmnbmaaMg26
/- Reports in the laws of layer 8: own, the document's Same, same. -/
namespace Go.Proofs.Ytlnikmcimmnbmaa
set_option linter.unusedSimpArgs false
set_option linter.unusedVariables false
open Go.RowKit
set_option maxRecDepth 100000

/-- A report that is being built, and its blocks. -/
structure OwJ (w0 w : World) (B3 : Nat) (o2 : Obj) (xs : List Value) (v : Value) (bl : List Blk) : Prop where
  b2 : w.heap[w0.heap.size + 1]? = some o2
  b3 : w.heap[B3]? = some (.cells (xs ++ [v]).toArray 41 (0, 0))
  row : RowP 7 RBlk (fun b => b = B3) w (B3 + 1) 143 v bl
  more : More w0 w
  h : w0.heap.size + 1 < B3
theorem OwJ.on {w0 w w' : World} {B3 : Nat} {o2 : Obj} {xs : List Value} {v : Value} {bl : List Blk} (h : OwJ w0 w B3 o2 xs v bl) (m : More w w') : OwJ w0 w' B3 o2 xs v bl :=
  ⟨blk_more m h.b2, blk_more m h.b3, h.row.on m, h.more.trans m, h.h⟩
theorem OwJ.put {w0 w w' : World} {B3 : Nat} {o2 : Obj} {xs : List Value} {v v' : Value} {bl bl' : List Blk} (h : OwJ w0 w B3 o2 xs v bl) (hl : xs.length = 7)
    (ho : RowP 7 RBlk (fun b => b = B3) w' (B3 + 1) 143 v' bl') (hg : w.grownBy w' v.ownBlock) : OwJ w0 (w'.setCell ⟨B3, 7, none⟩ v') B3 o2 xs v' bl' := by
  have h1 := h.h
  have hv : ∀ g, v.ownBlock = some g → B3 + 1 ≤ g := fun g e => h.row.ge e
  have a : Away (fun b => v.ownBlock = some b) w w' := ⟨hg.os, hg.tape, hg.output, hg.size, fun k hk hs => hg.block k hk (fun e => hs e.symm)⟩
  have a5 : Away (fun b => b = B3) w' (w'.setCell ⟨B3, 7, none⟩ v') := (Away.refl (fun b => b = B3) w').set (p := ⟨B3, 7, none⟩) rfl v'
  have hm : More w0 w' := Away.to_more h.more a (fun k e => by have := hv k e; omega)
  refine ⟨a5.blk (a.blk h.b2 (fun e => by have := hv _ e; omega)) (by omega), blk_eq (blk_set (a.blk h.b3 (fun e => by have := hv _ e; omega)) 7 v') ?_, ho.step a5, hm.st (by show w0.heap.size ≤ B3; omega) v', h1⟩
  match xs, hl with
  | [x0, x1, x2, x3, x4, x5, x6], _ => rfl
set_option maxHeartbeats 2000000 in
theorem own08 {w : World} {vb : Value} (r : Rep) (sl : SlP 7 RBlk w vb r.bl) (hn : r.bl.length ≤ 100000) :
    Calls Try.prog 18 #[.agg #[.bool r.snd, .int .u32 r.src, .int .u32 r.inf.sec, .int .u32 r.inf.frac, .int .u32 r.inf.stamp, .int .u32 r.inf.pkts, .int .u32 r.inf.octs, vb]] w fun e w' => (∃ v', e = .returned (.agg #[.bool r.snd, .int .u32 r.src, .int .u32 r.inf.sec, .int .u32 r.inf.frac, .int .u32 r.inf.stamp, .int .u32 r.inf.pkts, .int .u32 r.inf.octs, v']) ∧ SlP 7 RBlk w' v' r.bl) ∧ More w w' := by
  obtain ⟨j0, hi, hz0, hz1, hz2⟩ := info_parts (P := Try.prog) (e := 143) (z := .agg #[.int .u32 0, .int .u8 0, .int .i32 0, .int .u32 0, .int .u32 0, .int .u32 0, .int .u32 0]) (size := 7) (bytes := 28) (by kernel_rfl)
  obtain ⟨s, src, i, bl⟩ := r
  simp only at *
  obtain ⟨oa, cap, rfl, hl63, hel⟩ := blks sl
  clear sl
  have J0 : OwJ w (((w.alloc (.cells #[.bool s, .int .u32 src, .int .u32 i.sec, .int .u32 i.frac, .int .u32 i.stamp, .int .u32 i.pkts, .int .u32 i.octs, .slice oa bl.length cap] 27)).alloc (.cells #[.bool false, .int .u32 0, .int .u32 0, .int .u32 0, .int .u32 0, .int .u32 0, .int .u32 0, .slice none 0 0] 41)).alloc (.cells #[.bool s, .int .u32 src, .int .u32 i.sec, .int .u32 i.frac, .int .u32 i.stamp, .int .u32 i.pkts, .int .u32 i.octs, .slice none 0 0] 41)) (w.heap.size + 2) (.cells #[.bool false, .int .u32 0, .int .u32 0, .int .u32 0, .int .u32 0, .int .u32 0, .int .u32 0, .slice none 0 0] 41) [.bool s, .int .u32 src, .int .u32 i.sec, .int .u32 i.frac, .int .u32 i.stamp, .int .u32 i.pkts, .int .u32 i.octs] (.slice none 0 0) [] :=
    ⟨blk_alloc (blk_new2 (by simp)) _, blk_new2 (by simp), RowP.nil _ _ _ _ _ _, ((More.alloc _ _).al _).al _, by omega⟩
  have HJ0 := Lib.hid J0
  clear J0
  go_enter Try.func18, Try.ntmps18
  go_wp2
  obtain ⟨B3, hB3⟩ : ∃ B3, B3 = w.heap.size + 2 := ⟨_, rfl⟩
  have e2 : w.heap.size + 1 + 1 = B3 := by omega
  rw [← hB3] at HJ0
  rw [e2]
  have HB3 := Lib.hid hB3
  clear hB3 e2
  go_loopw [16] (fun ix wr => ∃ j : Nat, j ≤ bl.length ∧ ix = .int .i64 j ∧ (∃ v, OwJ w wr B3 (.cells #[.bool false, .int .u32 0, .int .u32 0, .int .u32 0, .int .u32 0, .int .u32 0, .int .u32 0, .slice none 0 0] 41) [.bool s, .int .u32 src, .int .u32 i.sec, .int .u32 i.frac, .int .u32 i.stamp, .int .u32 i.pkts, .int .u32 i.octs] v (bl.take j))) (fun ix _ => bl.length - (intOf ix).toNat)
  case atStart => exact ⟨0, by omega, rfl, ⟨_, HJ0.out⟩⟩
  case round =>
    obtain ⟨j, hj, rfl, ⟨v, hJ⟩⟩ := hrel
    have HJ := Lib.hid hJ
    clear hJ
    by_cases hlt : j < bl.length
    · obtain ⟨b, off, rfl, hb, ht⟩ := hel j hlt
      obtain ⟨c0, c1, c2, c3, c4, c5, c6, hok⟩ := ht.more HJ.out.more hb
      have hjl : (j : Int) < (bl.length : Int) := by omega
      have hbw : b < wr.heap.size := Nat.lt_of_lt_of_le hb HJ.out.more.size
      have HS := Lib.hid (getD_snoc bl j blk0 hlt)
      have hlen : (bl.take j).length = j := by simp; omega
      clear hel ht
      generalize bl.take j = acc at *
      generalize bl.getD j blk0 = c at *
      have HL := Lib.hid hlen
      clear hlen
      have J2 := Lib.hid ((HJ.out.on (More.alloc wr (.cells #[.int .u32 c.src, .int .u8 c.part, .int .i32 c.miss, .int .u32 c.high, .int .u32 c.jit, .int .u32 c.last, .int .u32 c.dly] 134))).on (More.alloc _ (.cells #[.int .u32 c.src, .int .u8 c.part, .int .i32 c.miss, .int .u32 c.high, .int .u32 c.jit, .int .u32 c.last, .int .u32 c.dly] 143)))
      have p7 := blk_cell (blk_more (More.alloc wr (.cells #[.int .u32 c.src, .int .u8 c.part, .int .i32 c.miss, .int .u32 c.high, .int .u32 c.jit, .int .u32 c.last, .int .u32 c.dly] 134)) HJ.out.b3) 7 (v := v) rfl
      go_wp2_with (at_builtin; refine wpList_append_row _ rfl (.tmp 21) (.tmp 23) 39 rfl (B3 + 1) 143 j0 (.agg #[.int .u32 0, .int .u8 0, .int .i32 0, .int .u32 0, .int .u32 0, .int .u32 0, .int .u32 0]) 7 28 Try.underlying39 hi hz0 hz1 hz2 rfl (by decide) v acc rfl J2.out.row (wr.heap.size + 1) c.cells c rfl rfl (new_cells (by simp)) (by simp [Blk.cells, Value.oneCell']) (fun _ _ => ⟨rfl, hok⟩) (fun b hb => by have e : b = B3 := hb; have := blk_lt J2.out.b3; omega) (by decide) (by have := HL.out; omega) (blk_lt J2.out.b3) ?_; intro v10 w10 ho10 hg10 hb10; have J10 := Lib.hid (J2.out.put (by rfl) ho10 hg10); have b3w : w10.heap[B3]? = _ := (hg10.block B3 (blk_lt J2.out.b3) (fun e => by have := J2.out.row.ge e.symm; omega)).trans J2.out.b3; have q7 := blk_cell b3w 7 (v := v) rfl; have z7 := blk_free b3w 7; obtain ⟨o10, n10, c10, rfl, hz8, hz9⟩ := ho10.shape; clear hz8 hz9 ho10 hg10 hb10 b3w)
      go_roundw
      case rel => exact ⟨j + 1, by omega, by go_num, ⟨_, by rw [HS.out]; exact J10.out⟩⟩
      case measure => simp [intOf]; omega
    · obtain rfl : j = bl.length := by omega
      rw [List.take_length] at HJ
      have hJ := HJ.out
      obtain ⟨ov, nv, cv, rfl, hz8, hz9⟩ := hJ.row.shape
      clear hz8 hz9 hel
      have SV := Lib.hid (hJ.row.sl (by decide))
      have GV : Hid (∀ b, (Value.slice ov nv cv).ownBlock = some b → ¬ b = w.heap.size + 1) := Lib.hid (fun b hb e => by have := hJ.row.ge hb; have := hJ.h; omega)
      have MV := Lib.hid hJ.more
      have p0 := blk_cell hJ.b3 0 (v := .bool s) rfl
      have p1 := blk_cell hJ.b3 1 (v := .int .u32 src) rfl
      have p2 := blk_cell hJ.b3 2 (v := .int .u32 i.sec) rfl
      have p3 := blk_cell hJ.b3 3 (v := .int .u32 i.frac) rfl
      have p4 := blk_cell hJ.b3 4 (v := .int .u32 i.stamp) rfl
      have p5 := blk_cell hJ.b3 5 (v := .int .u32 i.pkts) rfl
      have p6 := blk_cell hJ.b3 6 (v := .int .u32 i.octs) rfl
      have p7 := blk_cell hJ.b3 7 (v := .slice ov nv cv) rfl
      have g0 := blk_cell hJ.b2 0 (v := .bool false) rfl
      have z0 := blk_free hJ.b2 0
      have g1 := blk_cell hJ.b2 1 (v := .int .u32 0) rfl
      have z1 := blk_free hJ.b2 1
      have g2 := blk_cell hJ.b2 2 (v := .int .u32 0) rfl
      have z2 := blk_free hJ.b2 2
      have g3 := blk_cell hJ.b2 3 (v := .int .u32 0) rfl
      have z3 := blk_free hJ.b2 3
      have g4 := blk_cell hJ.b2 4 (v := .int .u32 0) rfl
      have z4 := blk_free hJ.b2 4
      have g5 := blk_cell hJ.b2 5 (v := .int .u32 0) rfl
      have z5 := blk_free hJ.b2 5
      have g6 := blk_cell hJ.b2 6 (v := .int .u32 0) rfl
      have z6 := blk_free hJ.b2 6
      have g7 := blk_cell hJ.b2 7 (v := .slice none 0 0) rfl
      have z7 := blk_free hJ.b2 7
      clear hJ
      go_wp2
      (refine bodyPost_ret (v := .agg #[.bool s, .int .u32 src, .int .u32 i.sec, .int .u32 i.frac, .int .u32 i.stamp, .int .u32 i.pkts, .int .u32 i.octs, .slice ov nv cv]) ?rr1 rfl ?_; (case rr1 => (simp [results, Try.results18, go_sem, g0, g1, g2, g3, g4, g5, g6, g7])))
      exact ⟨⟨_, rfl, slP_off SV.out GV.out ((((((((Away.refl (fun b => b = w.heap.size + 1) _).set rfl _).set rfl _).set rfl _).set rfl _).set rfl _).set rfl _).set rfl _ |>.set rfl _)⟩, ((((((((MV.out.st (by simp) _).st (by simp) _).st (by simp) _).st (by simp) _).st (by simp) _).st (by simp) _).st (by simp) _).st (by simp) _)⟩
theorem same08 {w : World} {va vb : Value} (c d : Chunk) (sa : SlI .u8 w va c.2.2.1) (sb : SlI .u8 w vb d.2.2.1) (hc : ChunkOK c) (hd : ChunkOK d) :
    Calls Try.prog 23 #[.agg #[.int .u8 c.1, .int .u8 c.2.1, va], .agg #[.int .u8 d.1, .int .u8 d.2.1, vb]] w fun e w' => e = .returned (.bool (decide (c = d))) ∧ More w w' := by
  have SA := Lib.hid sa
  have SB := Lib.hid sb
  have e1 : decide ([c] = [d]) = decide (c = d) := by simp
  have HE := Lib.hid e1
  obtain ⟨oa, ca, rfl, _⟩ := sa
  obtain ⟨ob, cb, rfl, _⟩ := sb
  clear e1
  go_enter Try.func23, Try.ntmps23
  go_wp2_with (go_at_call 70; refine (Same07_any [c] [d] _ _ _ ((SlP.one (n := 3) (R := RChunk) (y := c) (cs := #[.int .u8 c.1, .int .u8 c.2.1, .slice oa c.2.2.1.length ca]) (t := 35) (B := w.heap.size + 2) (w := ((w.alloc (.cells #[.int .u8 c.1, .int .u8 c.2.1, .slice oa c.2.2.1.length ca] 30)).alloc (.cells #[.int .u8 d.1, .int .u8 d.2.1, .slice ob d.2.2.1.length cb] 35))) rfl (by decide) (by simp) (chunk_mk (SA.out.keep (by repeat (first | exact More.refl _ | assumption | refine More.dr ?_ _ | refine More.al ?_ _ | refine More.st ?_ (by simp) _))) hc)).keep keepsChunk (More.alloc _ _)) (SlP.one (n := 3) (R := RChunk) (y := d) (cs := #[.int .u8 d.1, .int .u8 d.2.1, .slice ob d.2.2.1.length cb]) (t := 35) (B := w.heap.size + 3) rfl (by decide) (by simp) (chunk_mk (SB.out.keep (by repeat (first | exact More.refl _ | assumption | refine More.dr ?_ _ | refine More.al ?_ _ | refine More.st ?_ (by simp) _))) hd))).mono ?_; rintro e w1 ⟨rfl, hm1⟩)
  go_ret
  exact ⟨by rw [← HE.out]; rfl, (show More w _ from (by repeat (first | exact More.refl _ | assumption | refine More.dr ?_ _ | refine More.al ?_ _ | refine More.st ?_ (by simp) _))).trans hm1⟩
end Go.Proofs.Ytlnikmcimmnbmaa
/- Reports in the laws of layer 8: the document's Same. -/
namespace Go.Proofs.Ytlnikmcimmnbmaa
set_option linter.unusedSimpArgs false
set_option linter.unusedVariables false
open Go.RowKit
set_option maxRecDepth 100000

theorem rep_ne {r s : Rep} (h : ¬ r.snd = s.snd ∨ ¬ r.src = s.src ∨ ¬ r.inf = s.inf ∨ ¬ r.bl = s.bl) : decide (r = s) = false := by
  rw [decide_eq_false_iff_not]
  rintro rfl
  simp at h
theorem take_sameB (la lb : List Blk) (j : Nat) (h1 : j < la.length) (h2 : j < lb.length) (h : la.take j = lb.take j) (hd : la.getD j blk0 = lb.getD j blk0) : la.take (j + 1) = lb.take (j + 1) := by
  rw [getD_snoc la j blk0 h1, getD_snoc lb j blk0 h2, h, hd]
set_option maxHeartbeats 2000000 in
theorem Same08_a {w : World} (s1 : Bool) (c1 : Int) (i1 : Inf) (l1 : List Blk) (o1 : Option Addr) (k1 : Nat) (s2 : Bool) (c2 : Int) (i2 : Inf) (l2 : List Blk) (o2 : Option Addr) (k2 : Nat) (D : Bool) (m0 : More w ((w.alloc (.cells #[.bool s1, .int .u32 c1, .int .u32 i1.sec, .int .u32 i1.frac, .int .u32 i1.stamp, .int .u32 i1.pkts, .int .u32 i1.octs, .slice o1 l1.length k1] 41)).alloc (.cells #[.bool s2, .int .u32 c2, .int .u32 i2.sec, .int .u32 i2.frac, .int .u32 i2.stamp, .int .u32 i2.pkts, .int .u32 i2.octs, .slice o2 l2.length k2] 41))) (h1 : (s1 == s2) = false) (hD : D = false) :
    Calls Try.prog 24 #[.agg #[.bool s1, .int .u32 c1, .int .u32 i1.sec, .int .u32 i1.frac, .int .u32 i1.stamp, .int .u32 i1.pkts, .int .u32 i1.octs, .slice o1 l1.length k1], .agg #[.bool s2, .int .u32 c2, .int .u32 i2.sec, .int .u32 i2.frac, .int .u32 i2.stamp, .int .u32 i2.pkts, .int .u32 i2.octs, .slice o2 l2.length k2]] w fun e w' => e = .returned (.bool D) ∧ More w w' := by
  go_enter Try.func24, Try.ntmps24
  go_wp2
  go_ret
  exact ⟨by subst hD; rfl, m0⟩
set_option maxHeartbeats 2000000 in
theorem Same08_b {w : World} (s1 : Bool) (c1 : Int) (i1 : Inf) (l1 : List Blk) (o1 : Option Addr) (k1 : Nat) (c2 : Int) (i2 : Inf) (l2 : List Blk) (o2 : Option Addr) (k2 : Nat) (D : Bool) (m0 : More w ((w.alloc (.cells #[.bool s1, .int .u32 c1, .int .u32 i1.sec, .int .u32 i1.frac, .int .u32 i1.stamp, .int .u32 i1.pkts, .int .u32 i1.octs, .slice o1 l1.length k1] 41)).alloc (.cells #[.bool s1, .int .u32 c2, .int .u32 i2.sec, .int .u32 i2.frac, .int .u32 i2.stamp, .int .u32 i2.pkts, .int .u32 i2.octs, .slice o2 l2.length k2] 41))) (h2 : (c1 != c2) = true) (hD : D = false) :
    Calls Try.prog 24 #[.agg #[.bool s1, .int .u32 c1, .int .u32 i1.sec, .int .u32 i1.frac, .int .u32 i1.stamp, .int .u32 i1.pkts, .int .u32 i1.octs, .slice o1 l1.length k1], .agg #[.bool s1, .int .u32 c2, .int .u32 i2.sec, .int .u32 i2.frac, .int .u32 i2.stamp, .int .u32 i2.pkts, .int .u32 i2.octs, .slice o2 l2.length k2]] w fun e w' => e = .returned (.bool D) ∧ More w w' := by
  go_enter Try.func24, Try.ntmps24
  go_wp2
  go_ret
  exact ⟨by subst hD; rfl, m0⟩
set_option maxHeartbeats 2000000 in
theorem Same08_c {w : World} (s1 : Bool) (c1 : Int) (i1 : Inf) (l1 : List Blk) (o1 : Option Addr) (k1 : Nat) (i2 : Inf) (l2 : List Blk) (o2 : Option Addr) (k2 : Nat) (D : Bool) (m0 : More w ((w.alloc (.cells #[.bool s1, .int .u32 c1, .int .u32 i1.sec, .int .u32 i1.frac, .int .u32 i1.stamp, .int .u32 i1.pkts, .int .u32 i1.octs, .slice o1 l1.length k1] 41)).alloc (.cells #[.bool s1, .int .u32 c1, .int .u32 i2.sec, .int .u32 i2.frac, .int .u32 i2.stamp, .int .u32 i2.pkts, .int .u32 i2.octs, .slice o2 l2.length k2] 41))) (q : ∀ w, (binOp .neq 38 (.agg #[.int .u32 i1.sec, .int .u32 i1.frac, .int .u32 i1.stamp, .int .u32 i1.pkts, .int .u32 i1.octs]) (.agg #[.int .u32 i2.sec, .int .u32 i2.frac, .int .u32 i2.stamp, .int .u32 i2.pkts, .int .u32 i2.octs])).run Try.prog w = .ok (.bool true) w) (EG : Try.prog.eqGuardType Try.prog.depth 38 = false) (hD : D = false) :
    Calls Try.prog 24 #[.agg #[.bool s1, .int .u32 c1, .int .u32 i1.sec, .int .u32 i1.frac, .int .u32 i1.stamp, .int .u32 i1.pkts, .int .u32 i1.octs, .slice o1 l1.length k1], .agg #[.bool s1, .int .u32 c1, .int .u32 i2.sec, .int .u32 i2.frac, .int .u32 i2.stamp, .int .u32 i2.pkts, .int .u32 i2.octs, .slice o2 l2.length k2]] w fun e w' => e = .returned (.bool D) ∧ More w w' := by
  go_enter Try.func24, Try.ntmps24
  go_wp2
  go_ret
  exact ⟨by subst hD; rfl, m0⟩
set_option maxHeartbeats 2000000 in
theorem Same08_d {w : World} (s1 : Bool) (c1 : Int) (i1 : Inf) (l1 : List Blk) (o1 : Option Addr) (k1 : Nat) (l2 : List Blk) (o2 : Option Addr) (k2 : Nat) (D : Bool) (m0 : More w ((w.alloc (.cells #[.bool s1, .int .u32 c1, .int .u32 i1.sec, .int .u32 i1.frac, .int .u32 i1.stamp, .int .u32 i1.pkts, .int .u32 i1.octs, .slice o1 l1.length k1] 41)).alloc (.cells #[.bool s1, .int .u32 c1, .int .u32 i1.sec, .int .u32 i1.frac, .int .u32 i1.stamp, .int .u32 i1.pkts, .int .u32 i1.octs, .slice o2 l2.length k2] 41))) (q : ∀ w, (binOp .neq 38 (.agg #[.int .u32 i1.sec, .int .u32 i1.frac, .int .u32 i1.stamp, .int .u32 i1.pkts, .int .u32 i1.octs]) (.agg #[.int .u32 i1.sec, .int .u32 i1.frac, .int .u32 i1.stamp, .int .u32 i1.pkts, .int .u32 i1.octs])).run Try.prog w = .ok (.bool false) w) (EG : Try.prog.eqGuardType Try.prog.depth 38 = false) (h4 : ((l1.length : Int) != (l2.length : Int)) = true) (hD : D = false) :
    Calls Try.prog 24 #[.agg #[.bool s1, .int .u32 c1, .int .u32 i1.sec, .int .u32 i1.frac, .int .u32 i1.stamp, .int .u32 i1.pkts, .int .u32 i1.octs, .slice o1 l1.length k1], .agg #[.bool s1, .int .u32 c1, .int .u32 i1.sec, .int .u32 i1.frac, .int .u32 i1.stamp, .int .u32 i1.pkts, .int .u32 i1.octs, .slice o2 l2.length k2]] w fun e w' => e = .returned (.bool D) ∧ More w w' := by
  go_enter Try.func24, Try.ntmps24
  go_wp2
  go_ret
  exact ⟨by subst hD; rfl, m0⟩
set_option maxHeartbeats 2000000 in
theorem Same08_e {w : World} (s1 : Bool) (c1 : Int) (i1 : Inf) (l1 : List Blk) (o1 : Option Addr) (k1 : Nat) (l2 : List Blk) (o2 : Option Addr) (k2 : Nat) (D : Bool) (m0 : More w ((w.alloc (.cells #[.bool s1, .int .u32 c1, .int .u32 i1.sec, .int .u32 i1.frac, .int .u32 i1.stamp, .int .u32 i1.pkts, .int .u32 i1.octs, .slice o1 l1.length k1] 41)).alloc (.cells #[.bool s1, .int .u32 c1, .int .u32 i1.sec, .int .u32 i1.frac, .int .u32 i1.stamp, .int .u32 i1.pkts, .int .u32 i1.octs, .slice o2 l2.length k2] 41))) (q : ∀ w, (binOp .neq 38 (.agg #[.int .u32 i1.sec, .int .u32 i1.frac, .int .u32 i1.stamp, .int .u32 i1.pkts, .int .u32 i1.octs]) (.agg #[.int .u32 i1.sec, .int .u32 i1.frac, .int .u32 i1.stamp, .int .u32 i1.pkts, .int .u32 i1.octs])).run Try.prog w = .ok (.bool false) w) (EG : Try.prog.eqGuardType Try.prog.depth 38 = false) (h4 : ((l1.length : Int) != (l2.length : Int)) = false) (h5 : l1.length ≤ l2.length) (h6 : l2.length ≤ l1.length) (he1 : ∀ k, k < l1.length → ∃ b off, o1 = some ⟨b, off, none⟩ ∧ b < w.heap.size ∧ BlkAt w b off k (l1.getD k blk0)) (he2 : ∀ k, k < l2.length → ∃ b off, o2 = some ⟨b, off, none⟩ ∧ b < w.heap.size ∧ BlkAt w b off k (l2.getD k blk0)) (hl1 : (l1.length : Int) ≤ 9223372036854775807) (hD1 : l1 = l2 → D = true) (hD2 : ¬ l1 = l2 → D = false) :
    Calls Try.prog 24 #[.agg #[.bool s1, .int .u32 c1, .int .u32 i1.sec, .int .u32 i1.frac, .int .u32 i1.stamp, .int .u32 i1.pkts, .int .u32 i1.octs, .slice o1 l1.length k1], .agg #[.bool s1, .int .u32 c1, .int .u32 i1.sec, .int .u32 i1.frac, .int .u32 i1.stamp, .int .u32 i1.pkts, .int .u32 i1.octs, .slice o2 l2.length k2]] w fun e w' => e = .returned (.bool D) ∧ More w w' := by
  have hm8 := Lib.hid m0
  have K1 : ((w.alloc (.cells #[.bool s1, .int .u32 c1, .int .u32 i1.sec, .int .u32 i1.frac, .int .u32 i1.stamp, .int .u32 i1.pkts, .int .u32 i1.octs, .slice o1 l1.length k1] 41)).alloc (.cells #[.bool s1, .int .u32 c1, .int .u32 i1.sec, .int .u32 i1.frac, .int .u32 i1.stamp, .int .u32 i1.pkts, .int .u32 i1.octs, .slice o2 l2.length k2] 41)).heap[w.heap.size]? = some (.cells #[.bool s1, .int .u32 c1, .int .u32 i1.sec, .int .u32 i1.frac, .int .u32 i1.stamp, .int .u32 i1.pkts, .int .u32 i1.octs, .slice o1 l1.length k1] 41) := blk_alloc (blk_new w _) _
  have K2 : ((w.alloc (.cells #[.bool s1, .int .u32 c1, .int .u32 i1.sec, .int .u32 i1.frac, .int .u32 i1.stamp, .int .u32 i1.pkts, .int .u32 i1.octs, .slice o1 l1.length k1] 41)).alloc (.cells #[.bool s1, .int .u32 c1, .int .u32 i1.sec, .int .u32 i1.frac, .int .u32 i1.stamp, .int .u32 i1.pkts, .int .u32 i1.octs, .slice o2 l2.length k2] 41)).heap[w.heap.size + 1]? = some (.cells #[.bool s1, .int .u32 c1, .int .u32 i1.sec, .int .u32 i1.frac, .int .u32 i1.stamp, .int .u32 i1.pkts, .int .u32 i1.octs, .slice o2 l2.length k2] 41) := blk_new2 (by simp)
  have HK := Lib.hid (And.intro K1 K2)
  clear K1 K2 m0
  go_enter Try.func24, Try.ntmps24
  go_wp2
  go_loopw [5] (fun ix wr => ∃ j : Nat, j ≤ l1.length ∧ ix = .int .i64 j ∧ l1.take j = l2.take j ∧ More ((w.alloc (.cells #[.bool s1, .int .u32 c1, .int .u32 i1.sec, .int .u32 i1.frac, .int .u32 i1.stamp, .int .u32 i1.pkts, .int .u32 i1.octs, .slice o1 l1.length k1] 41)).alloc (.cells #[.bool s1, .int .u32 c1, .int .u32 i1.sec, .int .u32 i1.frac, .int .u32 i1.stamp, .int .u32 i1.pkts, .int .u32 i1.octs, .slice o2 l2.length k2] 41)) wr) (fun ix _ => l1.length - (intOf ix).toNat)
  case atStart => exact ⟨0, by omega, rfl, by simp, More.refl _⟩
  case round =>
    obtain ⟨j, hj, rfl, hpre, hmr⟩ := hrel
    have HP := Lib.hid hpre
    clear hpre
    have hmw := hm8.out.trans hmr
    have d1 := blk_cell (blk_more hmr HK.out.1) 7 (v := .slice o1 l1.length k1) rfl
    have d2 := blk_cell (blk_more hmr HK.out.2) 7 (v := .slice o2 l2.length k2) rfl
    by_cases hlt : j < l1.length
    · have hlt2 : j < l2.length := by omega
      obtain ⟨b1, off1, rfl, hb1, ht1⟩ := he1 j hlt
      obtain ⟨b2, off2, rfl, hb2, ht2⟩ := he2 j hlt2
      have hjl : (j : Int) < (l1.length : Int) := by omega
      have hjl2 : (j : Int) < (l2.length : Int) := by omega
      have hj0 : (0 : Int) ≤ (j : Int) := by omega
      have hm1 := ht1.more hmw hb1
      have hm2 := ht2.more hmw hb2
      have hb1r : b1 < wr.heap.size := Nat.lt_of_lt_of_le hb1 hmw.size
      have hb2r : b2 < wr.heap.size := Nat.lt_of_lt_of_le hb2 hmw.size
      have HT := Lib.hid (fun h => take_sameB l1 l2 j hlt hlt2 HP.out h)
      have HD : Hid (l1 = l2 → l1.getD j blk0 = l2.getD j blk0) := Lib.hid (fun e => by rw [e])
      clear he1 he2 ht1 ht2
      generalize l1.getD j blk0 = x at *
      generalize l2.getD j blk0 = y at *
      have q8 := fun w => blk_ne' x y w
      have EB := blk_guard'
      have D1 : ∀ z : Later wr, z.w'.cell? ⟨w.heap.size, 7, none⟩ = some (.slice (some ⟨b1, off1, none⟩) l1.length k1) := fun z => blk_cell (blk_more (hmr.trans z.h) HK.out.1) 7 rfl
      have D2 : ∀ z : Later wr, z.w'.cell? ⟨w.heap.size + 1, 7, none⟩ = some (.slice (some ⟨b2, off2, none⟩) l2.length k2) := fun z => blk_cell (blk_more (hmr.trans z.h) HK.out.2) 7 rfl
      have C10 : ∀ z : Later wr, z.w'.cell? ⟨b1, off1 + j * 7, none⟩ = some (.int .u32 x.src) := fun z => z.cell hb1r hm1.c0
      have C11 : ∀ z : Later wr, z.w'.cell? ⟨b1, off1 + j * 7 + 1, none⟩ = some (.int .u8 x.part) := fun z => z.cell hb1r hm1.c1
      have C12 : ∀ z : Later wr, z.w'.cell? ⟨b1, off1 + j * 7 + 2, none⟩ = some (.int .i32 x.miss) := fun z => z.cell hb1r hm1.c2
      have C13 : ∀ z : Later wr, z.w'.cell? ⟨b1, off1 + j * 7 + 3, none⟩ = some (.int .u32 x.high) := fun z => z.cell hb1r hm1.c3
      have C14 : ∀ z : Later wr, z.w'.cell? ⟨b1, off1 + j * 7 + 4, none⟩ = some (.int .u32 x.jit) := fun z => z.cell hb1r hm1.c4
      have C15 : ∀ z : Later wr, z.w'.cell? ⟨b1, off1 + j * 7 + 5, none⟩ = some (.int .u32 x.last) := fun z => z.cell hb1r hm1.c5
      have C16 : ∀ z : Later wr, z.w'.cell? ⟨b1, off1 + j * 7 + 6, none⟩ = some (.int .u32 x.dly) := fun z => z.cell hb1r hm1.c6
      have C20 : ∀ z : Later wr, z.w'.cell? ⟨b2, off2 + j * 7, none⟩ = some (.int .u32 y.src) := fun z => z.cell hb2r hm2.c0
      have C21 : ∀ z : Later wr, z.w'.cell? ⟨b2, off2 + j * 7 + 1, none⟩ = some (.int .u8 y.part) := fun z => z.cell hb2r hm2.c1
      have C22 : ∀ z : Later wr, z.w'.cell? ⟨b2, off2 + j * 7 + 2, none⟩ = some (.int .i32 y.miss) := fun z => z.cell hb2r hm2.c2
      have C23 : ∀ z : Later wr, z.w'.cell? ⟨b2, off2 + j * 7 + 3, none⟩ = some (.int .u32 y.high) := fun z => z.cell hb2r hm2.c3
      have C24 : ∀ z : Later wr, z.w'.cell? ⟨b2, off2 + j * 7 + 4, none⟩ = some (.int .u32 y.jit) := fun z => z.cell hb2r hm2.c4
      have C25 : ∀ z : Later wr, z.w'.cell? ⟨b2, off2 + j * 7 + 5, none⟩ = some (.int .u32 y.last) := fun z => z.cell hb2r hm2.c5
      have C26 : ∀ z : Later wr, z.w'.cell? ⟨b2, off2 + j * 7 + 6, none⟩ = some (.int .u32 y.dly) := fun z => z.cell hb2r hm2.c6
      clear hm1 hm2
      obtain ⟨q, hq⟩ : ∃ q, decide (x = y) = q := ⟨_, rfl⟩
      rw [hq] at q8
      have HQ := Lib.hid hq
      clear hq
      go_wp2_with fail
      refine wp_region_later _ (More.refl _) (by kernel_rfl) (by kernel_rfl) ?_
      repeat (go_big_quiet_step (fail))
      refine wpQuiet_nil ?_
      intro _ hw'
      obtain ⟨x9, rfl⟩ := hw'
      cases q with
      | true =>
        go_wp2
        go_roundw
        case rel => exact ⟨j + 1, by omega, by go_num, HT.out (of_decide_eq_true HQ.out), hmr.trans x9.h⟩
        case measure => simp [intOf]; omega
      | false =>
        have hne : D = false := hD2 (fun e => of_decide_eq_false HQ.out (HD.out e))
        have HN := Lib.hid hne
        clear hne
        go_wp2
        go_ret
        exact ⟨by rw [HN.out]; rfl, hmw.trans x9.h⟩
    · obtain rfl : j = l1.length := by omega
      have he : l1 = l2 := by
        have := HP.out
        rwa [List.take_length, List.take_of_length_le (by omega)] at this
      have HE := Lib.hid (hD1 he)
      clear he he1 he2
      go_wp2
      go_ret
      exact ⟨by rw [HE.out]; rfl, hmw⟩
theorem Same08_any {w : World} {va vb : Value} (r s : Rep) (sr : SlP 7 RBlk w va r.bl) (ss : SlP 7 RBlk w vb s.bl) :
    Calls Try.prog 24 #[.agg #[.bool r.snd, .int .u32 r.src, .int .u32 r.inf.sec, .int .u32 r.inf.frac, .int .u32 r.inf.stamp, .int .u32 r.inf.pkts, .int .u32 r.inf.octs, va], .agg #[.bool s.snd, .int .u32 s.src, .int .u32 s.inf.sec, .int .u32 s.inf.frac, .int .u32 s.inf.stamp, .int .u32 s.inf.pkts, .int .u32 s.inf.octs, vb]] w fun e w' => e = .returned (.bool (decide (r = s))) ∧ More w w' := by
  obtain ⟨s1, c1, i1, l1⟩ := r
  obtain ⟨s2, c2, i2, l2⟩ := s
  simp only at *
  obtain ⟨o1, k1, rfl, hl1, he1⟩ := blks sr
  obtain ⟨o2, k2, rfl, hl2, he2⟩ := blks ss
  clear sr ss
  have m0 : ∀ x y, More w ((w.alloc x).alloc y) := fun x y => (More.alloc _ _).al _
  by_cases h1 : s1 = s2
  · subst h1
    by_cases h2 : c1 = c2
    · subst h2
      by_cases h3 : i1 = i2
      · subst h3
        have q := fun w => inf_ne' i1 i1 w
        simp only [decide_true, Bool.not_true] at q
        by_cases h5 : l1.length = l2.length
        · exact Same08_e s1 c1 i1 l1 o1 k1 l2 o2 k2 _ (m0 _ _) q inf_guard' (by simp [h5]) (by omega) (by omega) he1 he2 hl1 (fun e => by rw [e]; simp) (fun e => rep_ne (Or.inr (Or.inr (Or.inr e))))
        · exact Same08_d s1 c1 i1 l1 o1 k1 l2 o2 k2 _ (m0 _ _) q inf_guard' (by simp; omega) (rep_ne (Or.inr (Or.inr (Or.inr fun e => h5 (by simp only at e; rw [e])))))
      · have q := fun w => inf_ne' i1 i2 w
        simp only [decide_eq_false h3, Bool.not_false] at q
        exact Same08_c s1 c1 i1 l1 o1 k1 i2 l2 o2 k2 _ (m0 _ _) q inf_guard' (rep_ne (Or.inr (Or.inr (Or.inl h3))))
    · exact Same08_b s1 c1 i1 l1 o1 k1 c2 i2 l2 o2 k2 _ (m0 _ _) (by simpa using h2) (rep_ne (Or.inr (Or.inl h2)))
  · exact Same08_a s1 c1 i1 l1 o1 k1 s2 c2 i2 l2 o2 k2 _ (m0 _ _) (by simpa using h1) (rep_ne (Or.inl h1))
end Go.Proofs.Ytlnikmcimmnbmaa
