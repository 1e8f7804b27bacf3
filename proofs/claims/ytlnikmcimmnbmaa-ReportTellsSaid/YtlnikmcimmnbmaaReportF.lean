/- Reports in the laws of layer 8: own, the document's Same, same. -/
import Derived.Test.YtlnikmcimmnbmaaReportE
namespace Go.Proofs.Ytlnikmcimmnbmaa
set_option linter.unusedSimpArgs false
set_option linter.unusedVariables false
open Go.RowKit
set_option maxRecDepth 100000

/-- A report that is being built, and its blocks. -/
structure OwJ (w0 w : World) (B3 : Nat) (o2 : Obj) (xs : List Value) (v : Value) (bl : List Blk) : Prop where
  b2 : w.heap[w0.heap.size + 1]? = some o2
  b3 : w.heap[B3]? = some (.cells (xs ++ [v]).toArray 41 (0, 0))
  row : RowP 7 RBlk (fun b => b = B3) w (B3 + 1) 143 v bl
  more : More w0 w
  h : w0.heap.size + 1 < B3
theorem OwJ.on {w0 w w' : World} {B3 : Nat} {o2 : Obj} {xs : List Value} {v : Value} {bl : List Blk} (h : OwJ w0 w B3 o2 xs v bl) (m : More w w') : OwJ w0 w' B3 o2 xs v bl :=
  ⟨blk_more m h.b2, blk_more m h.b3, h.row.on m, h.more.trans m, h.h⟩
theorem OwJ.put {w0 w w' : World} {B3 : Nat} {o2 : Obj} {xs : List Value} {v v' : Value} {bl bl' : List Blk} (h : OwJ w0 w B3 o2 xs v bl) (hl : xs.length = 7)
    (ho : RowP 7 RBlk (fun b => b = B3) w' (B3 + 1) 143 v' bl') (hg : w.grownBy w' v.ownBlock) : OwJ w0 (w'.setCell ⟨B3, 7, none⟩ v') B3 o2 xs v' bl' := by
  have h1 := h.h
  have hv : ∀ g, v.ownBlock = some g → B3 + 1 ≤ g := fun g e => h.row.ge e
  have a : Away (fun b => v.ownBlock = some b) w w' := ⟨hg.os, hg.tape, hg.output, hg.size, fun k hk hs => hg.block k hk (fun e => hs e.symm)⟩
  have a5 : Away (fun b => b = B3) w' (w'.setCell ⟨B3, 7, none⟩ v') := (Away.refl (fun b => b = B3) w').set (p := ⟨B3, 7, none⟩) rfl v'
  have hm : More w0 w' := Away.to_more h.more a (fun k e => by have := hv k e; omega)
  refine ⟨a5.blk (a.blk h.b2 (fun e => by have := hv _ e; omega)) (by omega), blk_eq (blk_set (a.blk h.b3 (fun e => by have := hv _ e; omega)) 7 v') ?_, ho.step a5, hm.st (by show w0.heap.size ≤ B3; omega) v', h1⟩
  match xs, hl with
  | [x0, x1, x2, x3, x4, x5, x6], _ => rfl
set_option maxHeartbeats 2000000 in
theorem own08 {w : World} {vb : Value} (r : Rep) (sl : SlP 7 RBlk w vb r.bl) (hn : r.bl.length ≤ 100000) :
    Calls Try.prog 18 #[.agg #[.bool r.snd, .int .u32 r.src, .int .u32 r.inf.sec, .int .u32 r.inf.frac, .int .u32 r.inf.stamp, .int .u32 r.inf.pkts, .int .u32 r.inf.octs, vb]] w fun e w' => (∃ v', e = .returned (.agg #[.bool r.snd, .int .u32 r.src, .int .u32 r.inf.sec, .int .u32 r.inf.frac, .int .u32 r.inf.stamp, .int .u32 r.inf.pkts, .int .u32 r.inf.octs, v']) ∧ SlP 7 RBlk w' v' r.bl) ∧ More w w' := by
  obtain ⟨j0, hi, hz0, hz1, hz2⟩ := info_parts (P := Try.prog) (e := 143) (z := .agg #[.int .u32 0, .int .u8 0, .int .i32 0, .int .u32 0, .int .u32 0, .int .u32 0, .int .u32 0]) (size := 7) (bytes := 28) (by kernel_rfl)
  obtain ⟨s, src, i, bl⟩ := r
  simp only at *
  obtain ⟨oa, cap, rfl, hl63, hel⟩ := blks sl
  clear sl
  have J0 : OwJ w (((w.alloc (.cells #[.bool s, .int .u32 src, .int .u32 i.sec, .int .u32 i.frac, .int .u32 i.stamp, .int .u32 i.pkts, .int .u32 i.octs, .slice oa bl.length cap] 27)).alloc (.cells #[.bool false, .int .u32 0, .int .u32 0, .int .u32 0, .int .u32 0, .int .u32 0, .int .u32 0, .slice none 0 0] 41)).alloc (.cells #[.bool s, .int .u32 src, .int .u32 i.sec, .int .u32 i.frac, .int .u32 i.stamp, .int .u32 i.pkts, .int .u32 i.octs, .slice none 0 0] 41)) (w.heap.size + 2) (.cells #[.bool false, .int .u32 0, .int .u32 0, .int .u32 0, .int .u32 0, .int .u32 0, .int .u32 0, .slice none 0 0] 41) [.bool s, .int .u32 src, .int .u32 i.sec, .int .u32 i.frac, .int .u32 i.stamp, .int .u32 i.pkts, .int .u32 i.octs] (.slice none 0 0) [] :=
    ⟨blk_alloc (blk_new2 (by simp)) _, blk_new2 (by simp), RowP.nil _ _ _ _ _ _, ((More.alloc _ _).al _).al _, by omega⟩
  have HJ0 := Lib.hid J0
  clear J0
  go_enter Try.func18, Try.ntmps18
  go_wp2
  obtain ⟨B3, hB3⟩ : ∃ B3, B3 = w.heap.size + 2 := ⟨_, rfl⟩
  have e2 : w.heap.size + 1 + 1 = B3 := by omega
  rw [← hB3] at HJ0
  rw [e2]
  have HB3 := Lib.hid hB3
  clear hB3 e2
  go_loopw [16] (fun ix wr => ∃ j : Nat, j ≤ bl.length ∧ ix = .int .i64 j ∧ (∃ v, OwJ w wr B3 (.cells #[.bool false, .int .u32 0, .int .u32 0, .int .u32 0, .int .u32 0, .int .u32 0, .int .u32 0, .slice none 0 0] 41) [.bool s, .int .u32 src, .int .u32 i.sec, .int .u32 i.frac, .int .u32 i.stamp, .int .u32 i.pkts, .int .u32 i.octs] v (bl.take j))) (fun ix _ => bl.length - (intOf ix).toNat)
  case atStart => exact ⟨0, by omega, rfl, ⟨_, HJ0.out⟩⟩
  case round =>
    obtain ⟨j, hj, rfl, ⟨v, hJ⟩⟩ := hrel
    have HJ := Lib.hid hJ
    clear hJ
    by_cases hlt : j < bl.length
    · obtain ⟨b, off, rfl, hb, ht⟩ := hel j hlt
      obtain ⟨c0, c1, c2, c3, c4, c5, c6, hok⟩ := ht.more HJ.out.more hb
      have hjl : (j : Int) < (bl.length : Int) := by omega
      have hbw : b < wr.heap.size := Nat.lt_of_lt_of_le hb HJ.out.more.size
      have HS := Lib.hid (getD_snoc bl j blk0 hlt)
      have hlen : (bl.take j).length = j := by simp; omega
      clear hel ht
      generalize bl.take j = acc at *
      generalize bl.getD j blk0 = c at *
      have HL := Lib.hid hlen
      clear hlen
      have J2 := Lib.hid ((HJ.out.on (More.alloc wr (.cells #[.int .u32 c.src, .int .u8 c.part, .int .i32 c.miss, .int .u32 c.high, .int .u32 c.jit, .int .u32 c.last, .int .u32 c.dly] 134))).on (More.alloc _ (.cells #[.int .u32 c.src, .int .u8 c.part, .int .i32 c.miss, .int .u32 c.high, .int .u32 c.jit, .int .u32 c.last, .int .u32 c.dly] 143)))
      have p7 := blk_cell (blk_more (More.alloc wr (.cells #[.int .u32 c.src, .int .u8 c.part, .int .i32 c.miss, .int .u32 c.high, .int .u32 c.jit, .int .u32 c.last, .int .u32 c.dly] 134)) HJ.out.b3) 7 (v := v) rfl
      go_wp2_with (at_builtin; refine wpList_append_row _ rfl (.tmp 21) (.tmp 23) 39 rfl (B3 + 1) 143 j0 (.agg #[.int .u32 0, .int .u8 0, .int .i32 0, .int .u32 0, .int .u32 0, .int .u32 0, .int .u32 0]) 7 28 Try.underlying39 hi hz0 hz1 hz2 rfl (by decide) v acc rfl J2.out.row (wr.heap.size + 1) c.cells c rfl rfl (new_cells (by simp)) (by simp [Blk.cells, Value.oneCell']) (fun _ _ => ⟨rfl, hok⟩) (fun b hb => by have e : b = B3 := hb; have := blk_lt J2.out.b3; omega) (by decide) (by have := HL.out; omega) (blk_lt J2.out.b3) ?_; intro v10 w10 ho10 hg10 hb10; have J10 := Lib.hid (J2.out.put (by rfl) ho10 hg10); have b3w : w10.heap[B3]? = _ := (hg10.block B3 (blk_lt J2.out.b3) (fun e => by have := J2.out.row.ge e.symm; omega)).trans J2.out.b3; have q7 := blk_cell b3w 7 (v := v) rfl; have z7 := blk_free b3w 7; obtain ⟨o10, n10, c10, rfl, hz8, hz9⟩ := ho10.shape; clear hz8 hz9 ho10 hg10 hb10 b3w)
      go_roundw
      case rel => exact ⟨j + 1, by omega, by go_num, ⟨_, by rw [HS.out]; exact J10.out⟩⟩
      case measure => simp [intOf]; omega
    · obtain rfl : j = bl.length := by omega
      rw [List.take_length] at HJ
      have hJ := HJ.out
      obtain ⟨ov, nv, cv, rfl, hz8, hz9⟩ := hJ.row.shape
      clear hz8 hz9 hel
      have SV := Lib.hid (hJ.row.sl (by decide))
      have GV : Hid (∀ b, (Value.slice ov nv cv).ownBlock = some b → ¬ b = w.heap.size + 1) := Lib.hid (fun b hb e => by have := hJ.row.ge hb; have := hJ.h; omega)
      have MV := Lib.hid hJ.more
      have p0 := blk_cell hJ.b3 0 (v := .bool s) rfl
      have p1 := blk_cell hJ.b3 1 (v := .int .u32 src) rfl
      have p2 := blk_cell hJ.b3 2 (v := .int .u32 i.sec) rfl
      have p3 := blk_cell hJ.b3 3 (v := .int .u32 i.frac) rfl
      have p4 := blk_cell hJ.b3 4 (v := .int .u32 i.stamp) rfl
      have p5 := blk_cell hJ.b3 5 (v := .int .u32 i.pkts) rfl
      have p6 := blk_cell hJ.b3 6 (v := .int .u32 i.octs) rfl
      have p7 := blk_cell hJ.b3 7 (v := .slice ov nv cv) rfl
      have g0 := blk_cell hJ.b2 0 (v := .bool false) rfl
      have z0 := blk_free hJ.b2 0
      have g1 := blk_cell hJ.b2 1 (v := .int .u32 0) rfl
      have z1 := blk_free hJ.b2 1
      have g2 := blk_cell hJ.b2 2 (v := .int .u32 0) rfl
      have z2 := blk_free hJ.b2 2
      have g3 := blk_cell hJ.b2 3 (v := .int .u32 0) rfl
      have z3 := blk_free hJ.b2 3
      have g4 := blk_cell hJ.b2 4 (v := .int .u32 0) rfl
      have z4 := blk_free hJ.b2 4
      have g5 := blk_cell hJ.b2 5 (v := .int .u32 0) rfl
      have z5 := blk_free hJ.b2 5
      have g6 := blk_cell hJ.b2 6 (v := .int .u32 0) rfl
      have z6 := blk_free hJ.b2 6
      have g7 := blk_cell hJ.b2 7 (v := .slice none 0 0) rfl
      have z7 := blk_free hJ.b2 7
      clear hJ
      go_wp2
      (refine bodyPost_ret (v := .agg #[.bool s, .int .u32 src, .int .u32 i.sec, .int .u32 i.frac, .int .u32 i.stamp, .int .u32 i.pkts, .int .u32 i.octs, .slice ov nv cv]) ?rr1 rfl ?_; (case rr1 => (simp [results, Try.results18, go_sem, g0, g1, g2, g3, g4, g5, g6, g7])))
      exact ⟨⟨_, rfl, slP_off SV.out GV.out ((((((((Away.refl (fun b => b = w.heap.size + 1) _).set rfl _).set rfl _).set rfl _).set rfl _).set rfl _).set rfl _).set rfl _ |>.set rfl _)⟩, ((((((((MV.out.st (by simp) _).st (by simp) _).st (by simp) _).st (by simp) _).st (by simp) _).st (by simp) _).st (by simp) _).st (by simp) _)⟩
theorem same08 {w : World} {va vb : Value} (c d : Chunk) (sa : SlI .u8 w va c.2.2.1) (sb : SlI .u8 w vb d.2.2.1) (hc : ChunkOK c) (hd : ChunkOK d) :
    Calls Try.prog 23 #[.agg #[.int .u8 c.1, .int .u8 c.2.1, va], .agg #[.int .u8 d.1, .int .u8 d.2.1, vb]] w fun e w' => e = .returned (.bool (decide (c = d))) ∧ More w w' := by
  have SA := Lib.hid sa
  have SB := Lib.hid sb
  have e1 : decide ([c] = [d]) = decide (c = d) := by simp
  have HE := Lib.hid e1
  obtain ⟨oa, ca, rfl, _⟩ := sa
  obtain ⟨ob, cb, rfl, _⟩ := sb
  clear e1
  go_enter Try.func23, Try.ntmps23
  go_wp2_with (go_at_call 70; refine (Same07_any [c] [d] _ _ _ ((SlP.one (n := 3) (R := RChunk) (y := c) (cs := #[.int .u8 c.1, .int .u8 c.2.1, .slice oa c.2.2.1.length ca]) (t := 35) (B := w.heap.size + 2) (w := ((w.alloc (.cells #[.int .u8 c.1, .int .u8 c.2.1, .slice oa c.2.2.1.length ca] 30)).alloc (.cells #[.int .u8 d.1, .int .u8 d.2.1, .slice ob d.2.2.1.length cb] 35))) rfl (by decide) (by simp) (chunk_mk (SA.out.keep (by repeat (first | exact More.refl _ | assumption | refine More.dr ?_ _ | refine More.al ?_ _ | refine More.st ?_ (by simp) _))) hc)).keep keepsChunk (More.alloc _ _)) (SlP.one (n := 3) (R := RChunk) (y := d) (cs := #[.int .u8 d.1, .int .u8 d.2.1, .slice ob d.2.2.1.length cb]) (t := 35) (B := w.heap.size + 3) rfl (by decide) (by simp) (chunk_mk (SB.out.keep (by repeat (first | exact More.refl _ | assumption | refine More.dr ?_ _ | refine More.al ?_ _ | refine More.st ?_ (by simp) _))) hd))).mono ?_; rintro e w1 ⟨rfl, hm1⟩)
  go_ret
  exact ⟨by rw [← HE.out]; rfl, (show More w _ from (by repeat (first | exact More.refl _ | assumption | refine More.dr ?_ _ | refine More.al ?_ _ | refine More.st ?_ (by simp) _))).trans hm1⟩
end Go.Proofs.Ytlnikmcimmnbmaa
