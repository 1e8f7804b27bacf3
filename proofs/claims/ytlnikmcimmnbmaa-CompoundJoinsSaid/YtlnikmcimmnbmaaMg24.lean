/- Merged from my texts ReportW. -/
import Derived.Test.YtlnikmcimmnbmaaMg21
import Derived.Test.YtlnikmcimmnbmaaMg18
/- Reports: the document's Write, where it writes. -/
namespace Go.Proofs.Ytlnikmcimmnbmaa
set_option linter.unusedSimpArgs false
set_option linter.unusedVariables false
open Go.RowKit
set_option maxRecDepth 100000

theorem ownsm {w : World} {base e : Nat} {v : Value} {xs : List Value} {n : Nat} (h : w.ownsRow base e 1 v n xs) : (n : Int) ≤ 9223372036854775807 := by
  rcases h.2 with ⟨_, h0⟩ | ⟨g, cap, cur, _, _, _, hn, hm, _⟩
  · omega
  · unfold maxLen at hm; omega
theorem RBytes_3 (n : Int) (hn : U64 n) (w : World) :
    Calls Try.prog 76 #[.int .u64 n, .int .i64 3] w fun e w' => ∃ v, e = .returned v ∧ SlI .u8 w' v (bys n 3) ∧ More w w' := RBytes_yes n 3 hn (by decide) w
theorem litn {x : World} {n : Nat} (l : List Int) (cs : Array Value) (N : Nat) (hcs : cs = (l.map (Value.int .u32)).toArray) (hn : n = x.heap.size) (hN : N = l.length) (hl : l.length ≤ 1000) : SlI .u32 (x.alloc (.cells cs 22)) (.slice (some ⟨n, 0, none⟩) N N) l :=
  SlI.lit .u32 x l 22 cs N n hcs hN hn hl
set_option maxHeartbeats 8000000 in
theorem RWrite08_yes {w : World} (s : Bool) (src : Int) (i : Inf) (bl : List Blk) (oa : Option Addr) (cap : Nat) (sl : SlP 7 RBlk w (.slice oa bl.length cap) bl) (ty : Int) (HTY : Hid (ty = if s then 200 else 201)) (ok : RepOK ⟨s, src, i, bl⟩) (hr : rightR ⟨s, src, i, bl⟩ = true) :
    Calls Try.prog 17 #[.agg #[.bool s, .int .u32 src, .int .u32 i.sec, .int .u32 i.frac, .int .u32 i.stamp, .int .u32 i.pkts, .int .u32 i.octs, .slice oa bl.length cap]] w fun e w' => ∃ v, e = .returned (.tuple #[.agg #[.int .u8 (bl.length : Int), .int .u8 ty, v], .int .i64 0]) ∧ SlI .u8 w' v (repB ⟨s, src, i, bl⟩) ∧ More w w' := by
  obtain ⟨i0, hi, hz0, hz1, hz2⟩ := info_parts (P := Try.prog) (e := 5) (z := .int .u8 0) (size := 1) (bytes := 1) (by kernel_rfl)
  have HRR := Lib.hid hr
  have HRT := Lib.hid (RRight08_any (w := (w.alloc (.cells #[.bool s, .int .u32 src, .int .u32 i.sec, .int .u32 i.frac, .int .u32 i.stamp, .int .u32 i.pkts, .int .u32 i.octs, .slice oa bl.length cap] 41)).alloc (.cells #[.int .u8 0, .int .u8 0, .slice none 0 0] 35)) ⟨s, src, i, bl⟩ (sl.keep keepsBlk ((More.alloc _ _).al _)))
  have A0 := Lib.hid (blk_alloc (blk_new w (.cells #[.bool s, .int .u32 src, .int .u32 i.sec, .int .u32 i.frac, .int .u32 i.stamp, .int .u32 i.pkts, .int .u32 i.octs, .slice oa bl.length cap] 41)) (.cells #[.int .u8 0, .int .u8 0, .slice none 0 0] 35))
  have B0 := Lib.hid (blk_new2 (w := w.alloc (.cells #[.bool s, .int .u32 src, .int .u32 i.sec, .int .u32 i.frac, .int .u32 i.stamp, .int .u32 i.pkts, .int .u32 i.octs, .slice oa bl.length cap] 41)) (n := w.heap.size + 1) (o := (.cells #[.int .u8 0, .int .u8 0, .slice none 0 0] 35)) (by simp))
  have SLH := Lib.hid sl
  have OKH := Lib.hid ok
  obtain ⟨hsf, hms, hln⟩ := (rightR_iff _).1 hr
  have hl8 : bl.length ≤ 8 := by
    revert hln
    show bl.length ≤ (if s then 7 else 8) → _
    cases s <;> simp <;> omega
  have HMS := Lib.hid hms
  have hw8 : IntKind.u8.wrap (bl.length : Int) = (bl.length : Int) := IntWalk.u8_in _ (by omega)
  have usrc := ok.src
  obtain ⟨us0, us1⟩ := usrc
  have USRC := Lib.hid ok.src
  have I0 := Lib.hid ok.inf.sec
  have I1 := Lib.hid ok.inf.frac
  have I2 := Lib.hid ok.inf.stamp
  have I3 := Lib.hid ok.inf.pkts
  have I4 := Lib.hid ok.inf.octs
  clear hr sl ok hms hln hsf
  go_enter Try.func17, Try.ntmps17
  go_upto_region 3 with (go_at_call 22; ((with_reducible refine (HRT.out).mono ?_); rintro e w2 ⟨rfl, m2⟩; rw [HRR.out]; have A2 := Lib.hid (blk_more m2 A0.out); have B2 := Lib.hid (blk_more m2 B0.out); have M2 := Lib.hid (((More.alloc w (.cells #[.bool s, .int .u32 src, .int .u32 i.sec, .int .u32 i.frac, .int .u32 i.stamp, .int .u32 i.pkts, .int .u32 i.octs, .slice oa bl.length cap] 41)).al (.cells #[.int .u8 0, .int .u8 0, .slice none 0 0] 35)).trans m2); have p1 : ∀ x : Later w2, x.w'.cell? ⟨w.heap.size, 1, none⟩ = some (.int .u32 src) := fun x => blk_cell (blk_more x.h A2.out) 1 rfl; have p7 : ∀ x : Later w2, x.w'.cell? ⟨w.heap.size, 7, none⟩ = some (.slice oa bl.length cap) := fun x => blk_cell (blk_more x.h A2.out) 7 rfl; clear m2))
  have HSZ : Hid (w.heap.size + 1 < w2.heap.size) := Lib.hid (blk_lt B2.out)
  go_cut [4] from 11 (fun s4 wx => ∃ C v, s4 = .pointer (some ⟨C, 0, none⟩) ∧ WtS w wx C [(w.heap.size, (.cells #[.bool s, .int .u32 src, .int .u32 i.sec, .int .u32 i.frac, .int .u32 i.stamp, .int .u32 i.pkts, .int .u32 i.octs, .slice oa bl.length cap] 41)), (w.heap.size + 1, (.cells #[.int .u8 0, .int .u8 0, .slice none 0 0] 35))] bl.length 201 v (numsB [src]))
  case first =>
    refine wp_region_trL w2 10 (.op 0 false (.op 1 false (.op 2 false (.op 3 false (.op 4 false (.op 5 false (.br [6, 9] fun k => if k = 6 then .br [7, 9] fun k => if k = 7 then .op 8 false (.op 9 true (.op 10 true (.done))) else .op 7 true (.op 8 false (.op 10 true (.done))) else .op 6 true (.op 7 true (.op 8 false (.op 10 true (.done))))))))))) (by kernel_rfl) (by kernel_rfl) ?_
    repeat (first | (refine tr_skip rfl rfl (later_mk (by repeat (first | exact More.refl _ | assumption | refine More.dr ?_ _ | refine More.al ?_ _ | refine More.st ?_ (by simp) _))) ?_) | (refine tr_quiet rfl rfl (later_mk (by repeat (first | exact More.refl _ | assumption | refine More.dr ?_ _ | refine More.al ?_ _ | refine More.st ?_ (by simp) _))) ?_; intro K hK; go_big_quiet_op; go_big_quiet_on))
    have l1 := Lib.hid (lit1 (x := w2.drewN 1) (n := w2.heap.size) src rfl)
    have l2 := Lib.hid (l1.out.keep (More.alloc _ (.cells #[.int .u8 0, .int .u8 0, .slice none 0 0] 35)))
    have l3 := Lib.hid (lit1 (x := (w2.drewN 1).alloc (.cells #[.int .u8 0, .int .u8 0, .slice none 0 0] 35)) (n := w2.heap.size + 1) src (by simp))
    refine tr_two (by decide) ?_ ?_
    · (refine tr_next rfl rfl ?_; intro K hK; unfold loud; go_simp)
      refine ⟨later_mk (by repeat (first | exact More.refl _ | assumption | refine More.dr ?_ _ | refine More.al ?_ _ | refine More.st ?_ (by simp) _)), hK _ _ ?_⟩
      clear hK K
      refine tr_two (by decide) ?_ ?_
      · (refine tr_next rfl rfl ?_; intro K hK; unfold loud; go_simp)
        (with_reducible refine (RNums_any [src] _ _ l1.out (repU USRC.out) (by simp)).mono ?_)
        rintro e w4 ⟨v4, rfl, o4, m4⟩
        have h4 : More w2 w4 := ((More.drewN _ 1).al _).trans m4
        have hv4 : ∀ b, v4.ownBlock = some b → w2.heap.size ≤ b ∧ b < w4.heap.size := fun b hb => ⟨Nat.le_trans ((More.drewN w2 1).al _).size (owns_ge o4 hb), owns_lt o4 hb⟩
        have O4 := Lib.hid o4
        have HV4 := Lib.hid hv4
        obtain ⟨ov, nv, cv, rfl, hnv, -⟩ := slice_of_row o4
        clear o4 hnv m4 hv4
        refine ⟨_, rfl, later_mk h4, hK _ _ ?_⟩
        clear hK K
        refine tr_quiet rfl rfl (later_mk h4) ?_
        intro K hK
        go_big_quiet_op
        refine hK _ ?_
        clear hK K
        (refine tr_next rfl rfl ?_; intro K hK; unfold loud; go_simp)
        refine ⟨later_mk (h4.al _), hK _ _ ?_⟩
        clear hK K
        (refine tr_end rfl rfl (by decide) ?_; intro K hK; unfold loud; go_simp)
        refine hK _ _ ?_
        clear hK K
        refine tr_done ?_
        go_wp2
        go_meet
        exact ⟨_, _, rfl, wts_fresh M2.out A2.out B2.out h4 O4.out HV4.out (Nat.le_trans M2.out.size (by simp))⟩
      · (refine tr_next rfl rfl ?_; intro K hK; unfold loud; go_simp)
        refine ⟨later_mk (by repeat (first | exact More.refl _ | assumption | refine More.dr ?_ _ | refine More.al ?_ _ | refine More.st ?_ (by simp) _)), hK _ _ ?_⟩
        clear hK K
        (refine tr_next rfl rfl ?_; intro K hK; unfold loud; go_simp)
        (with_reducible refine (RNums_any [src] _ _ l2.out (repU USRC.out) (by simp)).mono ?_)
        rintro e w4 ⟨v4, rfl, o4, m4⟩
        have h4 : More w2 w4 := (((More.drewN _ 1).al _).al _).trans m4
        have C4 : w4.heap[w2.heap.size + 1]? = some (.cells #[.int .u8 0, .int .u8 0, .slice none 0 0] 35 (0, 0)) := blk_more m4 (blk_new2 (by simp))
        have hv4 : ∀ b, v4.ownBlock = some b → w2.heap.size + 2 ≤ b := fun b hb => Nat.le_trans (by simp) (owns_ge o4 hb)
        have O4 := Lib.hid o4
        have HV4 := Lib.hid hv4
        have CH := Lib.hid C4
        have q0 := blk_cell C4 0 (v := .int .u8 0) rfl
        have q1 := blk_cell C4 1 (v := .int .u8 0) rfl
        have q2 := blk_cell C4 2 (v := .slice none 0 0) rfl
        have z0 := blk_free C4 0
        have z1 := blk_free C4 1
        have z2 := blk_free C4 2
        obtain ⟨ov, nv, cv, rfl, hnv, -⟩ := slice_of_row o4
        clear o4 hnv m4 hv4 C4
        refine ⟨_, rfl, later_mk h4, hK _ _ ?_⟩
        clear hK K
        refine tr_quiet rfl rfl (later_mk h4) ?_
        intro K hK
        go_big_quiet_op
        refine hK _ ?_
        clear hK K
        (refine tr_end rfl rfl (by decide) ?_; intro K hK; unfold loud; go_simp)
        refine hK _ _ ?_
        clear hK K
        refine tr_done ?_
        go_wp2
        go_meet
        exact ⟨_, _, rfl, wts_new M2.out A2.out B2.out h4 (by omega) CH.out O4.out (fun b hb => ⟨by have := HV4.out b hb; omega, by have := HV4.out b hb; omega⟩) (by have := M2.out.size; simp; omega)⟩
    · (refine tr_next rfl rfl ?_; intro K hK; unfold loud; go_simp)
      refine ⟨later_mk (by repeat (first | exact More.refl _ | assumption | refine More.dr ?_ _ | refine More.al ?_ _ | refine More.st ?_ (by simp) _)), hK _ _ ?_⟩
      clear hK K
      (refine tr_next rfl rfl ?_; intro K hK; unfold loud; go_simp)
      refine ⟨later_mk (by repeat (first | exact More.refl _ | assumption | refine More.dr ?_ _ | refine More.al ?_ _ | refine More.st ?_ (by simp) _)), hK _ _ ?_⟩
      clear hK K
      (refine tr_next rfl rfl ?_; intro K hK; unfold loud; go_simp)
      (with_reducible refine (RNums_any [src] _ _ l3.out (repU USRC.out) (by simp)).mono ?_)
      rintro e w4 ⟨v4, rfl, o4, m4⟩
      have h4 : More w2 w4 := (((More.drewN _ 1).al _).al _).trans m4
      have C4 : w4.heap[w2.heap.size]? = some (.cells #[.int .u8 0, .int .u8 0, .slice none 0 0] 35 (0, 0)) := blk_more m4 (blk_alloc (blk_new2 rfl) _)
      have hv4 : ∀ b, v4.ownBlock = some b → w2.heap.size + 2 ≤ b := fun b hb => Nat.le_trans (by simp) (owns_ge o4 hb)
      have O4 := Lib.hid o4
      have HV4 := Lib.hid hv4
      have CH := Lib.hid C4
      have q0 := blk_cell C4 0 (v := .int .u8 0) rfl
      have q1 := blk_cell C4 1 (v := .int .u8 0) rfl
      have q2 := blk_cell C4 2 (v := .slice none 0 0) rfl
      have z0 := blk_free C4 0
      have z1 := blk_free C4 1
      have z2 := blk_free C4 2
      obtain ⟨ov, nv, cv, rfl, hnv, -⟩ := slice_of_row o4
      clear o4 hnv m4 hv4 C4
      refine ⟨_, rfl, later_mk h4, hK _ _ ?_⟩
      clear hK K
      refine tr_quiet rfl rfl (later_mk h4) ?_
      intro K hK
      go_big_quiet_op
      refine hK _ ?_
      clear hK K
      (refine tr_end rfl rfl (by decide) ?_; intro K hK; unfold loud; go_simp)
      refine hK _ _ ?_
      clear hK K
      refine tr_done ?_
      go_wp2
      go_meet
      exact ⟨_, _, rfl, wts_new M2.out A2.out B2.out h4 (by omega) CH.out O4.out (fun b hb => ⟨by have := HV4.out b hb; omega, by have := HV4.out b hb; omega⟩) (by have := M2.out.size; simp; omega)⟩
  case rest =>
  obtain ⟨C, v, rfl, hwt⟩ := hcut
  obtain ⟨ov, nv, cv, rfl, hnv, -⟩ := slice_of_row hwt.own
  have HW := Lib.hid hwt
  have b0 := blk_cell hwt.k0 0 (v := .bool s) rfl
  have b1 := blk_cell hwt.blk 1 (v := .int .u8 201) rfl
  have b2 := blk_free hwt.blk 1
  clear hwt hnv p1 p7 HRT HRR A0 B0 A2 B2 HSZ M2
  go_upto_if 21 with fail
  go_cut [] from 22 to 43 (fun wx => ∃ v, WtS w wx C [(w.heap.size, (.cells #[.bool s, .int .u32 src, .int .u32 i.sec, .int .u32 i.frac, .int .u32 i.stamp, .int .u32 i.pkts, .int .u32 i.octs, .slice oa bl.length cap] 41)), (w.heap.size + 1, (.cells #[.int .u8 0, .int .u8 0, .slice none 0 0] 35))] bl.length ty v (headB ⟨s, src, i, bl⟩))
  case first =>
    cases s with
    | false =>
      go_wp2
      go_meet
      have e : headB ⟨false, src, i, bl⟩ = numsB [src] := by unfold headB; rw [repU1len]; simp
      have h9 := HW.out
      rw [← e] at h9
      have ht := HTY.out
      simp only [if_true, if_false, Bool.false_eq_true] at ht
      rw [ht]
      exact ⟨_, h9⟩
    | true =>
      have HG := Lib.hid (HW.out.typ 200)
      have HLN : (numsB [src]).length = 4 := by rw [numsB_len]; rfl
      go_wp2_with fail
      generalize wc.setCell ⟨C, 1, none⟩ (.int .u8 200) = wd at *
      clear HW b0 b1 b2
      have Sa := HG.out
      have Ca : ∀ x : LaterS (fun b => (Value.slice ov nv cv).ownBlock = some b) wd, x.w'.cell? ⟨C, 2, none⟩ = some (Value.slice ov nv cv) := fun x => blk_cell (x.h.blk Sa.blk Sa.apart) 2 rfl
      have Fa_0 : ∀ x : LaterS (fun b => (Value.slice ov nv cv).ownBlock = some b) wd, x.w'.cell? ⟨w.heap.size, 2, none⟩ = some (.int .u32 i.sec) := fun x => blk_cell (x.h.blk (Sa.k0) (Sa.ne0)) 2 rfl
      have Fa_1 : ∀ x : LaterS (fun b => (Value.slice ov nv cv).ownBlock = some b) wd, x.w'.cell? ⟨w.heap.size, 3, none⟩ = some (.int .u32 i.frac) := fun x => blk_cell (x.h.blk (Sa.k0) (Sa.ne0)) 3 rfl
      have Fa_2 : ∀ x : LaterS (fun b => (Value.slice ov nv cv).ownBlock = some b) wd, x.w'.cell? ⟨w.heap.size, 4, none⟩ = some (.int .u32 i.stamp) := fun x => blk_cell (x.h.blk (Sa.k0) (Sa.ne0)) 4 rfl
      have Fa_3 : ∀ x : LaterS (fun b => (Value.slice ov nv cv).ownBlock = some b) wd, x.w'.cell? ⟨w.heap.size, 5, none⟩ = some (.int .u32 i.pkts) := fun x => blk_cell (x.h.blk (Sa.k0) (Sa.ne0)) 5 rfl
      have Fa_4 : ∀ x : LaterS (fun b => (Value.slice ov nv cv).ownBlock = some b) wd, x.w'.cell? ⟨w.heap.size, 6, none⟩ = some (.int .u32 i.octs) := fun x => blk_cell (x.h.blk (Sa.k0) (Sa.ne0)) 6 rfl
      clear Sa
      go_wp2_with fail
      refine wp_region_numS (fun b => (Value.slice ov nv cv).ownBlock = some b) wd 21 [(0, false), (1, false), (2, false), (3, false), (4, false), (5, false), (6, false), (7, false), (8, false), (9, false), (10, false), (11, false), (12, false), (13, false), (14, false), (15, false), (16, false), (17, true), (18, true), (19, true), (20, false), (21, true)] (by kernel_rfl) (by kernel_rfl) ?_
      iterate 17 (refine num_quiet rfl rfl (laterS_mk (by repeat (first | exact Away.refl _ _ | assumption | refine Away.drewN ?_ _ | refine Away.set ?_ (by first | rfl | exact Or.inl rfl | exact Or.inr rfl) _))) ?_; intro K hK; go_big_quiet_op; go_big_quiet_on)
      (refine num_next rfl rfl ?_; intro K hK; unfold loud; go_simp)
      have l1a := Lib.hid (litn (x := wd.drewN 1) (n := wd.heap.size) [i.sec, i.frac, i.stamp, i.pkts, i.octs] #[.int .u32 i.sec, .int .u32 i.frac, .int .u32 i.stamp, .int .u32 i.pkts, .int .u32 i.octs] 5 rfl rfl rfl (by simp))
      have a1a : Away (fun b => (Value.slice ov nv cv).ownBlock = some b) wd ((wd.drewN 1).alloc (.cells #[.int .u32 i.sec, .int .u32 i.frac, .int .u32 i.stamp, .int .u32 i.pkts, .int .u32 i.octs] 22)) := Away.of_more ((More.drewN _ 1).al _)
      refine ⟨laterS_mk a1a, hK _ _ ?_⟩
      clear hK K
      (refine num_next rfl rfl ?_; intro K hK; unfold loud; go_simp)
      (with_reducible refine (RNums_any [i.sec, i.frac, i.stamp, i.pkts, i.octs] _ _ l1a.out (repU5 I0.out I1.out I2.out I3.out I4.out) (by simp)).mono ?_)
      rintro e w2a ⟨v2a, rfl, o2a, m2a⟩
      have q2a : More wd w2a := ((More.drewN _ 1).al _).trans m2a
      have SSa := SlI.of_owns o2a (ownsm o2a)
      have a2a : Away (fun b => (Value.slice ov nv cv).ownBlock = some b) wd w2a := Away.of_more q2a
      have J2a := HG.out.on q2a
      refine ⟨_, rfl, laterS_mk a2a, hK _ _ ?_⟩
      clear hK K
      (refine num_next rfl rfl ?_; intro K hK)
      refine loud_append_sl (.tmp 24) (.tmp 41) 28 rfl w.heap.size 5 i0 (.int .u8 0) 1 Try.underlying28 hi hz0 hz1 hz2 rfl (Value.slice ov nv cv) .u8 (numsB [src]) rfl J2a.own v2a (numsB [i.sec, i.frac, i.stamp, i.pkts, i.octs]) rfl SSa (by simp only [numsB_len, bys_length, List.length_append, List.length_cons, List.length_nil]; omega) (by decide) (J2a.more.size) ?_
      intro v3a w3a ho3 hg3 hb3
      have a3a : Away (fun b => (Value.slice ov nv cv).ownBlock = some b) wd w3a := a2a.trans ⟨hg3.os, hg3.tape, hg3.output, hg3.size, fun k hk hs => hg3.block k hk (fun e => hs e.symm)⟩
      have J3a := Lib.hid (J2a.put ho3 hg3 hb3)
      have q3a : w3a.cell? ⟨C, 2, none⟩ = some (Value.slice ov nv cv) := blk_cell (J2a.blk' hg3) 2 rfl
      have z3a : w3a.frozen? ⟨C, 2, none⟩ = false := blk_free (J2a.blk' hg3) 2
      obtain ⟨oa, na, ca, rfl, hna, -⟩ := slice_of_row ho3
      clear ho3 hg3 hb3 J2a hna
      refine ⟨laterS_mk a3a, hK _ _ ?_⟩
      clear hK K
      go_simp
      iterate 1 (refine num_quiet rfl rfl (laterS_mk a3a) ?_; intro K hK; go_big_quiet_op; go_big_quiet_on)
      (refine num_end rfl rfl (by decide) ?_; intro K hK; unfold loud; go_simp)
      refine hK _ _ ?_
      clear hK K q3a z3a a2a q2a m2a SSa a3a Ca Fa_0 Fa_1 Fa_2 Fa_3 Fa_4 a1a o2a l1a 
      refine num_nil ?_
      generalize w3a.setCell ⟨C, 2, none⟩ (.slice oa na ca) = x4a at *
      go_wp2
      go_meet
      have e : headB ⟨true, src, i, bl⟩ = numsB [src] ++ numsB [i.sec, i.frac, i.stamp, i.pkts, i.octs] := by unfold headB infB numsB; simp
      have h9 := J3a.out
      rw [← e] at h9
      have ht := HTY.out
      simp only [if_true, if_false, Bool.false_eq_true] at ht
      rw [ht]
      exact ⟨_, h9⟩
  case rest =>
  clear HW b0 b1 b2
  obtain ⟨v, hwu⟩ := hcut
  have HU := Lib.hid hwu
  clear hwu
  go_wp2_with fail
  go_loopw [5] (fun ix wx => ∃ j : Nat, j ≤ bl.length ∧ ix = .int .i64 j ∧ ∃ v, WtS w wx C [(w.heap.size, (.cells #[.bool s, .int .u32 src, .int .u32 i.sec, .int .u32 i.frac, .int .u32 i.stamp, .int .u32 i.pkts, .int .u32 i.octs, .slice oa bl.length cap] 41)), (w.heap.size + 1, (.cells #[.int .u8 0, .int .u8 0, .slice none 0 0] 35))] bl.length ty v (headB ⟨s, src, i, bl⟩ ++ flR (bl.take j))) (fun ix _ => bl.length - (intOf ix).toNat)
  case atStart => exact ⟨0, by omega, rfl, v, by simpa [flR] using HU.out⟩
  case round =>
    obtain ⟨j, hj, rfl, v, hwt⟩ := hrel
    have HX := Lib.hid hwt
    by_cases hlt : j < bl.length
    · obtain ⟨oa', cap', e', hl63, hel⟩ := blks SLH.out
      cases e'
      obtain ⟨b, off, rfl, hb, ht⟩ := hel j hlt
      obtain ⟨c0, c1, c2, c3, c4, c5, c6, okb⟩ := ht.more hwt.more hb
      have HM := Lib.hid (HMS.out (bl.getD j blk0) (by simp [hlt]))
      have HFL : Hid (headB ⟨s, src, i, bl⟩ ++ flR (bl.take (j + 1)) = (headB ⟨s, src, i, bl⟩ ++ flR (bl.take j)) ++ blkB (bl.getD j blk0)) := Lib.hid (by rw [flR_succ bl j hlt, List.append_assoc])
      have hLL : (headB ⟨s, src, i, bl⟩ ++ flR (bl.take j)).length ≤ 300 := by
        have := headB_len ⟨s, src, i, bl⟩
        rw [List.length_append, flR_len, List.length_take]; omega
      generalize headB ⟨s, src, i, bl⟩ ++ flR (bl.take j) = L at *
      generalize bl.getD j blk0 = t at *
      have f7 := blk_cell hwt.k0 7 (v := .slice (some ⟨b, off, none⟩) bl.length cap) rfl
      have hbw : b < wr.heap.size := Nat.lt_of_lt_of_le hb hwt.more.size
      have hjl : (j : Int) < (bl.length : Int) := by omega
      have hm0 : -8388608 ≤ t.miss ∧ t.miss ≤ 8388607 := (missOK_iff _).1 HM.out
      obtain ⟨hm1, hm2⟩ := hm0
      have HMB : Hid (U64 (t.miss + 16777216)) := Lib.hid ⟨by omega, by omega⟩
      have T0 := Lib.hid okb.src
      have T1 := Lib.hid okb.part
      have T3 := Lib.hid okb.high
      have T4 := Lib.hid okb.jit
      have T5 := Lib.hid okb.last
      have T6 := Lib.hid okb.dly
      have XA := Lib.hid (hwt.add (.cells #[.int .u32 t.src, .int .u8 t.part, .int .i32 t.miss, .int .u32 t.high, .int .u32 t.jit, .int .u32 t.last, .int .u32 t.dly] 143))
      obtain ⟨ov, nv, cv, rfl, hnv, -⟩ := slice_of_row hwt.own
      clear ht hel okb hwt hnv SLH
      go_wp2_with fail
      have HPW : Hid (wr.heap.size < (wr.alloc (.cells #[.int .u32 t.src, .int .u8 t.part, .int .i32 t.miss, .int .u32 t.high, .int .u32 t.jit, .int .u32 t.last, .int .u32 t.dly] 143)).heap.size) := Lib.hid (by simp)
      clear f7 c0 c1 c2 c3 c4 c5 c6
      generalize wr.alloc (.cells #[.int .u32 t.src, .int .u8 t.part, .int .i32 t.miss, .int .u32 t.high, .int .u32 t.jit, .int .u32 t.last, .int .u32 t.dly] 143) = wa at *
      generalize wr.heap.size = P at *
      have Sb := XA.out
      have Cb : ∀ x : LaterS (fun b => (Value.slice ov nv cv).ownBlock = some b) wa, x.w'.cell? ⟨C, 2, none⟩ = some (Value.slice ov nv cv) := fun x => blk_cell (x.h.blk Sb.blk Sb.apart) 2 rfl
      have Fb_0 : ∀ x : LaterS (fun b => (Value.slice ov nv cv).ownBlock = some b) wa, x.w'.cell? ⟨P, 0, none⟩ = some (.int .u32 t.src) := fun x => blk_cell (x.h.blk (Sb.k0) (Sb.ne0)) 0 rfl
      clear Sb
      go_wp2_with fail
      refine wp_region_numS (fun b => (Value.slice ov nv cv).ownBlock = some b) wa 8 [(0, false), (1, false), (2, false), (3, false), (4, true), (5, true), (6, true), (7, false), (8, true)] (by kernel_rfl) (by kernel_rfl) ?_
      iterate 4 (refine num_quiet rfl rfl (laterS_mk (by repeat (first | exact Away.refl _ _ | assumption | refine Away.drewN ?_ _ | refine Away.set ?_ (by first | rfl | exact Or.inl rfl | exact Or.inr rfl) _))) ?_; intro K hK; go_big_quiet_op; go_big_quiet_on)
      (refine num_next rfl rfl ?_; intro K hK; unfold loud; go_simp)
      have l1b := Lib.hid (litn (x := wa.drewN 1) (n := wa.heap.size) [t.src] #[.int .u32 t.src] 1 rfl rfl rfl (by simp))
      have a1b : Away (fun b => (Value.slice ov nv cv).ownBlock = some b) wa ((wa.drewN 1).alloc (.cells #[.int .u32 t.src] 22)) := Away.of_more ((More.drewN _ 1).al _)
      refine ⟨laterS_mk a1b, hK _ _ ?_⟩
      clear hK K
      (refine num_next rfl rfl ?_; intro K hK; unfold loud; go_simp)
      (with_reducible refine (RNums_any [t.src] _ _ l1b.out (repU T0.out) (by simp)).mono ?_)
      rintro e w2b ⟨v2b, rfl, o2b, m2b⟩
      have q2b : More wa w2b := ((More.drewN _ 1).al _).trans m2b
      have SSb := SlI.of_owns o2b (ownsm o2b)
      have a2b : Away (fun b => (Value.slice ov nv cv).ownBlock = some b) wa w2b := Away.of_more q2b
      have J2b := XA.out.on q2b
      refine ⟨_, rfl, laterS_mk a2b, hK _ _ ?_⟩
      clear hK K
      (refine num_next rfl rfl ?_; intro K hK)
      refine loud_append_sl (.tmp 57) (.tmp 61) 28 rfl w.heap.size 5 i0 (.int .u8 0) 1 Try.underlying28 hi hz0 hz1 hz2 rfl (Value.slice ov nv cv) .u8 (L) rfl J2b.own v2b (numsB [t.src]) rfl SSb (by simp only [numsB_len, bys_length, List.length_append, List.length_cons, List.length_nil]; omega) (by decide) (J2b.more.size) ?_
      intro v3b w3b ho3 hg3 hb3
      have a3b : Away (fun b => (Value.slice ov nv cv).ownBlock = some b) wa w3b := a2b.trans ⟨hg3.os, hg3.tape, hg3.output, hg3.size, fun k hk hs => hg3.block k hk (fun e => hs e.symm)⟩
      have J3b := Lib.hid (J2b.put ho3 hg3 hb3)
      have q3b : w3b.cell? ⟨C, 2, none⟩ = some (Value.slice ov nv cv) := blk_cell (J2b.blk' hg3) 2 rfl
      have z3b : w3b.frozen? ⟨C, 2, none⟩ = false := blk_free (J2b.blk' hg3) 2
      obtain ⟨ob, nb, cb, rfl, hnb, -⟩ := slice_of_row ho3
      clear ho3 hg3 hb3 J2b hnb
      refine ⟨laterS_mk a3b, hK _ _ ?_⟩
      clear hK K
      go_simp
      iterate 1 (refine num_quiet rfl rfl (laterS_mk a3b) ?_; intro K hK; go_big_quiet_op; go_big_quiet_on)
      (refine num_end rfl rfl (by decide) ?_; intro K hK; unfold loud; go_simp)
      refine hK _ _ ?_
      clear hK K q3b z3b a2b q2b m2b SSb a3b Cb Fb_0 a1b o2b l1b 
      refine num_nil ?_
      generalize w3b.setCell ⟨C, 2, none⟩ (.slice ob nb cb) = x4b at *
      have d2 := blk_cell J3b.out.blk 2 (v := .slice ob nb cb) rfl
      have z2 := blk_free J3b.out.blk 2
      have dp := blk_cell J3b.out.k0 1 (v := .int .u8 t.part) rfl
      have S12 := Lib.hid (SlI.lit .u8 x4b [t.part] 5 #[.int .u8 t.part] 1 x4b.heap.size rfl rfl rfl (by simp))
      have J12 := Lib.hid (J3b.out.on (More.alloc x4b (.cells #[.int .u8 t.part] 5)))
      go_wp2_with (at_builtin; refine wpList_append_at _ rfl (.tmp 65) (.tmp 68) 28 rfl w.heap.size 5 i0 (.int .u8 0) 1 Try.underlying28 hi hz0 hz1 hz2 rfl _ .u8 (L ++ numsB [t.src]) rfl J12.out.own _ [t.part] rfl S12.out (by simp only [numsB_len, List.length_append, List.length_cons, List.length_nil]; omega) (by decide) J12.out.more.size ?_; intro v5 w5 ho5 hg5 hb5; have J5 := Lib.hid (J12.out.put ho5 hg5 hb5); have e2 := blk_cell (J12.out.blk' hg5) 2 (v := .slice ob nb cb) rfl; have y2 := blk_free (J12.out.blk' hg5) 2; obtain ⟨o5, n5, c5, rfl, hn5, -⟩ := slice_of_row ho5; clear ho5 hg5 hb5 hn5 d2 z2 dp)
      clear e2 y2 J12 S12 J3b
      generalize w5.setCell ⟨C, 2, none⟩ (.slice o5 n5 c5) = x5 at *
      have HW1 : IntKind.i64.wrap (t.miss + 16777216) = t.miss + 16777216 := IntWalk.i64_in _ (by omega)
      have HW2 : IntKind.u64.wrap (t.miss + 16777216) = t.miss + 16777216 := by rw [IntKind.wrap_u64]; omega
      have Sc := J5.out
      have Cc : ∀ x : LaterS (fun b => (Value.slice o5 n5 c5).ownBlock = some b) x5, x.w'.cell? ⟨C, 2, none⟩ = some (Value.slice o5 n5 c5) := fun x => blk_cell (x.h.blk Sc.blk Sc.apart) 2 rfl
      have Fc_0 : ∀ x : LaterS (fun b => (Value.slice o5 n5 c5).ownBlock = some b) x5, x.w'.cell? ⟨P, 2, none⟩ = some (.int .i32 t.miss) := fun x => blk_cell (x.h.blk (Sc.k0) (Sc.ne0)) 2 rfl
      clear Sc
      go_wp2_with fail
      refine wp_region_numS (fun b => (Value.slice o5 n5 c5).ownBlock = some b) x5 10 [(0, false), (1, false), (2, false), (3, false), (4, false), (5, false), (6, false), (7, true), (8, true), (9, false), (10, true)] (by kernel_rfl) (by kernel_rfl) ?_
      iterate 7 (refine num_quiet rfl rfl (laterS_mk (by repeat (first | exact Away.refl _ _ | assumption | refine Away.drewN ?_ _ | refine Away.set ?_ (by first | rfl | exact Or.inl rfl | exact Or.inr rfl) _))) ?_; intro K hK; go_big_quiet_op; go_big_quiet_on)
      (refine num_next rfl rfl ?_; intro K hK; unfold loud; go_simp)
      (with_reducible refine (RBytes_3 (t.miss + 16777216) (HMB.out) _).mono ?_)
      rintro e w2c ⟨v2c, rfl, SSc, m2c⟩
      have q2c : More x5 w2c := (More.drewN _ 1).trans m2c
      have a2c : Away (fun b => (Value.slice o5 n5 c5).ownBlock = some b) x5 w2c := Away.of_more q2c
      have J2c := J5.out.on q2c
      refine ⟨_, rfl, laterS_mk a2c, hK _ _ ?_⟩
      clear hK K
      (refine num_next rfl rfl ?_; intro K hK)
      refine loud_append_sl (.tmp 72) (.tmp 78) 28 rfl w.heap.size 5 i0 (.int .u8 0) 1 Try.underlying28 hi hz0 hz1 hz2 rfl (Value.slice o5 n5 c5) .u8 (L ++ numsB [t.src] ++ [t.part]) rfl J2c.own v2c (bys (t.miss + 16777216) 3) rfl SSc (by simp only [numsB_len, bys_length, List.length_append, List.length_cons, List.length_nil]; omega) (by decide) (J2c.more.size) ?_
      intro v3c w3c ho3 hg3 hb3
      have a3c : Away (fun b => (Value.slice o5 n5 c5).ownBlock = some b) x5 w3c := a2c.trans ⟨hg3.os, hg3.tape, hg3.output, hg3.size, fun k hk hs => hg3.block k hk (fun e => hs e.symm)⟩
      have J3c := Lib.hid (J2c.put ho3 hg3 hb3)
      have q3c : w3c.cell? ⟨C, 2, none⟩ = some (Value.slice o5 n5 c5) := blk_cell (J2c.blk' hg3) 2 rfl
      have z3c : w3c.frozen? ⟨C, 2, none⟩ = false := blk_free (J2c.blk' hg3) 2
      obtain ⟨oc, nc, cc, rfl, hnc, -⟩ := slice_of_row ho3
      clear ho3 hg3 hb3 J2c hnc
      refine ⟨laterS_mk a3c, hK _ _ ?_⟩
      clear hK K
      go_simp
      iterate 1 (refine num_quiet rfl rfl (laterS_mk a3c) ?_; intro K hK; go_big_quiet_op; go_big_quiet_on)
      (refine num_end rfl rfl (by decide) ?_; intro K hK; unfold loud; go_simp)
      refine hK _ _ ?_
      clear hK K q3c z3c a2c q2c m2c SSc a3c Cc Fc_0 
      refine num_nil ?_
      generalize w3c.setCell ⟨C, 2, none⟩ (.slice oc nc cc) = x4c at *
      clear HW1 HW2
      have Sd := J3c.out
      have Cd : ∀ x : LaterS (fun b => (Value.slice oc nc cc).ownBlock = some b) x4c, x.w'.cell? ⟨C, 2, none⟩ = some (Value.slice oc nc cc) := fun x => blk_cell (x.h.blk Sd.blk Sd.apart) 2 rfl
      have Fd_0 : ∀ x : LaterS (fun b => (Value.slice oc nc cc).ownBlock = some b) x4c, x.w'.cell? ⟨P, 3, none⟩ = some (.int .u32 t.high) := fun x => blk_cell (x.h.blk (Sd.k0) (Sd.ne0)) 3 rfl
      have Fd_1 : ∀ x : LaterS (fun b => (Value.slice oc nc cc).ownBlock = some b) x4c, x.w'.cell? ⟨P, 4, none⟩ = some (.int .u32 t.jit) := fun x => blk_cell (x.h.blk (Sd.k0) (Sd.ne0)) 4 rfl
      have Fd_2 : ∀ x : LaterS (fun b => (Value.slice oc nc cc).ownBlock = some b) x4c, x.w'.cell? ⟨P, 5, none⟩ = some (.int .u32 t.last) := fun x => blk_cell (x.h.blk (Sd.k0) (Sd.ne0)) 5 rfl
      have Fd_3 : ∀ x : LaterS (fun b => (Value.slice oc nc cc).ownBlock = some b) x4c, x.w'.cell? ⟨P, 6, none⟩ = some (.int .u32 t.dly) := fun x => blk_cell (x.h.blk (Sd.k0) (Sd.ne0)) 6 rfl
      clear Sd
      go_wp2_with fail
      refine wp_region_numS (fun b => (Value.slice oc nc cc).ownBlock = some b) x4c 14 [(0, false), (1, false), (2, false), (3, false), (4, false), (5, false), (6, false), (7, false), (8, false), (9, false), (10, true), (11, true), (12, true), (13, false), (14, true)] (by kernel_rfl) (by kernel_rfl) ?_
      iterate 10 (refine num_quiet rfl rfl (laterS_mk (by repeat (first | exact Away.refl _ _ | assumption | refine Away.drewN ?_ _ | refine Away.set ?_ (by first | rfl | exact Or.inl rfl | exact Or.inr rfl) _))) ?_; intro K hK; go_big_quiet_op; go_big_quiet_on)
      (refine num_next rfl rfl ?_; intro K hK; unfold loud; go_simp)
      have l1d := Lib.hid (litn (x := x4c.drewN 1) (n := x4c.heap.size) [t.high, t.jit, t.last, t.dly] #[.int .u32 t.high, .int .u32 t.jit, .int .u32 t.last, .int .u32 t.dly] 4 rfl rfl rfl (by simp))
      have a1d : Away (fun b => (Value.slice oc nc cc).ownBlock = some b) x4c ((x4c.drewN 1).alloc (.cells #[.int .u32 t.high, .int .u32 t.jit, .int .u32 t.last, .int .u32 t.dly] 22)) := Away.of_more ((More.drewN _ 1).al _)
      refine ⟨laterS_mk a1d, hK _ _ ?_⟩
      clear hK K
      (refine num_next rfl rfl ?_; intro K hK; unfold loud; go_simp)
      (with_reducible refine (RNums_any [t.high, t.jit, t.last, t.dly] _ _ l1d.out (repU4 T3.out T4.out T5.out T6.out) (by simp)).mono ?_)
      rintro e w2d ⟨v2d, rfl, o2d, m2d⟩
      have q2d : More x4c w2d := ((More.drewN _ 1).al _).trans m2d
      have SSd := SlI.of_owns o2d (ownsm o2d)
      have a2d : Away (fun b => (Value.slice oc nc cc).ownBlock = some b) x4c w2d := Away.of_more q2d
      have J2d := J3c.out.on q2d
      refine ⟨_, rfl, laterS_mk a2d, hK _ _ ?_⟩
      clear hK K
      (refine num_next rfl rfl ?_; intro K hK)
      refine loud_append_sl (.tmp 82) (.tmp 92) 28 rfl w.heap.size 5 i0 (.int .u8 0) 1 Try.underlying28 hi hz0 hz1 hz2 rfl (Value.slice oc nc cc) .u8 (L ++ numsB [t.src] ++ [t.part] ++ bys (t.miss + 16777216) 3) rfl J2d.own v2d (numsB [t.high, t.jit, t.last, t.dly]) rfl SSd (by simp only [numsB_len, bys_length, List.length_append, List.length_cons, List.length_nil]; omega) (by decide) (J2d.more.size) ?_
      intro v3d w3d ho3 hg3 hb3
      have a3d : Away (fun b => (Value.slice oc nc cc).ownBlock = some b) x4c w3d := a2d.trans ⟨hg3.os, hg3.tape, hg3.output, hg3.size, fun k hk hs => hg3.block k hk (fun e => hs e.symm)⟩
      have J3d := Lib.hid (J2d.put ho3 hg3 hb3)
      have q3d : w3d.cell? ⟨C, 2, none⟩ = some (Value.slice oc nc cc) := blk_cell (J2d.blk' hg3) 2 rfl
      have z3d : w3d.frozen? ⟨C, 2, none⟩ = false := blk_free (J2d.blk' hg3) 2
      obtain ⟨od, nd, cd, rfl, hnd, -⟩ := slice_of_row ho3
      clear ho3 hg3 hb3 J2d hnd
      refine ⟨laterS_mk a3d, hK _ _ ?_⟩
      clear hK K
      go_simp
      iterate 1 (refine num_quiet rfl rfl (laterS_mk a3d) ?_; intro K hK; go_big_quiet_op; go_big_quiet_on)
      (refine num_end rfl rfl (by decide) ?_; intro K hK; unfold loud; go_simp)
      refine hK _ _ ?_
      clear hK K q3d z3d a2d q2d m2d SSd a3d Cd Fd_0 Fd_1 Fd_2 Fd_3 a1d o2d l1d 
      refine num_nil ?_
      generalize w3d.setCell ⟨C, 2, none⟩ (.slice od nd cd) = x4d at *
      go_wp2
      go_roundw
      case rel =>
        have h9 := J3d.out.drop
        have e : L ++ numsB [t.src] ++ [t.part] ++ bys (t.miss + 16777216) 3 ++ numsB [t.high, t.jit, t.last, t.dly] = L ++ blkB t := by
          rw [← blkB_nums t T1.out, bysA_pos _ 3 (by decide)]
          simp [List.append_assoc]
        rw [e] at h9
        rw [← HFL.out] at h9
        exact ⟨j + 1, by omega, by go_num, _, h9⟩
      case measure => simp [intOf]; omega
    · obtain rfl : j = bl.length := by omega
      have hZ := HX.out.keep (w.heap.size + 1, (.cells #[.int .u8 0, .int .u8 0, .slice none 0 0] 35)) (by simp)
      have f7 := blk_cell hwt.k0 7 (v := .slice oa bl.length cap) rfl
      obtain ⟨ov, nv, cv, rfl, hnv, -⟩ := slice_of_row hwt.own
      have g0 := blk_cell hwt.blk 0 (v := .int .u8 (bl.length : Int)) rfl
      have g1 := blk_cell hwt.blk 1 (v := .int .u8 ty) rfl
      have g2 := blk_cell hwt.blk 2 (v := .slice ov nv cv) rfl
      have y0 := blk_cell hZ.1 0 (v := .int .u8 0) rfl
      have y1 := blk_cell hZ.1 1 (v := .int .u8 0) rfl
      have y2 := blk_cell hZ.1 2 (v := .slice none 0 0) rfl
      have k0 := blk_free hZ.1 0
      have k1 := blk_free hZ.1 1
      have k2 := blk_free hZ.1 2
      have HZ := Lib.hid hZ
      clear hwt hnv hZ
      go_wp2
      have fin := st3_blk HZ.out.1 (.int .u8 (bl.length : Int)) (.int .u8 ty) (.slice ov nv cv)
      have mf := HX.out.more.st3 (w.heap.size + 1) (by omega) (.int .u8 (bl.length : Int)) (.int .u8 ty) (.slice ov nv cv)
      have a3 : Away (fun b => b = w.heap.size + 1) wr (((wr.setCell ⟨w.heap.size + 1, 0, none⟩ (.int .u8 (bl.length : Int))).setCell ⟨w.heap.size + 1, 1, none⟩ (.int .u8 ty)).setCell ⟨w.heap.size + 1, 2, none⟩ (.slice ov nv cv)) :=
        (((Away.refl (fun b => b = w.heap.size + 1) wr).set (p := ⟨w.heap.size + 1, 0, none⟩) rfl _).set (p := ⟨w.heap.size + 1, 1, none⟩) rfl _).set (p := ⟨w.heap.size + 1, 2, none⟩) rfl _
      have own := owns_apart HX.out.own a3 (fun b hb e => HZ.out.2.1 (by rw [hb, e]))
      obtain ⟨WF, hWF⟩ : ∃ WF, (((wr.setCell ⟨w.heap.size + 1, 0, none⟩ (.int .u8 (bl.length : Int))).setCell ⟨w.heap.size + 1, 1, none⟩ (.int .u8 ty)).setCell ⟨w.heap.size + 1, 2, none⟩ (.slice ov nv cv)) = WF := ⟨_, rfl⟩
      rw [hWF] at fin mf own ⊢
      clear hWF a3
      have r0 := blk_cell fin 0 (v := .int .u8 (bl.length : Int)) rfl
      have r1 := blk_cell fin 1 (v := .int .u8 ty) rfl
      have r2 := blk_cell fin 2 (v := .slice ov nv cv) rfl
      (refine bodyPost_ret (v := .tuple #[.agg #[.int .u8 (bl.length : Int), .int .u8 ty, .slice ov nv cv], .int .i64 0]) ?rr1 rfl ?_; (case rr1 => (simp [results, Try.results17, go_sem, r0, r1, r2])))
      refine ⟨_, rfl, ?_, mf⟩
      have h9 := SlI.of_owns own (ownsm own)
      rw [List.take_length] at h9
      exact h9
end Go.Proofs.Ytlnikmcimmnbmaa
