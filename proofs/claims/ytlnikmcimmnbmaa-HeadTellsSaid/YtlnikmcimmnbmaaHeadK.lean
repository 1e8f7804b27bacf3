/- Packets: the document's Bytes of a packet that may be. -/
import Derived.Test.YtlnikmcimmnbmaaHeadJ
import Derived.Test.YtlnikmcimmnbmaaProbeQ
namespace Go.Proofs.Ytlnikmcimmnbmaa
set_option linter.unusedSimpArgs false
set_option linter.unusedVariables false
open Go.RowKit
set_option maxRecDepth 100000

set_option maxHeartbeats 8000000 in
theorem RBytesH_yes (p : Pk) (vs ve vp : Value) (w : World) (h : PkS w vs ve vp p) (hk : PkOK p) (hr : rightH p = true) :
    Calls Try.prog 28 #[.agg #[.bool p.mr, .int .u8 p.ty, .int .u16 p.sq, .int .u32 p.st, .int .u32 p.sc, vs, .bool p.has, .int .u16 p.pr, ve, vp]] w fun e w' => (∃ v, e = .returned (.tuple #[v, .int .i64 0]) ∧ SlI .u8 w' v (pkB p)) ∧ More w w' := by
  obtain ⟨i0, hi, hz0, hz1, hz2⟩ := info_parts Try.info_u8
  obtain ⟨hsm, l1, l2, l3⟩ := PkSm.of_right hr
  have HS := Lib.hid h
  have HRT := Lib.hid (RRightH_any p vs ve vp (w.alloc (.cells #[.bool p.mr, .int .u8 p.ty, .int .u16 p.sq, .int .u32 p.st, .int .u32 p.sc, vs, .bool p.has, .int .u16 p.pr, ve, vp] 64)) (h.keep (More.alloc _ _)) hsm)
  have hri := (rightH_iff p).1 hr
  have HRR := Lib.hid hr
  obtain ⟨⟨os, ks, rfl, _⟩, ⟨oe, ke, rfl, hse⟩, ⟨ol, kl, rfl, _⟩⟩ := h
  clear hse
  have t1 := hk.ty
  have t2 := hk.sq
  have t3 := hk.st
  have t4 := hk.sc
  have t6 := hk.pr
  have HSS := Lib.hid hk.ss
  obtain ⟨h1, h2, h3, h4, _⟩ := hri
  obtain ⟨ON, o1, o2, o3⟩ : ∃ ON, (p.has = false → ON = 128 + (p.ss.length : Int)) ∧ (p.has = true → ON = 128 + (p.ss.length : Int) + 16) ∧ ON = oneH p := ⟨_, fun e => by simp [oneH, e], fun e => by simp [oneH, e], rfl⟩
  obtain ⟨TW, o4, o5, o6⟩ : ∃ TW, (p.mr = false → TW = p.ty) ∧ (p.mr = true → TW = p.ty + 128) ∧ TW = twoH p := ⟨_, fun e => by simp [twoH, e], fun e => by simp [twoH, e], rfl⟩
  have hON : 0 ≤ ON ∧ ON ≤ 255 := by
    cases hh : p.has with
    | false => rw [o1 hh]; omega
    | true => rw [o2 hh]; omega
  have hTW : 0 ≤ TW ∧ TW ≤ 255 := by
    cases hh : p.mr with
    | false => rw [o4 hh]; omega
    | true => rw [o5 hh]; omega
  have hpk : pkB p = bysA ON 1 ++ bysA TW 1 ++ bysA p.sq 2 ++ bysA p.st 4 ++ bysA p.sc 4 ++ ssB p.ss ++ (if p.has then bysA p.pr 2 ++ bysA ((p.ex.length : Int) / 4) 2 ++ p.ex else []) ++ p.pl := by
    rw [o3, o6]; rfl
  rw [hpk]
  clear hr hk hpk o3 o6
  obtain ⟨mr, ty, sq, st, sc, ss, has, pr, ex, pl⟩ := p
  simp only at *
  have O1 := Lib.hid o1
  have O2 := Lib.hid o2
  have O4 := Lib.hid o4
  have O5 := Lib.hid o5
  have HLIT : Hid ([ON, TW] = bysA ON 1 ++ bysA TW 1) := Lib.hid (by rw [bysA_one, bysA_one, Int.emod_eq_of_lt (by omega) (by omega), Int.emod_eq_of_lt (by omega) (by omega)]; rfl)
  have G1a := bysA_le ON 1
  have G1b := bysA_le TW 1
  have G2 := bysA_le sq 2
  have G4a := bysA_le st 4
  have G4b := bysA_le sc 4
  have G2b := bysA_le pr 2
  have G2c := bysA_le ((ex.length : Int) / 4) 2
  have GS := ssB_len ss
  have hu8 : IntKind.u8.wrap ON = ON := by
    show ON % 256 = _
    omega
  obtain ⟨s0, s1⟩ := t2
  obtain ⟨q0, q1⟩ := hON
  obtain ⟨p0, p1⟩ := hTW
  obtain ⟨t0, t1⟩ := t1
  obtain ⟨a0, a1⟩ := t3
  obtain ⟨b0, b1⟩ := t4
  obtain ⟨c0, c1⟩ := t6
  clear o1 o2 o4 o5 h3
  go_enter Try.func28, Try.ntmps28
  go_upto_if 16 with (go_at_call 33; ((with_reducible refine (HRT.out).mono ?_); rintro e w1 ⟨rfl, m1⟩; rw [HRR.out]; have M1 := Lib.hid ((More.alloc w (.cells #[.bool mr, .int .u8 ty, .int .u16 sq, .int .u32 st, .int .u32 sc, .slice os ss.length ks, .bool has, .int .u16 pr, .slice oe ex.length ke, .slice ol pl.length kl] 64)).trans m1); have B1 := Lib.hid (blk_more m1 (blk_new w (.cells #[.bool mr, .int .u8 ty, .int .u16 sq, .int .u32 st, .int .u32 sc, .slice os ss.length ks, .bool has, .int .u16 pr, .slice oe ex.length ke, .slice ol pl.length kl] 64))); clear m1; have f1 := blk_cell B1.out 1 (v := .int .u8 ty) rfl; have f0 := blk_cell B1.out 0 (v := .bool mr) rfl; have f5 := blk_cell B1.out 5 (v := .slice os ss.length ks) rfl; have f6 := blk_cell B1.out 6 (v := .bool has) rfl))
  go_cut [4] from 15 (fun s4 wx => s4 = .int .i64 ON ∧ wx = w1)
  case first =>
    cases has with
    | false =>
      go_wp2
      go_meet
      exact ⟨by rw [O1.out (by simp)], rfl⟩
    | true =>
      go_wp2
      go_meet
      exact ⟨by rw [O2.out (by simp)], rfl⟩
  case rest =>
  obtain ⟨rfl, hwx⟩ := hcut
  replace hwx := hwx.symm
  subst hwx
  go_upto_if 24 with fail
  go_cut [5] from 22 (fun s5 wx => s5 = .int .u8 TW ∧ wx = w1)
  case first =>
    cases mr with
    | false =>
      go_wp2
      go_meet
      exact ⟨by rw [O4.out (by simp)], rfl⟩
    | true =>
      go_wp2
      go_meet
      exact ⟨by rw [O5.out (by simp)], rfl⟩
  case rest =>
  obtain ⟨rfl, hwx⟩ := hcut
  replace hwx := hwx.symm
  subst hwx
  have hltB := blk_lt B1.out
  have K0 : Hid (BtS w (w1.alloc (.cells #[.int .u8 ON, .int .u8 TW] 5)) w.heap.size w1.heap.size (.slice (some ⟨w1.heap.size, 0, none⟩) 2 2) (bysA ON 1 ++ bysA TW 1) (.cells #[.bool mr, .int .u8 ty, .int .u16 sq, .int .u32 st, .int .u32 sc, .slice os ss.length ks, .bool has, .int .u16 pr, .slice oe ex.length ke, .slice ol pl.length kl] 64)) := Lib.hid (by
    rw [← HLIT.out]
    exact ⟨by simpa using World.ownsRow_lit (base := w1.heap.size) (size := 1) (e := 5) w1 #[.int .u8 ON, .int .u8 TW] 2 (Nat.le_refl _) (by unfold maxLen; omega) (by simp), M1.out.al _, blk_alloc B1.out _, hltB, M1.out.size, by simp⟩)
  clear f0 f1 f5 f6
  have f2 := blk_cell K0.out.keep 2 (v := .int .u16 sq) rfl
  go_wp2_with (first | (go_at_call 76; ((with_reducible refine (RBytes_all (sq) 2 (by unfold U64; omega) (by decide) _).mono ?_); rintro e xK1 ⟨yK1, rfl, s1, mK1⟩; have K1 := Lib.hid (K0.out.on mK1))) | (at_builtin; refine wpList_append_at _ rfl (.tmp 31) (.tmp 36) 28 rfl w1.heap.size 5 i0 (.int .u8 0) 1 Try.underlying28 hi hz0 hz1 hz2 rfl _ .u8 (bysA ON 1 ++ bysA TW 1) rfl K1.out.own _ (bysA sq 2) rfl s1 (by simp only [List.length_append]; omega) (by decide) K1.out.base ?_; intro vK2 uK2 ho hg _; have K2 := Lib.hid (K1.out.grown ho hg); have f3 := blk_cell K2.out.keep 3 (v := .int .u32 st) rfl; clear ho hg) | (go_at_call 76; ((with_reducible refine (RBytes_all (st) 4 (by unfold U64; omega) (by decide) _).mono ?_); rintro e xK3 ⟨yK3, rfl, s3, mK3⟩; have K3 := Lib.hid (K2.out.on mK3))) | (at_builtin; refine wpList_append_at _ rfl (.tmp 38) (.tmp 43) 28 rfl w1.heap.size 5 i0 (.int .u8 0) 1 Try.underlying28 hi hz0 hz1 hz2 rfl _ .u8 (bysA ON 1 ++ bysA TW 1 ++ bysA sq 2) rfl K3.out.own _ (bysA st 4) rfl s3 (by simp only [List.length_append]; omega) (by decide) K3.out.base ?_; intro vK4 uK4 ho hg _; have K4 := Lib.hid (K3.out.grown ho hg); have f4 := blk_cell K4.out.keep 4 (v := .int .u32 sc) rfl; clear ho hg) | (go_at_call 76; ((with_reducible refine (RBytes_all (sc) 4 (by unfold U64; omega) (by decide) _).mono ?_); rintro e xK5 ⟨yK5, rfl, s5, mK5⟩; have K5 := Lib.hid (K4.out.on mK5))) | (at_builtin; refine wpList_append_at _ rfl (.tmp 45) (.tmp 50) 28 rfl w1.heap.size 5 i0 (.int .u8 0) 1 Try.underlying28 hi hz0 hz1 hz2 rfl _ .u8 (bysA ON 1 ++ bysA TW 1 ++ bysA sq 2 ++ bysA st 4) rfl K5.out.own _ (bysA sc 4) rfl s5 (by simp only [List.length_append]; omega) (by decide) K5.out.base ?_; intro vK6 uK6 ho hg _; have K6 := Lib.hid (K5.out.grown ho hg);  clear ho hg))
  go_loopw [6, 7] (fun s6 i wr => ∃ j : Nat, j ≤ ss.length ∧ i = .int .i64 j ∧ BtS w wr w.heap.size w1.heap.size s6 (bysA ON 1 ++ bysA TW 1 ++ bysA sq 2 ++ bysA st 4 ++ bysA sc 4 ++ ssB (ss.take j)) (.cells #[.bool mr, .int .u8 ty, .int .u16 sq, .int .u32 st, .int .u32 sc, .slice os ss.length ks, .bool has, .int .u16 pr, .slice oe ex.length ke, .slice ol pl.length kl] 64)) (fun _ i _ => ss.length - (intOf i).toNat)
  case atStart => exact ⟨0, by omega, rfl, by rw [List.take_zero]; show BtS _ _ _ _ _ (_ ++ []) _; rw [List.append_nil]; exact K6.out⟩
  case round =>
    obtain ⟨j, hj, rfl, hb⟩ := hrel
    have Ka := Lib.hid hb
    clear hb
    have f5 := blk_cell Ka.out.keep 5 (v := .slice os ss.length ks) rfl
    by_cases hlt : j < ss.length
    · obtain ⟨_, _, ev, -, el, -⟩ := (HS.out.keep Ka.out.more).s
      cases ev
      obtain ⟨b1, off1, rfl, hw1, d1⟩ := el j hlt
      have ux := HSS.out j
      have GT : (ssB (ss.take j)).length ≤ 60 := by rw [ssB_len, List.length_take]; omega
      have HSN : Hid (ssB (ss.take (j + 1)) = ssB (ss.take j) ++ bysA (ss.getD j 0) 4) := Lib.hid (by rw [List.take_succ_eq_append_getElem hlt, ssB_snoc, List.getD_eq_getElem?_getD, List.getElem?_eq_getElem hlt]; rfl)
      obtain ⟨x, hx⟩ : ∃ x, ss.getD j 0 = x := ⟨_, rfl⟩
      rw [hx] at d1 ux HSN
      obtain ⟨u0, u1⟩ := ux
      have GX := bysA_le x 4
      have hjl : (j : Int) < (ss.length : Int) := by omega
      clear el hx
      go_wp2_with (first | (go_at_call 76; ((with_reducible refine (RBytes_all (x) 4 (by unfold U64; omega) (by decide) _).mono ?_); rintro e xKb ⟨yKb, rfl, sb, mKb⟩; have Kb := Lib.hid (Ka.out.on mKb))) | (at_builtin; refine wpList_append_at _ rfl (.tmp 59) (.tmp 66) 28 rfl w1.heap.size 5 i0 (.int .u8 0) 1 Try.underlying28 hi hz0 hz1 hz2 rfl _ .u8 (bysA ON 1 ++ bysA TW 1 ++ bysA sq 2 ++ bysA st 4 ++ bysA sc 4 ++ ssB (ss.take j)) rfl Kb.out.own _ (bysA x 4) rfl sb (by simp only [List.length_append]; omega) (by decide) Kb.out.base ?_; intro vKc uKc ho hg _; have Kc := Lib.hid (Kb.out.grown ho hg);  clear ho hg))
      go_roundw
      case rel => exact ⟨j + 1, by omega, by go_num, by rw [HSN.out, ← List.append_assoc]; exact Kc.out⟩
      case measure => simp [intOf]; omega
    · obtain rfl : j = ss.length := by omega
      have Kd := Lib.hid ((show ss.take ss.length = ss from List.take_length) ▸ Ka.out)
      clear Ka
      have f6 := blk_cell Kd.out.keep 6 (v := .bool has) rfl
      have f7 := blk_cell Kd.out.keep 7 (v := .int .u16 pr) rfl
      have f9 := blk_cell Kd.out.keep 9 (v := .slice ol pl.length kl) rfl
      cases has with
      | true =>
        go_wp2_with (first | (go_at_call 76; ((with_reducible refine (RBytes_all (pr) 2 (by unfold U64; omega) (by decide) _).mono ?_); rintro e xKe ⟨yKe, rfl, se, mKe⟩; have Ke := Lib.hid (Kd.out.on mKe))) | (at_builtin; refine wpList_append_at _ rfl (.tmp 70) (.tmp 74) 28 rfl w1.heap.size 5 i0 (.int .u8 0) 1 Try.underlying28 hi hz0 hz1 hz2 rfl _ .u8 (bysA ON 1 ++ bysA TW 1 ++ bysA sq 2 ++ bysA st 4 ++ bysA sc 4 ++ ssB ss) rfl Ke.out.own _ (bysA pr 2) rfl se (by simp only [List.length_append]; omega) (by decide) Ke.out.base ?_; intro vKf uKf ho hg _; have Kf := Lib.hid (Ke.out.grown ho hg); have f8 := blk_cell Kf.out.keep 8 (v := .slice oe ex.length ke) rfl; clear ho hg) | (go_at_call 76; ((with_reducible refine (RBytes_all ((ex.length : Int) / 4) 2 (by unfold U64; omega) (by decide) _).mono ?_); rintro e xKg ⟨yKg, rfl, sg, mKg⟩; have Kg := Lib.hid (Kf.out.on mKg))) | (at_builtin; refine wpList_append_at _ rfl (.tmp 76) (.tmp 82) 28 rfl w1.heap.size 5 i0 (.int .u8 0) 1 Try.underlying28 hi hz0 hz1 hz2 rfl _ .u8 (bysA ON 1 ++ bysA TW 1 ++ bysA sq 2 ++ bysA st 4 ++ bysA sc 4 ++ ssB ss ++ bysA pr 2) rfl Kg.out.own _ (bysA ((ex.length : Int) / 4) 2) rfl sg (by simp only [List.length_append]; omega) (by decide) Kg.out.base ?_; intro vKh uKh ho hg _; have Kh := Lib.hid (Kg.out.grown ho hg); have f8 := blk_cell Kh.out.keep 8 (v := .slice oe ex.length ke) rfl; clear ho hg) | (at_builtin; refine wpList_append_at _ rfl (.tmp 84) (.tmp 86) 28 rfl w1.heap.size 5 i0 (.int .u8 0) 1 Try.underlying28 hi hz0 hz1 hz2 rfl _ .u8 (bysA ON 1 ++ bysA TW 1 ++ bysA sq 2 ++ bysA st 4 ++ bysA sc 4 ++ ssB ss ++ bysA pr 2 ++ bysA ((ex.length : Int) / 4) 2) rfl Kh.out.own _ (ex) rfl (HS.out.keep Kh.out.more).e (by simp only [List.length_append]; omega) (by decide) Kh.out.base ?_; intro vKi uKi ho hg _; have Ki := Lib.hid (Kh.out.grown ho hg); have f9 := blk_cell Ki.out.keep 9 (v := .slice ol pl.length kl) rfl; clear ho hg) | (at_builtin; refine wpList_append_at _ rfl (.tmp 88) (.tmp 90) 28 rfl w1.heap.size 5 i0 (.int .u8 0) 1 Try.underlying28 hi hz0 hz1 hz2 rfl _ .u8 (bysA ON 1 ++ bysA TW 1 ++ bysA sq 2 ++ bysA st 4 ++ bysA sc 4 ++ ssB ss ++ bysA pr 2 ++ bysA ((ex.length : Int) / 4) 2 ++ ex) rfl Ki.out.own _ (pl) rfl (HS.out.keep Ki.out.more).l (by simp only [List.length_append]; omega) (by decide) Ki.out.base ?_; intro vKj uKj ho hg _; have Kj := Lib.hid (Ki.out.grown ho hg);  clear ho hg))
        go_ret2
        refine ⟨⟨_, rfl, ?_⟩, Kj.out.more⟩
        have s := SlI.of_owns Kj.out.own (by simp only [List.length_append]; omega)
        simpa using s
      | false =>
        go_wp2_with (first | (at_builtin; refine wpList_append_at _ rfl (.tmp 88) (.tmp 90) 28 rfl w1.heap.size 5 i0 (.int .u8 0) 1 Try.underlying28 hi hz0 hz1 hz2 rfl _ .u8 (bysA ON 1 ++ bysA TW 1 ++ bysA sq 2 ++ bysA st 4 ++ bysA sc 4 ++ ssB ss) rfl Kd.out.own _ (pl) rfl (HS.out.keep Kd.out.more).l (by simp only [List.length_append]; omega) (by decide) Kd.out.base ?_; intro vKj uKj ho hg _; have Kj := Lib.hid (Kd.out.grown ho hg);  clear ho hg))
        go_ret2
        refine ⟨⟨_, rfl, ?_⟩, Kj.out.more⟩
        have s := SlI.of_owns Kj.out.own (by simp only [List.length_append]; omega)
        simpa using s
end Go.Proofs.Ytlnikmcimmnbmaa
