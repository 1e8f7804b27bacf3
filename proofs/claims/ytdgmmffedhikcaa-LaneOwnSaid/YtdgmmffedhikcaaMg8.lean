/- Merged from my texts HeadB. -/
import Derived.Test.YtdgmmffedhikcaaMg7
import Derived.IntWalk
import Derived.Deep.Cut
import Derived.Deep.CutRange
import Derived.Deep.CutBlock
/- Packets: Bytes. -/
namespace Go.Proofs.Ytdgmmffedhikcaa
set_option linter.unusedSimpArgs false
set_option linter.unusedVariables false
open Go.RowKit
set_option maxRecDepth 100000

/-- A writer beside what it writes of. -/
def WrX (w0 w : World) (W B : Nat) (o : Obj) (l : List Int) : Prop := ∃ v, WrK w0 w W v l B o
theorem WrX.start {w w2 : World} {o : Obj} (m : More (w.alloc o) w2) : WrK w (w2.alloc (.cells #[.slice none 0 0] 160)) w2.heap.size (.slice none 0 0) [] w.heap.size o := by
  have hlt : w.heap.size < w2.heap.size := blk_lt (blk_more m (blk_new w o))
  exact ⟨writer_new w2, ((More.alloc w o).trans m).al _, Nat.le_of_lt hlt, blk_alloc (blk_more m (blk_new w o)) _, by omega, by simp [Value.ownBlock]⟩
theorem WrX.cell {w0 w : World} {W B : Nat} {cs : Array Value} {t : TypeId} {l : List Int} (h : WrX w0 w W B (.cells cs t (0, 0)) l) (i : Nat) {v : Value} (hi : cs[i]? = some v) : w.cell? ⟨B, i, none⟩ = some v := by
  obtain ⟨v', k⟩ := h
  exact blk_cell k.keep i hi
theorem WrX.more {w0 w : World} {W B : Nat} {o : Obj} {l : List Int} (h : WrX w0 w W B o l) : More w0 w := by
  obtain ⟨v', k⟩ := h
  exact k.more
theorem bysA_le (n s : Int) : (bysA n s).length ≤ 8 := by
  unfold bysA
  split
  · rw [bys_length]; omega
  · simp
theorem PkSm.of_right {p : Pk} (h : rightH p = true) : PkSm p ∧ p.ss.length ≤ 15 ∧ p.ex.length ≤ 200 ∧ p.pl.length ≤ 200 := by
  obtain ⟨h1, h2, h3, h4, h5⟩ := (rightH_iff p).1 h
  unfold sizeH at h5
  have he : p.ex.length ≤ 200 := by
    cases hh : p.has with
    | false => rw [(h3 hh).2]; simp
    | true => rw [hh] at h5; simp only [if_true] at h5; omega
  have hl : p.pl.length ≤ 200 := by split at h5 <;> omega
  exact ⟨⟨by omega, by omega, by omega⟩, by omega, he, hl⟩
set_option maxHeartbeats 8000000 in
theorem BytesH_yes (p : Pk) (vs ve vp : Value) (w : World) (h : PkS w vs ve vp p) (hk : PkOK p) (hr : rightH p = true) :
    Calls Try.prog 48 #[.agg #[.bool p.mr, .int .u8 p.ty, .int .u16 p.sq, .int .u32 p.st, .int .u32 p.sc, vs, .bool p.has, .int .u16 p.pr, ve, vp]] w fun e w' => (∃ v, e = .returned (.tuple #[v, .int .i64 0]) ∧ w'.ownsRow w.heap.size 5 1 v (pkB p).length ((pkB p).map (Value.int .u8))) ∧ More w w' := by
  obtain ⟨hsm, l1, l2, l3⟩ := PkSm.of_right hr
  have HS := Lib.hid h
  have HRT := Lib.hid (RightH_any p vs ve vp (w.alloc (.cells #[.bool p.mr, .int .u8 p.ty, .int .u16 p.sq, .int .u32 p.st, .int .u32 p.sc, vs, .bool p.has, .int .u16 p.pr, ve, vp] 39)) (h.keep (More.alloc _ _)) hsm)
  have hri := (rightH_iff p).1 hr
  have HRR := Lib.hid hr
  obtain ⟨⟨os, ks, rfl, _⟩, ⟨oe, ke, rfl, hse⟩, ⟨ol, kl, rfl, _⟩⟩ := h
  clear hse
  have t1 := hk.ty
  have t2 := hk.sq
  have t3 := hk.st
  have t4 := hk.sc
  have t6 := hk.pr
  have HSS := Lib.hid hk.ss
  obtain ⟨h1, h2, h3, h4, _⟩ := hri
  obtain ⟨ON, o1, o2, o3⟩ : ∃ ON, (p.has = false → ON = 128 + (p.ss.length : Int)) ∧ (p.has = true → ON = 128 + (p.ss.length : Int) + 16) ∧ ON = oneH p := ⟨_, fun e => by simp [oneH, e], fun e => by simp [oneH, e], rfl⟩
  obtain ⟨TW, o4, o5, o6⟩ : ∃ TW, (p.mr = false → TW = p.ty) ∧ (p.mr = true → TW = p.ty + 128) ∧ TW = twoH p := ⟨_, fun e => by simp [twoH, e], fun e => by simp [twoH, e], rfl⟩
  have hON : 0 ≤ ON ∧ ON ≤ 255 := by
    cases hh : p.has with
    | false => rw [o1 hh]; omega
    | true => rw [o2 hh]; omega
  have hTW : 0 ≤ TW ∧ TW ≤ 255 := by
    cases hh : p.mr with
    | false => rw [o4 hh]; omega
    | true => rw [o5 hh]; omega
  have hpk : pkB p = bysA ON 1 ++ bysA TW 1 ++ bysA p.sq 2 ++ bysA p.st 4 ++ bysA p.sc 4 ++ ssB p.ss ++ (if p.has then bysA p.pr 2 ++ bysA ((p.ex.length : Int) / 4) 2 ++ p.ex else []) ++ p.pl := by
    rw [o3, o6]; rfl
  have hpl : ((pkB p).length : Int) ≤ 200 := by
    rw [pkB_len]
    exact ((rightH_iff p).1 hr).2.2.2.2
  obtain ⟨QE, e1, e2, e3⟩ : ∃ QE, (p.has = false → QE = []) ∧ (p.has = true → QE = bysA p.pr 2 ++ bysA ((p.ex.length : Int) / 4) 2 ++ p.ex) ∧ QE = if p.has then bysA p.pr 2 ++ bysA ((p.ex.length : Int) / 4) 2 ++ p.ex else [] := ⟨if p.has then bysA p.pr 2 ++ bysA ((p.ex.length : Int) / 4) 2 ++ p.ex else [], fun e => by simp [e], fun e => by simp [e], rfl⟩
  rw [← e3] at hpk
  have hqe : QE.length ≤ 300 := by
    have := bysA_le p.pr 2
    have := bysA_le ((p.ex.length : Int) / 4) 2
    cases hh : p.has with
    | false => rw [e1 hh]; simp
    | true => rw [e2 hh]; simp only [List.length_append]; omega
  rw [hpk]
  clear hr hk hpk o3 o6 e3 hpl
  obtain ⟨mr, ty, sq, st, sc, ss, has, pr, ex, pl⟩ := p
  simp only at *
  have O1 := Lib.hid o1
  have O2 := Lib.hid o2
  have O4 := Lib.hid o4
  have O5 := Lib.hid o5
  have E1 := Lib.hid e1
  have E2 := Lib.hid e2
  have w1 : IntKind.i64.wrap (128 + (ss.length : Int)) = 128 + (ss.length : Int) := IntWalk.i64_in _ (by omega)
  have hu8 : IntKind.u8.wrap (128 + (ss.length : Int)) = 128 + (ss.length : Int) := by
    show (128 + (ss.length : Int)) % 256 = _
    omega
  obtain ⟨s0, s1⟩ := t2
  obtain ⟨q0, q1⟩ := hON
  obtain ⟨p0, p1⟩ := hTW
  obtain ⟨t0, t1⟩ := t1
  obtain ⟨a0, a1⟩ := t3
  obtain ⟨b0, b1⟩ := t4
  obtain ⟨c0, c1⟩ := t6
  clear o1 o2 o4 o5 e1 e2 h3
  go_enter Try.func48, Try.ntmps48
  go_upto_region 3 with (go_at_call 27; ((with_reducible refine (HRT.out).mono ?_); rintro e wr ⟨rfl, m1⟩; rw [HRR.out]; have M1 := Lib.hid m1; have B1 := Lib.hid (blk_more m1 (blk_new w (.cells #[.bool mr, .int .u8 ty, .int .u16 sq, .int .u32 st, .int .u32 sc, .slice os ss.length ks, .bool has, .int .u16 pr, .slice oe ex.length ke, .slice ol pl.length kl] 39))); clear m1; have f0 := fun n => blk_cell (blk_drewN B1.out n) 0 (v := .bool mr) rfl; have f1 := fun n => blk_cell (blk_drewN B1.out n) 1 (v := .int .u8 ty) rfl; have f2 := fun n => blk_cell (blk_drewN B1.out n) 2 (v := .int .u16 sq) rfl; have f3 := fun n => blk_cell (blk_drewN B1.out n) 3 (v := .int .u32 st) rfl; have f4 := fun n => blk_cell (blk_drewN B1.out n) 4 (v := .int .u32 sc) rfl; have f5 := fun n => blk_cell (blk_drewN B1.out n) 5 (v := .slice os ss.length ks) rfl; have f6 := fun n => blk_cell (blk_drewN B1.out n) 6 (v := .bool has) rfl; have f7 := fun n => blk_cell (blk_drewN B1.out n) 7 (v := .int .u16 pr) rfl; have f8 := fun n => blk_cell (blk_drewN B1.out n) 8 (v := .slice oe ex.length ke) rfl; have f9 := fun n => blk_cell (blk_drewN B1.out n) 9 (v := .slice ol pl.length kl) rfl))
  go_quiet (fail)
  clear w1 hu8
  go_upto_if 21 with fail
  go_cut [4] from 20 (fun s4 wx => s4 = .int .u8 ON ∧ wx = wr.drewN nq)
  case first =>
    cases has with
    | false =>
      go_wp2
      go_meet
      exact ⟨by rw [O1.out (by simp)], rfl⟩
    | true =>
      have hov : 128 + (ss.length : Int) + 16 ≤ 255 := by omega
      go_wp2
      go_meet
      exact ⟨by rw [O2.out (by simp)], rfl⟩
  case rest =>
  obtain ⟨rfl, rfl⟩ := hcut
  go_upto_if 26 with fail
  go_cut [5] from 24 (fun s5 wx => s5 = .int .u8 TW ∧ wx = wr.drewN nq)
  case first =>
    cases mr with
    | false =>
      go_wp2
      go_meet
      exact ⟨by rw [O4.out (by simp)], rfl⟩
    | true =>
      go_wp2
      go_meet
      exact ⟨by rw [O5.out (by simp)], rfl⟩
  case rest =>
  obtain ⟨rfl, rfl⟩ := hcut
  have M2 : Hid (More (w.alloc (.cells #[.bool mr, .int .u8 ty, .int .u16 sq, .int .u32 st, .int .u32 sc, .slice os ss.length ks, .bool has, .int .u16 pr, .slice oe ex.length ke, .slice ol pl.length kl] 39)) (wr.drewN nq)) := Lib.hid (M1.out.dr nq)
  have K0 := Lib.hid (WrX.start M2.out)
  generalize wr.drewN nq = W3 at *
  clear f0 f1 f2 f3 f4 f5 f6 f7 f8 f9
  have f0 := blk_cell K0.out.keep 0 (v := .bool mr) rfl
  have f1 := blk_cell K0.out.keep 1 (v := .int .u8 ty) rfl
  have f2 := blk_cell K0.out.keep 2 (v := .int .u16 sq) rfl
  have f3 := blk_cell K0.out.keep 3 (v := .int .u32 st) rfl
  have f4 := blk_cell K0.out.keep 4 (v := .int .u32 sc) rfl
  have f5 := blk_cell K0.out.keep 5 (v := .slice os ss.length ks) rfl
  have f6 := blk_cell K0.out.keep 6 (v := .bool has) rfl
  have f7 := blk_cell K0.out.keep 7 (v := .int .u16 pr) rfl
  have f8 := blk_cell K0.out.keep 8 (v := .slice oe ex.length ke) rfl
  have f9 := blk_cell K0.out.keep 9 (v := .slice ol pl.length kl) rfl
  go_wp2_with first | (go_at_call 72; ((with_reducible refine (WByte_any K0.out.wr ON (by omega) (by decide)).mono ?_); rintro e w10 ⟨rfl, x0⟩; obtain ⟨v10, k1⟩ := K0.out.wrote x0; have K1 := Lib.hid k1; clear k1 x0 f0 f1 f2 f3 f4 f5 f6 f7 f8 f9; have f0 := blk_cell K1.out.keep 0 (v := .bool mr) rfl; have f1 := blk_cell K1.out.keep 1 (v := .int .u8 ty) rfl; have f2 := blk_cell K1.out.keep 2 (v := .int .u16 sq) rfl; have f3 := blk_cell K1.out.keep 3 (v := .int .u32 st) rfl; have f4 := blk_cell K1.out.keep 4 (v := .int .u32 sc) rfl; have f5 := blk_cell K1.out.keep 5 (v := .slice os ss.length ks) rfl; have f6 := blk_cell K1.out.keep 6 (v := .bool has) rfl; have f7 := blk_cell K1.out.keep 7 (v := .int .u16 pr) rfl; have f8 := blk_cell K1.out.keep 8 (v := .slice oe ex.length ke) rfl; have f9 := blk_cell K1.out.keep 9 (v := .slice ol pl.length kl) rfl)) | (go_at_call 72; ((with_reducible refine (WByte_any K1.out.wr TW (by omega) (by have := bysA_le ON 1; have := bysA_le TW 1; have := bysA_le sq 2; have := bysA_le st 4; have := bysA_le sc 4; simp only [List.length_append, List.length_nil]; omega)).mono ?_); rintro e w11 ⟨rfl, x1⟩; obtain ⟨v11, k2⟩ := K1.out.wrote x1; have K2 := Lib.hid k2; clear k2 x1 f0 f1 f2 f3 f4 f5 f6 f7 f8 f9; have f0 := blk_cell K2.out.keep 0 (v := .bool mr) rfl; have f1 := blk_cell K2.out.keep 1 (v := .int .u8 ty) rfl; have f2 := blk_cell K2.out.keep 2 (v := .int .u16 sq) rfl; have f3 := blk_cell K2.out.keep 3 (v := .int .u32 st) rfl; have f4 := blk_cell K2.out.keep 4 (v := .int .u32 sc) rfl; have f5 := blk_cell K2.out.keep 5 (v := .slice os ss.length ks) rfl; have f6 := blk_cell K2.out.keep 6 (v := .bool has) rfl; have f7 := blk_cell K2.out.keep 7 (v := .int .u16 pr) rfl; have f8 := blk_cell K2.out.keep 8 (v := .slice oe ex.length ke) rfl; have f9 := blk_cell K2.out.keep 9 (v := .slice ol pl.length kl) rfl)) | (go_at_call 73; ((with_reducible refine (WShort_any K2.out.wr sq (by omega) (by have := bysA_le ON 1; have := bysA_le TW 1; have := bysA_le sq 2; have := bysA_le st 4; have := bysA_le sc 4; simp only [List.length_append, List.length_nil]; omega)).mono ?_); rintro e w12 ⟨rfl, x2⟩; obtain ⟨v12, k3⟩ := K2.out.wrote x2; have K3 := Lib.hid k3; clear k3 x2 f0 f1 f2 f3 f4 f5 f6 f7 f8 f9; have f0 := blk_cell K3.out.keep 0 (v := .bool mr) rfl; have f1 := blk_cell K3.out.keep 1 (v := .int .u8 ty) rfl; have f2 := blk_cell K3.out.keep 2 (v := .int .u16 sq) rfl; have f3 := blk_cell K3.out.keep 3 (v := .int .u32 st) rfl; have f4 := blk_cell K3.out.keep 4 (v := .int .u32 sc) rfl; have f5 := blk_cell K3.out.keep 5 (v := .slice os ss.length ks) rfl; have f6 := blk_cell K3.out.keep 6 (v := .bool has) rfl; have f7 := blk_cell K3.out.keep 7 (v := .int .u16 pr) rfl; have f8 := blk_cell K3.out.keep 8 (v := .slice oe ex.length ke) rfl; have f9 := blk_cell K3.out.keep 9 (v := .slice ol pl.length kl) rfl)) | (go_at_call 74; ((with_reducible refine (WNum_any K3.out.wr st (by omega) (by have := bysA_le ON 1; have := bysA_le TW 1; have := bysA_le sq 2; have := bysA_le st 4; have := bysA_le sc 4; simp only [List.length_append, List.length_nil]; omega)).mono ?_); rintro e w13 ⟨rfl, x3⟩; obtain ⟨v13, k4⟩ := K3.out.wrote x3; have K4 := Lib.hid k4; clear k4 x3 f0 f1 f2 f3 f4 f5 f6 f7 f8 f9; have f0 := blk_cell K4.out.keep 0 (v := .bool mr) rfl; have f1 := blk_cell K4.out.keep 1 (v := .int .u8 ty) rfl; have f2 := blk_cell K4.out.keep 2 (v := .int .u16 sq) rfl; have f3 := blk_cell K4.out.keep 3 (v := .int .u32 st) rfl; have f4 := blk_cell K4.out.keep 4 (v := .int .u32 sc) rfl; have f5 := blk_cell K4.out.keep 5 (v := .slice os ss.length ks) rfl; have f6 := blk_cell K4.out.keep 6 (v := .bool has) rfl; have f7 := blk_cell K4.out.keep 7 (v := .int .u16 pr) rfl; have f8 := blk_cell K4.out.keep 8 (v := .slice oe ex.length ke) rfl; have f9 := blk_cell K4.out.keep 9 (v := .slice ol pl.length kl) rfl)) | (go_at_call 74; ((with_reducible refine (WNum_any K4.out.wr sc (by omega) (by have := bysA_le ON 1; have := bysA_le TW 1; have := bysA_le sq 2; have := bysA_le st 4; have := bysA_le sc 4; simp only [List.length_append, List.length_nil]; omega)).mono ?_); rintro e w14 ⟨rfl, x4⟩; obtain ⟨v14, k5⟩ := K4.out.wrote x4; have K5 := Lib.hid k5; clear k5 x4 f0 f1 f2 f3 f4 f5 f6 f7 f8 f9; have f0 := blk_cell K5.out.keep 0 (v := .bool mr) rfl; have f1 := blk_cell K5.out.keep 1 (v := .int .u8 ty) rfl; have f2 := blk_cell K5.out.keep 2 (v := .int .u16 sq) rfl; have f3 := blk_cell K5.out.keep 3 (v := .int .u32 st) rfl; have f4 := blk_cell K5.out.keep 4 (v := .int .u32 sc) rfl; have f5 := blk_cell K5.out.keep 5 (v := .slice os ss.length ks) rfl; have f6 := blk_cell K5.out.keep 6 (v := .bool has) rfl; have f7 := blk_cell K5.out.keep 7 (v := .int .u16 pr) rfl; have f8 := blk_cell K5.out.keep 8 (v := .slice oe ex.length ke) rfl; have f9 := blk_cell K5.out.keep 9 (v := .slice ol pl.length kl) rfl))
  have SS := Lib.hid (HS.out.s.keep K5.out.more)
  generalize hPX : ([] ++ bysA ON 1 ++ bysA TW 1 ++ bysA sq 2 ++ bysA st 4 ++ bysA sc 4) = PX at *
  have hpx : PX.length ≤ 100 := by rw [← hPX]; exact (by have := bysA_le ON 1; have := bysA_le TW 1; have := bysA_le sq 2; have := bysA_le st 4; have := bysA_le sc 4; simp only [List.length_append, List.length_nil]; omega)
  have HPX := Lib.hid hPX
  clear hPX
  clear K0 K1 K2 K3 K4
  go_loopw [48] (fun i wx => ∃ k : Nat, k ≤ ss.length ∧ i = .int .i64 k ∧ WrX w wx W3.heap.size w.heap.size (.cells #[.bool mr, .int .u8 ty, .int .u16 sq, .int .u32 st, .int .u32 sc, .slice os ss.length ks, .bool has, .int .u16 pr, .slice oe ex.length ke, .slice ol pl.length kl] 39) (PX ++ ssB (ss.take k))) (fun i _ => ss.length - (intOf i).toNat)
  case atStart => exact ⟨0, by omega, rfl, _, by simpa [ssB] using K5.out⟩
  case round =>
    obtain ⟨k, hk, rfl, hwx⟩ := hrel
    have HW := Lib.hid hwx
    have hll : (PX ++ ssB (ss.take k)).length ≤ 10000 := by rw [List.length_append, ssB_len, List.length_take]; omega
    by_cases hlt : k < ss.length
    · obtain ⟨oa', cap', ev, _, hel, _⟩ := HS.out.s.keep hwx.more
      cases ev
      obtain ⟨bb, off, rfl, hbw, hc⟩ := hel k hlt
      have hki : (k : Int) < (ss.length : Int) := by omega
      have htk : ss.take (k + 1) = ss.take k ++ [ss.getD k 0] := by rw [List.take_succ_eq_append_getElem hlt]; simp [hlt]
      have hst : PX ++ ssB (ss.take (k + 1)) = PX ++ ssB (ss.take k) ++ bysA (ss.getD k 0) 4 := by rw [htk, ssB_snoc, List.append_assoc]
      have HST := Lib.hid hst
      have hu := HSS.out k
      obtain ⟨v7, k7⟩ := hwx
      have K7 := Lib.hid k7
      clear hel htk hst k7
      generalize ss.getD k 0 = x at *
      obtain ⟨u0, u1⟩ := hu
      go_wp2_with (go_at_call 74; ((with_reducible refine (WNum_any K7.out.wr x (by omega) (by omega)).mono ?_); rintro e w8 ⟨rfl, x8⟩; obtain ⟨v8, k8⟩ := K7.out.wrote x8; have K8 := Lib.hid k8; clear k8 x8))
      go_roundw
      case rel => exact ⟨k + 1, by omega, by go_num, v8, by rw [HST.out]; exact K8.out⟩
      case measure => simp [intOf]; omega
    · obtain rfl : k = ss.length := by omega
      rw [List.take_length] at HW hll
      clear hwx
      have f0 := WrX.cell HW.out 0 (v := .bool mr) rfl
      have f1 := WrX.cell HW.out 1 (v := .int .u8 ty) rfl
      have f2 := WrX.cell HW.out 2 (v := .int .u16 sq) rfl
      have f3 := WrX.cell HW.out 3 (v := .int .u32 st) rfl
      have f4 := WrX.cell HW.out 4 (v := .int .u32 sc) rfl
      have f5 := WrX.cell HW.out 5 (v := .slice os ss.length ks) rfl
      have f6 := WrX.cell HW.out 6 (v := .bool has) rfl
      have f7 := WrX.cell HW.out 7 (v := .int .u16 pr) rfl
      have f8 := WrX.cell HW.out 8 (v := .slice oe ex.length ke) rfl
      have f9 := WrX.cell HW.out 9 (v := .slice ol pl.length kl) rfl
      generalize hPY : PX ++ ssB ss = PY at *
      have HPY := Lib.hid hPY
      clear hPY
      go_upto_if 56 with fail
      go_cut [] from 57 (fun wx => WrX w wx W3.heap.size w.heap.size (.cells #[.bool mr, .int .u8 ty, .int .u16 sq, .int .u32 st, .int .u32 sc, .slice os ss.length ks, .bool has, .int .u16 pr, .slice oe ex.length ke, .slice ol pl.length kl] 39) (PY ++ QE))
      case first =>
        cases has with
        | false =>
          have HX := Lib.hid (E1.out (by simp))
          go_wp2
          go_meet
          rw [HX.out, List.append_nil]
          exact HW.out
        | true =>
          have HX := Lib.hid (E2.out (by simp))
          obtain ⟨v9, k9⟩ := HW.out
          have K9 := Lib.hid k9
          have hq : ((ex.length : Int)).tdiv 4 = (ex.length : Int) / 4 := Int.tdiv_eq_ediv_of_nonneg (by omega)
          have hq2 : (ex.length : Int) / 4 ≤ 60000 := by omega
          have hq3 : 0 ≤ (ex.length : Int) / 4 := by omega
          clear k9
          go_wp2_with first | (go_at_call 73; ((with_reducible refine (WShort_any K9.out.wr pr (by omega) (by omega)).mono ?_); rintro e w11 ⟨rfl, x11⟩; obtain ⟨v11, k11⟩ := K9.out.wrote x11; have K11 := Lib.hid k11; clear k11 x11 f0 f1 f2 f3 f4 f5 f6 f7 f8 f9; have f0 := blk_cell K11.out.keep 0 (v := .bool mr) rfl; have f1 := blk_cell K11.out.keep 1 (v := .int .u8 ty) rfl; have f2 := blk_cell K11.out.keep 2 (v := .int .u16 sq) rfl; have f3 := blk_cell K11.out.keep 3 (v := .int .u32 st) rfl; have f4 := blk_cell K11.out.keep 4 (v := .int .u32 sc) rfl; have f5 := blk_cell K11.out.keep 5 (v := .slice os ss.length ks) rfl; have f6 := blk_cell K11.out.keep 6 (v := .bool true) rfl; have f7 := blk_cell K11.out.keep 7 (v := .int .u16 pr) rfl; have f8 := blk_cell K11.out.keep 8 (v := .slice oe ex.length ke) rfl; have f9 := blk_cell K11.out.keep 9 (v := .slice ol pl.length kl) rfl)) | (go_at_call 73; ((with_reducible refine (WShort_any K11.out.wr ((ex.length : Int) / 4) (by omega) (by have := bysA_le pr 2; simp only [List.length_append] at *; omega)).mono ?_); rintro e w12 ⟨rfl, x12⟩; obtain ⟨v12, k12⟩ := K11.out.wrote x12; have K12 := Lib.hid k12; clear k12 x12 f0 f1 f2 f3 f4 f5 f6 f7 f8 f9; have f0 := blk_cell K12.out.keep 0 (v := .bool mr) rfl; have f1 := blk_cell K12.out.keep 1 (v := .int .u8 ty) rfl; have f2 := blk_cell K12.out.keep 2 (v := .int .u16 sq) rfl; have f3 := blk_cell K12.out.keep 3 (v := .int .u32 st) rfl; have f4 := blk_cell K12.out.keep 4 (v := .int .u32 sc) rfl; have f5 := blk_cell K12.out.keep 5 (v := .slice os ss.length ks) rfl; have f6 := blk_cell K12.out.keep 6 (v := .bool true) rfl; have f7 := blk_cell K12.out.keep 7 (v := .int .u16 pr) rfl; have f8 := blk_cell K12.out.keep 8 (v := .slice oe ex.length ke) rfl; have f9 := blk_cell K12.out.keep 9 (v := .slice ol pl.length kl) rfl)) | (go_at_call 75; ((with_reducible refine (wrote_raw K12.out.wr _ ex (HS.out.e.keep K12.out.more) (by have := bysA_le pr 2; have := bysA_le ((ex.length : Int) / 4) 2; simp only [List.length_append] at *; omega)).mono ?_); rintro e w13 ⟨rfl, x13⟩; obtain ⟨v13, k13⟩ := K12.out.wrote x13; have K13 := Lib.hid k13; clear k13 x13))
          go_meet
          rw [HX.out]
          exact ⟨v13, by have := K13.out; simpa only [List.append_assoc] using this⟩
      case rest =>
        obtain ⟨v14, k14⟩ := hcut
        have K14 := Lib.hid k14
        clear k14 HW f0 f1 f2 f3 f4 f5 f6 f7 f8 f9
        have f0 := blk_cell K14.out.keep 0 (v := .bool mr) rfl
        have f1 := blk_cell K14.out.keep 1 (v := .int .u8 ty) rfl
        have f2 := blk_cell K14.out.keep 2 (v := .int .u16 sq) rfl
        have f3 := blk_cell K14.out.keep 3 (v := .int .u32 st) rfl
        have f4 := blk_cell K14.out.keep 4 (v := .int .u32 sc) rfl
        have f5 := blk_cell K14.out.keep 5 (v := .slice os ss.length ks) rfl
        have f6 := blk_cell K14.out.keep 6 (v := .bool has) rfl
        have f7 := blk_cell K14.out.keep 7 (v := .int .u16 pr) rfl
        have f8 := blk_cell K14.out.keep 8 (v := .slice oe ex.length ke) rfl
        have f9 := blk_cell K14.out.keep 9 (v := .slice ol pl.length kl) rfl
        have hl14 : (PY ++ QE).length ≤ 20000 := by rw [List.length_append]; omega
        go_wp2_with first | (go_at_call 75; ((with_reducible refine (wrote_raw K14.out.wr _ pl (HS.out.l.keep K14.out.more) (by omega)).mono ?_); rintro e w15 ⟨rfl, x15⟩; obtain ⟨v15, k15⟩ := K14.out.wrote x15; have K15 := Lib.hid k15; clear k15 x15 f0 f1 f2 f3 f4 f5 f6 f7 f8 f9)) | (go_at_call 76; ((with_reducible refine (WBytes_any K15.out.wr (by rw [List.length_append]; omega)).mono ?_); rintro e w16 ⟨v16, rfl, ho, hm⟩; have HO := Lib.hid ho; have HM := Lib.hid hm; clear ho hm))
        go_ret2
        refine ⟨⟨_, rfl, ?_⟩, K15.out.more.trans HM.out⟩
        have := owns_down HO.out K15.out.more.size
        rw [← HPY.out, ← HPX.out] at this
        exact this
set_option maxHeartbeats 1000000 in
theorem BytesH_no (p : Pk) (vs ve vp : Value) (w : World) (h : PkS w vs ve vp p) (hm : PkSm p) (hr : rightH p = false) :
    Calls Try.prog 48 #[.agg #[.bool p.mr, .int .u8 p.ty, .int .u16 p.sq, .int .u32 p.st, .int .u32 p.sc, vs, .bool p.has, .int .u16 p.pr, ve, vp]] w fun e w' => e = .returned (.tuple #[.slice none 0 0, .int .i64 1]) ∧ More w w' := by
  have HRT := Lib.hid (RightH_any p vs ve vp (w.alloc (.cells #[.bool p.mr, .int .u8 p.ty, .int .u16 p.sq, .int .u32 p.st, .int .u32 p.sc, vs, .bool p.has, .int .u16 p.pr, ve, vp] 39)) (h.keep (More.alloc _ _)) hm)
  have HRR := Lib.hid hr
  clear hr h
  go_enter Try.func48, Try.ntmps48
  go_wp2_with (go_at_call 27; ((with_reducible refine (HRT.out).mono ?_); rintro e wr ⟨rfl, m1⟩; rw [HRR.out]; have M1 := Lib.hid m1; clear m1))
  go_ret2
  exact ⟨rfl, (More.alloc _ _).trans M1.out⟩
end Go.Proofs.Ytdgmmffedhikcaa
