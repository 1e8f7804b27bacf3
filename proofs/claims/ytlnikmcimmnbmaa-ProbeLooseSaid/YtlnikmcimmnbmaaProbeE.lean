/- Descriptions are read: Read. -/
import Derived.Test.YtlnikmcimmnbmaaProbeD
import Derived.Deep.Cut
import Derived.Deep.CutRange
import Derived.Deep.CutBlock
namespace Go.Proofs.Ytlnikmcimmnbmaa
set_option linter.unusedSimpArgs false
set_option linter.unusedVariables false
open Go.RowKit
set_option maxRecDepth 100000

theorem PrS.begin {w w2 : World} {b : List Int} {R : Nat} {Z : Array Value} (hz : Z = #[.bool false, .bool false, .int .u8 0, .int .i64 0, .bool false, .int .i64 0, .int .i64 0, .bool false, .int .i64 0]) (hR : (w.alloc (.cells Z 77)).heap.size ≤ R)
    (r : ReaderAt w2 R b 0 (fun g => (w.alloc (.cells Z 77)).heap.size ≤ g ∧ g < w2.heap.size)) (m : More (w.alloc (.cells Z 77)) w2) :
    ReaderAt w2 R b 0 (fun g => g < w2.heap.size) ∧ More w w2 ∧ w2.heap[w.heap.size]? = some (.cells Z 77 (0, 0)) ∧ w.heap.size < R ∧ R < w2.heap.size := by
  have hlt : R < w2.heap.size := by obtain ⟨v, h1, _⟩ := r.blk; exact blk_lt h1
  have hs : (w.alloc (.cells Z 77)).heap.size = w.heap.size + 1 := by simp
  exact ⟨r.mono fun g h => h.2, (More.alloc _ _).trans m, blk_more m (blk_new w _), by omega, hlt⟩
/-- Ahead of the description. -/
structure PrP (w0 w : World) (R hi Br B5 B7 : Nat) (s : RdS) (t : Int) : Prop where
  rd : ReaderAt w R s.1 s.2 (fun g => g < hi)
  more : More w0 w
  br : w.heap[Br]? = some (.cells #[.bool false, .bool false, .int .u8 0, .int .i64 0, .bool false, .int .i64 0, .int .i64 0, .bool false, .int .i64 0] 77 (0, 0))
  b5 : w.heap[B5]? = some (.cells #[.pointer (some ⟨R, 0, none⟩)] 146 (0, 0))
  b7 : w.heap[B7]? = some (.cells #[.int .u8 t] 5 (0, 0))
  n0 : w0.heap.size ≤ Br
  nR : Br < R
  n1 : R < hi
  n5 : hi ≤ B5
  n7 : B5 < B7
theorem PrP.step {w0 w w' : World} {R hi Br B5 B7 : Nat} {s s' : RdS} {t : Int} (h : PrP w0 w R hi Br B5 B7 s t) (r : ReaderAt w' R s'.1 s'.2 (fun g => g < hi)) (a : Away (fun b => b = R) w w') : PrP w0 w' R hi Br B5 B7 s' t := by
  have := h.n0; have := h.nR; have := h.n1; have := h.n5; have := h.n7
  exact ⟨r, Away.to_more h.more a (fun k hk => by omega), a.blk h.br (by omega), a.blk h.b5 (by omega), a.blk h.b7 (by omega), h.n0, h.nR, h.n1, h.n5, h.n7⟩
theorem PrP.put7 {w0 w : World} {R hi Br B5 B7 : Nat} {s : RdS} {t : Int} (h : PrP w0 w R hi Br B5 B7 s t) (t' : Int) : PrP w0 (w.setCell ⟨B7, 0, none⟩ (.int .u8 t')) R hi Br B5 B7 s t' := by
  have := h.n0; have := h.nR; have := h.n1; have := h.n5; have := h.n7
  have a : Away (fun b => b = B7) w (w.setCell ⟨B7, 0, none⟩ (.int .u8 t')) := (Away.refl (fun b => b = B7) w).set (p := ⟨B7, 0, none⟩) rfl _
  exact ⟨h.rd.off a (by omega) (fun g hg e => by omega), h.more.st (p := ⟨B7, 0, none⟩) (by show _ ≤ B7; omega) _, a.blk h.br (by omega), a.blk h.b5 (by omega), blk_eq (blk_set h.b7 0 _) rfl, h.n0, h.nR, h.n1, h.n5, h.n7⟩
theorem PrP.box {w0 w : World} {R hi Br B5 B7 : Nat} {s : RdS} {t : Int} (h : PrP w0 w R hi Br B5 B7 s t) (cs : Array Value) : PrS w0 (w.alloc (.cells cs 77)) R hi Br B5 B7 w.heap.size s t cs :=
  ⟨h.rd.more (More.alloc _ _), h.more.al _, blk_alloc h.br _, blk_alloc h.b5 _, blk_alloc h.b7 _, blk_new w _, h.n0, h.nR, h.n1, h.n5, h.n7, blk_lt h.b7⟩
theorem PrP.make {w w2 w3 : World} {b : List Int} {R Br : Nat} (hr : ReaderAt w2 R b 0 (fun g => g < w2.heap.size)) (m : More w w2) (hb : w2.heap[Br]? = some (.cells #[.bool false, .bool false, .int .u8 0, .int .i64 0, .bool false, .int .i64 0, .int .i64 0, .bool false, .int .i64 0] 77 (0, 0))) (n0 : w.heap.size ≤ Br) (n1 : Br < R) (n2 : R < w2.heap.size)
    {s' : RdS} (r : ReaderAt w3 R s'.1 s'.2 (fun g => g < w2.heap.size)) (a : Away (fun b => b = R) (w2.alloc (.cells #[.pointer (some ⟨R, 0, none⟩)] 146)) w3) :
    PrP w (w3.alloc (.cells #[.int .u8 0] 5)) R w2.heap.size Br w2.heap.size w3.heap.size s' 0 := by
  have h5 : w3.heap[w2.heap.size]? = _ := a.blk (blk_new w2 _) (by omega)
  refine ⟨r.more (More.alloc _ _), (Away.to_more (m.al _) a (fun k hk => ?_)).al _, blk_alloc (a.blk (blk_alloc hb _) (by omega)) _, blk_alloc h5 _, blk_new _ _, n0, n1, n2, Nat.le_refl _, blk_lt h5⟩
  omega
theorem PrQ.mk {w0 w : World} {R hi Br B5 B7 B8 B10 : Nat} {s : RdS} {t q : Int} {cs : Array Value} (h : PrS w0 w R hi Br B5 B7 B8 s t cs) (k : w.heap[B10]? = some (.cells #[.int .u64 q] 145 (0, 0))) : PrQ w0 w R hi Br B5 B7 B8 B10 s t cs q := ⟨h, k⟩
theorem More.st9 {w0 w : World} (m : More w0 w) (B : Nat) (hB : w0.heap.size ≤ B) (v0 v1 v2 v3 v4 v5 v6 v7 v8 : Value) :
    More w0 (((((((((w.setCell ⟨B, 0, none⟩ v0).setCell ⟨B, 1, none⟩ v1).setCell ⟨B, 2, none⟩ v2).setCell ⟨B, 3, none⟩ v3).setCell ⟨B, 4, none⟩ v4).setCell ⟨B, 5, none⟩ v5).setCell ⟨B, 6, none⟩ v6).setCell ⟨B, 7, none⟩ v7).setCell ⟨B, 8, none⟩ v8) :=
  ((((((((m.st (p := ⟨B, 0, none⟩) hB v0).st (p := ⟨B, 1, none⟩) hB v1).st (p := ⟨B, 2, none⟩) hB v2).st (p := ⟨B, 3, none⟩) hB v3).st (p := ⟨B, 4, none⟩) hB v4).st (p := ⟨B, 5, none⟩) hB v5).st (p := ⟨B, 6, none⟩) hB v6).st (p := ⟨B, 7, none⟩) hB v7).st (p := ⟨B, 8, none⟩) hB v8
theorem PrS.put10 {w0 w : World} {R hi Br B5 B7 B8 B10 : Nat} {s : RdS} {t : Int} {cs : Array Value} (h : PrS w0 w R hi Br B5 B7 B8 s t cs) (h10 : B8 < B10) {v : Value} : PrS w0 (w.setCell ⟨B10, 0, none⟩ v) R hi Br B5 B7 B8 s t cs := by
  have := h.n0; have := h.nR; have := h.n1; have := h.n5; have := h.n7; have := h.n8
  have a : Away (fun b => b = B10) w (w.setCell ⟨B10, 0, none⟩ v) := (Away.refl (fun b => b = B10) w).set (p := ⟨B10, 0, none⟩) rfl _
  exact ⟨h.rd.off a (by omega) (fun g hg e => by omega), h.more.st (p := ⟨B10, 0, none⟩) (by show _ ≤ B10; omega) _, a.blk h.br (by omega), a.blk h.b5 (by omega), a.blk h.b7 (by omega), a.blk h.b8 (by omega), h.n0, h.nR, h.n1, h.n5, h.n7, h.n8⟩
set_option maxHeartbeats 4000000 in
theorem ReadD_any (v : Value) (b : List Int) (w : World) (sl : SlI .u8 w v b) (hb : Byt b) (hl : b.length ≤ 1000000) :
    Calls Try.prog 41 #[v] w fun e w' => e = .returned (.tuple #[.agg #[.bool (readD b).1.lo, .bool (readD b).1.st, .int .u8 (readD b).1.pt, .int .i64 (readD b).1.pic, .bool (readD b).1.wd, .int .i64 (readD b).1.bs, .int .i64 (readD b).1.tr, .bool (readD b).1.sy, .int .i64 (readD b).1.ky], .int .i64 (readD b).2.1, .int .i64 (readD b).2.2]) ∧ More w w' := by
  have SL := Lib.hid (sl.keep (More.alloc w (.cells #[.bool false, .bool false, .int .u8 0, .int .i64 0, .bool false, .int .i64 0, .int .i64 0, .bool false, .int .i64 0] 77)))
  have hf : 0 ≤ nB (b, 0) ∧ nB (b, 0) ≤ 255 := nB_bd (s := (b, 0)) hb
  obtain ⟨ob, cb, rfl, hsl⟩ := sl
  clear hsl
  have hfa := (andB2' hf).1
  have hfb := (andB2' hf).2.2.1
  have hfc := (andB2' hf).2.2.2
  have hfd := (andB' hf).2.2.2.2.1
  have e1 : num (tkB b 1) = nB (b, 0) := rfl
  have E1 := Lib.hid e1
  have hmf : ∀ (fn : Fn) (first cap : Array Value) (w : World), (Instr.makeFunc fn first cap).run Try.prog w = .ok (.func fn first cap) w := fun _ _ _ _ => rfl
  clear e1
  generalize hff : nB (b, 0) = f at *
  have HFF := Lib.hid hff
  clear hff
  go_enter Try.func41, Try.ntmps41
  go_upto_if 18 with (first | (go_at_call 77; ((with_reducible refine (RdNew_in _ b _ SL.out hb hl).mono ?_); rintro e w2 ⟨R, rfl, hR, hr, hm⟩; obtain ⟨r2, m2, b2, n1, n2⟩ := PrS.begin rfl hR hr hm; have HR := Lib.hid r2; have M2 := Lib.hid m2; have HBR := Lib.hid b2; clear hr hm r2 m2 b2 hR; have p5 := blk_cell (blk_new w2 (.cells #[.pointer (some ⟨R, 0, none⟩)] 146)) 0 (v := .pointer (some ⟨R, 0, none⟩)) rfl)) | (go_at_call 88; ((with_reducible refine (RdByte_any (HR.out.more (More.alloc _ _))).mono ?_); rintro e w3 ⟨rfl, r3, a3⟩; rw [E1.out]; have H3 := Lib.hid (PrP.make HR.out M2.out HBR.out (Nat.le_refl _) n1 n2 (s' := tkS (b, 0) 1) r3 a3); clear r3 a3)))
  generalize w2.heap.size = hi at *
  generalize w3.heap.size = B7 at *
  have p7 := blk_cell H3.out.b5 0 (v := .pointer (some ⟨R, 0, none⟩)) rfl
  have z7 := blk_free H3.out.b7 0
  have y7 := blk_cell H3.out.b7 0 (v := .int .u8 0) rfl
  have h255 : 0 ≤ (headD (b, 0)).2.1 ∧ (headD (b, 0)).2.1 ≤ 255 := by
    unfold headD
    split
    · exact nB_bd (s := tkS (b, 0) 1) (hb.drop _)
    · exact ⟨by simp, by simp⟩
  have H255 := Lib.hid h255
  clear h255
  go_cut [] from 18 (fun wx => PrP w wx R hi w.heap.size hi B7 (headD (b, 0)).2.2 (headD (b, 0)).2.1)
  case first =>
    cases hbt : bit f 128 with
    | false =>
      have e : headD (b, 0) = (f, 0, tkS (b, 0) 1) := by unfold headD; rw [HFF.out, hbt, if_neg (by simp)]
      have HE := Lib.hid e
      clear e
      go_wp2
      go_meet
      rw [HE.out]
      exact H3.out
    | true =>
      have e : headD (b, 0) = (f, nB (tkS (b, 0) 1), tkS (tkS (b, 0) 1) 1) := by unfold headD; rw [HFF.out, hbt, if_pos rfl]
      have HE := Lib.hid e
      clear e
      go_wp2_with (go_at_call 88; ((with_reducible refine (RdByte_any H3.out.rd).mono ?_); rintro e w4 ⟨rfl, r4, a4⟩; have H4 := Lib.hid ((H3.out.step (s' := tkS (tkS (b, 0) 1) 1) r4 a4).put7 (nB (tkS (b, 0) 1))); have z8 := blk_free (H3.out.step (s' := tkS (tkS (b, 0) 1) 1) r4 a4).b7 0; have y8 := blk_cell (H3.out.step (s' := tkS (tkS (b, 0) 1) 1) r4 a4).b7 0 (v := .int .u8 0) rfl; clear r4 a4))
      go_meet
      rw [HE.out]
      exact H4.out
  case rest =>
    have hd1 : (headD (b, 0)).1 = f := by rw [← HFF.out]; unfold headD; split <;> rfl
    have hrd : readD b = endD b.length (restD (headD (b, 0)).1 (headD (b, 0)).2.1 (headD (b, 0)).2.2) := rfl
    rw [hd1] at hrd
    have HC := Lib.hid hcut
    have HRD := Lib.hid hrd
    clear hcut hrd hd1 H3 HR HBR p5 p7 z7 y7 E1 HFF SL
    generalize (headD (b, 0)).2.1 = t at *
    generalize (headD (b, 0)).2.2 = s at *
    obtain ⟨t0, t1⟩ := H255.out
    have hfe := (andB' H255.out).2.2.2.2.2
    have HFE := Lib.hid hfe
    clear hfe hfa
    have K1 : Hid (PrS w (wc.alloc (.cells #[.bool (bit f 32), .bool (bit f 16), .int .u8 (f % 8), .int .i64 0, .bool false, .int .i64 0, .int .i64 0, .bool false, .int .i64 0] 77)) R hi w.heap.size hi B7 wc.heap.size s t (dC f 0 false 0 0 false 0)) := Lib.hid (HC.out.box _)
    generalize hP : picD t s = P at *
    generalize hQ : basD t P.2 = Q at *
    generalize hBo : bothD t Q.2 = Bo at *
    have HP := Lib.hid hP
    have HQ := Lib.hid hQ
    have HB := Lib.hid hBo
    clear hP hQ hBo
    obtain ⟨⟨pic, wd⟩, s1⟩ := P
    obtain ⟨bs, s2⟩ := Q
    obtain ⟨q, s3⟩ := Bo
    have HQB : Hid (Byt s2.1 → 0 ≤ q ∧ q ≤ 255) := Lib.hid (fun hs => by
      have e := HB.out
      unfold bothD at e
      split at e
      · cases e; exact nB_bd hs
      · cases e; exact ⟨by decide, by decide⟩)
    go_upto_if 41 with (first | (go_at_call 100; ((with_reducible refine (NumPic K1.out H255.out).mono ?_); rintro e w5 ⟨rfl, h5⟩; rw [HP.out] at h5 ⊢; have K5 : Hid (PrS w (w5.setCell ⟨wc.heap.size, 3, none⟩ (.int .i64 pic)) R hi w.heap.size hi B7 wc.heap.size s1 t (dC f pic wd 0 0 false 0)) := Lib.hid (h5.put8 3 (.int .i64 pic)); have x3 := blk_cell h5.b8 3 (v := .int .i64 0) rfl; have z3 := blk_free h5.b8 3; clear h5)) | (go_at_call 100; ((with_reducible refine (NumBas K5.out H255.out).mono ?_); rintro e w6 ⟨rfl, h6⟩; rw [HQ.out] at h6 ⊢; have K6 : Hid (PrS w (w6.setCell ⟨wc.heap.size, 5, none⟩ (.int .i64 bs)) R hi w.heap.size hi B7 wc.heap.size s2 t (dC f pic wd bs 0 false 0)) := Lib.hid (h6.put8 5 (.int .i64 bs)); have x5 := blk_cell h6.b8 5 (v := .int .i64 0) rfl; have z5 := blk_free h6.b8 5; have K7 := Lib.hid (K6.out.on (More.alloc _ (.cells #[.int .u64 0] 145))); have y7 := blk_cell K7.out.b7 0 (v := .int .u8 t) rfl; clear h6 x3 z3)))
    have B10 := Lib.hid (blk_new (w6.setCell ⟨wc.heap.size, 5, none⟩ (.int .i64 bs)) (.cells #[.int .u64 0] 145))
    have hqb := HQB.out K6.out.rd.byt
    have HQBB := Lib.hid hqb
    have h108 : wc.heap.size < (w6.setCell ⟨wc.heap.size, 5, none⟩ (.int .i64 bs)).heap.size := blk_lt K6.out.b8
    clear hqb
    generalize (w6.setCell ⟨wc.heap.size, 5, none⟩ (.int .i64 bs)).alloc (.cells #[.int .u64 0] 145) = W7 at *
    have hsz : (w6.setCell ⟨wc.heap.size, 5, none⟩ (.int .i64 bs)).heap.size = w6.heap.size := by simp
    rw [hsz] at B10 h108
    generalize w6.heap.size = N10 at *
    generalize wc.heap.size = B8 at *
    clear K1 K5 K6 x5 z5 hsz HC
    have p5 := blk_cell K7.out.b5 0 (v := .pointer (some ⟨R, 0, none⟩)) rfl
    have z10 := blk_free B10.out 0
    have y10 := blk_cell B10.out 0 (v := .int .u64 0) rfl
    go_cut [] from 41 (fun wx => PrQ w wx R hi w.heap.size hi B7 B8 N10 s3 t (dC f pic wd bs 0 false 0) q)
    case first =>
      cases hbt : (bit t 32 || bit t 16) with
      | false =>
        have e := HB.out
        unfold bothD at e
        rw [hbt, if_neg (by simp)] at e
        have hfe := HFE.out
        rw [hbt] at hfe
        have HE : Hid (0 = q ∧ s2 = s3) := Lib.hid (by cases e; exact ⟨rfl, rfl⟩)
        clear e hbt
        go_wp2
        go_meet
        rw [← HE.out.1, ← HE.out.2]
        exact ⟨K7.out, B10.out⟩
      | true =>
        have e := HB.out
        unfold bothD at e
        rw [hbt, if_pos rfl] at e
        have hfe := HFE.out
        rw [hbt] at hfe
        have HE : Hid (nB s2 = q ∧ tkS s2 1 = s3) := Lib.hid (by cases e; exact ⟨rfl, rfl⟩)
        have e1 : num (tkB s2.1 1) = q := HE.out.1
        have E1 := Lib.hid e1
        obtain ⟨q0, q1⟩ := HQBB.out
        clear e hbt e1
        go_wp2_with (go_at_call 88; ((with_reducible refine (RdByte_any K7.out.rd).mono ?_); rintro e w8 ⟨rfl, r8, a8⟩; rw [E1.out]; have K8 := Lib.hid (K7.out.step (s' := tkS s2 1) r8 a8); have B11 := Lib.hid (a8.blk B10.out (by have := K7.out.n1; have := K7.out.n5; have := K7.out.n7; have := K7.out.n8; omega)); have z11 := blk_free (a8.blk B10.out (by have := K7.out.n1; have := K7.out.n5; have := K7.out.n7; have := K7.out.n8; omega)) 0; have y11 := blk_cell (a8.blk B10.out (by have := K7.out.n1; have := K7.out.n5; have := K7.out.n7; have := K7.out.n8; omega)) 0 (v := .int .u64 0) rfl; clear r8 a8))
        go_meet
        have aT : Away (fun b => b = N10) w8 (w8.setCell ⟨N10, 0, none⟩ (.int .u64 q)) := (Away.refl (fun b => b = N10) w8).set (p := ⟨N10, 0, none⟩) rfl _
        rw [← HE.out.2]
        exact ⟨K8.out.put10 h108, blk_eq (blk_set B11.out 0 _) rfl⟩
    case rest =>
      have K8 := Lib.hid hcut
      have y5 := blk_cell hcut.1.b5 0 (v := .pointer (some ⟨R, 0, none⟩)) rfl
      clear hcut p5 z10 y10 y7 B10 K7
      have hrs : restD f t s = (mkD f t (pic, wd) bs q, s3) := by unfold restD; rw [HP.out]; simp only [HQ.out, HB.out]
      have HRS := Lib.hid hrs
      clear hrs
      obtain ⟨TV, hTV⟩ : ∃ TV, TV = (if bit t 32 then q / 64 else -1) := ⟨_, rfl⟩
      obtain ⟨KV, hKV⟩ : ∃ KV, KV = (if bit t 16 then q % 32 else -1) := ⟨_, rfl⟩
      have HTV := Lib.hid hTV
      have HKV := Lib.hid hKV
      clear hTV hKV
      obtain ⟨EV, hEV⟩ : ∃ EV, (if ¬ s3.2 = 0 then s3.2 else if 0 < s3.1.length then 4 else 0) = EV := ⟨_, rfl⟩
      have HEV := Lib.hid hEV
      have hsl := K8.out.1.rd.small
      by_cases he : s3.2 = 3
      · have hv : EV = 3 := by rw [← hEV, he]; rfl
        have hrd : readD b = (ds0, 0, 3) := by rw [HRD.out, HRS.out]; unfold endD; rw [if_pos he]
        subst hv
        have HE := Lib.hid hrd
        clear he hEV hrd hsl
        go_wp2_with first | (go_at_call 100; ((with_reducible refine (NumTier K8.out H255.out HQBB.out h108).mono ?_); rintro e w9 ⟨rfl, h9⟩; rw [← HTV.out]; obtain ⟨h9, b9⟩ := h9; have K9 : Hid (PrS w (w9.setCell ⟨B8, 6, none⟩ (.int .i64 TV)) R hi w.heap.size hi B7 B8 s3 t (dC f pic wd bs TV (bit t 32 && bit q 32) 0)) := Lib.hid (h9.put8 6 (.int .i64 TV)); have B9 := Lib.hid (blk_other b9 ⟨B8, 6, none⟩ (.int .i64 TV) (by show N10 ≠ B8; omega)); have x6 := blk_cell h9.b8 6 (v := .int .i64 0) rfl; have z6 := blk_free h9.b8 6; clear h9 b9)) | (go_at_call 100; ((with_reducible refine (NumKey (PrQ.mk K9.out B9.out) H255.out HQBB.out).mono ?_); rintro e w10 ⟨rfl, h10⟩; rw [← HKV.out]; obtain ⟨h10, b10⟩ := h10; have K10 : Hid (PrS w (w10.setCell ⟨B8, 8, none⟩ (.int .i64 KV)) R hi w.heap.size hi B7 B8 s3 t (dC f pic wd bs TV (bit t 32 && bit q 32) KV)) := Lib.hid (h10.put8 8 (.int .i64 KV)); have x8 := blk_cell h10.b8 8 (v := .int .i64 0) rfl; have z8 := blk_free h10.b8 8; have y55 := blk_cell K10.out.b5 0 (v := .pointer (some ⟨R, 0, none⟩)) rfl; clear h10 b10 x6 z6)) | (go_at_call 92; ((with_reducible refine (RdLeft_any K10.out.rd).mono ?_); rintro e w11 ⟨rfl, rfl⟩)) | (go_at_call 81; ((with_reducible refine (RdEnd_any K10.out.rd).mono ?_); rintro e w12 ⟨rfl, rfl⟩; rw [HEV.out]; have g0 := blk_cell K10.out.br 0 (v := .bool false) rfl; have zz0 := blk_free K10.out.br 0; have g1 := blk_cell K10.out.br 1 (v := .bool false) rfl; have zz1 := blk_free K10.out.br 1; have g2 := blk_cell K10.out.br 2 (v := .int .u8 0) rfl; have zz2 := blk_free K10.out.br 2; have g3 := blk_cell K10.out.br 3 (v := .int .i64 0) rfl; have zz3 := blk_free K10.out.br 3; have g4 := blk_cell K10.out.br 4 (v := .bool false) rfl; have zz4 := blk_free K10.out.br 4; have g5 := blk_cell K10.out.br 5 (v := .int .i64 0) rfl; have zz5 := blk_free K10.out.br 5; have g6 := blk_cell K10.out.br 6 (v := .int .i64 0) rfl; have zz6 := blk_free K10.out.br 6; have g7 := blk_cell K10.out.br 7 (v := .bool false) rfl; have zz7 := blk_free K10.out.br 7; have g8 := blk_cell K10.out.br 8 (v := .int .i64 0) rfl; have zz8 := blk_free K10.out.br 8; have d0 := blk_cell K10.out.b8 0 (v := .bool (bit f 32)) rfl; have d1 := blk_cell K10.out.b8 1 (v := .bool (bit f 16)) rfl; have d2 := blk_cell K10.out.b8 2 (v := .int .u8 (f % 8)) rfl; have d3 := blk_cell K10.out.b8 3 (v := .int .i64 pic) rfl; have d4 := blk_cell K10.out.b8 4 (v := .bool wd) rfl; have d5 := blk_cell K10.out.b8 5 (v := .int .i64 bs) rfl; have d6 := blk_cell K10.out.b8 6 (v := .int .i64 TV) rfl; have d7 := blk_cell K10.out.b8 7 (v := .bool (bit t 32 && bit q 32)) rfl; have d8 := blk_cell K10.out.b8 8 (v := .int .i64 KV) rfl))
        (refine bodyPost_ret (v := .tuple #[.agg #[.bool false, .bool false, .int .u8 0, .int .i64 0, .bool false, .int .i64 0, .int .i64 0, .bool false, .int .i64 0], .int .i64 0, .int .i64 3]) ?rr1 rfl ?_; (case rr1 => (simp [results, Try.results41, go_sem, g0, g1, g2, g3, g4, g5, g6, g7, g8])))
        have MM := Lib.hid (fun a0 a1 a2 a3 a4 a5 a6 a7 a8 => More.st9 K10.out.more w.heap.size (Nat.le_refl _) a0 a1 a2 a3 a4 a5 a6 a7 a8)
        refine ⟨by rw [HE.out]; rfl, ?_⟩
        exact MM.out _ _ _ _ _ _ _ _ _
      · have hq3 : (EV == 3) = false := by
          have : ¬ EV = 3 := by
            rw [← hEV]
            split
            · exact he
            · split <;> decide
          simpa using this
        have hrd : readD b = (mkD f t (pic, wd) bs q, (b.length : Int) - s3.1.length, 0) := by rw [HRD.out, HRS.out]; unfold endD; rw [if_neg he]
        have HE := Lib.hid hrd
        clear he hEV hrd
        go_wp2_with first | (go_at_call 100; ((with_reducible refine (NumTier K8.out H255.out HQBB.out h108).mono ?_); rintro e w9 ⟨rfl, h9⟩; rw [← HTV.out]; obtain ⟨h9, b9⟩ := h9; have K9 : Hid (PrS w (w9.setCell ⟨B8, 6, none⟩ (.int .i64 TV)) R hi w.heap.size hi B7 B8 s3 t (dC f pic wd bs TV (bit t 32 && bit q 32) 0)) := Lib.hid (h9.put8 6 (.int .i64 TV)); have B9 := Lib.hid (blk_other b9 ⟨B8, 6, none⟩ (.int .i64 TV) (by show N10 ≠ B8; omega)); have x6 := blk_cell h9.b8 6 (v := .int .i64 0) rfl; have z6 := blk_free h9.b8 6; clear h9 b9)) | (go_at_call 100; ((with_reducible refine (NumKey (PrQ.mk K9.out B9.out) H255.out HQBB.out).mono ?_); rintro e w10 ⟨rfl, h10⟩; rw [← HKV.out]; obtain ⟨h10, b10⟩ := h10; have K10 : Hid (PrS w (w10.setCell ⟨B8, 8, none⟩ (.int .i64 KV)) R hi w.heap.size hi B7 B8 s3 t (dC f pic wd bs TV (bit t 32 && bit q 32) KV)) := Lib.hid (h10.put8 8 (.int .i64 KV)); have x8 := blk_cell h10.b8 8 (v := .int .i64 0) rfl; have z8 := blk_free h10.b8 8; have y55 := blk_cell K10.out.b5 0 (v := .pointer (some ⟨R, 0, none⟩)) rfl; clear h10 b10 x6 z6)) | (go_at_call 92; ((with_reducible refine (RdLeft_any K10.out.rd).mono ?_); rintro e w11 ⟨rfl, rfl⟩)) | (go_at_call 81; ((with_reducible refine (RdEnd_any K10.out.rd).mono ?_); rintro e w12 ⟨rfl, rfl⟩; rw [HEV.out]; have g0 := blk_cell K10.out.br 0 (v := .bool false) rfl; have zz0 := blk_free K10.out.br 0; have g1 := blk_cell K10.out.br 1 (v := .bool false) rfl; have zz1 := blk_free K10.out.br 1; have g2 := blk_cell K10.out.br 2 (v := .int .u8 0) rfl; have zz2 := blk_free K10.out.br 2; have g3 := blk_cell K10.out.br 3 (v := .int .i64 0) rfl; have zz3 := blk_free K10.out.br 3; have g4 := blk_cell K10.out.br 4 (v := .bool false) rfl; have zz4 := blk_free K10.out.br 4; have g5 := blk_cell K10.out.br 5 (v := .int .i64 0) rfl; have zz5 := blk_free K10.out.br 5; have g6 := blk_cell K10.out.br 6 (v := .int .i64 0) rfl; have zz6 := blk_free K10.out.br 6; have g7 := blk_cell K10.out.br 7 (v := .bool false) rfl; have zz7 := blk_free K10.out.br 7; have g8 := blk_cell K10.out.br 8 (v := .int .i64 0) rfl; have zz8 := blk_free K10.out.br 8; have d0 := blk_cell K10.out.b8 0 (v := .bool (bit f 32)) rfl; have d1 := blk_cell K10.out.b8 1 (v := .bool (bit f 16)) rfl; have d2 := blk_cell K10.out.b8 2 (v := .int .u8 (f % 8)) rfl; have d3 := blk_cell K10.out.b8 3 (v := .int .i64 pic) rfl; have d4 := blk_cell K10.out.b8 4 (v := .bool wd) rfl; have d5 := blk_cell K10.out.b8 5 (v := .int .i64 bs) rfl; have d6 := blk_cell K10.out.b8 6 (v := .int .i64 TV) rfl; have d7 := blk_cell K10.out.b8 7 (v := .bool (bit t 32 && bit q 32)) rfl; have d8 := blk_cell K10.out.b8 8 (v := .int .i64 KV) rfl))
        (refine bodyPost_ret (v := .tuple #[.agg #[.bool (bit f 32), .bool (bit f 16), .int .u8 (f % 8), .int .i64 pic, .bool wd, .int .i64 bs, .int .i64 TV, .bool (bit t 32 && bit q 32), .int .i64 KV], .int .i64 ((b.length : Int) - s3.1.length), .int .i64 0]) ?rr2 rfl ?_; (case rr2 => (simp [results, Try.results41, go_sem, g0, g1, g2, g3, g4, g5, g6, g7, g8])))
        have MM := Lib.hid (fun a0 a1 a2 a3 a4 a5 a6 a7 a8 => More.st9 K10.out.more w.heap.size (Nat.le_refl _) a0 a1 a2 a3 a4 a5 a6 a7 a8)
        refine ⟨by rw [HE.out, HTV.out, HKV.out]; rfl, ?_⟩
        exact MM.out _ _ _ _ _ _ _ _ _
end Go.Proofs.Ytlnikmcimmnbmaa
