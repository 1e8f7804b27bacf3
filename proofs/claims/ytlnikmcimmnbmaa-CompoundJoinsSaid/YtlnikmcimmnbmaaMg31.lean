/- Merged from my texts CompC, FeedU. -/
import Derived.Test.YtlnikmcimmnbmaaMg30
import Derived.Test.YtlnikmcimmnbmaaMg29
/- Package compound: the first error; an item's chunk. -/
namespace Go.Proofs.Ytlnikmcimmnbmaa
set_option linter.unusedSimpArgs false
set_option linter.unusedVariables false
open Go.RowKit Go.Lib
set_option maxRecDepth 100000

theorem drop_getD {l : List Int} {j : Nat} (h : j < l.length) : l.drop j = l.getD j 0 :: l.drop (j + 1) := by
  rw [List.drop_eq_getElem_cons h, List.getD_eq_getElem?_getD, List.getElem?_eq_getElem h, Option.getD_some]
theorem FirstE_any (l : List Int) (v : Value) (w : World) (sl : SlI .i64 w v l) :
    Calls Try.prog 125 #[v] w fun e w' => e = .returned (.int .i64 (firstE l)) ∧ w = w' := by
  obtain ⟨oa, cap, rfl, hl63, hel, _⟩ := sl
  have HEL := Lib.hid hel
  clear hel
  go_enter Try.func125, Try.ntmps125
  go_wp2
  go_loop [7] (fun ix => ∃ j : Nat, j ≤ l.length ∧ ix = .int .i64 j ∧ firstE l = firstE (l.drop j)) (fun ix => l.length - (intOf ix).toNat)
  case atStart => exact ⟨0, by omega, rfl, rfl⟩
  case round =>
    obtain ⟨j, hj, rfl, hf⟩ := hrel
    have HF := Lib.hid hf
    clear hf
    by_cases hlt : j < l.length
    · obtain ⟨b, off, rfl, hb, hc⟩ := HEL.out j hlt
      have hd := Lib.hid (drop_getD hlt)
      have hlti : (j : Int) < (l.length : Int) := by omega
      generalize l.getD j 0 = x at *
      by_cases hx : x = 0
      · have b0 : (x != 0) = false := by simp [hx]
        have HX := Lib.hid hx
        clear hx
        go_wp2
        go_round
        case rel => exact ⟨j + 1, by omega, by go_num, by rw [HF.out, hd.out]; show (if x = 0 then _ else _) = _; rw [if_pos HX.out]⟩
        case measure => simp [intOf]; omega
      · have b0 : (x != 0) = true := by simp [hx]
        have HX := Lib.hid hx
        clear hx
        go_wp2
        go_ret
        exact ⟨by rw [HF.out, hd.out]; show _ = Ending.returned (.int .i64 (if x = 0 then _ else _)); rw [if_neg HX.out]; rfl, rfl⟩
    · obtain rfl : j = l.length := by omega
      have HE : Hid (firstE l = 0) := Lib.hid (by rw [HF.out, List.drop_length]; rfl)
      go_wp2
      go_ret
      exact ⟨by rw [HE.out]; rfl, rfl⟩
/-- Where an item's chunk lies: in a new block, or where the item's own one lies. -/
def FromB (w : World) (v vo : Value) : Prop := NewB w v ∨ v = vo
theorem SlI.off2 {k : IntKind} {D : Nat → Prop} {w w' : World} {v : Value} {l : List Int} (h : SlI k w v l) (hb : l ≠ [] → ∀ b, v.ownBlock = some b → ¬ D b) (a : Away D w w') : SlI k w' v l := by
  by_cases e : l = []
  · subst e
    obtain ⟨oa, cap, rfl, h2, h3, h4⟩ := h
    exact ⟨oa, cap, rfl, h2, fun i hi => by simp at hi, h4⟩
  · exact h.off (hb e) a
theorem SlI.old {k : IntKind} {w : World} {v : Value} {l : List Int} (h : SlI k w v l) (hl : l ≠ []) {b : Nat} (hb : v.ownBlock = some b) : b < w.heap.size := by
  obtain ⟨oa, cap, rfl, h2, h3, h4⟩ := h
  obtain ⟨b', off, rfl, hlt, _⟩ := h3 0 (List.length_pos_iff.2 hl)
  injection hb with hb
  subst hb
  exact hlt
theorem ChunkOf_any (x : Itm) (ob oc od oe : Option Addr) (cb cc cd ce : Nat) (w : World) (s : ItmS w (.slice ob x.rep.bl.length cb) (.slice oc x.msg.asks.length cc) (.slice od x.msg.lost.length cd) (.slice oe x.oth.2.2.1.length ce) x) (ok : ItmOK x) (hn : ItmN x) :
    Calls Try.prog 153 #[.agg #[.int .i64 x.kind, .bool x.rep.snd, .int .u32 x.rep.src, .int .u32 x.rep.inf.sec, .int .u32 x.rep.inf.frac, .int .u32 x.rep.inf.stamp, .int .u32 x.rep.inf.pkts, .int .u32 x.rep.inf.octs, .slice ob x.rep.bl.length cb, .int .i64 x.msg.kind, .int .u32 x.msg.snd, .int .u32 x.msg.med, .slice oc x.msg.asks.length cc, .slice od x.msg.lost.length cd, .int .u8 x.oth.1, .int .u8 x.oth.2.1, .slice oe x.oth.2.2.1.length ce]] w fun e w' => ∃ vx, e = .returned (.tuple #[.agg #[.int .u8 (chunkI x).1.1, .int .u8 (chunkI x).1.2.1, vx], .int .i64 (chunkI x).2]) ∧ SlI .u8 w' vx (chunkI x).1.2.2.1 ∧ More w w' ∧ FromB w vx (.slice oe x.oth.2.2.1.length ce) := by
  have S := Lib.hid s
  have HK := Lib.hid ok
  have HN := Lib.hid hn
  obtain ⟨W0, hW0⟩ : ∃ W0, (w.alloc (.cells #[.int .i64 x.kind, .bool x.rep.snd, .int .u32 x.rep.src, .int .u32 x.rep.inf.sec, .int .u32 x.rep.inf.frac, .int .u32 x.rep.inf.stamp, .int .u32 x.rep.inf.pkts, .int .u32 x.rep.inf.octs, .slice ob x.rep.bl.length cb, .int .i64 x.msg.kind, .int .u32 x.msg.snd, .int .u32 x.msg.med, .slice oc x.msg.asks.length cc, .slice od x.msg.lost.length cd, .int .u8 x.oth.1, .int .u8 x.oth.2.1, .slice oe x.oth.2.2.1.length ce] 122)).alloc (.cells #[.int .u8 0, .int .u8 0, .slice none 0 0] 30) = W0 := ⟨_, rfl⟩
  have M0 : Hid (More w W0) := Lib.hid (by rw [← hW0]; exact (More.alloc _ _).al _)
  have X0 : Hid (W0.heap[w.heap.size]? = some (.cells #[.int .i64 x.kind, .bool x.rep.snd, .int .u32 x.rep.src, .int .u32 x.rep.inf.sec, .int .u32 x.rep.inf.frac, .int .u32 x.rep.inf.stamp, .int .u32 x.rep.inf.pkts, .int .u32 x.rep.inf.octs, .slice ob x.rep.bl.length cb, .int .i64 x.msg.kind, .int .u32 x.msg.snd, .int .u32 x.msg.med, .slice oc x.msg.asks.length cc, .slice od x.msg.lost.length cd, .int .u8 x.oth.1, .int .u8 x.oth.2.1, .slice oe x.oth.2.2.1.length ce] 122 (0, 0))) := Lib.hid (by rw [← hW0]; exact blk_alloc (blk_new w _) _)
  have C0 : Hid (W0.heap[w.heap.size + 1]? = some (.cells #[.int .u8 0, .int .u8 0, .slice none 0 0] 30 (0, 0))) := Lib.hid (by rw [← hW0]; exact blk_new2 (by simp))
  have HR := Lib.hid (RightI_any x ob oc od oe cb cc cd ce W0 (S.out.keep M0.out) HK.out HN.out)
  have HW := Lib.hid hW0
  clear s ok hn hW0
  cases hr : rightI x with
  | false =>
    have HRR := Lib.hid hr
    rw [chunkI_no hr]
    clear hr
    go_enter Try.func153, Try.ntmps153
    go_wp2_with (go_at_call 63; ((with_reducible refine ((HW.out ▸ HR.out)).mono ?_); rintro e w1 ⟨rfl, m⟩; rw [HRR.out]; have M1 := Lib.hid (M0.out.trans (HW.out ▸ m)); have X1 := Lib.hid (blk_more (HW.out ▸ m) X0.out); have C1 := Lib.hid (blk_more (HW.out ▸ m) C0.out); obtain ⟨⟨k0, k1, k2, k3, k4, k5, k6, k7, k8⟩, ⟨k9, k10, k11, k12, k13⟩, k14, k15, k16⟩ := cells17 X1.out; have f0 := blk_cell C1.out 0 (v := .int .u8 0) rfl; have f1 := blk_cell C1.out 1 (v := .int .u8 0) rfl; have f2 := blk_cell C1.out 2 (v := .slice none 0 0) rfl; have z0 := blk_free C1.out 0; have z1 := blk_free C1.out 1; have z2 := blk_free C1.out 2; clear m))
    have fin := st3_blk C1.out (.int .u8 0) (.int .u8 0) (.slice none 0 0)
    have a3 : Away (fun b => b = w.heap.size + 1) w1 (((w1.setCell ⟨w.heap.size + 1, 0, none⟩ (.int .u8 0)).setCell ⟨w.heap.size + 1, 1, none⟩ (.int .u8 0)).setCell ⟨w.heap.size + 1, 2, none⟩ (.slice none 0 0)) := (((Away.refl (fun b => b = w.heap.size + 1) w1).set (p := ⟨w.heap.size + 1, 0, none⟩) rfl _).set (p := ⟨w.heap.size + 1, 1, none⟩) rfl _).set (p := ⟨w.heap.size + 1, 2, none⟩) rfl _
    have mf := Away.to_more M1.out a3 (fun b e => by omega)
    have sf := SlI.nil .u8 (((w1.setCell ⟨w.heap.size + 1, 0, none⟩ (.int .u8 0)).setCell ⟨w.heap.size + 1, 1, none⟩ (.int .u8 0)).setCell ⟨w.heap.size + 1, 2, none⟩ (.slice none 0 0))
    obtain ⟨WF, hWF⟩ : ∃ WF, (((w1.setCell ⟨w.heap.size + 1, 0, none⟩ (.int .u8 0)).setCell ⟨w.heap.size + 1, 1, none⟩ (.int .u8 0)).setCell ⟨w.heap.size + 1, 2, none⟩ (.slice none 0 0)) = WF := ⟨_, rfl⟩
    rw [hWF] at fin mf sf ⊢
    clear hWF a3
    have r0 := blk_cell fin 0 (v := .int .u8 0) rfl
    have r1 := blk_cell fin 1 (v := .int .u8 0) rfl
    have r2 := blk_cell fin 2 (v := .slice none 0 0) rfl
    (refine bodyPost_ret (v := .tuple #[.agg #[.int .u8 0, .int .u8 0, .slice none 0 0], .int .i64 1]) ?rr1 rfl ?_; (case rr1 => (simp [results, Try.results153, go_sem, r0, r1, r2])))
    exact ⟨_, rfl, sf, mf, Or.inl (NewB.nil w)⟩
  | true =>
    have HRR := Lib.hid hr
    rcases rightI_kind hr with hk | hk | hk
    · have b1 : (x.kind == 1) = true := by rw [hk]; rfl
      have b2 : (x.kind == 2) = false := by rw [hk]; rfl
      have HC : Hid (chunkI x = writeR x.rep) := Lib.hid (by unfold chunkI; rw [if_neg (by rw [hr]; decide), if_pos hk])
      rw [HC.out]
      clear hr hk
      go_enter Try.func153, Try.ntmps153
      go_wp2_with (first | (go_at_call 63; ((with_reducible refine ((HW.out ▸ HR.out)).mono ?_); rintro e w1 ⟨rfl, m⟩; rw [HRR.out]; have M1 := Lib.hid (M0.out.trans (HW.out ▸ m)); have X1 := Lib.hid (blk_more (HW.out ▸ m) X0.out); have C1 := Lib.hid (blk_more (HW.out ▸ m) C0.out); obtain ⟨⟨k0, k1, k2, k3, k4, k5, k6, k7, k8⟩, ⟨k9, k10, k11, k12, k13⟩, k14, k15, k16⟩ := cells17 X1.out; have f0 := blk_cell C1.out 0 (v := .int .u8 0) rfl; have f1 := blk_cell C1.out 1 (v := .int .u8 0) rfl; have f2 := blk_cell C1.out 2 (v := .slice none 0 0) rfl; have z0 := blk_free C1.out 0; have z1 := blk_free C1.out 1; have z2 := blk_free C1.out 2; clear m)) | (go_at_call 16; ((with_reducible refine (Write08_new x.rep (S.out.bl.keep keepsBlk M1.out) HK.out.rep).mono ?_); rintro e w2 ⟨vx, rfl, s2, m2, n2⟩; have S2 := Lib.hid s2; have N2 := Lib.hid n2; obtain ⟨o2, c2, rfl, _⟩ := s2; have M2 := Lib.hid (M1.out.trans m2); have C2 := Lib.hid (blk_more m2 C1.out); have g0 := blk_cell C2.out 0 (v := .int .u8 0) rfl; have g1 := blk_cell C2.out 1 (v := .int .u8 0) rfl; have g2 := blk_cell C2.out 2 (v := .slice none 0 0) rfl; have y0 := blk_free C2.out 0; have y1 := blk_free C2.out 1; have y2 := blk_free C2.out 2; clear m2 n2)))
      have fin := st3_blk C2.out (.int .u8 (writeR x.rep).1.1) (.int .u8 (writeR x.rep).1.2.1) (.slice o2 (writeR x.rep).1.2.2.1.length c2)
      have a3 : Away (fun b => b = w.heap.size + 1) w2 (((w2.setCell ⟨w.heap.size + 1, 0, none⟩ (.int .u8 (writeR x.rep).1.1)).setCell ⟨w.heap.size + 1, 1, none⟩ (.int .u8 (writeR x.rep).1.2.1)).setCell ⟨w.heap.size + 1, 2, none⟩ (.slice o2 (writeR x.rep).1.2.2.1.length c2)) := (((Away.refl (fun b => b = w.heap.size + 1) w2).set (p := ⟨w.heap.size + 1, 0, none⟩) rfl _).set (p := ⟨w.heap.size + 1, 1, none⟩) rfl _).set (p := ⟨w.heap.size + 1, 2, none⟩) rfl _
      have mf := Away.to_more M2.out a3 (fun b e => by omega)
      have sf := S2.out.off2 (fun _ b hb (e : b = w.heap.size + 1) => by have := N2.out b hb; have := blk_lt C1.out; omega) a3
      obtain ⟨WF, hWF⟩ : ∃ WF, (((w2.setCell ⟨w.heap.size + 1, 0, none⟩ (.int .u8 (writeR x.rep).1.1)).setCell ⟨w.heap.size + 1, 1, none⟩ (.int .u8 (writeR x.rep).1.2.1)).setCell ⟨w.heap.size + 1, 2, none⟩ (.slice o2 (writeR x.rep).1.2.2.1.length c2)) = WF := ⟨_, rfl⟩
      rw [hWF] at fin mf sf ⊢
      clear hWF a3
      have r0 := blk_cell fin 0 (v := .int .u8 (writeR x.rep).1.1) rfl
      have r1 := blk_cell fin 1 (v := .int .u8 (writeR x.rep).1.2.1) rfl
      have r2 := blk_cell fin 2 (v := .slice o2 (writeR x.rep).1.2.2.1.length c2) rfl
      (refine bodyPost_ret (v := .tuple #[.agg #[.int .u8 (writeR x.rep).1.1, .int .u8 (writeR x.rep).1.2.1, .slice o2 (writeR x.rep).1.2.2.1.length c2], .int .i64 (writeR x.rep).2]) ?rr2 rfl ?_; (case rr2 => (simp [results, Try.results153, go_sem, r0, r1, r2])))
      exact ⟨_, rfl, sf, mf, Or.inl (fun g hg => Nat.le_trans M1.out.size (N2.out g hg))⟩
    · have b1 : (x.kind == 1) = false := by rw [hk]; rfl
      have b2 : (x.kind == 2) = true := by rw [hk]; rfl
      have HC : Hid (chunkI x = writeM x.msg) := Lib.hid (by unfold chunkI; rw [if_neg (by rw [hr]; decide), if_neg (by rw [hk]; decide), if_pos hk])
      rw [HC.out]
      clear hr hk
      go_enter Try.func153, Try.ntmps153
      go_wp2_with (first | (go_at_call 63; ((with_reducible refine ((HW.out ▸ HR.out)).mono ?_); rintro e w1 ⟨rfl, m⟩; rw [HRR.out]; have M1 := Lib.hid (M0.out.trans (HW.out ▸ m)); have X1 := Lib.hid (blk_more (HW.out ▸ m) X0.out); have C1 := Lib.hid (blk_more (HW.out ▸ m) C0.out); obtain ⟨⟨k0, k1, k2, k3, k4, k5, k6, k7, k8⟩, ⟨k9, k10, k11, k12, k13⟩, k14, k15, k16⟩ := cells17 X1.out; have f0 := blk_cell C1.out 0 (v := .int .u8 0) rfl; have f1 := blk_cell C1.out 1 (v := .int .u8 0) rfl; have f2 := blk_cell C1.out 2 (v := .slice none 0 0) rfl; have z0 := blk_free C1.out 0; have z1 := blk_free C1.out 1; have z2 := blk_free C1.out 2; clear m)) | (go_at_call 46; ((with_reducible refine (Write09_new x.msg _ _ _ (S.out.ms.keep M1.out) HK.out.msg HN.out.lost).mono ?_); rintro e w2 ⟨vx, rfl, s2, m2, n2⟩; have S2 := Lib.hid s2; have N2 := Lib.hid n2; obtain ⟨o2, c2, rfl, _⟩ := s2; have M2 := Lib.hid (M1.out.trans m2); have C2 := Lib.hid (blk_more m2 C1.out); have g0 := blk_cell C2.out 0 (v := .int .u8 0) rfl; have g1 := blk_cell C2.out 1 (v := .int .u8 0) rfl; have g2 := blk_cell C2.out 2 (v := .slice none 0 0) rfl; have y0 := blk_free C2.out 0; have y1 := blk_free C2.out 1; have y2 := blk_free C2.out 2; clear m2 n2)))
      have fin := st3_blk C2.out (.int .u8 (writeM x.msg).1.1) (.int .u8 (writeM x.msg).1.2.1) (.slice o2 (writeM x.msg).1.2.2.1.length c2)
      have a3 : Away (fun b => b = w.heap.size + 1) w2 (((w2.setCell ⟨w.heap.size + 1, 0, none⟩ (.int .u8 (writeM x.msg).1.1)).setCell ⟨w.heap.size + 1, 1, none⟩ (.int .u8 (writeM x.msg).1.2.1)).setCell ⟨w.heap.size + 1, 2, none⟩ (.slice o2 (writeM x.msg).1.2.2.1.length c2)) := (((Away.refl (fun b => b = w.heap.size + 1) w2).set (p := ⟨w.heap.size + 1, 0, none⟩) rfl _).set (p := ⟨w.heap.size + 1, 1, none⟩) rfl _).set (p := ⟨w.heap.size + 1, 2, none⟩) rfl _
      have mf := Away.to_more M2.out a3 (fun b e => by omega)
      have sf := S2.out.off2 (fun _ b hb (e : b = w.heap.size + 1) => by have := N2.out b hb; have := blk_lt C1.out; omega) a3
      obtain ⟨WF, hWF⟩ : ∃ WF, (((w2.setCell ⟨w.heap.size + 1, 0, none⟩ (.int .u8 (writeM x.msg).1.1)).setCell ⟨w.heap.size + 1, 1, none⟩ (.int .u8 (writeM x.msg).1.2.1)).setCell ⟨w.heap.size + 1, 2, none⟩ (.slice o2 (writeM x.msg).1.2.2.1.length c2)) = WF := ⟨_, rfl⟩
      rw [hWF] at fin mf sf ⊢
      clear hWF a3
      have r0 := blk_cell fin 0 (v := .int .u8 (writeM x.msg).1.1) rfl
      have r1 := blk_cell fin 1 (v := .int .u8 (writeM x.msg).1.2.1) rfl
      have r2 := blk_cell fin 2 (v := .slice o2 (writeM x.msg).1.2.2.1.length c2) rfl
      (refine bodyPost_ret (v := .tuple #[.agg #[.int .u8 (writeM x.msg).1.1, .int .u8 (writeM x.msg).1.2.1, .slice o2 (writeM x.msg).1.2.2.1.length c2], .int .i64 (writeM x.msg).2]) ?rr3 rfl ?_; (case rr3 => (simp [results, Try.results153, go_sem, r0, r1, r2])))
      exact ⟨_, rfl, sf, mf, Or.inl (fun g hg => Nat.le_trans M1.out.size (N2.out g hg))⟩
    · have b1 : (x.kind == 1) = false := by rw [hk]; rfl
      have b2 : (x.kind == 2) = false := by rw [hk]; rfl
      have HC : Hid (chunkI x = (x.oth, 0)) := Lib.hid (by unfold chunkI; rw [if_neg (by rw [hr]; decide), if_neg (by rw [hk]; decide), if_neg (by rw [hk]; decide)])
      rw [HC.out]
      clear hr hk
      go_enter Try.func153, Try.ntmps153
      go_wp2_with (go_at_call 63; ((with_reducible refine ((HW.out ▸ HR.out)).mono ?_); rintro e w1 ⟨rfl, m⟩; rw [HRR.out]; have M1 := Lib.hid (M0.out.trans (HW.out ▸ m)); have X1 := Lib.hid (blk_more (HW.out ▸ m) X0.out); have C1 := Lib.hid (blk_more (HW.out ▸ m) C0.out); obtain ⟨⟨k0, k1, k2, k3, k4, k5, k6, k7, k8⟩, ⟨k9, k10, k11, k12, k13⟩, k14, k15, k16⟩ := cells17 X1.out; have f0 := blk_cell C1.out 0 (v := .int .u8 0) rfl; have f1 := blk_cell C1.out 1 (v := .int .u8 0) rfl; have f2 := blk_cell C1.out 2 (v := .slice none 0 0) rfl; have z0 := blk_free C1.out 0; have z1 := blk_free C1.out 1; have z2 := blk_free C1.out 2; clear m))
      have fin := st3_blk C1.out (.int .u8 x.oth.1) (.int .u8 x.oth.2.1) (.slice oe x.oth.2.2.1.length ce)
      have a3 : Away (fun b => b = w.heap.size + 1) w1 (((w1.setCell ⟨w.heap.size + 1, 0, none⟩ (.int .u8 x.oth.1)).setCell ⟨w.heap.size + 1, 1, none⟩ (.int .u8 x.oth.2.1)).setCell ⟨w.heap.size + 1, 2, none⟩ (.slice oe x.oth.2.2.1.length ce)) := (((Away.refl (fun b => b = w.heap.size + 1) w1).set (p := ⟨w.heap.size + 1, 0, none⟩) rfl _).set (p := ⟨w.heap.size + 1, 1, none⟩) rfl _).set (p := ⟨w.heap.size + 1, 2, none⟩) rfl _
      have mf := Away.to_more M1.out a3 (fun b e => by omega)
      have sf := (S.out.bo.keep M1.out).off2 (fun hl b hb (e : b = w.heap.size + 1) => by have := S.out.bo.old hl hb; omega) a3
      obtain ⟨WF, hWF⟩ : ∃ WF, (((w1.setCell ⟨w.heap.size + 1, 0, none⟩ (.int .u8 x.oth.1)).setCell ⟨w.heap.size + 1, 1, none⟩ (.int .u8 x.oth.2.1)).setCell ⟨w.heap.size + 1, 2, none⟩ (.slice oe x.oth.2.2.1.length ce)) = WF := ⟨_, rfl⟩
      rw [hWF] at fin mf sf ⊢
      clear hWF a3
      have r0 := blk_cell fin 0 (v := .int .u8 x.oth.1) rfl
      have r1 := blk_cell fin 1 (v := .int .u8 x.oth.2.1) rfl
      have r2 := blk_cell fin 2 (v := .slice oe x.oth.2.2.1.length ce) rfl
      (refine bodyPost_ret (v := .tuple #[.agg #[.int .u8 x.oth.1, .int .u8 x.oth.2.1, .slice oe x.oth.2.2.1.length ce], .int .i64 0]) ?rr4 rfl ?_; (case rr4 => (simp [results, Try.results153, go_sem, r0, r1, r2])))
      exact ⟨_, rfl, sf, mf, Or.inr rfl⟩
end Go.Proofs.Ytlnikmcimmnbmaa
/- Messages: what is written is a chunk, and what is read is not much. -/
namespace Go.Proofs.Ytlnikmcimmnbmaa
set_option linter.unusedSimpArgs false
set_option linter.unusedVariables false
open Go.RowKit Go.Lib
set_option maxRecDepth 100000

theorem writeM_ok {m : Msg} (hk : MsgOK m) : ChunkOK (writeM m).1 := by
  cases h : rightM m with
  | false => rw [writeM_no h]; exact ⟨by decide, by decide, byt_nil⟩
  | true =>
    rw [writeM_yes h]
    have hbys : ∀ x s, 0 ≤ s ∧ s ≤ 8 → Byt (bysA x s) := fun x s hs => by rw [bysA_pos x s hs]; exact Byt_bys _ _
    have h1 : ∀ l : List (Int × Int), Byt (asB l) := by
      intro l
      induction l with
      | nil => exact byt_nil
      | cons a l ih => rw [asB_cons]; exact byt_app (byt_app (hbys _ _ (by decide)) (byt_app (hbys _ _ (by decide)) (hbys _ _ (by decide)))) ih
    have h2 : ∀ l : List (Int × Int), Byt (psB l) := by
      intro l
      induction l with
      | nil => exact byt_nil
      | cons a l ih => rw [psB_cons]; exact byt_app (byt_app (hbys _ _ (by decide)) (hbys _ _ (by decide))) ih
    refine ⟨?_, ?_, byt_app (hbys _ _ (by decide)) (byt_app (hbys _ _ (by decide)) (byt_app (h1 _) (h2 _)))⟩
    · show 0 ≤ (formM m.kind).2 ∧ (formM m.kind).2 ≤ 255
      unfold formM; split
      · decide
      · split <;> decide
    · show 0 ≤ (formM m.kind).1 ∧ (formM m.kind).1 ≤ 255
      unfold formM; split
      · decide
      · split <;> decide
theorem writeM_small (m : Msg) : (writeM m).1.2.2.1.length ≤ 196 := by
  cases h : rightM m with
  | false => rw [writeM_no h]; exact Nat.zero_le _
  | true => rw [writeM_yes h]; exact (msgB_le h).1
theorem prF_le (ps : List (Int × Int)) : (prF ps).length ≤ 17 * ps.length := (prF_len ps).2
theorem readAsksF_cnt : ∀ (n : Nat) (acc : List (Int × Int)) (s : RdS), s.1.length ≤ n → (readAsksF n acc s).1.length ≤ acc.length + s.1.length
  | 0, acc, s, _ => Nat.le_add_right _ _
  | n + 1, acc, s, h => by
    by_cases hs : s.1 = []
    · obtain ⟨l, e⟩ := s
      simp only at hs
      subst hs
      rw [readAsksF_nil]; exact Nat.le_add_right _ _
    · rw [readAsksF_step hs]
      have h1 := askS_len hs
      have h2 := readAsksF_cnt n (acc ++ [(askS s).1]) (askS s).2 (by omega)
      rw [List.length_append, List.length_singleton] at h2
      omega
theorem readLostF_cnt : ∀ (n : Nat) (acc : List Int) (s : RdS), s.1.length ≤ n → (readLostF n acc s).1.length ≤ acc.length + 17 * s.1.length
  | 0, acc, s, _ => Nat.le_add_right _ _
  | n + 1, acc, s, h => by
    by_cases hs : s.1 = []
    · obtain ⟨l, e⟩ := s
      simp only at hs
      subst hs
      rw [readLostF_nil]; exact Nat.le_add_right _ _
    · rw [readLostF_step hs]
      have h1 := prS_len hs
      have h4 := newS_len acc (prS s).1 (prS s).2
      have h2 := readLostF_cnt n (acc ++ prN (prS s).1) (newS acc (prS s).1 (prS s).2) (by omega)
      have h3 := (prN_len (prS s).1).2
      rw [List.length_append] at h2
      omega
theorem lostS_len (s : RdS) : (lostS s).1.length ≤ s.1.length := by
  unfold lostS; split
  · exact wrS_len s 2
  · exact Nat.le_refl _
/-- What is read is small. -/
theorem readM_small {c : Chunk} (h : c.2.2.1.length ≤ 400) : (readM c).1.asks.length ≤ 100000 ∧ (readM c).1.lost.length ≤ 100000 := by
  have hd : ∀ (m : Msg) (s : RdS), m.asks.length ≤ 100000 ∧ m.lost.length ≤ 100000 → (doneM m s).1.asks.length ≤ 100000 ∧ (doneM m s).1.lost.length ≤ 100000 := by
    intro m s h
    unfold doneM
    split
    · exact h
    · exact ⟨Nat.zero_le _, Nat.zero_le _⟩
  have hl : (tkS (tkS (c.2.2.1, 0) 4) 4).1.length ≤ 400 := Nat.le_trans (tkS_len _ _) (Nat.le_trans (tkS_len _ _) h)
  unfold readM
  split
  · exact ⟨Nat.zero_le _, Nat.zero_le _⟩
  · split
    · exact ⟨Nat.zero_le _, Nat.zero_le _⟩
    · unfold restM
      generalize tkS (tkS (c.2.2.1, 0) 4) 4 = s at *
      split
      · have h1 := asksS_len (rdNum (tkS (c.2.2.1, 0) 4)) s
        have h2 := readAsksF_cnt s.1.length [] (asksS (rdNum (tkS (c.2.2.1, 0) 4)) s) h1
        exact hd _ _ ⟨by simp only [List.length_nil] at h2 ⊢; omega, Nat.zero_le _⟩
      · split
        · have h1 := lostS_len s
          have h2 := readLostF_cnt s.1.length [] (lostS s) h1
          exact hd _ _ ⟨Nat.zero_le _, by simp only [List.length_nil] at h2 ⊢; omega⟩
        · exact hd _ _ ⟨Nat.zero_le _, Nat.zero_le _⟩
end Go.Proofs.Ytlnikmcimmnbmaa
