/- Merged from my texts CompI. -/
import Derived.Test.YtlnikmcimmnbmaaMg35
import Derived.Test.YtlnikmcimmnbmaaMg36
import Derived.Test.YtlnikmcimmnbmaaMg37
/- The laws of compound: the document's Same of items. -/
namespace Go.Proofs.Ytlnikmcimmnbmaa
set_option linter.unusedSimpArgs false
set_option linter.unusedVariables false
open Go.RowKit Go.Lib
set_option maxRecDepth 100000

theorem take_sameT (la lb : List Itm) (j : Nat) (h1 : j < la.length) (h2 : j < lb.length) (h : la.take j = lb.take j) (hd : la.getD j itm0 = lb.getD j itm0) : la.take (j + 1) = lb.take (j + 1) := by
  rw [getD_snoc la j itm0 h1, getD_snoc lb j itm0 h2, h, hd]
theorem one_chunk {w : World} {B : Nat} {c : Chunk} {vo : Value} {t : TypeId} (hB : B = w.heap.size) (s : SlI .u8 w vo c.2.2.1) (hk : ChunkOK c) : SlP 3 RChunk (w.alloc (.cells #[.int .u8 c.1, .int .u8 c.2.1, vo] t)) (.slice (some ⟨B, 0, none⟩) 1 1) [c] :=
  SlP.one (n := 3) rfl (by decide) hB (chunk_mk (s.keep (More.alloc _ _)) hk)
theorem one_chunk2 {w : World} {B : Nat} {c : Chunk} {vo : Value} {t : TypeId} (h : w.heap[B]? = some (.cells #[.int .u8 c.1, .int .u8 c.2.1, vo] t (0, 0))) (s : SlI .u8 w vo c.2.2.1) (hk : ChunkOK c) : SlP 3 RChunk w (.slice (some ⟨B, 0, none⟩) 1 1) [c] :=
  ⟨_, 1, rfl, by simp, fun i hi => ⟨B, 0, [.int .u8 c.1, .int .u8 c.2.1, vo], rfl, lt_of_block h, rfl, fun j hj => by
    have hi : i = 0 := by simpa using hi
    subst hi
    rw [Nat.zero_mul, Nat.add_zero, Nat.zero_add, cell_of_row w B j _ t (0, 0) h]
    simp, by
    have hi : i = 0 := by simpa using hi
    subst hi
    exact chunk_mk s hk⟩, by simp, by unfold maxLen; decide, fun h => by cases h⟩
theorem chunk_one {c d : Chunk} : decide ([c] = [d]) = decide (c = d) := by simp
set_option maxHeartbeats 16000000 in
theorem Same10_any (la lb : List Itm) (va vb : Value) (w : World) (ha : SlP 17 RItm w va la) (hb : SlP 17 RItm w vb lb) :
    Calls Try.prog 65 #[va, vb] w fun e w' => e = .returned (.bool (decide (la = lb))) ∧ More w w' := by
  obtain ⟨oa, capa, rfl, hla, hea, hoka⟩ := items ha
  obtain ⟨ob, capb, rfl, hlb, heb, hokb⟩ := items hb
  have HEA := Lib.hid hea
  have HEB := Lib.hid heb
  have HOA := Lib.hid hoka
  have HOB := Lib.hid hokb
  clear ha hb hea heb hoka hokb
  by_cases hlen : la.length = lb.length
  · have hleni : (la.length : Int) = (lb.length : Int) := by omega
    have hlenb : ((la.length : Int) != (lb.length : Int)) = false := by simp [hlen]
    have hlen1 : la.length ≤ lb.length := by omega
    have hlen2 : lb.length ≤ la.length := by omega
    clear hlen hleni
    go_enter Try.func65, Try.ntmps65
    go_wp2
    go_loopw [5] (fun i wr => ∃ j : Nat, j ≤ la.length ∧ i = .int .i64 j ∧ la.take j = lb.take j ∧ More w wr) (fun i _ => la.length - (intOf i).toNat)
    case atStart => exact ⟨0, by omega, rfl, by simp, More.refl _⟩
    case round =>
      obtain ⟨j, hj, rfl, hpre, hmr⟩ := hrel
      have HP := Lib.hid hpre
      clear hpre
      by_cases hlt : j < la.length
      · have hlt2 : j < lb.length := by omega
        obtain ⟨b1, off1, ob1, cb1, oc1, cc1, od1, cd1, oe1, ce1, rfl, hb1, ht1, hs1⟩ := HEA.out j hlt
        obtain ⟨b2, off2, ob2, cb2, oc2, cc2, od2, cd2, oe2, ce2, rfl, hb2, ht2, hs2⟩ := HEB.out j hlt2
        have hjl : (j : Int) < (la.length : Int) := by omega
        have hjl2 : (j : Int) < (lb.length : Int) := by omega
        have hj0 : (0 : Int) ≤ (j : Int) := by omega
        have RG1 := RangeAt.more ht1 hmr hb1
        have RG2 := RangeAt.more ht2 hmr hb2
        have hb1r : b1 < wr.heap.size := Nat.lt_of_lt_of_le hb1 hmr.size
        have hb2r : b2 < wr.heap.size := Nat.lt_of_lt_of_le hb2 hmr.size
        have HT := Lib.hid (fun h => take_sameT la lb j hlt hlt2 HP.out h)
        have HD : Hid (la = lb → la.getD j itm0 = lb.getD j itm0) := Lib.hid (fun e => by rw [e])
        have S1 := Lib.hid (hs1.keep hmr)
        have S2 := Lib.hid (hs2.keep hmr)
        have K1 : Hid (ItmOK (la.getD j itm0)) := Lib.hid (HOA.out _ (by rw [List.getD_eq_getElem?_getD, List.getElem?_eq_getElem hlt]; exact List.getElem_mem hlt))
        have K2 : Hid (ItmOK (lb.getD j itm0)) := Lib.hid (HOB.out _ (by rw [List.getD_eq_getElem?_getD, List.getElem?_eq_getElem hlt2]; exact List.getElem_mem hlt2))
        clear ht1 ht2 hs1 hs2
        generalize la.getD j itm0 = x at *
        generalize lb.getD j itm0 = y at *
        have C10 : ∀ z : Later wr, z.w'.cell? ⟨b1, off1 + j * 17, none⟩ = some (.int .i64 x.kind) := fun z => z.cell hb1r (RG1 0 _ rfl)
        have C11 : ∀ z : Later wr, z.w'.cell? ⟨b1, off1 + j * 17 + 1, none⟩ = some (.bool x.rep.snd) := fun z => z.cell hb1r (RG1 1 _ rfl)
        have C12 : ∀ z : Later wr, z.w'.cell? ⟨b1, off1 + j * 17 + 2, none⟩ = some (.int .u32 x.rep.src) := fun z => z.cell hb1r (RG1 2 _ rfl)
        have C13 : ∀ z : Later wr, z.w'.cell? ⟨b1, off1 + j * 17 + 3, none⟩ = some (.int .u32 x.rep.inf.sec) := fun z => z.cell hb1r (RG1 3 _ rfl)
        have C14 : ∀ z : Later wr, z.w'.cell? ⟨b1, off1 + j * 17 + 4, none⟩ = some (.int .u32 x.rep.inf.frac) := fun z => z.cell hb1r (RG1 4 _ rfl)
        have C15 : ∀ z : Later wr, z.w'.cell? ⟨b1, off1 + j * 17 + 5, none⟩ = some (.int .u32 x.rep.inf.stamp) := fun z => z.cell hb1r (RG1 5 _ rfl)
        have C16 : ∀ z : Later wr, z.w'.cell? ⟨b1, off1 + j * 17 + 6, none⟩ = some (.int .u32 x.rep.inf.pkts) := fun z => z.cell hb1r (RG1 6 _ rfl)
        have C17 : ∀ z : Later wr, z.w'.cell? ⟨b1, off1 + j * 17 + 7, none⟩ = some (.int .u32 x.rep.inf.octs) := fun z => z.cell hb1r (RG1 7 _ rfl)
        have C18 : ∀ z : Later wr, z.w'.cell? ⟨b1, off1 + j * 17 + 8, none⟩ = some (.slice ob1 x.rep.bl.length cb1) := fun z => z.cell hb1r (RG1 8 _ rfl)
        have C19 : ∀ z : Later wr, z.w'.cell? ⟨b1, off1 + j * 17 + 9, none⟩ = some (.int .i64 x.msg.kind) := fun z => z.cell hb1r (RG1 9 _ rfl)
        have C110 : ∀ z : Later wr, z.w'.cell? ⟨b1, off1 + j * 17 + 10, none⟩ = some (.int .u32 x.msg.snd) := fun z => z.cell hb1r (RG1 10 _ rfl)
        have C111 : ∀ z : Later wr, z.w'.cell? ⟨b1, off1 + j * 17 + 11, none⟩ = some (.int .u32 x.msg.med) := fun z => z.cell hb1r (RG1 11 _ rfl)
        have C112 : ∀ z : Later wr, z.w'.cell? ⟨b1, off1 + j * 17 + 12, none⟩ = some (.slice oc1 x.msg.asks.length cc1) := fun z => z.cell hb1r (RG1 12 _ rfl)
        have C113 : ∀ z : Later wr, z.w'.cell? ⟨b1, off1 + j * 17 + 13, none⟩ = some (.slice od1 x.msg.lost.length cd1) := fun z => z.cell hb1r (RG1 13 _ rfl)
        have C114 : ∀ z : Later wr, z.w'.cell? ⟨b1, off1 + j * 17 + 14, none⟩ = some (.int .u8 x.oth.1) := fun z => z.cell hb1r (RG1 14 _ rfl)
        have C115 : ∀ z : Later wr, z.w'.cell? ⟨b1, off1 + j * 17 + 15, none⟩ = some (.int .u8 x.oth.2.1) := fun z => z.cell hb1r (RG1 15 _ rfl)
        have C116 : ∀ z : Later wr, z.w'.cell? ⟨b1, off1 + j * 17 + 16, none⟩ = some (.slice oe1 x.oth.2.2.1.length ce1) := fun z => z.cell hb1r (RG1 16 _ rfl)
        have C20 : ∀ z : Later wr, z.w'.cell? ⟨b2, off2 + j * 17, none⟩ = some (.int .i64 y.kind) := fun z => z.cell hb2r (RG2 0 _ rfl)
        have C21 : ∀ z : Later wr, z.w'.cell? ⟨b2, off2 + j * 17 + 1, none⟩ = some (.bool y.rep.snd) := fun z => z.cell hb2r (RG2 1 _ rfl)
        have C22 : ∀ z : Later wr, z.w'.cell? ⟨b2, off2 + j * 17 + 2, none⟩ = some (.int .u32 y.rep.src) := fun z => z.cell hb2r (RG2 2 _ rfl)
        have C23 : ∀ z : Later wr, z.w'.cell? ⟨b2, off2 + j * 17 + 3, none⟩ = some (.int .u32 y.rep.inf.sec) := fun z => z.cell hb2r (RG2 3 _ rfl)
        have C24 : ∀ z : Later wr, z.w'.cell? ⟨b2, off2 + j * 17 + 4, none⟩ = some (.int .u32 y.rep.inf.frac) := fun z => z.cell hb2r (RG2 4 _ rfl)
        have C25 : ∀ z : Later wr, z.w'.cell? ⟨b2, off2 + j * 17 + 5, none⟩ = some (.int .u32 y.rep.inf.stamp) := fun z => z.cell hb2r (RG2 5 _ rfl)
        have C26 : ∀ z : Later wr, z.w'.cell? ⟨b2, off2 + j * 17 + 6, none⟩ = some (.int .u32 y.rep.inf.pkts) := fun z => z.cell hb2r (RG2 6 _ rfl)
        have C27 : ∀ z : Later wr, z.w'.cell? ⟨b2, off2 + j * 17 + 7, none⟩ = some (.int .u32 y.rep.inf.octs) := fun z => z.cell hb2r (RG2 7 _ rfl)
        have C28 : ∀ z : Later wr, z.w'.cell? ⟨b2, off2 + j * 17 + 8, none⟩ = some (.slice ob2 y.rep.bl.length cb2) := fun z => z.cell hb2r (RG2 8 _ rfl)
        have C29 : ∀ z : Later wr, z.w'.cell? ⟨b2, off2 + j * 17 + 9, none⟩ = some (.int .i64 y.msg.kind) := fun z => z.cell hb2r (RG2 9 _ rfl)
        have C210 : ∀ z : Later wr, z.w'.cell? ⟨b2, off2 + j * 17 + 10, none⟩ = some (.int .u32 y.msg.snd) := fun z => z.cell hb2r (RG2 10 _ rfl)
        have C211 : ∀ z : Later wr, z.w'.cell? ⟨b2, off2 + j * 17 + 11, none⟩ = some (.int .u32 y.msg.med) := fun z => z.cell hb2r (RG2 11 _ rfl)
        have C212 : ∀ z : Later wr, z.w'.cell? ⟨b2, off2 + j * 17 + 12, none⟩ = some (.slice oc2 y.msg.asks.length cc2) := fun z => z.cell hb2r (RG2 12 _ rfl)
        have C213 : ∀ z : Later wr, z.w'.cell? ⟨b2, off2 + j * 17 + 13, none⟩ = some (.slice od2 y.msg.lost.length cd2) := fun z => z.cell hb2r (RG2 13 _ rfl)
        have C214 : ∀ z : Later wr, z.w'.cell? ⟨b2, off2 + j * 17 + 14, none⟩ = some (.int .u8 y.oth.1) := fun z => z.cell hb2r (RG2 14 _ rfl)
        have C215 : ∀ z : Later wr, z.w'.cell? ⟨b2, off2 + j * 17 + 15, none⟩ = some (.int .u8 y.oth.2.1) := fun z => z.cell hb2r (RG2 15 _ rfl)
        have C216 : ∀ z : Later wr, z.w'.cell? ⟨b2, off2 + j * 17 + 16, none⟩ = some (.slice oe2 y.oth.2.2.1.length ce2) := fun z => z.cell hb2r (RG2 16 _ rfl)
        clear RG1 RG2
        by_cases e1 : x.kind = y.kind
        · have e1b : (x.kind != y.kind) = false := by simp [e1]
          by_cases e2 : x.rep = y.rep
          · by_cases e3 : x.msg = y.msg
            · by_cases e4 : x.oth = y.oth
              · skip
                have HXY : Hid (x = y) := Lib.hid ((itm_iff x y).2 ⟨e1, e2, e3, e4⟩)
                have E4 : Hid (decide ([x.oth] = [y.oth]) = true) := Lib.hid (by rw [chunk_one]; exact decide_eq_true e4)
                clear e4
                have E2 := Lib.hid (decide_eq_true e2)
                have E3 := Lib.hid (decide_eq_true e3)
                clear e3 e2 e1
                go_wp2_with fail
                refine wp_region_trL wr 55 (.op 0 false (.op 1 false (.op 2 false (.op 3 false (.op 4 false (.op 5 false (.op 6 false (.op 7 false (.op 8 false (.op 9 false (.op 10 false (.op 11 false (.op 12 false (.op 13 false (.op 14 false (.op 15 false (.op 16 false (.op 17 false (.op 18 false (.op 19 false (.op 20 false (.op 21 false (.op 22 true (.op 23 false (.op 24 false (.op 25 false (.op 26 false (.op 27 false (.op 28 false (.op 29 false (.op 30 false (.op 31 false (.op 32 false (.op 33 false (.op 34 false (.op 35 false (.op 36 true (.op 37 false (.op 38 false (.op 39 false (.op 40 false (.op 41 false (.op 42 false (.op 43 false (.op 44 false (.op 46 false (.op 47 false (.op 48 false (.op 49 false (.op 50 false (.br [45, 51] fun k => if k = 45 then .op 51 true (.op 52 true (.op 53 false (.op 54 false (.done)))) else .op 45 true (.op 52 true (.op 53 false (.op 54 false (.done))))))))))))))))))))))))))))))))))))))))))))))))))))))) (by kernel_rfl) (by kernel_rfl) ?_
                repeat (first | (refine tr_skip rfl rfl (later_mk (More.drewN wr 1)) ?_) | (refine tr_quiet rfl rfl (later_mk (More.drewN wr 1)) ?_; intro K hK; go_big_quiet_op; go_big_quiet_on))
                (refine tr_next rfl rfl ?_; intro K hK; unfold loud; go_simp)
                (with_reducible refine (Same08_any x.rep y.rep (S1.out.bl.keep keepsBlk (More.drewN wr 1)) (S2.out.bl.keep keepsBlk (More.drewN wr 1))).mono ?_)
                rintro e w21 ⟨rfl, m_w21⟩
                rw [E2.out]
                have h_w21 : More wr w21 := More.trans (More.drewN wr 1) m_w21
                clear m_w21
                refine ⟨_, rfl, later_mk h_w21, hK _ _ ?_⟩
                clear hK K
                repeat (first | (refine tr_skip rfl rfl (later_mk h_w21) ?_) | (refine tr_quiet rfl rfl (later_mk h_w21) ?_; intro K hK; go_big_quiet_op; go_big_quiet_on))
                (refine tr_next rfl rfl ?_; intro K hK; unfold loud; go_simp)
                (with_reducible refine (Same09_any x.msg y.msg (S1.out.ms.keep h_w21) (S2.out.ms.keep h_w21)).mono ?_)
                rintro e w22 ⟨rfl, m_w22⟩
                rw [E3.out]
                have h_w22 : More wr w22 := More.trans h_w21 m_w22
                clear m_w22
                refine ⟨_, rfl, later_mk h_w22, hK _ _ ?_⟩
                clear hK K
                repeat (first | (refine tr_skip rfl rfl (later_mk h_w22) ?_) | (refine tr_quiet rfl rfl (later_mk h_w22) ?_; intro K hK; go_big_quiet_op; go_big_quiet_on))
                refine tr_two (by decide) ?_ ?_
                · skip
                  (refine tr_next rfl rfl ?_; intro K hK; unfold loud; go_simp)
                  have h_a : More wr _ := More.al h_w22 (.cells #[.int .u8 x.oth.1, .int .u8 x.oth.2.1, .slice oe1 x.oth.2.2.1.length ce1] 35)
                  refine ⟨later_mk h_a, hK _ _ ?_⟩
                  clear hK K
                  (refine tr_next rfl rfl ?_; intro K hK; unfold loud; go_simp)
                  have h_b : More wr _ := More.al h_a (.cells #[.int .u8 y.oth.1, .int .u8 y.oth.2.1, .slice oe2 y.oth.2.2.1.length ce2] 35)
                  refine ⟨later_mk h_b, hK _ _ ?_⟩
                  clear hK K
                  (refine tr_next rfl rfl ?_; intro K hK; unfold loud; go_simp)
                  (with_reducible refine (Same07_any [x.oth] [y.oth] _ _ _ (one_chunk2 (blk_alloc (blk_new w22 (.cells #[.int .u8 x.oth.1, .int .u8 x.oth.2.1, .slice oe1 x.oth.2.2.1.length ce1] 35)) (.cells #[.int .u8 y.oth.1, .int .u8 y.oth.2.1, .slice oe2 y.oth.2.2.1.length ce2] 35)) (S1.out.bo.keep h_b) K1.out.oth) (one_chunk (by simp) (S2.out.bo.keep h_a) K2.out.oth)).mono ?_)
                  rintro e w23 ⟨rfl, m_w23⟩
                  rw [E4.out]
                  have h_w23 : More wr w23 := More.trans h_b m_w23
                  clear m_w23
                  refine ⟨_, rfl, later_mk h_w23, hK _ _ ?_⟩
                  clear hK K
                  repeat (first | (refine tr_skip rfl rfl (later_mk h_w23) ?_) | (refine tr_quiet rfl rfl (later_mk h_w23) ?_; intro K hK; go_big_quiet_op; go_big_quiet_on))
                  refine tr_done ?_
                  go_wp2
                  go_roundw
                  case rel => exact ⟨j + 1, by omega, by go_num, HT.out HXY.out, hmr.trans h_w23⟩
                  case measure => simp [intOf]; omega
                · skip
                  (refine tr_next rfl rfl ?_; intro K hK; unfold loud; go_simp)
                  have h_a : More wr _ := More.al h_w22 (.cells #[.int .u8 y.oth.1, .int .u8 y.oth.2.1, .slice oe2 y.oth.2.2.1.length ce2] 35)
                  refine ⟨later_mk h_a, hK _ _ ?_⟩
                  clear hK K
                  (refine tr_next rfl rfl ?_; intro K hK; unfold loud; go_simp)
                  have h_b : More wr _ := More.al h_a (.cells #[.int .u8 x.oth.1, .int .u8 x.oth.2.1, .slice oe1 x.oth.2.2.1.length ce1] 35)
                  refine ⟨later_mk h_b, hK _ _ ?_⟩
                  clear hK K
                  (refine tr_next rfl rfl ?_; intro K hK; unfold loud; go_simp)
                  (with_reducible refine (Same07_any [x.oth] [y.oth] _ _ _ (one_chunk (by simp) (S1.out.bo.keep h_a) K1.out.oth) (one_chunk2 (blk_alloc (blk_new w22 (.cells #[.int .u8 y.oth.1, .int .u8 y.oth.2.1, .slice oe2 y.oth.2.2.1.length ce2] 35)) (.cells #[.int .u8 x.oth.1, .int .u8 x.oth.2.1, .slice oe1 x.oth.2.2.1.length ce1] 35)) (S2.out.bo.keep h_b) K2.out.oth)).mono ?_)
                  rintro e w23 ⟨rfl, m_w23⟩
                  rw [E4.out]
                  have h_w23 : More wr w23 := More.trans h_b m_w23
                  clear m_w23
                  refine ⟨_, rfl, later_mk h_w23, hK _ _ ?_⟩
                  clear hK K
                  repeat (first | (refine tr_skip rfl rfl (later_mk h_w23) ?_) | (refine tr_quiet rfl rfl (later_mk h_w23) ?_; intro K hK; go_big_quiet_op; go_big_quiet_on))
                  refine tr_done ?_
                  go_wp2
                  go_roundw
                  case rel => exact ⟨j + 1, by omega, by go_num, HT.out HXY.out, hmr.trans h_w23⟩
                  case measure => simp [intOf]; omega
              · skip
                have hne : ¬ la = lb := fun e => e4 (by rw [HD.out e])
                have HN := Lib.hid hne
                clear hne
                have E4 : Hid (decide ([x.oth] = [y.oth]) = false) := Lib.hid (by rw [chunk_one]; exact decide_eq_false e4)
                clear e4
                have E2 := Lib.hid (decide_eq_true e2)
                have E3 := Lib.hid (decide_eq_true e3)
                clear e3 e2 e1
                go_wp2_with fail
                refine wp_region_trL wr 55 (.op 0 false (.op 1 false (.op 2 false (.op 3 false (.op 4 false (.op 5 false (.op 6 false (.op 7 false (.op 8 false (.op 9 false (.op 10 false (.op 11 false (.op 12 false (.op 13 false (.op 14 false (.op 15 false (.op 16 false (.op 17 false (.op 18 false (.op 19 false (.op 20 false (.op 21 false (.op 22 true (.op 23 false (.op 24 false (.op 25 false (.op 26 false (.op 27 false (.op 28 false (.op 29 false (.op 30 false (.op 31 false (.op 32 false (.op 33 false (.op 34 false (.op 35 false (.op 36 true (.op 37 false (.op 38 false (.op 39 false (.op 40 false (.op 41 false (.op 42 false (.op 43 false (.op 44 false (.op 46 false (.op 47 false (.op 48 false (.op 49 false (.op 50 false (.br [45, 51] fun k => if k = 45 then .op 51 true (.op 52 true (.op 53 false (.op 54 false (.done)))) else .op 45 true (.op 52 true (.op 53 false (.op 54 false (.done))))))))))))))))))))))))))))))))))))))))))))))))))))))) (by kernel_rfl) (by kernel_rfl) ?_
                repeat (first | (refine tr_skip rfl rfl (later_mk (More.drewN wr 1)) ?_) | (refine tr_quiet rfl rfl (later_mk (More.drewN wr 1)) ?_; intro K hK; go_big_quiet_op; go_big_quiet_on))
                (refine tr_next rfl rfl ?_; intro K hK; unfold loud; go_simp)
                (with_reducible refine (Same08_any x.rep y.rep (S1.out.bl.keep keepsBlk (More.drewN wr 1)) (S2.out.bl.keep keepsBlk (More.drewN wr 1))).mono ?_)
                rintro e w21 ⟨rfl, m_w21⟩
                rw [E2.out]
                have h_w21 : More wr w21 := More.trans (More.drewN wr 1) m_w21
                clear m_w21
                refine ⟨_, rfl, later_mk h_w21, hK _ _ ?_⟩
                clear hK K
                repeat (first | (refine tr_skip rfl rfl (later_mk h_w21) ?_) | (refine tr_quiet rfl rfl (later_mk h_w21) ?_; intro K hK; go_big_quiet_op; go_big_quiet_on))
                (refine tr_next rfl rfl ?_; intro K hK; unfold loud; go_simp)
                (with_reducible refine (Same09_any x.msg y.msg (S1.out.ms.keep h_w21) (S2.out.ms.keep h_w21)).mono ?_)
                rintro e w22 ⟨rfl, m_w22⟩
                rw [E3.out]
                have h_w22 : More wr w22 := More.trans h_w21 m_w22
                clear m_w22
                refine ⟨_, rfl, later_mk h_w22, hK _ _ ?_⟩
                clear hK K
                repeat (first | (refine tr_skip rfl rfl (later_mk h_w22) ?_) | (refine tr_quiet rfl rfl (later_mk h_w22) ?_; intro K hK; go_big_quiet_op; go_big_quiet_on))
                refine tr_two (by decide) ?_ ?_
                · skip
                  (refine tr_next rfl rfl ?_; intro K hK; unfold loud; go_simp)
                  have h_a : More wr _ := More.al h_w22 (.cells #[.int .u8 x.oth.1, .int .u8 x.oth.2.1, .slice oe1 x.oth.2.2.1.length ce1] 35)
                  refine ⟨later_mk h_a, hK _ _ ?_⟩
                  clear hK K
                  (refine tr_next rfl rfl ?_; intro K hK; unfold loud; go_simp)
                  have h_b : More wr _ := More.al h_a (.cells #[.int .u8 y.oth.1, .int .u8 y.oth.2.1, .slice oe2 y.oth.2.2.1.length ce2] 35)
                  refine ⟨later_mk h_b, hK _ _ ?_⟩
                  clear hK K
                  (refine tr_next rfl rfl ?_; intro K hK; unfold loud; go_simp)
                  (with_reducible refine (Same07_any [x.oth] [y.oth] _ _ _ (one_chunk2 (blk_alloc (blk_new w22 (.cells #[.int .u8 x.oth.1, .int .u8 x.oth.2.1, .slice oe1 x.oth.2.2.1.length ce1] 35)) (.cells #[.int .u8 y.oth.1, .int .u8 y.oth.2.1, .slice oe2 y.oth.2.2.1.length ce2] 35)) (S1.out.bo.keep h_b) K1.out.oth) (one_chunk (by simp) (S2.out.bo.keep h_a) K2.out.oth)).mono ?_)
                  rintro e w23 ⟨rfl, m_w23⟩
                  rw [E4.out]
                  have h_w23 : More wr w23 := More.trans h_b m_w23
                  clear m_w23
                  refine ⟨_, rfl, later_mk h_w23, hK _ _ ?_⟩
                  clear hK K
                  repeat (first | (refine tr_skip rfl rfl (later_mk h_w23) ?_) | (refine tr_quiet rfl rfl (later_mk h_w23) ?_; intro K hK; go_big_quiet_op; go_big_quiet_on))
                  refine tr_done ?_
                  go_wp2
                  go_ret
                  exact ⟨ret_bool (by simp [HN.out]), hmr.trans h_w23⟩
                · skip
                  (refine tr_next rfl rfl ?_; intro K hK; unfold loud; go_simp)
                  have h_a : More wr _ := More.al h_w22 (.cells #[.int .u8 y.oth.1, .int .u8 y.oth.2.1, .slice oe2 y.oth.2.2.1.length ce2] 35)
                  refine ⟨later_mk h_a, hK _ _ ?_⟩
                  clear hK K
                  (refine tr_next rfl rfl ?_; intro K hK; unfold loud; go_simp)
                  have h_b : More wr _ := More.al h_a (.cells #[.int .u8 x.oth.1, .int .u8 x.oth.2.1, .slice oe1 x.oth.2.2.1.length ce1] 35)
                  refine ⟨later_mk h_b, hK _ _ ?_⟩
                  clear hK K
                  (refine tr_next rfl rfl ?_; intro K hK; unfold loud; go_simp)
                  (with_reducible refine (Same07_any [x.oth] [y.oth] _ _ _ (one_chunk (by simp) (S1.out.bo.keep h_a) K1.out.oth) (one_chunk2 (blk_alloc (blk_new w22 (.cells #[.int .u8 y.oth.1, .int .u8 y.oth.2.1, .slice oe2 y.oth.2.2.1.length ce2] 35)) (.cells #[.int .u8 x.oth.1, .int .u8 x.oth.2.1, .slice oe1 x.oth.2.2.1.length ce1] 35)) (S2.out.bo.keep h_b) K2.out.oth)).mono ?_)
                  rintro e w23 ⟨rfl, m_w23⟩
                  rw [E4.out]
                  have h_w23 : More wr w23 := More.trans h_b m_w23
                  clear m_w23
                  refine ⟨_, rfl, later_mk h_w23, hK _ _ ?_⟩
                  clear hK K
                  repeat (first | (refine tr_skip rfl rfl (later_mk h_w23) ?_) | (refine tr_quiet rfl rfl (later_mk h_w23) ?_; intro K hK; go_big_quiet_op; go_big_quiet_on))
                  refine tr_done ?_
                  go_wp2
                  go_ret
                  exact ⟨ret_bool (by simp [HN.out]), hmr.trans h_w23⟩
            · skip
              have hne : ¬ la = lb := fun e => e3 (by rw [HD.out e])
              have HN := Lib.hid hne
              clear hne
              have E2 := Lib.hid (decide_eq_true e2)
              have E3 := Lib.hid (decide_eq_false e3)
              clear e3 e2 e1
              go_wp2_with fail
              refine wp_region_trL wr 55 (.op 0 false (.op 1 false (.op 2 false (.op 3 false (.op 4 false (.op 5 false (.op 6 false (.op 7 false (.op 8 false (.op 9 false (.op 10 false (.op 11 false (.op 12 false (.op 13 false (.op 14 false (.op 15 false (.op 16 false (.op 17 false (.op 18 false (.op 19 false (.op 20 false (.op 21 false (.op 22 true (.op 23 false (.op 24 false (.op 25 false (.op 26 false (.op 27 false (.op 28 false (.op 29 false (.op 30 false (.op 31 false (.op 32 false (.op 33 false (.op 34 false (.op 35 false (.op 36 true (.op 37 false (.op 38 false (.op 39 false (.op 40 false (.op 41 false (.op 42 false (.op 43 false (.op 44 false (.op 46 false (.op 47 false (.op 48 false (.op 49 false (.op 50 false (.br [45, 51] fun k => if k = 45 then .op 51 true (.op 52 true (.op 53 false (.op 54 false (.done)))) else .op 45 true (.op 52 true (.op 53 false (.op 54 false (.done))))))))))))))))))))))))))))))))))))))))))))))))))))))) (by kernel_rfl) (by kernel_rfl) ?_
              repeat (first | (refine tr_skip rfl rfl (later_mk (More.drewN wr 1)) ?_) | (refine tr_quiet rfl rfl (later_mk (More.drewN wr 1)) ?_; intro K hK; go_big_quiet_op; go_big_quiet_on))
              (refine tr_next rfl rfl ?_; intro K hK; unfold loud; go_simp)
              (with_reducible refine (Same08_any x.rep y.rep (S1.out.bl.keep keepsBlk (More.drewN wr 1)) (S2.out.bl.keep keepsBlk (More.drewN wr 1))).mono ?_)
              rintro e w21 ⟨rfl, m_w21⟩
              rw [E2.out]
              have h_w21 : More wr w21 := More.trans (More.drewN wr 1) m_w21
              clear m_w21
              refine ⟨_, rfl, later_mk h_w21, hK _ _ ?_⟩
              clear hK K
              repeat (first | (refine tr_skip rfl rfl (later_mk h_w21) ?_) | (refine tr_quiet rfl rfl (later_mk h_w21) ?_; intro K hK; go_big_quiet_op; go_big_quiet_on))
              (refine tr_next rfl rfl ?_; intro K hK; unfold loud; go_simp)
              (with_reducible refine (Same09_any x.msg y.msg (S1.out.ms.keep h_w21) (S2.out.ms.keep h_w21)).mono ?_)
              rintro e w22 ⟨rfl, m_w22⟩
              rw [E3.out]
              have h_w22 : More wr w22 := More.trans h_w21 m_w22
              clear m_w22
              refine ⟨_, rfl, later_mk h_w22, hK _ _ ?_⟩
              clear hK K
              repeat (first | (refine tr_skipK rfl rfl (later_mk h_w22) ?_; intro K hK; go_simp; go_big_quiet_on) | (refine tr_quiet rfl rfl (later_mk h_w22) ?_; intro K hK; go_big_quiet_op; go_big_quiet_on))
              refine tr_two (by decide) ?_ ?_
              all_goals
                repeat (first | (refine tr_skipK rfl rfl (later_mk h_w22) ?_; intro K hK; go_simp; go_big_quiet_on) | (refine tr_quiet rfl rfl (later_mk h_w22) ?_; intro K hK; go_big_quiet_op; go_big_quiet_on))
                refine tr_done ?_
                go_wp2
                go_ret
                exact ⟨ret_bool (by simp [HN.out]), hmr.trans h_w22⟩
          · skip
            have hne : ¬ la = lb := fun e => e2 (by rw [HD.out e])
            have HN := Lib.hid hne
            clear hne
            have E2 := Lib.hid (decide_eq_false e2)
            clear e2 e1
            go_wp2_with fail
            refine wp_region_trL wr 55 (.op 0 false (.op 1 false (.op 2 false (.op 3 false (.op 4 false (.op 5 false (.op 6 false (.op 7 false (.op 8 false (.op 9 false (.op 10 false (.op 11 false (.op 12 false (.op 13 false (.op 14 false (.op 15 false (.op 16 false (.op 17 false (.op 18 false (.op 19 false (.op 20 false (.op 21 false (.op 22 true (.op 23 false (.op 24 false (.op 25 false (.op 26 false (.op 27 false (.op 28 false (.op 29 false (.op 30 false (.op 31 false (.op 32 false (.op 33 false (.op 34 false (.op 35 false (.op 36 true (.op 37 false (.op 38 false (.op 39 false (.op 40 false (.op 41 false (.op 42 false (.op 43 false (.op 44 false (.op 46 false (.op 47 false (.op 48 false (.op 49 false (.op 50 false (.br [45, 51] fun k => if k = 45 then .op 51 true (.op 52 true (.op 53 false (.op 54 false (.done)))) else .op 45 true (.op 52 true (.op 53 false (.op 54 false (.done))))))))))))))))))))))))))))))))))))))))))))))))))))))) (by kernel_rfl) (by kernel_rfl) ?_
            repeat (first | (refine tr_skip rfl rfl (later_mk (More.drewN wr 1)) ?_) | (refine tr_quiet rfl rfl (later_mk (More.drewN wr 1)) ?_; intro K hK; go_big_quiet_op; go_big_quiet_on))
            (refine tr_next rfl rfl ?_; intro K hK; unfold loud; go_simp)
            (with_reducible refine (Same08_any x.rep y.rep (S1.out.bl.keep keepsBlk (More.drewN wr 1)) (S2.out.bl.keep keepsBlk (More.drewN wr 1))).mono ?_)
            rintro e w21 ⟨rfl, m_w21⟩
            rw [E2.out]
            have h_w21 : More wr w21 := More.trans (More.drewN wr 1) m_w21
            clear m_w21
            refine ⟨_, rfl, later_mk h_w21, hK _ _ ?_⟩
            clear hK K
            repeat (first | (refine tr_skipK rfl rfl (later_mk h_w21) ?_; intro K hK; go_simp; go_big_quiet_on) | (refine tr_quiet rfl rfl (later_mk h_w21) ?_; intro K hK; go_big_quiet_op; go_big_quiet_on))
            refine tr_two (by decide) ?_ ?_
            all_goals
              repeat (first | (refine tr_skipK rfl rfl (later_mk h_w21) ?_; intro K hK; go_simp; go_big_quiet_on) | (refine tr_quiet rfl rfl (later_mk h_w21) ?_; intro K hK; go_big_quiet_op; go_big_quiet_on))
              refine tr_done ?_
              go_wp2
              go_ret
              exact ⟨ret_bool (by simp [HN.out]), hmr.trans h_w21⟩
        · have e1b : (x.kind != y.kind) = true := by simpa using e1
          have hne : ¬ la = lb := fun e => e1 (by rw [HD.out e])
          have HN := Lib.hid hne
          clear hne
          go_wp2_with fail
          refine wp_region_trL wr 55 (.op 0 false (.op 1 false (.op 2 false (.op 3 false (.op 4 false (.op 5 false (.op 6 false (.op 7 false (.op 8 false (.op 9 false (.op 10 false (.op 11 false (.op 12 false (.op 13 false (.op 14 false (.op 15 false (.op 16 false (.op 17 false (.op 18 false (.op 19 false (.op 20 false (.op 21 false (.op 22 true (.op 23 false (.op 24 false (.op 25 false (.op 26 false (.op 27 false (.op 28 false (.op 29 false (.op 30 false (.op 31 false (.op 32 false (.op 33 false (.op 34 false (.op 35 false (.op 36 true (.op 37 false (.op 38 false (.op 39 false (.op 40 false (.op 41 false (.op 42 false (.op 43 false (.op 44 false (.op 46 false (.op 47 false (.op 48 false (.op 49 false (.op 50 false (.br [45, 51] fun k => if k = 45 then .op 51 true (.op 52 true (.op 53 false (.op 54 false (.done)))) else .op 45 true (.op 52 true (.op 53 false (.op 54 false (.done))))))))))))))))))))))))))))))))))))))))))))))))))))))) (by kernel_rfl) (by kernel_rfl) ?_
          repeat (first | (refine tr_skipK rfl rfl (later_mk (More.drewN wr 1)) ?_; intro K hK; go_simp; go_big_quiet_on) | (refine tr_quiet rfl rfl (later_mk (More.drewN wr 1)) ?_; intro K hK; go_big_quiet_op; go_big_quiet_on))
          refine tr_two (by decide) ?_ ?_
          all_goals
            repeat (first | (refine tr_skipK rfl rfl (later_mk (More.drewN wr 1)) ?_; intro K hK; go_simp; go_big_quiet_on) | (refine tr_quiet rfl rfl (later_mk (More.drewN wr 1)) ?_; intro K hK; go_big_quiet_op; go_big_quiet_on))
            refine tr_done ?_
            go_wp2
            go_ret
            exact ⟨ret_bool (by simp [HN.out]), hmr.trans (More.drewN wr 1)⟩
      · obtain rfl : j = la.length := by omega
        have he : la = lb := by
          have := HP.out
          rwa [List.take_length, List.take_of_length_le hlen2] at this
        have HE := Lib.hid (decide_eq_true he)
        clear he
        go_wp2
        go_ret
        exact ⟨by rw [HE.out]; rfl, hmr⟩
  · have hne : ¬ la = lb := fun e => hlen (by rw [e])
    have hlenb : ((la.length : Int) != (lb.length : Int)) = true := by simp; omega
    have HN := Lib.hid (decide_eq_false hne)
    clear hne hlen
    go_enter Try.func65, Try.ntmps65
    go_wp2
    go_ret
    exact ⟨by rw [HN.out]; rfl, More.refl _⟩
end Go.Proofs.Ytlnikmcimmnbmaa
