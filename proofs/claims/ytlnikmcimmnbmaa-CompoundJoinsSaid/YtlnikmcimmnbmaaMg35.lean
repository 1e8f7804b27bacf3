/- Merged from my texts CompH. -/
import Derived.Test.YtlnikmcimmnbmaaMg34
/- The laws of compound: the document's items. -/
namespace Go.Proofs.Ytlnikmcimmnbmaa
set_option linter.unusedSimpArgs false
set_option linter.unusedVariables false
open Go.RowKit Go.Lib
set_option maxRecDepth 100000

theorem itm_off2 {D : Nat → Prop} {w : World} {vb va vl vo : Value} {x : Itm} (s : ItmS w vb va vl vo x) (ok : ItmOK x) (hb : ∀ g, vb.ownBlock = some g → ¬ D g) (ha : ∀ g, va.ownBlock = some g → ¬ D g) (hl : x.msg.lost ≠ [] → ∀ g, vl.ownBlock = some g → ¬ D g) (ho : x.oth.2.2.1 ≠ [] → ∀ g, vo.ownBlock = some g → ¬ D g) : RdOff RItm D w (itmC x vb va vl vo) x :=
  fun _ a => ⟨vb, va, vl, vo, rfl, ⟨slP_off s.bl hb a, ⟨slA_off s.ms.asks ha a, s.ms.lost.off2 hl a⟩, s.bo.off2 ho a⟩, ok⟩
/-- A row that grows in a struct's field. -/
structure InJ {α : Type} (n : Nat) (R : Reader α) (T' : Nat) (W6 wr : World) (BR T : Nat) (cs : Value → Array Value) (v : Value) (acc : List α) : Prop where
  away : Away (fun b => b = BR) W6 wr
  blk : wr.heap[BR]? = some (.cells (cs v) T (0, 0))
  row : RowP n R (fun b => b = BR) wr W6.heap.size T' v acc
section
variable {α : Type} {n : Nat} {R : Reader α} {T' : Nat} {W6 wr w' : World} {BR T : Nat} {cs : Value → Array Value} {v v' : Value} {acc acc' : List α}
theorem InJ.on (h : InJ n R T' W6 wr BR T cs v acc) (m : More wr w') : InJ n R T' W6 w' BR T cs v acc := ⟨h.away.more m, blk_more m h.blk, h.row.on m⟩
theorem InJ.put (h : InJ n R T' W6 wr BR T cs v acc) (ho : RowP n R (fun b => b = BR) w' W6.heap.size T' v' acc') (g : wr.grownBy w' v.ownBlock) (hB : BR < W6.heap.size) (i : Nat) (hcs : (cs v).setIfInBounds i v' = cs v') : InJ n R T' W6 (w'.setCell ⟨BR, i, none⟩ v') BR T cs v' acc' := by
  have hv : ∀ b, v.ownBlock = some b → W6.heap.size ≤ b := fun b hb => h.row.ge hb
  have hs := h.away.size
  have hb2 : w'.heap[BR]? = some (.cells (cs v) T (0, 0)) := (g.block BR (by omega) (fun e => by have := hv BR e.symm; omega)).trans h.blk
  have a1 : Away (fun b => b = BR) W6 w' := ⟨g.os.trans h.away.os, g.tape.trans h.away.tape, g.output.trans h.away.output, Nat.le_trans hs g.size, fun k hk hn => (g.block k (by omega) (fun e => by have := hv k e.symm; omega)).trans (h.away.block k hk hn)⟩
  have a2 : Away (fun b => b = BR) w' (w'.setCell ⟨BR, i, none⟩ v') := (Away.refl (fun b => b = BR) w').set (p := ⟨BR, i, none⟩) rfl v'
  refine ⟨a1.trans a2, ?_, ho.step a2⟩
  have := blk_set hb2 i v'
  rw [hcs] at this
  exact this
end
abbrev repA (s : Bool) (src a b c d e : Int) (v : Value) : Array Value := #[.bool s, .int .u32 src, .int .u32 a, .int .u32 b, .int .u32 c, .int .u32 d, .int .u32 e, v]
abbrev msgA (k s d : Int) (vl v : Value) : Array Value := #[.int .i64 k, .int .u32 s, .int .u32 d, v, vl]
set_option maxHeartbeats 16000000 in
theorem own10 (l : List Itm) (v : Value) (w : World) (sl : SlP 17 RItm w v l) (hl : l.length ≤ 1000) (hn : ∀ x ∈ l, ItmN x) :
    Calls Try.prog 66 #[v] w fun e w' => ∃ v', e = .returned v' ∧ SlP 17 RItm w' v' l ∧ More w w' := by
  obtain ⟨i0, hi, hz0, hz1, hz2⟩ := info_parts (P := Try.prog) (e := 210) (z := .agg #[.int .i64 0, .bool false, .int .u32 0, .int .u32 0, .int .u32 0, .int .u32 0, .int .u32 0, .int .u32 0, .slice none 0 0, .int .i64 0, .int .u32 0, .int .u32 0, .slice none 0 0, .slice none 0 0, .int .u8 0, .int .u8 0, .slice none 0 0]) (size := 17) (bytes := 160) (by kernel_rfl)
  obtain ⟨j0, ji, jz0, jz1, jz2⟩ := info_parts (P := Try.prog) (e := 143) (z := .agg #[.int .u32 0, .int .u8 0, .int .i32 0, .int .u32 0, .int .u32 0, .int .u32 0, .int .u32 0]) (size := 7) (bytes := 28) (by kernel_rfl)
  obtain ⟨k0, ki, kz0, kz1, kz2⟩ := info_parts (P := Try.prog) (e := 182) (z := .agg #[.int .u32 0, .int .u8 0]) (size := 2) (bytes := 8) (by kernel_rfl)
  obtain ⟨oa, cap, rfl, hl63, hel, hok⟩ := items sl
  have HEL := Lib.hid hel
  have HOK := Lib.hid hok
  have HN := Lib.hid hn
  have R0 : Hid (RowP 17 RItm (fun _ => False) (w.alloc (.cells #[] 210)) w.heap.size 210 (.slice (some ⟨w.heap.size, 0, none⟩) 0 0) []) := Lib.hid ⟨⟨[], by simpa using World.ownsRow_lit (e := 210) (size := 17) (base := w.heap.size) w #[] 0 (Nat.le_refl _) (by unfold maxLen; omega) rfl, fun i hi => by simp at hi⟩, fun _ _ h => h⟩
  clear sl hel hok hn
  go_enter Try.func66, Try.ntmps66
  go_wp2
  go_loopw [3, 15] (fun u ix wr => ∃ j : Nat, j ≤ l.length ∧ ix = .int .i64 j ∧ (∃ ou nu cu, u = .slice ou nu cu ∧ RowP 17 RItm (fun _ => False) wr w.heap.size 210 (.slice ou nu cu) (l.take j)) ∧ More w wr) (fun _ ix _ => l.length - (intOf ix).toNat)
  case atStart => exact ⟨0, by omega, rfl, ⟨_, _, _, rfl, R0.out⟩, More.alloc _ _⟩
  case round =>
    obtain ⟨j, hj, rfl, ⟨ou, nu, cu, rfl, hr⟩, hmr⟩ := hrel
    have HR := Lib.hid hr
    have HMR := Lib.hid hmr
    clear hr hmr R0
    obtain ⟨wo, rfl⟩ : ∃ wo : World, wo = wr := ⟨_, rfl⟩
    by_cases hlt : j < l.length
    · obtain ⟨b, off, ob, cb, oc, cc, od, cd, oe, ce, rfl, hb, ht, hs⟩ := HEL.out j hlt
      have HRG := Lib.hid (RangeAt.more ht HMR.out hb)
      have hmem : l.getD j itm0 ∈ l := by rw [List.getD_eq_getElem?_getD, List.getElem?_eq_getElem hlt]; exact List.getElem_mem hlt
      have HKX := Lib.hid (HOK.out _ hmem)
      have HNX := Lib.hid (HN.out _ hmem)
      have HS0 := Lib.hid hs
      have hjl : (j : Int) < (l.length : Int) := by omega
      have hbw : b < wo.heap.size := Nat.lt_of_lt_of_le hb HMR.out.size
      have HS := Lib.hid (getD_snoc l j itm0 hlt)
      have HLJ : Hid ((l.take j).length = j) := Lib.hid (by simp; omega)
      clear ht hs hmem
      generalize l.take j = acc at *
      generalize l.getD j itm0 = x at *
      obtain ⟨xk, ⟨xs, xc, ⟨xa, xb, xd, xe, xf⟩, bl⟩, ⟨mk, ms, md, ak, ls⟩, ⟨on, ot, bo, ⟨⟩⟩⟩ := x
      simp only at HRG HKX HNX HS0
      obtain ⟨hbn, han, hln, hon⟩ := HNX.out
      simp only at hbn han hln hon
      go_wp2_with (first | (refine wpList_load_mid rfl 122 (.tmp 17) rfl b (off + j * 17) rfl [.int .i64 xk, .bool xs, .int .u32 xc, .int .u32 xa, .int .u32 xb, .int .u32 xd, .int .u32 xe, .int .u32 xf, .slice ob bl.length cb, .int .i64 mk, .int .u32 ms, .int .u32 md, .slice oc ak.length cc, .slice od ls.length cd, .int .u8 on, .int .u8 ot, .slice oe bo.length ce] _ HRG.out Try.underlying122 rfl (by kernel_rfl) ?_) | (refine wpList_store_new rfl 122 (.tmp 5) (.tmp 18) rfl wo _ #[.int .i64 xk, .bool xs, .int .u32 xc, .int .u32 xa, .int .u32 xb, .int .u32 xd, .int .u32 xe, .int .u32 xf, .slice ob bl.length cb, .int .i64 mk, .int .u32 ms, .int .u32 md, .slice oc ak.length cc, .slice od ls.length cd, .int .u8 on, .int .u8 ot, .slice oe bo.length ce] rfl rfl rfl (by kernel_rfl) rfl rfl ?_))
      obtain ⟨W6, hW6⟩ : ∃ W6, (wo.alloc (.cells #[.int .i64 xk, .bool xs, .int .u32 xc, .int .u32 xa, .int .u32 xb, .int .u32 xd, .int .u32 xe, .int .u32 xf, .slice ob bl.length cb, .int .i64 mk, .int .u32 ms, .int .u32 md, .slice oc ak.length cc, .slice od ls.length cd, .int .u8 on, .int .u8 ot, .slice oe bo.length ce] 122)).alloc (.cells #[.bool xs, .int .u32 xc, .int .u32 xa, .int .u32 xb, .int .u32 xd, .int .u32 xe, .int .u32 xf, .slice none 0 0] 41) = W6 := ⟨_, rfl⟩
      have M6 : Hid (More wo W6) := Lib.hid (by rw [← hW6]; exact (More.alloc _ _).al _)
      have X6 : Hid (W6.heap[wo.heap.size]? = some (.cells #[.int .i64 xk, .bool xs, .int .u32 xc, .int .u32 xa, .int .u32 xb, .int .u32 xd, .int .u32 xe, .int .u32 xf, .slice ob bl.length cb, .int .i64 mk, .int .u32 ms, .int .u32 md, .slice oc ak.length cc, .slice od ls.length cd, .int .u8 on, .int .u8 ot, .slice oe bo.length ce] 122 (0, 0))) := Lib.hid (by rw [← hW6]; exact blk_alloc (blk_new _ _) _)
      have J6 : Hid (InJ 7 RBlk 143 W6 W6 (wo.heap.size + 1) 41 (repA xs xc xa xb xd xe xf) (.slice none 0 0) []) := Lib.hid ⟨Away.refl _ _, by rw [← hW6]; exact blk_new2 (by simp), RowP.nil _ _ _ _ _ _⟩
      rw [hW6]
      have HXB := Lib.hid (blk_lt X6.out)
      have HB6 := Lib.hid (blk_lt J6.out.blk)
      clear hW6
      obtain ⟨BX, hBX⟩ : ∃ BX, wo.heap.size = BX := ⟨_, rfl⟩
      have HBX := Lib.hid hBX
      rw [hBX] at X6 J6 HXB HB6 ⊢
      clear hBX
      have HBL : Hid (∀ i, i < bl.length → ∃ b off, ob = some ⟨b, off, none⟩ ∧ b < w.heap.size ∧ BlkAt w b off i (bl.getD i blk0)) := Lib.hid (by
        obtain ⟨_, _, e, _, h⟩ := blks HS0.out.bl
        cases e
        exact h)
      go_loopw [33] (fun ix wr => ∃ i : Nat, i ≤ bl.length ∧ ix = .int .i64 i ∧ (∃ v1, InJ 7 RBlk 143 W6 wr (BX + 1) 41 (repA xs xc xa xb xd xe xf) v1 (bl.take i))) (fun ix _ => bl.length - (intOf ix).toNat)
      case atStart => exact ⟨0, by omega, rfl, _, J6.out⟩
      case round =>
        obtain ⟨i, hi2, rfl, v1, hJ⟩ := hrel
        have HJ := Lib.hid hJ
        clear hJ
        have HM : Hid (More w wr) := Lib.hid (Away.to_more (HMR.out.trans M6.out) HJ.out.away (fun k hk => by have := HMR.out.size; have := HBX.out; omega))
        by_cases hlt2 : i < bl.length
        · obtain ⟨b2, off2, rfl, hb2, ht2⟩ := HBL.out i hlt2
          obtain ⟨c0, c1, c2, c3, c4, c5, c6, hok2⟩ := ht2.more HM.out hb2
          have hil : (i : Int) < (bl.length : Int) := by omega
          have hbw2 : b2 < wr.heap.size := Nat.lt_of_lt_of_le hb2 HM.out.size
          have HS2 := Lib.hid (getD_snoc bl i blk0 hlt2)
          have HL2 : Hid ((bl.take i).length = i) := Lib.hid (by simp; omega)
          clear ht2
          generalize bl.take i = acc2 at *
          generalize bl.getD i blk0 = c at *
          have J2 := Lib.hid ((HJ.out.on (More.alloc wr (.cells #[.int .u32 c.src, .int .u8 c.part, .int .i32 c.miss, .int .u32 c.high, .int .u32 c.jit, .int .u32 c.last, .int .u32 c.dly] 134))).on (More.alloc _ (.cells #[.int .u32 c.src, .int .u8 c.part, .int .i32 c.miss, .int .u32 c.high, .int .u32 c.jit, .int .u32 c.last, .int .u32 c.dly] 143)))
          have p7 := blk_cell (blk_more (More.alloc wr (.cells #[.int .u32 c.src, .int .u8 c.part, .int .i32 c.miss, .int .u32 c.high, .int .u32 c.jit, .int .u32 c.last, .int .u32 c.dly] 134)) HJ.out.blk) 7 (v := v1) rfl
          go_wp2_with (at_builtin; refine wpList_append_row _ rfl (.tmp 38) (.tmp 40) 39 rfl W6.heap.size 143 j0 (.agg #[.int .u32 0, .int .u8 0, .int .i32 0, .int .u32 0, .int .u32 0, .int .u32 0, .int .u32 0]) 7 28 Try.underlying39 ji jz0 jz1 jz2 rfl (by decide) v1 acc2 rfl J2.out.row (wr.heap.size + 1) c.cells c rfl rfl (new_cells (by simp)) (by simp [Blk.cells, Value.oneCell']) (fun _ _ => ⟨rfl, hok2⟩) (fun b hb => by have e : b = BX + 1 := hb; have := blk_lt J2.out.blk; omega) (by decide) (by have := HL2.out; omega) J2.out.away.size ?_; intro v10 w10 ho10 hg10 hb10; have J10 := Lib.hid (J2.out.put ho10 hg10 HB6.out 7 rfl); have b3w : w10.heap[BX + 1]? = _ := (hg10.block (BX + 1) (blk_lt J2.out.blk) (fun e => by have := J2.out.row.ge e.symm; have := HB6.out; omega)).trans J2.out.blk; have q7 := blk_cell b3w 7 (v := v1) rfl; have z7 := blk_free b3w 7; obtain ⟨o10, n10, c10, rfl, hz8, hz9⟩ := ho10.shape; clear hz8 hz9 ho10 hg10 hb10 b3w)
          go_roundw
          case rel => exact ⟨i + 1, by omega, by go_num, _, by rw [HS2.out]; exact J10.out⟩
          case measure => simp [intOf]; omega
        · obtain rfl : i = bl.length := by omega
          rw [List.take_length] at HJ
          have X7 := Lib.hid (HJ.out.away.blk X6.out (fun e => by omega))
          obtain ⟨o1, n1, p1, rfl, hz8, hz9⟩ := HJ.out.row.shape
          clear hz8 hz9
          obtain ⟨⟨t0, t1, t2, t3, t4, t5, t6, t7, t8⟩, ⟨t9, t10, t11, t12, t13⟩, t14, t15, t16⟩ := cells17 X7.out
          have hbx : BX < wr.heap.size := blk_lt X7.out
          go_wp2
          obtain ⟨W9, hW9⟩ : ∃ W9, wr.alloc (.cells #[.int .i64 mk, .int .u32 ms, .int .u32 md, .slice none 0 0, .slice od ls.length cd] 93) = W9 := ⟨_, rfl⟩
          have M9 : Hid (More wr W9) := Lib.hid (by rw [← hW9]; exact More.alloc _ _)
          have X9 := Lib.hid (blk_more M9.out X7.out)
          have Y9 := Lib.hid (blk_more M9.out HJ.out.blk)
          have J9 : Hid (InJ 2 RAsk 182 W9 W9 wr.heap.size 93 (msgA mk ms md (.slice od ls.length cd)) (.slice none 0 0) []) := Lib.hid ⟨Away.refl _ _, by rw [← hW9]; exact blk_new _ _, RowP.nil _ _ _ _ _ _⟩
          have HB9 := Lib.hid (blk_lt J9.out.blk)
          have HR6 := Lib.hid (blk_lt HJ.out.blk)
          rw [hW9]
          clear hW9 t0 t1 t2 t3 t4 t5 t6 t7 t8 t9 t10 t11 t12 t13 t14 t15 t16
          obtain ⟨wi, rfl⟩ : ∃ wi : World, wi = wr := ⟨_, rfl⟩
          obtain ⟨BM, hBM⟩ : ∃ BM, wi.heap.size = BM := ⟨_, rfl⟩
          have HBM := Lib.hid hBM
          rw [hBM] at J9 HB9 HR6 ⊢
          clear hBM
          have HMW : Hid (More w W9) := Lib.hid (HM.out.trans M9.out)
          go_loopw [61] (fun ix wr => ∃ i : Nat, i ≤ ak.length ∧ ix = .int .i64 i ∧ (∃ v2, InJ 2 RAsk 182 W9 wr BM 93 (msgA mk ms md (.slice od ls.length cd)) v2 (ak.take i))) (fun ix _ => ak.length - (intOf ix).toNat)
          case atStart => exact ⟨0, by omega, rfl, _, J9.out⟩
          case round =>
            obtain ⟨i, hi3, rfl, v2, hJ⟩ := hrel
            have HK := Lib.hid hJ
            clear hJ
            have HM2 : Hid (More w wr) := Lib.hid (Away.to_more HMW.out HK.out.away (fun k hk => by have := HM.out.size; have := HBM.out; omega))
            by_cases hlt3 : i < ak.length
            · obtain ⟨b3, off3, rfl, hb3, hcc, u1, u2⟩ := asks_cell HS0.out.ms.asks i hlt3
              obtain ⟨c0, c1⟩ := hcc _ HM2.out
              have U1 := Lib.hid u1
              have U2 := Lib.hid u2
              have hil : (i : Int) < (ak.length : Int) := by omega
              have hbw3 : b3 < wr.heap.size := Nat.lt_of_lt_of_le hb3 HM2.out.size
              have HS3 : Hid (ak.take (i + 1) = ak.take i ++ [((ak.getD i (0, 0)).1, (ak.getD i (0, 0)).2)]) := Lib.hid (getD_snoc ak i (0, 0) hlt3)
              have HL3 : Hid ((ak.take i).length = i) := Lib.hid (by simp; omega)
              clear hcc u1 u2
              generalize ak.take i = acc3 at *
              generalize (ak.getD i (0, 0)).1 = y1 at *
              generalize (ak.getD i (0, 0)).2 = y2 at *
              have J3 := Lib.hid ((HK.out.on (More.alloc wr (.cells #[.int .u32 y1, .int .u8 y2] 177))).on (More.alloc _ (.cells #[.int .u32 y1, .int .u8 y2] 182)))
              have p7 := blk_cell (blk_more (More.alloc wr (.cells #[.int .u32 y1, .int .u8 y2] 177)) HK.out.blk) 3 (v := v2) rfl
              go_wp2_with (at_builtin; refine wpList_append_row _ rfl (.tmp 66) (.tmp 68) 91 rfl W9.heap.size 182 k0 (.agg #[.int .u32 0, .int .u8 0]) 2 8 Try.underlying91 ki kz0 kz1 kz2 rfl (by decide) v2 acc3 rfl J3.out.row (wr.heap.size + 1) [.int .u32 y1, .int .u8 y2] (y1, y2) rfl rfl (new_cells (by simp)) (by simp [Value.oneCell']) (fun _ _ => ⟨rfl, U1.out, U2.out⟩) (fun b hb => by have e : b = BM := hb; have := blk_lt J3.out.blk; omega) (by decide) (by have := HL3.out; omega) J3.out.away.size ?_; intro v11 w11 ho11 hg11 hb11; have J11 := Lib.hid (J3.out.put ho11 hg11 HB9.out 3 rfl); have b3w : w11.heap[BM]? = _ := (hg11.block BM (blk_lt J3.out.blk) (fun e => by have := J3.out.row.ge e.symm; have := HB9.out; omega)).trans J3.out.blk; have q7 := blk_cell b3w 3 (v := v2) rfl; have z7 := blk_free b3w 3; obtain ⟨o11, n11, c11, rfl, hz8, hz9⟩ := ho11.shape; clear hz8 hz9 ho11 hg11 hb11 b3w)
              go_roundw
              case rel => exact ⟨i + 1, by omega, by go_num, _, by rw [HS3.out]; exact J11.out⟩
              case measure => simp [intOf]; omega
            · obtain rfl : i = ak.length := by omega
              rw [List.take_length] at HK
              have HXZ : Hid (BX ≠ BM ∧ BX + 1 ≠ BM ∧ BX < W9.heap.size ∧ BX + 1 < W9.heap.size) := Lib.hid (by have := HBM.out; have := HR6.out; have := HB9.out; have := M9.out.size; omega)
              have X12 := Lib.hid (HK.out.away.blk X9.out HXZ.out.1)
              have Y12 : Hid (wr.heap[BX + 1]? = some (.cells #[.bool xs, .int .u32 xc, .int .u32 xa, .int .u32 xb, .int .u32 xd, .int .u32 xe, .int .u32 xf, .slice o1 n1 p1] 41 (0, 0))) := Lib.hid (HK.out.away.blk Y9.out HXZ.out.2.1)
              obtain ⟨o2, n2, p2, rfl, hz8, hz9⟩ := HK.out.row.shape
              clear hz8 hz9
              have Z12 : Hid (wr.heap[BM]? = some (.cells #[.int .i64 mk, .int .u32 ms, .int .u32 md, .slice o2 n2 p2, .slice od ls.length cd] 93 (0, 0))) := Lib.hid HK.out.blk
              have hbx2 : BX < wr.heap.size := blk_lt X12.out
              have t0 := blk_cell X12.out 0 (v := .int .i64 xk) rfl
              have t14 := blk_cell X12.out 14 (v := .int .u8 on) rfl
              have t15 := blk_cell X12.out 15 (v := .int .u8 ot) rfl
              have t16 := blk_cell X12.out 16 (v := .slice oe bo.length ce) rfl
              have MWO : Hid (More wo wr) := Lib.hid (Away.to_more ((Away.to_more M6.out HJ.out.away (fun k hk => by have := HBX.out; omega)).trans M9.out) HK.out.away (fun k hk => by have := HBX.out; have := HBM.out; have := HR6.out; omega))
              have SB : Hid (SlP 7 RBlk wr (.slice o1 n1 p1) bl) := Lib.hid (slP_off ((HJ.out.row.sl (by decide)).keep keepsBlk M9.out) (fun b hb (e : b = BM) => by have := HJ.out.row.lt hb; have := HBM.out; omega) HK.out.away)
              have SA : Hid (SlP 2 RAsk wr (.slice o2 n2 p2) ak) := Lib.hid (HK.out.row.sl (by decide))
              have G1 : Hid (∀ g, (Value.slice o1 n1 p1).ownBlock = some g → wo.heap.size ≤ g) := Lib.hid (fun g hg => by have := HJ.out.row.ge hg; have := M6.out.size; omega)
              have G2 : Hid (∀ g, (Value.slice o2 n2 p2).ownBlock = some g → wo.heap.size ≤ g) := Lib.hid (fun g hg => by have := HK.out.row.ge hg; have := M9.out.size; have := HR6.out; have := HBM.out; have := HJ.out.away.size; have := M6.out.size; omega)
              have OFF : Hid (RdOff RItm (fun k => False ∨ (Value.slice ou nu cu).ownBlock = some k) wr (itmC ⟨xk, ⟨xs, xc, ⟨xa, xb, xd, xe, xf⟩, bl⟩, ⟨mk, ms, md, ak, ls⟩, (on, ot, bo, ())⟩ (.slice o1 n1 p1) (.slice o2 n2 p2) (.slice od ls.length cd) (.slice oe bo.length ce)) ⟨xk, ⟨xs, xc, ⟨xa, xb, xd, xe, xf⟩, bl⟩, ⟨mk, ms, md, ak, ls⟩, (on, ot, bo, ())⟩) := Lib.hid (itm_off2 ⟨SB.out, ⟨SA.out, HS0.out.ms.lost.keep HM2.out⟩, HS0.out.bo.keep HM2.out⟩ HKX.out (fun g hg hx => by have := G1.out g hg; have := HR.out.lt (hx.elim False.elim id); omega) (fun g hg hx => by have := G2.out g hg; have := HR.out.lt (hx.elim False.elim id); omega) (fun hne g hg hx => by have := HS0.out.ms.lost.old hne hg; have := HR.out.ge (hx.elim False.elim id); omega) (fun hne g hg hx => by have := HS0.out.bo.old hne hg; have := HR.out.ge (hx.elim False.elim id); omega))
              have RW := Lib.hid ((HR.out.on MWO.out).on (More.alloc wr (.cells #[.int .i64 xk, .bool xs, .int .u32 xc, .int .u32 xa, .int .u32 xb, .int .u32 xd, .int .u32 xe, .int .u32 xf, .slice o1 n1 p1, .int .i64 mk, .int .u32 ms, .int .u32 md, .slice o2 n2 p2, .slice od ls.length cd, .int .u8 on, .int .u8 ot, .slice oe bo.length ce] 210)))
              have hm2 := Lib.hid (HM2.out.al (.cells #[.int .i64 xk, .bool xs, .int .u32 xc, .int .u32 xa, .int .u32 xb, .int .u32 xd, .int .u32 xe, .int .u32 xf, .slice o1 n1 p1, .int .i64 mk, .int .u32 ms, .int .u32 md, .slice o2 n2 p2, .slice od ls.length cd, .int .u8 on, .int .u8 ot, .slice oe bo.length ce] 210))
              go_wp2_with (first | (refine wpList_load_row rfl 41 (.tmp 6) rfl (BX + 1) rfl _ _ _ _ Y12.out Try.underlying41 rfl (by kernel_rfl) ?_) | (refine wpList_load_row rfl 93 (.tmp 9) rfl BM rfl _ _ _ _ Z12.out Try.underlying93 rfl (by kernel_rfl) ?_) | (at_builtin; refine wpList_append_row _ rfl (.tmp 72) (.tmp 80) 126 rfl w.heap.size 210 i0 (.agg #[.int .i64 0, .bool false, .int .u32 0, .int .u32 0, .int .u32 0, .int .u32 0, .int .u32 0, .int .u32 0, .slice none 0 0, .int .i64 0, .int .u32 0, .int .u32 0, .slice none 0 0, .slice none 0 0, .int .u8 0, .int .u8 0, .slice none 0 0]) 17 160 Try.underlying126 hi hz0 hz1 hz2 rfl (by decide) _ acc rfl RW.out wr.heap.size [.int .i64 xk, .bool xs, .int .u32 xc, .int .u32 xa, .int .u32 xb, .int .u32 xd, .int .u32 xe, .int .u32 xf, .slice o1 n1 p1, .int .i64 mk, .int .u32 ms, .int .u32 md, .slice o2 n2 p2, .slice od ls.length cd, .int .u8 on, .int .u8 ot, .slice oe bo.length ce] _ rfl rfl (new_cells rfl) (by simp [Value.oneCell']) (OFF.out.on (More.alloc _ _)) (fun b h => h.elim) (by decide) (by have := HLJ.out; omega) hm2.out.size ?_; intro v8 w8 ho8 hg8 hb8; have m8 : Hid (More w w8) := Lib.hid (Below.grown hm2.out hg8 hm2.out.size (fun b hb => RW.out.ge hb)); have O8 := Lib.hid ho8; obtain ⟨o8, n8, c8', rfl, hz8, hz9⟩ := ho8.shape; clear ho8 hg8 hb8 hz8 hz9))
              go_roundw
              case rel => exact ⟨j + 1, by omega, by go_num, ⟨_, _, _, rfl, by rw [HS.out]; exact O8.out⟩, m8.out⟩
              case measure => simp [intOf]; omega
    · obtain rfl : j = l.length := by omega
      rw [List.take_length] at HR
      go_wp2
      go_ret
      exact ⟨_, rfl, HR.out.sl (by decide), HMR.out⟩
end Go.Proofs.Ytlnikmcimmnbmaa
