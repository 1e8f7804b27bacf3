/- Merged from my texts CompJ. -/
import Derived.Test.YtlnikmcimmnbmaaMg38
/- Package compound: Asked, Lost; the document's Nums. -/
namespace Go.Proofs.Ytlnikmcimmnbmaa
set_option linter.unusedSimpArgs false
set_option linter.unusedVariables false
open Go.RowKit Go.Lib
set_option maxRecDepth 100000

def askI (x : Itm) : List Int := if x.kind = 2 then (if x.msg.kind = 1 then [x.msg.med] else if x.msg.kind = 2 then x.msg.asks.map Prod.fst else []) else []
def askedI (l : List Itm) : List Int := l.flatMap askI
def lstI (m : Int) (x : Itm) : Nat := if x.kind = 2 ∧ x.msg.kind = 3 ∧ x.msg.med = m then x.msg.lost.length else 0
def lostI (l : List Itm) (m : Int) : Nat := (l.map (lstI m)).sum
theorem askI_len {x : Itm} (h : ItmN x) : (askI x).length ≤ 100000 := by
  unfold askI
  split
  · split
    · simp
    · split
      · rw [List.length_map]; exact h.asks
      · simp
  · simp
theorem askedI_app (l m : List Itm) : askedI (l ++ m) = askedI l ++ askedI m := by simp [askedI]
theorem askedI_one (x : Itm) : askedI [x] = askI x := by simp [askedI]
theorem askedI_len : ∀ {l : List Itm}, (∀ x ∈ l, ItmN x) → (askedI l).length ≤ l.length * 100000
  | [], _ => by simp [askedI]
  | x :: l, h => by
    have h1 := askI_len (h x (by simp))
    have h2 := askedI_len (l := l) fun y hy => h y (by simp [hy])
    show ((askI x) ++ askedI l).length ≤ _
    rw [List.length_append, List.length_cons]
    omega
theorem lostI_app (l k : List Itm) (m : Int) : lostI (l ++ k) m = lostI l m + lostI k m := by simp [lostI]
theorem lostI_one (x : Itm) (m : Int) : lostI [x] m = lstI m x := by simp [lostI]
theorem lostI_len (m : Int) : ∀ {l : List Itm}, (∀ x ∈ l, ItmN x) → lostI l m ≤ l.length * 100000
  | [], _ => by simp [lostI]
  | x :: l, h => by
    have h1 : lstI m x ≤ 100000 := by unfold lstI; split; exact (h x (by simp)).lost; omega
    have h2 := lostI_len m (l := l) fun y hy => h y (by simp [hy])
    show (lstI m x :: l.map (lstI m)).sum ≤ _
    rw [List.sum_cons, List.length_cons]
    unfold lostI at h2
    omega
/-- The loop of Asked. -/
structure AsJ (w wr : World) (u : Value) (A : List Int) : Prop where
  row : wr.ownsRow w.heap.size 22 1 u A.length (A.map (Value.int .u32))
  more : More w wr
theorem AsJ.on {w wr w' : World} {u : Value} {A : List Int} (h : AsJ w wr u A) (m : More wr w') : AsJ w w' u A := ⟨owns_more h.row m, h.more.trans m⟩
theorem AsJ.put {w wr w' : World} {u u' : Value} {A A' : List Int} (h : AsJ w wr u A) (ho : w'.ownsRow w.heap.size 22 1 u' A'.length (A'.map (Value.int .u32))) (g : wr.grownBy w' u.ownBlock) : AsJ w w' u' A' :=
  ⟨ho, Below.grown h.more g h.more.size (fun k hk => owns_ge h.row hk)⟩
set_option maxHeartbeats 8000000 in
theorem Asked_any (l : List Itm) (v : Value) (w : World) (sl : SlP 17 RItm w v l) (hl : l.length ≤ 1000) (hn : ∀ x ∈ l, ItmN x) :
    Calls Try.prog 68 #[v] w fun e w' => ∃ vx, e = .returned vx ∧ SlI .u32 w' vx (askedI l) ∧ More w w' := by
  obtain ⟨i0, hi, hz0, hz1, hz2⟩ := info_parts (P := Try.prog) (e := 22) (z := .int .u32 0) (size := 1) (bytes := 4) (by kernel_rfl)
  obtain ⟨oa, cap, rfl, hl63, hel, hok⟩ := items sl
  have HEL := Lib.hid hel
  have HN := Lib.hid hn
  have J0 : Hid (AsJ w w (.slice none 0 0) []) := Lib.hid ⟨World.ownsRow_nil _ _ _ _, More.refl _⟩
  clear sl hel hok hn
  go_enter Try.func68, Try.ntmps68
  go_wp2
  go_loopw [3, 10] (fun u ix wr => ∃ j : Nat, j ≤ l.length ∧ ix = .int .i64 j ∧ AsJ w wr u (askedI (l.take j))) (fun _ ix _ => l.length - (intOf ix).toNat)
  case atStart => exact ⟨0, by omega, rfl, J0.out⟩
  case round =>
    obtain ⟨j, hj, rfl, hJ⟩ := hrel
    have HJ := Lib.hid hJ
    clear hJ
    by_cases hlt : j < l.length
    · obtain ⟨b, off, ob, cb, oc, cc, od, cd, oe, ce, rfl, hb, ht, hs⟩ := HEL.out j hlt
      have HRG := Lib.hid (RangeAt.more ht HJ.out.more hb)
      have hmem : l.getD j itm0 ∈ l := by rw [List.getD_eq_getElem?_getD, List.getElem?_eq_getElem hlt]; exact List.getElem_mem hlt
      have HNX := Lib.hid (HN.out _ hmem)
      have HSA := Lib.hid hs.ms.asks
      have hjl : (j : Int) < (l.length : Int) := by omega
      have hbw : b < wr.heap.size := Nat.lt_of_lt_of_le hb HJ.out.more.size
      have HS : Hid (askedI (l.take (j + 1)) = askedI (l.take j) ++ askI (l.getD j itm0)) := Lib.hid (by rw [getD_snoc l j itm0 hlt, askedI_app, askedI_one])
      have HLL : Hid ((askedI (l.take j)).length ≤ 100000000) := Lib.hid (by
        have := askedI_len (l := l.take j) fun x hx => HN.out x (List.mem_of_mem_take hx)
        rw [List.length_take] at this
        omega)
      clear ht hs hmem
      generalize askedI (l.take j) = acc at *
      generalize l.getD j itm0 = x at *
      by_cases hk : x.kind = 2
      · have bk : (x.kind != 2) = false := by simp [hk]
        by_cases h1 : x.msg.kind = 1
        · have b1 : (x.msg.kind == 1) = true := by simp [h1]
          have HA : Hid (askI x = [x.msg.med]) := Lib.hid (by unfold askI; rw [if_pos hk, if_pos h1])
          clear hk h1
          go_upto_region 5 with (first | (refine wpList_load_mid rfl 122 (.tmp 12) rfl b (off + j * 17) rfl [.int .i64 x.kind, .bool x.rep.snd, .int .u32 x.rep.src, .int .u32 x.rep.inf.sec, .int .u32 x.rep.inf.frac, .int .u32 x.rep.inf.stamp, .int .u32 x.rep.inf.pkts, .int .u32 x.rep.inf.octs, .slice ob x.rep.bl.length cb, .int .i64 x.msg.kind, .int .u32 x.msg.snd, .int .u32 x.msg.med, .slice oc x.msg.asks.length cc, .slice od x.msg.lost.length cd, .int .u8 x.oth.1, .int .u8 x.oth.2.1, .slice oe x.oth.2.2.1.length ce] _ HRG.out Try.underlying122 rfl (by kernel_rfl) ?_) | (refine wpList_store_new rfl 122 (.tmp 5) (.tmp 13) rfl wr _ #[.int .i64 x.kind, .bool x.rep.snd, .int .u32 x.rep.src, .int .u32 x.rep.inf.sec, .int .u32 x.rep.inf.frac, .int .u32 x.rep.inf.stamp, .int .u32 x.rep.inf.pkts, .int .u32 x.rep.inf.octs, .slice ob x.rep.bl.length cb, .int .i64 x.msg.kind, .int .u32 x.msg.snd, .int .u32 x.msg.med, .slice oc x.msg.asks.length cc, .slice od x.msg.lost.length cd, .int .u8 x.oth.1, .int .u8 x.oth.2.1, .slice oe x.oth.2.2.1.length ce] rfl rfl rfl (by kernel_rfl) rfl rfl ?_))
          obtain ⟨W5, hW5⟩ : ∃ W5, wr.alloc (.cells #[.int .i64 x.kind, .bool x.rep.snd, .int .u32 x.rep.src, .int .u32 x.rep.inf.sec, .int .u32 x.rep.inf.frac, .int .u32 x.rep.inf.stamp, .int .u32 x.rep.inf.pkts, .int .u32 x.rep.inf.octs, .slice ob x.rep.bl.length cb, .int .i64 x.msg.kind, .int .u32 x.msg.snd, .int .u32 x.msg.med, .slice oc x.msg.asks.length cc, .slice od x.msg.lost.length cd, .int .u8 x.oth.1, .int .u8 x.oth.2.1, .slice oe x.oth.2.2.1.length ce] 122) = W5 := ⟨_, rfl⟩
          have M5 : Hid (More wr W5) := Lib.hid (by rw [← hW5]; exact More.alloc _ _)
          have X5 : Hid (W5.heap[wr.heap.size]? = some (.cells #[.int .i64 x.kind, .bool x.rep.snd, .int .u32 x.rep.src, .int .u32 x.rep.inf.sec, .int .u32 x.rep.inf.frac, .int .u32 x.rep.inf.stamp, .int .u32 x.rep.inf.pkts, .int .u32 x.rep.inf.octs, .slice ob x.rep.bl.length cb, .int .i64 x.msg.kind, .int .u32 x.msg.snd, .int .u32 x.msg.med, .slice oc x.msg.asks.length cc, .slice od x.msg.lost.length cd, .int .u8 x.oth.1, .int .u8 x.oth.2.1, .slice oe x.oth.2.2.1.length ce] 122 (0, 0))) := Lib.hid (by rw [← hW5]; exact blk_new _ _)
          rw [hW5]
          clear hW5
          have hB5 : wr.heap.size < W5.heap.size := blk_lt X5.out
          have t0 := blk_cell X5.out 0 (v := .int .i64 x.kind) rfl
          have t9 := blk_cell X5.out 9 (v := .int .i64 x.msg.kind) rfl
          have t11 := blk_cell X5.out 11 (v := .int .u32 x.msg.med) rfl
          have t12 := blk_cell X5.out 12 (v := .slice oc x.msg.asks.length cc) rfl
          have t13 := blk_cell X5.out 13 (v := .slice od x.msg.lost.length cd) rfl
          have J5 := Lib.hid (HJ.out.on M5.out)
          go_wp2_with (at_builtin; refine wpList_append_at _ rfl (.tmp 22) (.tmp 26) 55 rfl w.heap.size 22 i0 (.int .u32 0) 4 Try.underlying55 hi hz0 hz1 hz2 rfl _ .u32 acc rfl (J5.out.on (More.alloc _ _)).row _ [x.msg.med] rfl (SlI.lit .u32 W5 [x.msg.med] 22 _ 1 _ rfl rfl rfl (by simp)) (by have := HLL.out; simp; omega) (by decide) (by have := J5.out.more.size; simp; omega) ?_; intro v9 w9 ho9 hg9 hx9; have J9 := Lib.hid ((J5.out.on (More.alloc _ _)).put ho9 hg9); clear ho9 hg9 hx9)
          go_roundw
          case measure => simp [intOf]; omega
          case rel => exact ⟨j + 1, by omega, by go_num, by rw [HS.out, HA.out]; exact J9.out⟩
        · have b1 : (x.msg.kind == 1) = false := by simp [h1]
          by_cases h2 : x.msg.kind = 2
          · have b2 : (x.msg.kind == 2) = true := by simp [h2]
            have HA : Hid (askI x = x.msg.asks.map Prod.fst) := Lib.hid (by unfold askI; rw [if_pos hk, if_neg h1, if_pos h2])
            clear hk h1 h2
            go_upto_region 5 with (first | (refine wpList_load_mid rfl 122 (.tmp 12) rfl b (off + j * 17) rfl [.int .i64 x.kind, .bool x.rep.snd, .int .u32 x.rep.src, .int .u32 x.rep.inf.sec, .int .u32 x.rep.inf.frac, .int .u32 x.rep.inf.stamp, .int .u32 x.rep.inf.pkts, .int .u32 x.rep.inf.octs, .slice ob x.rep.bl.length cb, .int .i64 x.msg.kind, .int .u32 x.msg.snd, .int .u32 x.msg.med, .slice oc x.msg.asks.length cc, .slice od x.msg.lost.length cd, .int .u8 x.oth.1, .int .u8 x.oth.2.1, .slice oe x.oth.2.2.1.length ce] _ HRG.out Try.underlying122 rfl (by kernel_rfl) ?_) | (refine wpList_store_new rfl 122 (.tmp 5) (.tmp 13) rfl wr _ #[.int .i64 x.kind, .bool x.rep.snd, .int .u32 x.rep.src, .int .u32 x.rep.inf.sec, .int .u32 x.rep.inf.frac, .int .u32 x.rep.inf.stamp, .int .u32 x.rep.inf.pkts, .int .u32 x.rep.inf.octs, .slice ob x.rep.bl.length cb, .int .i64 x.msg.kind, .int .u32 x.msg.snd, .int .u32 x.msg.med, .slice oc x.msg.asks.length cc, .slice od x.msg.lost.length cd, .int .u8 x.oth.1, .int .u8 x.oth.2.1, .slice oe x.oth.2.2.1.length ce] rfl rfl rfl (by kernel_rfl) rfl rfl ?_))
            obtain ⟨W5, hW5⟩ : ∃ W5, wr.alloc (.cells #[.int .i64 x.kind, .bool x.rep.snd, .int .u32 x.rep.src, .int .u32 x.rep.inf.sec, .int .u32 x.rep.inf.frac, .int .u32 x.rep.inf.stamp, .int .u32 x.rep.inf.pkts, .int .u32 x.rep.inf.octs, .slice ob x.rep.bl.length cb, .int .i64 x.msg.kind, .int .u32 x.msg.snd, .int .u32 x.msg.med, .slice oc x.msg.asks.length cc, .slice od x.msg.lost.length cd, .int .u8 x.oth.1, .int .u8 x.oth.2.1, .slice oe x.oth.2.2.1.length ce] 122) = W5 := ⟨_, rfl⟩
            have M5 : Hid (More wr W5) := Lib.hid (by rw [← hW5]; exact More.alloc _ _)
            have X5 : Hid (W5.heap[wr.heap.size]? = some (.cells #[.int .i64 x.kind, .bool x.rep.snd, .int .u32 x.rep.src, .int .u32 x.rep.inf.sec, .int .u32 x.rep.inf.frac, .int .u32 x.rep.inf.stamp, .int .u32 x.rep.inf.pkts, .int .u32 x.rep.inf.octs, .slice ob x.rep.bl.length cb, .int .i64 x.msg.kind, .int .u32 x.msg.snd, .int .u32 x.msg.med, .slice oc x.msg.asks.length cc, .slice od x.msg.lost.length cd, .int .u8 x.oth.1, .int .u8 x.oth.2.1, .slice oe x.oth.2.2.1.length ce] 122 (0, 0))) := Lib.hid (by rw [← hW5]; exact blk_new _ _)
            rw [hW5]
            clear hW5
            have hB5 : wr.heap.size < W5.heap.size := blk_lt X5.out
            have t0 := blk_cell X5.out 0 (v := .int .i64 x.kind) rfl
            have t9 := blk_cell X5.out 9 (v := .int .i64 x.msg.kind) rfl
            have t11 := blk_cell X5.out 11 (v := .int .u32 x.msg.med) rfl
            have t12 := blk_cell X5.out 12 (v := .slice oc x.msg.asks.length cc) rfl
            have t13 := blk_cell X5.out 13 (v := .slice od x.msg.lost.length cd) rfl
            have J5 := Lib.hid (HJ.out.on M5.out)
            go_wp2
            have HMW := Lib.hid HJ.out.more
            obtain ⟨wo, rfl⟩ : ∃ wo : World, wo = wr := ⟨_, rfl⟩
            have HN2 := Lib.hid HNX.out.asks
            generalize x.msg.asks = ak at *
            have han : ak.length ≤ 100000 := HN2.out
            clear t0 t9 t11 t12 t13 X5 hB5
            go_loopw [3, 34] (fun u ix wr => ∃ i : Nat, i ≤ ak.length ∧ ix = .int .i64 i ∧ AsJ w wr u (acc ++ (ak.take i).map Prod.fst)) (fun _ ix _ => ak.length - (intOf ix).toNat)
            case atStart => exact ⟨0, by omega, rfl, by simpa using J5.out⟩
            case round =>
              obtain ⟨i, hi2, rfl, hJ⟩ := hrel
              have HK := Lib.hid hJ
              clear hJ
              by_cases hlt3 : i < ak.length
              · obtain ⟨b3, off3, rfl, hb3, hcc, u1, u2⟩ := asks_cell HSA.out i hlt3
                obtain ⟨c0, c1⟩ := hcc _ HK.out.more
                have hil : (i : Int) < (ak.length : Int) := by omega
                have hbw3 : b3 < wr.heap.size := Nat.lt_of_lt_of_le hb3 HK.out.more.size
                have HS3 : Hid (acc ++ (ak.take (i + 1)).map Prod.fst = (acc ++ (ak.take i).map Prod.fst) ++ [(ak.getD i (0, 0)).1]) := Lib.hid (by rw [getD_snoc ak i (0, 0) hlt3, List.map_append, List.append_assoc]; rfl)
                have HL3 : Hid ((acc ++ (ak.take i).map Prod.fst).length ≤ 100100000) := Lib.hid (by have := HLL.out; have := HN2.out; rw [List.length_append, List.length_map, List.length_take]; omega)
                clear hcc u1 u2
                generalize acc ++ (ak.take i).map Prod.fst = acc3 at *
                generalize (ak.getD i (0, 0)).1 = y1 at *
                generalize (ak.getD i (0, 0)).2 = y2 at *
                have K3 := Lib.hid (HK.out.on (More.alloc wr (.cells #[.int .u32 y1, .int .u8 y2] 177)))
                go_wp2_with (at_builtin; refine wpList_append_at _ rfl (.tmp 38) (.tmp 41) 55 rfl w.heap.size 22 i0 (.int .u32 0) 4 Try.underlying55 hi hz0 hz1 hz2 rfl _ .u32 acc3 rfl (K3.out.on (More.alloc _ _)).row _ [y1] rfl (SlI.lit .u32 (wr.alloc (.cells #[.int .u32 y1, .int .u8 y2] 177)) [y1] 22 _ 1 _ rfl rfl (by simp) (by simp)) (by have := HL3.out; rw [List.length_singleton]; omega) (by decide) (by have := HK.out.more.size; simp; omega) ?_; intro v9 w9 ho9 hg9 hx9; have J9 := Lib.hid ((K3.out.on (More.alloc _ _)).put ho9 hg9); clear ho9 hg9 hx9)
                go_roundw
                case measure => simp [intOf]; omega
                case rel => exact ⟨i + 1, by omega, by go_num, by rw [HS3.out]; exact J9.out⟩
              · obtain rfl : i = ak.length := by omega
                rw [List.take_length] at HK
                go_wp2
                go_roundw
                case measure => simp [intOf]; omega
                case rel => exact ⟨j + 1, by omega, by go_num, by rw [HS.out, HA.out]; exact HK.out⟩
          · have b2 : (x.msg.kind == 2) = false := by simp [h2]
            have HA : Hid (askI x = []) := Lib.hid (by unfold askI; rw [if_pos hk, if_neg h1, if_neg h2])
            clear hk h1 h2
            go_upto_region 5 with (first | (refine wpList_load_mid rfl 122 (.tmp 12) rfl b (off + j * 17) rfl [.int .i64 x.kind, .bool x.rep.snd, .int .u32 x.rep.src, .int .u32 x.rep.inf.sec, .int .u32 x.rep.inf.frac, .int .u32 x.rep.inf.stamp, .int .u32 x.rep.inf.pkts, .int .u32 x.rep.inf.octs, .slice ob x.rep.bl.length cb, .int .i64 x.msg.kind, .int .u32 x.msg.snd, .int .u32 x.msg.med, .slice oc x.msg.asks.length cc, .slice od x.msg.lost.length cd, .int .u8 x.oth.1, .int .u8 x.oth.2.1, .slice oe x.oth.2.2.1.length ce] _ HRG.out Try.underlying122 rfl (by kernel_rfl) ?_) | (refine wpList_store_new rfl 122 (.tmp 5) (.tmp 13) rfl wr _ #[.int .i64 x.kind, .bool x.rep.snd, .int .u32 x.rep.src, .int .u32 x.rep.inf.sec, .int .u32 x.rep.inf.frac, .int .u32 x.rep.inf.stamp, .int .u32 x.rep.inf.pkts, .int .u32 x.rep.inf.octs, .slice ob x.rep.bl.length cb, .int .i64 x.msg.kind, .int .u32 x.msg.snd, .int .u32 x.msg.med, .slice oc x.msg.asks.length cc, .slice od x.msg.lost.length cd, .int .u8 x.oth.1, .int .u8 x.oth.2.1, .slice oe x.oth.2.2.1.length ce] rfl rfl rfl (by kernel_rfl) rfl rfl ?_))
            obtain ⟨W5, hW5⟩ : ∃ W5, wr.alloc (.cells #[.int .i64 x.kind, .bool x.rep.snd, .int .u32 x.rep.src, .int .u32 x.rep.inf.sec, .int .u32 x.rep.inf.frac, .int .u32 x.rep.inf.stamp, .int .u32 x.rep.inf.pkts, .int .u32 x.rep.inf.octs, .slice ob x.rep.bl.length cb, .int .i64 x.msg.kind, .int .u32 x.msg.snd, .int .u32 x.msg.med, .slice oc x.msg.asks.length cc, .slice od x.msg.lost.length cd, .int .u8 x.oth.1, .int .u8 x.oth.2.1, .slice oe x.oth.2.2.1.length ce] 122) = W5 := ⟨_, rfl⟩
            have M5 : Hid (More wr W5) := Lib.hid (by rw [← hW5]; exact More.alloc _ _)
            have X5 : Hid (W5.heap[wr.heap.size]? = some (.cells #[.int .i64 x.kind, .bool x.rep.snd, .int .u32 x.rep.src, .int .u32 x.rep.inf.sec, .int .u32 x.rep.inf.frac, .int .u32 x.rep.inf.stamp, .int .u32 x.rep.inf.pkts, .int .u32 x.rep.inf.octs, .slice ob x.rep.bl.length cb, .int .i64 x.msg.kind, .int .u32 x.msg.snd, .int .u32 x.msg.med, .slice oc x.msg.asks.length cc, .slice od x.msg.lost.length cd, .int .u8 x.oth.1, .int .u8 x.oth.2.1, .slice oe x.oth.2.2.1.length ce] 122 (0, 0))) := Lib.hid (by rw [← hW5]; exact blk_new _ _)
            rw [hW5]
            clear hW5
            have hB5 : wr.heap.size < W5.heap.size := blk_lt X5.out
            have t0 := blk_cell X5.out 0 (v := .int .i64 x.kind) rfl
            have t9 := blk_cell X5.out 9 (v := .int .i64 x.msg.kind) rfl
            have t11 := blk_cell X5.out 11 (v := .int .u32 x.msg.med) rfl
            have t12 := blk_cell X5.out 12 (v := .slice oc x.msg.asks.length cc) rfl
            have t13 := blk_cell X5.out 13 (v := .slice od x.msg.lost.length cd) rfl
            go_wp2
            go_roundw
            case measure => simp [intOf]; omega
            case rel => exact ⟨j + 1, by omega, by go_num, by rw [HS.out, HA.out, List.append_nil]; exact HJ.out.on M5.out⟩
      · have bk : (x.kind != 2) = true := by simp [hk]
        have HA : Hid (askI x = []) := Lib.hid (by unfold askI; rw [if_neg hk])
        clear hk
        go_upto_region 5 with (first | (refine wpList_load_mid rfl 122 (.tmp 12) rfl b (off + j * 17) rfl [.int .i64 x.kind, .bool x.rep.snd, .int .u32 x.rep.src, .int .u32 x.rep.inf.sec, .int .u32 x.rep.inf.frac, .int .u32 x.rep.inf.stamp, .int .u32 x.rep.inf.pkts, .int .u32 x.rep.inf.octs, .slice ob x.rep.bl.length cb, .int .i64 x.msg.kind, .int .u32 x.msg.snd, .int .u32 x.msg.med, .slice oc x.msg.asks.length cc, .slice od x.msg.lost.length cd, .int .u8 x.oth.1, .int .u8 x.oth.2.1, .slice oe x.oth.2.2.1.length ce] _ HRG.out Try.underlying122 rfl (by kernel_rfl) ?_) | (refine wpList_store_new rfl 122 (.tmp 5) (.tmp 13) rfl wr _ #[.int .i64 x.kind, .bool x.rep.snd, .int .u32 x.rep.src, .int .u32 x.rep.inf.sec, .int .u32 x.rep.inf.frac, .int .u32 x.rep.inf.stamp, .int .u32 x.rep.inf.pkts, .int .u32 x.rep.inf.octs, .slice ob x.rep.bl.length cb, .int .i64 x.msg.kind, .int .u32 x.msg.snd, .int .u32 x.msg.med, .slice oc x.msg.asks.length cc, .slice od x.msg.lost.length cd, .int .u8 x.oth.1, .int .u8 x.oth.2.1, .slice oe x.oth.2.2.1.length ce] rfl rfl rfl (by kernel_rfl) rfl rfl ?_))
        obtain ⟨W5, hW5⟩ : ∃ W5, wr.alloc (.cells #[.int .i64 x.kind, .bool x.rep.snd, .int .u32 x.rep.src, .int .u32 x.rep.inf.sec, .int .u32 x.rep.inf.frac, .int .u32 x.rep.inf.stamp, .int .u32 x.rep.inf.pkts, .int .u32 x.rep.inf.octs, .slice ob x.rep.bl.length cb, .int .i64 x.msg.kind, .int .u32 x.msg.snd, .int .u32 x.msg.med, .slice oc x.msg.asks.length cc, .slice od x.msg.lost.length cd, .int .u8 x.oth.1, .int .u8 x.oth.2.1, .slice oe x.oth.2.2.1.length ce] 122) = W5 := ⟨_, rfl⟩
        have M5 : Hid (More wr W5) := Lib.hid (by rw [← hW5]; exact More.alloc _ _)
        have X5 : Hid (W5.heap[wr.heap.size]? = some (.cells #[.int .i64 x.kind, .bool x.rep.snd, .int .u32 x.rep.src, .int .u32 x.rep.inf.sec, .int .u32 x.rep.inf.frac, .int .u32 x.rep.inf.stamp, .int .u32 x.rep.inf.pkts, .int .u32 x.rep.inf.octs, .slice ob x.rep.bl.length cb, .int .i64 x.msg.kind, .int .u32 x.msg.snd, .int .u32 x.msg.med, .slice oc x.msg.asks.length cc, .slice od x.msg.lost.length cd, .int .u8 x.oth.1, .int .u8 x.oth.2.1, .slice oe x.oth.2.2.1.length ce] 122 (0, 0))) := Lib.hid (by rw [← hW5]; exact blk_new _ _)
        rw [hW5]
        clear hW5
        have hB5 : wr.heap.size < W5.heap.size := blk_lt X5.out
        have t0 := blk_cell X5.out 0 (v := .int .i64 x.kind) rfl
        have t9 := blk_cell X5.out 9 (v := .int .i64 x.msg.kind) rfl
        have t11 := blk_cell X5.out 11 (v := .int .u32 x.msg.med) rfl
        have t12 := blk_cell X5.out 12 (v := .slice oc x.msg.asks.length cc) rfl
        have t13 := blk_cell X5.out 13 (v := .slice od x.msg.lost.length cd) rfl
        go_wp2
        go_roundw
        case measure => simp [intOf]; omega
        case rel => exact ⟨j + 1, by omega, by go_num, by rw [HS.out, HA.out, List.append_nil]; exact HJ.out.on M5.out⟩
    · obtain rfl : j = l.length := by omega
      rw [List.take_length] at HJ
      have HLL : Hid ((askedI l).length ≤ 100000000) := Lib.hid (by have := askedI_len (l := l) HN.out; omega)
      go_wp2
      go_ret
      exact ⟨_, rfl, SlI.of_owns HJ.out.row (by have := HLL.out; omega), HJ.out.more⟩
set_option maxHeartbeats 8000000 in
theorem Lost_any (l : List Itm) (m : Int) (v : Value) (w : World) (sl : SlP 17 RItm w v l) (hl : l.length ≤ 1000) (hn : ∀ x ∈ l, ItmN x) :
    Calls Try.prog 69 #[v, .int .u32 m] w fun e w' => e = .returned (.int .i64 (lostI l m)) ∧ More w w' := by
  obtain ⟨oa, cap, rfl, hl63, hel, hok⟩ := items sl
  have HEL := Lib.hid hel
  have HN := Lib.hid hn
  clear sl hel hok hn
  go_enter Try.func69, Try.ntmps69
  go_wp2
  go_loopw [5, 10] (fun u ix wr => ∃ (j s : Nat), j ≤ l.length ∧ ix = .int .i64 j ∧ u = .int .i64 s ∧ lostI (l.take j) m = s ∧ More w wr) (fun _ ix _ => l.length - (intOf ix).toNat)
  case atStart => exact ⟨0, 0, by omega, rfl, rfl, rfl, More.refl _⟩
  case round =>
    obtain ⟨j, s, hj, rfl, rfl, hs0, hmr⟩ := hrel
    have HSS := Lib.hid hs0
    have HMR := Lib.hid hmr
    by_cases hlt : j < l.length
    · obtain ⟨b, off, ob, cb, oc, cc, od, cd, oe, ce, rfl, hb, ht, hs⟩ := HEL.out j hlt
      have HRG := Lib.hid (RangeAt.more ht hmr hb)
      have hmem : l.getD j itm0 ∈ l := by rw [List.getD_eq_getElem?_getD, List.getElem?_eq_getElem hlt]; exact List.getElem_mem hlt
      have hnl := (HN.out _ hmem).lost
      have hjl : (j : Int) < (l.length : Int) := by omega
      have hbw : b < wr.heap.size := Nat.lt_of_lt_of_le hb hmr.size
      have HS : Hid (lostI (l.take (j + 1)) m = s + lstI m (l.getD j itm0)) := Lib.hid (by rw [getD_snoc l j itm0 hlt, lostI_app, lostI_one, hs0])
      have hsl : s ≤ 100000000 := by
        have := lostI_len m (l := l.take j) fun x hx => HN.out x (List.mem_of_mem_take hx)
        rw [List.length_take, hs0] at this
        omega
      clear ht hs hmem hs0 hmr
      generalize l.getD j itm0 = x at *
      have hs64 : (s : Int) ≤ 100000000 := by omega
      have hn64 : (x.msg.lost.length : Int) ≤ 100000 := by omega
      by_cases hk : x.kind = 2
      · have bk : (x.kind == 2) = true := by simp [hk]
        by_cases h1 : x.msg.kind = 3
        · have b1 : (x.msg.kind == 3) = true := by simp [h1]
          by_cases h2 : x.msg.med = m
          · have b2 : (x.msg.med == m) = true := by simp [h2]
            have HA : Hid (lstI m x = x.msg.lost.length) := Lib.hid (by unfold lstI; rw [if_pos ⟨hk, h1, h2⟩])
            clear hk h1 h2
            go_upto_region 5 with (first | (refine wpList_load_mid rfl 122 (.tmp 12) rfl b (off + j * 17) rfl [.int .i64 x.kind, .bool x.rep.snd, .int .u32 x.rep.src, .int .u32 x.rep.inf.sec, .int .u32 x.rep.inf.frac, .int .u32 x.rep.inf.stamp, .int .u32 x.rep.inf.pkts, .int .u32 x.rep.inf.octs, .slice ob x.rep.bl.length cb, .int .i64 x.msg.kind, .int .u32 x.msg.snd, .int .u32 x.msg.med, .slice oc x.msg.asks.length cc, .slice od x.msg.lost.length cd, .int .u8 x.oth.1, .int .u8 x.oth.2.1, .slice oe x.oth.2.2.1.length ce] _ HRG.out Try.underlying122 rfl (by kernel_rfl) ?_) | (refine wpList_store_new rfl 122 (.tmp 7) (.tmp 13) rfl wr _ #[.int .i64 x.kind, .bool x.rep.snd, .int .u32 x.rep.src, .int .u32 x.rep.inf.sec, .int .u32 x.rep.inf.frac, .int .u32 x.rep.inf.stamp, .int .u32 x.rep.inf.pkts, .int .u32 x.rep.inf.octs, .slice ob x.rep.bl.length cb, .int .i64 x.msg.kind, .int .u32 x.msg.snd, .int .u32 x.msg.med, .slice oc x.msg.asks.length cc, .slice od x.msg.lost.length cd, .int .u8 x.oth.1, .int .u8 x.oth.2.1, .slice oe x.oth.2.2.1.length ce] rfl rfl rfl (by kernel_rfl) rfl rfl ?_))
            obtain ⟨W5, hW5⟩ : ∃ W5, wr.alloc (.cells #[.int .i64 x.kind, .bool x.rep.snd, .int .u32 x.rep.src, .int .u32 x.rep.inf.sec, .int .u32 x.rep.inf.frac, .int .u32 x.rep.inf.stamp, .int .u32 x.rep.inf.pkts, .int .u32 x.rep.inf.octs, .slice ob x.rep.bl.length cb, .int .i64 x.msg.kind, .int .u32 x.msg.snd, .int .u32 x.msg.med, .slice oc x.msg.asks.length cc, .slice od x.msg.lost.length cd, .int .u8 x.oth.1, .int .u8 x.oth.2.1, .slice oe x.oth.2.2.1.length ce] 122) = W5 := ⟨_, rfl⟩
            have M5 : Hid (More wr W5) := Lib.hid (by rw [← hW5]; exact More.alloc _ _)
            have X5 : Hid (W5.heap[wr.heap.size]? = some (.cells #[.int .i64 x.kind, .bool x.rep.snd, .int .u32 x.rep.src, .int .u32 x.rep.inf.sec, .int .u32 x.rep.inf.frac, .int .u32 x.rep.inf.stamp, .int .u32 x.rep.inf.pkts, .int .u32 x.rep.inf.octs, .slice ob x.rep.bl.length cb, .int .i64 x.msg.kind, .int .u32 x.msg.snd, .int .u32 x.msg.med, .slice oc x.msg.asks.length cc, .slice od x.msg.lost.length cd, .int .u8 x.oth.1, .int .u8 x.oth.2.1, .slice oe x.oth.2.2.1.length ce] 122 (0, 0))) := Lib.hid (by rw [← hW5]; exact blk_new _ _)
            rw [hW5]
            clear hW5
            have hB5 : wr.heap.size < W5.heap.size := blk_lt X5.out
            have t0 := blk_cell X5.out 0 (v := .int .i64 x.kind) rfl
            have t9 := blk_cell X5.out 9 (v := .int .i64 x.msg.kind) rfl
            have t11 := blk_cell X5.out 11 (v := .int .u32 x.msg.med) rfl
            have t12 := blk_cell X5.out 12 (v := .slice oc x.msg.asks.length cc) rfl
            have t13 := blk_cell X5.out 13 (v := .slice od x.msg.lost.length cd) rfl
            go_wp2
            go_roundw
            case measure => simp [intOf]; omega
            case rel => exact ⟨j + 1, s + x.msg.lost.length, by omega, by go_num, by go_num, by rw [HS.out, HA.out], HMR.out.trans M5.out⟩
          · have b2 : (x.msg.med == m) = false := by simp [h2]
            have HA : Hid (lstI m x = 0) := Lib.hid (by unfold lstI; rw [if_neg (fun e => h2 e.2.2)])
            clear hk h1 h2
            go_upto_region 5 with (first | (refine wpList_load_mid rfl 122 (.tmp 12) rfl b (off + j * 17) rfl [.int .i64 x.kind, .bool x.rep.snd, .int .u32 x.rep.src, .int .u32 x.rep.inf.sec, .int .u32 x.rep.inf.frac, .int .u32 x.rep.inf.stamp, .int .u32 x.rep.inf.pkts, .int .u32 x.rep.inf.octs, .slice ob x.rep.bl.length cb, .int .i64 x.msg.kind, .int .u32 x.msg.snd, .int .u32 x.msg.med, .slice oc x.msg.asks.length cc, .slice od x.msg.lost.length cd, .int .u8 x.oth.1, .int .u8 x.oth.2.1, .slice oe x.oth.2.2.1.length ce] _ HRG.out Try.underlying122 rfl (by kernel_rfl) ?_) | (refine wpList_store_new rfl 122 (.tmp 7) (.tmp 13) rfl wr _ #[.int .i64 x.kind, .bool x.rep.snd, .int .u32 x.rep.src, .int .u32 x.rep.inf.sec, .int .u32 x.rep.inf.frac, .int .u32 x.rep.inf.stamp, .int .u32 x.rep.inf.pkts, .int .u32 x.rep.inf.octs, .slice ob x.rep.bl.length cb, .int .i64 x.msg.kind, .int .u32 x.msg.snd, .int .u32 x.msg.med, .slice oc x.msg.asks.length cc, .slice od x.msg.lost.length cd, .int .u8 x.oth.1, .int .u8 x.oth.2.1, .slice oe x.oth.2.2.1.length ce] rfl rfl rfl (by kernel_rfl) rfl rfl ?_))
            obtain ⟨W5, hW5⟩ : ∃ W5, wr.alloc (.cells #[.int .i64 x.kind, .bool x.rep.snd, .int .u32 x.rep.src, .int .u32 x.rep.inf.sec, .int .u32 x.rep.inf.frac, .int .u32 x.rep.inf.stamp, .int .u32 x.rep.inf.pkts, .int .u32 x.rep.inf.octs, .slice ob x.rep.bl.length cb, .int .i64 x.msg.kind, .int .u32 x.msg.snd, .int .u32 x.msg.med, .slice oc x.msg.asks.length cc, .slice od x.msg.lost.length cd, .int .u8 x.oth.1, .int .u8 x.oth.2.1, .slice oe x.oth.2.2.1.length ce] 122) = W5 := ⟨_, rfl⟩
            have M5 : Hid (More wr W5) := Lib.hid (by rw [← hW5]; exact More.alloc _ _)
            have X5 : Hid (W5.heap[wr.heap.size]? = some (.cells #[.int .i64 x.kind, .bool x.rep.snd, .int .u32 x.rep.src, .int .u32 x.rep.inf.sec, .int .u32 x.rep.inf.frac, .int .u32 x.rep.inf.stamp, .int .u32 x.rep.inf.pkts, .int .u32 x.rep.inf.octs, .slice ob x.rep.bl.length cb, .int .i64 x.msg.kind, .int .u32 x.msg.snd, .int .u32 x.msg.med, .slice oc x.msg.asks.length cc, .slice od x.msg.lost.length cd, .int .u8 x.oth.1, .int .u8 x.oth.2.1, .slice oe x.oth.2.2.1.length ce] 122 (0, 0))) := Lib.hid (by rw [← hW5]; exact blk_new _ _)
            rw [hW5]
            clear hW5
            have hB5 : wr.heap.size < W5.heap.size := blk_lt X5.out
            have t0 := blk_cell X5.out 0 (v := .int .i64 x.kind) rfl
            have t9 := blk_cell X5.out 9 (v := .int .i64 x.msg.kind) rfl
            have t11 := blk_cell X5.out 11 (v := .int .u32 x.msg.med) rfl
            have t12 := blk_cell X5.out 12 (v := .slice oc x.msg.asks.length cc) rfl
            have t13 := blk_cell X5.out 13 (v := .slice od x.msg.lost.length cd) rfl
            go_wp2
            go_roundw
            case measure => simp [intOf]; omega
            case rel => exact ⟨j + 1, s, by omega, by go_num, rfl, by rw [HS.out, HA.out]; rfl, HMR.out.trans M5.out⟩
        · have b1 : (x.msg.kind == 3) = false := by simp [h1]
          have HA : Hid (lstI m x = 0) := Lib.hid (by unfold lstI; rw [if_neg (fun e => h1 e.2.1)])
          clear hk h1
          go_upto_region 5 with (first | (refine wpList_load_mid rfl 122 (.tmp 12) rfl b (off + j * 17) rfl [.int .i64 x.kind, .bool x.rep.snd, .int .u32 x.rep.src, .int .u32 x.rep.inf.sec, .int .u32 x.rep.inf.frac, .int .u32 x.rep.inf.stamp, .int .u32 x.rep.inf.pkts, .int .u32 x.rep.inf.octs, .slice ob x.rep.bl.length cb, .int .i64 x.msg.kind, .int .u32 x.msg.snd, .int .u32 x.msg.med, .slice oc x.msg.asks.length cc, .slice od x.msg.lost.length cd, .int .u8 x.oth.1, .int .u8 x.oth.2.1, .slice oe x.oth.2.2.1.length ce] _ HRG.out Try.underlying122 rfl (by kernel_rfl) ?_) | (refine wpList_store_new rfl 122 (.tmp 7) (.tmp 13) rfl wr _ #[.int .i64 x.kind, .bool x.rep.snd, .int .u32 x.rep.src, .int .u32 x.rep.inf.sec, .int .u32 x.rep.inf.frac, .int .u32 x.rep.inf.stamp, .int .u32 x.rep.inf.pkts, .int .u32 x.rep.inf.octs, .slice ob x.rep.bl.length cb, .int .i64 x.msg.kind, .int .u32 x.msg.snd, .int .u32 x.msg.med, .slice oc x.msg.asks.length cc, .slice od x.msg.lost.length cd, .int .u8 x.oth.1, .int .u8 x.oth.2.1, .slice oe x.oth.2.2.1.length ce] rfl rfl rfl (by kernel_rfl) rfl rfl ?_))
          obtain ⟨W5, hW5⟩ : ∃ W5, wr.alloc (.cells #[.int .i64 x.kind, .bool x.rep.snd, .int .u32 x.rep.src, .int .u32 x.rep.inf.sec, .int .u32 x.rep.inf.frac, .int .u32 x.rep.inf.stamp, .int .u32 x.rep.inf.pkts, .int .u32 x.rep.inf.octs, .slice ob x.rep.bl.length cb, .int .i64 x.msg.kind, .int .u32 x.msg.snd, .int .u32 x.msg.med, .slice oc x.msg.asks.length cc, .slice od x.msg.lost.length cd, .int .u8 x.oth.1, .int .u8 x.oth.2.1, .slice oe x.oth.2.2.1.length ce] 122) = W5 := ⟨_, rfl⟩
          have M5 : Hid (More wr W5) := Lib.hid (by rw [← hW5]; exact More.alloc _ _)
          have X5 : Hid (W5.heap[wr.heap.size]? = some (.cells #[.int .i64 x.kind, .bool x.rep.snd, .int .u32 x.rep.src, .int .u32 x.rep.inf.sec, .int .u32 x.rep.inf.frac, .int .u32 x.rep.inf.stamp, .int .u32 x.rep.inf.pkts, .int .u32 x.rep.inf.octs, .slice ob x.rep.bl.length cb, .int .i64 x.msg.kind, .int .u32 x.msg.snd, .int .u32 x.msg.med, .slice oc x.msg.asks.length cc, .slice od x.msg.lost.length cd, .int .u8 x.oth.1, .int .u8 x.oth.2.1, .slice oe x.oth.2.2.1.length ce] 122 (0, 0))) := Lib.hid (by rw [← hW5]; exact blk_new _ _)
          rw [hW5]
          clear hW5
          have hB5 : wr.heap.size < W5.heap.size := blk_lt X5.out
          have t0 := blk_cell X5.out 0 (v := .int .i64 x.kind) rfl
          have t9 := blk_cell X5.out 9 (v := .int .i64 x.msg.kind) rfl
          have t11 := blk_cell X5.out 11 (v := .int .u32 x.msg.med) rfl
          have t12 := blk_cell X5.out 12 (v := .slice oc x.msg.asks.length cc) rfl
          have t13 := blk_cell X5.out 13 (v := .slice od x.msg.lost.length cd) rfl
          go_wp2
          go_roundw
          case measure => simp [intOf]; omega
          case rel => exact ⟨j + 1, s, by omega, by go_num, rfl, by rw [HS.out, HA.out]; rfl, HMR.out.trans M5.out⟩
      · have bk : (x.kind == 2) = false := by simp [hk]
        have HA : Hid (lstI m x = 0) := Lib.hid (by unfold lstI; rw [if_neg (fun e => hk e.1)])
        clear hk
        go_upto_region 5 with (first | (refine wpList_load_mid rfl 122 (.tmp 12) rfl b (off + j * 17) rfl [.int .i64 x.kind, .bool x.rep.snd, .int .u32 x.rep.src, .int .u32 x.rep.inf.sec, .int .u32 x.rep.inf.frac, .int .u32 x.rep.inf.stamp, .int .u32 x.rep.inf.pkts, .int .u32 x.rep.inf.octs, .slice ob x.rep.bl.length cb, .int .i64 x.msg.kind, .int .u32 x.msg.snd, .int .u32 x.msg.med, .slice oc x.msg.asks.length cc, .slice od x.msg.lost.length cd, .int .u8 x.oth.1, .int .u8 x.oth.2.1, .slice oe x.oth.2.2.1.length ce] _ HRG.out Try.underlying122 rfl (by kernel_rfl) ?_) | (refine wpList_store_new rfl 122 (.tmp 7) (.tmp 13) rfl wr _ #[.int .i64 x.kind, .bool x.rep.snd, .int .u32 x.rep.src, .int .u32 x.rep.inf.sec, .int .u32 x.rep.inf.frac, .int .u32 x.rep.inf.stamp, .int .u32 x.rep.inf.pkts, .int .u32 x.rep.inf.octs, .slice ob x.rep.bl.length cb, .int .i64 x.msg.kind, .int .u32 x.msg.snd, .int .u32 x.msg.med, .slice oc x.msg.asks.length cc, .slice od x.msg.lost.length cd, .int .u8 x.oth.1, .int .u8 x.oth.2.1, .slice oe x.oth.2.2.1.length ce] rfl rfl rfl (by kernel_rfl) rfl rfl ?_))
        obtain ⟨W5, hW5⟩ : ∃ W5, wr.alloc (.cells #[.int .i64 x.kind, .bool x.rep.snd, .int .u32 x.rep.src, .int .u32 x.rep.inf.sec, .int .u32 x.rep.inf.frac, .int .u32 x.rep.inf.stamp, .int .u32 x.rep.inf.pkts, .int .u32 x.rep.inf.octs, .slice ob x.rep.bl.length cb, .int .i64 x.msg.kind, .int .u32 x.msg.snd, .int .u32 x.msg.med, .slice oc x.msg.asks.length cc, .slice od x.msg.lost.length cd, .int .u8 x.oth.1, .int .u8 x.oth.2.1, .slice oe x.oth.2.2.1.length ce] 122) = W5 := ⟨_, rfl⟩
        have M5 : Hid (More wr W5) := Lib.hid (by rw [← hW5]; exact More.alloc _ _)
        have X5 : Hid (W5.heap[wr.heap.size]? = some (.cells #[.int .i64 x.kind, .bool x.rep.snd, .int .u32 x.rep.src, .int .u32 x.rep.inf.sec, .int .u32 x.rep.inf.frac, .int .u32 x.rep.inf.stamp, .int .u32 x.rep.inf.pkts, .int .u32 x.rep.inf.octs, .slice ob x.rep.bl.length cb, .int .i64 x.msg.kind, .int .u32 x.msg.snd, .int .u32 x.msg.med, .slice oc x.msg.asks.length cc, .slice od x.msg.lost.length cd, .int .u8 x.oth.1, .int .u8 x.oth.2.1, .slice oe x.oth.2.2.1.length ce] 122 (0, 0))) := Lib.hid (by rw [← hW5]; exact blk_new _ _)
        rw [hW5]
        clear hW5
        have hB5 : wr.heap.size < W5.heap.size := blk_lt X5.out
        have t0 := blk_cell X5.out 0 (v := .int .i64 x.kind) rfl
        have t9 := blk_cell X5.out 9 (v := .int .i64 x.msg.kind) rfl
        have t11 := blk_cell X5.out 11 (v := .int .u32 x.msg.med) rfl
        have t12 := blk_cell X5.out 12 (v := .slice oc x.msg.asks.length cc) rfl
        have t13 := blk_cell X5.out 13 (v := .slice od x.msg.lost.length cd) rfl
        go_wp2
        go_roundw
        case measure => simp [intOf]; omega
        case rel => exact ⟨j + 1, s, by omega, by go_num, rfl, by rw [HS.out, HA.out]; rfl, HMR.out.trans M5.out⟩
    · obtain rfl : j = l.length := by omega
      rw [List.take_length] at HSS
      clear hs0 hmr
      go_wp2
      go_ret
      exact ⟨by rw [HSS.out]; rfl, HMR.out⟩
theorem Nums_any (la lb : List Int) (va vb : Value) (w : World) (ha : SlI .u32 w va la) (hb : SlI .u32 w vb lb) :
    Calls Try.prog 67 #[va, vb] w fun e w' => e = .returned (.bool (decide (la = lb))) ∧ ∃ k, w' = w.drewN k := by
  obtain ⟨oa, capa, rfl, hla, hca, _, _, _⟩ := ha
  obtain ⟨ob, capb, rfl, hlb, hcb, _, _, _⟩ := hb
  by_cases hne : la.length = lb.length
  · have e1 : ((la.length : Int) != (lb.length : Int)) = false := by simp [hne]
    have HA := Lib.hid hca
    have HB := Lib.hid hcb
    have HE := Lib.hid hne
    clear hca hcb
    have hle : lb.length ≤ la.length := by omega
    have hge : la.length ≤ lb.length := by omega
    clear hne
    go_enter Try.func67, Try.ntmps67
    go_wp2
    go_loopw [5] (fun i wr => ∃ j k : Nat, j ≤ la.length ∧ i = .int .i64 j ∧ la.take j = lb.take j ∧ wr = w.drewN k) (fun i _ => la.length - (intOf i).toNat)
    case atStart => exact ⟨0, 0, by omega, rfl, rfl, rfl⟩
    case round =>
      obtain ⟨j, k, hj, rfl, htk, rfl⟩ := hrel
      have HT := Lib.hid htk
      clear htk
      by_cases hlt : j < la.length
      · obtain ⟨b, off, rfl, _, hcj⟩ := HA.out j hlt
        obtain ⟨b2, off2, rfl, _, hcj2⟩ := HB.out j (by omega)
        have hlt2 : j < lb.length := by omega
        go_wp2
        go_quiet (fail)
        go_wp2
        · go_ret
          have hd : ¬ la = lb := by
            intro e
            subst e
            have : (la[j] != la[j]) = true := by assumption
            simp at this
          exact ⟨ret_bool (by simp [hd]), _, World.drewN_drewN _ _ _⟩
        · have hd : (la[j] != lb[j]) = false := by assumption
          go_roundw
          case rel => exact ⟨j + 1, _, by omega, by go_num, take_same la lb j hlt hlt2 HT.out hd, rfl⟩
          case measure => simp [intOf]; omega
      · go_wp2
        go_ret
        exact ⟨ret_bool (by simp; have := HT.out; rw [List.take_of_length_le (by omega), List.take_of_length_le (by omega)] at this; exact this), _, rfl⟩
  · have e1 : ((la.length : Int) != (lb.length : Int)) = true := by simp; omega
    have e2 : Hid (¬ la = lb) := fun h => hne (by rw [h])
    clear hca hcb hne
    go_enter Try.func67, Try.ntmps67
    go_wp2
    go_ret
    exact ⟨ret_bool (by simp [e2.out]), 0, rfl⟩

end Go.Proofs.Ytlnikmcimmnbmaa
