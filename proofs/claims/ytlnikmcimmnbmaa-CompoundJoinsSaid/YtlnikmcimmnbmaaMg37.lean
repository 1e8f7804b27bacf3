/- Merged from my texts FeedJ, TreeB. -/
import Derived.Test.YtlnikmcimmnbmaaMg28
import Derived.Test.YtlnikmcimmnbmaaMg3
/- Feedback messages in the laws: own, same, large; the document's Same. -/
namespace Go.Proofs.Ytlnikmcimmnbmaa
set_option linter.unusedSimpArgs false
set_option linter.unusedVariables false
open Go.RowKit
set_option maxRecDepth 100000

/-- A message that is being built, and its asks. -/
structure OwK (w0 w : World) (B3 : Nat) (o2 : Obj) (x0 x1 x2 v vl : Value) (acc : List (Int × Int)) : Prop where
  b2 : w.heap[w0.heap.size + 1]? = some o2
  b3 : w.heap[B3]? = some (.cells #[x0, x1, x2, v, vl] 93 (0, 0))
  row : RowP 2 RAsk (fun b => b = B3) w (B3 + 1) 182 v acc
  more : More w0 w
  h : w0.heap.size + 1 < B3
theorem OwK.on {w0 w w' : World} {B3 : Nat} {o2 : Obj} {x0 x1 x2 v vl : Value} {acc : List (Int × Int)} (h : OwK w0 w B3 o2 x0 x1 x2 v vl acc) (m : More w w') : OwK w0 w' B3 o2 x0 x1 x2 v vl acc :=
  ⟨blk_more m h.b2, blk_more m h.b3, h.row.on m, h.more.trans m, h.h⟩
theorem OwK.put {w0 w w' : World} {B3 : Nat} {o2 : Obj} {x0 x1 x2 v vl v' : Value} {acc acc' : List (Int × Int)} (h : OwK w0 w B3 o2 x0 x1 x2 v vl acc)
    (ho : RowP 2 RAsk (fun b => b = B3) w' (B3 + 1) 182 v' acc') (hg : w.grownBy w' v.ownBlock) : OwK w0 (w'.setCell ⟨B3, 3, none⟩ v') B3 o2 x0 x1 x2 v' vl acc' := by
  have h1 := h.h
  have hv : ∀ g, v.ownBlock = some g → B3 + 1 ≤ g := fun g e => h.row.ge e
  have a : Away (fun b => v.ownBlock = some b) w w' := ⟨hg.os, hg.tape, hg.output, hg.size, fun k hk hs => hg.block k hk (fun e => hs e.symm)⟩
  have a5 : Away (fun b => b = B3) w' (w'.setCell ⟨B3, 3, none⟩ v') := (Away.refl (fun b => b = B3) w').set (p := ⟨B3, 3, none⟩) rfl v'
  have hm : More w0 w' := Away.to_more h.more a (fun k e => by have := hv k e; omega)
  exact ⟨a5.blk (a.blk h.b2 (fun e => by have := hv _ e; omega)) (by omega), blk_eq (blk_set (a.blk h.b3 (fun e => by have := hv _ e; omega)) 3 v') rfl, ho.step a5, hm.st (by show w0.heap.size ≤ B3; omega) v', h1⟩
set_option maxHeartbeats 2000000 in
theorem own09 {w : World} {va vl : Value} (m : Msg) (S : MsgS w va vl m) (hn : m.asks.length ≤ 100000) :
    Calls Try.prog 48 #[.agg #[.int .i64 m.kind, .int .u32 m.snd, .int .u32 m.med, va, vl]] w fun e w' => (∃ v', e = .returned (.agg #[.int .i64 m.kind, .int .u32 m.snd, .int .u32 m.med, v', vl]) ∧ MsgS w' v' vl m) ∧ More w w' := by
  obtain ⟨j0, hi, hz0, hz1, hz2⟩ := info_parts (P := Try.prog) (e := 182) (z := .agg #[.int .u32 0, .int .u8 0]) (size := 2) (bytes := 8) (by kernel_rfl)
  obtain ⟨k, s, d, ak, ls⟩ := m
  have HS := Lib.hid S
  obtain ⟨⟨oa, ka, rfl, hl63, -⟩, ⟨ol, kl, rfl, -⟩⟩ := S
  simp only at *
  have HJ0 : Hid (OwK w (((w.alloc (.cells #[.int .i64 k, .int .u32 s, .int .u32 d, .slice oa ak.length ka, .slice ol ls.length kl] 85)).alloc (.cells #[.int .i64 0, .int .u32 0, .int .u32 0, .slice none 0 0, .slice none 0 0] 93)).alloc (.cells #[.int .i64 k, .int .u32 s, .int .u32 d, .slice none 0 0, .slice ol ls.length kl] 93)) (w.heap.size + 2) (.cells #[.int .i64 0, .int .u32 0, .int .u32 0, .slice none 0 0, .slice none 0 0] 93) (.int .i64 k) (.int .u32 s) (.int .u32 d) (.slice none 0 0) (.slice ol ls.length kl) []) :=
    Lib.hid ⟨blk_alloc (blk_new2 (by simp)) _, blk_new2 (by simp), RowP.nil _ _ _ _ _ _, ((More.alloc _ _).al _).al _, by omega⟩
  go_enter Try.func48, Try.ntmps48
  go_wp2
  obtain ⟨B3, hB3⟩ : ∃ B3, B3 = w.heap.size + 2 := ⟨_, rfl⟩
  have e2 : w.heap.size + 1 + 1 = B3 := by omega
  rw [← hB3] at HJ0
  rw [e2]
  have HB3 := Lib.hid hB3
  clear hB3 e2
  go_loopw [18] (fun ix wr => ∃ j : Nat, j ≤ ak.length ∧ ix = .int .i64 j ∧ (∃ v, OwK w wr B3 (.cells #[.int .i64 0, .int .u32 0, .int .u32 0, .slice none 0 0, .slice none 0 0] 93) (.int .i64 k) (.int .u32 s) (.int .u32 d) v (.slice ol ls.length kl) (ak.take j))) (fun ix _ => ak.length - (intOf ix).toNat)
  case atStart => exact ⟨0, by omega, rfl, ⟨_, HJ0.out⟩⟩
  case round =>
    obtain ⟨j, hj, rfl, ⟨v, hJ⟩⟩ := hrel
    have HJ := Lib.hid hJ
    clear hJ
    by_cases hlt : j < ak.length
    · obtain ⟨b, off, rfl, hb, hcc, u1, u2⟩ := asks_cell HS.out.asks j hlt
      obtain ⟨c0, c1⟩ := hcc _ HJ.out.more
      have U1 := Lib.hid u1
      have U2 := Lib.hid u2
      have hjl : (j : Int) < (ak.length : Int) := by omega
      have hbw : b < wr.heap.size := Nat.lt_of_lt_of_le hb HJ.out.more.size
      have HSN : Hid (ak.take (j + 1) = ak.take j ++ [((ak.getD j (0, 0)).1, (ak.getD j (0, 0)).2)]) := Lib.hid (getD_snoc ak j (0, 0) hlt)
      have hlen : (ak.take j).length = j := by simp; omega
      clear hcc u1 u2
      generalize ak.take j = acc at *
      generalize (ak.getD j (0, 0)).1 = y1 at *
      generalize (ak.getD j (0, 0)).2 = y2 at *
      have HL := Lib.hid hlen
      clear hlen
      have J2 := Lib.hid ((HJ.out.on (More.alloc wr (.cells #[.int .u32 y1, .int .u8 y2] 177))).on (More.alloc _ (.cells #[.int .u32 y1, .int .u8 y2] 182)))
      have p7 := blk_cell (blk_more (More.alloc wr (.cells #[.int .u32 y1, .int .u8 y2] 177)) HJ.out.b3) 3 (v := v) rfl
      go_wp2_with (at_builtin; refine wpList_append_row _ rfl (.tmp 23) (.tmp 25) 91 rfl (B3 + 1) 182 j0 (.agg #[.int .u32 0, .int .u8 0]) 2 8 Try.underlying91 hi hz0 hz1 hz2 rfl (by decide) v acc rfl J2.out.row (wr.heap.size + 1) [.int .u32 y1, .int .u8 y2] (y1, y2) rfl rfl (new_cells (by simp)) (by simp [Value.oneCell']) (fun _ _ => ⟨rfl, U1.out, U2.out⟩) (fun b hb => by have e : b = B3 := hb; have := blk_lt J2.out.b3; omega) (by decide) (by have := HL.out; omega) (blk_lt J2.out.b3) ?_; intro v10 w10 ho10 hg10 hb10; have J10 := Lib.hid (J2.out.put ho10 hg10); have b3w : w10.heap[B3]? = _ := (hg10.block B3 (blk_lt J2.out.b3) (fun e => by have := J2.out.row.ge e.symm; omega)).trans J2.out.b3; have q7 := blk_cell b3w 3 (v := v) rfl; have z7 := blk_free b3w 3; obtain ⟨o10, n10, c10, rfl, hz8, hz9⟩ := ho10.shape; clear hz8 hz9 ho10 hg10 hb10 b3w)
      go_roundw
      case rel => exact ⟨j + 1, by omega, by go_num, ⟨_, by rw [HSN.out]; exact J10.out⟩⟩
      case measure => simp [intOf]; omega
    · obtain rfl : j = ak.length := by omega
      rw [List.take_length] at HJ
      have hJ := HJ.out
      obtain ⟨ov, nv, cv, rfl, hz8, hz9⟩ := hJ.row.shape
      clear hz8 hz9
      obtain ⟨p0, p1, p2, p3, p4⟩ := cells5 hJ.b3
      obtain ⟨g0, g1, g2, g3, g4⟩ := cells5 hJ.b2
      obtain ⟨f0, f1, f2, f3, f4⟩ := free5 hJ.b2
      clear hJ
      go_wp2
      have fin := st5_blk HJ.out.b2 (.int .i64 k) (.int .u32 s) (.int .u32 d) (.slice ov nv cv) (.slice ol ls.length kl)
      have a5 := Away.st5 wr (w.heap.size + 1) (.int .i64 k) (.int .u32 s) (.int .u32 d) (.slice ov nv cv) (.slice ol ls.length kl)
      have mf := Away.to_more HJ.out.more a5 (fun b e => by omega)
      have sa := slA_off (HJ.out.row.sl (by decide)) (fun b hb e => by have := HJ.out.row.ge hb; have := HJ.out.h; omega) a5
      have slo := HS.out.lost.keep mf
      obtain ⟨WF, hWF⟩ : ∃ WF, (((((wr.setCell ⟨w.heap.size + 1, 0, none⟩ (.int .i64 k)).setCell ⟨w.heap.size + 1, 1, none⟩ (.int .u32 s)).setCell ⟨w.heap.size + 1, 2, none⟩ (.int .u32 d)).setCell ⟨w.heap.size + 1, 3, none⟩ (.slice ov nv cv)).setCell ⟨w.heap.size + 1, 4, none⟩ (.slice ol ls.length kl)) = WF := ⟨_, rfl⟩
      rw [hWF] at fin mf sa slo ⊢
      clear hWF a5
      obtain ⟨r0, r1, r2, r3, r4⟩ := cells5 fin
      (refine bodyPost_ret (v := .agg #[.int .i64 k, .int .u32 s, .int .u32 d, .slice ov nv cv, .slice ol ls.length kl]) ?rr1 rfl ?_; (case rr1 => (simp [results, Try.results48, go_sem, r0, r1, r2, r3, r4])))
      exact ⟨⟨_, rfl, sa, slo⟩, mf⟩
theorem same09 {w : World} {va vb : Value} (c d : Chunk) (sa : SlI .u8 w va c.2.2.1) (sb : SlI .u8 w vb d.2.2.1) (hc : ChunkOK c) (hd : ChunkOK d) :
    Calls Try.prog 50 #[.agg #[.int .u8 c.1, .int .u8 c.2.1, va], .agg #[.int .u8 d.1, .int .u8 d.2.1, vb]] w fun e w' => e = .returned (.bool (decide (c = d))) ∧ More w w' := by
  have SA := Lib.hid sa
  have SB := Lib.hid sb
  have e1 : decide ([c] = [d]) = decide (c = d) := by simp
  have HE := Lib.hid e1
  obtain ⟨oa, ca, rfl, _⟩ := sa
  obtain ⟨ob, cb, rfl, _⟩ := sb
  clear e1
  go_enter Try.func50, Try.ntmps50
  go_wp2_with (go_at_call 70; refine (Same07_any [c] [d] _ _ _ ((SlP.one (n := 3) (R := RChunk) (y := c) (cs := #[.int .u8 c.1, .int .u8 c.2.1, .slice oa c.2.2.1.length ca]) (t := 35) (B := w.heap.size + 2) (w := ((w.alloc (.cells #[.int .u8 c.1, .int .u8 c.2.1, .slice oa c.2.2.1.length ca] 30)).alloc (.cells #[.int .u8 d.1, .int .u8 d.2.1, .slice ob d.2.2.1.length cb] 35))) rfl (by decide) (by simp) (chunk_mk (SA.out.keep (by repeat (first | exact More.refl _ | assumption | refine More.dr ?_ _ | refine More.al ?_ _ | refine More.st ?_ (by simp) _))) hc)).keep keepsChunk (More.alloc _ _)) (SlP.one (n := 3) (R := RChunk) (y := d) (cs := #[.int .u8 d.1, .int .u8 d.2.1, .slice ob d.2.2.1.length cb]) (t := 35) (B := w.heap.size + 3) rfl (by decide) (by simp) (chunk_mk (SB.out.keep (by repeat (first | exact More.refl _ | assumption | refine More.dr ?_ _ | refine More.al ?_ _ | refine More.st ?_ (by simp) _))) hd))).mono ?_; rintro e w1 ⟨rfl, hm1⟩)
  go_ret
  exact ⟨by rw [← HE.out]; rfl, (show More w _ from (by repeat (first | exact More.refl _ | assumption | refine More.dr ?_ _ | refine More.al ?_ _ | refine More.st ?_ (by simp) _))).trans hm1⟩
/-- Is a message more than is looked at? -/
def lrgM (m : Msg) : Bool := decide (300 < m.asks.length ∨ 300 < m.lost.length)
theorem large09 (m : Msg) (oa ol : Option Addr) (ka kl : Nat) (w : World) :
    Calls Try.prog 43 #[.agg #[.int .i64 m.kind, .int .u32 m.snd, .int .u32 m.med, .slice oa m.asks.length ka, .slice ol m.lost.length kl]] w fun e w' => e = .returned (.bool (lrgM m)) ∧ More w w' := by
  by_cases h1 : (300 : Int) < m.asks.length
  · have HR : Hid (lrgM m = true) := Lib.hid (decide_eq_true (Or.inl (by omega)))
    go_enter Try.func43, Try.ntmps43
    go_wp2
    go_ret
    exact ⟨by rw [HR.out]; rfl, More.alloc _ _⟩
  · by_cases h2 : (300 : Int) < m.lost.length
    · have HR : Hid (lrgM m = true) := Lib.hid (decide_eq_true (Or.inr (by omega)))
      go_enter Try.func43, Try.ntmps43
      go_wp2
      go_ret
      exact ⟨by rw [HR.out]; rfl, More.alloc _ _⟩
    · have HR : Hid (lrgM m = false) := Lib.hid (decide_eq_false (by omega))
      go_enter Try.func43, Try.ntmps43
      go_wp2
      go_ret
      exact ⟨by rw [HR.out]; rfl, More.alloc _ _⟩
theorem ask_ne (i j : Int × Int) (w : World) :
    (binOp .neq 182 (.agg #[.int .u32 i.1, .int .u8 i.2]) (.agg #[.int .u32 j.1, .int .u8 j.2])).run Try.prog w = .ok (.bool (!decide (i = j))) w := by
  have h1 : Try.prog.stoodInHeld 182 = false := by kernel_rfl
  rw [run_neq_struct, run_equalIn_agg w 9999 182 _ _ (by kernel_rfl) h1]
  obtain ⟨i1, i2⟩ := i
  obtain ⟨j1, j2⟩ := j
  simp only [Prod.mk.injEq]
  simp [go_sem]
  by_cases h1 : i1 = j1 <;> by_cases h2 : i2 = j2 <;> simp [h1, h2]
theorem ask_guard : Try.prog.eqGuardType Try.prog.depth 182 = false := by kernel_rfl
theorem take_sameA {la lb : List (Int × Int)} {j : Nat} (h1 : j < la.length) (h2 : j < lb.length) (h : la.take j = lb.take j) (hd : la.getD j (0, 0) = lb.getD j (0, 0)) : la.take (j + 1) = lb.take (j + 1) := by
  rw [getD_snoc la j (0, 0) h1, getD_snoc lb j (0, 0) h2, h, hd]
theorem take_sameI {la lb : List Int} {j : Nat} (h1 : j < la.length) (h2 : j < lb.length) (h : la.take j = lb.take j) (hd : la.getD j 0 = lb.getD j 0) : la.take (j + 1) = lb.take (j + 1) := by
  rw [getD_snoc la j 0 h1, getD_snoc lb j 0 h2, h, hd]
set_option maxHeartbeats 4000000 in
theorem Same09_a {w : World} (k1 k2 s1 s2 d1 d2 : Int) (a1 a2 : List (Int × Int)) (l1 l2 : List Int) (oa1 oa2 ol1 ol2 : Option Addr) (ka1 ka2 kl1 kl2 : Nat) (D : Bool) (b1 : (k1 != k2) = true) (hD : D = false) :
    Calls Try.prog 47 #[.agg #[.int .i64 k1, .int .u32 s1, .int .u32 d1, .slice oa1 a1.length ka1, .slice ol1 l1.length kl1], .agg #[.int .i64 k2, .int .u32 s2, .int .u32 d2, .slice oa2 a2.length ka2, .slice ol2 l2.length kl2]] w fun e w' => e = .returned (.bool D) ∧ More w w' := by
  subst hD
  go_enter Try.func47, Try.ntmps47
  go_wp2
  go_ret
  exact ⟨rfl, (More.alloc _ _).al _⟩
set_option maxHeartbeats 4000000 in
theorem Same09_b {w : World} (k1 s1 s2 d1 d2 : Int) (a1 a2 : List (Int × Int)) (l1 l2 : List Int) (oa1 oa2 ol1 ol2 : Option Addr) (ka1 ka2 kl1 kl2 : Nat) (D : Bool) (b1 : (s1 != s2) = true) (hD : D = false) :
    Calls Try.prog 47 #[.agg #[.int .i64 k1, .int .u32 s1, .int .u32 d1, .slice oa1 a1.length ka1, .slice ol1 l1.length kl1], .agg #[.int .i64 k1, .int .u32 s2, .int .u32 d2, .slice oa2 a2.length ka2, .slice ol2 l2.length kl2]] w fun e w' => e = .returned (.bool D) ∧ More w w' := by
  subst hD
  go_enter Try.func47, Try.ntmps47
  go_wp2
  go_ret
  exact ⟨rfl, (More.alloc _ _).al _⟩
set_option maxHeartbeats 4000000 in
theorem Same09_c {w : World} (k1 s1 d1 d2 : Int) (a1 a2 : List (Int × Int)) (l1 l2 : List Int) (oa1 oa2 ol1 ol2 : Option Addr) (ka1 ka2 kl1 kl2 : Nat) (D : Bool) (b1 : (d1 != d2) = true) (hD : D = false) :
    Calls Try.prog 47 #[.agg #[.int .i64 k1, .int .u32 s1, .int .u32 d1, .slice oa1 a1.length ka1, .slice ol1 l1.length kl1], .agg #[.int .i64 k1, .int .u32 s1, .int .u32 d2, .slice oa2 a2.length ka2, .slice ol2 l2.length kl2]] w fun e w' => e = .returned (.bool D) ∧ More w w' := by
  subst hD
  go_enter Try.func47, Try.ntmps47
  go_wp2
  go_ret
  exact ⟨rfl, (More.alloc _ _).al _⟩
set_option maxHeartbeats 4000000 in
theorem Same09_d {w : World} (k1 s1 d1 : Int) (a1 a2 : List (Int × Int)) (l1 l2 : List Int) (oa1 oa2 ol1 ol2 : Option Addr) (ka1 ka2 kl1 kl2 : Nat) (D : Bool) (b1 : ((a1.length : Int) != (a2.length : Int)) = true) (hD : D = false) :
    Calls Try.prog 47 #[.agg #[.int .i64 k1, .int .u32 s1, .int .u32 d1, .slice oa1 a1.length ka1, .slice ol1 l1.length kl1], .agg #[.int .i64 k1, .int .u32 s1, .int .u32 d1, .slice oa2 a2.length ka2, .slice ol2 l2.length kl2]] w fun e w' => e = .returned (.bool D) ∧ More w w' := by
  subst hD
  go_enter Try.func47, Try.ntmps47
  go_wp2
  go_ret
  exact ⟨rfl, (More.alloc _ _).al _⟩
set_option maxHeartbeats 4000000 in
theorem Same09_e {w : World} (k1 s1 d1 : Int) (a1 a2 : List (Int × Int)) (l1 l2 : List Int) (oa1 oa2 ol1 ol2 : Option Addr) (ka1 ka2 kl1 kl2 : Nat) (D : Bool) (b1 : ((a1.length : Int) != (a2.length : Int)) = false) (b2 : ((l1.length : Int) != (l2.length : Int)) = true) (hD : D = false) :
    Calls Try.prog 47 #[.agg #[.int .i64 k1, .int .u32 s1, .int .u32 d1, .slice oa1 a1.length ka1, .slice ol1 l1.length kl1], .agg #[.int .i64 k1, .int .u32 s1, .int .u32 d1, .slice oa2 a2.length ka2, .slice ol2 l2.length kl2]] w fun e w' => e = .returned (.bool D) ∧ More w w' := by
  subst hD
  go_enter Try.func47, Try.ntmps47
  go_wp2
  go_ret
  exact ⟨rfl, (More.alloc _ _).al _⟩
set_option maxHeartbeats 4000000 in
theorem Same09_f {w : World} (k1 s1 d1 : Int) (a1 a2 : List (Int × Int)) (l1 l2 : List Int) (oa1 oa2 ol1 ol2 : Option Addr) (ka1 ka2 kl1 kl2 : Nat) (D : Bool) (S1 : Hid (SlP 2 RAsk w (.slice oa1 a1.length ka1) a1)) (S2 : Hid (SlP 2 RAsk w (.slice oa2 a2.length ka2) a2)) (T1 : Hid (SlI .u16 w (.slice ol1 l1.length kl1) l1)) (T2 : Hid (SlI .u16 w (.slice ol2 l2.length kl2) l2)) (b1 : ((a1.length : Int) != (a2.length : Int)) = false) (b2 : ((l1.length : Int) != (l2.length : Int)) = false) (hA : a1.length = a2.length) (hL : l1.length = l2.length) (hA63 : (a1.length : Int) ≤ 9223372036854775807) (hL63 : (l1.length : Int) ≤ 9223372036854775807) (hA64 : (a2.length : Int) ≤ 9223372036854775807) (hL64 : (l2.length : Int) ≤ 9223372036854775807) (hD1 : Hid (a1 = a2 → l1 = l2 → D = true)) (hD2 : Hid (¬ (a1 = a2 ∧ l1 = l2) → D = false)) :
    Calls Try.prog 47 #[.agg #[.int .i64 k1, .int .u32 s1, .int .u32 d1, .slice oa1 a1.length ka1, .slice ol1 l1.length kl1], .agg #[.int .i64 k1, .int .u32 s1, .int .u32 d1, .slice oa2 a2.length ka2, .slice ol2 l2.length kl2]] w fun e w' => e = .returned (.bool D) ∧ More w w' := by
  have K1 := Lib.hid (blk_alloc (blk_new w (.cells #[.int .i64 k1, .int .u32 s1, .int .u32 d1, .slice oa1 a1.length ka1, .slice ol1 l1.length kl1] 93)) (.cells #[.int .i64 k1, .int .u32 s1, .int .u32 d1, .slice oa2 a2.length ka2, .slice ol2 l2.length kl2] 93))
  have K2 := Lib.hid (blk_new2 (w := w.alloc (.cells #[.int .i64 k1, .int .u32 s1, .int .u32 d1, .slice oa1 a1.length ka1, .slice ol1 l1.length kl1] 93)) (n := w.heap.size + 1) (o := .cells #[.int .i64 k1, .int .u32 s1, .int .u32 d1, .slice oa2 a2.length ka2, .slice ol2 l2.length kl2] 93) (by simp))
  have M0 := Lib.hid ((More.alloc w (.cells #[.int .i64 k1, .int .u32 s1, .int .u32 d1, .slice oa1 a1.length ka1, .slice ol1 l1.length kl1] 93)).al (.cells #[.int .i64 k1, .int .u32 s1, .int .u32 d1, .slice oa2 a2.length ka2, .slice ol2 l2.length kl2] 93))
  have HA := Lib.hid hA
  have HL := Lib.hid hL
  clear hA hL
  have EB := ask_guard
  go_enter Try.func47, Try.ntmps47
  go_wp2
  go_loopw [5] (fun ix wr => ∃ j : Nat, j ≤ a1.length ∧ ix = .int .i64 j ∧ a1.take j = a2.take j ∧ More ((w.alloc (.cells #[.int .i64 k1, .int .u32 s1, .int .u32 d1, .slice oa1 a1.length ka1, .slice ol1 l1.length kl1] 93)).alloc (.cells #[.int .i64 k1, .int .u32 s1, .int .u32 d1, .slice oa2 a2.length ka2, .slice ol2 l2.length kl2] 93)) wr) (fun ix _ => a1.length - (intOf ix).toNat)
  case atStart => exact ⟨0, by omega, rfl, by simp, More.refl _⟩
  case round =>
    obtain ⟨j, hj, rfl, hpre, hmr⟩ := hrel
    have HP := Lib.hid hpre
    have MR := Lib.hid hmr
    have hmw := Lib.hid (M0.out.trans hmr)
    clear hpre hmr
    have e1 := blk_cell (blk_more MR.out K1.out) 3 (v := .slice oa1 a1.length ka1) rfl
    have e2 := blk_cell (blk_more MR.out K2.out) 3 (v := .slice oa2 a2.length ka2) rfl
    by_cases hlt : j < a1.length
    · have hlt2 : j < a2.length := by rw [← HA.out]; exact hlt
      obtain ⟨b, off, rfl, hb, hcc, -⟩ := asks_cell S1.out j hlt
      obtain ⟨b', off', rfl, hb', hcc', -⟩ := asks_cell S2.out j hlt2
      have hjl : (j : Int) < (a1.length : Int) := by omega
      have hjl2 : (j : Int) < (a2.length : Int) := by omega
      have HT := Lib.hid (fun h => take_sameA hlt hlt2 HP.out h)
      have HDD : Hid (a1 = a2 → a1.getD j (0, 0) = a2.getD j (0, 0)) := Lib.hid (fun e => by rw [e])
      have C1 : ∀ x : Later wr, x.w'.cell? ⟨b, off + j * 2, none⟩ = some (.int .u32 (a1.getD j (0, 0)).1) := fun x => (hcc _ (hmw.out.trans x.h)).1
      have C2 : ∀ x : Later wr, x.w'.cell? ⟨b, off + j * 2 + 1, none⟩ = some (.int .u8 (a1.getD j (0, 0)).2) := fun x => (hcc _ (hmw.out.trans x.h)).2
      have C3 : ∀ x : Later wr, x.w'.cell? ⟨b', off' + j * 2, none⟩ = some (.int .u32 (a2.getD j (0, 0)).1) := fun x => (hcc' _ (hmw.out.trans x.h)).1
      have C4 : ∀ x : Later wr, x.w'.cell? ⟨b', off' + j * 2 + 1, none⟩ = some (.int .u8 (a2.getD j (0, 0)).2) := fun x => (hcc' _ (hmw.out.trans x.h)).2
      have E1 : ∀ x : Later wr, x.w'.cell? ⟨w.heap.size, 3, none⟩ = some (.slice (some ⟨b, off, none⟩) a1.length ka1) := fun x => blk_cell (blk_more (MR.out.trans x.h) K1.out) 3 rfl
      have E2 : ∀ x : Later wr, x.w'.cell? ⟨w.heap.size + 1, 3, none⟩ = some (.slice (some ⟨b', off', none⟩) a2.length ka2) := fun x => blk_cell (blk_more (MR.out.trans x.h) K2.out) 3 rfl
      clear hcc hcc' hlt2
      generalize a1.getD j (0, 0) = x at *
      generalize a2.getD j (0, 0) = y at *
      have q8 := fun w => ask_ne x y w
      obtain ⟨q, hq⟩ : ∃ q, decide (x = y) = q := ⟨_, rfl⟩
      rw [hq] at q8
      have HQ := Lib.hid hq
      clear hq
      go_wp2_with fail
      refine wp_region_later wr (More.refl _) (by kernel_rfl) (by kernel_rfl) ?_
      repeat (go_big_quiet_step (fail))
      refine wpQuiet_nil ?_
      intro _ hw'
      obtain ⟨x9, rfl⟩ := hw'
      cases q with
      | true =>
        go_wp2
        go_roundw
        case rel => exact ⟨j + 1, by omega, by go_num, HT.out (of_decide_eq_true HQ.out), MR.out.trans x9.h⟩
        case measure => simp [intOf]; omega
      | false =>
        have HN := Lib.hid (hD2.out (fun e => of_decide_eq_false HQ.out (HDD.out e.1)))
        go_wp2
        go_ret
        exact ⟨by rw [HN.out]; rfl, hmw.out.trans x9.h⟩
    · obtain rfl : j = a1.length := by omega
      have hea : a1 = a2 := by
        have := HP.out
        rwa [List.take_length, List.take_of_length_le (by rw [HA.out]; exact Nat.le_refl _)] at this
      have HEA := Lib.hid hea
      clear hea HP e2
      go_wp2_with fail
      obtain ⟨wo, rfl⟩ : ∃ wo : World, wo = wr := ⟨_, rfl⟩
      clear e1
      go_loopw [6] (fun ix wx => ∃ i : Nat, i ≤ l1.length ∧ ix = .int .i64 i ∧ l1.take i = l2.take i ∧ More wo wx) (fun ix _ => l1.length - (intOf ix).toNat)
      case atStart => exact ⟨0, by omega, rfl, by simp, More.refl _⟩
      case round =>
        obtain ⟨i, hi, rfl, hpre, hmx⟩ := hrel
        have HP := Lib.hid hpre
        have HMX := Lib.hid hmx
        have MX := Lib.hid (MR.out.trans hmx)
        have hmw2 := Lib.hid (hmw.out.trans hmx)
        clear hpre hmx
        have e1 := blk_cell (blk_more MX.out K1.out) 4 (v := .slice ol1 l1.length kl1) rfl
        have e2 := blk_cell (blk_more MX.out K2.out) 4 (v := .slice ol2 l2.length kl2) rfl
        by_cases hlt3 : i < l1.length
        · have hlt2 : i < l2.length := by rw [← HL.out]; exact hlt3
          obtain ⟨b, off, rfl, hb, hcc⟩ := slI_cell T1.out i hlt3
          obtain ⟨b', off', rfl, hb', hcc'⟩ := slI_cell T2.out i hlt2
          have hjl : (i : Int) < (l1.length : Int) := by omega
          have hjl2 : (i : Int) < (l2.length : Int) := by omega
          have HT := Lib.hid (fun h => take_sameI hlt3 hlt2 HP.out h)
          have HDD : Hid (l1 = l2 → l1.getD i 0 = l2.getD i 0) := Lib.hid (fun e => by rw [e])
          have C1 : ∀ x : Later wr, x.w'.cell? ⟨b, off + i, none⟩ = some (.int .u16 (l1.getD i 0)) := fun x => hcc _ (hmw2.out.trans x.h)
          have C3 : ∀ x : Later wr, x.w'.cell? ⟨b', off' + i, none⟩ = some (.int .u16 (l2.getD i 0)) := fun x => hcc' _ (hmw2.out.trans x.h)
          have E1 : ∀ x : Later wr, x.w'.cell? ⟨w.heap.size, 4, none⟩ = some (.slice (some ⟨b, off, none⟩) l1.length kl1) := fun x => blk_cell (blk_more (MX.out.trans x.h) K1.out) 4 rfl
          have E2 : ∀ x : Later wr, x.w'.cell? ⟨w.heap.size + 1, 4, none⟩ = some (.slice (some ⟨b', off', none⟩) l2.length kl2) := fun x => blk_cell (blk_more (MX.out.trans x.h) K2.out) 4 rfl
          clear hcc hcc' hlt2
          generalize l1.getD i 0 = x at *
          generalize l2.getD i 0 = y at *
          by_cases hq : x = y
          · have bq : (x != y) = false := by simpa using hq
            have HT2 := Lib.hid (HT.out hq)
            clear hq HT HDD
            go_wp2_with fail
            refine wp_region_later wr (More.refl _) (by kernel_rfl) (by kernel_rfl) ?_
            repeat (go_big_quiet_step (fail))
            refine wpQuiet_nil ?_
            intro _ hw'
            obtain ⟨x9, rfl⟩ := hw'
            go_wp2
            go_roundw
            case rel => exact ⟨i + 1, by omega, by go_num, HT2.out, HMX.out.trans x9.h⟩
            case measure => simp [intOf]; omega
          · have bq : (x != y) = true := by simpa using hq
            have HN := Lib.hid (hD2.out (fun e => hq (HDD.out e.2)))
            clear hq HT HDD
            go_wp2_with fail
            refine wp_region_later wr (More.refl _) (by kernel_rfl) (by kernel_rfl) ?_
            repeat (go_big_quiet_step (fail))
            refine wpQuiet_nil ?_
            intro _ hw'
            obtain ⟨x9, rfl⟩ := hw'
            go_wp2
            go_ret
            exact ⟨by rw [HN.out]; rfl, hmw2.out.trans x9.h⟩
        · obtain rfl : i = l1.length := by omega
          have hel : l1 = l2 := by
            have := HP.out
            rwa [List.take_length, List.take_of_length_le (by rw [HL.out]; exact Nat.le_refl _)] at this
          have HN := Lib.hid (hD1.out HEA.out hel)
          clear hel HP e2
          go_wp2
          go_ret
          exact ⟨by rw [HN.out]; rfl, hmw2.out⟩
theorem Same09_any {w : World} {va vb vl vm : Value} (m n : Msg) (sm : MsgS w va vl m) (sn : MsgS w vb vm n) :
    Calls Try.prog 47 #[.agg #[.int .i64 m.kind, .int .u32 m.snd, .int .u32 m.med, va, vl], .agg #[.int .i64 n.kind, .int .u32 n.snd, .int .u32 n.med, vb, vm]] w fun e w' => e = .returned (.bool (decide (m = n))) ∧ More w w' := by
  obtain ⟨k1, s1, d1, a1, l1⟩ := m
  obtain ⟨k2, s2, d2, a2, l2⟩ := n
  obtain ⟨hs1, ht1⟩ := sm
  obtain ⟨hs2, ht2⟩ := sn
  simp only at *
  have S1 := Lib.hid hs1
  have S2 := Lib.hid hs2
  have T1 := Lib.hid ht1
  have T2 := Lib.hid ht2
  obtain ⟨oa1, ka1, rfl, x1, -⟩ := hs1
  obtain ⟨oa2, ka2, rfl, x2, -⟩ := hs2
  obtain ⟨ol1, kl1, rfl, x3, -⟩ := ht1
  obtain ⟨ol2, kl2, rfl, x4, -⟩ := ht2
  have hne : ∀ {p : Prop}, (¬ p) → ((⟨k1, s1, d1, a1, l1⟩ : Msg) = ⟨k2, s2, d2, a2, l2⟩ → p) → decide ((⟨k1, s1, d1, a1, l1⟩ : Msg) = ⟨k2, s2, d2, a2, l2⟩) = false := fun h k => decide_eq_false (fun e => h (k e))
  by_cases h1 : k1 = k2
  · by_cases h2 : s1 = s2
    · by_cases h3 : d1 = d2
      · by_cases h4 : a1.length = a2.length
        · by_cases h5 : l1.length = l2.length
          · subst h1 h2 h3
            exact Same09_f k1 s1 d1 a1 a2 l1 l2 oa1 oa2 ol1 ol2 ka1 ka2 kl1 kl2 _ S1 S2 T1 T2 (by simp [h4]) (by simp [h5]) h4 h5 x1 x3 x2 x4 (Lib.hid (fun e1 e2 => by rw [e1, e2]; simp)) (Lib.hid (fun h => hne h (fun e => by injection e with _ _ _ e4 e5; exact ⟨e4, e5⟩)))
          · have := hne h5 (fun e => by injection e with _ _ _ _ e5; rw [e5])
            subst h1 h2 h3
            exact Same09_e k1 s1 d1 a1 a2 l1 l2 oa1 oa2 ol1 ol2 ka1 ka2 kl1 kl2 _ (by simp [h4]) (by simp; omega) this
        · have := hne h4 (fun e => by injection e with _ _ _ e4 _; rw [e4])
          subst h1 h2 h3
          exact Same09_d k1 s1 d1 a1 a2 l1 l2 oa1 oa2 ol1 ol2 ka1 ka2 kl1 kl2 _ (by simp; omega) this
      · have := hne h3 (fun e => by injection e)
        subst h1 h2
        exact Same09_c k1 s1 d1 d2 a1 a2 l1 l2 oa1 oa2 ol1 ol2 ka1 ka2 kl1 kl2 _ (by simpa using h3) this
    · have := hne h2 (fun e => by injection e)
      subst h1
      exact Same09_b k1 s1 s2 d1 d2 a1 a2 l1 l2 oa1 oa2 ol1 ol2 ka1 ka2 kl1 kl2 _ (by simpa using h2) this
  · exact Same09_a k1 k2 s1 s2 d1 d2 a1 a2 l1 l2 oa1 oa2 ol1 ol2 ka1 ka2 kl1 kl2 _ (by simpa using h1) (hne h1 (fun e => by injection e))
end Go.Proofs.Ytlnikmcimmnbmaa
/- A tree of orders: an operation that is passed over, its frame written out anew. -/
namespace Go.Proofs.Ytlnikmcimmnbmaa
set_option linter.unusedSimpArgs false
set_option linter.unusedVariables false
open Go.RowKit
theorem tr_skipK {P : Program} {C : World → Prop} {l : List Oper} {T : Nat} {Q : Act → World → Prop} {k : Nat} {b : Bool} {o : Oper} {t : Tr} {a : Act} {w : World} (ho : l[k]? = some o) (hw : Region.wanted o (yielded l.toArray a.tmps) = false) (hC : C w)
    (h : ∀ K : Act → Prop, (∀ a, wpTr P l.toArray T C Q t a w → K a) → K (a.put o.dst undef)) : wpTr P l.toArray T C Q (.op k b t) a w :=
  tr_skip ho hw hC (h _ fun _ h => h)
end Go.Proofs.Ytlnikmcimmnbmaa
