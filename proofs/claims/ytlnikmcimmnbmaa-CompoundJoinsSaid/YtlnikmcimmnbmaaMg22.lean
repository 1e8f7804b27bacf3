/- Merged from my texts FeedF, FeedG. -/
import Derived.Test.YtlnikmcimmnbmaaMg16
import Derived.Test.YtlnikmcimmnbmaaMg18
import Derived.Test.YtlnikmcimmnbmaaMg21
import Derived.Test.YtlnikmcimmnbmaaMg10
/- Feedback messages: Write. -/
namespace Go.Proofs.Ytlnikmcimmnbmaa
set_option linter.unusedSimpArgs false
set_option linter.unusedVariables false
open Go.RowKit
set_option maxRecDepth 100000

/-- A writer, and blocks that stay. -/
structure WrL (w0 w : World) (W : Nat) (v : Value) (l : List Int) (K : List (Nat × Obj)) : Prop where
  wr : WriterAt w W v l
  more : More w0 w
  base : w0.heap.size ≤ W
  keep : ∀ x ∈ K, w.heap[x.1]? = some x.2 ∧ ¬ x.1 = W ∧ v.ownBlock ≠ some x.1
section
variable {w0 w w' : World} {W : Nat} {v : Value} {l l' : List Int} {K : List (Nat × Obj)}
theorem WrL.on (h : WrL w0 w W v l K) (m : More w w') : WrL w0 w' W v l K :=
  ⟨h.wr.more m, h.more.trans m, h.base, fun x hx => ⟨blk_more m (h.keep x hx).1, (h.keep x hx).2⟩⟩
theorem WrL.wrote (h : WrL w0 w W v l K) (x : Wrote w w' W v l') : ∃ v', WrL w0 w' W v' l' K := by
  have hm := x.to_more h.wr h.more h.base
  obtain ⟨⟨v', h1, h2⟩, a⟩ := x
  refine ⟨v', h1, hm, h.base, fun y hy => ?_⟩
  obtain ⟨k1, k2, k3⟩ := h.keep y hy
  refine ⟨a.blk k1 ?_, k2, ?_⟩
  · rintro (e | e)
    · exact k2 e
    · exact k3 e
  · intro e
    rcases h2 with h2 | ⟨g, h2, h3⟩
    · exact k3 (by rw [← h2]; exact e)
    · rw [e] at h2
      injection h2 with h2
      have := blk_lt k1
      omega
theorem WrL.add (h : WrL w0 w W v l K) (o : Obj) : WrL w0 (w.alloc o) W v l ((w.heap.size, o) :: K) := by
  have h2 := h.on (More.alloc w o)
  refine ⟨h2.wr, h2.more, h2.base, fun x hx => ?_⟩
  rcases List.mem_cons.1 hx with rfl | hx
  · exact ⟨blk_new w o, fun e => by have := blk_lt h.wr.blk; simp only at e; omega, fun e => by have := owns_lt h.wr.row e; simp only at this; omega⟩
  · exact h2.keep x hx
theorem WrL.drop {y : Nat × Obj} (h : WrL w0 w W v l (y :: K)) : WrL w0 w W v l K := ⟨h.wr, h.more, h.base, fun x hx => h.keep x (List.mem_cons_of_mem _ hx)⟩
theorem WrL.k0 {y : Nat × Obj} (h : WrL w0 w W v l (y :: K)) : w.heap[y.1]? = some y.2 := (h.keep y List.mem_cons_self).1
theorem WrL.new {W0 : Nat} (w : World) (hW : W0 = w.heap.size) : WrL w (w.alloc (.cells #[.slice none 0 0] 138)) W0 (.slice none 0 0) [] [] := by
  subst hW
  exact ⟨writer_new w, More.alloc _ _, Nat.le_refl _, fun x hx => by cases hx⟩
theorem WrL.eq (h : WrL w0 w W v l K) (e : l = l') : WrL w0 w W v l' K := e ▸ h
/-- Blocks that are newer than the writer's are kept, too. -/
theorem WrL.keeps {K' : List (Nat × Obj)} (h : WrL w0 w W v l K) (m : More w w') (hk : ∀ y ∈ K', w'.heap[y.1]? = some y.2 ∧ w.heap.size ≤ y.1) : WrL w0 w' W v l K' := by
  have h2 := h.on m
  refine ⟨h2.wr, h2.more, h2.base, fun x hx => ?_⟩
  obtain ⟨k1, k2⟩ := hk x hx
  exact ⟨k1, fun e => by have := blk_lt h.wr.blk; omega, fun e => by have := owns_lt h.wr.row e; omega⟩
end
/-- A row of pairs, read as long as its block stays. -/
theorem pr_rows {w : World} {base e : Nat} {v : Value} {ps : List (Int × Int)} (h : w.ownsRow base e 2 v ps.length (prC ps)) :
    ∃ K : List (Nat × Obj), (∀ y ∈ K, w.heap[y.1]? = some y.2 ∧ base ≤ y.1) ∧ ∀ j, j < ps.length → ∃ g cap, v = .slice (some ⟨g, 0, none⟩) ps.length cap ∧ ∀ x : World, (∀ y ∈ K, x.heap[y.1]? = some y.2) →
      g < x.heap.size ∧ x.cell? ⟨g, j * 2, none⟩ = some (.int .u16 (ps.getD j (0, 0)).1) ∧ x.cell? ⟨g, j * 2 + 1, none⟩ = some (.int .u16 (ps.getD j (0, 0)).2) := by
  have hat : ∀ (ps : List (Int × Int)) (j : Nat), j < ps.length → (prC ps)[j * 2]? = some (.int .u16 (ps.getD j (0, 0)).1) ∧ (prC ps)[j * 2 + 1]? = some (.int .u16 (ps.getD j (0, 0)).2) := by
    intro ps
    induction ps with
    | nil => intro j hj; simp at hj
    | cons p ps ih =>
      intro j hj
      have e : prC (p :: ps) = .int .u16 p.1 :: .int .u16 p.2 :: prC ps := rfl
      rw [e]
      cases j with
      | zero => exact ⟨rfl, rfl⟩
      | succ j =>
        have := ih j (by simpa using hj)
        rw [show (j + 1) * 2 = j * 2 + 2 by omega]
        simpa using this
  obtain ⟨h1, h2⟩ := h
  rcases h2 with ⟨rfl, h0⟩ | ⟨g, cap, cur, rfl, hb, hg, hnc, hcm, hcs, htake⟩
  · exact ⟨[], (fun y hy => by cases hy), (fun j hj => by omega)⟩
  · refine ⟨[(g, .cells cur e (0, 0))], fun y hy => ?_, fun j hj => ⟨g, cap, rfl, fun x hx => ?_⟩⟩
    · rw [List.mem_singleton] at hy; subst hy; exact ⟨hg, hb⟩
    · have hgx := hx (g, .cells cur e (0, 0)) (by simp)
      simp only at hgx
      obtain ⟨a1, a2⟩ := hat ps j hj
      refine ⟨lt_of_block hgx, ?_, ?_⟩
      · rw [cell_of_row x g _ cur e (0, 0) hgx, ← a1, ← htake, List.getElem?_take, if_pos (by omega)]; simp
      · rw [cell_of_row x g _ cur e (0, 0) hgx, ← a2, ← htake, List.getElem?_take, if_pos (by omega)]; simp
theorem asks_cell {w : World} {oa : Option Addr} {n c : Nat} {l : List (Int × Int)} (h : SlP 2 RAsk w (.slice oa n c) l) (i : Nat) (hi : i < l.length) : ∃ b off, oa = some ⟨b, off, none⟩ ∧ b < w.heap.size ∧
    (∀ x, More w x → x.cell? ⟨b, off + i * 2, none⟩ = some (.int .u32 (l.getD i (0, 0)).1) ∧ x.cell? ⟨b, off + i * 2 + 1, none⟩ = some (.int .u8 (l.getD i (0, 0)).2)) ∧ U32 (l.getD i (0, 0)).1 ∧ U8 (l.getD i (0, 0)).2 := by
  obtain ⟨oa', cap', e, _, h2, _⟩ := h
  cases e
  obtain ⟨b, off, cs, e, hb, hl, hc, rfl, u1, u2⟩ := h2 i hi
  have e2 : l.getD i (0, 0) = l[i] := by rw [List.getD_eq_getElem?_getD, List.getElem?_eq_getElem hi]; rfl
  rw [e2]
  refine ⟨b, off, e, hb, fun x m => ⟨?_, ?_⟩, u1, u2⟩
  · rw [m.cells b _ hb]; exact hc 0 (by decide)
  · rw [m.cells b _ hb]; exact hc 1 (by decide)
theorem right_bounds {m : Msg} (h : rightM m = true) : m.asks.length ≤ 23 ∧ riseB m.lost = true ∧ (pairsF m.lost).length ≤ 47 := by
  have r0 : riseB [] = true := rfl
  rcases rightM_kind h with hk | hk | hk
  · obtain ⟨a, b⟩ := rightM_1 h hk
    rw [a, b]; exact ⟨by simp, r0, by simp [pairsF]⟩
  · obtain ⟨_, _, a, b⟩ := rightM_2 h hk
    rw [b]; exact ⟨a, r0, by simp [pairsF]⟩
  · obtain ⟨a, _, b, c⟩ := rightM_3 h hk
    rw [a]; exact ⟨by simp, b, c⟩
theorem asB_succ (l : List (Int × Int)) (j : Nat) (h : j < l.length) : asB (l.take (j + 1)) = asB (l.take j) ++ askB (l.getD j (0, 0)) := by
  unfold asB
  rw [getD_snoc l j (0, 0) h, List.flatMap_append]
  simp
theorem psB_succ (l : List (Int × Int)) (j : Nat) (h : j < l.length) : psB (l.take (j + 1)) = psB (l.take j) ++ prB (l.getD j (0, 0)) := by
  unfold psB
  rw [getD_snoc l j (0, 0) h, List.flatMap_append]
  simp
theorem len2 (x : Int) : (bysA x 2).length = 2 := bysA_len2 x 2 (by decide)
set_option maxHeartbeats 2000000 in
theorem Write09_no (m : Msg) (oa ol : Option Addr) (ka kl : Nat) (w : World) (S : Hid (MsgS w (.slice oa m.asks.length ka) (.slice ol m.lost.length kl) m)) (ok : Hid (MsgOK m)) (hl : m.lost.length ≤ 100000) (HR : Hid (rightM m = false)) :
    Calls Try.prog 46 #[.agg #[.int .i64 m.kind, .int .u32 m.snd, .int .u32 m.med, .slice oa m.asks.length ka, .slice ol m.lost.length kl]] w fun e w' => e = .returned (.tuple #[.agg #[.int .u8 0, .int .u8 0, .slice none 0 0], .int .i64 1]) ∧ More w w' := by
  have HRT := Lib.hid (Right09_any m _ _ ((w.alloc (.cells #[.int .i64 m.kind, .int .u32 m.snd, .int .u32 m.med, .slice oa m.asks.length ka, .slice ol m.lost.length kl] 85)).alloc (.cells #[.int .u8 0, .int .u8 0, .slice none 0 0] 30)) (S.out.keep ((More.alloc _ _).al _)) ok.out hl)
  have B0 := Lib.hid (blk_new2 (w := w.alloc (.cells #[.int .i64 m.kind, .int .u32 m.snd, .int .u32 m.med, .slice oa m.asks.length ka, .slice ol m.lost.length kl] 85)) (n := w.heap.size + 1) (o := (.cells #[.int .u8 0, .int .u8 0, .slice none 0 0] 30)) (by simp))
  go_enter Try.func46, Try.ntmps46
  go_wp2_with (go_at_call 45; ((with_reducible refine (HRT.out).mono ?_); rintro e w2 ⟨rfl, m2⟩; rw [HR.out]; have B2 := blk_more m2 B0.out; have M2 := Lib.hid (((More.alloc w (.cells #[.int .i64 m.kind, .int .u32 m.snd, .int .u32 m.med, .slice oa m.asks.length ka, .slice ol m.lost.length kl] 85)).al (.cells #[.int .u8 0, .int .u8 0, .slice none 0 0] 30)).trans m2); have f0 := blk_cell B2 0 (v := .int .u8 0) rfl; have f1 := blk_cell B2 1 (v := .int .u8 0) rfl; have f2 := blk_cell B2 2 (v := .slice none 0 0) rfl; have g0 := blk_free B2 0; have g1 := blk_free B2 1; have g2 := blk_free B2 2; have B3 := Lib.hid B2; clear B2 m2))
  (refine bodyPost_ret (v := .tuple #[.agg #[.int .u8 0, .int .u8 0, .slice none 0 0], .int .i64 1]) ?rr1 rfl ?_; (case rr1 => (simp [results, Try.results46, go_sem, f0, f1, f2])))
  exact ⟨rfl, ((M2.out.st (p := ⟨w.heap.size + 1, 0, none⟩) (by simp) _).st (p := ⟨w.heap.size + 1, 1, none⟩) (by simp) _).st (p := ⟨w.heap.size + 1, 2, none⟩) (by simp) _⟩
set_option maxHeartbeats 8000000 in
theorem Write09_yes (m : Msg) (oa ol : Option Addr) (ka kl : Nat) (w : World) (S : Hid (MsgS w (.slice oa m.asks.length ka) (.slice ol m.lost.length kl) m)) (ok : Hid (MsgOK m)) (hl : m.lost.length ≤ 100000) (HR : Hid (rightM m = true)) :
    Calls Try.prog 46 #[.agg #[.int .i64 m.kind, .int .u32 m.snd, .int .u32 m.med, .slice oa m.asks.length ka, .slice ol m.lost.length kl]] w fun e w' => ∃ vx, e = .returned (.tuple #[.agg #[.int .u8 (formM m.kind).2, .int .u8 (formM m.kind).1, vx], .int .i64 0]) ∧ SlI .u8 w' vx (msgB m) ∧ More w w' ∧ NewB w vx := by
  have HRT := Lib.hid (Right09_any m _ _ ((w.alloc (.cells #[.int .i64 m.kind, .int .u32 m.snd, .int .u32 m.med, .slice oa m.asks.length ka, .slice ol m.lost.length kl] 85)).alloc (.cells #[.int .u8 0, .int .u8 0, .slice none 0 0] 30)) (S.out.keep ((More.alloc _ _).al _)) ok.out hl)
  have A0 := Lib.hid (blk_alloc (blk_new w (.cells #[.int .i64 m.kind, .int .u32 m.snd, .int .u32 m.med, .slice oa m.asks.length ka, .slice ol m.lost.length kl] 85)) (.cells #[.int .u8 0, .int .u8 0, .slice none 0 0] 30))
  have B0 := Lib.hid (blk_new2 (w := w.alloc (.cells #[.int .i64 m.kind, .int .u32 m.snd, .int .u32 m.med, .slice oa m.asks.length ka, .slice ol m.lost.length kl] 85)) (n := w.heap.size + 1) (o := (.cells #[.int .u8 0, .int .u8 0, .slice none 0 0] 30)) (by simp))
  obtain ⟨hb1, hb2, hb3⟩ := right_bounds HR.out
  have HRI := Lib.hid hb2
  have us := ok.out.snd
  have um := ok.out.med
  have US := Lib.hid us
  have UM := Lib.hid um
  have hal63 : (m.asks.length : Int) ≤ 9223372036854775807 := by omega
  clear hb2 us um
  go_enter Try.func46, Try.ntmps46
  go_wp2_with (first | (go_at_call 45; ((with_reducible refine (HRT.out).mono ?_); rintro e w3 ⟨rfl, m3⟩; rw [HR.out]; have A3 := Lib.hid (blk_more m3 A0.out); have B3 := Lib.hid (blk_more m3 B0.out); have M3 := Lib.hid (((More.alloc w (.cells #[.int .i64 m.kind, .int .u32 m.snd, .int .u32 m.med, .slice oa m.asks.length ka, .slice ol m.lost.length kl] 85)).al (.cells #[.int .u8 0, .int .u8 0, .slice none 0 0] 30)).trans m3); clear m3; have X3 := Lib.hid (WrL.new w3 rfl); have d1 := blk_cell (blk_more X3.out.more A3.out) 1 (v := .int .u32 m.snd) rfl)) | (go_at_call 71; ((with_reducible refine (WNum_any X3.out.wr m.snd US.out (by simp)).mono ?_); rintro e w4 ⟨rfl, hw⟩; obtain ⟨v4, x4⟩ := X3.out.wrote hw; have X4 := Lib.hid x4; clear hw x4 d1; have d2 := blk_cell (blk_more X4.out.more A3.out) 2 (v := .int .u32 m.med) rfl)) | (go_at_call 71; ((with_reducible refine (WNum_any X4.out.wr m.med UM.out (by simp only [List.length_append, len4, List.length_nil]; omega)).mono ?_); rintro e w5 ⟨rfl, hw⟩; obtain ⟨v5, x5⟩ := X4.out.wrote hw; have X5 := Lib.hid x5; clear hw x5 d2; have d3 := blk_cell (blk_more X5.out.more A3.out) 3 (v := .slice oa m.asks.length ka) rfl)))
  have XL : Hid (WrL w3 _ w3.heap.size v5 (bysA m.snd 4 ++ bysA m.med 4 ++ asB (m.asks.take 0)) []) := Lib.hid (X5.out.eq (by simp [asB]))
  clear X3 X4 X5 HRT A0 B0 d3
  have hW2 : Hid (w.heap.size + 1 < w3.heap.size) := Lib.hid (blk_lt B3.out)
  generalize w3.heap.size = W at *
  go_loopw [24] (fun ix wr => ∃ j : Nat, j ≤ m.asks.length ∧ ix = .int .i64 j ∧ (∃ v, WrL w3 wr W v (bysA m.snd 4 ++ bysA m.med 4 ++ asB (m.asks.take j)) [])) (fun ix _ => m.asks.length - (intOf ix).toNat)
  case atStart => exact ⟨0, by omega, rfl, ⟨_, XL.out⟩⟩
  case round =>
    obtain ⟨j, hj, rfl, ⟨v, hr⟩⟩ := hrel
    have HX := Lib.hid hr
    have MW := Lib.hid (M3.out.trans hr.more)
    have hac : (bysA m.snd 4 ++ bysA m.med 4 ++ asB (m.asks.take j)).length ≤ 300 := by
      rw [List.length_append, List.length_append, asB_len, len4, len4, List.length_take]; omega
    by_cases hlt : j < m.asks.length
    · obtain ⟨b, off, rfl, hb, hcc, u1, u2⟩ := asks_cell S.out.asks j hlt
      obtain ⟨c0, c1⟩ := hcc _ MW.out
      have U1 := Lib.hid u1
      have U2 := Lib.hid u2
      have hbw : b < wr.heap.size := Nat.lt_of_lt_of_le hb MW.out.size
      have hjl : (j : Int) < (m.asks.length : Int) := by omega
      have HS := Lib.hid (asB_succ m.asks j hlt)
      have HA : Hid ((bysA m.snd 4 ++ bysA m.med 4 ++ asB (m.asks.take j)) ++ bysA (m.asks.getD j (0, 0)).1 4 ++ bysA (m.asks.getD j (0, 0)).2 1 ++ bysA 0 3 = bysA m.snd 4 ++ bysA m.med 4 ++ asB (m.asks.take (j + 1))) := Lib.hid (by rw [HS.out]; unfold askB; simp only [List.append_assoc])
      clear hcc u1 u2 HS hr
      generalize bysA m.snd 4 ++ bysA m.med 4 ++ asB (m.asks.take j) = acc at *
      generalize (m.asks.getD j (0, 0)).1 = x1 at *
      generalize (m.asks.getD j (0, 0)).2 = x2 at *
      have Y0 := Lib.hid (HX.out.add (.cells #[.int .u32 x1, .int .u8 x2] 177))
      go_wp2_with (first | (go_at_call 71; ((with_reducible refine (WNum_any Y0.out.wr x1 U1.out (by omega)).mono ?_); rintro e w20 ⟨rfl, hw⟩; obtain ⟨v20, y20⟩ := Y0.out.wrote hw; have Y1 := Lib.hid y20; clear hw y20; have e1 := blk_cell Y1.out.k0 1 (v := .int .u8 x2) rfl)) | (go_at_call 72; ((with_reducible refine (WByte_any Y1.out.wr x2 U2.out (by simp only [List.length_append, len4]; omega)).mono ?_); rintro e w21 ⟨rfl, hw⟩; obtain ⟨v21, y21⟩ := Y1.out.wrote hw; have Y2 := Lib.hid y21; clear hw y21 e1)) | (go_at_call 73; ((with_reducible refine (WThree_any Y2.out.wr 0 (by decide) (by simp only [List.length_append, len4, len1]; omega)).mono ?_); rintro e w22 ⟨rfl, hw⟩; obtain ⟨v22, y22⟩ := Y2.out.wrote hw; have Y3 := Lib.hid y22; clear hw y22)))
      go_roundw
      case rel => exact ⟨j + 1, by omega, by go_num, ⟨v22, (Y3.out.drop).eq HA.out⟩⟩
      case measure => simp [intOf]; omega
    · obtain rfl : j = m.asks.length := by omega
      rw [List.take_length] at hr hac
      have HX := Lib.hid hr
      have d4 := blk_cell (blk_more hr.more A3.out) 4 (v := .slice ol m.lost.length kl) rfl
      have hjl : ¬ (m.asks.length : Int) < (m.asks.length : Int) := by omega
      clear hr
      go_wp2_with (go_at_call 110; ((with_reducible refine (Pairs_any m.lost _ _ (S.out.lost.keep MW.out) ok.out.lost HRI.out hl).mono ?_); rintro e w30 ⟨vp, rfl, op, mp⟩; obtain ⟨K, hk, hrd⟩ := pr_rows op; have XP := Lib.hid (HX.out.keeps (K' := K) mp hk); have HRD := Lib.hid hrd; obtain ⟨ov, cv, rfl, hp63⟩ := row_shape op; clear op mp hk hrd d4))
      have XQ : Hid (WrL w3 w30 W v (bysA m.snd 4 ++ bysA m.med 4 ++ asB m.asks ++ psB ((pairsF m.lost).take 0)) K) := Lib.hid (XP.out.eq (by simp [psB]))
      clear XP HX
      have HBY : Hid (msgB m = bysA m.snd 4 ++ bysA m.med 4 ++ asB m.asks ++ psB (pairsF m.lost)) := Lib.hid (by unfold msgB; simp only [List.append_assoc])
      have HOK := Lib.hid (prI_of ok.out.lost HRI.out).ok
      generalize bysA m.snd 4 ++ bysA m.med 4 ++ asB m.asks = acc at *
      generalize pairsF m.lost = ps at *
      go_loopw [40] (fun ix wx => ∃ j : Nat, j ≤ ps.length ∧ ix = .int .i64 j ∧ (∃ v, WrL w3 wx W v (acc ++ psB (ps.take j)) K)) (fun ix _ => ps.length - (intOf ix).toNat)
      case atStart => exact ⟨0, by omega, rfl, ⟨_, XQ.out⟩⟩
      case round =>
        obtain ⟨j, hj, rfl, ⟨v', hr⟩⟩ := hrel
        have HY := Lib.hid hr
        have hac2 : (acc ++ psB (ps.take j)).length ≤ 600 := by
          rw [List.length_append, psB_len, List.length_take]; omega
        by_cases hlt : j < ps.length
        · obtain ⟨g, cap, e, hcc⟩ := HRD.out j hlt
          cases e
          obtain ⟨hg, c0, c1⟩ := hcc _ (fun y hy => (hr.keep y hy).1)
          have hmem : ps.getD j (0, 0) ∈ ps := by rw [List.getD_eq_getElem?_getD, List.getElem?_eq_getElem hlt]; exact List.getElem_mem hlt
          obtain ⟨u1, u2⟩ := HOK.out _ hmem
          have U1 := Lib.hid u1
          have U2 := Lib.hid u2
          have hjl : (j : Int) < (ps.length : Int) := by omega
          have HS := Lib.hid (psB_succ ps j hlt)
          have HA : Hid ((acc ++ psB (ps.take j)) ++ bysA (ps.getD j (0, 0)).1 2 ++ bysA (ps.getD j (0, 0)).2 2 = acc ++ psB (ps.take (j + 1))) := Lib.hid (by rw [HS.out]; unfold prB; simp only [List.append_assoc])
          clear hcc u1 u2 HS hr hmem
          generalize acc ++ psB (ps.take j) = acc2 at *
          generalize (ps.getD j (0, 0)).1 = x1 at *
          generalize (ps.getD j (0, 0)).2 = x2 at *
          have Y0 := Lib.hid (HY.out.add (.cells #[.int .u16 x1, .int .u16 x2] 179))
          go_wp2_with (first | (go_at_call 86; ((with_reducible refine (WShort_any Y0.out.wr x1 U1.out (by omega)).mono ?_); rintro e w40 ⟨rfl, hw⟩; obtain ⟨v40, y40⟩ := Y0.out.wrote hw; have Y1 := Lib.hid y40; clear hw y40; have e1 := blk_cell Y1.out.k0 1 (v := .int .u16 x2) rfl)) | (go_at_call 86; ((with_reducible refine (WShort_any Y1.out.wr x2 U2.out (by simp only [List.length_append, len2]; omega)).mono ?_); rintro e w41 ⟨rfl, hw⟩; obtain ⟨v41, y41⟩ := Y1.out.wrote hw; have Y2 := Lib.hid y41; clear hw y41 e1)))
          go_roundw
          case rel => exact ⟨j + 1, by omega, by go_num, ⟨v41, (Y2.out.drop).eq HA.out⟩⟩
          case measure => simp [intOf]; omega
        · obtain rfl : j = ps.length := by omega
          rw [List.take_length] at hr hac2
          have HZ := Lib.hid (hr.eq HBY.out.symm)
          have hln : (msgB m).length ≤ 1000000 := by rw [HBY.out]; omega
          have d0 := blk_cell (blk_more hr.more A3.out) 0 (v := .int .i64 m.kind) rfl
          have hjl : ¬ (ps.length : Int) < (ps.length : Int) := by omega
          clear hr HY
          go_wp2_with (first | (go_at_call 111; ((with_reducible refine (Form_any m.kind _).mono ?_); rintro e w50 ⟨rfl, rfl⟩)) | (go_at_call 74; ((with_reducible refine (WBytes_any HZ.out.wr hln).mono ?_); rintro e w51 ⟨v51, rfl, o51, m51⟩; have O51 := Lib.hid o51; have M51 := Lib.hid m51; have B51 := Lib.hid (blk_more m51 (blk_more HZ.out.more B3.out)); obtain ⟨o5, c5, rfl, -⟩ := row_shape o51; clear o51 m51; have f0 := blk_cell B51.out 0 (v := .int .u8 0) rfl; have f1 := blk_cell B51.out 1 (v := .int .u8 0) rfl; have f2 := blk_cell B51.out 2 (v := .slice none 0 0) rfl; have g0 := blk_free B51.out 0; have g1 := blk_free B51.out 1; have g2 := blk_free B51.out 2)))
          have fin := st3_blk B51.out (.int .u8 (formM m.kind).2) (.int .u8 (formM m.kind).1) (.slice o5 (msgB m).length c5)
          have mf := (((M3.out.trans HZ.out.more).trans M51.out)).st3 (w.heap.size + 1) (by omega) (.int .u8 (formM m.kind).2) (.int .u8 (formM m.kind).1) (.slice o5 (msgB m).length c5)
          have a3 : Away (fun b => b = w.heap.size + 1) w51 (((w51.setCell ⟨w.heap.size + 1, 0, none⟩ (.int .u8 (formM m.kind).2)).setCell ⟨w.heap.size + 1, 1, none⟩ (.int .u8 (formM m.kind).1)).setCell ⟨w.heap.size + 1, 2, none⟩ (.slice o5 (msgB m).length c5)) :=
            (((Away.refl (fun b => b = w.heap.size + 1) w51).set (p := ⟨w.heap.size + 1, 0, none⟩) rfl _).set (p := ⟨w.heap.size + 1, 1, none⟩) rfl _).set (p := ⟨w.heap.size + 1, 2, none⟩) rfl _
          have own := owns_apart O51.out a3 (fun b hb e => by have h1 := owns_ge O51.out hb; have h2 := HZ.out.more.size; have h3 := hW2.out; have h4 := blk_lt HZ.out.wr.blk; omega)
          obtain ⟨WF, hWF⟩ : ∃ WF, (((w51.setCell ⟨w.heap.size + 1, 0, none⟩ (.int .u8 (formM m.kind).2)).setCell ⟨w.heap.size + 1, 1, none⟩ (.int .u8 (formM m.kind).1)).setCell ⟨w.heap.size + 1, 2, none⟩ (.slice o5 (msgB m).length c5)) = WF := ⟨_, rfl⟩
          rw [hWF] at fin mf own ⊢
          clear hWF a3
          have r0 := blk_cell fin 0 (v := .int .u8 (formM m.kind).2) rfl
          have r1 := blk_cell fin 1 (v := .int .u8 (formM m.kind).1) rfl
          have r2 := blk_cell fin 2 (v := .slice o5 (msgB m).length c5) rfl
          (refine bodyPost_ret (v := .tuple #[.agg #[.int .u8 (formM m.kind).2, .int .u8 (formM m.kind).1, .slice o5 (msgB m).length c5], .int .i64 0]) ?rr2 rfl ?_; (case rr2 => (simp [results, Try.results46, go_sem, r0, r1, r2])))
          exact ⟨_, rfl, SlI.of_owns own (by omega), mf, fun g hg => by have h1 := owns_ge O51.out hg; have h2 := HZ.out.more.size; have h3 := M3.out.size; omega⟩
theorem Write09_new (m : Msg) (va vl : Value) (w : World) (S : MsgS w va vl m) (ok : MsgOK m) (hl : m.lost.length ≤ 100000) :
    Calls Try.prog 46 #[.agg #[.int .i64 m.kind, .int .u32 m.snd, .int .u32 m.med, va, vl]] w fun e w' => ∃ vx, e = .returned (.tuple #[.agg #[.int .u8 (writeM m).1.1, .int .u8 (writeM m).1.2.1, vx], .int .i64 (writeM m).2]) ∧ SlI .u8 w' vx (writeM m).1.2.2.1 ∧ More w w' ∧ NewB w vx := by
  have HS := Lib.hid S
  obtain ⟨⟨oa, ka, rfl, -⟩, ⟨ol, kl, rfl, -⟩⟩ := S
  cases hr : rightM m with
  | false =>
    rw [writeM_no hr]
    exact (Write09_no m oa ol ka kl w HS (Lib.hid ok) hl (Lib.hid hr)).mono fun e w' ⟨h1, h2⟩ => ⟨_, h1, SlI.nil _ _, h2, NewB.nil w⟩
  | true =>
    rw [writeM_yes hr]
    exact Write09_yes m oa ol ka kl w HS (Lib.hid ok) hl (Lib.hid hr)
theorem Write09_any (m : Msg) (va vl : Value) (w : World) (S : MsgS w va vl m) (ok : MsgOK m) (hl : m.lost.length ≤ 100000) :
    Calls Try.prog 46 #[.agg #[.int .i64 m.kind, .int .u32 m.snd, .int .u32 m.med, va, vl]] w fun e w' => ∃ vx, e = .returned (.tuple #[.agg #[.int .u8 (writeM m).1.1, .int .u8 (writeM m).1.2.1, vx], .int .i64 (writeM m).2]) ∧ SlI .u8 w' vx (writeM m).1.2.2.1 ∧ More w w' := by
  exact (Write09_new m va vl w S ok hl).mono fun e w' ⟨vx, h1, h2, h3, _⟩ => ⟨vx, h1, h2, h3⟩
end Go.Proofs.Ytlnikmcimmnbmaa
/- Feedback messages: asks, and lost numbers, read. -/
namespace Go.Proofs.Ytlnikmcimmnbmaa
set_option linter.unusedSimpArgs false
set_option linter.unusedVariables false
open Go.RowKit
set_option maxRecDepth 100000

/-- A reader, and a row of asks that grows. -/
structure AkJ (w0 w : World) (R : Nat) (C : Nat → Prop) (v : Value) (acc : List (Int × Int)) (s : RdS) : Prop where
  rd : ReaderAt w R s.1 s.2 C
  row : RowP 2 RAsk (fun b => b = R) w w0.heap.size 177 v acc
  away : Away (fun b => b = R) w0 w
  hC : ∀ g, C g → g < w0.heap.size
  hR : R < w0.heap.size
section
variable {w0 w w' : World} {R : Nat} {C : Nat → Prop} {v v' : Value} {acc acc' : List (Int × Int)} {s s' : RdS}
theorem AkJ.read (h : AkJ w0 w R C v acc s) (r : ReaderAt w' R s'.1 s'.2 C) (a : Away (fun b => b = R) w w') : AkJ w0 w' R C v acc s' := ⟨r, h.row.step a, h.away.trans a, h.hC, h.hR⟩
theorem AkJ.on (h : AkJ w0 w R C v acc s) (m : More w w') : AkJ w0 w' R C v acc s := ⟨h.rd.more m, h.row.on m, h.away.more m, h.hC, h.hR⟩
theorem AkJ.put (h : AkJ w0 w R C v acc s) (ho : RowP 2 RAsk (fun b => b = R) w' w0.heap.size 177 v' acc') (hg : w.grownBy w' v.ownBlock) : AkJ w0 w' R C v' acc' s := by
  have hv : ∀ g, v.ownBlock = some g → w0.heap.size ≤ g := fun g e => h.row.ge e
  have hs := h.away.size
  have a : Away (fun b => v.ownBlock = some b) w w' := ⟨hg.os, hg.tape, hg.output, hg.size, fun k hk hs => hg.block k hk (fun e => hs e.symm)⟩
  refine ⟨h.rd.off a (fun e => by have := hv R e; have := h.hR; omega) (fun g hc e => by have := hv g e; have := h.hC g hc; omega), ho, ?_, h.hC, h.hR⟩
  exact ⟨a.os.trans h.away.os, a.tape.trans h.away.tape, a.output.trans h.away.output, Nat.le_trans hs a.size, fun k hk hn => by
    rw [a.block k (Nat.lt_of_lt_of_le hk hs) (fun e => by have := hv k e; omega)]
    exact h.away.block k hk hn⟩
end
theorem readAsksF_step {n : Nat} {acc : List (Int × Int)} {s : RdS} (h : ¬ s.1 = []) : readAsksF (n + 1) acc s = readAsksF n (acc ++ [(askS s).1]) (askS s).2 := by
  show (if s.1 = [] then _ else _) = _
  rw [if_neg h]
theorem askS_len {s : RdS} (h : ¬ s.1 = []) : (askS s).2.1.length + 1 ≤ s.1.length := by
  have h1 := List.length_pos_iff.2 h
  have e : (askS s).2.1 = ((s.1.drop 4).drop 1).drop 3 := rfl
  rw [e, List.length_drop, List.length_drop, List.length_drop]; omega
theorem left_pos {s : RdS} (h : ¬ s.1 = []) : (0 : Int) < (s.1.length : Int) := by
  have := List.length_pos_iff.2 h; omega
set_option maxHeartbeats 4000000 in
theorem ReadAsks_any {w : World} {R : Nat} {s0 : RdS} {C0 : Nat → Prop} (h : ReaderAt w R s0.1 s0.2 C0) (hR : R < w.heap.size) :
    Calls Try.prog 107 #[.pointer (some ⟨R, 0, none⟩)] w fun e w' => ∃ v', e = .returned v' ∧ AkJ w w' R (fun g => C0 g ∧ g < w.heap.size) v' (readAsksF s0.1.length [] s0).1 (readAsksF s0.1.length [] s0).2 := by
  obtain ⟨i0, hi, hz0, hz1, hz2⟩ := info_parts (P := Try.prog) (e := 177) (z := .agg #[.int .u32 0, .int .u8 0]) (size := 2) (bytes := 8) (by kernel_rfl)
  obtain ⟨C, hC⟩ : ∃ C : Nat → Prop, C = fun g => C0 g ∧ g < w.heap.size := ⟨_, rfl⟩
  have H0 : Hid (AkJ w w R C (.slice none 0 0) [] s0) := Lib.hid (by rw [hC]; exact ⟨h.old, RowP.nil _ _ _ _ _ _, Away.refl _ _, fun g h => h.2, hR⟩)
  rw [← hC]
  have hsm := h.small
  clear hC h
  go_enter Try.func107, Try.ntmps107
  go_wp2
  go_loopw [3] (fun v wr => ∃ acc s n, AkJ w wr R C v acc s ∧ s.1.length ≤ n ∧ readAsksF n acc s = readAsksF s0.1.length [] s0 ∧ acc.length + s.1.length ≤ s0.1.length) (fun v _ => s0.1.length - lenOf v)
  case atStart => exact ⟨[], s0, s0.1.length, H0.out, Nat.le_refl _, rfl, by simp⟩
  case round =>
    obtain ⟨acc, s, n, hJ, hn, hf, hl⟩ := hrel
    have HJ := Lib.hid hJ
    have HF := Lib.hid hf
    obtain ⟨ov, nv, cv, rfl, hz8, hz9⟩ := hJ.row.shape
    have HN := Lib.hid hz8
    clear hJ hf hz8 hz9
    by_cases hs : s.1 = []
    · have hf := HF.out
      obtain ⟨l, e⟩ := s
      simp only at hs
      subst hs
      rw [readAsksF_nil] at hf
      have HE := Lib.hid hf
      clear hf
      go_wp2_with (go_at_call 92; ((with_reducible refine (RdLeft_any HJ.out.rd).mono ?_); rintro e w9 ⟨rfl, rfl⟩))
      go_ret
      exact ⟨_, rfl, by rw [← HE.out]; exact HJ.out⟩
    · have hp := left_pos hs
      have hal := askS_len hs
      have hb := HJ.out.rd.byt
      have hok := Lib.hid (askS_ok hb)
      obtain ⟨n, rfl⟩ : ∃ k, n = k + 1 := ⟨n - 1, by have := List.length_pos_iff.2 hs; omega⟩
      have HF2 : Hid (readAsksF n (acc ++ [(askS s).1]) (askS s).2 = readAsksF s0.1.length [] s0) := Lib.hid (by rw [← readAsksF_step hs]; exact HF.out)
      have HAL := Lib.hid hal
      obtain ⟨X1, hX1⟩ : ∃ X, num (tkB s.1 4) = X := ⟨_, rfl⟩
      obtain ⟨X2, hX2⟩ : ∃ X, num (tkB (tkS s 4).1 1) = X := ⟨_, rfl⟩
      have HX1 := Lib.hid hX1
      have HX2 := Lib.hid hX2
      have HAS : Hid ((askS s).1 = (X1, X2)) := Lib.hid (by rw [← hX1, ← hX2]; rfl)
      clear hb hs hal hX1 hX2
      go_wp2_with (first | (go_at_call 92; ((with_reducible refine (RdLeft_any HJ.out.rd).mono ?_); rintro e w9 ⟨rfl, rfl⟩)) | (go_at_call 78; ((with_reducible refine (RdNum_any HJ.out.rd).mono ?_); rintro e w2 ⟨rfl, r2, a2⟩; rw [HX1.out]; have J2 := Lib.hid (HJ.out.read (s' := tkS s 4) r2 a2); clear r2 a2)) | (go_at_call 88; ((with_reducible refine (RdByte_any J2.out.rd).mono ?_); rintro e w3 ⟨rfl, r3, a3⟩; rw [HX2.out]; have HS3 := Lib.hid ((J2.out.read (s' := tkS (tkS s 4) 1) r3 a3).away.size); have J3 := Lib.hid ((J2.out.read (s' := tkS (tkS s 4) 1) r3 a3).on (More.alloc w3 (.cells #[.int .u32 X1, .int .u8 X2] 177))); have B3 := Lib.hid (blk_new w3 (.cells #[.int .u32 X1, .int .u8 X2] 177)); clear r3 a3)) | (go_at_call 137; ((with_reducible refine (RdThree_any J3.out.rd).mono ?_); rintro e w4 ⟨rfl, r4, a4⟩; have J4 := Lib.hid (J3.out.read (s' := (askS s).2) r4 a4); have B4 := Lib.hid (a4.blk B3.out (fun e => by have := J3.out.hR; have := HS3.out; omega)); clear r4 a4; have b0 := blk_cell B4.out 0 (v := .int .u32 X1) rfl; have b1 := blk_cell B4.out 1 (v := .int .u8 X2) rfl; have J5 := Lib.hid (J4.out.on (More.alloc w4 (.cells #[.int .u32 X1, .int .u8 X2] 177))))) | (at_builtin; refine wpList_append_row _ rfl (.tmp 15) (.tmp 17) 82 rfl w.heap.size 177 i0 (.agg #[.int .u32 0, .int .u8 0]) 2 8 Try.underlying82 hi hz0 hz1 hz2 rfl (by decide) _ acc rfl J5.out.row w4.heap.size [.int .u32 X1, .int .u8 X2] (X1, X2) rfl rfl (new_cells rfl) (by simp [Value.oneCell']) (fun _ _ => ⟨rfl, by have := hok.out.1; rw [HAS.out] at this; exact this, by have := hok.out.2.1; rw [HAS.out] at this; exact this⟩) (fun b hb => by have := J5.out.hR; have := J5.out.away.size; omega) (by decide) (by omega) J5.out.away.size ?_; intro v6 w6 ho6 hg6 _; have J6 := Lib.hid (J5.out.put ho6 hg6); obtain ⟨o6, n6, c6, rfl, hz6, hz7⟩ := ho6.shape; have HN6 := Lib.hid hz6; clear ho6 hg6 hz6 hz7 b0 b1))
      go_roundw
      case rel => exact ⟨acc ++ [(X1, X2)], (askS s).2, n, J6.out, by have := HAL.out; omega, by have := HF2.out; rw [HAS.out] at this; exact this, by have := HAL.out; simp only [List.length_append, List.length_cons, List.length_nil]; omega⟩
      case measure => have := HN6.out; have := HN.out; simp [lenOf] at *; omega
end Go.Proofs.Ytlnikmcimmnbmaa
