/- Merged from my texts LaneZ. -/
import Derived.Test.YtdgmmffedhikcaaMg24
import Derived.Test.YtdgmmffedhikcaaMg10
/- A lane's Write. (printed by gen_laneZ.py) -/
namespace Go.Proofs.Ytdgmmffedhikcaa
set_option linter.unusedSimpArgs false
set_option linter.unusedVariables false
open Go.RowKit
set_option maxRecDepth 100000

theorem ln_new_cells {w : World} {cs : Array Value} {t B : Nat} (hB : B = w.heap.size) : ∀ j u, cs.toList[j]? = some u → (w.alloc (.cells cs t)).cell? ⟨B, j, none⟩ = some u := by
  intro j u h
  subst hB
  exact blk_cell (blk_new w _) j (by simpa using h)
/-- An offer. -/
theorem offer_any (s : LnS) (h : LnOK s) (acc : Bool) (w : World) : Calls Try.prog 52 #[.agg #[.int .i64 s.most, .int .i64 s.row, .bool s.gone], .bool acc] w fun e w' => e = .returned (.tuple #[.agg #[.int .i64 s.most, .int .i64 (offerP s acc).1, .bool (offerP s acc).2.1], .bool (offerP s acc).2.2]) ∧ More w w' := by
  obtain ⟨h1, h2, h3, _, _⟩ := h
  cases hg : s.gone with
  | true =>
    have e : offerP s acc = (s.row, true, false) := by unfold offerP; rw [if_pos hg]
    rw [e]
    exact offer_gone s.most s.row acc w
  | false =>
    cases acc with
    | true =>
      have e : offerP s true = (0, false, false) := by unfold offerP; rw [if_neg (by rw [hg]; decide), if_pos rfl]
      rw [e]
      exact offer_yes s.most s.row w
    | false =>
      have e : offerP s false = (s.row + 1, s.row + 1 == s.most, s.row + 1 == s.most) := by unfold offerP; rw [if_neg (by rw [hg]; decide), if_neg (by decide)]
      rw [e]
      exact offer_no s.most s.row (by omega) (by omega) _ _ rfl rfl w
theorem offer_ok (s : LnS) (h : LnOK s) (acc : Bool) (s' : LnS) (e : s'.most = s.most ∧ s'.row = (offerP s acc).1 ∧ s'.gone = (offerP s acc).2.1 ∧ s'.rw = s.rw) : LnOK s' := by
  obtain ⟨h1, h2, h3, h4, h5⟩ := h
  obtain ⟨e1, e2, e3, e4⟩ := e
  unfold offerP at e2 e3
  refine ⟨by rw [e1]; exact h1, ?_, ?_, by rw [e4]; exact h4, by rw [e4]; exact h5⟩
  · rw [e1, e2]
    cases hg : s.gone with
    | true => simpa using h2
    | false =>
      have := h3 hg
      cases acc <;> simp <;> omega
  · rw [e1, e2, e3]
    cases hg : s.gone with
    | true => simp
    | false =>
      have := h3 hg
      cases acc <;> simp <;> omega
section
variable {N : Nat → Prop} {w w' : World} {k : LnB} {vo : Value} {s s' : LnS}
theorem write_ln_none (h : LnX N w k vo s) (acc : Bool) (hm : mayP s 3 = false) : Calls Try.prog 16 #[.pointer (some ⟨k.L, 0, none⟩), .bool acc] w fun e w' => e = .returned (.tuple #[.int .i64 0, .int .i64 0, .bool false]) ∧ More w w' := by
  have H1 := may3_ln h
  rw [hm] at H1
  have H1 := Lib.hid H1
  clear hm h
  go_enter Try.func16, Try.ntmps16
  go_wp2_with (go_at_call 20; ((with_reducible refine (H1.out).mono ?_); rintro e w1 ⟨rfl, m1⟩; have M1 := Lib.hid m1; clear m1))
  refine bodyPost_ret (v := .tuple #[.int .i64 0, .int .i64 0, .bool false]) (by simp [results, Try.results16, go_sem]) rfl ?_
  exact ⟨rfl, M1.out⟩
set_option maxHeartbeats 8000000 in
theorem write_ln_acc (h : LnX N w k vo s) (hW : s.W.length ≤ 1000000) (o : Int × List Int) (T : List (Int × List Int)) (hC : s.C = o :: T) (r' : Int) (g' : Bool) (ho : offerP s true = (r', g', false)) :
    Calls Try.prog 16 #[.pointer (some ⟨k.L, 0, none⟩), .bool true] w fun e w' => e = .returned (.tuple #[.int .i64 o.1, .int .i64 1, .bool true]) ∧ ∃ vo', LnX (Grew N w w') w' k vo' { s with C := T, W := s.W ++ [o], row := r', gone := g' } ∧ Away N w w' := by
  have H := Lib.hid h
  have HW := Lib.hid hW
  have hL : k.L < w.heap.size := blk_lt h.blk
  have H1 := may3_ln h
  have hm : mayP s 3 = true := by
    show decide (0 < s.C.length) = true
    rw [hC]; simp
  rw [hm] at H1
  have H1 := Lib.hid H1
  obtain ⟨f1, q1, ci1, co1, cd1, cg1, css1, g1, a1⟩ := h.r3
  rw [hC] at a1
  obtain ⟨c, q, rfl, ac, aq⟩ := a1.uncons
  have AQ := Lib.hid aq
  have AC0 := Lib.hid ac
  obtain ⟨v0, rfl, ⟨ob, cb, rfl, hx1⟩, hx2, hx3⟩ := ac.read
  have G1 := Lib.hid g1
  have hR3 : k.R3 < w.heap.size := blk_lt g1.ring
  have hA3 : k.A3 < w.heap.size := blk_lt g1.row
  have D1 := Lib.hid h.dist
  have hof := offer_any s h.ok true
  have hok2 := offer_ok s h.ok true { s with C := T, W := s.W ++ [o], row := r', gone := g' } (by rw [ho]; exact ⟨rfl, rfl, rfl, rfl⟩)
  rw [ho] at hof
  have HOF := Lib.hid hof
  have HOK2 := Lib.hid hok2
  clear hof hok2 ho
  clear h hm g1 ac aq a1 hW hC hx1 hx2 hx3
  go_enter Try.func16, Try.ntmps16
  go_wp2_with (first | (go_at_call 20; ((with_reducible refine (H1.out).mono ?_); rintro e w1 ⟨rfl, m1⟩; have M1 := Lib.hid m1; have B1 := Lib.hid (blk_more m1 H.out.blk); have E1 := Lib.hid (G1.out.more m1); clear m1; have hL1 : k.L < w1.heap.size := blk_lt B1.out; have c3 : w1.cell? ⟨k.L, 3, none⟩ = some (.pointer (some ⟨k.R3, 0, none⟩)) := blk_cell B1.out 3 rfl)) | (go_at_call 50; ((with_reducible refine (peekO w1 k.R3 k.A3 s.room f1 _ q ci1 co1 cd1 cg1 css1 E1.out).mono ?_); rintro e w2 ⟨rfl, m2⟩; have M2 : Hid (More w w2) := Lib.hid (M1.out.trans m2); have B2 := Lib.hid (blk_more m2 B1.out); have E2 := Lib.hid (E1.out.more m2); clear m2; have hL2 : k.L < w2.heap.size := blk_lt B2.out; have c3 : w2.cell? ⟨k.L, 3, none⟩ = some (.pointer (some ⟨k.R3, 0, none⟩)) := blk_cell B2.out 3 rfl)) | (go_at_call 51; ((with_reducible refine (popO (w2.alloc (.cells #[.int .i64 o.1, .slice ob o.2.length cb] 78)) k.R3 k.A3 s.room f1 _ q ci1 co1 cd1 cg1 css1 (E2.out.more (More.alloc _ _))).mono ?_); rintro e w3 ⟨rfl, ⟨co3, g3⟩, a3⟩; have G3 := Lib.hid g3; have A3 : Hid (Away (RgB k.R3 k.A3) w w3) := Lib.hid (((Away.of_more M2.out).alc _).trans a3); have B3 : Hid (w3.heap[k.L]? = some (.cells (lnCells k vo s) 76 (0, 0))) := Lib.hid (a3.blk (blk_alloc B2.out _) (by obtain ⟨⟨d1, d2, d3, d4, d5, d6⟩, _⟩ := D1.out; rintro (e | e) <;> omega)); have X3 : Hid (w3.heap[w2.heap.size]? = some (.cells #[.int .i64 o.1, .slice ob o.2.length cb] 78 (0, 0))) := Lib.hid (a3.blk (blk_new w2 _) (by have := M2.out.size; rintro (e | e) <;> omega)); clear g3 a3)))
  have hvN : ∀ b, vo.ownBlock = some b → N b ∧ ¬ k.muts b := fun b hb => H.out.vob hb
  have hvl : ∀ b, vo.ownBlock = some b → b < w.heap.size := fun b hb => H.out.own b (hvN b hb).1
  have z3 : w.heap.size ≤ w3.heap.size := A3.out.size
  have z2 : w.heap.size ≤ w2.heap.size := M2.out.size
  have nLv : ¬ vo.ownBlock = some k.L := fun e => (hvN _ e).2 (Or.inl rfl)
  have nXv : ¬ vo.ownBlock = some w2.heap.size := fun e => by have := hvl _ e; omega
  have HVN := Lib.hid hvN
  have HVL := Lib.hid hvl
  clear hvN hvl
  obtain ⟨j0, hi, hz0, hz1, hz2⟩ := info_parts (P := Try.prog) (e := 78) (z := .agg #[.int .i64 0, .slice none 0 0]) (size := 2) (bytes := 32) (by kernel_rfl)
  have L0 : ∀ x : LaterS (fun b => vo.ownBlock = some b) w3, x.w'.cell? ⟨k.L, 0, none⟩ = some vo := fun x => blk_cell (x.h.blk B3.out nLv) 0 rfl
  have HG : ∀ x : LaterS (fun b => vo.ownBlock = some b) w3, x.w'.rangeAt w2.heap.size 0 [.int .i64 o.1, .slice ob o.2.length cb] := fun x => lnRange (x.h.blk X3.out nXv)
  refine wp_region_numS (fun b => vo.ownBlock = some b) w3 12 [(0, false), (1, false), (2, false), (3, false), (4, false), (5, false), (6, false), (7, true), (8, true), (9, true), (10, true), (11, false), (12, true)] (by kernel_rfl) (by kernel_rfl) ?_
  iterate 6 (refine num_quiet rfl rfl (laterS_mk (by repeat (first | exact Away.refl _ _ | assumption | refine Away.drewN ?_ _ | refine Away.set ?_ (by first | rfl | exact Or.inl rfl | exact Or.inr rfl) _))) ?_; intro K hK; go_big_quiet_op; go_big_quiet_on)
  refine num_load_mid rfl rfl (laterS_mk (by repeat (first | exact Away.refl _ _ | assumption | refine Away.drewN ?_ _ | refine Away.set ?_ (by first | rfl | exact Or.inl rfl | exact Or.inr rfl) _))) 78 (.tmp 7) rfl w2.heap.size 0 rfl [.int .i64 o.1, .slice ob o.2.length cb] _ (fun w' hx => by obtain ⟨x, rfl⟩ := hx; exact HG x) Try.underlying78 rfl (by kernel_rfl) ?_
  intro K hK
  go_simp
  refine hK _ ?_
  clear hK K L0 HG
  (refine num_next rfl rfl ?_; intro K hK; unfold loud; go_simp)
  refine ⟨laterS_mk (((Away.refl _ w3).drewN 1).alc _), hK _ _ ?_⟩
  clear hK K
  have AA : Hid (Away (RgB k.R3 k.A3) w ((w3.drewN 1).alloc (.cells #[.int .i64 o.1, .slice ob o.2.length cb] 78))) := Lib.hid ((A3.out.drewN 1).alc _)
  have hmu : ∀ b, RgB k.R3 k.A3 b → k.muts b := fun b hb => Or.inr (Or.inr (Or.inr hb))
  have row5 := (H.out.out.step (AA.out.mono fun b hb _ => hmu b hb)).widen (D' := fun b => (N b ∨ w.heap.size ≤ b) → k.muts b) (fun b hb => Or.inl fun hN => hb (Or.inl hN))
  have rd5 : RdOff ROu (fun b => ((N b ∨ w.heap.size ≤ b) → k.muts b) ∨ vo.ownBlock = some b) ((w3.drewN 1).alloc (.cells #[.int .i64 o.1, .slice ob o.2.length cb] 78)) [.int .i64 o.1, .slice ob o.2.length cb] o := (AC0.out.step (AA.out.mono fun b hb => mut_E (hmu b hb))).other fun b hb => by
    rcases hb with e | e
    · exact Or.inl (Or.inl fun hN => e (Or.inl hN))
    · exact Or.inl (Or.inr e)
  refine num_next rfl rfl ?_
  intro K hK
  refine loud_append_row (.tmp 35) (.tmp 37) 64 rfl 0 78 j0 (.agg #[.int .i64 0, .slice none 0 0]) 2 32 Try.underlying64 hi hz0 hz1 hz2 rfl (by decide) vo s.W rfl row5 w3.heap.size [.int .i64 o.1, .slice ob o.2.length cb] o rfl rfl (ln_new_cells rfl) (by simp [Value.oneCell']) rd5 (fun b hb => by
    by_cases hx : b < w.heap.size
    · have := AA.out.size; omega
    · have := H.out.own b (H.out.muts b (hb (Or.inr (by omega)))); omega) (by decide) (by have := HW.out; omega) (Nat.zero_le _) ?_
  intro v6 w6 ho6 hg6 hb6
  have O6 := Lib.hid ho6
  have V6 := Lib.hid hb6
  have A6 : Hid (Away (fun b => vo.ownBlock = some b) w3 w6) := Lib.hid ((((Away.refl _ w3).drewN 1).alc _).trans (Away.of_grown hg6))
  have B6 := Lib.hid (A6.out.blk B3.out nLv)
  have X6 := Lib.hid (A6.out.blk X3.out nXv)
  obtain ⟨o6, n6, c6, rfl, hn6, hn7⟩ := ho6.shape
  clear ho6 hg6 hb6 row5 rd5 hn6 hn7
  have c0 : w6.cell? ⟨k.L, 0, none⟩ = some vo := blk_cell B6.out 0 rfl
  have f0 : w6.frozen? ⟨k.L, 0, none⟩ = false := blk_free B6.out 0
  refine ⟨laterS_mk A6.out, hK _ _ ?_⟩
  clear hK K
  go_simp
  (refine num_next rfl rfl ?_; intro K hK; unfold loud; go_simp)
  refine ⟨laterS_mk A6.out, hK _ _ ?_⟩
  clear hK K
  (refine num_next rfl rfl ?_; intro K hK; unfold loud; go_simp)
  refine ⟨laterS_mk A6.out, hK _ _ ?_⟩
  clear hK K
  iterate 1 (refine num_quiet rfl rfl (laterS_mk A6.out) ?_; intro K hK; go_big_quiet_op; go_big_quiet_on)
  (refine num_end rfl rfl (by decide) ?_; intro K hK; unfold loud; go_simp)
  refine hK _ _ ?_
  clear hK K
  refine num_nil ?_
  obtain ⟨W7, hW7⟩ : ∃ W7, w6.setCell ⟨k.L, 0, none⟩ (.slice o6 n6 c6) = W7 := ⟨_, rfl⟩
  have A7 : Hid (Away (fun b => b = k.L) w6 W7) := Lib.hid (by rw [← hW7]; exact (Away.refl (fun b => b = k.L) w6).set (p := ⟨k.L, 0, none⟩) rfl _)
  have nX : ¬ w2.heap.size = k.L := by omega
  have B7 : Hid (W7.heap[k.L]? = some (.cells (lnCells k (.slice o6 n6 c6) s) 76 (0, 0))) := Lib.hid (by rw [← hW7]; exact blk_eq (blk_set B6.out 0 _) rfl)
  have X7 := Lib.hid (A7.out.blk X6.out nX)
  rw [hW7]
  clear hW7 c0 f0
  have c13 : W7.cell? ⟨k.L, 13, none⟩ = some (.int .i64 s.most) := blk_cell B7.out 13 rfl
  have c14 : W7.cell? ⟨k.L, 14, none⟩ = some (.int .i64 s.row) := blk_cell B7.out 14 rfl
  have c15 : W7.cell? ⟨k.L, 15, none⟩ = some (.bool s.gone) := blk_cell B7.out 15 rfl
  have nX : ¬ w2.heap.size = k.L := by omega
  go_wp2_with (go_at_call 52; ((with_reducible refine (HOF.out _).mono ?_); rintro e w8 ⟨rfl, m8⟩; have M8 := Lib.hid m8; have B8 := Lib.hid (blk_more m8 B7.out); have X8 := Lib.hid (blk_more m8 X7.out); clear m8; have hL8 : k.L < w8.heap.size := blk_lt B8.out; have hX8 : w2.heap.size < w8.heap.size := blk_lt X8.out; have x0 : w8.cell? ⟨w2.heap.size, 0, none⟩ = some (.int .i64 o.1) := blk_cell X8.out 0 rfl; have c13 : w8.cell? ⟨k.L, 13, none⟩ = some (.int .i64 s.most) := blk_cell B8.out 13 rfl; have c14 : w8.cell? ⟨k.L, 14, none⟩ = some (.int .i64 s.row) := blk_cell B8.out 14 rfl; have c15 : w8.cell? ⟨k.L, 15, none⟩ = some (.bool s.gone) := blk_cell B8.out 15 rfl; have f13 : w8.frozen? ⟨k.L, 13, none⟩ = false := blk_free B8.out 13; have f14 : w8.frozen? ⟨k.L, 14, none⟩ = false := blk_free B8.out 14; have f15 : w8.frozen? ⟨k.L, 15, none⟩ = false := blk_free B8.out 15))
  refine bodyPost_ret (v := .tuple #[.int .i64 o.1, .int .i64 1, .bool true]) (by simp [results, Try.results16, go_sem]) rfl ?_
  obtain ⟨WF, hWF⟩ : ∃ WF, (((w8.setCell ⟨k.L, 13, none⟩ (.int .i64 s.most)).setCell ⟨k.L, 14, none⟩ (.int .i64 r')).setCell ⟨k.L, 15, none⟩ (.bool g')).alloc (.cells #[.int .i64 s.most, .int .i64 r', .bool g'] 74) = WF := ⟨_, rfl⟩
  have AF : Away (fun b => b = k.L) w8 WF := by rw [← hWF]; exact ((((Away.refl (fun b => b = k.L) w8).set (p := ⟨k.L, 13, none⟩) rfl _).set (p := ⟨k.L, 14, none⟩) rfl _).set (p := ⟨k.L, 15, none⟩) rfl _).alc _
  have BF : WF.heap[k.L]? = some (.cells (lnCells k (.slice o6 n6 c6) { s with C := T, W := s.W ++ [o], row := r', gone := g' }) 76 (0, 0)) := by rw [← hWF]; exact blk_alloc (blk_eq (blk_set (blk_set (blk_set B8.out 13 _) 14 _) 15 _) rfl) _
  rw [hWF]
  clear hWF c13 c14 c15 f13 f14 f15
  have AL : Away (fun b => b = k.L) w6 WF := (A7.out.more M8.out).trans AF
  have A3F : Away (fun b => b = k.L ∨ vo.ownBlock = some b) w3 WF := (A6.out.mono fun b hb => Or.inr hb).trans (AL.mono fun b hb => Or.inl hb)
  have AS : Away (fun b => (b = k.L ∨ vo.ownBlock = some b) ∨ RgB k.R3 k.A3 b) w WF := (A3.out.mono fun b hb => Or.inr hb).trans (A3F.mono fun b hb => Or.inl hb)
  obtain ⟨⟨d1, d2, d3, d4, d5, d6⟩, ⟨e1, e2, e3, e4, e5⟩, ⟨i1, i2, i3, i4⟩, ⟨j1, j2, j3⟩, ⟨k1, k2⟩, _⟩ := D1.out
  have nv : ∀ b, k.muts b → ¬ vo.ownBlock = some b := fun b hb e => (HVN.out _ e).2 hb
  have AM : Away (lnM k vo) w WF := AS.mono fun b hb => by
    rcases hb with (e | e) | e
    · exact Or.inl (Or.inl e)
    · exact Or.inr e
    · exact Or.inl (hmu b e)
  have hv : ∀ b, (Value.slice o6 n6 c6).ownBlock = some b → vo.ownBlock = some b ∨ w.heap.size ≤ b := fun b hb => by
    rcases V6.out with e | e
    · exact Or.inl (by rw [← e]; exact hb)
    · rw [hb] at e
      injection e with e
      subst e
      exact Or.inr (by have := z3; simp; omega)
  have hE : ∀ b, ((b = k.L ∨ vo.ownBlock = some b) ∨ RgB k.R3 k.A3 b) → lnE N k vo b := fun b hb => by
    rcases hb with (e | e) | e
    · exact mut_E (Or.inl e)
    · exact Or.inr e
    · exact mut_E (hmu b e)
  have hs : ∀ b, lnE (Grew N w WF) k (.slice o6 n6 c6) b → lnE N k vo b ∨ WF.heap.size ≤ b := fun b hb => Or.inl (lnE_sub H.out.own hv hb)
  have hrow : RowP 2 ROu (lnD (Grew N w WF) k) WF 0 78 (.slice o6 n6 c6) (s.W ++ [o]) := (O6.out.step (AL.mono fun b hb _ => Or.inl hb)).widen fun b hb => by
    by_cases hx : b < WF.heap.size
    · refine Or.inl fun hN => hb ?_
      rcases hN with hN | hN
      · exact Or.inl hN
      · exact Or.inr ⟨hN, hx⟩
    · exact Or.inr (by omega)
  have n1 : ¬ k.R1 = k.L := Ne.symm d1
  have n2 : ¬ k.A1 = k.L := Ne.symm d2
  have n3 : ¬ k.R2 = k.L := Ne.symm d3
  have n4 : ¬ k.A2 = k.L := Ne.symm d4
  have n5 : ¬ k.R3 = k.L := Ne.symm d5
  have n7 : ¬ k.A3 = k.L := Ne.symm d6
  refine ⟨rfl, _, H.out.make AM.size BF (H.out.r1.step AS ?_ ?_ hE hs) (H.out.r2.step AS ?_ ?_ hE hs) ⟨_, _, _, _, _, _, _, G3.out.away A3F ?_ ?_, AQ.out.mono fun c y hy => H.out.held hy AM hv⟩ hrow HOK2.out, AM.mono fun b hb => H.out.inN hb⟩
  · rintro ((e | e) | (e | e)); exact n1 e; exact nv _ (Or.inr (Or.inl (Or.inl rfl))) e; exact e4 e; exact e5 e
  · rintro ((e | e) | (e | e)); exact n2 e; exact nv _ (Or.inr (Or.inl (Or.inr rfl))) e; exact i3 e; exact i4 e
  · rintro ((e | e) | (e | e)); exact n3 e; exact nv _ (Or.inr (Or.inr (Or.inl (Or.inl rfl)))) e; exact j2 e; exact j3 e
  · rintro ((e | e) | (e | e)); exact n4 e; exact nv _ (Or.inr (Or.inr (Or.inl (Or.inr rfl)))) e; exact k1 e; exact k2 e
  · rintro (e | e); exact n5 e; exact nv _ (Or.inr (Or.inr (Or.inr (Or.inl rfl)))) e
  · rintro (e | e); exact n7 e; exact nv _ (Or.inr (Or.inr (Or.inr (Or.inr rfl)))) e
set_option maxHeartbeats 8000000 in
theorem write_ln_ref (h : LnX N w k vo s) (hW : s.W.length ≤ 1000000) (o : Int × List Int) (T : List (Int × List Int)) (hC : s.C = o :: T) (r' : Int) (g' : Bool) (ho : offerP s false = (r', g', false)) :
    Calls Try.prog 16 #[.pointer (some ⟨k.L, 0, none⟩), .bool false] w fun e w' => e = .returned (.tuple #[.int .i64 o.1, .int .i64 0, .bool true]) ∧ LnX (Grew N w w') w' k vo { s with row := r', gone := g' } ∧ Away N w w' := by
  have H := Lib.hid h
  have HW := Lib.hid hW
  have hL : k.L < w.heap.size := blk_lt h.blk
  have H1 := may3_ln h
  have hm : mayP s 3 = true := by
    show decide (0 < s.C.length) = true
    rw [hC]; simp
  rw [hm] at H1
  have H1 := Lib.hid H1
  obtain ⟨f1, q1, ci1, co1, cd1, cg1, css1, g1, a1⟩ := h.r3
  rw [hC] at a1
  obtain ⟨c, q, rfl, ac, aq⟩ := a1.uncons
  have AQ := Lib.hid aq
  have AC0 := Lib.hid ac
  obtain ⟨v0, rfl, ⟨ob, cb, rfl, hx1⟩, hx2, hx3⟩ := ac.read
  have G1 := Lib.hid g1
  have hR3 : k.R3 < w.heap.size := blk_lt g1.ring
  have hA3 : k.A3 < w.heap.size := blk_lt g1.row
  have D1 := Lib.hid h.dist
  have hof := offer_any s h.ok false
  have hok2 := offer_ok s h.ok false { s with row := r', gone := g' } (by rw [ho]; exact ⟨rfl, rfl, rfl, rfl⟩)
  rw [ho] at hof
  have HOF := Lib.hid hof
  have HOK2 := Lib.hid hok2
  clear hof hok2 ho
  clear h hm g1 ac aq a1 hW hC hx1 hx2 hx3
  go_enter Try.func16, Try.ntmps16
  go_wp2_with (first | (go_at_call 20; ((with_reducible refine (H1.out).mono ?_); rintro e w1 ⟨rfl, m1⟩; have M1 := Lib.hid m1; have B1 := Lib.hid (blk_more m1 H.out.blk); have E1 := Lib.hid (G1.out.more m1); clear m1; have hL1 : k.L < w1.heap.size := blk_lt B1.out; have c3 : w1.cell? ⟨k.L, 3, none⟩ = some (.pointer (some ⟨k.R3, 0, none⟩)) := blk_cell B1.out 3 rfl)) | (go_at_call 50; ((with_reducible refine (peekO w1 k.R3 k.A3 s.room f1 _ q ci1 co1 cd1 cg1 css1 E1.out).mono ?_); rintro e w2 ⟨rfl, m2⟩; have M2 : Hid (More w w2) := Lib.hid (M1.out.trans m2); have B2 := Lib.hid (blk_more m2 B1.out); have E2 := Lib.hid (E1.out.more m2); clear m2; have hL2 : k.L < w2.heap.size := blk_lt B2.out; have c3 : w2.cell? ⟨k.L, 3, none⟩ = some (.pointer (some ⟨k.R3, 0, none⟩)) := blk_cell B2.out 3 rfl; have c13 : w2.cell? ⟨k.L, 13, none⟩ = some (.int .i64 s.most) := blk_cell B2.out 13 rfl; have c14 : w2.cell? ⟨k.L, 14, none⟩ = some (.int .i64 s.row) := blk_cell B2.out 14 rfl; have c15 : w2.cell? ⟨k.L, 15, none⟩ = some (.bool s.gone) := blk_cell B2.out 15 rfl)) | (go_at_call 52; ((with_reducible refine (HOF.out (w2.alloc (.cells #[.int .i64 o.1, .slice ob o.2.length cb] 78))).mono ?_); rintro e w8 ⟨rfl, m8⟩; have M8 : Hid (More w w8) := Lib.hid ((M2.out.al _).trans m8); have B8 := Lib.hid (blk_more m8 (blk_alloc B2.out _)); have X8 := Lib.hid (blk_more m8 (blk_new w2 (.cells #[.int .i64 o.1, .slice ob o.2.length cb] 78))); clear m8; have hL8 : k.L < w8.heap.size := blk_lt B8.out; have hX8 : w2.heap.size < w8.heap.size := blk_lt X8.out; have z2 : w.heap.size ≤ w2.heap.size := M2.out.size; have nX : ¬ w2.heap.size = k.L := (by omega); have x0 : w8.cell? ⟨w2.heap.size, 0, none⟩ = some (.int .i64 o.1) := blk_cell X8.out 0 rfl; have c13 : w8.cell? ⟨k.L, 13, none⟩ = some (.int .i64 s.most) := blk_cell B8.out 13 rfl; have c14 : w8.cell? ⟨k.L, 14, none⟩ = some (.int .i64 s.row) := blk_cell B8.out 14 rfl; have c15 : w8.cell? ⟨k.L, 15, none⟩ = some (.bool s.gone) := blk_cell B8.out 15 rfl; have f13 : w8.frozen? ⟨k.L, 13, none⟩ = false := blk_free B8.out 13; have f14 : w8.frozen? ⟨k.L, 14, none⟩ = false := blk_free B8.out 14; have f15 : w8.frozen? ⟨k.L, 15, none⟩ = false := blk_free B8.out 15)))
  refine bodyPost_ret (v := .tuple #[.int .i64 o.1, .int .i64 0, .bool true]) (by simp [results, Try.results16, go_sem]) rfl ?_
  obtain ⟨WF, hWF⟩ : ∃ WF, (((w8.setCell ⟨k.L, 13, none⟩ (.int .i64 s.most)).setCell ⟨k.L, 14, none⟩ (.int .i64 r')).setCell ⟨k.L, 15, none⟩ (.bool g')).alloc (.cells #[.int .i64 s.most, .int .i64 r', .bool g'] 74) = WF := ⟨_, rfl⟩
  have AF : Away (fun b => b = k.L) w8 WF := by rw [← hWF]; exact ((((Away.refl (fun b => b = k.L) w8).set (p := ⟨k.L, 13, none⟩) rfl _).set (p := ⟨k.L, 14, none⟩) rfl _).set (p := ⟨k.L, 15, none⟩) rfl _).alc _
  have BF : WF.heap[k.L]? = some (.cells (lnCells k vo { s with row := r', gone := g' }) 76 (0, 0)) := by rw [← hWF]; exact blk_alloc (blk_eq (blk_set (blk_set (blk_set B8.out 13 _) 14 _) 15 _) rfl) _
  rw [hWF]
  clear hWF c13 c14 c15 f13 f14 f15
  have AL : Away (fun b => b = k.L) w WF := (Away.of_more M8.out).trans AF
  exact ⟨rfl, H.out.setL AL BF ⟨rfl, rfl, rfl, rfl, rfl⟩ HOK2.out, AL.mono fun b hb => by rw [hb]; exact H.out.muts _ (Or.inl rfl)⟩
/-- The stages ahead of the j-th are drained. -/
def drnP (s : LnS) (j : Nat) : LnS := { s with A := if 1 < j then [] else s.A, B := if 2 < j then [] else s.B, C := if 3 < j then [] else s.C }
theorem drnP_step (s : LnS) (j : Nat) (h : 1 ≤ j ∧ j ≤ 3) : drainP (drnP s j) j = drnP s (j + 1) := by
  obtain ⟨h1, h2⟩ := h
  match j, h1, h2 with
  | 1, _, _ => rfl
  | 2, _, _ => rfl
  | 3, _, _ => rfl
set_option maxHeartbeats 8000000 in
theorem write_ln_gone (h : LnX N w k vo s) (hW : s.W.length ≤ 1000000) (o : Int × List Int) (T : List (Int × List Int)) (hC : s.C = o :: T) (r' : Int) (g' : Bool) (ho : offerP s false = (r', g', true)) :
    Calls Try.prog 16 #[.pointer (some ⟨k.L, 0, none⟩), .bool false] w fun e w' => e = .returned (.tuple #[.int .i64 o.1, .int .i64 7, .bool true]) ∧ LnX (Grew N w w') w' k vo (drnP { s with row := r', gone := g' } 4) ∧ Away N w w' := by
  have H := Lib.hid h
  have HW := Lib.hid hW
  have hL : k.L < w.heap.size := blk_lt h.blk
  have H1 := may3_ln h
  have hm : mayP s 3 = true := by
    show decide (0 < s.C.length) = true
    rw [hC]; simp
  rw [hm] at H1
  have H1 := Lib.hid H1
  obtain ⟨f1, q1, ci1, co1, cd1, cg1, css1, g1, a1⟩ := h.r3
  rw [hC] at a1
  obtain ⟨c, q, rfl, ac, aq⟩ := a1.uncons
  have AQ := Lib.hid aq
  have AC0 := Lib.hid ac
  obtain ⟨v0, rfl, ⟨ob, cb, rfl, hx1⟩, hx2, hx3⟩ := ac.read
  have G1 := Lib.hid g1
  have hR3 : k.R3 < w.heap.size := blk_lt g1.ring
  have hA3 : k.A3 < w.heap.size := blk_lt g1.row
  have D1 := Lib.hid h.dist
  have hof := offer_any s h.ok false
  have hok2 := offer_ok s h.ok false { s with row := r', gone := g' } (by rw [ho]; exact ⟨rfl, rfl, rfl, rfl⟩)
  rw [ho] at hof
  have HOF := Lib.hid hof
  have HOK2 := Lib.hid hok2
  clear hof hok2 ho
  clear h hm g1 ac aq a1 hW hC hx1 hx2 hx3
  go_enter Try.func16, Try.ntmps16
  go_wp2_with (first | (go_at_call 20; ((with_reducible refine (H1.out).mono ?_); rintro e w1 ⟨rfl, m1⟩; have M1 := Lib.hid m1; have B1 := Lib.hid (blk_more m1 H.out.blk); have E1 := Lib.hid (G1.out.more m1); clear m1; have hL1 : k.L < w1.heap.size := blk_lt B1.out; have c3 : w1.cell? ⟨k.L, 3, none⟩ = some (.pointer (some ⟨k.R3, 0, none⟩)) := blk_cell B1.out 3 rfl)) | (go_at_call 50; ((with_reducible refine (peekO w1 k.R3 k.A3 s.room f1 _ q ci1 co1 cd1 cg1 css1 E1.out).mono ?_); rintro e w2 ⟨rfl, m2⟩; have M2 : Hid (More w w2) := Lib.hid (M1.out.trans m2); have B2 := Lib.hid (blk_more m2 B1.out); have E2 := Lib.hid (E1.out.more m2); clear m2; have hL2 : k.L < w2.heap.size := blk_lt B2.out; have c3 : w2.cell? ⟨k.L, 3, none⟩ = some (.pointer (some ⟨k.R3, 0, none⟩)) := blk_cell B2.out 3 rfl; have c13 : w2.cell? ⟨k.L, 13, none⟩ = some (.int .i64 s.most) := blk_cell B2.out 13 rfl; have c14 : w2.cell? ⟨k.L, 14, none⟩ = some (.int .i64 s.row) := blk_cell B2.out 14 rfl; have c15 : w2.cell? ⟨k.L, 15, none⟩ = some (.bool s.gone) := blk_cell B2.out 15 rfl)) | (go_at_call 52; ((with_reducible refine (HOF.out (w2.alloc (.cells #[.int .i64 o.1, .slice ob o.2.length cb] 78))).mono ?_); rintro e w8 ⟨rfl, m8⟩; have M8 : Hid (More w w8) := Lib.hid ((M2.out.al _).trans m8); have B8 := Lib.hid (blk_more m8 (blk_alloc B2.out _)); have X8 := Lib.hid (blk_more m8 (blk_new w2 (.cells #[.int .i64 o.1, .slice ob o.2.length cb] 78))); clear m8; have hL8 : k.L < w8.heap.size := blk_lt B8.out; have hX8 : w2.heap.size < w8.heap.size := blk_lt X8.out; have z2 : w.heap.size ≤ w2.heap.size := M2.out.size; have nX : ¬ w2.heap.size = k.L := (by omega); have x0 : w8.cell? ⟨w2.heap.size, 0, none⟩ = some (.int .i64 o.1) := blk_cell X8.out 0 rfl; have c13 : w8.cell? ⟨k.L, 13, none⟩ = some (.int .i64 s.most) := blk_cell B8.out 13 rfl; have c14 : w8.cell? ⟨k.L, 14, none⟩ = some (.int .i64 s.row) := blk_cell B8.out 14 rfl; have c15 : w8.cell? ⟨k.L, 15, none⟩ = some (.bool s.gone) := blk_cell B8.out 15 rfl; have f13 : w8.frozen? ⟨k.L, 13, none⟩ = false := blk_free B8.out 13; have f14 : w8.frozen? ⟨k.L, 14, none⟩ = false := blk_free B8.out 14; have f15 : w8.frozen? ⟨k.L, 15, none⟩ = false := blk_free B8.out 15)))
  obtain ⟨WF, hWF⟩ : ∃ WF, (((w8.setCell ⟨k.L, 13, none⟩ (.int .i64 s.most)).setCell ⟨k.L, 14, none⟩ (.int .i64 r')).setCell ⟨k.L, 15, none⟩ (.bool g')).alloc (.cells #[.int .i64 s.most, .int .i64 r', .bool g'] 74) = WF := ⟨_, rfl⟩
  have AF : Away (fun b => b = k.L) w8 WF := by rw [← hWF]; exact ((((Away.refl (fun b => b = k.L) w8).set (p := ⟨k.L, 13, none⟩) rfl _).set (p := ⟨k.L, 14, none⟩) rfl _).set (p := ⟨k.L, 15, none⟩) rfl _).alc _
  have BF : WF.heap[k.L]? = some (.cells (lnCells k vo { s with row := r', gone := g' }) 76 (0, 0)) := by rw [← hWF]; exact blk_alloc (blk_eq (blk_set (blk_set (blk_set B8.out 13 _) 14 _) 15 _) rfl) _
  rw [hWF]
  clear hWF c13 c14 c15 f13 f14 f15
  have AL : Away (fun b => b = k.L) w WF := (Away.of_more M8.out).trans AF
  have LF := Lib.hid (H.out.setL AL BF ⟨rfl, rfl, rfl, rfl, rfl⟩ HOK2.out)
  have ALF := Lib.hid AL
  have XF := Lib.hid (AF.blk X8.out nX)
  have hmX : ¬ k.muts w2.heap.size := fun e => by have := H.out.own _ (H.out.muts _ e); omega
  clear AL AF BF B8 X8 x0
  go_loopw [12] (fun t wr => ∃ j : Nat, 1 ≤ j ∧ j ≤ 4 ∧ t = .int .i64 j ∧ LnX (Grew N w wr) wr k vo (drnP { s with row := r', gone := g' } j) ∧ Away k.muts WF wr) (fun t _ => 4 - (intOf t).toNat)
  case atStart => exact ⟨1, by omega, by omega, rfl, LF.out, Away.refl _ _⟩
  case round =>
    obtain ⟨j, hj1, hj4, rfl, hln, haw⟩ := hrel
    have LR := Lib.hid hln
    have AR := Lib.hid haw
    have hzW : Hid (w.heap.size ≤ wr.heap.size) := Lib.hid (Nat.le_trans ALF.out.size haw.size)
    have XR := Lib.hid (haw.blk XF.out hmX)
    have x0 : wr.cell? ⟨w2.heap.size, 0, none⟩ = some (.int .i64 o.1) := blk_cell XR.out 0 rfl
    clear hln haw
    by_cases hlt : j ≤ 3
    · have hlti : (j : Int) ≤ 3 := by omega
      have hor : (j : Int) = 1 ∨ (j : Int) = 2 ∨ (j : Int) = 3 := by omega
      have HD := Lib.hid (drain_ln LR.out j hor)
      clear hor
      go_wp2_with (go_at_call 53; ((with_reducible refine (HD.out).mono ?_); rintro e w9 ⟨⟨v9, rfl⟩, l9, a9⟩; have L9 := Lib.hid l9; have A9 := Lib.hid a9; clear l9 a9))
      go_roundw
      case rel =>
        have l9 := L9.out
        rw [Grew_trans hzW.out A9.out.size, drnP_step _ j ⟨hj1, hlt⟩] at l9
        exact ⟨j + 1, by omega, by omega, by go_num, l9, AR.out.trans A9.out⟩
      case measure => simp [intOf]; omega
    · obtain rfl : j = 4 := by omega
      have hnl : ¬ ((4 : Nat) : Int) ≤ 3 := by decide
      go_wp2
      refine bodyPost_ret (v := .tuple #[.int .i64 o.1, .int .i64 7, .bool true]) (by simp [results, Try.results16, go_sem]) rfl ?_
      exact ⟨rfl, LR.out, (ALF.out.mono fun b hb => by rw [hb]; exact H.out.muts _ (Or.inl rfl)).trans (AR.out.mono fun b hb => H.out.muts b hb)⟩
/-- A lane's Write. -/
theorem write_ln (h : LnX N w k vo s) (hW : s.W.length ≤ 1000000) (acc : Bool) : Calls Try.prog 16 #[.pointer (some ⟨k.L, 0, none⟩), .bool acc] w fun e w' => e = .returned (.tuple #[.int .i64 (writeP s acc).2.1, .int .i64 (writeP s acc).2.2.1, .bool (writeP s acc).2.2.2]) ∧ ∃ vo', LnX (Grew N w w') w' k vo' (writeP s acc).1 ∧ Away N w w' := by
  cases hC : s.C with
  | nil =>
    have e : writeP s acc = (s, 0, 0, false) := by unfold writeP; rw [hC]
    rw [e]
    refine (write_ln_none h acc (by show decide (0 < s.C.length) = false; rw [hC]; rfl)).mono ?_
    rintro e w' ⟨rfl, m⟩
    exact ⟨rfl, vo, h.grow m, Away.of_more m⟩
  | cons o T =>
    rcases ho : offerP s acc with ⟨r', g', b⟩
    cases b with
    | true =>
      have hacc : acc = false := by
        cases acc with
        | false => rfl
        | true =>
          unfold offerP at ho
          split at ho <;> simp at ho
      subst hacc
      have e : writeP s false = (drnP { s with row := r', gone := g' } 4, o.1, 7, true) := by unfold writeP; rw [hC]; simp only [ho]; rfl
      rw [e]
      refine (write_ln_gone h hW o T hC r' g' ho).mono ?_
      rintro e w' ⟨rfl, h1, h2⟩
      exact ⟨rfl, vo, h1, h2⟩
    | false =>
      cases acc with
      | true =>
        have e : writeP s true = ({ s with C := T, W := s.W ++ [o], row := r', gone := g' }, o.1, 1, true) := by unfold writeP; rw [hC]; simp only [ho]; rfl
        rw [e]
        exact write_ln_acc h hW o T hC r' g' ho
      | false =>
        have e : writeP s false = ({ s with row := r', gone := g' }, o.1, 0, true) := by unfold writeP; rw [hC]; simp only [ho]; simp [hC]
        rw [e]
        refine (write_ln_ref h hW o T hC r' g' ho).mono ?_
        rintro e w' ⟨rfl, h1, h2⟩
        exact ⟨rfl, vo, h1, h2⟩
end
end Go.Proofs.Ytdgmmffedhikcaa
