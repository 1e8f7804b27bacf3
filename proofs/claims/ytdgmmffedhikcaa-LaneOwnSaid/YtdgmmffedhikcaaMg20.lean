/- Merged from my texts LaneU. -/
import Derived.Test.YtdgmmffedhikcaaMg19
import Derived.Test.YtdgmmffedhikcaaMg6
import Derived.IntWalk
import Derived.Deep.Cut
import Derived.Deep.CutRange
import Derived.Deep.CutBlock
/- A lane's Choose. (printed by gen_laneU.py) -/
namespace Go.Proofs.Ytdgmmffedhikcaa
set_option linter.unusedSimpArgs false
set_option linter.unusedVariables false
open Go.RowKit
set_option maxRecDepth 100000

theorem tr_load_mid {P : Program} {C : World → Prop} {l : List Oper} {T : Nat} {Q : Act → World → Prop} {k : Nat} {o : Oper} {t : Tr} {a : Act} {w : World} (ho : l[k]? = some o) (hw : Region.wanted o (yielded l.toArray a.tmps) = true) (hC : C w)
    (ty : TypeId) (x : Operand) (hop : o.op = .load ty x) (b off : Nat) (hx : a.eval x = .pointer (some ⟨b, off, none⟩)) (cs : List Value) (d : TypeDesc) (hc : ∀ w, C w → w.rangeAt b off cs)
    (hu : P.underlying ty = some d) (hd : d.isRow = true) (hi : (P.info? ty).map (·.size) = some cs.length)
    (h : ∀ K : Act → Prop, (∀ a, wpTr P l.toArray T C Q t a w → K a) → K (a.put o.dst (.agg cs.toArray))) : wpTr P l.toArray T C Q (.op k false t) a w :=
  tr_quiet ho hw hC fun K hK => ⟨.agg cs.toArray, fun w hw => by
    unfold Oper.quietAt execOp
    simp only [hop, hx, Instr.loadAt, Instr.sureAddr, Sem.run_bind, Sem.run_pure, Result.andThen_ok, run_loadVar_mid w b off ty cs d (hc w hw) hu hd hi]
    exact ⟨rfl, rfl⟩, h K hK⟩
theorem take_any (c t n : Int) (k : Bool) (w : World) : Calls Try.prog 44 #[.agg #[.int .i64 c, .int .i64 t], .int .i64 n, .bool k] w fun e w' => e = .returned (.tuple #[.agg #[.int .i64 (takeP c t n k).1, .int .i64 t], .int .i64 (takeP c t n k).2.1, .bool (takeP c t n k).2.2]) ∧ More w w' := by
  by_cases h1 : n = c
  · have e : takeP c t n k = (c, 0, false) := by unfold takeP; rw [if_pos h1]
    rw [e]
    exact take_flows c t n k (by simp [h1]) (by simp [h1]) w
  · by_cases h2 : n = t
    · cases k with
      | true =>
        have e : takeP c t n true = (n, 0, true) := by unfold takeP; rw [if_neg h1, if_pos h2, if_pos rfl]
        rw [e]
        exact take_first c t n true (by simp [h1]) (by simp [h2]) rfl w
      | false =>
        have e : takeP c t n false = (c, 5, false) := by unfold takeP; rw [if_neg h1, if_pos h2, if_neg (by decide)]
        rw [e]
        exact take_awaits c t n false (by simp [h1]) (by simp [h1]) (by simp [h2]) rfl w
    · have e : takeP c t n k = (c, 4, false) := by unfold takeP; rw [if_neg h1, if_neg h2]
      rw [e]
      exact take_not c t n k (by simp [h1]) (by simp [h1]) (by simp [h2]) w
section
variable {N : Nat → Prop} {w w' : World} {k : LnB} {vo : Value} {s s' : LnS}
theorem choose_ln_no (h : LnX N w k vo s) (hm : mayP s 1 = false) : Calls Try.prog 14 #[.pointer (some ⟨k.L, 0, none⟩)] w fun e w' => e = .returned (.tuple #[.int .i64 0, .int .i64 0, .bool false]) ∧ More w w' := by
  have H1 := may1_ln h
  rw [hm] at H1
  have H1 := Lib.hid H1
  clear hm h
  go_enter Try.func14, Try.ntmps14
  go_wp2_with (go_at_call 20; ((with_reducible refine (H1.out).mono ?_); rintro e w1 ⟨rfl, m1⟩; have M1 := Lib.hid m1; clear m1))
  refine bodyPost_ret (v := .tuple #[.int .i64 0, .int .i64 0, .bool false]) (by simp [results, Try.results14, go_sem]) rfl ?_
  exact ⟨rfl, M1.out⟩
set_option maxHeartbeats 8000000 in
theorem choose_ln_in (h : LnX N w k vo s) (hm : mayP s 1 = true) (x : ItS) (T : List ItS) (hA : s.A = x :: T) (c' f : Int) (fi : Bool) (htk : takeP s.cur s.tgt x.layer x.key = (c', f, fi)) (hf : (f == 0) = true) :
    Calls Try.prog 14 #[.pointer (some ⟨k.L, 0, none⟩)] w fun e w' => e = .returned (.tuple #[.int .i64 x.id, .int .i64 f, .bool true]) ∧ LnX (Grew N w w') w' k vo { s with A := T, cur := c', B := s.B ++ [(x, fi)] } ∧ Away N w w' := by
  have H := Lib.hid h
  have hL : k.L < w.heap.size := blk_lt h.blk
  have H1 := may1_ln h
  rw [hm] at H1
  have H1 := Lib.hid H1
  have HTK := take_any s.cur s.tgt x.layer x.key
  rw [htk] at HTK
  have HTK := Lib.hid HTK
  have hB : s.B.length < s.room := by
    have := h.r2.fit.1
    have h2 : (decide (0 < s.A.length) && decide (¬ s.B.length = s.room)) = true := hm
    simp at h2
    omega
  obtain ⟨f1, q1, ci1, co1, cd1, cg1, css1, g1, a1⟩ := h.r1
  rw [hA] at a1
  obtain ⟨c, q, rfl, ac, aq⟩ := a1.uncons
  have AQ := Lib.hid aq
  obtain ⟨vs, ve, vp, rfl, ⟨⟨os, ks, rfl, _⟩, ⟨oe, ke, rfl, _⟩, ⟨ol, kl, rfl, _⟩⟩, _, _⟩ := ac.read
  unfold itC at ac g1
  have ACC := Lib.hid ac
  have G1 := Lib.hid g1
  have hR1 : k.R1 < w.heap.size := blk_lt g1.ring
  have hA1 : k.A1 < w.heap.size := blk_lt g1.row
  have D1 := Lib.hid h.dist
  clear h hm htk g1 ac aq a1
  go_enter Try.func14, Try.ntmps14
  go_wp2_with (first | (go_at_call 20; ((with_reducible refine (H1.out).mono ?_); rintro e w1 ⟨rfl, m1⟩; have M1 := Lib.hid m1; have B1 := Lib.hid (blk_more m1 H.out.blk); have z1 : Hid (w.heap.size ≤ w1.heap.size) := Lib.hid m1.size; have E1 := Lib.hid (G1.out.more m1); clear m1; have c1 : w1.cell? ⟨k.L, 1, none⟩ = some (.pointer (some ⟨k.R1, 0, none⟩)) := blk_cell B1.out 1 rfl)) | (go_at_call 43; ((with_reducible refine (popI w1 k.R1 k.A1 s.room f1 _ q ci1 co1 cd1 cg1 css1 E1.out).mono ?_); rintro e w2 ⟨rfl, ⟨co2, g2⟩, a2⟩; have G2 := Lib.hid g2; have A2 : Hid (Away (RgB k.R1 k.A1) w w2) := Lib.hid ((Away.of_more M1.out).trans a2); have B2 : Hid (w2.heap[k.L]? = some (.cells (lnCells k vo s) 76 (0, 0))) := Lib.hid (a2.blk B1.out (by obtain ⟨⟨d1, d2, _⟩, _⟩ := D1.out; rintro (e | e) <;> omega)); clear g2 a2)))
  obtain ⟨W4, hW4⟩ : ∃ W4, (w2.alloc (.cells #[.int .i64 x.id, .int .i64 x.layer, .bool x.key, .bool x.pk.mr, .int .u8 x.pk.ty, .int .u16 x.pk.sq, .int .u32 x.pk.st, .int .u32 x.pk.sc, .slice os x.pk.ss.length ks, .bool x.pk.has, .int .u16 x.pk.pr, .slice oe x.pk.ex.length ke, .slice ol x.pk.pl.length kl] 41)) = W4 := ⟨_, rfl⟩
  have M4 : Hid (More w2 W4) := Lib.hid (by rw [← hW4]; exact More.alloc _ _)
  have X4 : Hid (W4.heap[w2.heap.size]? = some (.cells #[.int .i64 x.id, .int .i64 x.layer, .bool x.key, .bool x.pk.mr, .int .u8 x.pk.ty, .int .u16 x.pk.sq, .int .u32 x.pk.st, .int .u32 x.pk.sc, .slice os x.pk.ss.length ks, .bool x.pk.has, .int .u16 x.pk.pr, .slice oe x.pk.ex.length ke, .slice ol x.pk.pl.length kl] 41 (0, 0))) := Lib.hid (by rw [← hW4]; exact blk_new w2 _)
  have B4 := Lib.hid (blk_more M4.out B2.out)
  rw [hW4]
  clear hW4
  go_cut [7, 8, 9] from 21 (fun s7 s8 s9 wx => ∃ C, s7 = .pointer (some ⟨C, 0, none⟩) ∧ s8 = .int .i64 f ∧ s9 = .bool fi ∧ More W4 wx ∧ wx.heap[C]? = some (.cells #[.int .i64 c', .int .i64 s.tgt] 60 (0, 0)) ∧ W4.heap.size ≤ C)
  case first =>
    have L5 : ∀ x : Later W4, x.w'.rangeAt k.L 5 [.int .i64 s.cur, .int .i64 s.tgt] := fun x j v hv => by
      have hb := blk_more x.h B4.out
      match j, hv with
      | 0, hv => exact blk_cell hb 5 hv
      | 1, hv => exact blk_cell hb 6 hv
    have L1 : ∀ y : Later W4, y.w'.cell? ⟨w2.heap.size, 1, none⟩ = some (.int .i64 x.layer) := fun y => blk_cell (blk_more y.h X4.out) 1 rfl
    have L2 : ∀ y : Later W4, y.w'.cell? ⟨w2.heap.size, 2, none⟩ = some (.bool x.key) := fun y => blk_cell (blk_more y.h X4.out) 2 rfl
    refine wp_region_trL W4 17 (.op 0 false (.op 1 false (.op 2 false (.op 3 false (.op 4 false (.op 5 false (.op 6 false (.op 7 false (.br [8, 13] fun k => if k = 8 then .op 9 false (.op 10 false (.op 11 false (.op 12 false (.op 13 true (.op 14 true (.op 15 false (.op 16 false (.done)))))))) else .op 8 true (.op 9 false (.op 10 false (.op 11 false (.op 12 false (.op 14 true (.op 15 false (.op 16 false (.done))))))))))))))))) (by kernel_rfl) (by kernel_rfl) ?_
    iterate 3 (refine tr_quiet rfl rfl (later_mk (by repeat (first | exact More.refl _ | assumption | refine More.dr ?_ _ | refine More.al ?_ _ | refine More.st ?_ (by simp) _))) ?_; intro K hK; go_big_quiet_op; go_big_quiet_on)
    refine tr_load_mid rfl rfl (later_mk (by repeat (first | exact More.refl _ | assumption | refine More.dr ?_ _ | refine More.al ?_ _ | refine More.st ?_ (by simp) _))) 60 (.tmp 24) rfl k.L 5 rfl [.int .i64 s.cur, .int .i64 s.tgt] _ (fun w' hx => by obtain ⟨y, rfl⟩ := hx; exact L5 y) Try.underlying60 rfl (by kernel_rfl) ?_
    intro K hK
    go_simp
    refine hK _ ?_
    clear hK K
    repeat (first | (refine tr_skip rfl rfl (later_mk (by repeat (first | exact More.refl _ | assumption | refine More.dr ?_ _ | refine More.al ?_ _ | refine More.st ?_ (by simp) _))) ?_) | (refine tr_quiet rfl rfl (later_mk (by repeat (first | exact More.refl _ | assumption | refine More.dr ?_ _ | refine More.al ?_ _ | refine More.st ?_ (by simp) _))) ?_; intro K hK; go_big_quiet_op; go_big_quiet_on))
    refine tr_two (by decide) ?_ ?_
    · (refine tr_next rfl rfl ?_; intro K hK; unfold loud; go_simp)
      (with_reducible refine (HTK.out _).mono ?_)
      rintro e w5 ⟨rfl, m5⟩
      have M5 : Hid (More W4 w5) := Lib.hid ((More.drewN _ 1).trans m5)
      clear m5
      refine ⟨_, rfl, later_mk M5.out, hK _ _ ?_⟩
      clear hK K
      repeat (first | (refine tr_skip rfl rfl (later_mk M5.out) ?_) | (refine tr_quiet rfl rfl (later_mk M5.out) ?_; intro K hK; go_big_quiet_op; go_big_quiet_on))
      (refine tr_next rfl rfl ?_; intro K hK; unfold loud; go_simp)
      refine ⟨later_mk (M5.out.al _), hK _ _ ?_⟩
      clear hK K
      (refine tr_next rfl rfl ?_; intro K hK; unfold loud; go_simp)
      refine ⟨later_mk (by repeat (first | exact M5.out.al _ | refine More.st ?_ (by have := M5.out.size; simp; omega) _)), hK _ _ ?_⟩
      clear hK K
      repeat (first | (refine tr_skip rfl rfl (later_mk (by repeat (first | exact M5.out.al _ | refine More.st ?_ (by have := M5.out.size; simp; omega) _))) ?_) | (refine tr_quiet rfl rfl (later_mk (by repeat (first | exact M5.out.al _ | refine More.st ?_ (by have := M5.out.size; simp; omega) _))) ?_; intro K hK; go_big_quiet_op; go_big_quiet_on))
      refine tr_done ?_
      go_wp2
      go_meet
      exact ⟨_, rfl, rfl, rfl, M5.out.al _, blk_new w5 _, M5.out.size⟩
    · (refine tr_next rfl rfl ?_; intro K hK; unfold loud; go_simp)
      refine ⟨later_mk (by repeat (first | exact More.refl _ | assumption | refine More.dr ?_ _ | refine More.al ?_ _ | refine More.st ?_ (by simp) _)), hK _ _ ?_⟩
      clear hK K
      (refine tr_next rfl rfl ?_; intro K hK; unfold loud; go_simp)
      (with_reducible refine (HTK.out _).mono ?_)
      rintro e w5 ⟨rfl, m5⟩
      have M5 : Hid (More W4 w5) := Lib.hid (((More.drewN _ 1).al _).trans m5)
      have C5 : Hid (w5.heap[W4.heap.size]? = some (.cells #[.int .i64 0, .int .i64 0] 60 (0, 0))) := Lib.hid (blk_more m5 (blk_new2 rfl))
      clear m5
      have d0 : w5.cell? ⟨W4.heap.size, 0, none⟩ = some (.int .i64 0) := blk_cell C5.out 0 rfl
      have d1 : w5.cell? ⟨W4.heap.size, 1, none⟩ = some (.int .i64 0) := blk_cell C5.out 1 rfl
      have e0 : w5.frozen? ⟨W4.heap.size, 0, none⟩ = false := blk_free C5.out 0
      have e1 : w5.frozen? ⟨W4.heap.size, 1, none⟩ = false := blk_free C5.out 1
      refine ⟨_, rfl, later_mk M5.out, hK _ _ ?_⟩
      clear hK K
      repeat (first | (refine tr_skip rfl rfl (later_mk M5.out) ?_) | (refine tr_quiet rfl rfl (later_mk M5.out) ?_; intro K hK; go_big_quiet_op; go_big_quiet_on))
      (refine tr_next rfl rfl ?_; intro K hK; unfold loud; go_simp)
      refine ⟨later_mk ((M5.out.st (Nat.le_refl _) _).st (Nat.le_refl _) _), hK _ _ ?_⟩
      clear hK K
      repeat (first | (refine tr_skip rfl rfl (later_mk ((M5.out.st (Nat.le_refl _) _).st (Nat.le_refl _) _)) ?_) | (refine tr_quiet rfl rfl (later_mk ((M5.out.st (Nat.le_refl _) _).st (Nat.le_refl _) _)) ?_; intro K hK; go_big_quiet_op; go_big_quiet_on))
      refine tr_done ?_
      go_wp2
      go_meet
      exact ⟨_, rfl, rfl, rfl, (M5.out.st (Nat.le_refl _) _).st (Nat.le_refl _) _, blk_eq (blk_set (blk_set C5.out 0 _) 1 _) rfl, Nat.le_refl _⟩
  case rest =>
  obtain ⟨C, rfl, rfl, rfl, mx, cx, hC⟩ := hcut
  have MX := Lib.hid mx
  have CX := Lib.hid cx
  have BX := Lib.hid (blk_more mx B4.out)
  have XX := Lib.hid (blk_more mx X4.out)
  clear mx cx
  have hLX : k.L < wc.heap.size := blk_lt BX.out
  have hLC : k.L < C := by have := blk_lt B4.out; omega
  have d0 : wc.cell? ⟨C, 0, none⟩ = some (.int .i64 c') := blk_cell CX.out 0 rfl
  have d1 : wc.cell? ⟨C, 1, none⟩ = some (.int .i64 s.tgt) := blk_cell CX.out 1 rfl
  have c5 : wc.cell? ⟨k.L, 5, none⟩ = some (.int .i64 s.cur) := blk_cell BX.out 5 rfl
  have c6 : wc.cell? ⟨k.L, 6, none⟩ = some (.int .i64 s.tgt) := blk_cell BX.out 6 rfl
  have e5 : wc.frozen? ⟨k.L, 5, none⟩ = false := blk_free BX.out 5
  have e6 : wc.frozen? ⟨k.L, 6, none⟩ = false := blk_free BX.out 6
  have x0 : wc.cell? ⟨w2.heap.size, 0, none⟩ = some (.int .i64 x.id) := blk_cell XX.out 0 rfl
  have hX2 : ¬ w2.heap.size = k.L := by have := blk_lt B2.out; omega
  go_wp2
  obtain ⟨W6, hW6⟩ : ∃ W6, (wc.setCell ⟨k.L, 5, none⟩ (.int .i64 c')).setCell ⟨k.L, 6, none⟩ (.int .i64 s.tgt) = W6 := ⟨_, rfl⟩
  have A6 : Hid (Away (fun b => b = k.L ∨ RgB k.R1 k.A1 b) w W6) := Lib.hid (by rw [← hW6]; exact ((((A2.out.mono (S' := fun b => b = k.L ∨ RgB k.R1 k.A1 b) fun b hb => Or.inr hb).more (M4.out.trans MX.out)).set (p := ⟨k.L, 5, none⟩) (Or.inl rfl) _).set (p := ⟨k.L, 6, none⟩) (Or.inl rfl) _))
  have B6 : Hid (W6.heap[k.L]? = some (.cells (lnCells k vo { s with A := T, cur := c', B := s.B ++ [(x, fi)] }) 76 (0, 0))) := Lib.hid (by rw [← hW6]; exact blk_eq (blk_set (blk_set BX.out 5 _) 6 _) rfl)
  have X6 : Hid (W6.heap[w2.heap.size]? = some (.cells #[.int .i64 x.id, .int .i64 x.layer, .bool x.key, .bool x.pk.mr, .int .u8 x.pk.ty, .int .u16 x.pk.sq, .int .u32 x.pk.st, .int .u32 x.pk.sc, .slice os x.pk.ss.length ks, .bool x.pk.has, .int .u16 x.pk.pr, .slice oe x.pk.ex.length ke, .slice ol x.pk.pl.length kl] 41 (0, 0))) := Lib.hid (by rw [← hW6]; exact blk_other (blk_other XX.out ⟨k.L, 5, none⟩ _ hX2) ⟨k.L, 6, none⟩ _ hX2)
  have E6 : Hid (RgAt 13 148 41 W6 k.R1 k.A1 s.room ((f1 + 1) % s.room) q ci1 _ cd1 cg1 _) := Lib.hid (by
    obtain ⟨⟨d1, d2, _⟩, _⟩ := D1.out
    rw [← hW6]
    exact ((G2.out.more (M4.out.trans MX.out)).away (S := fun b => b = k.L) (((Away.refl (fun b => b = k.L) wc).set (p := ⟨k.L, 5, none⟩) rfl _).set (p := ⟨k.L, 6, none⟩) rfl _) (Ne.symm d1) (Ne.symm d2)))
  rw [hW6]
  clear hW6
  obtain ⟨f2, q2, ci2, co2, cd2, cg2, css2, g2, a2⟩ := H.out.r2
  have AB := Lib.hid a2
  have hq2 : q2.length < s.room := by have := a2.len; omega
  have R2 : Hid (RgAt 14 151 99 W6 k.R2 k.A2 s.room f2 q2 ci2 co2 cd2 cg2 css2) := Lib.hid (g2.away A6.out (by obtain ⟨⟨d1, d2, d3, d4, d5, d6⟩, ⟨e1, e2, e3, e4, e5⟩, ⟨f1, f2, f3, f4⟩, _⟩ := D1.out; rintro (e | e | e) <;> omega) (by obtain ⟨⟨d1, d2, d3, d4, d5, d6⟩, ⟨e1, e2, e3, e4, e5⟩, ⟨f1, f2, f3, f4⟩, _⟩ := D1.out; rintro (e | e | e) <;> omega))
  have hR2 : k.R2 < w.heap.size := blk_lt g2.ring
  have hA2 : k.A2 < w.heap.size := blk_lt g2.row
  have z2 : w.heap.size ≤ w2.heap.size := A2.out.size
  clear g2 a2
  have nL : ¬ RgB k.R2 k.A2 k.L := by
    obtain ⟨⟨d1, d2, d3, d4, _⟩, _⟩ := D1.out
    rintro (e | e) <;> omega
  have nX : ¬ RgB k.R2 k.A2 w2.heap.size := by rintro (e | e) <;> omega
  have L2 : ∀ y : LaterS (RgB k.R2 k.A2) W6, y.w'.cell? ⟨k.L, 2, none⟩ = some (.pointer (some ⟨k.R2, 0, none⟩)) := fun y => blk_cell (y.h.blk B6.out nL) 2 rfl
  have HG : ∀ y : LaterS (RgB k.R2 k.A2) W6, y.w'.rangeAt w2.heap.size 0 [.int .i64 x.id, .int .i64 x.layer, .bool x.key, .bool x.pk.mr, .int .u8 x.pk.ty, .int .u16 x.pk.sq, .int .u32 x.pk.st, .int .u32 x.pk.sc, .slice os x.pk.ss.length ks, .bool x.pk.has, .int .u16 x.pk.pr, .slice oe x.pk.ex.length ke, .slice ol x.pk.pl.length kl] := fun y => lnRange (y.h.blk X6.out nX)
  refine wp_region_numS (RgB k.R2 k.A2) W6 8 [(0, false), (1, false), (2, false), (3, false), (4, false), (5, false), (6, false), (7, true)] (by kernel_rfl) (by kernel_rfl) ?_
  iterate 4 (refine num_quiet rfl rfl (laterS_mk (by repeat (first | exact Away.refl _ _ | assumption | refine Away.drewN ?_ _ | refine Away.set ?_ (by first | rfl | exact Or.inl rfl | exact Or.inr rfl) _))) ?_; intro K hK; go_big_quiet_op; go_big_quiet_on)
  refine num_load_mid rfl rfl (laterS_mk (by repeat (first | exact Away.refl _ _ | assumption | refine Away.drewN ?_ _ | refine Away.set ?_ (by first | rfl | exact Or.inl rfl | exact Or.inr rfl) _))) 41 (.tmp 5) rfl w2.heap.size 0 rfl [.int .i64 x.id, .int .i64 x.layer, .bool x.key, .bool x.pk.mr, .int .u8 x.pk.ty, .int .u16 x.pk.sq, .int .u32 x.pk.st, .int .u32 x.pk.sc, .slice os x.pk.ss.length ks, .bool x.pk.has, .int .u16 x.pk.pr, .slice oe x.pk.ex.length ke, .slice ol x.pk.pl.length kl] _ (fun w' hx => by obtain ⟨y, rfl⟩ := hx; exact HG y) Try.underlying41 rfl (by kernel_rfl) ?_
  intro K hK
  go_simp
  refine hK _ ?_
  clear hK K
  iterate 2 (refine num_quiet rfl rfl (laterS_mk (by repeat (first | exact Away.refl _ _ | assumption | refine Away.drewN ?_ _ | refine Away.set ?_ (by first | rfl | exact Or.inl rfl | exact Or.inr rfl) _))) ?_; intro K hK; go_big_quiet_op; go_big_quiet_on)
  (refine num_next rfl rfl ?_; intro K hK; unfold loud; go_simp)
  (with_reducible refine (pushC_room _ k.R2 k.A2 s.room f2 q2 ci2 co2 cd2 cg2 css2 (R2.out.more (More.drewN W6 1)) hq2 [.int .i64 x.id, .int .i64 x.layer, .bool x.key, .bool x.pk.mr, .int .u8 x.pk.ty, .int .u16 x.pk.sq, .int .u32 x.pk.st, .int .u32 x.pk.sc, .slice os x.pk.ss.length ks, .bool x.pk.has, .int .u16 x.pk.pr, .slice oe x.pk.ex.length ke, .slice ol x.pk.pl.length kl, .bool fi] ⟨rfl, by simp [Value.oneCell']⟩).mono ?_)
  rintro e w8 ⟨rfl, ⟨ci8, g8⟩, a8⟩
  have R8 := Lib.hid g8
  have A8 : Hid (Away (RgB k.R2 k.A2) W6 w8) := Lib.hid (((Away.refl _ W6).drewN 1).trans a8)
  clear g8 a8
  refine ⟨_, rfl, laterS_mk A8.out, hK _ _ ?_⟩
  clear hK K L2 HG
  refine num_nil ?_
  have B8 := Lib.hid (A8.out.blk B6.out nL)
  have X8 := Lib.hid (A8.out.blk X6.out nX)
  have x8 : w8.cell? ⟨w2.heap.size, 0, none⟩ = some (.int .i64 x.id) := blk_cell X8.out 0 rfl
  go_wp2
  refine bodyPost_ret (v := .tuple #[.int .i64 x.id, .int .i64 f, .bool true]) (by simp [results, Try.results14, go_sem]) rfl ?_
  have AS : Away (fun b => b = k.L ∨ RgB k.R1 k.A1 b ∨ RgB k.R2 k.A2 b) w w8 := (A6.out.mono fun b hb => by rcases hb with e | e; exact Or.inl e; exact Or.inr (Or.inl e)).trans (A8.out.mono fun b hb => Or.inr (Or.inr hb))
  obtain ⟨⟨d1, d2, d3, d4, d5, d6⟩, ⟨e1, e2, e3, e4, e5⟩, ⟨i1, i2, i3, i4⟩, ⟨j1, j2, j3⟩, ⟨k1, k2⟩, _⟩ := D1.out
  have AM : Away k.muts w w8 := AS.mono fun b hb => by rcases hb with e | e | e; exact Or.inl e; exact Or.inr (Or.inl e); exact Or.inr (Or.inr (Or.inl e))
  have AE : Away (lnM k vo) w w8 := AM.mono fun b hb => Or.inl hb
  have hv : ∀ b, vo.ownBlock = some b → vo.ownBlock = some b ∨ w.heap.size ≤ b := fun b hb => Or.inl hb
  have hE : ∀ b, (fun b => b = k.L ∨ RgB k.R1 k.A1 b ∨ RgB k.R2 k.A2 b) b → lnE N k vo b := fun b hb => mut_E (by rcases hb with e | e | e; exact Or.inl e; exact Or.inr (Or.inl e); exact Or.inr (Or.inr (Or.inl e)))
  have hok := H.out.ok
  exact ⟨rfl, H.out.make AM.size B8.out ⟨_, _, _, _, _, _, _, E6.out.away A8.out (by rintro (e | e) <;> omega) (by rintro (e | e) <;> omega), AQ.out.mono fun c y hy => H.out.held hy AE hv⟩ ⟨_, _, _, _, _, _, _, R8.out, (AB.out.mono fun c y hy => H.out.held hy AE hv).snoc (H.out.held (RdOff.chosen fi ACC.out) AE hv)⟩ (H.out.r3.step AS (by rintro (e | (e | e) | (e | e)) <;> omega) (by rintro (e | (e | e) | (e | e)) <;> omega) hE fun b hb => Or.inl (lnE_sub H.out.own hv hb)) (H.out.rows AM) ⟨hok.most, hok.row, hok.lt, hok.sq, hok.src⟩, AM.mono fun b hb => H.out.muts b hb⟩
set_option maxHeartbeats 8000000 in
theorem choose_ln_out (h : LnX N w k vo s) (hm : mayP s 1 = true) (x : ItS) (T : List ItS) (hA : s.A = x :: T) (c' f : Int) (fi : Bool) (htk : takeP s.cur s.tgt x.layer x.key = (c', f, fi)) (hf : (f == 0) = false) :
    Calls Try.prog 14 #[.pointer (some ⟨k.L, 0, none⟩)] w fun e w' => e = .returned (.tuple #[.int .i64 x.id, .int .i64 f, .bool true]) ∧ LnX (Grew N w w') w' k vo { s with A := T, cur := c' } ∧ Away N w w' := by
  have H := Lib.hid h
  have hL : k.L < w.heap.size := blk_lt h.blk
  have H1 := may1_ln h
  rw [hm] at H1
  have H1 := Lib.hid H1
  have HTK := take_any s.cur s.tgt x.layer x.key
  rw [htk] at HTK
  have HTK := Lib.hid HTK
  have hB : s.B.length < s.room := by
    have := h.r2.fit.1
    have h2 : (decide (0 < s.A.length) && decide (¬ s.B.length = s.room)) = true := hm
    simp at h2
    omega
  obtain ⟨f1, q1, ci1, co1, cd1, cg1, css1, g1, a1⟩ := h.r1
  rw [hA] at a1
  obtain ⟨c, q, rfl, ac, aq⟩ := a1.uncons
  have AQ := Lib.hid aq
  obtain ⟨vs, ve, vp, rfl, ⟨⟨os, ks, rfl, _⟩, ⟨oe, ke, rfl, _⟩, ⟨ol, kl, rfl, _⟩⟩, _, _⟩ := ac.read
  unfold itC at ac g1
  have ACC := Lib.hid ac
  have G1 := Lib.hid g1
  have hR1 : k.R1 < w.heap.size := blk_lt g1.ring
  have hA1 : k.A1 < w.heap.size := blk_lt g1.row
  have D1 := Lib.hid h.dist
  clear h hm htk g1 ac aq a1
  go_enter Try.func14, Try.ntmps14
  go_wp2_with (first | (go_at_call 20; ((with_reducible refine (H1.out).mono ?_); rintro e w1 ⟨rfl, m1⟩; have M1 := Lib.hid m1; have B1 := Lib.hid (blk_more m1 H.out.blk); have z1 : Hid (w.heap.size ≤ w1.heap.size) := Lib.hid m1.size; have E1 := Lib.hid (G1.out.more m1); clear m1; have c1 : w1.cell? ⟨k.L, 1, none⟩ = some (.pointer (some ⟨k.R1, 0, none⟩)) := blk_cell B1.out 1 rfl)) | (go_at_call 43; ((with_reducible refine (popI w1 k.R1 k.A1 s.room f1 _ q ci1 co1 cd1 cg1 css1 E1.out).mono ?_); rintro e w2 ⟨rfl, ⟨co2, g2⟩, a2⟩; have G2 := Lib.hid g2; have A2 : Hid (Away (RgB k.R1 k.A1) w w2) := Lib.hid ((Away.of_more M1.out).trans a2); have B2 : Hid (w2.heap[k.L]? = some (.cells (lnCells k vo s) 76 (0, 0))) := Lib.hid (a2.blk B1.out (by obtain ⟨⟨d1, d2, _⟩, _⟩ := D1.out; rintro (e | e) <;> omega)); clear g2 a2)))
  obtain ⟨W4, hW4⟩ : ∃ W4, (w2.alloc (.cells #[.int .i64 x.id, .int .i64 x.layer, .bool x.key, .bool x.pk.mr, .int .u8 x.pk.ty, .int .u16 x.pk.sq, .int .u32 x.pk.st, .int .u32 x.pk.sc, .slice os x.pk.ss.length ks, .bool x.pk.has, .int .u16 x.pk.pr, .slice oe x.pk.ex.length ke, .slice ol x.pk.pl.length kl] 41)) = W4 := ⟨_, rfl⟩
  have M4 : Hid (More w2 W4) := Lib.hid (by rw [← hW4]; exact More.alloc _ _)
  have X4 : Hid (W4.heap[w2.heap.size]? = some (.cells #[.int .i64 x.id, .int .i64 x.layer, .bool x.key, .bool x.pk.mr, .int .u8 x.pk.ty, .int .u16 x.pk.sq, .int .u32 x.pk.st, .int .u32 x.pk.sc, .slice os x.pk.ss.length ks, .bool x.pk.has, .int .u16 x.pk.pr, .slice oe x.pk.ex.length ke, .slice ol x.pk.pl.length kl] 41 (0, 0))) := Lib.hid (by rw [← hW4]; exact blk_new w2 _)
  have B4 := Lib.hid (blk_more M4.out B2.out)
  rw [hW4]
  clear hW4
  go_cut [7, 8, 9] from 21 (fun s7 s8 s9 wx => ∃ C, s7 = .pointer (some ⟨C, 0, none⟩) ∧ s8 = .int .i64 f ∧ s9 = .bool fi ∧ More W4 wx ∧ wx.heap[C]? = some (.cells #[.int .i64 c', .int .i64 s.tgt] 60 (0, 0)) ∧ W4.heap.size ≤ C)
  case first =>
    have L5 : ∀ x : Later W4, x.w'.rangeAt k.L 5 [.int .i64 s.cur, .int .i64 s.tgt] := fun x j v hv => by
      have hb := blk_more x.h B4.out
      match j, hv with
      | 0, hv => exact blk_cell hb 5 hv
      | 1, hv => exact blk_cell hb 6 hv
    have L1 : ∀ y : Later W4, y.w'.cell? ⟨w2.heap.size, 1, none⟩ = some (.int .i64 x.layer) := fun y => blk_cell (blk_more y.h X4.out) 1 rfl
    have L2 : ∀ y : Later W4, y.w'.cell? ⟨w2.heap.size, 2, none⟩ = some (.bool x.key) := fun y => blk_cell (blk_more y.h X4.out) 2 rfl
    refine wp_region_trL W4 17 (.op 0 false (.op 1 false (.op 2 false (.op 3 false (.op 4 false (.op 5 false (.op 6 false (.op 7 false (.br [8, 13] fun k => if k = 8 then .op 9 false (.op 10 false (.op 11 false (.op 12 false (.op 13 true (.op 14 true (.op 15 false (.op 16 false (.done)))))))) else .op 8 true (.op 9 false (.op 10 false (.op 11 false (.op 12 false (.op 14 true (.op 15 false (.op 16 false (.done))))))))))))))))) (by kernel_rfl) (by kernel_rfl) ?_
    iterate 3 (refine tr_quiet rfl rfl (later_mk (by repeat (first | exact More.refl _ | assumption | refine More.dr ?_ _ | refine More.al ?_ _ | refine More.st ?_ (by simp) _))) ?_; intro K hK; go_big_quiet_op; go_big_quiet_on)
    refine tr_load_mid rfl rfl (later_mk (by repeat (first | exact More.refl _ | assumption | refine More.dr ?_ _ | refine More.al ?_ _ | refine More.st ?_ (by simp) _))) 60 (.tmp 24) rfl k.L 5 rfl [.int .i64 s.cur, .int .i64 s.tgt] _ (fun w' hx => by obtain ⟨y, rfl⟩ := hx; exact L5 y) Try.underlying60 rfl (by kernel_rfl) ?_
    intro K hK
    go_simp
    refine hK _ ?_
    clear hK K
    repeat (first | (refine tr_skip rfl rfl (later_mk (by repeat (first | exact More.refl _ | assumption | refine More.dr ?_ _ | refine More.al ?_ _ | refine More.st ?_ (by simp) _))) ?_) | (refine tr_quiet rfl rfl (later_mk (by repeat (first | exact More.refl _ | assumption | refine More.dr ?_ _ | refine More.al ?_ _ | refine More.st ?_ (by simp) _))) ?_; intro K hK; go_big_quiet_op; go_big_quiet_on))
    refine tr_two (by decide) ?_ ?_
    · (refine tr_next rfl rfl ?_; intro K hK; unfold loud; go_simp)
      (with_reducible refine (HTK.out _).mono ?_)
      rintro e w5 ⟨rfl, m5⟩
      have M5 : Hid (More W4 w5) := Lib.hid ((More.drewN _ 1).trans m5)
      clear m5
      refine ⟨_, rfl, later_mk M5.out, hK _ _ ?_⟩
      clear hK K
      repeat (first | (refine tr_skip rfl rfl (later_mk M5.out) ?_) | (refine tr_quiet rfl rfl (later_mk M5.out) ?_; intro K hK; go_big_quiet_op; go_big_quiet_on))
      (refine tr_next rfl rfl ?_; intro K hK; unfold loud; go_simp)
      refine ⟨later_mk (M5.out.al _), hK _ _ ?_⟩
      clear hK K
      (refine tr_next rfl rfl ?_; intro K hK; unfold loud; go_simp)
      refine ⟨later_mk (by repeat (first | exact M5.out.al _ | refine More.st ?_ (by have := M5.out.size; simp; omega) _)), hK _ _ ?_⟩
      clear hK K
      repeat (first | (refine tr_skip rfl rfl (later_mk (by repeat (first | exact M5.out.al _ | refine More.st ?_ (by have := M5.out.size; simp; omega) _))) ?_) | (refine tr_quiet rfl rfl (later_mk (by repeat (first | exact M5.out.al _ | refine More.st ?_ (by have := M5.out.size; simp; omega) _))) ?_; intro K hK; go_big_quiet_op; go_big_quiet_on))
      refine tr_done ?_
      go_wp2
      go_meet
      exact ⟨_, rfl, rfl, rfl, M5.out.al _, blk_new w5 _, M5.out.size⟩
    · (refine tr_next rfl rfl ?_; intro K hK; unfold loud; go_simp)
      refine ⟨later_mk (by repeat (first | exact More.refl _ | assumption | refine More.dr ?_ _ | refine More.al ?_ _ | refine More.st ?_ (by simp) _)), hK _ _ ?_⟩
      clear hK K
      (refine tr_next rfl rfl ?_; intro K hK; unfold loud; go_simp)
      (with_reducible refine (HTK.out _).mono ?_)
      rintro e w5 ⟨rfl, m5⟩
      have M5 : Hid (More W4 w5) := Lib.hid (((More.drewN _ 1).al _).trans m5)
      have C5 : Hid (w5.heap[W4.heap.size]? = some (.cells #[.int .i64 0, .int .i64 0] 60 (0, 0))) := Lib.hid (blk_more m5 (blk_new2 rfl))
      clear m5
      have d0 : w5.cell? ⟨W4.heap.size, 0, none⟩ = some (.int .i64 0) := blk_cell C5.out 0 rfl
      have d1 : w5.cell? ⟨W4.heap.size, 1, none⟩ = some (.int .i64 0) := blk_cell C5.out 1 rfl
      have e0 : w5.frozen? ⟨W4.heap.size, 0, none⟩ = false := blk_free C5.out 0
      have e1 : w5.frozen? ⟨W4.heap.size, 1, none⟩ = false := blk_free C5.out 1
      refine ⟨_, rfl, later_mk M5.out, hK _ _ ?_⟩
      clear hK K
      repeat (first | (refine tr_skip rfl rfl (later_mk M5.out) ?_) | (refine tr_quiet rfl rfl (later_mk M5.out) ?_; intro K hK; go_big_quiet_op; go_big_quiet_on))
      (refine tr_next rfl rfl ?_; intro K hK; unfold loud; go_simp)
      refine ⟨later_mk ((M5.out.st (Nat.le_refl _) _).st (Nat.le_refl _) _), hK _ _ ?_⟩
      clear hK K
      repeat (first | (refine tr_skip rfl rfl (later_mk ((M5.out.st (Nat.le_refl _) _).st (Nat.le_refl _) _)) ?_) | (refine tr_quiet rfl rfl (later_mk ((M5.out.st (Nat.le_refl _) _).st (Nat.le_refl _) _)) ?_; intro K hK; go_big_quiet_op; go_big_quiet_on))
      refine tr_done ?_
      go_wp2
      go_meet
      exact ⟨_, rfl, rfl, rfl, (M5.out.st (Nat.le_refl _) _).st (Nat.le_refl _) _, blk_eq (blk_set (blk_set C5.out 0 _) 1 _) rfl, Nat.le_refl _⟩
  case rest =>
  obtain ⟨C, rfl, rfl, rfl, mx, cx, hC⟩ := hcut
  have MX := Lib.hid mx
  have CX := Lib.hid cx
  have BX := Lib.hid (blk_more mx B4.out)
  have XX := Lib.hid (blk_more mx X4.out)
  clear mx cx
  have hLX : k.L < wc.heap.size := blk_lt BX.out
  have hLC : k.L < C := by have := blk_lt B4.out; omega
  have d0 : wc.cell? ⟨C, 0, none⟩ = some (.int .i64 c') := blk_cell CX.out 0 rfl
  have d1 : wc.cell? ⟨C, 1, none⟩ = some (.int .i64 s.tgt) := blk_cell CX.out 1 rfl
  have c5 : wc.cell? ⟨k.L, 5, none⟩ = some (.int .i64 s.cur) := blk_cell BX.out 5 rfl
  have c6 : wc.cell? ⟨k.L, 6, none⟩ = some (.int .i64 s.tgt) := blk_cell BX.out 6 rfl
  have e5 : wc.frozen? ⟨k.L, 5, none⟩ = false := blk_free BX.out 5
  have e6 : wc.frozen? ⟨k.L, 6, none⟩ = false := blk_free BX.out 6
  have x0 : wc.cell? ⟨w2.heap.size, 0, none⟩ = some (.int .i64 x.id) := blk_cell XX.out 0 rfl
  have hX2 : ¬ w2.heap.size = k.L := by have := blk_lt B2.out; omega
  go_wp2
  refine bodyPost_ret (v := .tuple #[.int .i64 x.id, .int .i64 f, .bool true]) (by simp [results, Try.results14, go_sem]) rfl ?_
  obtain ⟨W6, hW6⟩ : ∃ W6, (wc.setCell ⟨k.L, 5, none⟩ (.int .i64 c')).setCell ⟨k.L, 6, none⟩ (.int .i64 s.tgt) = W6 := ⟨_, rfl⟩
  have A6 : Hid (Away (fun b => b = k.L ∨ RgB k.R1 k.A1 b) w W6) := Lib.hid (by rw [← hW6]; exact ((((A2.out.mono (S' := fun b => b = k.L ∨ RgB k.R1 k.A1 b) fun b hb => Or.inr hb).more (M4.out.trans MX.out)).set (p := ⟨k.L, 5, none⟩) (Or.inl rfl) _).set (p := ⟨k.L, 6, none⟩) (Or.inl rfl) _))
  have B6 : Hid (W6.heap[k.L]? = some (.cells (lnCells k vo { s with A := T, cur := c' }) 76 (0, 0))) := Lib.hid (by rw [← hW6]; exact blk_eq (blk_set (blk_set BX.out 5 _) 6 _) rfl)
  have X6 : Hid (W6.heap[w2.heap.size]? = some (.cells #[.int .i64 x.id, .int .i64 x.layer, .bool x.key, .bool x.pk.mr, .int .u8 x.pk.ty, .int .u16 x.pk.sq, .int .u32 x.pk.st, .int .u32 x.pk.sc, .slice os x.pk.ss.length ks, .bool x.pk.has, .int .u16 x.pk.pr, .slice oe x.pk.ex.length ke, .slice ol x.pk.pl.length kl] 41 (0, 0))) := Lib.hid (by rw [← hW6]; exact blk_other (blk_other XX.out ⟨k.L, 5, none⟩ _ hX2) ⟨k.L, 6, none⟩ _ hX2)
  have E6 : Hid (RgAt 13 148 41 W6 k.R1 k.A1 s.room ((f1 + 1) % s.room) q ci1 _ cd1 cg1 _) := Lib.hid (by
    obtain ⟨⟨d1, d2, _⟩, _⟩ := D1.out
    rw [← hW6]
    exact ((G2.out.more (M4.out.trans MX.out)).away (S := fun b => b = k.L) (((Away.refl (fun b => b = k.L) wc).set (p := ⟨k.L, 5, none⟩) rfl _).set (p := ⟨k.L, 6, none⟩) rfl _) (Ne.symm d1) (Ne.symm d2)))
  rw [hW6]
  clear hW6
  have AS : Away (fun b => b = k.L ∨ RgB k.R1 k.A1 b) w W6 := A6.out
  obtain ⟨⟨d1, d2, d3, d4, d5, d6⟩, ⟨e1, e2, e3, e4, e5⟩, ⟨i1, i2, i3, i4⟩, ⟨j1, j2, j3⟩, ⟨k1, k2⟩, _⟩ := D1.out
  have AM : Away k.muts w W6 := AS.mono fun b hb => by rcases hb with e | e; exact Or.inl e; exact Or.inr (Or.inl e)
  have AE : Away (lnM k vo) w W6 := AM.mono fun b hb => Or.inl hb
  have hv : ∀ b, vo.ownBlock = some b → vo.ownBlock = some b ∨ w.heap.size ≤ b := fun b hb => Or.inl hb
  have hE : ∀ b, (fun b => b = k.L ∨ RgB k.R1 k.A1 b) b → lnE N k vo b := fun b hb => mut_E (by rcases hb with e | e; exact Or.inl e; exact Or.inr (Or.inl e))
  have hok := H.out.ok
  exact ⟨rfl, H.out.make AM.size B6.out ⟨_, _, _, _, _, _, _, E6.out, AQ.out.mono fun c y hy => H.out.held hy AE hv⟩ (H.out.r2.step AS (by rintro (e | e | e) <;> omega) (by rintro (e | e | e) <;> omega) hE fun b hb => Or.inl (lnE_sub H.out.own hv hb)) (H.out.r3.step AS (by rintro (e | e | e) <;> omega) (by rintro (e | e | e) <;> omega) hE fun b hb => Or.inl (lnE_sub H.out.own hv hb)) (H.out.rows AM) ⟨hok.most, hok.row, hok.lt, hok.sq, hok.src⟩, AM.mono fun b hb => H.out.muts b hb⟩
/-- A lane's Choose. -/
theorem choose_ln (h : LnX N w k vo s) : Calls Try.prog 14 #[.pointer (some ⟨k.L, 0, none⟩)] w fun e w' => e = .returned (.tuple #[.int .i64 (chooseP s).2.1, .int .i64 (chooseP s).2.2.1, .bool (chooseP s).2.2.2]) ∧ LnX (Grew N w w') w' k vo (chooseP s).1 ∧ Away N w w' := by
  cases hm : mayP s 1 with
  | false =>
    have e : chooseP s = (s, 0, 0, false) := by unfold chooseP; rw [if_pos hm]
    rw [e]
    refine (choose_ln_no h hm).mono ?_
    rintro e w' ⟨rfl, m⟩
    exact ⟨rfl, h.grow m, Away.of_more m⟩
  | true =>
    cases hA : s.A with
    | nil =>
      have : (decide (0 < s.A.length) && decide (¬ s.B.length = s.room)) = true := hm
      rw [hA] at this
      simp at this
    | cons x T =>
      have e : chooseP s = ({ s with A := T, cur := (takeP s.cur s.tgt x.layer x.key).1, B := if (takeP s.cur s.tgt x.layer x.key).2.1 = 0 then s.B ++ [(x, (takeP s.cur s.tgt x.layer x.key).2.2)] else s.B }, x.id, (takeP s.cur s.tgt x.layer x.key).2.1, true) := by
        unfold chooseP
        rw [if_neg (by rw [hm]; decide), hA]
      rw [e]
      rcases ht : takeP s.cur s.tgt x.layer x.key with ⟨c', f, fi⟩
      by_cases hf : f = 0
      · simp only [hf, if_true]
        rw [hf] at ht
        exact choose_ln_in h hm x T hA c' 0 fi ht rfl
      · simp only [hf, if_false]
        exact choose_ln_out h hm x T hA c' f fi ht (by simpa using hf)
end
end Go.Proofs.Ytdgmmffedhikcaa
