/- Merged from my texts LaneR, LaneS. -/
import Derived.Test.YtdgmmffedhikcaaMg17
/- A lane's calls that only look: Gone, May, State, Lens. -/
namespace Go.Proofs.Ytdgmmffedhikcaa
set_option linter.unusedSimpArgs false
set_option linter.unusedVariables false
open Go.RowKit
set_option maxRecDepth 100000

theorem lnRes1 {P : Program} {fn : Func} {p : Tmp} {ty : TypeId} (h : fn.results = #[.cell p ty]) (tmps : Array Value) (w : World) (g : Nat) (t : TypeId) (cs : Array Value) (d : TypeDesc)
    (hp : tmps.getD p undef = .pointer (some ⟨g, 0, none⟩)) (hg : w.heap[g]? = some (.cells cs t (0, 0)))
    (hu : P.underlying ty = some d) (hd : (match d with | .struct _ | .array _ _ => true | _ => false) = true) (hi : (P.info? ty).map (·.size) = some cs.size) :
    (results fn tmps).run P w = .ok (.agg cs) w := by
  have hp' : tmps[p]?.getD undef = .pointer (some ⟨g, 0, none⟩) := by simpa using hp
  simp [results, h, hp', asAddr, run_loadVar_row w g t ty cs (0, 0) d hg hu hd hi]
section
variable {N : Nat → Prop} {w : World} {k : LnB} {vo : Value} {s : LnS}
theorem gone_ln (h : LnX N w k vo s) : Calls Try.prog 18 #[.pointer (some ⟨k.L, 0, none⟩)] w fun e w' => e = .returned (.bool s.gone) ∧ More w w' := by
  have c15 : w.cell? ⟨k.L, 15, none⟩ = some (.bool s.gone) := blk_cell h.blk 15 rfl
  clear h
  go_enter Try.func18, Try.ntmps18
  go_wp2
  go_ret
  exact ⟨rfl, (by repeat (first | exact More.refl _ | assumption | refine More.dr ?_ _ | refine More.al ?_ _ | refine More.st ?_ (by simp) _))⟩
theorem len1_ln (h : LnX N w k vo s) {w' : World} (m : More w w') : Calls Try.prog 36 #[.pointer (some ⟨k.R1, 0, none⟩)] w' fun e w'' => e = .returned (.int .i64 s.A.length) ∧ w'' = w' := by
  obtain ⟨f, q, ci, co, cd, cg, css, h1, h2⟩ := (h.on m).r1
  rw [← h2.len]
  exact lenI h1
theorem len2_ln (h : LnX N w k vo s) {w' : World} (m : More w w') : Calls Try.prog 37 #[.pointer (some ⟨k.R2, 0, none⟩)] w' fun e w'' => e = .returned (.int .i64 s.B.length) ∧ w'' = w' := by
  obtain ⟨f, q, ci, co, cd, cg, css, h1, h2⟩ := (h.on m).r2
  rw [← h2.len]
  exact lenC h1
theorem len3_ln (h : LnX N w k vo s) {w' : World} (m : More w w') : Calls Try.prog 38 #[.pointer (some ⟨k.R3, 0, none⟩)] w' fun e w'' => e = .returned (.int .i64 s.C.length) ∧ w'' = w' := by
  obtain ⟨f, q, ci, co, cd, cg, css, h1, h2⟩ := (h.on m).r3
  rw [← h2.len]
  exact lenO h1
theorem full2_ln (h : LnX N w k vo s) {w' : World} (m : More w w') : Calls Try.prog 56 #[.pointer (some ⟨k.R2, 0, none⟩)] w' fun e w'' => e = .returned (.bool (decide (s.B.length = s.room))) ∧ More w' w'' := by
  obtain ⟨f, q, ci, co, cd, cg, css, h1, h2⟩ := (h.on m).r2
  rw [← h2.len]
  refine (fullC h1).mono ?_
  rintro e w'' ⟨rfl, n, rfl⟩
  exact ⟨rfl, (More.refl _).dr n⟩
theorem may1_ln (h : LnX N w k vo s) : Calls Try.prog 20 #[.pointer (some ⟨k.L, 0, none⟩), .int .i64 1] w fun e w' => e = .returned (.bool (mayP s 1)) ∧ More w w' := by
  have c1 : w.cell? ⟨k.L, 1, none⟩ = some (.pointer (some ⟨k.R1, 0, none⟩)) := blk_cell h.blk 1 rfl
  have c2 : w.cell? ⟨k.L, 2, none⟩ = some (.pointer (some ⟨k.R2, 0, none⟩)) := blk_cell h.blk 2 rfl
  have hm : mayP s 1 = (decide (0 < s.A.length) && decide (¬ s.B.length = s.room)) := rfl
  have H1 := Lib.hid (len1_ln h (More.refl w))
  have H2 := Lib.hid (full2_ln h (More.refl w))
  rw [hm]
  clear h hm
  obtain ⟨b, hb⟩ : ∃ b, decide (s.B.length = s.room) = b := ⟨_, rfl⟩
  rw [hb] at H2
  have hb2 : decide (¬ s.B.length = s.room) = !b := by rw [← hb]; simp
  rw [hb2]
  clear hb hb2
  by_cases hl : 0 < s.A.length
  · have hl' : (0 : Int) < (s.A.length : Int) := by omega
    have hd : decide (0 < s.A.length) = true := by simp; omega
    rw [hd]
    go_enter Try.func20, Try.ntmps20
    go_wp2_with (first | (go_at_call 36; ((with_reducible refine (H1.out).mono ?_); rintro e w1 ⟨rfl, rfl⟩)) | (go_at_call 56; ((with_reducible refine (H2.out).mono ?_); rintro e w2 ⟨rfl, m2⟩)))
    all_goals (go_ret; first | exact ⟨by simp, m2⟩ | exact ⟨by simp, More.refl _⟩)
  · have hl' : ¬ (0 : Int) < (s.A.length : Int) := by omega
    have hd : decide (0 < s.A.length) = false := decide_eq_false hl
    rw [hd]
    go_enter Try.func20, Try.ntmps20
    go_wp2_with (first | (go_at_call 36; ((with_reducible refine (H1.out).mono ?_); rintro e w1 ⟨rfl, rfl⟩)) | (go_at_call 56; ((with_reducible refine (H2.out).mono ?_); rintro e w2 ⟨rfl, m2⟩)))
    all_goals (go_ret; first | exact ⟨by simp, m2⟩ | exact ⟨by simp, More.refl _⟩)
theorem may2_ln (h : LnX N w k vo s) : Calls Try.prog 20 #[.pointer (some ⟨k.L, 0, none⟩), .int .i64 2] w fun e w' => e = .returned (.bool (mayP s 2)) ∧ More w w' := by
  have c2 : w.cell? ⟨k.L, 2, none⟩ = some (.pointer (some ⟨k.R2, 0, none⟩)) := blk_cell h.blk 2 rfl
  have hm : mayP s 2 = decide (0 < s.B.length) := rfl
  have H1 := Lib.hid (len2_ln h (More.refl w))
  rw [hm]
  clear h hm
  go_enter Try.func20, Try.ntmps20
  go_wp2_with (go_at_call 37; ((with_reducible refine (H1.out).mono ?_); rintro e w1 ⟨rfl, rfl⟩))
  go_ret
  exact ⟨by simp, More.refl _⟩
theorem may3_ln (h : LnX N w k vo s) : Calls Try.prog 20 #[.pointer (some ⟨k.L, 0, none⟩), .int .i64 3] w fun e w' => e = .returned (.bool (mayP s 3)) ∧ More w w' := by
  have c3 : w.cell? ⟨k.L, 3, none⟩ = some (.pointer (some ⟨k.R3, 0, none⟩)) := blk_cell h.blk 3 rfl
  have hm : mayP s 3 = decide (0 < s.C.length) := rfl
  have H1 := Lib.hid (len3_ln h (More.refl w))
  rw [hm]
  clear h hm
  go_enter Try.func20, Try.ntmps20
  go_wp2_with (go_at_call 38; ((with_reducible refine (H1.out).mono ?_); rintro e w1 ⟨rfl, rfl⟩))
  go_ret
  exact ⟨by simp, More.refl _⟩
set_option maxHeartbeats 1000000 in
theorem lens_ln (h : LnX N w k vo s) : Calls Try.prog 12 #[.pointer (some ⟨k.L, 0, none⟩)] w fun e w' => e = .returned (.agg #[.int .i64 s.A.length, .int .i64 s.B.length, .int .i64 s.C.length]) ∧ More w w' := by
  have H := Lib.hid h
  have hL : k.L < w.heap.size := blk_lt h.blk
  clear h
  go_enter Try.func12, Try.ntmps12
  go_wp2
  obtain ⟨W1, hW1⟩ : ∃ W1, w.alloc (.cells #[.int .i64 0, .int .i64 0, .int .i64 0] 44) = W1 := ⟨_, rfl⟩
  have M1 : Hid (More w W1) := Lib.hid (by rw [← hW1]; exact More.alloc _ _)
  have B1 : Hid (W1.heap[w.heap.size]? = some (.cells #[.int .i64 0, .int .i64 0, .int .i64 0] 44 (0, 0))) := Lib.hid (by rw [← hW1]; exact blk_new w _)
  rw [hW1]
  clear hW1
  have c1 : ∀ x : Later W1, x.w'.cell? ⟨k.L, 1, none⟩ = some (.pointer (some ⟨k.R1, 0, none⟩)) := fun x => blk_cell (blk_more (M1.out.trans x.h) H.out.blk) 1 rfl
  have c2 : ∀ x : Later W1, x.w'.cell? ⟨k.L, 2, none⟩ = some (.pointer (some ⟨k.R2, 0, none⟩)) := fun x => blk_cell (blk_more (M1.out.trans x.h) H.out.blk) 2 rfl
  have c3 : ∀ x : Later W1, x.w'.cell? ⟨k.L, 3, none⟩ = some (.pointer (some ⟨k.R3, 0, none⟩)) := fun x => blk_cell (blk_more (M1.out.trans x.h) H.out.blk) 3 rfl
  refine wp_region_num W1 16 [(0, false), (1, false), (2, false), (3, false), (5, false), (6, false), (7, false), (8, false), (10, false), (11, false), (12, false), (13, false), (4, true), (9, true), (14, true), (15, false), (16, true)] (by kernel_rfl) (by kernel_rfl) ?_
  iterate 12 (refine num_quiet rfl rfl (later_mk (by repeat (first | exact More.refl _ | assumption | refine More.dr ?_ _ | refine More.al ?_ _ | refine More.st ?_ (by simp) _))) ?_; intro K hK; go_big_quiet_op; go_big_quiet_on)
  (refine num_next rfl rfl ?_; intro K hK; unfold loud; go_simp)
  (with_reducible refine (len1_ln H.out (M1.out.dr 1)).mono ?_)
  rintro e w2 ⟨rfl, rfl⟩
  refine ⟨_, rfl, later_mk (by repeat (first | exact More.refl _ | assumption | refine More.dr ?_ _ | refine More.al ?_ _ | refine More.st ?_ (by simp) _)), hK _ _ ?_⟩
  clear hK K
  (refine num_next rfl rfl ?_; intro K hK; unfold loud; go_simp)
  (with_reducible refine (len2_ln H.out (M1.out.dr 1)).mono ?_)
  rintro e w2 ⟨rfl, rfl⟩
  refine ⟨_, rfl, later_mk (by repeat (first | exact More.refl _ | assumption | refine More.dr ?_ _ | refine More.al ?_ _ | refine More.st ?_ (by simp) _)), hK _ _ ?_⟩
  clear hK K
  (refine num_next rfl rfl ?_; intro K hK; unfold loud; go_simp)
  (with_reducible refine (len3_ln H.out (M1.out.dr 1)).mono ?_)
  rintro e w2 ⟨rfl, rfl⟩
  refine ⟨_, rfl, later_mk (by repeat (first | exact More.refl _ | assumption | refine More.dr ?_ _ | refine More.al ?_ _ | refine More.st ?_ (by simp) _)), hK _ _ ?_⟩
  clear hK K
  iterate 1 (refine num_quiet rfl rfl (later_mk (by repeat (first | exact More.refl _ | assumption | refine More.dr ?_ _ | refine More.al ?_ _ | refine More.st ?_ (by simp) _))) ?_; intro K hK; go_big_quiet_op; go_big_quiet_on)
  refine num_end rfl rfl (by decide) ?_
  intro K hK
  refine loud_store_all 44 (.tmp 2) (.tmp 18) rfl w.heap.size 44 _ #[.int .i64 s.A.length, .int .i64 s.B.length, .int .i64 s.C.length] rfl rfl (blk_drewN B1.out 1) (by kernel_rfl) rfl (all_oneCell_toArray (by simp [Value.oneCell'])) ?_
  refine ⟨trivial, ?_⟩
  go_simp
  refine hK _ _ ?_
  clear hK K
  refine num_nil ?_
  go_wp2
  refine bodyPost_ret (v := .agg #[.int .i64 s.A.length, .int .i64 s.B.length, .int .i64 s.C.length]) (lnRes1 Try.results12 _ _ w.heap.size 44 #[.int .i64 s.A.length, .int .i64 s.B.length, .int .i64 s.C.length] _ rfl (lnBlk (blk_drewN B1.out 1) _) Try.underlying44 rfl (by kernel_rfl)) rfl ?_
  exact ⟨rfl, (lnAway _ _ _).to_more (M1.out.dr 1) (fun k e => by rw [e]; exact Nat.le_refl _)⟩
set_option maxHeartbeats 1000000 in
theorem state_ln (h : LnX N w k vo s) : Calls Try.prog 21 #[.pointer (some ⟨k.L, 0, none⟩)] w fun e w' => e = .returned (.tuple #[.agg #[.int .i64 s.cur, .int .i64 s.tgt], .bool s.wanted]) ∧ More w w' := by
  have H := Lib.hid h
  have hL : k.L < w.heap.size := blk_lt h.blk
  clear h
  go_enter Try.func21, Try.ntmps21
  go_wp2
  obtain ⟨W1, hW1⟩ : ∃ W1, w.alloc (.cells #[.int .i64 0, .int .i64 0] 60) = W1 := ⟨_, rfl⟩
  have M1 : Hid (More w W1) := Lib.hid (by rw [← hW1]; exact More.alloc _ _)
  have B1 : Hid (W1.heap[w.heap.size]? = some (.cells #[.int .i64 0, .int .i64 0] 60 (0, 0))) := Lib.hid (by rw [← hW1]; exact blk_new w _)
  rw [hW1]
  clear hW1
  have c4 : ∀ x : LaterS (fun b => b = w.heap.size) W1, x.w'.cell? ⟨k.L, 4, none⟩ = some (.bool s.wanted) := fun x => blk_cell (x.h.blk (blk_more M1.out H.out.blk) (by omega)) 4 rfl
  have HG : ∀ x : LaterS (fun b => b = w.heap.size) W1, x.w'.rangeAt k.L 5 [.int .i64 s.cur, .int .i64 s.tgt] := fun x j v hv => by
    have hb := x.h.blk (blk_more M1.out H.out.blk) (show ¬ k.L = w.heap.size by omega)
    match j, hv with
    | 0, hv => exact blk_cell hb 5 hv
    | 1, hv => exact blk_cell hb 6 hv
  refine wp_region_numS (fun b => b = w.heap.size) W1 10 [(0, false), (1, false), (2, false), (3, false), (4, false), (5, false), (6, false), (7, false), (8, true), (9, false)] (by kernel_rfl) (by kernel_rfl) ?_
  iterate 3 (refine num_quiet rfl rfl (laterS_mk (by repeat (first | exact Away.refl _ _ | assumption | refine Away.drewN ?_ _ | refine Away.set ?_ (by first | rfl | exact Or.inl rfl | exact Or.inr rfl) _))) ?_; intro K hK; go_big_quiet_op; go_big_quiet_on)
  refine num_load_mid rfl rfl (laterS_mk (by repeat (first | exact Away.refl _ _ | assumption | refine Away.drewN ?_ _ | refine Away.set ?_ (by first | rfl | exact Or.inl rfl | exact Or.inr rfl) _))) 60 (.tmp 6) rfl k.L 5 rfl [.int .i64 s.cur, .int .i64 s.tgt] _ (fun w' hx => by obtain ⟨x, rfl⟩ := hx; exact HG x) Try.underlying60 rfl (by kernel_rfl) ?_
  intro K hK
  go_simp
  refine hK _ ?_
  clear hK K
  iterate 4 (refine num_quiet rfl rfl (laterS_mk (by repeat (first | exact Away.refl _ _ | assumption | refine Away.drewN ?_ _ | refine Away.set ?_ (by first | rfl | exact Or.inl rfl | exact Or.inr rfl) _))) ?_; intro K hK; go_big_quiet_op; go_big_quiet_on)
  refine num_next rfl rfl ?_
  intro K hK
  refine loud_store_all 60 (.tmp 2) (.tmp 7) rfl w.heap.size 60 _ #[.int .i64 s.cur, .int .i64 s.tgt] rfl rfl (blk_drewN B1.out 1) (by kernel_rfl) rfl (all_oneCell_toArray (by simp [Value.oneCell'])) ?_
  refine ⟨laterS_mk (((Away.refl (fun b => b = w.heap.size) W1).drewN 1).row (g := w.heap.size) rfl _), ?_⟩
  go_simp
  refine hK _ _ ?_
  clear hK K
  iterate 1 (refine num_quiet rfl rfl (laterS_mk (((Away.refl (fun b => b = w.heap.size) W1).drewN 1).row (g := w.heap.size) rfl _)) ?_; intro K hK; go_big_quiet_op; go_big_quiet_on)
  refine num_nil ?_
  go_wp2
  refine bodyPost_ret (v := .tuple #[.agg #[.int .i64 s.cur, .int .i64 s.tgt], .bool s.wanted]) (lnRes2 Try.results21 _ _ w.heap.size 60 #[.int .i64 s.cur, .int .i64 s.tgt] _ _ rfl rfl (lnBlk (blk_drewN B1.out 1) _) Try.underlying60 rfl (by kernel_rfl)) rfl ?_
  exact ⟨rfl, (lnAway _ _ _).to_more (M1.out.dr 1) (fun k e => by rw [e]; exact Nat.le_refl _)⟩
end
end Go.Proofs.Ytdgmmffedhikcaa
/- A lane's Want. (printed by gen_laneS.py) -/
namespace Go.Proofs.Ytdgmmffedhikcaa
set_option linter.unusedSimpArgs false
set_option linter.unusedVariables false
open Go.RowKit
set_option maxRecDepth 100000

section
variable {N : Nat → Prop} {w w' : World} {k : LnB} {vo : Value} {s s' : LnS}
/-- Only the lane's own variable is written. -/
theorem LnX.setL (h : LnX N w k vo s) (a : Away (fun b => b = k.L) w w') (blk : w'.heap[k.L]? = some (.cells (lnCells k vo s') 76 (0, 0)))
    (e : s'.room = s.room ∧ s'.A = s.A ∧ s'.B = s.B ∧ s'.C = s.C ∧ s'.W = s.W) (ok : LnOK s') : LnX (Grew N w w') w' k vo s' := by
  obtain ⟨⟨d1, d2, d3, d4, d5, d6⟩, _⟩ := h.dist
  obtain ⟨e1, e2, e3, e4, e5⟩ := e
  have hE : ∀ b, b = k.L → lnE N k vo b := fun b hb => mut_E (Or.inl hb)
  have hs : ∀ b, lnE (Grew N w w') k vo b → lnE N k vo b ∨ w'.heap.size ≤ b := fun b hb => Or.inl (lnE_sub h.own (fun _ e => Or.inl e) hb)
  refine h.make a.size blk ?_ ?_ ?_ ?_ ok
  · rw [e1, e2]; exact h.r1.step a (Ne.symm d1) (Ne.symm d2) hE hs
  · rw [e1, e3]; exact h.r2.step a (Ne.symm d3) (Ne.symm d4) hE hs
  · rw [e1, e4]; exact h.r3.step a (Ne.symm d5) (Ne.symm d6) hE hs
  · rw [e5]; exact h.rows (a.mono fun b hb => Or.inl hb)
set_option maxHeartbeats 1000000 in
theorem want_ln (h : LnX N w k vo s) (n : Int) : Calls Try.prog 17 #[.pointer (some ⟨k.L, 0, none⟩), .int .i64 n] w fun e w' => e = .returned (.int .i64 (wantP s n).2) ∧ LnX (Grew N w w') w' k vo (wantP s n).1 ∧ Away N w w' := by
  have H := Lib.hid h
  have hL : k.L < w.heap.size := blk_lt h.blk
  cases ht : thereL n with
  | false =>
    have HT := Lib.hid ht
    have e1 : wantP s n = (s, 1) := by unfold wantP; rw [if_pos ht]
    rw [e1]
    clear e1 ht h
    go_enter Try.func17, Try.ntmps17
    go_wp2_with (go_at_call 39; ((with_reducible refine (there_lane n _).mono ?_); rintro e w1 ⟨rfl, rfl⟩; rw [HT.out]))
    go_ret
    exact ⟨rfl, H.out.grow (More.refl _), Away.refl _ _⟩
  | true =>
    have HT := Lib.hid ht
    cases hg : s.gone with
    | true =>
      have e1 : wantP s n = (s, 7) := by unfold wantP; rw [if_neg (by rw [ht]; decide), if_pos hg]
      have HG := gone_ln h
      rw [hg] at HG
      have HG := Lib.hid HG
      rw [e1]
      clear e1 ht h hg
      go_enter Try.func17, Try.ntmps17
      go_wp2_with (first | (go_at_call 39; ((with_reducible refine (there_lane n _).mono ?_); rintro e w1 ⟨rfl, rfl⟩; rw [HT.out])) | (go_at_call 18; ((with_reducible refine (HG.out).mono ?_); rintro e w2 ⟨rfl, m2⟩; have M2 := Lib.hid m2; clear m2)))
      go_ret
      exact ⟨rfl, H.out.grow M2.out, Away.of_more M2.out⟩
    | false =>
      have e1 : wantP s n = ({ s with wanted := true, cur := if s.wanted then s.cur else -1, tgt := n }, 0) := by unfold wantP; rw [if_neg (by rw [ht]; decide), if_neg (by rw [hg]; decide)]
      have HG := gone_ln h
      rw [hg] at HG
      have HG := Lib.hid HG
      rw [e1]
      clear e1 ht h hg
      cases hw : s.wanted with
      | true =>
        have HW := Lib.hid hw
        clear hw
        go_enter Try.func17, Try.ntmps17
        go_wp2_with (first | (go_at_call 39; ((with_reducible refine (there_lane n _).mono ?_); rintro e w1 ⟨rfl, e1⟩; subst w1; rw [HT.out])) | (go_at_call 18; ((with_reducible refine (HG.out).mono ?_); rintro e w2 ⟨rfl, m2⟩; have M2 := Lib.hid m2; have B2 := Lib.hid (blk_more m2 H.out.blk); clear m2; have c4 : w2.cell? ⟨k.L, 4, none⟩ = some (.bool true) := (by rw [← HW.out]; exact blk_cell B2.out 4 rfl); have c5 : w2.cell? ⟨k.L, 5, none⟩ = some (.int .i64 s.cur) := blk_cell B2.out 5 rfl; have c6 : w2.cell? ⟨k.L, 6, none⟩ = some (.int .i64 s.tgt) := blk_cell B2.out 6 rfl)) | (go_at_call 54; ((with_reducible refine (want_choose s.cur s.tgt n HT.out _).mono ?_); rintro e w3 ⟨rfl, m3⟩; have M3 : Hid (More w w3) := Lib.hid (M2.out.trans m3); have B3 := Lib.hid (blk_more m3 B2.out); clear m3; have c5 : w3.cell? ⟨k.L, 5, none⟩ = some (.int .i64 s.cur) := blk_cell B3.out 5 rfl; have c6 : w3.cell? ⟨k.L, 6, none⟩ = some (.int .i64 s.tgt) := blk_cell B3.out 6 rfl; have c4 : w3.cell? ⟨k.L, 4, none⟩ = some (.bool s.wanted) := blk_cell B3.out 4 rfl; have f4 : w3.frozen? ⟨k.L, 4, none⟩ = false := blk_free B3.out 4; have f5 : w3.frozen? ⟨k.L, 5, none⟩ = false := blk_free B3.out 5; have f6 : w3.frozen? ⟨k.L, 6, none⟩ = false := blk_free B3.out 6)))
        go_ret
        have A : Away (fun b => b = k.L) w (((w3.setCell ⟨k.L, 5, none⟩ (.int .i64 s.cur)).setCell ⟨k.L, 6, none⟩ (.int .i64 n)).setCell ⟨k.L, 4, none⟩ (.bool true)) := (((Away.of_more (S := fun b => b = k.L) M3.out).set (p := ⟨k.L, 5, none⟩) rfl _).set (p := ⟨k.L, 6, none⟩) rfl _).set (p := ⟨k.L, 4, none⟩) rfl _
        have hok := H.out.ok
        exact ⟨rfl, H.out.setL A (blk_eq (blk_set (blk_set (blk_set B3.out 5 _) 6 _) 4 _) (by rfl)) ⟨rfl, rfl, rfl, rfl, rfl⟩ ⟨hok.most, hok.row, hok.lt, hok.sq, hok.src⟩, A.mono fun b hb => by rw [hb]; exact H.out.muts _ (Or.inl rfl)⟩
      | false =>
        have HW := Lib.hid hw
        clear hw
        go_enter Try.func17, Try.ntmps17
        go_wp2_with (first | (go_at_call 39; ((with_reducible refine (there_lane n _).mono ?_); rintro e w1 ⟨rfl, e1⟩; subst w1; rw [HT.out])) | (go_at_call 18; ((with_reducible refine (HG.out).mono ?_); rintro e w2 ⟨rfl, m2⟩; have M2 := Lib.hid m2; have B2 := Lib.hid (blk_more m2 H.out.blk); clear m2; have c4 : w2.cell? ⟨k.L, 4, none⟩ = some (.bool false) := (by rw [← HW.out]; exact blk_cell B2.out 4 rfl); have c5 : w2.cell? ⟨k.L, 5, none⟩ = some (.int .i64 s.cur) := blk_cell B2.out 5 rfl; have c6 : w2.cell? ⟨k.L, 6, none⟩ = some (.int .i64 s.tgt) := blk_cell B2.out 6 rfl)) | (go_at_call 55; ((with_reducible refine (start_choose n HT.out _).mono ?_); rintro e w3 ⟨rfl, m3⟩; have M3 : Hid (More w w3) := Lib.hid (M2.out.trans m3); have B3 := Lib.hid (blk_more m3 B2.out); clear m3; have c5 : w3.cell? ⟨k.L, 5, none⟩ = some (.int .i64 s.cur) := blk_cell B3.out 5 rfl; have c6 : w3.cell? ⟨k.L, 6, none⟩ = some (.int .i64 s.tgt) := blk_cell B3.out 6 rfl; have c4 : w3.cell? ⟨k.L, 4, none⟩ = some (.bool s.wanted) := blk_cell B3.out 4 rfl; have f4 : w3.frozen? ⟨k.L, 4, none⟩ = false := blk_free B3.out 4; have f5 : w3.frozen? ⟨k.L, 5, none⟩ = false := blk_free B3.out 5; have f6 : w3.frozen? ⟨k.L, 6, none⟩ = false := blk_free B3.out 6)))
        go_ret
        have A : Away (fun b => b = k.L) w (((w3.setCell ⟨k.L, 5, none⟩ (.int .i64 (-1))).setCell ⟨k.L, 6, none⟩ (.int .i64 n)).setCell ⟨k.L, 4, none⟩ (.bool true)) := (((Away.of_more (S := fun b => b = k.L) M3.out).set (p := ⟨k.L, 5, none⟩) rfl _).set (p := ⟨k.L, 6, none⟩) rfl _).set (p := ⟨k.L, 4, none⟩) rfl _
        have hok := H.out.ok
        exact ⟨rfl, H.out.setL A (blk_eq (blk_set (blk_set (blk_set B3.out 5 _) 6 _) 4 _) (by rfl)) ⟨rfl, rfl, rfl, rfl, rfl⟩ ⟨hok.most, hok.row, hok.lt, hok.sq, hok.src⟩, A.mono fun b hb => by rw [hb]; exact H.out.muts _ (Or.inl rfl)⟩
end
end Go.Proofs.Ytdgmmffedhikcaa
