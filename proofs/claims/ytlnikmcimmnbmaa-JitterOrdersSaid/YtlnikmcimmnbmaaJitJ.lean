/- Package jitter: Push takes a thing. -/
import Derived.Test.YtlnikmcimmnbmaaJitI
namespace Go.Proofs.Ytlnikmcimmnbmaa
set_option linter.unusedSimpArgs false
set_option linter.unusedVariables false
open Go.RowKit Go.Lib
set_option maxRecDepth 100000

theorem push_end {w w10 w13 : World} {R : Nat} {b : Jb} {h : Hd} {oa : Option Addr} {cap : Nat} {v' : Value} (H10 : BufAt w10 R (.slice oa b.holds.length cap) b) (M10 : More w w10) (hR : R < w.heap.size)
    (A13 : Away (fun k => (Value.slice oa b.holds.length cap).ownBlock = some k) w10 w13) (r13 : HRow w13 (R + 1) v' (insJ b.holds h)) (o13 : v'.ownBlock = (Value.slice oa b.holds.length cap).ownBlock ∨ ∃ g, v'.ownBlock = some g ∧ w.heap.size ≤ g) :
    BStep w (w13.setCell ⟨R, 2, none⟩ v') R (.slice oa b.holds.length cap) v' { b with holds := insJ b.holds h } := by
  have hno : (Value.slice oa b.holds.length cap).ownBlock ≠ some R := fun e => by have := (H10.row.own_ge e).1; omega
  have hno' : v'.ownBlock ≠ some R := fun e => by have := (r13.own_ge e).1; omega
  have a14 : Away (fun k => k = R) w13 (w13.setCell ⟨R, 2, none⟩ v') := (Away.refl (fun k => k = R) w13).set (p := ⟨R, 2, none⟩) rfl v'
  refine ⟨⟨blk_eq (blk_set (A13.blk H10.blk hno) 2 v') rfl, r13.away a14 (fun k hk x => hno' (by rw [← x]; exact hk))⟩, ?_, o13⟩
  exact Away.old M10 ((A13.mono fun k hk => Or.inr hk).trans (a14.mono fun k hk => Or.inl hk)) fun k hk => Or.inl hk
set_option maxHeartbeats 8000000 in
theorem Push_take_ti (b : Jb) (ok : JOK b) (R : Nat) (v : Value) (n now x : Int) (hn : Num60 n) (w : World) (H : BufAt w R v b) (hbg : b.begun = true) (hs : sameJ b n = false) (hkn : know b.hi b.bits n = false) (hlt : ¬ n < b.hi + 1) (hf : ¬ b.room ≤ b.holds.length) (hidx : idxJ (fun k => decide (n < k.1)) b.holds = (atJ b.holds n : Int) ∧ atJ b.holds n < b.holds.length) :
    Calls Try.prog 55 #[.pointer (some ⟨R, 0, none⟩), .int .i64 n, .int .i64 now, .int .i64 x] w fun er w' => er = .returned (.int .i64 0) ∧ ∃ v', BStep w w' R v v' { b with holds := insJ b.holds (n, now, x) } := by
  have HN8 : Hid (b.holds.length ≤ 8) := Lib.hid (by have := ok.fits; have := ok.room; omega)
  have hm := num60_mid hn
  have hmh := num60_mid ok.hi
  obtain ⟨hh0, hh1⟩ := ok.hi
  obtain ⟨hn0, hn1⟩ := hn
  have HU := Lib.hid ok.bits
  have H1 := Lib.hid (H.on (More.alloc w (.cells #[.int .i64 n] 2)))
  have n1 := blk_new w (.cells #[.int .i64 n] 2)
  have NB := Lib.hid n1
  have HNX := Lib.hid (Next_any b R v _ H1.out ok.hi)
  have MA := Lib.hid (More.alloc w (.cells #[.int .i64 n] 2))
  have EG : ∀ args w, (callFunc 115 args).run Try.prog w = .ok (.enter 115 args) w := fun args w => by kernel_rfl
  have EG2 : ∀ args w, (callFunc 116 args).run Try.prog w = .ok (.enter 116 args) w := fun args w => by kernel_rfl
  have HL : Hid (Looks 115 #[.pointer (some ⟨w.heap.size, 0, none⟩)] (fun k => k.1 == n) b.holds (w.alloc (.cells #[.int .i64 n] 2))) := Lib.hid fun W' y _ m => SameN_any n _ y W' (blk_more m n1)
  obtain ⟨_, _, c2, _, _, _⟩ := H1.out.cells ⟨_, More.refl _⟩
  have hSz : w.heap.size ≠ R := fun e => by have := lt_of_block H.blk; omega
  obtain ⟨oa, cap, rfl, hl63⟩ := H.row.shape
  have HBG := Lib.hid hbg
  have HSM : Hid ((b.holds.any fun k => k.1 == n) = false) := Lib.hid hs
  have HNO : Hid ((Value.slice oa b.holds.length cap).ownBlock ≠ some w.heap.size) := Lib.hid (fun e => by have := (H.row.own_ge e).2; omega)
  have HRw := Lib.hid (lt_of_block H.blk)
  clear H n1 hbg hs
  go_enter Try.func55, Try.ntmps55
  go_wp2_with (first | (go_at_call 113; ((with_reducible refine (HNX.out).mono ?_); rintro e1 w1 ⟨rfl, rfl⟩; rw [HBG.out])) | (go_at_call 117; ((with_reducible refine (ContainsFunc_any _ _ (fun k => k.1 == n) EG b.holds _ (R + 1) _ H1.out.row HL.out).mono ?_); rintro e2 w2 ⟨rfl, m2⟩; rw [HSM.out]; have H2 := Lib.hid (H1.out.on m2); have NB2 := Lib.hid (blk_more m2 NB.out); have M2 := Lib.hid (MA.out.trans m2); clear m2)))
  clear HL c2 EG HNX
  generalize hB5 : w.heap.size = B5 at *
  have HB5 := Lib.hid hB5
  clear hB5
  have d0 : ∀ x : Later w2, x.w'.cell? ⟨B5, 0, none⟩ = some (.int .i64 n) := fun x => blk_cell (blk_more x.h NB2.out) 0 rfl
  have c4 : ∀ x : Later w2, x.w'.cell? ⟨R, 4, none⟩ = some (.int .i64 b.hi) := fun x => (H2.out.cells x).2.2.2.2.1
  have c5 : ∀ x : Later w2, x.w'.cell? ⟨R, 5, none⟩ = some (.int .u64 b.bits) := fun x => (H2.out.cells x).2.2.2.2.2
  refine wp_region_later w2 (More.refl _) (by kernel_rfl) (by kernel_rfl) ?_
  have HHS : Hid (∀ W : World, Calls Try.prog 118 #[.agg #[.int .i64 b.hi, .int .u64 b.bits], .int .i64 n] W fun e w' => e = .returned (.bool false) ∧ More W w') := Lib.hid fun W => by rw [← hkn]; exact Has_any b.hi b.bits n hmh hm HU.out W
  repeat (go_big_quiet_step ((go_at_call 118; with_reducible exact calls_later (HHS.out _))))
  refine wpQuiet_nil ?_
  intro _ hw'
  obtain ⟨x5, rfl⟩ := hw'
  have H5 := Lib.hid (H2.out.on x5.h)
  have NB5 := Lib.hid (blk_more x5.h NB2.out)
  have M5 := Lib.hid (M2.out.trans x5.h)
  have d5 := blk_cell NB5.out 0 rfl
  clear d0 c4 c5
  generalize x5.w' = w5 at *
  go_wp2_with fail
  have c0 : ∀ x : Later w5, x.w'.cell? ⟨R, 0, none⟩ = some (.int .i64 b.room) := fun x => (H5.out.cells x).1
  have c2 : ∀ x : Later w5, x.w'.cell? ⟨R, 2, none⟩ = some (.slice oa b.holds.length cap) := fun x => (H5.out.cells x).2.2.1
  refine wp_region_later w5 (More.refl _) (by kernel_rfl) (by kernel_rfl) ?_
  repeat (go_big_quiet_step (fail))
  refine wpQuiet_nil ?_
  intro _ hw'
  obtain ⟨x9, rfl⟩ := hw'
  have H9 := Lib.hid (H5.out.on x9.h)
  have NB9 := Lib.hid (blk_more x9.h NB5.out)
  have M9 := Lib.hid (M5.out.trans x9.h)
  have d9 := blk_cell NB9.out 0 rfl
  obtain ⟨_, _, e2, _, _, _⟩ := H9.out.cells ⟨_, More.refl _⟩
  clear c0 c2 d5
  generalize x9.w' = w9 at *
  have HL2 : Hid (Looks 116 #[.pointer (some ⟨B5, 0, none⟩)] (fun k => decide (n < k.1)) b.holds w9) := Lib.hid fun W' y _ m => AboveN_any n _ y W' (blk_more m NB9.out)
  obtain ⟨hi1, hi2⟩ := hidx
  have HI1 := Lib.hid hi1
  have HI2 := Lib.hid hi2
  have hin : ¬ ((atJ b.holds n : Nat) : Int) < 0 := by omega
  clear hi1
  go_wp2_with (go_at_call 119; ((with_reducible refine (IndexFunc_any _ _ (fun k => decide (n < k.1)) EG2 b.holds _ (R + 1) _ H9.out.row HL2.out).mono ?_); rintro e10 w10 ⟨rfl, m10⟩; rw [HI1.out]; have H10 := Lib.hid (H9.out.on m10); have NB10 := Lib.hid (blk_more m10 NB9.out); have M10 := Lib.hid (M9.out.trans m10); obtain ⟨_, _, e10, _, _, _⟩ := H10.out.cells ⟨_, More.refl _⟩; clear m10 e2 d9))
  have hnoR : (Value.slice oa b.holds.length cap).ownBlock ≠ some R := fun e => by have := (H10.out.row.own_ge e).1; omega
  have hno5 : (Value.slice oa b.holds.length cap).ownBlock ≠ some B5 := HNO.out
  have c2 : ∀ x : LaterS (fun k => (Value.slice oa b.holds.length cap).ownBlock = some k) w10, x.w'.cell? ⟨R, 2, none⟩ = some (.slice oa b.holds.length cap) := fun x => blk_cell (x.h.blk H10.out.blk hnoR) 2 rfl
  have c5 : ∀ x : LaterS (fun k => (Value.slice oa b.holds.length cap).ownBlock = some k) w10, x.w'.cell? ⟨B5, 0, none⟩ = some (.int .i64 n) := fun x => blk_cell (x.h.blk NB10.out hno5) 0 rfl
  clear e10
  refine wp_region_numS (fun k => (Value.slice oa b.holds.length cap).ownBlock = some k) w10 14 [(0, false), (1, false), (2, false), (3, false), (4, false), (5, false), (6, false), (7, false), (8, false), (9, false), (10, true), (11, true), (12, true), (13, false), (14, true)] (by kernel_rfl) (by kernel_rfl) ?_
  iterate 10 (refine num_quiet rfl rfl (laterS_mk (by repeat (first | exact Away.refl _ _ | assumption | refine Away.drewN ?_ _ | refine Away.set ?_ (by first | rfl | exact Or.inl rfl | exact Or.inr rfl) _))) ?_; intro K hK; go_big_quiet_op; go_big_quiet_on)
  (refine num_next rfl rfl ?_; intro K hK; unfold loud; go_simp)
  have mA : More w10 ((w10.drewN 1).alloc (.cells #[.int .i64 n, .int .i64 now, .int .i64 x] 193)) := (More.drewN w10 1).al _
  have aA : Away (fun k => (Value.slice oa b.holds.length cap).ownBlock = some k) w10 ((w10.drewN 1).alloc (.cells #[.int .i64 n, .int .i64 now, .int .i64 x] 193)) := Away.of_more mA
  refine ⟨laterS_mk aA, hK _ _ ?_⟩
  clear hK K
  (refine num_next rfl rfl ?_; intro K hK; unfold loud; go_simp)
  have OK : InsOK b.holds (n, now, x) (.slice oa b.holds.length cap) (R + 1) ((w10.drewN 1).alloc (.cells #[.int .i64 n, .int .i64 now, .int .i64 x] 193)) w10.heap.size := ⟨H10.out.row.more mA, by have := M10.out.size; have := mA.size; have := HRw.out; have := HB5.out; omega, by have := HN8.out; omega, blk_new2 (w := w10.drewN 1) rfl, fun e => by have := (H10.out.row.own_ge e).2; omega⟩
  refine (Insert_any b.holds (atJ b.holds n) (atJ_le _ _) (n, now, x) _ (R + 1) _ _ OK).mono ?_
  rintro e w12 ⟨v', rfl, r12, a12, o12⟩
  have A12 := aA.trans a12
  have r13 : HRow w12 (R + 1) v' (insJ b.holds (n, now, x)) := by
    unfold insJ
    skip
    exact r12
  have o13 : v'.ownBlock = (Value.slice oa b.holds.length cap).ownBlock ∨ ∃ g, v'.ownBlock = some g ∧ w.heap.size ≤ g := o12.elim Or.inl fun h => Or.inr ⟨_, h, by have := M10.out.size; have := mA.size; omega⟩
  obtain ⟨oa', cap', rfl, _⟩ := r13.shape
  refine ⟨_, rfl, laterS_mk A12, hK _ _ ?_⟩
  clear hK K
  (refine num_next rfl rfl ?_; intro K hK; unfold loud; go_simp)
  refine ⟨laterS_mk A12, hK _ _ ?_⟩
  clear hK K
  iterate 1 (refine num_quiet rfl rfl (laterS_mk A12) ?_; intro K hK; go_big_quiet_op; go_big_quiet_on)
  have b12 := A12.blk H10.out.blk hnoR
  have q2 := blk_cell b12 2 rfl
  have z2 := blk_free b12 2
  (refine num_end rfl rfl (by decide) ?_; intro K hK; unfold loud; go_simp)
  refine hK _ _ ?_
  clear hK K
  refine num_nil ?_
  go_wp2
  go_ret
  exact ⟨rfl, _, push_end H10.out M10.out (by rw [HB5.out]; exact HRw.out) A12 r13 o13⟩
set_option maxHeartbeats 8000000 in
theorem Push_take_te (b : Jb) (ok : JOK b) (R : Nat) (v : Value) (n now x : Int) (hn : Num60 n) (w : World) (H : BufAt w R v b) (hbg : b.begun = true) (hs : sameJ b n = false) (hkn : know b.hi b.bits n = false) (hlt : ¬ n < b.hi + 1) (hf : ¬ b.room ≤ b.holds.length) (hidx : idxJ (fun k => decide (n < k.1)) b.holds = -1 ∧ atJ b.holds n = b.holds.length) :
    Calls Try.prog 55 #[.pointer (some ⟨R, 0, none⟩), .int .i64 n, .int .i64 now, .int .i64 x] w fun er w' => er = .returned (.int .i64 0) ∧ ∃ v', BStep w w' R v v' { b with holds := insJ b.holds (n, now, x) } := by
  have HN8 : Hid (b.holds.length ≤ 8) := Lib.hid (by have := ok.fits; have := ok.room; omega)
  have hm := num60_mid hn
  have hmh := num60_mid ok.hi
  obtain ⟨hh0, hh1⟩ := ok.hi
  obtain ⟨hn0, hn1⟩ := hn
  have HU := Lib.hid ok.bits
  have H1 := Lib.hid (H.on (More.alloc w (.cells #[.int .i64 n] 2)))
  have n1 := blk_new w (.cells #[.int .i64 n] 2)
  have NB := Lib.hid n1
  have HNX := Lib.hid (Next_any b R v _ H1.out ok.hi)
  have MA := Lib.hid (More.alloc w (.cells #[.int .i64 n] 2))
  have EG : ∀ args w, (callFunc 115 args).run Try.prog w = .ok (.enter 115 args) w := fun args w => by kernel_rfl
  have EG2 : ∀ args w, (callFunc 116 args).run Try.prog w = .ok (.enter 116 args) w := fun args w => by kernel_rfl
  have HL : Hid (Looks 115 #[.pointer (some ⟨w.heap.size, 0, none⟩)] (fun k => k.1 == n) b.holds (w.alloc (.cells #[.int .i64 n] 2))) := Lib.hid fun W' y _ m => SameN_any n _ y W' (blk_more m n1)
  obtain ⟨_, _, c2, _, _, _⟩ := H1.out.cells ⟨_, More.refl _⟩
  have hSz : w.heap.size ≠ R := fun e => by have := lt_of_block H.blk; omega
  obtain ⟨oa, cap, rfl, hl63⟩ := H.row.shape
  have HBG := Lib.hid hbg
  have HSM : Hid ((b.holds.any fun k => k.1 == n) = false) := Lib.hid hs
  have HNO : Hid ((Value.slice oa b.holds.length cap).ownBlock ≠ some w.heap.size) := Lib.hid (fun e => by have := (H.row.own_ge e).2; omega)
  have HRw := Lib.hid (lt_of_block H.blk)
  clear H n1 hbg hs
  go_enter Try.func55, Try.ntmps55
  go_wp2_with (first | (go_at_call 113; ((with_reducible refine (HNX.out).mono ?_); rintro e1 w1 ⟨rfl, rfl⟩; rw [HBG.out])) | (go_at_call 117; ((with_reducible refine (ContainsFunc_any _ _ (fun k => k.1 == n) EG b.holds _ (R + 1) _ H1.out.row HL.out).mono ?_); rintro e2 w2 ⟨rfl, m2⟩; rw [HSM.out]; have H2 := Lib.hid (H1.out.on m2); have NB2 := Lib.hid (blk_more m2 NB.out); have M2 := Lib.hid (MA.out.trans m2); clear m2)))
  clear HL c2 EG HNX
  generalize hB5 : w.heap.size = B5 at *
  have HB5 := Lib.hid hB5
  clear hB5
  have d0 : ∀ x : Later w2, x.w'.cell? ⟨B5, 0, none⟩ = some (.int .i64 n) := fun x => blk_cell (blk_more x.h NB2.out) 0 rfl
  have c4 : ∀ x : Later w2, x.w'.cell? ⟨R, 4, none⟩ = some (.int .i64 b.hi) := fun x => (H2.out.cells x).2.2.2.2.1
  have c5 : ∀ x : Later w2, x.w'.cell? ⟨R, 5, none⟩ = some (.int .u64 b.bits) := fun x => (H2.out.cells x).2.2.2.2.2
  refine wp_region_later w2 (More.refl _) (by kernel_rfl) (by kernel_rfl) ?_
  have HHS : Hid (∀ W : World, Calls Try.prog 118 #[.agg #[.int .i64 b.hi, .int .u64 b.bits], .int .i64 n] W fun e w' => e = .returned (.bool false) ∧ More W w') := Lib.hid fun W => by rw [← hkn]; exact Has_any b.hi b.bits n hmh hm HU.out W
  repeat (go_big_quiet_step ((go_at_call 118; with_reducible exact calls_later (HHS.out _))))
  refine wpQuiet_nil ?_
  intro _ hw'
  obtain ⟨x5, rfl⟩ := hw'
  have H5 := Lib.hid (H2.out.on x5.h)
  have NB5 := Lib.hid (blk_more x5.h NB2.out)
  have M5 := Lib.hid (M2.out.trans x5.h)
  have d5 := blk_cell NB5.out 0 rfl
  clear d0 c4 c5
  generalize x5.w' = w5 at *
  go_wp2_with fail
  have c0 : ∀ x : Later w5, x.w'.cell? ⟨R, 0, none⟩ = some (.int .i64 b.room) := fun x => (H5.out.cells x).1
  have c2 : ∀ x : Later w5, x.w'.cell? ⟨R, 2, none⟩ = some (.slice oa b.holds.length cap) := fun x => (H5.out.cells x).2.2.1
  refine wp_region_later w5 (More.refl _) (by kernel_rfl) (by kernel_rfl) ?_
  repeat (go_big_quiet_step (fail))
  refine wpQuiet_nil ?_
  intro _ hw'
  obtain ⟨x9, rfl⟩ := hw'
  have H9 := Lib.hid (H5.out.on x9.h)
  have NB9 := Lib.hid (blk_more x9.h NB5.out)
  have M9 := Lib.hid (M5.out.trans x9.h)
  have d9 := blk_cell NB9.out 0 rfl
  obtain ⟨_, _, e2, _, _, _⟩ := H9.out.cells ⟨_, More.refl _⟩
  clear c0 c2 d5
  generalize x9.w' = w9 at *
  have HL2 : Hid (Looks 116 #[.pointer (some ⟨B5, 0, none⟩)] (fun k => decide (n < k.1)) b.holds w9) := Lib.hid fun W' y _ m => AboveN_any n _ y W' (blk_more m NB9.out)
  obtain ⟨hi1, hi2⟩ := hidx
  have HI1 := Lib.hid hi1
  have HI2 := Lib.hid hi2
  clear hi1
  go_wp2_with (go_at_call 119; ((with_reducible refine (IndexFunc_any _ _ (fun k => decide (n < k.1)) EG2 b.holds _ (R + 1) _ H9.out.row HL2.out).mono ?_); rintro e10 w10 ⟨rfl, m10⟩; rw [HI1.out]; have H10 := Lib.hid (H9.out.on m10); have NB10 := Lib.hid (blk_more m10 NB9.out); have M10 := Lib.hid (M9.out.trans m10); obtain ⟨_, _, e10, _, _, _⟩ := H10.out.cells ⟨_, More.refl _⟩; clear m10 e2 d9))
  have hnoR : (Value.slice oa b.holds.length cap).ownBlock ≠ some R := fun e => by have := (H10.out.row.own_ge e).1; omega
  have hno5 : (Value.slice oa b.holds.length cap).ownBlock ≠ some B5 := HNO.out
  have c2 : ∀ x : LaterS (fun k => (Value.slice oa b.holds.length cap).ownBlock = some k) w10, x.w'.cell? ⟨R, 2, none⟩ = some (.slice oa b.holds.length cap) := fun x => blk_cell (x.h.blk H10.out.blk hnoR) 2 rfl
  have c5 : ∀ x : LaterS (fun k => (Value.slice oa b.holds.length cap).ownBlock = some k) w10, x.w'.cell? ⟨B5, 0, none⟩ = some (.int .i64 n) := fun x => blk_cell (x.h.blk NB10.out hno5) 0 rfl
  clear e10
  refine wp_region_numS (fun k => (Value.slice oa b.holds.length cap).ownBlock = some k) w10 14 [(0, false), (1, false), (2, false), (3, false), (4, false), (5, false), (6, false), (7, false), (8, false), (9, false), (10, true), (11, true), (12, true), (13, false), (14, true)] (by kernel_rfl) (by kernel_rfl) ?_
  iterate 10 (refine num_quiet rfl rfl (laterS_mk (by repeat (first | exact Away.refl _ _ | assumption | refine Away.drewN ?_ _ | refine Away.set ?_ (by first | rfl | exact Or.inl rfl | exact Or.inr rfl) _))) ?_; intro K hK; go_big_quiet_op; go_big_quiet_on)
  (refine num_next rfl rfl ?_; intro K hK; unfold loud; go_simp)
  have mA : More w10 ((w10.drewN 1).alloc (.cells #[.int .i64 n, .int .i64 now, .int .i64 x] 193)) := (More.drewN w10 1).al _
  have aA : Away (fun k => (Value.slice oa b.holds.length cap).ownBlock = some k) w10 ((w10.drewN 1).alloc (.cells #[.int .i64 n, .int .i64 now, .int .i64 x] 193)) := Away.of_more mA
  refine ⟨laterS_mk aA, hK _ _ ?_⟩
  clear hK K
  (refine num_next rfl rfl ?_; intro K hK; unfold loud; go_simp)
  have OK : InsOK b.holds (n, now, x) (.slice oa b.holds.length cap) (R + 1) ((w10.drewN 1).alloc (.cells #[.int .i64 n, .int .i64 now, .int .i64 x] 193)) w10.heap.size := ⟨H10.out.row.more mA, by have := M10.out.size; have := mA.size; have := HRw.out; have := HB5.out; omega, by have := HN8.out; omega, blk_new2 (w := w10.drewN 1) rfl, fun e => by have := (H10.out.row.own_ge e).2; omega⟩
  refine (Insert_any b.holds b.holds.length (Nat.le_refl _) (n, now, x) _ (R + 1) _ _ OK).mono ?_
  rintro e w12 ⟨v', rfl, r12, a12, o12⟩
  have A12 := aA.trans a12
  have r13 : HRow w12 (R + 1) v' (insJ b.holds (n, now, x)) := by
    unfold insJ
    rw [show atJ b.holds (n, now, x).1 = b.holds.length from HI2.out]
    exact r12
  have o13 : v'.ownBlock = (Value.slice oa b.holds.length cap).ownBlock ∨ ∃ g, v'.ownBlock = some g ∧ w.heap.size ≤ g := o12.elim Or.inl fun h => Or.inr ⟨_, h, by have := M10.out.size; have := mA.size; omega⟩
  obtain ⟨oa', cap', rfl, _⟩ := r13.shape
  refine ⟨_, rfl, laterS_mk A12, hK _ _ ?_⟩
  clear hK K
  (refine num_next rfl rfl ?_; intro K hK; unfold loud; go_simp)
  refine ⟨laterS_mk A12, hK _ _ ?_⟩
  clear hK K
  iterate 1 (refine num_quiet rfl rfl (laterS_mk A12) ?_; intro K hK; go_big_quiet_op; go_big_quiet_on)
  have b12 := A12.blk H10.out.blk hnoR
  have q2 := blk_cell b12 2 rfl
  have z2 := blk_free b12 2
  (refine num_end rfl rfl (by decide) ?_; intro K hK; unfold loud; go_simp)
  refine hK _ _ ?_
  clear hK K
  refine num_nil ?_
  go_wp2
  go_ret
  exact ⟨rfl, _, push_end H10.out M10.out (by rw [HB5.out]; exact HRw.out) A12 r13 o13⟩
set_option maxHeartbeats 8000000 in
theorem Push_take_fi (b : Jb) (ok : JOK b) (R : Nat) (v : Value) (n now x : Int) (hn : Num60 n) (w : World) (H : BufAt w R v b) (hbg : b.begun = false) (hs : sameJ b n = false) (hf : ¬ b.room ≤ b.holds.length) (hidx : idxJ (fun k => decide (n < k.1)) b.holds = (atJ b.holds n : Int) ∧ atJ b.holds n < b.holds.length) :
    Calls Try.prog 55 #[.pointer (some ⟨R, 0, none⟩), .int .i64 n, .int .i64 now, .int .i64 x] w fun er w' => er = .returned (.int .i64 0) ∧ ∃ v', BStep w w' R v v' { b with holds := insJ b.holds (n, now, x) } := by
  have HN8 : Hid (b.holds.length ≤ 8) := Lib.hid (by have := ok.fits; have := ok.room; omega)
  have hm := num60_mid hn
  have hmh := num60_mid ok.hi
  obtain ⟨hh0, hh1⟩ := ok.hi
  obtain ⟨hn0, hn1⟩ := hn
  have HU := Lib.hid ok.bits
  have H1 := Lib.hid (H.on (More.alloc w (.cells #[.int .i64 n] 2)))
  have n1 := blk_new w (.cells #[.int .i64 n] 2)
  have NB := Lib.hid n1
  have HNX := Lib.hid (Next_any b R v _ H1.out ok.hi)
  have MA := Lib.hid (More.alloc w (.cells #[.int .i64 n] 2))
  have EG : ∀ args w, (callFunc 115 args).run Try.prog w = .ok (.enter 115 args) w := fun args w => by kernel_rfl
  have EG2 : ∀ args w, (callFunc 116 args).run Try.prog w = .ok (.enter 116 args) w := fun args w => by kernel_rfl
  have HL : Hid (Looks 115 #[.pointer (some ⟨w.heap.size, 0, none⟩)] (fun k => k.1 == n) b.holds (w.alloc (.cells #[.int .i64 n] 2))) := Lib.hid fun W' y _ m => SameN_any n _ y W' (blk_more m n1)
  obtain ⟨_, _, c2, _, _, _⟩ := H1.out.cells ⟨_, More.refl _⟩
  have hSz : w.heap.size ≠ R := fun e => by have := lt_of_block H.blk; omega
  obtain ⟨oa, cap, rfl, hl63⟩ := H.row.shape
  have HBG := Lib.hid hbg
  have HSM : Hid ((b.holds.any fun k => k.1 == n) = false) := Lib.hid hs
  have HNO : Hid ((Value.slice oa b.holds.length cap).ownBlock ≠ some w.heap.size) := Lib.hid (fun e => by have := (H.row.own_ge e).2; omega)
  have HRw := Lib.hid (lt_of_block H.blk)
  clear H n1 hbg hs
  go_enter Try.func55, Try.ntmps55
  go_wp2_with (first | (go_at_call 113; ((with_reducible refine (HNX.out).mono ?_); rintro e1 w1 ⟨rfl, rfl⟩; rw [HBG.out])) | (go_at_call 117; ((with_reducible refine (ContainsFunc_any _ _ (fun k => k.1 == n) EG b.holds _ (R + 1) _ H1.out.row HL.out).mono ?_); rintro e2 w2 ⟨rfl, m2⟩; rw [HSM.out]; have H2 := Lib.hid (H1.out.on m2); have NB2 := Lib.hid (blk_more m2 NB.out); have M2 := Lib.hid (MA.out.trans m2); clear m2)))
  clear HL c2 EG HNX
  generalize hB5 : w.heap.size = B5 at *
  have HB5 := Lib.hid hB5
  clear hB5
  have d0 : ∀ x : Later w2, x.w'.cell? ⟨B5, 0, none⟩ = some (.int .i64 n) := fun x => blk_cell (blk_more x.h NB2.out) 0 rfl
  have c4 : ∀ x : Later w2, x.w'.cell? ⟨R, 4, none⟩ = some (.int .i64 b.hi) := fun x => (H2.out.cells x).2.2.2.2.1
  have c5 : ∀ x : Later w2, x.w'.cell? ⟨R, 5, none⟩ = some (.int .u64 b.bits) := fun x => (H2.out.cells x).2.2.2.2.2
  refine wp_region_later w2 (More.refl _) (by kernel_rfl) (by kernel_rfl) ?_
  repeat (go_big_quiet_step (fail))
  refine wpQuiet_nil ?_
  intro _ hw'
  obtain ⟨x5, rfl⟩ := hw'
  have H5 := Lib.hid (H2.out.on x5.h)
  have NB5 := Lib.hid (blk_more x5.h NB2.out)
  have M5 := Lib.hid (M2.out.trans x5.h)
  have d5 := blk_cell NB5.out 0 rfl
  clear d0 c4 c5
  generalize x5.w' = w5 at *
  go_wp2_with fail
  have c0 : ∀ x : Later w5, x.w'.cell? ⟨R, 0, none⟩ = some (.int .i64 b.room) := fun x => (H5.out.cells x).1
  have c2 : ∀ x : Later w5, x.w'.cell? ⟨R, 2, none⟩ = some (.slice oa b.holds.length cap) := fun x => (H5.out.cells x).2.2.1
  refine wp_region_later w5 (More.refl _) (by kernel_rfl) (by kernel_rfl) ?_
  repeat (go_big_quiet_step (fail))
  refine wpQuiet_nil ?_
  intro _ hw'
  obtain ⟨x9, rfl⟩ := hw'
  have H9 := Lib.hid (H5.out.on x9.h)
  have NB9 := Lib.hid (blk_more x9.h NB5.out)
  have M9 := Lib.hid (M5.out.trans x9.h)
  have d9 := blk_cell NB9.out 0 rfl
  obtain ⟨_, _, e2, _, _, _⟩ := H9.out.cells ⟨_, More.refl _⟩
  clear c0 c2 d5
  generalize x9.w' = w9 at *
  have HL2 : Hid (Looks 116 #[.pointer (some ⟨B5, 0, none⟩)] (fun k => decide (n < k.1)) b.holds w9) := Lib.hid fun W' y _ m => AboveN_any n _ y W' (blk_more m NB9.out)
  obtain ⟨hi1, hi2⟩ := hidx
  have HI1 := Lib.hid hi1
  have HI2 := Lib.hid hi2
  have hin : ¬ ((atJ b.holds n : Nat) : Int) < 0 := by omega
  clear hi1
  go_wp2_with (go_at_call 119; ((with_reducible refine (IndexFunc_any _ _ (fun k => decide (n < k.1)) EG2 b.holds _ (R + 1) _ H9.out.row HL2.out).mono ?_); rintro e10 w10 ⟨rfl, m10⟩; rw [HI1.out]; have H10 := Lib.hid (H9.out.on m10); have NB10 := Lib.hid (blk_more m10 NB9.out); have M10 := Lib.hid (M9.out.trans m10); obtain ⟨_, _, e10, _, _, _⟩ := H10.out.cells ⟨_, More.refl _⟩; clear m10 e2 d9))
  have hnoR : (Value.slice oa b.holds.length cap).ownBlock ≠ some R := fun e => by have := (H10.out.row.own_ge e).1; omega
  have hno5 : (Value.slice oa b.holds.length cap).ownBlock ≠ some B5 := HNO.out
  have c2 : ∀ x : LaterS (fun k => (Value.slice oa b.holds.length cap).ownBlock = some k) w10, x.w'.cell? ⟨R, 2, none⟩ = some (.slice oa b.holds.length cap) := fun x => blk_cell (x.h.blk H10.out.blk hnoR) 2 rfl
  have c5 : ∀ x : LaterS (fun k => (Value.slice oa b.holds.length cap).ownBlock = some k) w10, x.w'.cell? ⟨B5, 0, none⟩ = some (.int .i64 n) := fun x => blk_cell (x.h.blk NB10.out hno5) 0 rfl
  clear e10
  refine wp_region_numS (fun k => (Value.slice oa b.holds.length cap).ownBlock = some k) w10 14 [(0, false), (1, false), (2, false), (3, false), (4, false), (5, false), (6, false), (7, false), (8, false), (9, false), (10, true), (11, true), (12, true), (13, false), (14, true)] (by kernel_rfl) (by kernel_rfl) ?_
  iterate 10 (refine num_quiet rfl rfl (laterS_mk (by repeat (first | exact Away.refl _ _ | assumption | refine Away.drewN ?_ _ | refine Away.set ?_ (by first | rfl | exact Or.inl rfl | exact Or.inr rfl) _))) ?_; intro K hK; go_big_quiet_op; go_big_quiet_on)
  (refine num_next rfl rfl ?_; intro K hK; unfold loud; go_simp)
  have mA : More w10 ((w10.drewN 1).alloc (.cells #[.int .i64 n, .int .i64 now, .int .i64 x] 193)) := (More.drewN w10 1).al _
  have aA : Away (fun k => (Value.slice oa b.holds.length cap).ownBlock = some k) w10 ((w10.drewN 1).alloc (.cells #[.int .i64 n, .int .i64 now, .int .i64 x] 193)) := Away.of_more mA
  refine ⟨laterS_mk aA, hK _ _ ?_⟩
  clear hK K
  (refine num_next rfl rfl ?_; intro K hK; unfold loud; go_simp)
  have OK : InsOK b.holds (n, now, x) (.slice oa b.holds.length cap) (R + 1) ((w10.drewN 1).alloc (.cells #[.int .i64 n, .int .i64 now, .int .i64 x] 193)) w10.heap.size := ⟨H10.out.row.more mA, by have := M10.out.size; have := mA.size; have := HRw.out; have := HB5.out; omega, by have := HN8.out; omega, blk_new2 (w := w10.drewN 1) rfl, fun e => by have := (H10.out.row.own_ge e).2; omega⟩
  refine (Insert_any b.holds (atJ b.holds n) (atJ_le _ _) (n, now, x) _ (R + 1) _ _ OK).mono ?_
  rintro e w12 ⟨v', rfl, r12, a12, o12⟩
  have A12 := aA.trans a12
  have r13 : HRow w12 (R + 1) v' (insJ b.holds (n, now, x)) := by
    unfold insJ
    skip
    exact r12
  have o13 : v'.ownBlock = (Value.slice oa b.holds.length cap).ownBlock ∨ ∃ g, v'.ownBlock = some g ∧ w.heap.size ≤ g := o12.elim Or.inl fun h => Or.inr ⟨_, h, by have := M10.out.size; have := mA.size; omega⟩
  obtain ⟨oa', cap', rfl, _⟩ := r13.shape
  refine ⟨_, rfl, laterS_mk A12, hK _ _ ?_⟩
  clear hK K
  (refine num_next rfl rfl ?_; intro K hK; unfold loud; go_simp)
  refine ⟨laterS_mk A12, hK _ _ ?_⟩
  clear hK K
  iterate 1 (refine num_quiet rfl rfl (laterS_mk A12) ?_; intro K hK; go_big_quiet_op; go_big_quiet_on)
  have b12 := A12.blk H10.out.blk hnoR
  have q2 := blk_cell b12 2 rfl
  have z2 := blk_free b12 2
  (refine num_end rfl rfl (by decide) ?_; intro K hK; unfold loud; go_simp)
  refine hK _ _ ?_
  clear hK K
  refine num_nil ?_
  go_wp2
  go_ret
  exact ⟨rfl, _, push_end H10.out M10.out (by rw [HB5.out]; exact HRw.out) A12 r13 o13⟩
set_option maxHeartbeats 8000000 in
theorem Push_take_fe (b : Jb) (ok : JOK b) (R : Nat) (v : Value) (n now x : Int) (hn : Num60 n) (w : World) (H : BufAt w R v b) (hbg : b.begun = false) (hs : sameJ b n = false) (hf : ¬ b.room ≤ b.holds.length) (hidx : idxJ (fun k => decide (n < k.1)) b.holds = -1 ∧ atJ b.holds n = b.holds.length) :
    Calls Try.prog 55 #[.pointer (some ⟨R, 0, none⟩), .int .i64 n, .int .i64 now, .int .i64 x] w fun er w' => er = .returned (.int .i64 0) ∧ ∃ v', BStep w w' R v v' { b with holds := insJ b.holds (n, now, x) } := by
  have HN8 : Hid (b.holds.length ≤ 8) := Lib.hid (by have := ok.fits; have := ok.room; omega)
  have hm := num60_mid hn
  have hmh := num60_mid ok.hi
  obtain ⟨hh0, hh1⟩ := ok.hi
  obtain ⟨hn0, hn1⟩ := hn
  have HU := Lib.hid ok.bits
  have H1 := Lib.hid (H.on (More.alloc w (.cells #[.int .i64 n] 2)))
  have n1 := blk_new w (.cells #[.int .i64 n] 2)
  have NB := Lib.hid n1
  have HNX := Lib.hid (Next_any b R v _ H1.out ok.hi)
  have MA := Lib.hid (More.alloc w (.cells #[.int .i64 n] 2))
  have EG : ∀ args w, (callFunc 115 args).run Try.prog w = .ok (.enter 115 args) w := fun args w => by kernel_rfl
  have EG2 : ∀ args w, (callFunc 116 args).run Try.prog w = .ok (.enter 116 args) w := fun args w => by kernel_rfl
  have HL : Hid (Looks 115 #[.pointer (some ⟨w.heap.size, 0, none⟩)] (fun k => k.1 == n) b.holds (w.alloc (.cells #[.int .i64 n] 2))) := Lib.hid fun W' y _ m => SameN_any n _ y W' (blk_more m n1)
  obtain ⟨_, _, c2, _, _, _⟩ := H1.out.cells ⟨_, More.refl _⟩
  have hSz : w.heap.size ≠ R := fun e => by have := lt_of_block H.blk; omega
  obtain ⟨oa, cap, rfl, hl63⟩ := H.row.shape
  have HBG := Lib.hid hbg
  have HSM : Hid ((b.holds.any fun k => k.1 == n) = false) := Lib.hid hs
  have HNO : Hid ((Value.slice oa b.holds.length cap).ownBlock ≠ some w.heap.size) := Lib.hid (fun e => by have := (H.row.own_ge e).2; omega)
  have HRw := Lib.hid (lt_of_block H.blk)
  clear H n1 hbg hs
  go_enter Try.func55, Try.ntmps55
  go_wp2_with (first | (go_at_call 113; ((with_reducible refine (HNX.out).mono ?_); rintro e1 w1 ⟨rfl, rfl⟩; rw [HBG.out])) | (go_at_call 117; ((with_reducible refine (ContainsFunc_any _ _ (fun k => k.1 == n) EG b.holds _ (R + 1) _ H1.out.row HL.out).mono ?_); rintro e2 w2 ⟨rfl, m2⟩; rw [HSM.out]; have H2 := Lib.hid (H1.out.on m2); have NB2 := Lib.hid (blk_more m2 NB.out); have M2 := Lib.hid (MA.out.trans m2); clear m2)))
  clear HL c2 EG HNX
  generalize hB5 : w.heap.size = B5 at *
  have HB5 := Lib.hid hB5
  clear hB5
  have d0 : ∀ x : Later w2, x.w'.cell? ⟨B5, 0, none⟩ = some (.int .i64 n) := fun x => blk_cell (blk_more x.h NB2.out) 0 rfl
  have c4 : ∀ x : Later w2, x.w'.cell? ⟨R, 4, none⟩ = some (.int .i64 b.hi) := fun x => (H2.out.cells x).2.2.2.2.1
  have c5 : ∀ x : Later w2, x.w'.cell? ⟨R, 5, none⟩ = some (.int .u64 b.bits) := fun x => (H2.out.cells x).2.2.2.2.2
  refine wp_region_later w2 (More.refl _) (by kernel_rfl) (by kernel_rfl) ?_
  repeat (go_big_quiet_step (fail))
  refine wpQuiet_nil ?_
  intro _ hw'
  obtain ⟨x5, rfl⟩ := hw'
  have H5 := Lib.hid (H2.out.on x5.h)
  have NB5 := Lib.hid (blk_more x5.h NB2.out)
  have M5 := Lib.hid (M2.out.trans x5.h)
  have d5 := blk_cell NB5.out 0 rfl
  clear d0 c4 c5
  generalize x5.w' = w5 at *
  go_wp2_with fail
  have c0 : ∀ x : Later w5, x.w'.cell? ⟨R, 0, none⟩ = some (.int .i64 b.room) := fun x => (H5.out.cells x).1
  have c2 : ∀ x : Later w5, x.w'.cell? ⟨R, 2, none⟩ = some (.slice oa b.holds.length cap) := fun x => (H5.out.cells x).2.2.1
  refine wp_region_later w5 (More.refl _) (by kernel_rfl) (by kernel_rfl) ?_
  repeat (go_big_quiet_step (fail))
  refine wpQuiet_nil ?_
  intro _ hw'
  obtain ⟨x9, rfl⟩ := hw'
  have H9 := Lib.hid (H5.out.on x9.h)
  have NB9 := Lib.hid (blk_more x9.h NB5.out)
  have M9 := Lib.hid (M5.out.trans x9.h)
  have d9 := blk_cell NB9.out 0 rfl
  obtain ⟨_, _, e2, _, _, _⟩ := H9.out.cells ⟨_, More.refl _⟩
  clear c0 c2 d5
  generalize x9.w' = w9 at *
  have HL2 : Hid (Looks 116 #[.pointer (some ⟨B5, 0, none⟩)] (fun k => decide (n < k.1)) b.holds w9) := Lib.hid fun W' y _ m => AboveN_any n _ y W' (blk_more m NB9.out)
  obtain ⟨hi1, hi2⟩ := hidx
  have HI1 := Lib.hid hi1
  have HI2 := Lib.hid hi2
  clear hi1
  go_wp2_with (go_at_call 119; ((with_reducible refine (IndexFunc_any _ _ (fun k => decide (n < k.1)) EG2 b.holds _ (R + 1) _ H9.out.row HL2.out).mono ?_); rintro e10 w10 ⟨rfl, m10⟩; rw [HI1.out]; have H10 := Lib.hid (H9.out.on m10); have NB10 := Lib.hid (blk_more m10 NB9.out); have M10 := Lib.hid (M9.out.trans m10); obtain ⟨_, _, e10, _, _, _⟩ := H10.out.cells ⟨_, More.refl _⟩; clear m10 e2 d9))
  have hnoR : (Value.slice oa b.holds.length cap).ownBlock ≠ some R := fun e => by have := (H10.out.row.own_ge e).1; omega
  have hno5 : (Value.slice oa b.holds.length cap).ownBlock ≠ some B5 := HNO.out
  have c2 : ∀ x : LaterS (fun k => (Value.slice oa b.holds.length cap).ownBlock = some k) w10, x.w'.cell? ⟨R, 2, none⟩ = some (.slice oa b.holds.length cap) := fun x => blk_cell (x.h.blk H10.out.blk hnoR) 2 rfl
  have c5 : ∀ x : LaterS (fun k => (Value.slice oa b.holds.length cap).ownBlock = some k) w10, x.w'.cell? ⟨B5, 0, none⟩ = some (.int .i64 n) := fun x => blk_cell (x.h.blk NB10.out hno5) 0 rfl
  clear e10
  refine wp_region_numS (fun k => (Value.slice oa b.holds.length cap).ownBlock = some k) w10 14 [(0, false), (1, false), (2, false), (3, false), (4, false), (5, false), (6, false), (7, false), (8, false), (9, false), (10, true), (11, true), (12, true), (13, false), (14, true)] (by kernel_rfl) (by kernel_rfl) ?_
  iterate 10 (refine num_quiet rfl rfl (laterS_mk (by repeat (first | exact Away.refl _ _ | assumption | refine Away.drewN ?_ _ | refine Away.set ?_ (by first | rfl | exact Or.inl rfl | exact Or.inr rfl) _))) ?_; intro K hK; go_big_quiet_op; go_big_quiet_on)
  (refine num_next rfl rfl ?_; intro K hK; unfold loud; go_simp)
  have mA : More w10 ((w10.drewN 1).alloc (.cells #[.int .i64 n, .int .i64 now, .int .i64 x] 193)) := (More.drewN w10 1).al _
  have aA : Away (fun k => (Value.slice oa b.holds.length cap).ownBlock = some k) w10 ((w10.drewN 1).alloc (.cells #[.int .i64 n, .int .i64 now, .int .i64 x] 193)) := Away.of_more mA
  refine ⟨laterS_mk aA, hK _ _ ?_⟩
  clear hK K
  (refine num_next rfl rfl ?_; intro K hK; unfold loud; go_simp)
  have OK : InsOK b.holds (n, now, x) (.slice oa b.holds.length cap) (R + 1) ((w10.drewN 1).alloc (.cells #[.int .i64 n, .int .i64 now, .int .i64 x] 193)) w10.heap.size := ⟨H10.out.row.more mA, by have := M10.out.size; have := mA.size; have := HRw.out; have := HB5.out; omega, by have := HN8.out; omega, blk_new2 (w := w10.drewN 1) rfl, fun e => by have := (H10.out.row.own_ge e).2; omega⟩
  refine (Insert_any b.holds b.holds.length (Nat.le_refl _) (n, now, x) _ (R + 1) _ _ OK).mono ?_
  rintro e w12 ⟨v', rfl, r12, a12, o12⟩
  have A12 := aA.trans a12
  have r13 : HRow w12 (R + 1) v' (insJ b.holds (n, now, x)) := by
    unfold insJ
    rw [show atJ b.holds (n, now, x).1 = b.holds.length from HI2.out]
    exact r12
  have o13 : v'.ownBlock = (Value.slice oa b.holds.length cap).ownBlock ∨ ∃ g, v'.ownBlock = some g ∧ w.heap.size ≤ g := o12.elim Or.inl fun h => Or.inr ⟨_, h, by have := M10.out.size; have := mA.size; omega⟩
  obtain ⟨oa', cap', rfl, _⟩ := r13.shape
  refine ⟨_, rfl, laterS_mk A12, hK _ _ ?_⟩
  clear hK K
  (refine num_next rfl rfl ?_; intro K hK; unfold loud; go_simp)
  refine ⟨laterS_mk A12, hK _ _ ?_⟩
  clear hK K
  iterate 1 (refine num_quiet rfl rfl (laterS_mk A12) ?_; intro K hK; go_big_quiet_op; go_big_quiet_on)
  have b12 := A12.blk H10.out.blk hnoR
  have q2 := blk_cell b12 2 rfl
  have z2 := blk_free b12 2
  (refine num_end rfl rfl (by decide) ?_; intro K hK; unfold loud; go_simp)
  refine hK _ _ ?_
  clear hK K
  refine num_nil ?_
  go_wp2
  go_ret
  exact ⟨rfl, _, push_end H10.out M10.out (by rw [HB5.out]; exact HRw.out) A12 r13 o13⟩
end Go.Proofs.Ytlnikmcimmnbmaa
