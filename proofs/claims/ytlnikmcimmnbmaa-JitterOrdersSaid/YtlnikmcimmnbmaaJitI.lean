/- Package jitter: Push. -/
import Derived.Test.YtlnikmcimmnbmaaJitH
namespace Go.Proofs.Ytlnikmcimmnbmaa
set_option linter.unusedSimpArgs false
set_option linter.unusedVariables false
open Go.RowKit Go.Lib
set_option maxRecDepth 100000

def atJ (L : List Hd) (n : Int) : Nat := L.findIdx fun k => decide (n < k.1)
def insJ (L : List Hd) (h : Hd) : List Hd := L.take (atJ L h.1) ++ h :: L.drop (atJ L h.1)
def sameJ (b : Jb) (n : Int) : Bool := b.holds.any fun k => k.1 == n
def pushJ (b : Jb) (n now x : Int) : Jb × Int :=
  if sameJ b n || (b.begun && know b.hi b.bits n) then (b, 10)
  else if b.begun && decide (n < b.hi + 1) then (b, 9)
  else if b.room ≤ b.holds.length then (b, 8)
  else ({ b with holds := insJ b.holds (n, now, x) }, 0)
theorem atJ_le (L : List Hd) (n : Int) : atJ L n ≤ L.length := List.findIdx_le_length
theorem atJ_idx (L : List Hd) (n : Int) : (idxJ (fun k => decide (n < k.1)) L = (atJ L n : Int) ∧ atJ L n < L.length) ∨ (idxJ (fun k => decide (n < k.1)) L = -1 ∧ atJ L n = L.length) := by
  unfold idxJ
  have := atJ_le L n
  unfold atJ at *
  by_cases h : L.findIdx (fun k => decide (n < k.1)) < L.length
  · left; rw [if_pos h]; exact ⟨rfl, h⟩
  · right; rw [if_neg h]; exact ⟨rfl, by omega⟩
theorem BStep.keep {w w' : World} {R : Nat} {v : Value} {b : Jb} (m : More w w') (H : BufAt w' R v b) : BStep w w' R v v b := ⟨H, Away.of_more m, Or.inl rfl⟩
set_option maxHeartbeats 4000000 in
theorem Push_same_t (b : Jb) (ok : JOK b) (R : Nat) (v : Value) (n now x : Int) (hn : Num60 n) (w : World) (H : BufAt w R v b) (hbg : b.begun = true) (hs : sameJ b n = true) :
    Calls Try.prog 55 #[.pointer (some ⟨R, 0, none⟩), .int .i64 n, .int .i64 now, .int .i64 x] w fun er w' => er = .returned (.int .i64 10) ∧ More w w' := by
  have hm := num60_mid hn
  have hmh := num60_mid ok.hi
  obtain ⟨hh0, hh1⟩ := ok.hi
  obtain ⟨hn0, hn1⟩ := hn
  have HU := Lib.hid ok.bits
  have H1 := Lib.hid (H.on (More.alloc w (.cells #[.int .i64 n] 2)))
  have n1 := blk_new w (.cells #[.int .i64 n] 2)
  have NB := Lib.hid n1
  have HNX := Lib.hid (Next_any b R v _ H1.out ok.hi)
  have MA := Lib.hid (More.alloc w (.cells #[.int .i64 n] 2))
  have EG : ∀ args w, (callFunc 115 args).run Try.prog w = .ok (.enter 115 args) w := fun args w => by kernel_rfl
  have EG2 : ∀ args w, (callFunc 116 args).run Try.prog w = .ok (.enter 116 args) w := fun args w => by kernel_rfl
  have HL : Hid (Looks 115 #[.pointer (some ⟨w.heap.size, 0, none⟩)] (fun k => k.1 == n) b.holds (w.alloc (.cells #[.int .i64 n] 2))) := Lib.hid fun W' y _ m => SameN_any n _ y W' (blk_more m n1)
  obtain ⟨_, _, c2, _, _, _⟩ := H1.out.cells ⟨_, More.refl _⟩
  have hSz : w.heap.size ≠ R := fun e => by have := lt_of_block H.blk; omega
  obtain ⟨oa, cap, rfl, hl63⟩ := H.row.shape
  have HBG := Lib.hid hbg
  have HSM : Hid ((b.holds.any fun k => k.1 == n) = true) := Lib.hid hs
  have HRw := Lib.hid (lt_of_block H.blk)
  clear H n1 hbg hs
  go_enter Try.func55, Try.ntmps55
  go_wp2_with (first | (go_at_call 113; ((with_reducible refine (HNX.out).mono ?_); rintro e1 w1 ⟨rfl, rfl⟩; rw [HBG.out])) | (go_at_call 117; ((with_reducible refine (ContainsFunc_any _ _ (fun k => k.1 == n) EG b.holds _ (R + 1) _ H1.out.row HL.out).mono ?_); rintro e2 w2 ⟨rfl, m2⟩; rw [HSM.out]; have H2 := Lib.hid (H1.out.on m2); have NB2 := Lib.hid (blk_more m2 NB.out); have M2 := Lib.hid (MA.out.trans m2); clear m2)))
  go_ret
  exact ⟨rfl, M2.out⟩
set_option maxHeartbeats 4000000 in
theorem Push_known (b : Jb) (ok : JOK b) (R : Nat) (v : Value) (n now x : Int) (hn : Num60 n) (w : World) (H : BufAt w R v b) (hbg : b.begun = true) (hs : sameJ b n = false) (hkn : know b.hi b.bits n = true) :
    Calls Try.prog 55 #[.pointer (some ⟨R, 0, none⟩), .int .i64 n, .int .i64 now, .int .i64 x] w fun er w' => er = .returned (.int .i64 10) ∧ More w w' := by
  have hm := num60_mid hn
  have hmh := num60_mid ok.hi
  obtain ⟨hh0, hh1⟩ := ok.hi
  obtain ⟨hn0, hn1⟩ := hn
  have HU := Lib.hid ok.bits
  have H1 := Lib.hid (H.on (More.alloc w (.cells #[.int .i64 n] 2)))
  have n1 := blk_new w (.cells #[.int .i64 n] 2)
  have NB := Lib.hid n1
  have HNX := Lib.hid (Next_any b R v _ H1.out ok.hi)
  have MA := Lib.hid (More.alloc w (.cells #[.int .i64 n] 2))
  have EG : ∀ args w, (callFunc 115 args).run Try.prog w = .ok (.enter 115 args) w := fun args w => by kernel_rfl
  have EG2 : ∀ args w, (callFunc 116 args).run Try.prog w = .ok (.enter 116 args) w := fun args w => by kernel_rfl
  have HL : Hid (Looks 115 #[.pointer (some ⟨w.heap.size, 0, none⟩)] (fun k => k.1 == n) b.holds (w.alloc (.cells #[.int .i64 n] 2))) := Lib.hid fun W' y _ m => SameN_any n _ y W' (blk_more m n1)
  obtain ⟨_, _, c2, _, _, _⟩ := H1.out.cells ⟨_, More.refl _⟩
  have hSz : w.heap.size ≠ R := fun e => by have := lt_of_block H.blk; omega
  obtain ⟨oa, cap, rfl, hl63⟩ := H.row.shape
  have HBG := Lib.hid hbg
  have HSM : Hid ((b.holds.any fun k => k.1 == n) = false) := Lib.hid hs
  have HRw := Lib.hid (lt_of_block H.blk)
  clear H n1 hbg hs
  go_enter Try.func55, Try.ntmps55
  go_wp2_with (first | (go_at_call 113; ((with_reducible refine (HNX.out).mono ?_); rintro e1 w1 ⟨rfl, rfl⟩; rw [HBG.out])) | (go_at_call 117; ((with_reducible refine (ContainsFunc_any _ _ (fun k => k.1 == n) EG b.holds _ (R + 1) _ H1.out.row HL.out).mono ?_); rintro e2 w2 ⟨rfl, m2⟩; rw [HSM.out]; have H2 := Lib.hid (H1.out.on m2); have NB2 := Lib.hid (blk_more m2 NB.out); have M2 := Lib.hid (MA.out.trans m2); clear m2)))
  clear HL c2 EG HNX
  generalize w.heap.size = B5 at *
  have d0 : ∀ x : Later w2, x.w'.cell? ⟨B5, 0, none⟩ = some (.int .i64 n) := fun x => blk_cell (blk_more x.h NB2.out) 0 rfl
  have c4 : ∀ x : Later w2, x.w'.cell? ⟨R, 4, none⟩ = some (.int .i64 b.hi) := fun x => (H2.out.cells x).2.2.2.2.1
  have c5 : ∀ x : Later w2, x.w'.cell? ⟨R, 5, none⟩ = some (.int .u64 b.bits) := fun x => (H2.out.cells x).2.2.2.2.2
  refine wp_region_later w2 (More.refl _) (by kernel_rfl) (by kernel_rfl) ?_
  have HHS : Hid (∀ W : World, Calls Try.prog 118 #[.agg #[.int .i64 b.hi, .int .u64 b.bits], .int .i64 n] W fun e w' => e = .returned (.bool true) ∧ More W w') := Lib.hid fun W => by rw [← hkn]; exact Has_any b.hi b.bits n hmh hm HU.out W
  repeat (go_big_quiet_step ((go_at_call 118; with_reducible exact calls_later (HHS.out _))))
  refine wpQuiet_nil ?_
  intro _ hw'
  obtain ⟨x5, rfl⟩ := hw'
  have H5 := Lib.hid (H2.out.on x5.h)
  have NB5 := Lib.hid (blk_more x5.h NB2.out)
  have M5 := Lib.hid (M2.out.trans x5.h)
  have d5 := blk_cell NB5.out 0 rfl
  clear d0 c4 c5
  generalize x5.w' = w5 at *
  go_wp2_with fail
  go_ret
  exact ⟨rfl, M5.out⟩
set_option maxHeartbeats 4000000 in
theorem Push_late (b : Jb) (ok : JOK b) (R : Nat) (v : Value) (n now x : Int) (hn : Num60 n) (w : World) (H : BufAt w R v b) (hbg : b.begun = true) (hs : sameJ b n = false) (hkn : know b.hi b.bits n = false) (hlt : n < b.hi + 1) :
    Calls Try.prog 55 #[.pointer (some ⟨R, 0, none⟩), .int .i64 n, .int .i64 now, .int .i64 x] w fun er w' => er = .returned (.int .i64 9) ∧ More w w' := by
  have hm := num60_mid hn
  have hmh := num60_mid ok.hi
  obtain ⟨hh0, hh1⟩ := ok.hi
  obtain ⟨hn0, hn1⟩ := hn
  have HU := Lib.hid ok.bits
  have H1 := Lib.hid (H.on (More.alloc w (.cells #[.int .i64 n] 2)))
  have n1 := blk_new w (.cells #[.int .i64 n] 2)
  have NB := Lib.hid n1
  have HNX := Lib.hid (Next_any b R v _ H1.out ok.hi)
  have MA := Lib.hid (More.alloc w (.cells #[.int .i64 n] 2))
  have EG : ∀ args w, (callFunc 115 args).run Try.prog w = .ok (.enter 115 args) w := fun args w => by kernel_rfl
  have EG2 : ∀ args w, (callFunc 116 args).run Try.prog w = .ok (.enter 116 args) w := fun args w => by kernel_rfl
  have HL : Hid (Looks 115 #[.pointer (some ⟨w.heap.size, 0, none⟩)] (fun k => k.1 == n) b.holds (w.alloc (.cells #[.int .i64 n] 2))) := Lib.hid fun W' y _ m => SameN_any n _ y W' (blk_more m n1)
  obtain ⟨_, _, c2, _, _, _⟩ := H1.out.cells ⟨_, More.refl _⟩
  have hSz : w.heap.size ≠ R := fun e => by have := lt_of_block H.blk; omega
  obtain ⟨oa, cap, rfl, hl63⟩ := H.row.shape
  have HBG := Lib.hid hbg
  have HSM : Hid ((b.holds.any fun k => k.1 == n) = false) := Lib.hid hs
  have HRw := Lib.hid (lt_of_block H.blk)
  clear H n1 hbg hs
  go_enter Try.func55, Try.ntmps55
  go_wp2_with (first | (go_at_call 113; ((with_reducible refine (HNX.out).mono ?_); rintro e1 w1 ⟨rfl, rfl⟩; rw [HBG.out])) | (go_at_call 117; ((with_reducible refine (ContainsFunc_any _ _ (fun k => k.1 == n) EG b.holds _ (R + 1) _ H1.out.row HL.out).mono ?_); rintro e2 w2 ⟨rfl, m2⟩; rw [HSM.out]; have H2 := Lib.hid (H1.out.on m2); have NB2 := Lib.hid (blk_more m2 NB.out); have M2 := Lib.hid (MA.out.trans m2); clear m2)))
  clear HL c2 EG HNX
  generalize w.heap.size = B5 at *
  have d0 : ∀ x : Later w2, x.w'.cell? ⟨B5, 0, none⟩ = some (.int .i64 n) := fun x => blk_cell (blk_more x.h NB2.out) 0 rfl
  have c4 : ∀ x : Later w2, x.w'.cell? ⟨R, 4, none⟩ = some (.int .i64 b.hi) := fun x => (H2.out.cells x).2.2.2.2.1
  have c5 : ∀ x : Later w2, x.w'.cell? ⟨R, 5, none⟩ = some (.int .u64 b.bits) := fun x => (H2.out.cells x).2.2.2.2.2
  refine wp_region_later w2 (More.refl _) (by kernel_rfl) (by kernel_rfl) ?_
  have HHS : Hid (∀ W : World, Calls Try.prog 118 #[.agg #[.int .i64 b.hi, .int .u64 b.bits], .int .i64 n] W fun e w' => e = .returned (.bool false) ∧ More W w') := Lib.hid fun W => by rw [← hkn]; exact Has_any b.hi b.bits n hmh hm HU.out W
  repeat (go_big_quiet_step ((go_at_call 118; with_reducible exact calls_later (HHS.out _))))
  refine wpQuiet_nil ?_
  intro _ hw'
  obtain ⟨x5, rfl⟩ := hw'
  have H5 := Lib.hid (H2.out.on x5.h)
  have NB5 := Lib.hid (blk_more x5.h NB2.out)
  have M5 := Lib.hid (M2.out.trans x5.h)
  have d5 := blk_cell NB5.out 0 rfl
  clear d0 c4 c5
  generalize x5.w' = w5 at *
  go_wp2_with fail
  go_ret
  exact ⟨rfl, M5.out⟩
set_option maxHeartbeats 4000000 in
theorem Push_full_t (b : Jb) (ok : JOK b) (R : Nat) (v : Value) (n now x : Int) (hn : Num60 n) (w : World) (H : BufAt w R v b) (hbg : b.begun = true) (hs : sameJ b n = false) (hkn : know b.hi b.bits n = false) (hlt : ¬ n < b.hi + 1) (hf : b.room ≤ b.holds.length) :
    Calls Try.prog 55 #[.pointer (some ⟨R, 0, none⟩), .int .i64 n, .int .i64 now, .int .i64 x] w fun er w' => er = .returned (.int .i64 8) ∧ More w w' := by
  have hm := num60_mid hn
  have hmh := num60_mid ok.hi
  obtain ⟨hh0, hh1⟩ := ok.hi
  obtain ⟨hn0, hn1⟩ := hn
  have HU := Lib.hid ok.bits
  have H1 := Lib.hid (H.on (More.alloc w (.cells #[.int .i64 n] 2)))
  have n1 := blk_new w (.cells #[.int .i64 n] 2)
  have NB := Lib.hid n1
  have HNX := Lib.hid (Next_any b R v _ H1.out ok.hi)
  have MA := Lib.hid (More.alloc w (.cells #[.int .i64 n] 2))
  have EG : ∀ args w, (callFunc 115 args).run Try.prog w = .ok (.enter 115 args) w := fun args w => by kernel_rfl
  have EG2 : ∀ args w, (callFunc 116 args).run Try.prog w = .ok (.enter 116 args) w := fun args w => by kernel_rfl
  have HL : Hid (Looks 115 #[.pointer (some ⟨w.heap.size, 0, none⟩)] (fun k => k.1 == n) b.holds (w.alloc (.cells #[.int .i64 n] 2))) := Lib.hid fun W' y _ m => SameN_any n _ y W' (blk_more m n1)
  obtain ⟨_, _, c2, _, _, _⟩ := H1.out.cells ⟨_, More.refl _⟩
  have hSz : w.heap.size ≠ R := fun e => by have := lt_of_block H.blk; omega
  obtain ⟨oa, cap, rfl, hl63⟩ := H.row.shape
  have HBG := Lib.hid hbg
  have HSM : Hid ((b.holds.any fun k => k.1 == n) = false) := Lib.hid hs
  have HRw := Lib.hid (lt_of_block H.blk)
  clear H n1 hbg hs
  go_enter Try.func55, Try.ntmps55
  go_wp2_with (first | (go_at_call 113; ((with_reducible refine (HNX.out).mono ?_); rintro e1 w1 ⟨rfl, rfl⟩; rw [HBG.out])) | (go_at_call 117; ((with_reducible refine (ContainsFunc_any _ _ (fun k => k.1 == n) EG b.holds _ (R + 1) _ H1.out.row HL.out).mono ?_); rintro e2 w2 ⟨rfl, m2⟩; rw [HSM.out]; have H2 := Lib.hid (H1.out.on m2); have NB2 := Lib.hid (blk_more m2 NB.out); have M2 := Lib.hid (MA.out.trans m2); clear m2)))
  clear HL c2 EG HNX
  generalize w.heap.size = B5 at *
  have d0 : ∀ x : Later w2, x.w'.cell? ⟨B5, 0, none⟩ = some (.int .i64 n) := fun x => blk_cell (blk_more x.h NB2.out) 0 rfl
  have c4 : ∀ x : Later w2, x.w'.cell? ⟨R, 4, none⟩ = some (.int .i64 b.hi) := fun x => (H2.out.cells x).2.2.2.2.1
  have c5 : ∀ x : Later w2, x.w'.cell? ⟨R, 5, none⟩ = some (.int .u64 b.bits) := fun x => (H2.out.cells x).2.2.2.2.2
  refine wp_region_later w2 (More.refl _) (by kernel_rfl) (by kernel_rfl) ?_
  have HHS : Hid (∀ W : World, Calls Try.prog 118 #[.agg #[.int .i64 b.hi, .int .u64 b.bits], .int .i64 n] W fun e w' => e = .returned (.bool false) ∧ More W w') := Lib.hid fun W => by rw [← hkn]; exact Has_any b.hi b.bits n hmh hm HU.out W
  repeat (go_big_quiet_step ((go_at_call 118; with_reducible exact calls_later (HHS.out _))))
  refine wpQuiet_nil ?_
  intro _ hw'
  obtain ⟨x5, rfl⟩ := hw'
  have H5 := Lib.hid (H2.out.on x5.h)
  have NB5 := Lib.hid (blk_more x5.h NB2.out)
  have M5 := Lib.hid (M2.out.trans x5.h)
  have d5 := blk_cell NB5.out 0 rfl
  clear d0 c4 c5
  generalize x5.w' = w5 at *
  go_wp2_with fail
  have c0 : ∀ x : Later w5, x.w'.cell? ⟨R, 0, none⟩ = some (.int .i64 b.room) := fun x => (H5.out.cells x).1
  have c2 : ∀ x : Later w5, x.w'.cell? ⟨R, 2, none⟩ = some (.slice oa b.holds.length cap) := fun x => (H5.out.cells x).2.2.1
  refine wp_region_later w5 (More.refl _) (by kernel_rfl) (by kernel_rfl) ?_
  repeat (go_big_quiet_step (fail))
  refine wpQuiet_nil ?_
  intro _ hw'
  obtain ⟨x9, rfl⟩ := hw'
  have H9 := Lib.hid (H5.out.on x9.h)
  have NB9 := Lib.hid (blk_more x9.h NB5.out)
  have M9 := Lib.hid (M5.out.trans x9.h)
  have d9 := blk_cell NB9.out 0 rfl
  obtain ⟨_, _, e2, _, _, _⟩ := H9.out.cells ⟨_, More.refl _⟩
  clear c0 c2 d5
  generalize x9.w' = w9 at *
  go_wp2
  go_ret
  exact ⟨rfl, M9.out⟩
set_option maxHeartbeats 4000000 in
theorem Push_same_f (b : Jb) (ok : JOK b) (R : Nat) (v : Value) (n now x : Int) (hn : Num60 n) (w : World) (H : BufAt w R v b) (hbg : b.begun = false) (hs : sameJ b n = true) :
    Calls Try.prog 55 #[.pointer (some ⟨R, 0, none⟩), .int .i64 n, .int .i64 now, .int .i64 x] w fun er w' => er = .returned (.int .i64 10) ∧ More w w' := by
  have hm := num60_mid hn
  have hmh := num60_mid ok.hi
  obtain ⟨hh0, hh1⟩ := ok.hi
  obtain ⟨hn0, hn1⟩ := hn
  have HU := Lib.hid ok.bits
  have H1 := Lib.hid (H.on (More.alloc w (.cells #[.int .i64 n] 2)))
  have n1 := blk_new w (.cells #[.int .i64 n] 2)
  have NB := Lib.hid n1
  have HNX := Lib.hid (Next_any b R v _ H1.out ok.hi)
  have MA := Lib.hid (More.alloc w (.cells #[.int .i64 n] 2))
  have EG : ∀ args w, (callFunc 115 args).run Try.prog w = .ok (.enter 115 args) w := fun args w => by kernel_rfl
  have EG2 : ∀ args w, (callFunc 116 args).run Try.prog w = .ok (.enter 116 args) w := fun args w => by kernel_rfl
  have HL : Hid (Looks 115 #[.pointer (some ⟨w.heap.size, 0, none⟩)] (fun k => k.1 == n) b.holds (w.alloc (.cells #[.int .i64 n] 2))) := Lib.hid fun W' y _ m => SameN_any n _ y W' (blk_more m n1)
  obtain ⟨_, _, c2, _, _, _⟩ := H1.out.cells ⟨_, More.refl _⟩
  have hSz : w.heap.size ≠ R := fun e => by have := lt_of_block H.blk; omega
  obtain ⟨oa, cap, rfl, hl63⟩ := H.row.shape
  have HBG := Lib.hid hbg
  have HSM : Hid ((b.holds.any fun k => k.1 == n) = true) := Lib.hid hs
  have HRw := Lib.hid (lt_of_block H.blk)
  clear H n1 hbg hs
  go_enter Try.func55, Try.ntmps55
  go_wp2_with (first | (go_at_call 113; ((with_reducible refine (HNX.out).mono ?_); rintro e1 w1 ⟨rfl, rfl⟩; rw [HBG.out])) | (go_at_call 117; ((with_reducible refine (ContainsFunc_any _ _ (fun k => k.1 == n) EG b.holds _ (R + 1) _ H1.out.row HL.out).mono ?_); rintro e2 w2 ⟨rfl, m2⟩; rw [HSM.out]; have H2 := Lib.hid (H1.out.on m2); have NB2 := Lib.hid (blk_more m2 NB.out); have M2 := Lib.hid (MA.out.trans m2); clear m2)))
  go_ret
  exact ⟨rfl, M2.out⟩
set_option maxHeartbeats 4000000 in
theorem Push_full_f (b : Jb) (ok : JOK b) (R : Nat) (v : Value) (n now x : Int) (hn : Num60 n) (w : World) (H : BufAt w R v b) (hbg : b.begun = false) (hs : sameJ b n = false) (hf : b.room ≤ b.holds.length) :
    Calls Try.prog 55 #[.pointer (some ⟨R, 0, none⟩), .int .i64 n, .int .i64 now, .int .i64 x] w fun er w' => er = .returned (.int .i64 8) ∧ More w w' := by
  have hm := num60_mid hn
  have hmh := num60_mid ok.hi
  obtain ⟨hh0, hh1⟩ := ok.hi
  obtain ⟨hn0, hn1⟩ := hn
  have HU := Lib.hid ok.bits
  have H1 := Lib.hid (H.on (More.alloc w (.cells #[.int .i64 n] 2)))
  have n1 := blk_new w (.cells #[.int .i64 n] 2)
  have NB := Lib.hid n1
  have HNX := Lib.hid (Next_any b R v _ H1.out ok.hi)
  have MA := Lib.hid (More.alloc w (.cells #[.int .i64 n] 2))
  have EG : ∀ args w, (callFunc 115 args).run Try.prog w = .ok (.enter 115 args) w := fun args w => by kernel_rfl
  have EG2 : ∀ args w, (callFunc 116 args).run Try.prog w = .ok (.enter 116 args) w := fun args w => by kernel_rfl
  have HL : Hid (Looks 115 #[.pointer (some ⟨w.heap.size, 0, none⟩)] (fun k => k.1 == n) b.holds (w.alloc (.cells #[.int .i64 n] 2))) := Lib.hid fun W' y _ m => SameN_any n _ y W' (blk_more m n1)
  obtain ⟨_, _, c2, _, _, _⟩ := H1.out.cells ⟨_, More.refl _⟩
  have hSz : w.heap.size ≠ R := fun e => by have := lt_of_block H.blk; omega
  obtain ⟨oa, cap, rfl, hl63⟩ := H.row.shape
  have HBG := Lib.hid hbg
  have HSM : Hid ((b.holds.any fun k => k.1 == n) = false) := Lib.hid hs
  have HRw := Lib.hid (lt_of_block H.blk)
  clear H n1 hbg hs
  go_enter Try.func55, Try.ntmps55
  go_wp2_with (first | (go_at_call 113; ((with_reducible refine (HNX.out).mono ?_); rintro e1 w1 ⟨rfl, rfl⟩; rw [HBG.out])) | (go_at_call 117; ((with_reducible refine (ContainsFunc_any _ _ (fun k => k.1 == n) EG b.holds _ (R + 1) _ H1.out.row HL.out).mono ?_); rintro e2 w2 ⟨rfl, m2⟩; rw [HSM.out]; have H2 := Lib.hid (H1.out.on m2); have NB2 := Lib.hid (blk_more m2 NB.out); have M2 := Lib.hid (MA.out.trans m2); clear m2)))
  clear HL c2 EG HNX
  generalize w.heap.size = B5 at *
  have d0 : ∀ x : Later w2, x.w'.cell? ⟨B5, 0, none⟩ = some (.int .i64 n) := fun x => blk_cell (blk_more x.h NB2.out) 0 rfl
  have c4 : ∀ x : Later w2, x.w'.cell? ⟨R, 4, none⟩ = some (.int .i64 b.hi) := fun x => (H2.out.cells x).2.2.2.2.1
  have c5 : ∀ x : Later w2, x.w'.cell? ⟨R, 5, none⟩ = some (.int .u64 b.bits) := fun x => (H2.out.cells x).2.2.2.2.2
  refine wp_region_later w2 (More.refl _) (by kernel_rfl) (by kernel_rfl) ?_
  repeat (go_big_quiet_step (fail))
  refine wpQuiet_nil ?_
  intro _ hw'
  obtain ⟨x5, rfl⟩ := hw'
  have H5 := Lib.hid (H2.out.on x5.h)
  have NB5 := Lib.hid (blk_more x5.h NB2.out)
  have M5 := Lib.hid (M2.out.trans x5.h)
  have d5 := blk_cell NB5.out 0 rfl
  clear d0 c4 c5
  generalize x5.w' = w5 at *
  go_wp2_with fail
  have c0 : ∀ x : Later w5, x.w'.cell? ⟨R, 0, none⟩ = some (.int .i64 b.room) := fun x => (H5.out.cells x).1
  have c2 : ∀ x : Later w5, x.w'.cell? ⟨R, 2, none⟩ = some (.slice oa b.holds.length cap) := fun x => (H5.out.cells x).2.2.1
  refine wp_region_later w5 (More.refl _) (by kernel_rfl) (by kernel_rfl) ?_
  repeat (go_big_quiet_step (fail))
  refine wpQuiet_nil ?_
  intro _ hw'
  obtain ⟨x9, rfl⟩ := hw'
  have H9 := Lib.hid (H5.out.on x9.h)
  have NB9 := Lib.hid (blk_more x9.h NB5.out)
  have M9 := Lib.hid (M5.out.trans x9.h)
  have d9 := blk_cell NB9.out 0 rfl
  obtain ⟨_, _, e2, _, _, _⟩ := H9.out.cells ⟨_, More.refl _⟩
  clear c0 c2 d5
  generalize x9.w' = w9 at *
  go_wp2
  go_ret
  exact ⟨rfl, M9.out⟩
end Go.Proofs.Ytlnikmcimmnbmaa
