/- Contracts of package ring, of int: what tells, and what closes. -/
import Derived.Test.YtiifoobkmojdcaaRingA
namespace Go.Proofs.Ytiifoobkmojdcaa
open Go.RowKit
set_option maxRecDepth 100000

theorem RLen_any {w : World} {R A room first : Nat} {s : RS} {cells : List Int} (h : RingAt w R A room first s cells) :
    Calls Try.prog 40 #[.pointer (some ⟨R, 0, none⟩)] w fun e w' => e = .returned (.int .i64 s.q.length) ∧ w' = w := by
  have r2 := h.c2
  clear h
  go_enter Try.func40, Try.ntmps40
  go_wp2
  go_ret
  exact ⟨rfl, rfl⟩

theorem RClosed_any {w : World} {R A room first : Nat} {s : RS} {cells : List Int} (h : RingAt w R A room first s cells) :
    Calls Try.prog 41 #[.pointer (some ⟨R, 0, none⟩)] w fun e w' => e = .returned (.bool s.closed) ∧ w' = w := by
  have r3 := h.c3
  clear h
  go_enter Try.func41, Try.ntmps41
  go_wp2
  go_ret
  exact ⟨rfl, rfl⟩

theorem RFull_any {w : World} {R A room first : Nat} {s : RS} {cells : List Int} (h : RingAt w R A room first s cells) :
    Calls Try.prog 65 #[.pointer (some ⟨R, 0, none⟩)] w fun e w' => e = .returned (.bool (decide (s.q.length = room))) ∧ ∃ k, w' = w.drewN k := by
  have r0 := h.c0
  have r2 := h.c2
  have hd : ((s.q.length : Int) == (room : Int)) = decide (s.q.length = room) := by by_cases e : s.q.length = room <;> simp [e]; omega
  clear h
  go_enter Try.func65, Try.ntmps65
  go_wp2
  refine wp_region_quiet_lit (by kernel_rfl) (by kernel_rfl) ?_
  repeat (go_big_quiet_step (fail))
  refine wpQuiet_nil ?_
  intro _ hw'
  obtain ⟨nq, rfl⟩ := hw'
  go_wp2
  go_ret
  exact ⟨rfl, nq, rfl⟩

theorem RCounts_any {w : World} {R A room first : Nat} {s : RS} {cells : List Int} (h : RingAt w R A room first s cells) :
    Calls Try.prog 39 #[.pointer (some ⟨R, 0, none⟩)] w fun e w' => e = .returned (.agg #[.int .i64 s.cin, .int .i64 s.cout, .int .i64 s.cdrop, .int .i64 s.cdrain]) ∧ More w w' := by
  have r4 := blk_cell (blk_alloc h.ring (.cells #[.int .i64 0, .int .i64 0, .int .i64 0, .int .i64 0] 58)) 4 (v := .int .i64 s.cin) rfl
  have r5 := blk_cell (blk_alloc h.ring (.cells #[.int .i64 0, .int .i64 0, .int .i64 0, .int .i64 0] 58)) 5 (v := .int .i64 s.cout) rfl
  have r6 := blk_cell (blk_alloc h.ring (.cells #[.int .i64 0, .int .i64 0, .int .i64 0, .int .i64 0] 58)) 6 (v := .int .i64 s.cdrop) rfl
  have r7 := blk_cell (blk_alloc h.ring (.cells #[.int .i64 0, .int .i64 0, .int .i64 0, .int .i64 0] 58)) 7 (v := .int .i64 s.cdrain) rfl
  clear h
  go_enter Try.func39, Try.ntmps39
  go_wp2
  refine bodyPost_ret (v := .agg #[.int .i64 s.cin, .int .i64 s.cout, .int .i64 s.cdrop, .int .i64 s.cdrain]) (by simp [results, Try.results39, go_sem]) rfl ?_
  exact ⟨rfl, (by repeat (first | exact More.refl _ | assumption | refine More.dr ?_ _ | refine More.al ?_ _ | refine More.st ?_ (by simp) _))⟩

theorem RClose_any {w : World} {R A room first : Nat} {s : RS} {cells : List Int} (h : RingAt w R A room first s cells) :
    Calls Try.prog 45 #[.pointer (some ⟨R, 0, none⟩)] w fun e w' => e = .returned (.bool (!s.closed)) ∧ RingAt w' R A room first { s with closed := true } cells ∧ Away (Two2 R A) w w' := by
  have r3 := h.c3
  have fr3 := h.free 3
  have HR := Lib.hid h
  clear h
  go_enter Try.func45, Try.ntmps45
  go_wp2
  go_ret
  refine ⟨rfl, ?_, (by repeat (first | exact Away.refl _ _ | assumption | refine Away.drewN ?_ _ | refine Away.set ?_ (by first | rfl | exact Or.inl rfl | exact Or.inr rfl) _))⟩
  have h := HR.out
  exact { h with ring := blk_eq (blk_set h.ring 3 _) rfl, row := blk_other h.row _ _ (Ne.symm h.ne) }

theorem RNew_bad (n : Int) (hn : n < 1 ∨ 8 < n) (w : World) :
    Calls Try.prog 38 #[.int .i64 n] w fun e w' => (∃ x, e = .returned (.tuple #[.pointer none, .int .i64 x])) ∧ More w w' := by
  go_enter Try.func38, Try.ntmps38
  go_wp2
  all_goals (refine bodyPost_ret (v := .tuple #[.pointer none, .int .i64 1]) (by simp [results, Try.results38, go_sem]) rfl ?_; exact ⟨⟨_, rfl⟩, (by repeat (first | exact More.refl _ | assumption | refine More.dr ?_ _ | refine More.al ?_ _ | refine More.st ?_ (by simp) _))⟩)
theorem mk_ints (n : Nat) (hn : n ≤ 100000) (w : World) :
    (Instr.makeSlice 65 (.int .i64 (n : Int)) (.int .i64 (n : Int))).run Try.prog w = .ok (.slice (some ⟨w.heap.size, 0, none⟩) n n) (w.alloc (.cells ((List.replicate n (0 : Int)).map (Value.int .i64)).toArray 3)) := by
  obtain ⟨i0, hi, hz0, hz1, hz2⟩ := info_parts (P := Try.prog) (e := 3) (z := .int .i64 0) (size := 1) (bytes := 8) (by kernel_rfl)
  have hr := run_make (P := Try.prog) w 65 3 i0 (.int .i64 0) Try.underlying65 hi hz0 .i64 .i64 n n (by omega) (by omega) (by rw [hz2]; omega) (by omega)
  rw [hr]
  simp only [Int.toNat_natCast, hz1, Nat.mul_one]
  rw [show madeCells (Value.int .i64 0).cells n = (madeCells #[Value.int .i64 0] n).toList.toArray from by simp [Value.cells], toList_madeCells_one]
  simp

theorem RNew_good (m : Int) (n : Nat) (hmn : m = n) (h1 : 1 ≤ n) (h2 : n ≤ 8) (w : World) :
    Calls Try.prog 38 #[.int .i64 m] w fun e w' => ∃ R A : Nat, e = .returned (.tuple #[.pointer (some ⟨R, 0, none⟩), .int .i64 0]) ∧ w.heap.size ≤ R ∧ w.heap.size ≤ A ∧ RingAt w' R A n 0 ⟨[], false, 0, 0, 0, 0⟩ (List.replicate n 0) ∧ More w w' := by
  subst hmn
  have g1 : 1 ≤ (n : Int) := by omega
  have g2 : (n : Int) ≤ 8 := by omega
  go_enter Try.func38, Try.ntmps38
  have hmk := mk_ints n (by omega)
  go_wp2
  refine bodyPost_ret (v := .tuple #[.pointer (some ⟨w.heap.size + 1, 0, none⟩), .int .i64 0]) (by simp [results, Try.results38, go_sem]) rfl ?_
  refine ⟨w.heap.size + 1, w.heap.size, rfl, by omega, by omega, ?_, (by repeat (first | exact More.refl _ | assumption | refine More.dr ?_ _ | refine More.al ?_ _ | refine More.st ?_ (by simp) _))⟩
  refine ⟨blk_new2 (by simp), blk_alloc (blk_eq (blk_new _ _) (by simp)) _, by omega, by simp, ⟨h1, h2⟩, by omega, by simp, ?_⟩
  intro i hi
  simp at hi

/-- What came in, of a ring that is not full. -/
def RS.put (s : RS) (x : Int) : RS := { s with q := s.q ++ [x], cin := s.cin + 1 }
/-- What the oldest one left. -/
def RS.drop (s : RS) : RS := { s with q := s.q.tail, cdrop := s.cdrop + 1 }
theorem RPush_closed {w : World} {R A room first : Nat} {s : RS} {cells : List Int} (h : RingAt w R A room first s cells) (hc : s.closed = true) (x : Int) :
    Calls Try.prog 42 #[.pointer (some ⟨R, 0, none⟩), .int .i64 x] w fun e w' => e = .returned (.tuple #[.int .i64 0, .bool false, .int .i64 7]) ∧ w' = w := by
  have r3 := h.c3
  rw [hc] at r3
  clear h
  go_enter Try.func42, Try.ntmps42
  go_wp2
  refine bodyPost_ret (v := .tuple #[.int .i64 0, .bool false, .int .i64 7]) (by simp [results, Try.results42, go_sem]) rfl ?_
  exact ⟨rfl, rfl⟩

theorem RingAt.more {w w' : World} {R A room first : Nat} {s : RS} {cells : List Int} (h : RingAt w R A room first s cells) (m : More w w') : RingAt w' R A room first s cells :=
  { h with ring := blk_more m h.ring, row := blk_more m h.row }
theorem RingAt.drewN {w : World} {R A room first : Nat} {s : RS} {cells : List Int} (h : RingAt w R A room first s cells) (k : Nat) : RingAt (w.drewN k) R A room first s cells :=
  { h with ring := blk_drewN h.ring k, row := blk_drewN h.row k }
theorem RingAt.dropped {w : World} {R A room first : Nat} {s : RS} {cells : List Int} (h : RingAt w R A room first s cells) : RingAt (w.setCell ⟨R, 6, none⟩ (.int .i64 (s.cdrop + 1))) R A room first { s with cdrop := s.cdrop + 1 } cells :=
  { h with ring := blk_eq (blk_set h.ring 6 _) rfl, row := blk_other h.row _ _ (Ne.symm h.ne) }
theorem RingAt.put {w : World} {R A room first : Nat} {s : RS} {cells : List Int} (h : RingAt w R A room first s cells) (hq : s.q.length < room) (x : Int) :
    RingAt (((w.setCell ⟨A, (first + s.q.length) % room, none⟩ (.int .i64 x)).setCell ⟨R, 2, none⟩ (.int .i64 (s.q.length + 1 : Int))).setCell ⟨R, 4, none⟩ (.int .i64 (s.cin + 1))) R A room first (s.put x) (cells.set ((first + s.q.length) % room) x) := by
  have h1 : (w.setCell ⟨A, (first + s.q.length) % room, none⟩ (.int .i64 x)).heap[R]? = some (.cells (ringCells A room first s) 95 (0, 0)) := blk_other h.ring _ _ h.ne
  have h2 : (w.setCell ⟨A, (first + s.q.length) % room, none⟩ (.int .i64 x)).heap[A]? = some (.cells ((cells.set ((first + s.q.length) % room) x).map (Value.int .i64)).toArray 3 (0, 0)) := by
    refine blk_eq (blk_set h.row _ (.int .i64 x)) ?_
    simp [List.map_set]
  refine ⟨blk_eq (blk_set (blk_set h1 2 _) 4 _) ?_, blk_other (blk_other h2 _ _ (Ne.symm h.ne)) _ _ (Ne.symm h.ne), h.ne, by rw [List.length_set]; exact h.len, h.pos, h.fst, by simp only [RS.put, List.length_append, List.length_singleton]; omega, ?_⟩
  · simp [ringCells, RS.put]
  intro i hi
  simp only [RS.put, List.length_append, List.length_singleton] at hi
  have hf := h.fst
  by_cases e : i = s.q.length
  · subst e
    rw [List.getD_eq_getElem?_getD, List.getElem?_set_self (by rw [h.len]; exact Nat.mod_lt _ (by omega))]
    simp [RS.put]
  · have hne : (first + i) % room ≠ (first + s.q.length) % room := by
      intro e2
      have h3 : ∀ j, j < room → (first + j) % room = if first + j < room then first + j else first + j - room := by
        intro j hj
        split
        · exact Nat.mod_eq_of_lt (by assumption)
        · rw [Nat.mod_eq_sub_mod (by omega), Nat.mod_eq_of_lt (by omega)]
      rw [h3 i (by omega), h3 _ hq] at e2
      split at e2 <;> split at e2 <;> omega
    rw [List.getD_eq_getElem?_getD, List.getElem?_set_ne (Ne.symm hne), ← List.getD_eq_getElem?_getD, h.holds i (by omega)]
    simp only [RS.put, List.getD_eq_getElem?_getD]
    rw [List.getElem?_append_left (by omega)]

set_option maxHeartbeats 400000 in
theorem RPush_room {w : World} {R A room first : Nat} {s : RS} {cells : List Int} (h : RingAt w R A room first s cells) (hs : s.small) (hc : s.closed = false) (hq : s.q.length < room) (x : Int) :
    Calls Try.prog 42 #[.pointer (some ⟨R, 0, none⟩), .int .i64 x] w fun e w' => e = .returned (.tuple #[.int .i64 0, .bool false, .int .i64 0]) ∧ RingAt w' R A room first (s.put x) (cells.set ((first + s.q.length) % room) x) ∧ Away (Two2 R A) w w' := by
  have r3 := h.c3
  rw [hc] at r3
  have HR := Lib.hid h
  have HS := Lib.hid hs
  have hd : decide (s.q.length = room) = false := by simp; omega
  clear h hs
  go_enter Try.func42, Try.ntmps42
  go_wp2_with (go_at_call 65; refine (RFull_any HR.out).mono ?_; rintro e w1 ⟨rfl, k1, rfl⟩; rw [hd])
  have L0 : ∀ x : Later (w.drewN k1), x.w'.cell? ⟨R, 0, none⟩ = some (.slice (some ⟨A, 0, none⟩) room room) := fun x => ((HR.out.drewN k1).more x.h).c0
  have L1 : ∀ x : Later (w.drewN k1), x.w'.cell? ⟨R, 1, none⟩ = some (.int .i64 first) := fun x => ((HR.out.drewN k1).more x.h).c1
  have L2 : ∀ x : Later (w.drewN k1), x.w'.cell? ⟨R, 2, none⟩ = some (.int .i64 s.q.length) := fun x => ((HR.out.drewN k1).more x.h).c2
  have a1 := HR.out.acell ((first + s.q.length) % room) (Nat.mod_lt _ (by omega))
  have a2 := HR.out.afree ((first + s.q.length) % room)
  have hm : ((first : Int) + (s.q.length : Int)) % (room : Int) = (((first + s.q.length) % room : Nat) : Int) := by rw [Int.natCast_emod]; rfl
  have hi : (((first + s.q.length) % room : Nat) : Int) < (room : Int) := by have := Nat.mod_lt (first + s.q.length) (show 0 < room by omega); omega
  have hf := HR.out.fst
  have hfi : (first : Int) ≤ 8 := by have := HR.out.pos; omega
  have hfi0 : 0 ≤ (first : Int) := by omega
  have hql : (s.q.length : Int) ≤ 8 := by have := HR.out.pos; omega
  have hql0 : 0 ≤ (s.q.length : Int) := by omega
  have hrm : 1 ≤ (room : Int) := by omega
  generalize hI : (first + s.q.length) % room = I at *
  refine wp_region_num (w.drewN k1) 21 [(0, false), (1, false), (2, false), (3, false), (4, false), (5, false), (6, false), (7, false), (8, false), (9, false), (10, false), (11, false), (12, false), (13, false), (14, false), (15, false), (16, false), (17, false), (18, false), (19, false), (20, false), (21, true)] (by kernel_rfl) (by kernel_rfl) ?_
  iterate 21 (refine num_quiet rfl rfl (later_mk (by repeat (first | exact More.refl _ | assumption | refine More.dr ?_ _ | refine More.al ?_ _ | refine More.st ?_ (by simp) _))) ?_; intro K hK; go_big_quiet_op; go_big_quiet_on)
  (refine num_end rfl rfl (by decide) ?_; intro K hK; unfold loud; go_simp)
  refine hK _ _ ?_
  clear hK K
  refine num_nil ?_
  have hne : ¬ R = A := HR.out.ne
  have hne' : ¬ A = R := fun e => hne e.symm
  have fr2 := HR.out.free 2
  have fr4 := HR.out.free 4
  have r2 := HR.out.c2
  have r4 := HR.out.c4
  have hci : s.cin ≤ 1000000 := HS.out.1.2
  have hci0 : 0 ≤ s.cin := HS.out.1.1
  go_wp2
  refine bodyPost_ret (v := .tuple #[.int .i64 0, .bool false, .int .i64 0]) (by simp [results, Try.results42, go_sem]) rfl ?_
  refine ⟨rfl, ?_, (by repeat (first | exact Away.refl _ _ | assumption | refine Away.drewN ?_ _ | refine Away.set ?_ (by first | rfl | exact Or.inl rfl | exact Or.inr rfl) _))⟩
  rw [← hI]
  exact (HR.out.drewN _).put hq x

set_option maxHeartbeats 1000000 in
theorem RPush_full {w : World} {R A room first : Nat} {s : RS} {cells : List Int} (h : RingAt w R A room first s cells) (hs : s.small) (hc : s.closed = false) (hq : s.q.length = room) (x : Int) :
    Calls Try.prog 42 #[.pointer (some ⟨R, 0, none⟩), .int .i64 x] w fun e w' => e = .returned (.tuple #[.int .i64 (s.q.headD 0), .bool true, .int .i64 0]) ∧ (∃ cells', RingAt w' R A room ((first + 1) % room) (s.drop.put x) cells') ∧ Away (Two2 R A) w w' := by
  have r3 := h.c3
  rw [hc] at r3
  have HR0 := Lib.hid h
  have HS := Lib.hid hs
  have hd : decide (s.q.length = room) = true := by simp [hq]
  have hqn : s.q ≠ [] := by have := h.pos; intro e; rw [e] at hq; simp at hq; omega
  have hcd : s.cdrop ≤ 1000000 := hs.2.2.1.2
  have hcd0 : 0 ≤ s.cdrop := hs.2.2.1.1
  clear h hs
  go_enter Try.func42, Try.ntmps42
  go_wp2_with first | (go_at_call 65; refine (RFull_any HR0.out).mono ?_; rintro e w1 ⟨rfl, k1, rfl⟩; rw [hd]) | (go_at_call 66; refine (take_any _ R A room first s cells (HR0.out.drewN _) hqn).mono ?_; rintro e w1 ⟨rfl, h1, ha1⟩; have r6 := h1.c6; have fr6 := h1.free 6; have HR : Hid (RingAt _ R A room _ s.drop _) := Lib.hid h1.dropped; clear h1)
  have hq1 : s.drop.q.length < room := by have := HR.out.pos; simp only [RS.drop, List.length_tail]; omega
  have hci9 : 0 ≤ s.drop.cin ∧ s.drop.cin ≤ 1000000 := HS.out.1
  have HA : Hid (Away (Two2 R A) w (w1.setCell ⟨R, 6, none⟩ (.int .i64 (s.cdrop + 1)))) := Lib.hid ((((Away.refl _ w).drewN k1).trans ha1).set (Or.inl rfl) _)
  obtain ⟨s1, hs1⟩ : ∃ s1, Hid (s1 = s.drop) := ⟨_, Lib.hid rfl⟩
  rw [← hs1.out] at HR hq1 hci9
  clear r6 fr6 ha1
  obtain ⟨fst1, hfst⟩ : ∃ fst1, Hid (fst1 = (first + 1) % room) := ⟨_, Lib.hid rfl⟩
  rw [← hfst.out] at HR
  generalize cells.set first 0 = cs1 at *
  generalize w1.setCell ⟨R, 6, none⟩ (.int .i64 (s.cdrop + 1)) = W2 at *
  clear hq hcd hcd0 r3
  have L0 : ∀ x : Later (W2), x.w'.cell? ⟨R, 0, none⟩ = some (.slice (some ⟨A, 0, none⟩) room room) := fun x => ((HR.out).more x.h).c0
  have L1 : ∀ x : Later (W2), x.w'.cell? ⟨R, 1, none⟩ = some (.int .i64 fst1) := fun x => ((HR.out).more x.h).c1
  have L2 : ∀ x : Later (W2), x.w'.cell? ⟨R, 2, none⟩ = some (.int .i64 s1.q.length) := fun x => ((HR.out).more x.h).c2
  have a1 := HR.out.acell ((fst1 + s1.q.length) % room) (Nat.mod_lt _ (by omega))
  have a2 := HR.out.afree ((fst1 + s1.q.length) % room)
  have hm : ((fst1 : Int) + (s1.q.length : Int)) % (room : Int) = (((fst1 + s1.q.length) % room : Nat) : Int) := by rw [Int.natCast_emod]; rfl
  have hi : (((fst1 + s1.q.length) % room : Nat) : Int) < (room : Int) := by have := Nat.mod_lt (fst1 + s1.q.length) (show 0 < room by omega); omega
  have hf := HR.out.fst
  have hfi : (fst1 : Int) ≤ 8 := by have := HR.out.pos; omega
  have hfi0 : 0 ≤ (fst1 : Int) := by omega
  have hql : (s1.q.length : Int) ≤ 8 := by have := HR.out.pos; omega
  have hql0 : 0 ≤ (s1.q.length : Int) := by omega
  have hrm : 1 ≤ (room : Int) := by omega
  generalize hI : (fst1 + s1.q.length) % room = I at *
  refine wp_region_num (W2) 21 [(0, false), (1, false), (2, false), (3, false), (4, false), (5, false), (6, false), (7, false), (8, false), (9, false), (10, false), (11, false), (12, false), (13, false), (14, false), (15, false), (16, false), (17, false), (18, false), (19, false), (20, false), (21, true)] (by kernel_rfl) (by kernel_rfl) ?_
  iterate 21 (refine num_quiet rfl rfl (later_mk (by repeat (first | exact More.refl _ | assumption | refine More.dr ?_ _ | refine More.al ?_ _ | refine More.st ?_ (by simp) _))) ?_; intro K hK; go_big_quiet_op; go_big_quiet_on)
  (refine num_end rfl rfl (by decide) ?_; intro K hK; unfold loud; go_simp)
  refine hK _ _ ?_
  clear hK K
  refine num_nil ?_
  have hne : ¬ R = A := HR.out.ne
  have hne' : ¬ A = R := fun e => hne e.symm
  have fr2 := HR.out.free 2
  have fr4 := HR.out.free 4
  have r2 := HR.out.c2
  have r4 := HR.out.c4
  have hci : s1.cin ≤ 1000000 := hci9.2
  have hci0 : 0 ≤ s1.cin := hci9.1
  go_wp2
  refine bodyPost_ret (v := .tuple #[.int .i64 (s.q.headD 0), .bool true, .int .i64 0]) (by simp [results, Try.results42, go_sem]) rfl ?_
  refine ⟨rfl, ⟨cs1.set I x, ?_⟩, by have := HA.out; exact (by repeat (first | exact Away.refl _ _ | assumption | refine Away.drewN ?_ _ | refine Away.set ?_ (by first | rfl | exact Or.inl rfl | exact Or.inr rfl) _))⟩
  rw [← hI, ← hs1.out, ← hfst.out]
  exact (HR.out.drewN _).put hq1 x


theorem RPop_none {w : World} {R A room first : Nat} {s : RS} {cells : List Int} (h : RingAt w R A room first s cells) (hq : s.q = []) :
    Calls Try.prog 43 #[.pointer (some ⟨R, 0, none⟩)] w fun e w' => e = .returned (.tuple #[.int .i64 0, .bool false]) ∧ w' = w := by
  have r2 := h.c2
  rw [hq] at r2
  simp at r2
  clear h
  go_enter Try.func43, Try.ntmps43
  go_wp2
  refine bodyPost_ret (v := .tuple #[.int .i64 0, .bool false]) (by simp [results, Try.results43, go_sem]) rfl ?_
  exact ⟨rfl, rfl⟩

/-- What the oldest one left, going out. -/
def RS.pop (s : RS) : RS := { s with q := s.q.tail, cout := s.cout + 1 }
theorem RingAt.outed {w : World} {R A room first : Nat} {s : RS} {cells : List Int} (h : RingAt w R A room first s cells) : RingAt (w.setCell ⟨R, 5, none⟩ (.int .i64 (s.cout + 1))) R A room first { s with cout := s.cout + 1 } cells :=
  { h with ring := blk_eq (blk_set h.ring 5 _) rfl, row := blk_other h.row _ _ (Ne.symm h.ne) }
theorem RPop_some {w : World} {R A room first : Nat} {s : RS} {cells : List Int} (h : RingAt w R A room first s cells) (hs : s.small) (hq : s.q ≠ []) :
    Calls Try.prog 43 #[.pointer (some ⟨R, 0, none⟩)] w fun e w' => e = .returned (.tuple #[.int .i64 (s.q.headD 0), .bool true]) ∧ RingAt w' R A room ((first + 1) % room) s.pop (cells.set first 0) ∧ Away (Two2 R A) w w' := by
  have r2 := h.c2
  have r5 := h.c5
  have fr5 := h.free 5
  have HR := Lib.hid h.outed
  have hl : 1 ≤ (s.q.length : Int) := by have := List.length_pos_iff.2 hq; omega
  have hl8 : (s.q.length : Int) ≤ 8 := by have := h.fits; have := h.pos.2; omega
  have hcd : s.cout ≤ 1000000 := hs.2.1.2
  have hcd0 : 0 ≤ s.cout := hs.2.1.1
  clear h
  go_enter Try.func43, Try.ntmps43
  go_wp2_with (go_at_call 66; refine (take_any _ R A room first { s with cout := s.cout + 1 } cells HR.out hq).mono ?_; rintro e w1 ⟨rfl, h1, ha1⟩)
  refine bodyPost_ret (v := .tuple #[.int .i64 (s.q.headD 0), .bool true]) (by simp [results, Try.results43, go_sem]) rfl ?_
  exact ⟨rfl, h1, ((Away.refl _ w).set (Or.inl rfl) _).trans ha1⟩
end Go.Proofs.Ytiifoobkmojdcaa
