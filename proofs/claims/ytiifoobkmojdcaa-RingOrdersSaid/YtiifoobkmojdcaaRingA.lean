/- Contracts of package ring, of int. -/
import Derived.Test.YtiifoobkmojdcaaRows
import Derived.Test.YtiifoobkmojdcaaRegion
namespace Go.Proofs.Ytiifoobkmojdcaa
open Go.RowKit
set_option maxRecDepth 100000

/-- What a ring holds. -/
structure RS where
  q : List Int
  closed : Bool
  cin : Int
  cout : Int
  cdrop : Int
  cdrain : Int
/-- The counts are small. -/
def RS.small (s : RS) : Prop := (0 ≤ s.cin ∧ s.cin ≤ 1000000) ∧ (0 ≤ s.cout ∧ s.cout ≤ 1000000) ∧ (0 ≤ s.cdrop ∧ s.cdrop ≤ 1000000) ∧ (0 ≤ s.cdrain ∧ s.cdrain ≤ 1000000)
/-- The ring's own block. -/
def ringCells (A room first : Nat) (s : RS) : Array Value :=
  #[.slice (some ⟨A, 0, none⟩) room room, .int .i64 first, .int .i64 s.q.length, .bool s.closed, .int .i64 s.cin, .int .i64 s.cout, .int .i64 s.cdrop, .int .i64 s.cdrain]
structure RingAt (w : World) (R A room first : Nat) (s : RS) (cells : List Int) : Prop where
  ring : w.heap[R]? = some (.cells (ringCells A room first s) 95 (0, 0))
  row : w.heap[A]? = some (.cells (cells.map (Value.int .i64)).toArray 3 (0, 0))
  ne : R ≠ A
  len : cells.length = room
  pos : 1 ≤ room ∧ room ≤ 8
  fst : first < room
  fits : s.q.length ≤ room
  holds : ∀ i, i < s.q.length → cells.getD ((first + i) % room) 0 = s.q.getD i 0
/-- The two blocks of a ring. -/
def Two2 (R A : Nat) (b : Nat) : Prop := b = R ∨ b = A

theorem RingAt.c0 {w : World} {R A room first : Nat} {s : RS} {cells : List Int} (h : RingAt w R A room first s cells) : w.cell? ⟨R, 0, none⟩ = some (.slice (some ⟨A, 0, none⟩) room room) := blk_cell h.ring 0 rfl
theorem zero_int (w : World) : (zeroValue 3).run Try.prog w = .ok (.int .i64 0) w := by kernel_rfl
theorem clear_one (w : World) (A i c : Nat) (v : Value) (hc : w.cell? ⟨A, i, none⟩ = some v) (hf : w.frozen? ⟨A, i, none⟩ = false) :
    (Builtin.clear_ #[65] 0 #[.slice (some ⟨A, i, none⟩) 1 c]).run Try.prog w = .ok (.tuple #[]) (w.setCell ⟨A, i, none⟩ (.int .i64 0)) := by
  have hz := zero_int w
  unfold Builtin.clear_
  simp [run_underlying Try.underlying65, hz, Value.cells, Builtin.zeroCells, storeCells, Addr.add, hc, hf, go_sem]

theorem mod_step (first i room : Nat) (h : first < room) : ((first + 1) % room + i) % room = (first + (i + 1)) % room := by
  rw [Nat.mod_add_mod]; congr 1; omega
theorem RingAt.took {w : World} {R A room first : Nat} {s : RS} {cells : List Int} (h : RingAt w R A room first s cells) (hq : s.q ≠ []) (n m : Nat) :
    RingAt (((((w.drewN (n + 1)).setCell ⟨A, first, none⟩ (.int .i64 0)).drewN m).setCell ⟨R, 1, none⟩ (.int .i64 ((first + 1) % room : Nat))).setCell ⟨R, 2, none⟩ (.int .i64 s.q.tail.length)) R A room ((first + 1) % room) { s with q := s.q.tail } (cells.set first 0) := by
  have h1 : (((w.drewN (n + 1)).setCell ⟨A, first, none⟩ (.int .i64 0)).drewN m).heap[R]? = some (.cells (ringCells A room first s) 95 (0, 0)) := blk_drewN (blk_other (blk_drewN h.ring _) _ _ h.ne) _
  have h2 : (((w.drewN (n + 1)).setCell ⟨A, first, none⟩ (.int .i64 0)).drewN m).heap[A]? = some (.cells ((cells.set first 0).map (Value.int .i64)).toArray 3 (0, 0)) := by
    refine blk_drewN (blk_eq (blk_set (blk_drewN h.row _) first (.int .i64 0)) ?_) _
    simp [List.map_set]
  have hlen := List.length_pos_iff.2 hq
  refine ⟨blk_eq (blk_set (blk_set h1 1 _) 2 _) rfl, blk_other (blk_other h2 _ _ (Ne.symm h.ne)) _ _ (Ne.symm h.ne), h.ne, by rw [List.length_set]; exact h.len, h.pos, Nat.mod_lt _ (by have := h.pos; omega), by simp only [List.length_tail]; have := h.fits; omega, ?_⟩
  intro i hi
  simp only [List.length_tail] at hi
  rw [mod_step _ _ _ h.fst]
  have hold := h.holds (i + 1) (by omega)
  have hne : (first + (i + 1)) % room ≠ first := by
    intro e
    have hf := h.fst
    have hfit := h.fits
    have h3 : (first + (i + 1)) % room = if first + (i + 1) < room then first + (i + 1) else first + (i + 1) - room := by
      split
      · exact Nat.mod_eq_of_lt (by assumption)
      · rw [Nat.mod_eq_sub_mod (by omega), Nat.mod_eq_of_lt (by omega)]
    rw [h3] at e
    split at e <;> omega
  rw [List.getD_eq_getElem?_getD, List.getElem?_set_ne (Ne.symm hne), ← List.getD_eq_getElem?_getD, hold]
  cases hq' : s.q with
  | nil => exact absurd hq' hq
  | cons x xs => rfl

theorem RingAt.c1 {w : World} {R A room first : Nat} {s : RS} {cells : List Int} (h : RingAt w R A room first s cells) : w.cell? ⟨R, 1, none⟩ = some (.int .i64 first) := blk_cell h.ring 1 rfl
theorem RingAt.c2 {w : World} {R A room first : Nat} {s : RS} {cells : List Int} (h : RingAt w R A room first s cells) : w.cell? ⟨R, 2, none⟩ = some (.int .i64 s.q.length) := blk_cell h.ring 2 rfl
theorem RingAt.c3 {w : World} {R A room first : Nat} {s : RS} {cells : List Int} (h : RingAt w R A room first s cells) : w.cell? ⟨R, 3, none⟩ = some (.bool s.closed) := blk_cell h.ring 3 rfl
theorem RingAt.c4 {w : World} {R A room first : Nat} {s : RS} {cells : List Int} (h : RingAt w R A room first s cells) : w.cell? ⟨R, 4, none⟩ = some (.int .i64 s.cin) := blk_cell h.ring 4 rfl
theorem RingAt.c5 {w : World} {R A room first : Nat} {s : RS} {cells : List Int} (h : RingAt w R A room first s cells) : w.cell? ⟨R, 5, none⟩ = some (.int .i64 s.cout) := blk_cell h.ring 5 rfl
theorem RingAt.c6 {w : World} {R A room first : Nat} {s : RS} {cells : List Int} (h : RingAt w R A room first s cells) : w.cell? ⟨R, 6, none⟩ = some (.int .i64 s.cdrop) := blk_cell h.ring 6 rfl
theorem RingAt.c7 {w : World} {R A room first : Nat} {s : RS} {cells : List Int} (h : RingAt w R A room first s cells) : w.cell? ⟨R, 7, none⟩ = some (.int .i64 s.cdrain) := blk_cell h.ring 7 rfl
theorem RingAt.free {w : World} {R A room first : Nat} {s : RS} {cells : List Int} (h : RingAt w R A room first s cells) (i : Nat) : w.frozen? ⟨R, i, none⟩ = false := blk_free h.ring i
theorem RingAt.afree {w : World} {R A room first : Nat} {s : RS} {cells : List Int} (h : RingAt w R A room first s cells) (i : Nat) : w.frozen? ⟨A, i, none⟩ = false := blk_free h.row i
theorem RingAt.acell {w : World} {R A room first : Nat} {s : RS} {cells : List Int} (h : RingAt w R A room first s cells) (i : Nat) (hi : i < room) : w.cell? ⟨A, i, none⟩ = some (.int .i64 (cells.getD i 0)) :=
  blk_cell h.row i (by have := h.len; simp [List.getD_eq_getElem?_getD, show i < cells.length by omega])

set_option maxHeartbeats 400000 in
theorem take_any (w : World) (R A room first : Nat) (s : RS) (cells : List Int) (h : RingAt w R A room first s cells) (hq : s.q ≠ []) :
    Calls Try.prog 66 #[.pointer (some ⟨R, 0, none⟩)] w fun e w' => e = .returned (.int .i64 (s.q.headD 0)) ∧ RingAt w' R A room ((first + 1) % room) { s with q := s.q.tail } (cells.set first 0) ∧ Away (Two2 R A) w w' := by
  have HR := Lib.hid h
  have r0 := h.c0
  have r1 := h.c1
  have r2 := h.c2
  have a0 := h.acell first h.fst
  have hf := h.fst
  have hfi : (first : Int) < (room : Int) := by have := h.fst; omega
  have hfi0 : 0 ≤ (first : Int) := by omega
  have hp1 := h.pos.1
  have hp2 := h.pos.2
  have hql : (s.q.length : Int) ≤ 8 := by have := h.fits; have := h.pos.2; omega
  have hql0 : 0 ≤ (s.q.length : Int) := by omega
  clear h
  go_enter Try.func66, Try.ntmps66
  go_wp2
  refine wp_region_quiet_lit (by kernel_rfl) (by kernel_rfl) ?_
  repeat (go_big_quiet_step (fail))
  refine wpQuiet_nil ?_
  intro _ hw'
  obtain ⟨nq, rfl⟩ := hw'
  go_wp2_with fail
  have L0 : ∀ x : LaterS (fun b => b = A) w, x.w'.cell? ⟨R, 0, none⟩ = some (.slice (some ⟨A, 0, none⟩) room room) := fun x => x.cell (blk_lt HR.out.ring) HR.out.ne HR.out.c0
  have L1 : ∀ x : LaterS (fun b => b = A) w, x.w'.cell? ⟨R, 1, none⟩ = some (.int .i64 first) := fun x => x.cell (blk_lt HR.out.ring) HR.out.ne HR.out.c1
  refine wp_region_numS (fun b => b = A) w 15 [(0, false), (1, false), (2, false), (3, false), (4, false), (5, false), (6, false), (7, false), (8, false), (9, false), (10, false), (11, false), (12, false), (13, false), (14, true)] (by kernel_rfl) (by kernel_rfl) ?_
  iterate 14 (refine num_quiet rfl rfl (laterS_mk (by repeat (first | exact Away.refl _ _ | assumption | refine Away.drewN ?_ _ | refine Away.set ?_ (by first | rfl | exact Or.inl rfl | exact Or.inr rfl) _))) ?_; intro K hK; go_big_quiet_op; go_big_quiet_on)
  refine num_next rfl rfl ?_
  intro K hK
  have hcl := clear_one (w.drewN (nq + 1)) A first (room - first) _ (HR.out.acell first HR.out.fst) (HR.out.afree first)
  unfold loud
  go_simp
  refine ⟨laterS_mk (by repeat (first | exact Away.refl _ _ | assumption | refine Away.drewN ?_ _ | refine Away.set ?_ (by first | rfl | exact Or.inl rfl | exact Or.inr rfl) _)), hK _ _ ?_⟩
  clear hK K hcl
  refine num_nil ?_
  go_wp2_with fail
  refine wp_region_numS (fun b => b = A) w 14 [(0, false), (1, false), (2, false), (3, false), (4, false), (5, false), (6, false), (7, false), (8, false), (9, false), (10, false), (11, false), (12, true), (13, false), (14, true)] (by kernel_rfl) (by kernel_rfl) ?_
  iterate 12 (refine num_quiet rfl rfl (laterS_mk (by repeat (first | exact Away.refl _ _ | assumption | refine Away.drewN ?_ _ | refine Away.set ?_ (by first | rfl | exact Or.inl rfl | exact Or.inr rfl) _))) ?_; intro K hK; go_big_quiet_op; go_big_quiet_on)
  (refine num_next rfl rfl ?_; intro K hK; unfold loud; go_simp)
  refine ⟨laterS_mk (by repeat (first | exact Away.refl _ _ | assumption | refine Away.drewN ?_ _ | refine Away.set ?_ (by first | rfl | exact Or.inl rfl | exact Or.inr rfl) _)), hK _ _ ?_⟩
  clear hK K
  iterate 1 (refine num_quiet rfl rfl (laterS_mk (by repeat (first | exact Away.refl _ _ | assumption | refine Away.drewN ?_ _ | refine Away.set ?_ (by first | rfl | exact Or.inl rfl | exact Or.inr rfl) _))) ?_; intro K hK; go_big_quiet_op; go_big_quiet_on)
  have hne : ¬ R = A := HR.out.ne
  have hne' : ¬ A = R := fun e => hne e.symm
  have fr1 := HR.out.free 1
  have fr2 := HR.out.free 2
  (refine num_end rfl rfl (by decide) ?_; intro K hK; unfold loud; go_simp)
  refine hK _ _ ?_
  clear hK K
  refine num_nil ?_
  go_wp2
  go_ret
  refine ⟨ret_int ?_, ?_, (by repeat (first | exact Away.refl _ _ | assumption | refine Away.drewN ?_ _ | refine Away.set ?_ (by first | rfl | exact Or.inl rfl | exact Or.inr rfl) _))⟩
  · have := HR.out.holds 0 (List.length_pos_iff.2 hq)
    rw [Nat.add_zero, Nat.mod_eq_of_lt hf, List.getD_eq_getElem?_getD] at this
    rw [this]
    cases hq' : s.q with
    | nil => exact absurd hq' hq
    | cons x xs => rfl
  · have h := HR.out
    have e1 : ((first : Int) + 1) % (room : Int) = (((first + 1) % room : Nat) : Int) := by rw [Int.natCast_emod]; rfl
    have e2 : (s.q.length : Int) - 1 = (s.q.tail.length : Int) := by rw [List.length_tail]; have := List.length_pos_iff.2 hq; omega
    rw [e1, e2]
    exact h.took hq nq 1
end Go.Proofs.Ytiifoobkmojdcaa
