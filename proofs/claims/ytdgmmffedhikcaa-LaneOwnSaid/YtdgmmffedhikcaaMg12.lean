/- Merged from my texts LaneCI, LaneDI. -/
import Derived.Test.YtdgmmffedhikcaaMg11
/- Contracts of package ring at 41: Len, Full, New, Pop. (printed by gen_laneC.py) -/
namespace Go.Proofs.Ytdgmmffedhikcaa
set_option linter.unusedSimpArgs false
set_option linter.unusedVariables false
open Go.RowKit
set_option maxRecDepth 100000

theorem lenI {w : World} {R A room first : Nat} {q : List (List Value)} {ci co cd cg : Int} {css : List (List Value)} (h : RgAt 13 148 41 w R A room first q ci co cd cg css) :
    Calls Try.prog 36 #[.pointer (some ⟨R, 0, none⟩)] w fun e w' => e = .returned (.int .i64 q.length) ∧ w' = w := by
  have r2 : w.cell? ⟨R, 2, none⟩ = some (.int .i64 q.length) := blk_cell h.ring 2 rfl
  clear h
  go_enter Try.func36, Try.ntmps36
  go_wp2
  go_ret
  exact ⟨rfl, rfl⟩
theorem fullI {w : World} {R A room first : Nat} {q : List (List Value)} {ci co cd cg : Int} {css : List (List Value)} (h : RgAt 13 148 41 w R A room first q ci co cd cg css) :
    Calls Try.prog 68 #[.pointer (some ⟨R, 0, none⟩)] w fun e w' => e = .returned (.bool (decide (q.length = room))) ∧ ∃ k, w' = w.drewN k := by
  have r0 : w.cell? ⟨R, 0, none⟩ = some (.slice (some ⟨A, 0, none⟩) room room) := blk_cell h.ring 0 rfl
  have r2 : w.cell? ⟨R, 2, none⟩ = some (.int .i64 q.length) := blk_cell h.ring 2 rfl
  have hd : ((q.length : Int) == (room : Int)) = decide (q.length = room) := by by_cases e : q.length = room <;> simp [e]; omega
  clear h
  go_enter Try.func68, Try.ntmps68
  go_wp2
  refine wp_region_quiet_lit (by kernel_rfl) (by kernel_rfl) ?_
  repeat (go_big_quiet_step (fail))
  refine wpQuiet_nil ?_
  intro _ hw'
  obtain ⟨nq, rfl⟩ := hw'
  go_wp2
  go_ret
  exact ⟨rfl, nq, rfl⟩
theorem newI_bad (m : Int) (hm : m < 1 ∨ 8 < m) (w : World) :
    Calls Try.prog 31 #[.int .i64 m] w fun e w' => e = .returned (.tuple #[.pointer none, .int .i64 1]) ∧ More w w' := by
  go_enter Try.func31, Try.ntmps31
  go_wp2
  all_goals (refine bodyPost_ret (v := .tuple #[.pointer none, .int .i64 1]) (by simp [results, Try.results31, go_sem]) rfl ?_; exact ⟨rfl, (by repeat (first | exact More.refl _ | assumption | refine More.dr ?_ _ | refine More.al ?_ _ | refine More.st ?_ (by simp) _))⟩)
theorem mkI (n : Nat) (h1 : 1 ≤ n) (hn : n ≤ 8) (w : World) :
    (Instr.makeSlice 58 (.int .i64 (n : Int)) (.int .i64 (n : Int))).run Try.prog w = .ok (.slice (some ⟨w.heap.size, 0, none⟩) n n) (w.alloc (.cells (List.replicate n [.int .i64 0, .int .i64 0, .bool false, .bool false, .int .u8 0, .int .u16 0, .int .u32 0, .int .u32 0, .slice none 0 0, .bool false, .int .u16 0, .slice none 0 0, .slice none 0 0]).flatten.toArray 41)) := by
  obtain ⟨i0, hi, hz0, hz1, hz2⟩ := info_parts (P := Try.prog) (e := 41) (z := .agg #[.int .i64 0, .int .i64 0, .bool false, .bool false, .int .u8 0, .int .u16 0, .int .u32 0, .int .u32 0, .slice none 0 0, .bool false, .int .u16 0, .slice none 0 0, .slice none 0 0]) (size := 13) (bytes := 120) (by kernel_rfl)
  have hr := run_make (P := Try.prog) w 58 41 i0 (.agg #[.int .i64 0, .int .i64 0, .bool false, .bool false, .int .u8 0, .int .u16 0, .int .u32 0, .int .u32 0, .slice none 0 0, .bool false, .int .u16 0, .slice none 0 0, .slice none 0 0]) Try.underlying58 hi hz0 .i64 .i64 n n (by omega) (by omega) (by rw [hz2]; omega) (by omega)
  rw [hr]
  simp only [Int.toNat_natCast, hz1]
  rw [lnMade _ 13 n rfl (by decide)]
  rfl
theorem newI_good (m : Int) (n : Nat) (hmn : m = n) (h1 : 1 ≤ n) (h2 : n ≤ 8) (w : World) :
    Calls Try.prog 31 #[.int .i64 m] w fun e w' => e = .returned (.tuple #[.pointer (some ⟨w.heap.size + 1, 0, none⟩), .int .i64 0]) ∧ RgAt 13 148 41 w' (w.heap.size + 1) w.heap.size n 0 [] 0 0 0 0 (List.replicate n [.int .i64 0, .int .i64 0, .bool false, .bool false, .int .u8 0, .int .u16 0, .int .u32 0, .int .u32 0, .slice none 0 0, .bool false, .int .u16 0, .slice none 0 0, .slice none 0 0]) ∧ More w w' := by
  subst hmn
  have g1 : 1 ≤ (n : Int) := by omega
  have g2 : (n : Int) ≤ 8 := by omega
  go_enter Try.func31, Try.ntmps31
  have hmk := mkI n h1 h2
  go_wp2
  refine bodyPost_ret (v := .tuple #[.pointer (some ⟨w.heap.size + 1, 0, none⟩), .int .i64 0]) (by simp [results, Try.results31, go_sem]) rfl ?_
  refine ⟨rfl, ?_, (by repeat (first | exact More.refl _ | assumption | refine More.dr ?_ _ | refine More.al ?_ _ | refine More.st ?_ (by simp) _))⟩
  exact ⟨blk_new2 (by simp), blk_alloc (blk_eq (blk_new _ _) rfl) _, by omega, by simp, fun c hc => by rw [List.eq_of_mem_replicate hc]; exact zokI, ⟨h1, h2⟩, by omega, by simp, fun i hi => by simp at hi⟩
set_option maxHeartbeats 4000000 in
theorem popI (w : World) (R A room first : Nat) (c : List Value) (T : List (List Value)) (ci co cd cg : Int) (css : List (List Value)) (h : RgAt 13 148 41 w R A room first (c :: T) ci co cd cg css) :
    Calls Try.prog 43 #[.pointer (some ⟨R, 0, none⟩)] w fun e w' => e = .returned (.tuple #[.agg c.toArray, .bool true]) ∧ (∃ co', RgAt 13 148 41 w' R A room ((first + 1) % room) T ci co' cd cg (css.set first [.int .i64 0, .int .i64 0, .bool false, .bool false, .int .u8 0, .int .u16 0, .int .u32 0, .int .u32 0, .slice none 0 0, .bool false, .int .u16 0, .slice none 0 0, .slice none 0 0])) ∧ Away (RgB R A) w w' := by
  have H0 := Lib.hid h
  have hc := h.ofHead
  have hcs : c.toArray.size = 13 := by simpa using hc.1
  have hb2 : (((c :: T).length : Int) == 0) = false := by simp; omega
  clear h
  have hRw : R < w.heap.size := blk_lt H0.out.ring
  have hAw : A < w.heap.size := blk_lt H0.out.row
  have r2 : w.cell? ⟨R, 2, none⟩ = some (.int .i64 (c :: T).length) := blk_cell H0.out.ring 2 rfl
  have r5 : w.cell? ⟨R, 5, none⟩ = some (.int .i64 co) := blk_cell H0.out.ring 5 rfl
  have fr5 : w.frozen? ⟨R, 5, none⟩ = false := blk_free H0.out.ring 5
  go_enter Try.func43, Try.ntmps43
  go_wp2_with (first | (go_at_call 69; ((with_reducible refine (takeI _ R A room first c T ci _ cd cg css ((H0.out.popped _).more (More.alloc _ _))).mono ?_); rintro e w5 ⟨rfl, h5, a5⟩; have H5 := Lib.hid h5; have A5 : Hid (Away (RgB R A) w w5) := Lib.hid ((((Away.refl _ _).set (Or.inl rfl) _).alc _).trans a5); have B5 : Hid (w5.heap[w.heap.size]? = some (.cells #[.int .i64 0, .int .i64 0, .bool false, .bool false, .int .u8 0, .int .u16 0, .int .u32 0, .int .u32 0, .slice none 0 0, .bool false, .int .u16 0, .slice none 0 0, .slice none 0 0] 41 (0, 0))) := Lib.hid (a5.blk (blk_new2 (by simp)) (by rintro (e | e) <;> omega)); clear h5 a5)) | (refine lnStore rfl 41 (.tmp 2) (.tmp 21) rfl w.heap.size 41 _ c.toArray B5.out rfl rfl (by rw [hcs]; kernel_rfl) (by rw [hcs]; rfl) (all_oneCell_toArray hc.2) ?_))
  refine bodyPost_ret (v := .tuple #[.agg c.toArray, .bool true]) (lnRes2 Try.results43 _ _ w.heap.size 41 c.toArray _ _ rfl rfl (lnBlk B5.out _) Try.underlying41 rfl (by rw [hcs]; kernel_rfl)) rfl ?_
  exact ⟨rfl, ⟨_, H5.out.away (lnAway _ _ _) (fun e : R = w.heap.size => by omega) (fun e : A = w.heap.size => by omega)⟩, A5.out.rowNew (Nat.le_refl _) _⟩
end Go.Proofs.Ytdgmmffedhikcaa
/- Contracts of package ring at 41: Push. (printed by gen_laneD.py) -/
namespace Go.Proofs.Ytdgmmffedhikcaa
set_option linter.unusedSimpArgs false
set_option linter.unusedVariables false
open Go.RowKit
set_option maxRecDepth 100000

set_option maxHeartbeats 8000000 in
theorem pushI_room (w : World) (R A room first : Nat) (q : List (List Value)) (ci co cd cg : Int) (css : List (List Value)) (h : RgAt 13 148 41 w R A room first q ci co cd cg css) (hq : q.length < room) (x : List Value) (hx : x.length = 13 ∧ ∀ u ∈ x, u.oneCell' = true) :
    Calls Try.prog 42 #[.pointer (some ⟨R, 0, none⟩), .agg x.toArray] w fun e w' => e = .returned (.tuple #[.agg #[.int .i64 0, .int .i64 0, .bool false, .bool false, .int .u8 0, .int .u16 0, .int .u32 0, .int .u32 0, .slice none 0 0, .bool false, .int .u16 0, .slice none 0 0, .slice none 0 0], .bool false, .int .i64 0]) ∧ (∃ ci', RgAt 13 148 41 w' R A room first (q ++ [x]) ci' co cd cg (css.set ((first + q.length) % room) x)) ∧ Away (RgB R A) w w' := by
  have H0 := Lib.hid h
  have hxs : x.toArray.size = 13 := by simpa using hx.1
  have hRw : R < w.heap.size := blk_lt h.ring
  have hAw : A < w.heap.size := blk_lt h.row
  have r3 : (((w.alloc (.cells x.toArray 41)).alloc (.cells #[.int .i64 0, .int .i64 0, .bool false, .bool false, .int .u8 0, .int .u16 0, .int .u32 0, .int .u32 0, .slice none 0 0, .bool false, .int .u16 0, .slice none 0 0, .slice none 0 0] 41)).alloc (.cells #[.int .i64 0, .int .i64 0, .bool false, .bool false, .int .u8 0, .int .u16 0, .int .u32 0, .int .u32 0, .slice none 0 0, .bool false, .int .u16 0, .slice none 0 0, .slice none 0 0] 41)).cell? ⟨R, 3, none⟩ = some (.bool false) := blk_cell (blk_alloc (blk_alloc (blk_alloc h.ring _) _) _) 3 rfl
  have hd : decide (q.length = room) = false := by simp; omega
  clear h
  go_enter Try.func42, Try.ntmps42
  go_wp2_with (first | (go_at_call 68; ((with_reducible refine (fullI (H0.out.more (((More.refl w).al _).al _ |>.al _))).mono ?_); rintro e w3 ⟨rfl, k3, e3⟩; rw [hd]; have M3 : Hid (More w w3) := Lib.hid (by rw [e3]; exact (((More.refl w).al _).al _ |>.al _).dr _); have X3 : Hid (w3.heap[w.heap.size]? = some (.cells x.toArray 41 (0, 0))) := Lib.hid (by rw [e3]; exact blk_drewN (blk_alloc (blk_alloc (blk_new _ _) _) _) _); have B3 : Hid (w3.heap[w.heap.size + 1]? = some (.cells #[.int .i64 0, .int .i64 0, .bool false, .bool false, .int .u8 0, .int .u16 0, .int .u32 0, .int .u32 0, .slice none 0 0, .bool false, .int .u16 0, .slice none 0 0, .slice none 0 0] 41 (0, 0))) := Lib.hid (by rw [e3]; exact blk_drewN (blk_alloc (blk_new2 (by simp)) _) _); have C3 : Hid (w3.heap[w.heap.size + 2]? = some (.cells #[.int .i64 0, .int .i64 0, .bool false, .bool false, .int .u8 0, .int .u16 0, .int .u32 0, .int .u32 0, .slice none 0 0, .bool false, .int .u16 0, .slice none 0 0, .slice none 0 0] 41 (0, 0))) := Lib.hid (by rw [e3]; exact blk_drewN (blk_new2 (by simp)) _); clear e3)))
  obtain ⟨W5, hW5⟩ : ∃ W5, W5 = w3 := ⟨_, rfl⟩
  have H5 : Hid (RgAt 13 148 41 W5 R A room first q ci co cd cg css) := Lib.hid (by rw [hW5]; exact H0.out.more M3.out)
  have A5 : Hid (Away (RgB R A) w W5) := Lib.hid (by rw [hW5]; exact Away.of_more M3.out)
  have X5 : Hid (W5.heap[w.heap.size]? = some (.cells x.toArray 41 (0, 0))) := Lib.hid (by rw [hW5]; exact X3.out)
  have B5 : Hid (W5.heap[w.heap.size + 1]? = some (.cells #[.int .i64 0, .int .i64 0, .bool false, .bool false, .int .u8 0, .int .u16 0, .int .u32 0, .int .u32 0, .slice none 0 0, .bool false, .int .u16 0, .slice none 0 0, .slice none 0 0] 41 (0, 0))) := Lib.hid (by rw [hW5]; exact B3.out)
  have C5 : Hid (W5.heap[w.heap.size + 2]? = some (.cells #[.int .i64 0, .int .i64 0, .bool false, .bool false, .int .u8 0, .int .u16 0, .int .u32 0, .int .u32 0, .slice none 0 0, .bool false, .int .u16 0, .slice none 0 0, .slice none 0 0] 41 (0, 0))) := Lib.hid (by rw [hW5]; exact C3.out)
  have hq5 : q.length < room := hq
  rw [← hW5]
  clear hW5 M3 X3 B3 C3
  obtain ⟨f, HF⟩ : ∃ f, Hid (f = first) := ⟨_, Lib.hid rfl⟩
  obtain ⟨cs, HCS⟩ : ∃ cs, Hid (cs = css) := ⟨_, Lib.hid rfl⟩
  rw [← HF.out, ← HCS.out] at H5
  have L0 : ∀ x : Later W5, x.w'.cell? ⟨R, 0, none⟩ = some (.slice (some ⟨A, 0, none⟩) room room) := fun x => x.cell (blk_lt H5.out.ring) (blk_cell H5.out.ring 0 rfl)
  have L1 : ∀ x : Later W5, x.w'.cell? ⟨R, 1, none⟩ = some (.int .i64 f) := fun x => x.cell (blk_lt H5.out.ring) (blk_cell H5.out.ring 1 rfl)
  have L2 : ∀ x : Later W5, x.w'.cell? ⟨R, 2, none⟩ = some (.int .i64 q.length) := fun x => x.cell (blk_lt H5.out.ring) (blk_cell H5.out.ring 2 rfl)
  have hm : ((f : Int) + (q.length : Int)) % (room : Int) = (((f + q.length) % room : Nat) : Int) := by rw [Int.natCast_emod]; rfl
  have hIr : (f + q.length) % room < room := Nat.mod_lt _ (by omega)
  have hi : (((f + q.length) % room : Nat) : Int) < (room : Int) := by omega
  have hp := H5.out.pos
  have hff := H5.out.fst
  have hfi : (f : Int) ≤ 8 := by omega
  have hfi0 : 0 ≤ (f : Int) := by omega
  have hql : (q.length : Int) ≤ 8 := by omega
  have hql0 : 0 ≤ (q.length : Int) := by omega
  have hrm : 1 ≤ (room : Int) := by omega
  generalize hI : (f + q.length) % room = I at *
  refine wp_region_num W5 21 [(0, false), (1, false), (2, false), (3, false), (4, false), (5, false), (6, false), (7, false), (8, false), (9, false), (10, false), (11, false), (12, false), (13, false), (14, false), (15, false), (16, false), (17, false), (18, false), (19, false), (20, false), (21, true)] (by kernel_rfl) (by kernel_rfl) ?_
  iterate 19 (refine num_quiet rfl rfl (later_mk (by repeat (first | exact More.refl _ | assumption | refine More.dr ?_ _ | refine More.al ?_ _ | refine More.st ?_ (by simp) _))) ?_; intro K hK; go_big_quiet_op; go_big_quiet_on)
  refine num_load_mid rfl rfl (later_mk (by repeat (first | exact More.refl _ | assumption | refine More.dr ?_ _ | refine More.al ?_ _ | refine More.st ?_ (by simp) _))) 41 (.tmp 3) rfl w.heap.size 0 rfl x _ (fun w' hy => by obtain ⟨y, rfl⟩ := hy; exact lnRange (blk_more y.h X5.out)) Try.underlying41 rfl (by rw [hx.1]; kernel_rfl) ?_
  intro K hK
  go_simp
  refine hK _ ?_
  clear hK K
  iterate 1 (refine num_quiet rfl rfl (later_mk (by repeat (first | exact More.refl _ | assumption | refine More.dr ?_ _ | refine More.al ?_ _ | refine More.st ?_ (by simp) _))) ?_; intro K hK; go_big_quiet_op; go_big_quiet_on)
  refine num_end rfl rfl (by decide) ?_
  intro K hK
  refine loud_store_in 41 (.tmp 48) (.tmp 47) rfl A (I * 13) 41 cs.flatten.toArray x rfl rfl (blk_drewN H5.out.row 1) (by rw [H5.out.size, hx.1]; have := Nat.mul_le_mul_right 13 (show I + 1 ≤ room by omega); omega) (by rw [hx.1]; kernel_rfl) hx.2 ?_
  refine ⟨trivial, ?_⟩
  go_simp
  refine hK _ _ ?_
  clear hK K L0 L1 L2
  refine num_nil ?_
  obtain ⟨W6, hW6⟩ : ∃ W6, (W5.drewN 1).setRow A (lnPut cs.flatten (I * 13) x).toArray = W6 := ⟨_, rfl⟩
  have A6 : Hid (Away (RgB R A) w W6) := Lib.hid (by rw [← hW6]; exact (A5.out.drewN 1).row (Or.inr rfl) _)
  have G6 : Hid (W6.heap[R]? = some (.cells (rgCells A room f q.length ci co cd cg) 148 (0, 0))) := Lib.hid (by rw [← hW6]; exact lnOther (blk_drewN H5.out.ring 1) _ H5.out.ne)
  have P6 : Hid (W6.heap[A]? = some (.cells (cs.set I x).flatten.toArray 41 (0, 0))) := Lib.hid (by rw [← hW6, ← lnSet cs I _ H5.out.cl hx.1 (by rw [H5.out.len]; exact hIr)]; exact lnBlk (blk_drewN H5.out.row 1) _)
  have B6 : Hid (W6.heap[w.heap.size + 1]? = some (.cells #[.int .i64 0, .int .i64 0, .bool false, .bool false, .int .u8 0, .int .u16 0, .int .u32 0, .int .u32 0, .slice none 0 0, .bool false, .int .u16 0, .slice none 0 0, .slice none 0 0] 41 (0, 0))) := Lib.hid (by rw [← hW6]; exact lnOther (blk_drewN B5.out 1) _ (by omega))
  have C6 : Hid (W6.heap[w.heap.size + 2]? = some (.cells #[.int .i64 0, .int .i64 0, .bool false, .bool false, .int .u8 0, .int .u16 0, .int .u32 0, .int .u32 0, .slice none 0 0, .bool false, .int .u16 0, .slice none 0 0, .slice none 0 0] 41 (0, 0))) := Lib.hid (by rw [← hW6]; exact lnOther (blk_drewN C5.out 1) _ (by omega))
  rw [hW6]
  clear hW6 A5 X5 B5 C5
  have hC : w.heap.size + 2 ≠ R := by omega
  have hB : w.heap.size + 1 ≠ R := by omega
  have r2 : W6.cell? ⟨R, 2, none⟩ = some (.int .i64 q.length) := blk_cell G6.out 2 rfl
  have fr2 : W6.frozen? ⟨R, 2, none⟩ = false := blk_free G6.out 2
  have r4 : W6.cell? ⟨R, 4, none⟩ = some (.int .i64 ci) := blk_cell G6.out 4 rfl
  have fr4 : W6.frozen? ⟨R, 4, none⟩ = false := blk_free G6.out 4
  go_wp2_with (first | (refine lnIf (.load 41 (.tmp 7)) rfl ?_; refine lnLoad rfl 41 (.tmp 7) rfl (w.heap.size + 2) 41 #[.int .i64 0, .int .i64 0, .bool false, .bool false, .int .u8 0, .int .u16 0, .int .u32 0, .int .u32 0, .slice none 0 0, .bool false, .int .u16 0, .slice none 0 0, .slice none 0 0] _ (blk_other (blk_other C6.out ⟨R, 2, none⟩ _ hC) ⟨R, 4, none⟩ _ hC) rfl Try.underlying41 rfl (by kernel_rfl) ?_) | (refine lnIf (.store 41 (.tmp 4) (.tmp 65)) rfl ?_; refine lnStore rfl 41 (.tmp 4) (.tmp 65) rfl (w.heap.size + 1) 41 _ #[.int .i64 0, .int .i64 0, .bool false, .bool false, .int .u8 0, .int .u16 0, .int .u32 0, .int .u32 0, .slice none 0 0, .bool false, .int .u16 0, .slice none 0 0, .slice none 0 0] (blk_other (blk_other B6.out ⟨R, 2, none⟩ _ hB) ⟨R, 4, none⟩ _ hB) rfl rfl (by kernel_rfl) rfl (all_oneCell_toArray zokI.2) ?_))
  have hne : R ≠ A := H5.out.ne
  refine bodyPost_ret (v := .tuple #[.agg #[.int .i64 0, .int .i64 0, .bool false, .bool false, .int .u8 0, .int .u16 0, .int .u32 0, .int .u32 0, .slice none 0 0, .bool false, .int .u16 0, .slice none 0 0, .slice none 0 0], .bool false, .int .i64 0]) (lnRes3 Try.results42 _ _ (w.heap.size + 1) 41 #[.int .i64 0, .int .i64 0, .bool false, .bool false, .int .u8 0, .int .u16 0, .int .u32 0, .int .u32 0, .slice none 0 0, .bool false, .int .u16 0, .slice none 0 0, .slice none 0 0] _ _ _ rfl rfl rfl (lnBlk (blk_other (blk_other B6.out ⟨R, 2, none⟩ _ hB) ⟨R, 4, none⟩ _ hB) _) Try.underlying41 rfl (by kernel_rfl)) rfl ?_
  subst hI
  obtain rfl := HF.out
  obtain rfl := HCS.out
  refine ⟨rfl, ⟨wrap64 (ci + 1), H5.out.put hq5 hx ?_ ?_⟩, ((A6.out.set (Or.inl rfl) _).set (Or.inl rfl) _).rowNew (by omega) _⟩
  · exact lnOther (blk_eq (blk_set (blk_set G6.out 2 _) 4 _) rfl) _ (by omega)
  · exact lnOther (blk_other (blk_other P6.out _ _ (Ne.symm hne)) _ _ (Ne.symm hne)) _ (by omega)
set_option maxHeartbeats 8000000 in
theorem pushI_full (w : World) (R A room first : Nat) (c : List Value) (T : List (List Value)) (ci co cd cg : Int) (css : List (List Value)) (h : RgAt 13 148 41 w R A room first (c :: T) ci co cd cg css) (hq : (c :: T).length = room) (x : List Value) (hx : x.length = 13 ∧ ∀ u ∈ x, u.oneCell' = true) :
    Calls Try.prog 42 #[.pointer (some ⟨R, 0, none⟩), .agg x.toArray] w fun e w' => e = .returned (.tuple #[.agg c.toArray, .bool true, .int .i64 0]) ∧ (∃ ci' cd', RgAt 13 148 41 w' R A room ((first + 1) % room) (T ++ [x]) ci' co cd' cg ((css.set first [.int .i64 0, .int .i64 0, .bool false, .bool false, .int .u8 0, .int .u16 0, .int .u32 0, .int .u32 0, .slice none 0 0, .bool false, .int .u16 0, .slice none 0 0, .slice none 0 0]).set (((first + 1) % room + T.length) % room) x)) ∧ Away (RgB R A) w w' := by
  have H0 := Lib.hid h
  have hxs : x.toArray.size = 13 := by simpa using hx.1
  have hRw : R < w.heap.size := blk_lt h.ring
  have hAw : A < w.heap.size := blk_lt h.row
  have r3 : (((w.alloc (.cells x.toArray 41)).alloc (.cells #[.int .i64 0, .int .i64 0, .bool false, .bool false, .int .u8 0, .int .u16 0, .int .u32 0, .int .u32 0, .slice none 0 0, .bool false, .int .u16 0, .slice none 0 0, .slice none 0 0] 41)).alloc (.cells #[.int .i64 0, .int .i64 0, .bool false, .bool false, .int .u8 0, .int .u16 0, .int .u32 0, .int .u32 0, .slice none 0 0, .bool false, .int .u16 0, .slice none 0 0, .slice none 0 0] 41)).cell? ⟨R, 3, none⟩ = some (.bool false) := blk_cell (blk_alloc (blk_alloc (blk_alloc h.ring _) _) _) 3 rfl
  have hd : decide ((c :: T).length = room) = true := by simp at hq ⊢; exact hq
  have hc := h.ofHead
  have hcs : c.toArray.size = 13 := by simpa using hc.1
  clear h
  go_enter Try.func42, Try.ntmps42
  go_wp2_with (first | (go_at_call 68; ((with_reducible refine (fullI (H0.out.more (((More.refl w).al _).al _ |>.al _))).mono ?_); rintro e w3 ⟨rfl, k3, e3⟩; rw [hd]; have M3 : Hid (More w w3) := Lib.hid (by rw [e3]; exact (((More.refl w).al _).al _ |>.al _).dr _); have X3 : Hid (w3.heap[w.heap.size]? = some (.cells x.toArray 41 (0, 0))) := Lib.hid (by rw [e3]; exact blk_drewN (blk_alloc (blk_alloc (blk_new _ _) _) _) _); have B3 : Hid (w3.heap[w.heap.size + 1]? = some (.cells #[.int .i64 0, .int .i64 0, .bool false, .bool false, .int .u8 0, .int .u16 0, .int .u32 0, .int .u32 0, .slice none 0 0, .bool false, .int .u16 0, .slice none 0 0, .slice none 0 0] 41 (0, 0))) := Lib.hid (by rw [e3]; exact blk_drewN (blk_alloc (blk_new2 (by simp)) _) _); have C3 : Hid (w3.heap[w.heap.size + 2]? = some (.cells #[.int .i64 0, .int .i64 0, .bool false, .bool false, .int .u8 0, .int .u16 0, .int .u32 0, .int .u32 0, .slice none 0 0, .bool false, .int .u16 0, .slice none 0 0, .slice none 0 0] 41 (0, 0))) := Lib.hid (by rw [e3]; exact blk_drewN (blk_new2 (by simp)) _); clear e3)) | (go_at_call 69; ((with_reducible refine (takeI w3 R A room first c T ci co cd cg css (H0.out.more M3.out)).mono ?_); rintro e w5 ⟨rfl, h5, a5⟩; have H4 := Lib.hid h5; have A4 := Lib.hid a5; have X4 := Lib.hid (a5.blk X3.out (by rintro (e | e) <;> omega)); have B4 := Lib.hid (a5.blk B3.out (by rintro (e | e) <;> omega)); have C4 := Lib.hid (a5.blk C3.out (by rintro (e | e) <;> omega)); clear h5 a5)) | (refine lnIf (.store 41 (.tmp 7) (.tmp 18)) rfl ?_; refine lnStore rfl 41 (.tmp 7) (.tmp 18) rfl (w.heap.size + 2) 41 _ c.toArray C4.out rfl rfl (by rw [hcs]; kernel_rfl) (by rw [hcs]; rfl) (all_oneCell_toArray hc.2) ?_; obtain ⟨w6, hw6⟩ : ∃ w6, w5.setRow (w.heap.size + 2) c.toArray = w6 := ⟨_, rfl⟩; have H6 := Lib.hid (H4.out.away (lnAway w5 (w.heap.size + 2) c.toArray) (fun e : R = w.heap.size + 2 => by omega) (fun e : A = w.heap.size + 2 => by omega)); have A6 : Hid (Away (RgB R A) w (w5.setRow (w.heap.size + 2) c.toArray)) := Lib.hid (((Away.of_more M3.out).trans A4.out).rowNew (by omega) _); have X6 : Hid ((w5.setRow (w.heap.size + 2) c.toArray).heap[w.heap.size]? = _) := Lib.hid (lnOther X4.out _ (by omega)); have B6 : Hid ((w5.setRow (w.heap.size + 2) c.toArray).heap[w.heap.size + 1]? = _) := Lib.hid (lnOther B4.out _ (by omega)); have C6 : Hid ((w5.setRow (w.heap.size + 2) c.toArray).heap[w.heap.size + 2]? = _) := Lib.hid (lnBlk C4.out c.toArray); rw [hw6] at H6 A6 X6 B6 C6 ⊢; clear hw6 H4 A4 X4 B4 C4; have r6 : w6.cell? ⟨R, 6, none⟩ = some (.int .i64 cd) := blk_cell H6.out.ring 6 rfl; have fr6 : w6.frozen? ⟨R, 6, none⟩ = false := blk_free H6.out.ring 6))
  obtain ⟨W5, hW5⟩ : ∃ W5, w6.setCell ⟨R, 6, none⟩ (.int .i64 (wrap64 (cd + 1))) = W5 := ⟨_, rfl⟩
  have H5 : Hid (RgAt 13 148 41 W5 R A room ((first + 1) % room) T ci co (wrap64 (cd + 1)) cg (css.set first [.int .i64 0, .int .i64 0, .bool false, .bool false, .int .u8 0, .int .u16 0, .int .u32 0, .int .u32 0, .slice none 0 0, .bool false, .int .u16 0, .slice none 0 0, .slice none 0 0])) := Lib.hid (by rw [← hW5]; exact H6.out.dropped _)
  have A5 : Hid (Away (RgB R A) w W5) := Lib.hid (by rw [← hW5]; exact A6.out.set (Or.inl rfl) _)
  have X5 : Hid (W5.heap[w.heap.size]? = some (.cells x.toArray 41 (0, 0))) := Lib.hid (by rw [← hW5]; exact blk_other X6.out _ _ (by show w.heap.size ≠ R; omega))
  have B5 : Hid (W5.heap[w.heap.size + 1]? = some (.cells #[.int .i64 0, .int .i64 0, .bool false, .bool false, .int .u8 0, .int .u16 0, .int .u32 0, .int .u32 0, .slice none 0 0, .bool false, .int .u16 0, .slice none 0 0, .slice none 0 0] 41 (0, 0))) := Lib.hid (by rw [← hW5]; exact blk_other B6.out _ _ (by show w.heap.size + 1 ≠ R; omega))
  have C5 : Hid (W5.heap[w.heap.size + 2]? = some (.cells c.toArray 41 (0, 0))) := Lib.hid (by rw [← hW5]; exact blk_other C6.out _ _ (by show w.heap.size + 2 ≠ R; omega))
  have hq5 : T.length < room := by simp at hq; omega
  rw [hW5]
  clear hW5 M3 X3 B3 C3 H6 A6 X6 B6 C6 r6 fr6
  obtain ⟨f, HF⟩ : ∃ f, Hid (f = ((first + 1) % room)) := ⟨_, Lib.hid rfl⟩
  obtain ⟨cs, HCS⟩ : ∃ cs, Hid (cs = (css.set first [.int .i64 0, .int .i64 0, .bool false, .bool false, .int .u8 0, .int .u16 0, .int .u32 0, .int .u32 0, .slice none 0 0, .bool false, .int .u16 0, .slice none 0 0, .slice none 0 0])) := ⟨_, Lib.hid rfl⟩
  rw [← HF.out, ← HCS.out] at H5
  have L0 : ∀ x : Later W5, x.w'.cell? ⟨R, 0, none⟩ = some (.slice (some ⟨A, 0, none⟩) room room) := fun x => x.cell (blk_lt H5.out.ring) (blk_cell H5.out.ring 0 rfl)
  have L1 : ∀ x : Later W5, x.w'.cell? ⟨R, 1, none⟩ = some (.int .i64 f) := fun x => x.cell (blk_lt H5.out.ring) (blk_cell H5.out.ring 1 rfl)
  have L2 : ∀ x : Later W5, x.w'.cell? ⟨R, 2, none⟩ = some (.int .i64 T.length) := fun x => x.cell (blk_lt H5.out.ring) (blk_cell H5.out.ring 2 rfl)
  have hm : ((f : Int) + (T.length : Int)) % (room : Int) = (((f + T.length) % room : Nat) : Int) := by rw [Int.natCast_emod]; rfl
  have hIr : (f + T.length) % room < room := Nat.mod_lt _ (by omega)
  have hi : (((f + T.length) % room : Nat) : Int) < (room : Int) := by omega
  have hp := H5.out.pos
  have hff := H5.out.fst
  have hfi : (f : Int) ≤ 8 := by omega
  have hfi0 : 0 ≤ (f : Int) := by omega
  have hql : (T.length : Int) ≤ 8 := by omega
  have hql0 : 0 ≤ (T.length : Int) := by omega
  have hrm : 1 ≤ (room : Int) := by omega
  generalize hI : (f + T.length) % room = I at *
  refine wp_region_num W5 21 [(0, false), (1, false), (2, false), (3, false), (4, false), (5, false), (6, false), (7, false), (8, false), (9, false), (10, false), (11, false), (12, false), (13, false), (14, false), (15, false), (16, false), (17, false), (18, false), (19, false), (20, false), (21, true)] (by kernel_rfl) (by kernel_rfl) ?_
  iterate 19 (refine num_quiet rfl rfl (later_mk (by repeat (first | exact More.refl _ | assumption | refine More.dr ?_ _ | refine More.al ?_ _ | refine More.st ?_ (by simp) _))) ?_; intro K hK; go_big_quiet_op; go_big_quiet_on)
  refine num_load_mid rfl rfl (later_mk (by repeat (first | exact More.refl _ | assumption | refine More.dr ?_ _ | refine More.al ?_ _ | refine More.st ?_ (by simp) _))) 41 (.tmp 3) rfl w.heap.size 0 rfl x _ (fun w' hy => by obtain ⟨y, rfl⟩ := hy; exact lnRange (blk_more y.h X5.out)) Try.underlying41 rfl (by rw [hx.1]; kernel_rfl) ?_
  intro K hK
  go_simp
  refine hK _ ?_
  clear hK K
  iterate 1 (refine num_quiet rfl rfl (later_mk (by repeat (first | exact More.refl _ | assumption | refine More.dr ?_ _ | refine More.al ?_ _ | refine More.st ?_ (by simp) _))) ?_; intro K hK; go_big_quiet_op; go_big_quiet_on)
  refine num_end rfl rfl (by decide) ?_
  intro K hK
  refine loud_store_in 41 (.tmp 48) (.tmp 47) rfl A (I * 13) 41 cs.flatten.toArray x rfl rfl (blk_drewN H5.out.row 1) (by rw [H5.out.size, hx.1]; have := Nat.mul_le_mul_right 13 (show I + 1 ≤ room by omega); omega) (by rw [hx.1]; kernel_rfl) hx.2 ?_
  refine ⟨trivial, ?_⟩
  go_simp
  refine hK _ _ ?_
  clear hK K L0 L1 L2
  refine num_nil ?_
  obtain ⟨W6, hW6⟩ : ∃ W6, (W5.drewN 1).setRow A (lnPut cs.flatten (I * 13) x).toArray = W6 := ⟨_, rfl⟩
  have A6 : Hid (Away (RgB R A) w W6) := Lib.hid (by rw [← hW6]; exact (A5.out.drewN 1).row (Or.inr rfl) _)
  have G6 : Hid (W6.heap[R]? = some (.cells (rgCells A room f T.length ci co (wrap64 (cd + 1)) cg) 148 (0, 0))) := Lib.hid (by rw [← hW6]; exact lnOther (blk_drewN H5.out.ring 1) _ H5.out.ne)
  have P6 : Hid (W6.heap[A]? = some (.cells (cs.set I x).flatten.toArray 41 (0, 0))) := Lib.hid (by rw [← hW6, ← lnSet cs I _ H5.out.cl hx.1 (by rw [H5.out.len]; exact hIr)]; exact lnBlk (blk_drewN H5.out.row 1) _)
  have B6 : Hid (W6.heap[w.heap.size + 1]? = some (.cells #[.int .i64 0, .int .i64 0, .bool false, .bool false, .int .u8 0, .int .u16 0, .int .u32 0, .int .u32 0, .slice none 0 0, .bool false, .int .u16 0, .slice none 0 0, .slice none 0 0] 41 (0, 0))) := Lib.hid (by rw [← hW6]; exact lnOther (blk_drewN B5.out 1) _ (by omega))
  have C6 : Hid (W6.heap[w.heap.size + 2]? = some (.cells c.toArray 41 (0, 0))) := Lib.hid (by rw [← hW6]; exact lnOther (blk_drewN C5.out 1) _ (by omega))
  rw [hW6]
  clear hW6 A5 X5 B5 C5
  have hC : w.heap.size + 2 ≠ R := by omega
  have hB : w.heap.size + 1 ≠ R := by omega
  have r2 : W6.cell? ⟨R, 2, none⟩ = some (.int .i64 T.length) := blk_cell G6.out 2 rfl
  have fr2 : W6.frozen? ⟨R, 2, none⟩ = false := blk_free G6.out 2
  have r4 : W6.cell? ⟨R, 4, none⟩ = some (.int .i64 ci) := blk_cell G6.out 4 rfl
  have fr4 : W6.frozen? ⟨R, 4, none⟩ = false := blk_free G6.out 4
  go_wp2_with (first | (refine lnIf (.load 41 (.tmp 7)) rfl ?_; refine lnLoad rfl 41 (.tmp 7) rfl (w.heap.size + 2) 41 c.toArray _ (blk_other (blk_other C6.out ⟨R, 2, none⟩ _ hC) ⟨R, 4, none⟩ _ hC) rfl Try.underlying41 rfl (by rw [hcs]; kernel_rfl) ?_) | (refine lnIf (.store 41 (.tmp 4) (.tmp 65)) rfl ?_; refine lnStore rfl 41 (.tmp 4) (.tmp 65) rfl (w.heap.size + 1) 41 _ c.toArray (blk_other (blk_other B6.out ⟨R, 2, none⟩ _ hB) ⟨R, 4, none⟩ _ hB) rfl rfl (by rw [hcs]; kernel_rfl) (by rw [hcs]; rfl) (all_oneCell_toArray hc.2) ?_))
  have hne : R ≠ A := H5.out.ne
  refine bodyPost_ret (v := .tuple #[.agg c.toArray, .bool true, .int .i64 0]) (lnRes3 Try.results42 _ _ (w.heap.size + 1) 41 c.toArray _ _ _ rfl rfl rfl (lnBlk (blk_other (blk_other B6.out ⟨R, 2, none⟩ _ hB) ⟨R, 4, none⟩ _ hB) _) Try.underlying41 rfl (by rw [hcs]; kernel_rfl)) rfl ?_
  subst hI
  obtain rfl := HF.out
  obtain rfl := HCS.out
  refine ⟨rfl, ⟨wrap64 (ci + 1), wrap64 (cd + 1), H5.out.put hq5 hx ?_ ?_⟩, ((A6.out.set (Or.inl rfl) _).set (Or.inl rfl) _).rowNew (by omega) _⟩
  · exact lnOther (blk_eq (blk_set (blk_set G6.out 2 _) 4 _) rfl) _ (by omega)
  · exact lnOther (blk_other (blk_other P6.out _ _ (Ne.symm hne)) _ _ (Ne.symm hne)) _ (by omega)
end Go.Proofs.Ytdgmmffedhikcaa
