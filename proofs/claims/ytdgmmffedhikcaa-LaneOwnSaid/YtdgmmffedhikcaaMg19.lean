/- Merged from my texts LaneT. -/
import Derived.Test.YtdgmmffedhikcaaMg18
/- lane.New. (printed by gen_laneT.py) -/
namespace Go.Proofs.Ytdgmmffedhikcaa
set_option linter.unusedSimpArgs false
set_option linter.unusedVariables false
open Go.RowKit
set_option maxRecDepth 100000

theorem new_ln_room (m mo src sq st : Int) (hm : m < 1 ∨ 8 < m) (w : World) : Calls Try.prog 10 #[.agg #[.int .i64 m, .int .i64 mo, .int .u32 src, .int .u16 sq, .int .u32 st]] w fun e w' => e = .returned (.tuple #[.pointer none, .int .i64 1]) ∧ More w w' := by
  have H1 := Lib.hid (newI_bad m hm)
  clear hm
  go_enter Try.func10, Try.ntmps10
  go_wp2_with (go_at_call 31; ((with_reducible refine (H1.out _).mono ?_); rintro e w1 ⟨rfl, m1⟩; have M1 : Hid (More w w1) := Lib.hid ((More.alloc _ _).trans m1); clear m1))
  refine bodyPost_ret (v := .tuple #[.pointer none, .int .i64 1]) (by simp [results, Try.results10, go_sem]) rfl ?_
  exact ⟨rfl, M1.out⟩
set_option maxHeartbeats 2000000 in
theorem new_ln_most (m mo src sq st : Int) (n : Nat) (hmn : m = n) (h1 : 1 ≤ n) (h2 : n ≤ 8) (hm : mo < 1 ∨ 10 < mo) (w : World) : Calls Try.prog 10 #[.agg #[.int .i64 m, .int .i64 mo, .int .u32 src, .int .u16 sq, .int .u32 st]] w fun e w' => e = .returned (.tuple #[.pointer none, .int .i64 1]) ∧ More w w' := by
  have H1 := Lib.hid (newI_good m n hmn h1 h2)
  have H2 := Lib.hid (newC_good m n hmn h1 h2)
  have H3 := Lib.hid (newO_good m n hmn h1 h2)
  have H4 := Lib.hid (start_stall_bad mo hm)
  clear hmn h1 h2 hm
  have hlt : w.heap.size < (w.alloc (.cells #[.int .i64 m, .int .i64 mo, .int .u32 src, .int .u16 sq, .int .u32 st] 25)).heap.size := by simp
  go_enter Try.func10, Try.ntmps10
  go_wp2_with (first | (go_at_call 31; ((with_reducible refine (H1.out _).mono ?_); rintro e w1 ⟨rfl, g1, m1⟩; have K1 := Lib.hid (blk_more m1 (blk_new w (.cells #[.int .i64 m, .int .i64 mo, .int .u32 src, .int .u16 sq, .int .u32 st] 25))); have M1 : Hid (More w w1) := Lib.hid ((More.alloc _ _).trans m1); clear m1 g1; have c0 : w1.cell? ⟨w.heap.size, 0, none⟩ = some (.int .i64 m) := blk_cell K1.out 0 rfl)) | (go_at_call 32; ((with_reducible refine (H2.out _).mono ?_); rintro e w2 ⟨rfl, g2, m2⟩; have K2 := Lib.hid (blk_more m2 K1.out); have M2 : Hid (More w w2) := Lib.hid (M1.out.trans m2); clear m2 g2; have c0 : w2.cell? ⟨w.heap.size, 0, none⟩ = some (.int .i64 m) := blk_cell K2.out 0 rfl)) | (go_at_call 33; ((with_reducible refine (H3.out _).mono ?_); rintro e w3 ⟨rfl, g3, m3⟩; have K3 := Lib.hid (blk_more m3 K2.out); have M3 : Hid (More w w3) := Lib.hid (M2.out.trans m3); clear m3 g3; have c1 : w3.cell? ⟨w.heap.size, 1, none⟩ = some (.int .i64 mo) := blk_cell K3.out 1 rfl)) | (go_at_call 34; ((with_reducible refine (H4.out _).mono ?_); rintro e w4 ⟨rfl, m4⟩; have M4 : Hid (More w w4) := Lib.hid (M3.out.trans m4); clear m4)))
  refine bodyPost_ret (v := .tuple #[.pointer none, .int .i64 1]) (by simp [results, Try.results10, go_sem]) rfl ?_
  exact ⟨rfl, M4.out.al _⟩
set_option maxHeartbeats 4000000 in
theorem new_ln (m mo src sq st : Int) (n : Nat) (hmn : m = n) (h1 : 1 ≤ n) (h2 : n ≤ 8) (h3 : 1 ≤ mo) (h4 : mo ≤ 10) (hq : U16 sq) (hs : U32 src) (w : World) : Calls Try.prog 10 #[.agg #[.int .i64 m, .int .i64 mo, .int .u32 src, .int .u16 sq, .int .u32 st]] w fun e w' => ∃ L, e = .returned (.tuple #[.pointer (some ⟨L, 0, none⟩), .int .i64 0]) ∧ LnAt (fun b => w.heap.size ≤ b ∧ b < w'.heap.size) w' L (newL n mo src sq st) ∧ More w w' := by
  have H1 := Lib.hid (newI_good m n hmn h1 h2)
  have H2 := Lib.hid (newC_good m n hmn h1 h2)
  have H3 := Lib.hid (newO_good m n hmn h1 h2)
  have H4 := Lib.hid (start_stall mo h3 h4)
  have HK : Hid (LnOK (newL n mo src sq st)) := Lib.hid ⟨⟨h3, h4⟩, ⟨Int.le_refl _, (by show 0 ≤ mo; omega)⟩, fun _ => (by show 0 < mo; omega), hq, hs⟩
  clear hmn h1 h2 h3 h4 hq hs
  have hlt : w.heap.size < (w.alloc (.cells #[.int .i64 m, .int .i64 mo, .int .u32 src, .int .u16 sq, .int .u32 st] 25)).heap.size := by simp
  go_enter Try.func10, Try.ntmps10
  go_wp2_with (first | (go_at_call 31; ((with_reducible refine (H1.out _).mono ?_); rintro e w1 ⟨rfl, g1, m1⟩; have G1 : Hid (RgAt 13 148 41 w1 (w.heap.size + 1 + 1) (w.heap.size + 1) n 0 [] 0 0 0 0 (List.replicate n [.int .i64 0, .int .i64 0, .bool false, .bool false, .int .u8 0, .int .u16 0, .int .u32 0, .int .u32 0, .slice none 0 0, .bool false, .int .u16 0, .slice none 0 0, .slice none 0 0])) := Lib.hid (by simpa using g1); have K1 := Lib.hid (blk_more m1 (blk_new w (.cells #[.int .i64 m, .int .i64 mo, .int .u32 src, .int .u16 sq, .int .u32 st] 25))); have M1 : Hid (More w w1) := Lib.hid ((More.alloc _ _).trans m1); clear m1 g1; have c0 : w1.cell? ⟨w.heap.size, 0, none⟩ = some (.int .i64 m) := blk_cell K1.out 0 rfl)) | (go_at_call 32; ((with_reducible refine (H2.out _).mono ?_); rintro e w2 ⟨rfl, g2, m2⟩; have G2 := Lib.hid g2; have K2 := Lib.hid (blk_more m2 K1.out); have M2 : Hid (More w1 w2) := Lib.hid m2; clear m2 g2; have c0 : w2.cell? ⟨w.heap.size, 0, none⟩ = some (.int .i64 m) := blk_cell K2.out 0 rfl)) | (go_at_call 33; ((with_reducible refine (H3.out _).mono ?_); rintro e w3 ⟨rfl, g3, m3⟩; have G3 := Lib.hid g3; have K3 := Lib.hid (blk_more m3 K2.out); have M3 : Hid (More w2 w3) := Lib.hid m3; clear m3 g3; have c1 : w3.cell? ⟨w.heap.size, 1, none⟩ = some (.int .i64 mo) := blk_cell K3.out 1 rfl)) | (go_at_call 34; ((with_reducible refine (H4.out _).mono ?_); rintro e w4 ⟨rfl, m4⟩; have M4 : Hid (More w3 w4) := Lib.hid m4; have K4 := Lib.hid (blk_more m4 K3.out); clear m4)))
  obtain ⟨W5, hW5⟩ : ∃ W5, w4.alloc (.cells #[.int .i64 mo, .int .i64 0, .bool false] 74) = W5 := ⟨_, rfl⟩
  have M5 : Hid (More w4 W5) := Lib.hid (by rw [← hW5]; exact More.alloc _ _)
  have K5 := Lib.hid (blk_more M5.out K4.out)
  have B5 : Hid (W5.heap[w4.heap.size]? = some (.cells #[.int .i64 mo, .int .i64 0, .bool false] 74 (0, 0))) := Lib.hid (by rw [← hW5]; exact blk_new w4 _)
  rw [hW5]
  clear hW5
  have c2 : ∀ x : Later W5, x.w'.cell? ⟨w.heap.size, 2, none⟩ = some (.int .u32 src) := fun x => blk_cell (blk_more x.h K5.out) 2 rfl
  have c3 : ∀ x : Later W5, x.w'.cell? ⟨w.heap.size, 3, none⟩ = some (.int .u16 sq) := fun x => blk_cell (blk_more x.h K5.out) 3 rfl
  have c4 : ∀ x : Later W5, x.w'.cell? ⟨w.heap.size, 4, none⟩ = some (.int .u32 st) := fun x => blk_cell (blk_more x.h K5.out) 4 rfl
  have HG : ∀ x : Later W5, x.w'.rangeAt w4.heap.size 0 [.int .i64 mo, .int .i64 0, .bool false] := fun x => lnRange (blk_more x.h B5.out)
  refine wp_region_num W5 15 [(0, false), (1, false), (2, false), (3, false), (4, false), (5, false), (6, false), (7, false), (8, false), (10, false), (9, true), (11, false), (12, true), (13, false), (14, false)] (by kernel_rfl) (by kernel_rfl) ?_
  iterate 9 (refine num_quiet rfl rfl (later_mk (by repeat (first | exact More.refl _ | assumption | refine More.dr ?_ _ | refine More.al ?_ _ | refine More.st ?_ (by simp) _))) ?_; intro K hK; go_big_quiet_op; go_big_quiet_on)
  refine num_load_mid rfl rfl (later_mk (by repeat (first | exact More.refl _ | assumption | refine More.dr ?_ _ | refine More.al ?_ _ | refine More.st ?_ (by simp) _))) 74 (.tmp 8) rfl w4.heap.size 0 rfl [.int .i64 mo, .int .i64 0, .bool false] _ (fun w' hx => by obtain ⟨x, rfl⟩ := hx; exact HG x) Try.underlying74 rfl (by kernel_rfl) ?_
  intro K hK
  go_simp
  refine hK _ ?_
  clear hK K
  (refine num_next rfl rfl ?_; intro K hK; unfold loud; go_simp)
  (with_reducible refine (start_rewrite src sq st _).mono ?_)
  rintro e w6 ⟨rfl, m6⟩
  have M6 : Hid (More W5 w6) := Lib.hid ((More.drewN _ _).trans m6)
  clear m6
  refine ⟨_, rfl, later_mk M6.out, hK _ _ ?_⟩
  clear hK K
  iterate 1 (refine num_quiet rfl rfl (later_mk M6.out) ?_; intro K hK; go_big_quiet_op; go_big_quiet_on)
  (refine num_next rfl rfl ?_; intro K hK; unfold loud; go_simp)
  refine ⟨later_mk (M6.out.al _), hK _ _ ?_⟩
  clear hK K
  iterate 2 (refine num_quiet rfl rfl (later_mk (M6.out.al _)) ?_; intro K hK; go_big_quiet_op; go_big_quiet_on)
  refine num_nil ?_
  go_wp2
  refine bodyPost_ret (v := .tuple #[.pointer (some ⟨w6.heap.size, 0, none⟩), .int .i64 0]) (by simp [results, Try.results10, go_sem]) rfl ?_
  obtain ⟨W7, hW7⟩ : ∃ W7, w6.alloc (.cells #[.slice none 0 0, .pointer (some ⟨w.heap.size + 1 + 1, 0, none⟩), .pointer (some ⟨w1.heap.size + 1, 0, none⟩), .pointer (some ⟨w2.heap.size + 1, 0, none⟩), .bool false, .int .i64 0, .int .i64 0, .int .u32 src, .int .u16 sq, .int .u32 st, .bool false, .int .u32 0, .int .u32 0, .int .i64 mo, .int .i64 0, .bool false] 76) = W7 := ⟨_, rfl⟩
  have B7 : W7.heap[w6.heap.size]? = some (.cells (lnCells ⟨w6.heap.size, w.heap.size + 1 + 1, w.heap.size + 1, w1.heap.size + 1, w1.heap.size, w2.heap.size + 1, w2.heap.size⟩ (.slice none 0 0) (newL n mo src sq st)) 76 (0, 0)) := by rw [← hW7]; exact blk_new w6 _
  have M7 : More w6 W7 := by rw [← hW7]; exact More.alloc _ _
  have hs7 : w6.heap.size < W7.heap.size := blk_lt B7
  rw [hW7]
  clear hW7
  have m16 : More w3 w6 := (M4.out.trans M5.out).trans M6.out
  have z1 := blk_lt G1.out.ring
  have z2 := blk_lt G2.out.ring
  have z3 := blk_lt G3.out.ring
  have y2 := M2.out.size
  have y3 := M3.out.size
  have y6 := m16.size
  have A1 := (G1.out.more ((M2.out.trans M3.out).trans (m16.trans M7)))
  have A2 := (G2.out.more (M3.out.trans (m16.trans M7)))
  have A3 := (G3.out.more (m16.trans M7))
  refine ⟨_, rfl, ⟨⟨w6.heap.size, w.heap.size + 1 + 1, w.heap.size + 1, w1.heap.size + 1, w1.heap.size, w2.heap.size + 1, w2.heap.size⟩, .slice none 0 0, rfl, ?_⟩, ((M1.out.trans M2.out).trans M3.out).trans (m16.trans M7)⟩
  refine ⟨fun b hb => hb.2, fun b hb => ?_, by simp only; omega, B7, ⟨_, _, _, _, _, _, _, A1, trivial⟩, ⟨_, _, _, _, _, _, _, A2, trivial⟩, ⟨_, _, _, _, _, _, _, A3, trivial⟩, RowP.nil 2 ROu _ W7 0 _, HK.out⟩
  rcases hb with e | (e | e) | (e | e) | (e | e) <;> (simp only at e; subst e; constructor <;> omega)
end Go.Proofs.Ytdgmmffedhikcaa
