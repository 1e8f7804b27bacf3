/- The document's awake on books. -/
import Derived.Test.YtmhkjamibcdcdaaBookE
import Derived.Test.YtmhkjamibcdcdaaArrQ
import Derived.Test.YtmhkjamibcdcdaaSameI
namespace Go.Proofs.Ytmhkjamibcdcdaa
open Go.RowKit
set_option maxRecDepth 100000

def cntL (sub : Int) (m : Bk) : List Int := [cntF sub 0 m, cntF sub 1 m, cntF sub 2 m, cntF sub 3 m, cntF sub 4 m, cntF sub 5 m, cntF sub 6 m, cntF sub 7 m, cntF sub 8 m]
theorem arr9_eql (la lb : List Int) (ha : la.length = 9) (hb : lb.length = 9) (w : World) : (binOp .eql 67 (.agg (la.map (Value.int .i64)).toArray) (.agg (lb.map (Value.int .i64)).toArray)).run Try.prog w = .ok (.bool (decide (la = lb))) w := by
  obtain ⟨i0, hi, _⟩ := info_parts (P := Try.prog) (e := 3) (z := .int .i64 0) (size := 1) (bytes := 8) (by kernel_rfl)
  exact arr_eql Try.underlying67 hi (by kernel_rfl) Try.underlying3 Try.isAgg3 la lb ha hb w
theorem arr9_neq (la lb : List Int) (ha : la.length = 9) (hb : lb.length = 9) (w : World) : (binOp .neq 67 (.agg (la.map (Value.int .i64)).toArray) (.agg (lb.map (Value.int .i64)).toArray)).run Try.prog w = .ok (.bool (!decide (la = lb))) w := by
  obtain ⟨i0, hi, _⟩ := info_parts (P := Try.prog) (e := 3) (z := .int .i64 0) (size := 1) (bytes := 8) (by kernel_rfl)
  exact arr_neq Try.underlying67 hi (by kernel_rfl) Try.underlying3 Try.isAgg3 la lb ha hb w
theorem aw14_1 : oweB [] (1, 5) = ([((1, 5), 0)], 0) := by decide
theorem aw14_2 : oweB [((1, 5), 0)] (1, 6) = ([((1, 5), 0), ((1, 6), 0)], 0) := by decide
theorem aw14_3 : oweB [((1, 5), 0), ((1, 6), 0)] (1, 5) = ([((1, 5), 0), ((1, 6), 0)], 6) := by decide
theorem aw14_4 : settleB [((1, 5), 0), ((1, 6), 0)] (1, 5) 2 = ([((1, 5), 2), ((1, 6), 0)], 0) := by decide
theorem aw14_5 : settleB [((1, 5), 2), ((1, 6), 0)] (1, 5) 1 = ([((1, 5), 2), ((1, 6), 0)], 6) := by decide
theorem aw14_c : cntArr 1 [((1, 5), 2), ((1, 6), 0)] = #[.int .i64 1, .int .i64 0, .int .i64 1, .int .i64 0, .int .i64 0, .int .i64 0, .int .i64 0, .int .i64 0, .int .i64 0] := rfl
theorem aw14_p : pendB [((1, 5), 2), ((1, 6), 0)] 1 = [6] := by
  unfold pendB
  have : pendOf 1 [((1, 5), 2), ((1, 6), 0)] = [6] := by decide
  rw [this]
  exact srt_of_sorted (by simp)
theorem aw14_e : endB [((1, 5), 2), ((1, 6), 0)] 1 8 = ([((1, 5), 2), ((1, 6), 8)], [6]) := by
  unfold endB
  rw [aw14_p]
  decide
theorem aw14_f : mget ([((1, 5), 2), ((1, 6), 0)] : Bk) (1, 5) = some 2 := by decide
theorem aw14_g : mget ([((1, 5), 2), ((1, 6), 8)] : Bk) (1, 6) = some 8 := by decide
theorem aw14_o : oweB [((1, 5), 2), ((1, 6), 8)] (6, 0) = ([((1, 5), 2), ((1, 6), 8)], 1) := by decide
theorem aw14_s : settleB [((1, 5), 2), ((1, 6), 8)] (0, 0) 1 = ([((1, 5), 2), ((1, 6), 8)], 5) := by decide
structure Aw14 (w2 : World) (B b : Nat) (m : Bk) (x : World) : Prop where
  book : BookAt x B b m
  five : x.heap[w2.heap.size]? = some (.cells #[.int .i64 1, .int .i64 5] 54 (0, 0))
  six : x.heap[w2.heap.size + 1]? = some (.cells #[.int .i64 1, .int .i64 6] 54 (0, 0))
  away : Away (fun k => k = b) w2 x
  lt : b < w2.heap.size
theorem Aw14.on {w2 x y : World} {B b : Nat} {m m' : Bk} (h : Aw14 w2 B b m x) (hb : BookAt y B b m') (a : Away (fun k => k = b) x y) : Aw14 w2 B b m' y :=
  ⟨hb, a.blk h.five (by have := h.lt; omega), a.blk h.six (by have := h.lt; omega), h.away.trans a, h.lt⟩
theorem Aw14.more {w2 x y : World} {B b : Nat} {m : Bk} (h : Aw14 w2 B b m x) (a : More x y) : Aw14 w2 B b m y := h.on (h.book.more a) (Away.of_more a)
theorem Aw14.all {w w2 x : World} {B b : Nat} {m : Bk} (h : Aw14 w2 B b m x) (m2 : More w w2) (hb : w.heap.size ≤ b) : More w x := Away.to_more m2 h.away (fun k hk => by subst hk; exact hb)
set_option maxHeartbeats 8000000 in
theorem awake14 (w : World) : Calls Try.prog 26 #[] w fun e w' => e = .returned (.bool true) ∧ More w w' := by
  have q9 : ∀ w, (binOp .eql 67 (.agg #[.int .i64 1, .int .i64 0, .int .i64 1, .int .i64 0, .int .i64 0, .int .i64 0, .int .i64 0, .int .i64 0, .int .i64 0]) (.agg #[.int .i64 1, .int .i64 0, .int .i64 1, .int .i64 0, .int .i64 0, .int .i64 0, .int .i64 0, .int .i64 0, .int .i64 0])).run Try.prog w = .ok (.bool true) w := fun w => arr9_eql [1, 0, 1, 0, 0, 0, 0, 0, 0] [1, 0, 1, 0, 0, 0, 0, 0, 0] rfl rfl w
  go_enter Try.func26, Try.ntmps26
  go_wp2_with (go_at_call 27; ((with_reducible refine (BNew _).mono ?_); rintro e w2 ⟨B, b, rfl, hB, hb, h2, m2⟩; have K2 : Hid (Aw14 w2 B b [] ((w2.alloc (.cells #[.int .i64 1, .int .i64 5] 54)).alloc (.cells #[.int .i64 1, .int .i64 6] 54))) := Lib.hid ⟨h2.more ((More.alloc _ _).al _), blk_alloc (blk_new _ _) _, blk_new2 (by simp), Away.of_more ((More.alloc _ _).al _), h2.map.lt⟩; have M2 := Lib.hid m2; have HBW := Lib.hid hb; clear h2 m2 hB hb))
  generalize (w2.alloc (.cells #[.int .i64 1, .int .i64 5] 54)).alloc (.cells #[.int .i64 1, .int .i64 6] 54) = W4 at *
  have L0 : ∀ x : LaterS (fun k => k = b) W4, x.w'.cell? ⟨w2.heap.size, 0, none⟩ = some (.int .i64 1) := fun x => blk_cell (x.h.blk K2.out.five (by have := K2.out.lt; omega)) 0 rfl
  have L1 : ∀ x : LaterS (fun k => k = b) W4, x.w'.cell? ⟨w2.heap.size, 1, none⟩ = some (.int .i64 5) := fun x => blk_cell (x.h.blk K2.out.five (by have := K2.out.lt; omega)) 1 rfl
  have L2 : ∀ x : LaterS (fun k => k = b) W4, x.w'.cell? ⟨w2.heap.size + 1, 0, none⟩ = some (.int .i64 1) := fun x => blk_cell (x.h.blk K2.out.six (by have := K2.out.lt; omega)) 0 rfl
  have L3 : ∀ x : LaterS (fun k => k = b) W4, x.w'.cell? ⟨w2.heap.size + 1, 1, none⟩ = some (.int .i64 6) := fun x => blk_cell (x.h.blk K2.out.six (by have := K2.out.lt; omega)) 1 rfl
  refine wp_region_numS (fun k => k = b) W4 12 [(0, false), (1, false), (3, false), (4, false), (6, false), (7, false), (2, true), (5, true), (8, true), (9, false), (10, false), (11, false)] (by kernel_rfl) (by kernel_rfl) ?_
  iterate 6 (refine num_quiet rfl rfl (laterS_mk (by repeat (first | exact Away.refl _ _ | assumption | refine Away.drewN ?_ _ | refine Away.set ?_ (by first | rfl | exact Or.inl rfl | exact Or.inr rfl) _))) ?_; intro K hK; go_big_quiet_op; go_big_quiet_on)
  (refine num_next rfl rfl ?_; intro K hK; unfold loud; go_simp)
  refine (BOwe (K2.out.book.more (More.drewN _ 1)) (1, 5)).mono ?_
  rintro e w5 ⟨rfl, h5, a5⟩
  rw [aw14_1] at h5 ⊢
  have A5 := (Away.of_more (S := fun k => k = b) (More.drewN W4 1)).trans a5
  have K5 := Lib.hid (K2.out.on h5 A5)
  refine ⟨_, rfl, laterS_mk A5, hK _ _ ?_⟩
  clear hK K h5 a5
  (refine num_next rfl rfl ?_; intro K hK; unfold loud; go_simp)
  refine (BOwe K5.out.book (1, 6)).mono ?_
  rintro e w6 ⟨rfl, h6, a6⟩
  rw [aw14_2] at h6 ⊢
  have A6 := A5.trans a6
  have K6 := Lib.hid (K5.out.on h6 a6)
  refine ⟨_, rfl, laterS_mk A6, hK _ _ ?_⟩
  clear hK K h6 a6
  (refine num_next rfl rfl ?_; intro K hK; unfold loud; go_simp)
  refine (BOwe K6.out.book (1, 5)).mono ?_
  rintro e w7 ⟨rfl, h7, a7⟩
  rw [aw14_3] at h7 ⊢
  have A7 := A6.trans a7
  have K7 := Lib.hid (K6.out.on h7 a7)
  refine ⟨_, rfl, laterS_mk A7, hK _ _ ?_⟩
  clear hK K h7 a7
  iterate 3 (refine num_quiet rfl rfl (laterS_mk A7) ?_; intro K hK; go_big_quiet_op; go_big_quiet_on)
  refine num_nil ?_
  go_wp2_with fail
  refine wp_region_numS (fun k => k = b) W4 8 [(0, false), (1, false), (3, false), (4, false), (2, true), (5, true), (6, false), (7, false)] (by kernel_rfl) (by kernel_rfl) ?_
  iterate 4 (refine num_quiet rfl rfl (laterS_mk (A7.drewN 1)) ?_; intro K hK; go_big_quiet_op; go_big_quiet_on)
  (refine num_next rfl rfl ?_; intro K hK; unfold loud; go_simp)
  refine (BSettle (K7.out.book.more (More.drewN _ 1)) (1, 5) 2).mono ?_
  rintro e w8 ⟨rfl, h8, a8⟩
  rw [aw14_4] at h8 ⊢
  have A8 := (A7.drewN 1).trans a8
  have K8 := Lib.hid ((K7.out.more (More.drewN _ 1)).on h8 a8)
  refine ⟨_, rfl, laterS_mk A8, hK _ _ ?_⟩
  clear hK K h8 a8
  (refine num_next rfl rfl ?_; intro K hK; unfold loud; go_simp)
  refine (BSettle K8.out.book (1, 5) 1).mono ?_
  rintro e w9 ⟨rfl, h9, a9⟩
  rw [aw14_5] at h9 ⊢
  have A9 := A8.trans a9
  have K9 := Lib.hid (K8.out.on h9 a9)
  refine ⟨_, rfl, laterS_mk A9, hK _ _ ?_⟩
  clear hK K h9 a9
  iterate 2 (refine num_quiet rfl rfl (laterS_mk A9) ?_; intro K hK; go_big_quiet_op; go_big_quiet_on)
  refine num_nil ?_
  clear A5 A6 A7 A8 A9 L0 L1 L2 L3 K2 K5 K6 K7 K8
  go_wp2_with first | (go_at_call 33; ((with_reducible refine (BCounts K9.out.book 1 (by decide)).mono ?_); rintro e w10 ⟨rfl, m10⟩; rw [aw14_c]; have K10 := K9.out.more m10; have Z10 := K10.away.size; have K11 := Lib.hid (K10.more (More.alloc w10 (.cells #[.int .i64 1, .int .i64 0, .int .i64 1, .int .i64 0, .int .i64 0, .int .i64 0, .int .i64 0, .int .i64 0, .int .i64 0] 67))); have N11 := Lib.hid (blk_new w10 (.cells #[.int .i64 1, .int .i64 0, .int .i64 1, .int .i64 0, .int .i64 0, .int .i64 0, .int .i64 0, .int .i64 0, .int .i64 0] 67)); clear m10 K10)) | (go_at_call 32; ((with_reducible refine (BPending K11.out.book 1 (by decide)).mono ?_); rintro e w12 ⟨⟨v12, rfl, s12⟩, m12⟩; rw [aw14_p] at s12; have S12 := Lib.hid s12; obtain ⟨o12, k12, rfl, _⟩ := s12; have S12 : Hid (SlI .i64 w12 (.slice o12 1 k12) [6]) := S12; have K12 := Lib.hid (K11.out.more m12); have N12 := Lib.hid (blk_more m12 N11.out); clear m12; have f0 := blk_cell K12.out.five 0 (v := .int .i64 1) rfl; have f1 := blk_cell K12.out.five 1 (v := .int .i64 5) rfl)) | (go_at_call 28; ((with_reducible refine (BFate K12.out.book (1, 5)).mono ?_); rintro e w13 ⟨rfl, m13⟩; rw [aw14_f]; have K13 := Lib.hid (K12.out.more m13); have N13 := Lib.hid (blk_more m13 N12.out); have S13 := Lib.hid (S12.out.keep m13); clear m13 f0 f1)) | (go_at_call 31; ((with_reducible refine (BEnd K13.out.book 1 8 (by decide)).mono ?_); rintro e w14 ⟨⟨v14, rfl, s14⟩, h14, a14⟩; rw [aw14_e] at s14 h14; have S14 := Lib.hid s14; obtain ⟨o14, k14, rfl, _⟩ := s14; have S14 : Hid (SlI .i64 w14 (.slice o14 1 k14) [6]) := S14; have K14 := Lib.hid (K13.out.on h14 a14); have N14 := Lib.hid (a14.blk N13.out (by have := K13.out.lt; omega)); have T14 := Lib.hid (S13.out.onmap K13.out.book.map a14); clear h14 a14; have g0 := blk_cell K14.out.six 0 (v := .int .i64 1) rfl; have g1 := blk_cell K14.out.six 1 (v := .int .i64 6) rfl)) | (go_at_call 28; ((with_reducible refine (BFate K14.out.book (1, 6)).mono ?_); rintro e w15 ⟨rfl, m15⟩; rw [aw14_g]; have K15 := Lib.hid (K14.out.more m15); have N15 := Lib.hid (blk_more m15 N14.out); have T15 := Lib.hid (T14.out.keep m15); have S15 := Lib.hid (S14.out.keep m15); clear m15 g0 g1; have n0 := blk_cell N15.out 0 (v := .int .i64 1) rfl; have n1 := blk_cell N15.out 1 (v := .int .i64 0) rfl; have n2 := blk_cell N15.out 2 (v := .int .i64 1) rfl; have n3 := blk_cell N15.out 3 (v := .int .i64 0) rfl; have n4 := blk_cell N15.out 4 (v := .int .i64 0) rfl; have n5 := blk_cell N15.out 5 (v := .int .i64 0) rfl; have n6 := blk_cell N15.out 6 (v := .int .i64 0) rfl; have n7 := blk_cell N15.out 7 (v := .int .i64 0) rfl; have n8 := blk_cell N15.out 8 (v := .int .i64 0) rfl;)) | (go_at_call 34; ((with_reducible refine (SameI_any [6] [6] _ _ (w15.alloc (.cells #[.int .i64 6] 3)) (T15.out.keep (More.alloc _ _)) (SlI.lit .i64 w15 [6] 3 _ 1 _ (by simp) rfl rfl (by simp))).mono ?_); rintro e w16 ⟨rfl, k16, rfl⟩; rw [decide_eq_true rfl])) | (go_at_call 34; ((with_reducible refine (SameI_any [6] [6] _ _ (((w15.alloc (.cells #[.int .i64 6] 3)).drewN k16).alloc (.cells #[.int .i64 6] 3)) (S15.out.keep (((More.alloc _ _).dr _).al _)) (SlI.lit .i64 ((w15.alloc (.cells #[.int .i64 6] 3)).drewN k16) [6] 3 _ 1 _ (by simp) rfl (by simp) (by simp))).mono ?_); rintro e w17 ⟨rfl, k17, rfl⟩; rw [decide_eq_true rfl]; have K17 := Lib.hid (K15.out.more ((((More.alloc w15 (.cells #[.int .i64 6] 3)).dr k16).al (.cells #[.int .i64 6] 3)).dr k17)))) | (go_at_call 29; ((with_reducible refine (BOwe K17.out.book (6, 0)).mono ?_); rintro e w18 ⟨rfl, h18, a18⟩; rw [aw14_o] at h18 ⊢; have K18 := Lib.hid (K17.out.on h18 a18); clear h18 a18)) | (go_at_call 30; ((with_reducible refine (BSettle K18.out.book (0, 0) 1).mono ?_); rintro e w19 ⟨rfl, h19, a19⟩; rw [aw14_s] at h19 ⊢; have K19 := Lib.hid (K18.out.on h19 a19); clear h19 a19))
  go_ret
  exact ⟨rfl, K19.out.all M2.out HBW.out⟩
end Go.Proofs.Ytmhkjamibcdcdaa
