/- Chunks: awake, and the law ChunkBack. -/
import Derived.Test.YtaobhpaabnljpaaChunkF
namespace Go.Proofs.Ytaobhpaabnljpaa
open Go.RowKit
set_option maxRecDepth 100000

/-- A slice literal of one struct. -/
theorem SlP.one {α : Type} {n : Nat} {R : Reader α} {w : World} {cs : Array Value} {t B : Nat} {y : α} (hn : cs.size = n) (h0 : 0 < n) (hB : B = w.heap.size) (h : R (w.alloc (.cells cs t)) cs.toList y) :
    SlP n R (w.alloc (.cells cs t)) (.slice (some ⟨B, 0, none⟩) 1 1) [y] := by
  subst hB hn
  refine ⟨_, 1, rfl, by simp, fun i hi => ?_, by simp, by unfold maxLen; omega, fun h => by cases h⟩
  simp at hi
  subst hi
  refine ⟨w.heap.size, 0, cs.toList, rfl, by simp, by simp, fun j hj => ?_, h⟩
  rw [Nat.zero_mul, Nat.add_zero, Nat.zero_add, cell_of_row _ w.heap.size j cs t (0, 0) (blk_new w _)]
  simp
def awC : Chunk := (1, 200, [1, 2, 3, 4], ())
theorem awC_ok : ChunkOK awC := ⟨by decide, by decide, Byt.of_all (by decide)⟩
set_option maxHeartbeats 2000000 in
theorem awake07 (w : World) :
    Calls Try.prog 40 #[] w fun e w' => e = .returned (.bool true) ∧ More w w' := by
  have j1 : joinC [awC] = ([129, 200, 0, 1, 1, 2, 3, 4], 0) := by decide
  have s1 : splitC [129, 200, 0, 1, 1, 2, 3, 4] = ([awC], 0) := by decide
  have byt8 : Byt [129, 200, 0, 1, 1, 2, 3, 4] := Byt.of_all (by decide)
  have J1 := Lib.hid j1
  have S1 := Lib.hid s1
  clear j1 s1
  have lit0 : SlI .u8 (w.alloc (.cells #[.int .u8 1, .int .u8 2, .int .u8 3, .int .u8 4] 5)) (.slice (some ⟨w.heap.size, 0, none⟩) 4 4) [1, 2, 3, 4] := SlI.lit .u8 w [1, 2, 3, 4] 5 _ 4 _ (by simp) rfl rfl (by simp)
  have M2 : More w (((w.alloc (.cells #[.int .u8 1, .int .u8 2, .int .u8 3, .int .u8 4] 5)).alloc (.cells #[.int .u8 1, .int .u8 200, .slice (some ⟨w.heap.size, 0, none⟩) 4 4] 84)).alloc (.cells #[.int .u8 1, .int .u8 200, .slice (some ⟨w.heap.size, 0, none⟩) 4 4] 84)) := ((More.alloc _ _).al _).al _
  have lit1 := SlP.one (n := 3) (R := RChunk) (y := awC) (cs := #[.int .u8 1, .int .u8 200, .slice (some ⟨w.heap.size, 0, none⟩) 4 4]) (t := 84) (B := w.heap.size + 2) (w := (w.alloc (.cells #[.int .u8 1, .int .u8 2, .int .u8 3, .int .u8 4] 5)).alloc (.cells #[.int .u8 1, .int .u8 200, .slice (some ⟨w.heap.size, 0, none⟩) 4 4] 84)) rfl (by decide) (by simp) (chunk_mk ((lit0.keep (More.alloc _ _)).keep (More.alloc _ _)) awC_ok)
  have blk1 := blk_alloc (blk_new (w.alloc (.cells #[.int .u8 1, .int .u8 2, .int .u8 3, .int .u8 4] 5)) (.cells #[.int .u8 1, .int .u8 200, .slice (some ⟨w.heap.size, 0, none⟩) 4 4] 84)) (.cells #[.int .u8 1, .int .u8 200, .slice (some ⟨w.heap.size, 0, none⟩) 4 4] 84)
  have hsz : (w.alloc (.cells #[.int .u8 1, .int .u8 2, .int .u8 3, .int .u8 4] 5)).heap.size = w.heap.size + 1 := by simp
  rw [hsz] at blk1
  have L0 := Lib.hid (((lit0.keep (More.alloc _ (.cells #[.int .u8 1, .int .u8 200, .slice (some ⟨w.heap.size, 0, none⟩) 4 4] 84))).keep (More.alloc _ (.cells #[.int .u8 1, .int .u8 200, .slice (some ⟨w.heap.size, 0, none⟩) 4 4] 84))))
  have B1 := Lib.hid blk1
  have LB := Lib.hid lit1
  clear lit0 lit1 blk1 hsz
  go_enter Try.func40, Try.ntmps40
  go_wp2_with first | (go_at_call 43; refine (Join_any _ [awC] _ LB.out (by decide) (by intro i hi; simp at hi; subst hi; decide)).mono ?_; rintro e w1 ⟨v1, rfl, sx1, m1⟩; rw [J1.out]; rw [J1.out] at sx1; have X1 := Lib.hid sx1; obtain ⟨o1, c1, rfl, _⟩ := sx1; have X1 : Hid (SlI .u8 w1 (.slice o1 8 c1) [129, 200, 0, 1, 1, 2, 3, 4]) := X1; have M1 := M2.trans m1) | (go_at_call 42; ((with_reducible refine (Split_any _ [129, 200, 0, 1, 1, 2, 3, 4] w1 X1.out byt8 (by decide)).mono ?_); rintro e w3 ⟨v3, rfl, sx3, m3⟩; rw [S1.out]; rw [S1.out] at sx3; have X3 : Hid (SlP 3 RChunk w3 v3 [awC]) := Lib.hid sx3; clear sx3)) | (go_at_call 42; ((with_reducible refine (Split_any _ [] w3 (SlI.nil _ _) byt_nil (by decide)).mono ?_); rintro e w5 ⟨v5, rfl, sx5, m5⟩; rw [splitC_nil]; clear sx5; have m35 := m3.trans m5))
  have Y1 := Lib.hid (X1.out.keep m35)
  have Y3 := Lib.hid (X3.out.keep keepsChunk m5)
  have B5 := Lib.hid (blk_more (m1.trans m35) B1.out)
  have L5 := Lib.hid (L0.out.keep (m1.trans m35))
  have M5 := M1.trans m35
  have C0 : ∀ x : Later w5, x.w'.cell? ⟨w.heap.size + 1, 0, none⟩ = some (.int .u8 1) := fun x => blk_cell (blk_more x.h B5.out) 0 rfl
  have C1 : ∀ x : Later w5, x.w'.cell? ⟨w.heap.size + 1, 1, none⟩ = some (.int .u8 200) := fun x => blk_cell (blk_more x.h B5.out) 1 rfl
  have C2 : ∀ x : Later w5, x.w'.cell? ⟨w.heap.size + 1, 2, none⟩ = some (.slice (some ⟨w.heap.size, 0, none⟩) 4 4) := fun x => blk_cell (blk_more x.h B5.out) 2 rfl
  clear m35 m5 m3 m1 M1 M2
  refine wp_region_trL w5 32 (.op 0 false (.op 1 true (.op 2 true (.op 3 false (.op 4 false (.op 5 false (.op 6 false (.op 7 false (.op 8 false (.op 9 false (.op 10 false (.op 11 false (.op 12 false (.op 14 false (.br [13, 15] fun k => if k = 13 then .op 15 true (.op 16 true (.op 17 false (.op 18 false (.op 19 false (.op 20 false (.op 21 false (.op 22 false (.op 23 false (.op 24 true (.op 25 false (.op 26 false (.op 27 false (.op 28 true (.op 29 false (.op 30 false (.op 31 false (.done))))))))))))))))) else .op 13 true (.op 16 true (.op 17 false (.op 18 false (.op 19 false (.op 20 false (.op 21 false (.op 22 false (.op 23 false (.op 24 true (.op 25 false (.op 26 false (.op 27 false (.op 28 true (.op 29 false (.op 30 false (.op 31 false (.done)))))))))))))))))))))))))))))))) (by kernel_rfl) (by kernel_rfl) ?_
  repeat (first | (refine tr_skip rfl rfl (later_mk (by repeat (first | exact More.refl _ | assumption | refine More.dr ?_ _ | refine More.al ?_ _ | refine More.st ?_ (by simp) _))) ?_) | (refine tr_quiet rfl rfl (later_mk (by repeat (first | exact More.refl _ | assumption | refine More.dr ?_ _ | refine More.al ?_ _ | refine More.st ?_ (by simp) _))) ?_; intro K hK; go_big_quiet_op; go_big_quiet_on))
  (refine tr_next rfl rfl ?_; intro K hK; unfold loud; go_simp)
  refine ⟨later_mk (by repeat (first | exact More.refl _ | assumption | refine More.dr ?_ _ | refine More.al ?_ _ | refine More.st ?_ (by simp) _)), hK _ _ ?_⟩
  clear hK K
  repeat (first | (refine tr_skip rfl rfl (later_mk (by repeat (first | exact More.refl _ | assumption | refine More.dr ?_ _ | refine More.al ?_ _ | refine More.st ?_ (by simp) _))) ?_) | (refine tr_quiet rfl rfl (later_mk (by repeat (first | exact More.refl _ | assumption | refine More.dr ?_ _ | refine More.al ?_ _ | refine More.st ?_ (by simp) _))) ?_; intro K hK; go_big_quiet_op; go_big_quiet_on))
  (refine tr_next rfl rfl ?_; intro K hK; unfold loud; go_simp)
  refine (Same_any [129, 200, 0, 1, 1, 2, 3, 4] [129, 200, 0, 1, 1, 2, 3, 4] _ _ _ (Y1.out.keep (by repeat (first | exact More.refl _ | assumption | refine More.dr ?_ _ | refine More.al ?_ _ | refine More.st ?_ (by simp) _))) (SlI.lit .u8 _ [129, 200, 0, 1, 1, 2, 3, 4] 5 _ 8 _ (by simp) rfl rfl (by simp))).mono ?_
  rintro e w6 ⟨rfl, k6, rfl⟩
  refine ⟨_, rfl, later_mk (by repeat (first | exact More.refl _ | assumption | refine More.dr ?_ _ | refine More.al ?_ _ | refine More.st ?_ (by simp) _)), hK _ _ ?_⟩
  clear hK K
  repeat (first | (refine tr_skip rfl rfl (later_mk (by repeat (first | exact More.refl _ | assumption | refine More.dr ?_ _ | refine More.al ?_ _ | refine More.st ?_ (by simp) _))) ?_) | (refine tr_quiet rfl rfl (later_mk (by repeat (first | exact More.refl _ | assumption | refine More.dr ?_ _ | refine More.al ?_ _ | refine More.st ?_ (by simp) _))) ?_; intro K hK; go_big_quiet_op; go_big_quiet_on))
  refine tr_two (by decide) ?_ ?_
  · (refine tr_next rfl rfl ?_; intro K hK; unfold loud; go_simp)
    refine (own07 _ _ _ (Y3.out.keep keepsChunk (by repeat (first | exact More.refl _ | assumption | refine More.dr ?_ _ | refine More.al ?_ _ | refine More.st ?_ (by simp) _))) (by decide)).mono ?_
    rintro e w7 ⟨v7, rfl, s7, m7⟩
    have hm7 : More w5 w7 := (show More w5 _ from (by repeat (first | exact More.refl _ | assumption | refine More.dr ?_ _ | refine More.al ?_ _ | refine More.st ?_ (by simp) _))).trans m7
    have S7 := Lib.hid s7
    clear s7 m7
    refine ⟨_, rfl, later_mk (by repeat (first | exact More.refl _ | assumption | refine More.dr ?_ _ | refine More.al ?_ _ | refine More.st ?_ (by simp) _)), hK _ _ ?_⟩
    clear hK K
    repeat (first | (refine tr_skip rfl rfl (later_mk (by repeat (first | exact More.refl _ | assumption | refine More.dr ?_ _ | refine More.al ?_ _ | refine More.st ?_ (by simp) _))) ?_) | (refine tr_quiet rfl rfl (later_mk (by repeat (first | exact More.refl _ | assumption | refine More.dr ?_ _ | refine More.al ?_ _ | refine More.st ?_ (by simp) _))) ?_; intro K hK; go_big_quiet_op; go_big_quiet_on))
    (refine tr_next rfl rfl ?_; intro K hK; unfold loud; go_simp)
    refine ⟨later_mk (by repeat (first | exact More.refl _ | assumption | refine More.dr ?_ _ | refine More.al ?_ _ | refine More.st ?_ (by simp) _)), hK _ _ ?_⟩
    clear hK K
    repeat (first | (refine tr_skip rfl rfl (later_mk (by repeat (first | exact More.refl _ | assumption | refine More.dr ?_ _ | refine More.al ?_ _ | refine More.st ?_ (by simp) _))) ?_) | (refine tr_quiet rfl rfl (later_mk (by repeat (first | exact More.refl _ | assumption | refine More.dr ?_ _ | refine More.al ?_ _ | refine More.st ?_ (by simp) _))) ?_; intro K hK; go_big_quiet_op; go_big_quiet_on))
    (refine tr_next rfl rfl ?_; intro K hK; unfold loud; go_simp)
    refine (Same07_any [awC] [awC] _ _ _ (S7.out.keep keepsChunk (More.alloc _ _)) ((SlP.one (n := 3) (R := RChunk) (y := awC) (cs := #[.int .u8 1, .int .u8 200, .slice (some ⟨w.heap.size, 0, none⟩) 4 4]) (t := 87) (w := w7) rfl (by decide) (by first | rfl | simp) (chunk_mk (L5.out.keep (by repeat (first | exact More.refl _ | assumption | refine More.dr ?_ _ | refine More.al ?_ _ | refine More.st ?_ (by simp) _))) awC_ok)))).mono ?_
    rintro e w8 ⟨rfl, m8⟩
    rw [decide_eq_true rfl]
    have hm8 : More w5 w8 := (show More w5 _ from (by repeat (first | exact More.refl _ | assumption | refine More.dr ?_ _ | refine More.al ?_ _ | refine More.st ?_ (by simp) _))).trans m8
    clear m8
    refine ⟨_, rfl, later_mk (by repeat (first | exact More.refl _ | assumption | refine More.dr ?_ _ | refine More.al ?_ _ | refine More.st ?_ (by simp) _)), hK _ _ ?_⟩
    clear hK K
    repeat (first | (refine tr_skip rfl rfl (later_mk (by repeat (first | exact More.refl _ | assumption | refine More.dr ?_ _ | refine More.al ?_ _ | refine More.st ?_ (by simp) _))) ?_) | (refine tr_quiet rfl rfl (later_mk (by repeat (first | exact More.refl _ | assumption | refine More.dr ?_ _ | refine More.al ?_ _ | refine More.st ?_ (by simp) _))) ?_; intro K hK; go_big_quiet_op; go_big_quiet_on))
    (refine tr_next rfl rfl ?_; intro K hK; unfold loud; go_simp)
    refine (Right07_any awC (L5.out.keep (by repeat (first | exact More.refl _ | assumption | refine More.dr ?_ _ | refine More.al ?_ _ | refine More.st ?_ (by simp) _))) (by decide)).mono ?_
    rintro e w9 ⟨rfl, m9⟩
    rw [show rightB awC = true by decide]
    have hm9 : More w5 w9 := (show More w5 _ from (by repeat (first | exact More.refl _ | assumption | refine More.dr ?_ _ | refine More.al ?_ _ | refine More.st ?_ (by simp) _))).trans m9
    clear m9
    refine ⟨_, rfl, later_mk (by repeat (first | exact More.refl _ | assumption | refine More.dr ?_ _ | refine More.al ?_ _ | refine More.st ?_ (by simp) _)), hK _ _ ?_⟩
    clear hK K
    repeat (first | (refine tr_skip rfl rfl (later_mk (by repeat (first | exact More.refl _ | assumption | refine More.dr ?_ _ | refine More.al ?_ _ | refine More.st ?_ (by simp) _))) ?_) | (refine tr_quiet rfl rfl (later_mk (by repeat (first | exact More.refl _ | assumption | refine More.dr ?_ _ | refine More.al ?_ _ | refine More.st ?_ (by simp) _))) ?_; intro K hK; go_big_quiet_op; go_big_quiet_on))
    (refine tr_next rfl rfl ?_; intro K hK; unfold loud; go_simp)
    refine (Right07_any (32, 0, [], ()) (SlI.nil _ _) (by decide)).mono ?_
    rintro e w10 ⟨rfl, m10⟩
    rw [show rightB (32, 0, [], ()) = false by decide]
    have hm10 : More w5 w10 := (show More w5 _ from (by repeat (first | exact More.refl _ | assumption | refine More.dr ?_ _ | refine More.al ?_ _ | refine More.st ?_ (by simp) _))).trans m10
    clear m10
    refine ⟨_, rfl, later_mk (by repeat (first | exact More.refl _ | assumption | refine More.dr ?_ _ | refine More.al ?_ _ | refine More.st ?_ (by simp) _)), hK _ _ ?_⟩
    clear hK K
    repeat (first | (refine tr_skip rfl rfl (later_mk (by repeat (first | exact More.refl _ | assumption | refine More.dr ?_ _ | refine More.al ?_ _ | refine More.st ?_ (by simp) _))) ?_) | (refine tr_quiet rfl rfl (later_mk (by repeat (first | exact More.refl _ | assumption | refine More.dr ?_ _ | refine More.al ?_ _ | refine More.st ?_ (by simp) _))) ?_; intro K hK; go_big_quiet_op; go_big_quiet_on))
    refine tr_done ?_
    go_wp2
    go_ret
    exact ⟨rfl, M5.trans hm10⟩
  · (refine tr_next rfl rfl ?_; intro K hK; unfold loud; go_simp)
    refine ⟨later_mk (by repeat (first | exact More.refl _ | assumption | refine More.dr ?_ _ | refine More.al ?_ _ | refine More.st ?_ (by simp) _)), hK _ _ ?_⟩
    clear hK K
    repeat (first | (refine tr_skip rfl rfl (later_mk (by repeat (first | exact More.refl _ | assumption | refine More.dr ?_ _ | refine More.al ?_ _ | refine More.st ?_ (by simp) _))) ?_) | (refine tr_quiet rfl rfl (later_mk (by repeat (first | exact More.refl _ | assumption | refine More.dr ?_ _ | refine More.al ?_ _ | refine More.st ?_ (by simp) _))) ?_; intro K hK; go_big_quiet_op; go_big_quiet_on))
    (refine tr_next rfl rfl ?_; intro K hK; unfold loud; go_simp)
    refine (own07 _ _ _ (Y3.out.keep keepsChunk (by repeat (first | exact More.refl _ | assumption | refine More.dr ?_ _ | refine More.al ?_ _ | refine More.st ?_ (by simp) _))) (by decide)).mono ?_
    rintro e w7 ⟨v7, rfl, s7, m7⟩
    have hm7 : More w5 w7 := (show More w5 _ from (by repeat (first | exact More.refl _ | assumption | refine More.dr ?_ _ | refine More.al ?_ _ | refine More.st ?_ (by simp) _))).trans m7
    have S7 := Lib.hid s7
    have HM7 := Lib.hid m7
    clear s7 m7
    refine ⟨_, rfl, later_mk (by repeat (first | exact More.refl _ | assumption | refine More.dr ?_ _ | refine More.al ?_ _ | refine More.st ?_ (by simp) _)), hK _ _ ?_⟩
    clear hK K
    repeat (first | (refine tr_skip rfl rfl (later_mk (by repeat (first | exact More.refl _ | assumption | refine More.dr ?_ _ | refine More.al ?_ _ | refine More.st ?_ (by simp) _))) ?_) | (refine tr_quiet rfl rfl (later_mk (by repeat (first | exact More.refl _ | assumption | refine More.dr ?_ _ | refine More.al ?_ _ | refine More.st ?_ (by simp) _))) ?_; intro K hK; go_big_quiet_op; go_big_quiet_on))
    (refine tr_next rfl rfl ?_; intro K hK; unfold loud; go_simp)
    refine (Same07_any [awC] [awC] _ _ _ (S7.out) (((SlP.one (n := 3) (R := RChunk) (y := awC) (cs := #[.int .u8 1, .int .u8 200, .slice (some ⟨w.heap.size, 0, none⟩) 4 4]) (t := 87) (w := (((w5.drewN 1).alloc (.cells #[.int .u8 129, .int .u8 200, .int .u8 0, .int .u8 1, .int .u8 1, .int .u8 2, .int .u8 3, .int .u8 4] 5)).drewN k6)) rfl (by decide) (by first | rfl | simp) (chunk_mk (L5.out.keep (by repeat (first | exact More.refl _ | assumption | refine More.dr ?_ _ | refine More.al ?_ _ | refine More.st ?_ (by simp) _))) awC_ok))).keep keepsChunk HM7.out)).mono ?_
    rintro e w8 ⟨rfl, m8⟩
    rw [decide_eq_true rfl]
    have hm8 : More w5 w8 := (show More w5 _ from (by repeat (first | exact More.refl _ | assumption | refine More.dr ?_ _ | refine More.al ?_ _ | refine More.st ?_ (by simp) _))).trans m8
    clear m8
    refine ⟨_, rfl, later_mk (by repeat (first | exact More.refl _ | assumption | refine More.dr ?_ _ | refine More.al ?_ _ | refine More.st ?_ (by simp) _)), hK _ _ ?_⟩
    clear hK K
    repeat (first | (refine tr_skip rfl rfl (later_mk (by repeat (first | exact More.refl _ | assumption | refine More.dr ?_ _ | refine More.al ?_ _ | refine More.st ?_ (by simp) _))) ?_) | (refine tr_quiet rfl rfl (later_mk (by repeat (first | exact More.refl _ | assumption | refine More.dr ?_ _ | refine More.al ?_ _ | refine More.st ?_ (by simp) _))) ?_; intro K hK; go_big_quiet_op; go_big_quiet_on))
    (refine tr_next rfl rfl ?_; intro K hK; unfold loud; go_simp)
    refine (Right07_any awC (L5.out.keep (by repeat (first | exact More.refl _ | assumption | refine More.dr ?_ _ | refine More.al ?_ _ | refine More.st ?_ (by simp) _))) (by decide)).mono ?_
    rintro e w9 ⟨rfl, m9⟩
    rw [show rightB awC = true by decide]
    have hm9 : More w5 w9 := (show More w5 _ from (by repeat (first | exact More.refl _ | assumption | refine More.dr ?_ _ | refine More.al ?_ _ | refine More.st ?_ (by simp) _))).trans m9
    clear m9
    refine ⟨_, rfl, later_mk (by repeat (first | exact More.refl _ | assumption | refine More.dr ?_ _ | refine More.al ?_ _ | refine More.st ?_ (by simp) _)), hK _ _ ?_⟩
    clear hK K
    repeat (first | (refine tr_skip rfl rfl (later_mk (by repeat (first | exact More.refl _ | assumption | refine More.dr ?_ _ | refine More.al ?_ _ | refine More.st ?_ (by simp) _))) ?_) | (refine tr_quiet rfl rfl (later_mk (by repeat (first | exact More.refl _ | assumption | refine More.dr ?_ _ | refine More.al ?_ _ | refine More.st ?_ (by simp) _))) ?_; intro K hK; go_big_quiet_op; go_big_quiet_on))
    (refine tr_next rfl rfl ?_; intro K hK; unfold loud; go_simp)
    refine (Right07_any (32, 0, [], ()) (SlI.nil _ _) (by decide)).mono ?_
    rintro e w10 ⟨rfl, m10⟩
    rw [show rightB (32, 0, [], ()) = false by decide]
    have hm10 : More w5 w10 := (show More w5 _ from (by repeat (first | exact More.refl _ | assumption | refine More.dr ?_ _ | refine More.al ?_ _ | refine More.st ?_ (by simp) _))).trans m10
    clear m10
    refine ⟨_, rfl, later_mk (by repeat (first | exact More.refl _ | assumption | refine More.dr ?_ _ | refine More.al ?_ _ | refine More.st ?_ (by simp) _)), hK _ _ ?_⟩
    clear hK K
    repeat (first | (refine tr_skip rfl rfl (later_mk (by repeat (first | exact More.refl _ | assumption | refine More.dr ?_ _ | refine More.al ?_ _ | refine More.st ?_ (by simp) _))) ?_) | (refine tr_quiet rfl rfl (later_mk (by repeat (first | exact More.refl _ | assumption | refine More.dr ?_ _ | refine More.al ?_ _ | refine More.st ?_ (by simp) _))) ?_; intro K hK; go_big_quiet_op; go_big_quiet_on))
    refine tr_done ?_
    go_wp2
    go_ret
    exact ⟨rfl, M5.trans hm10⟩
end Go.Proofs.Ytaobhpaabnljpaa
