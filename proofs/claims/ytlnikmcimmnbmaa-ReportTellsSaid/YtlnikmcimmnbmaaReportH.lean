/- Reports: awake. -/
import Derived.Test.YtlnikmcimmnbmaaReportG
namespace Go.Proofs.Ytlnikmcimmnbmaa
set_option linter.unusedSimpArgs false
set_option linter.unusedVariables false
open Go.RowKit
set_option maxRecDepth 100000

theorem awR5_ok : RepOK ⟨false, 5, ⟨0, 0, 0, 0, 0⟩, []⟩ := ⟨by decide, ⟨by decide, by decide, by decide, by decide, by decide⟩, fun b hb => by cases hb⟩
theorem awB_ok : BlkOK ⟨3, 0, -1, 0, 0, 0, 0⟩ := ⟨by decide, by decide, by decide, by decide, by decide, by decide, by decide⟩
theorem awS_ok : RepOK ⟨true, 1, ⟨2, 0, 0, 0, 0⟩, [⟨3, 0, -1, 0, 0, 0, 0⟩]⟩ := ⟨by decide, ⟨by decide, by decide, by decide, by decide, by decide⟩, fun b hb => by
  simp at hb
  subst hb
  exact awB_ok⟩
theorem awC_ok8 : ChunkOK (0, 201, [0, 0, 0, 5], ()) := ⟨by decide, by decide, Byt.of_all (by decide)⟩
theorem awD_ok8 : ChunkOK (1, 200, [0, 0, 0, 1, 0, 0, 0, 2, 0, 0, 0, 0, 0, 0, 0, 0, 0, 0, 0, 0, 0, 0, 0, 0, 0, 0, 0, 3, 0, 255, 255, 255, 0, 0, 0, 0, 0, 0, 0, 0, 0, 0, 0, 0, 0, 0, 0, 0], ()) := ⟨by decide, by decide, Byt.of_all (by decide)⟩
theorem aw9_ok8 : ChunkOK (0, 9, [], ()) := ⟨by decide, by decide, byt_nil⟩
theorem awLit {w : World} {B : Nat} (hB : B = w.heap.size) : SlP 7 RBlk (w.alloc (.cells #[.int .u32 3, .int .u8 0, .int .i32 (-1), .int .u32 0, .int .u32 0, .int .u32 0, .int .u32 0] 134)) (.slice (some ⟨B, 0, none⟩) 1 1) [⟨3, 0, -1, 0, 0, 0, 0⟩] :=
  SlP.one rfl (by decide) hB ⟨rfl, awB_ok⟩
theorem awLitA {w : World} {B : Nat} {vb : Value} (s : SlI .u8 w vb [0, 0, 0, 5]) (hB : B = w.heap.size) : SlP 3 RChunk (w.alloc (.cells #[.int .u8 0, .int .u8 201, vb] 35)) (.slice (some ⟨B, 0, none⟩) 1 1) [(0, 201, [0, 0, 0, 5], ())] :=
  SlP.one rfl (by decide) hB (chunk_mk (c := (0, 201, [0, 0, 0, 5], ())) (s.keep (More.alloc _ _)) awC_ok8)
theorem awW1 : writeR ⟨false, 5, ⟨0, 0, 0, 0, 0⟩, []⟩ = ((0, 201, [0, 0, 0, 5], ()), 0) := by decide
theorem awR1 : readR (0, 201, [0, 0, 0, 5], ()) = (⟨false, 5, ⟨0, 0, 0, 0, 0⟩, []⟩, 0) := by decide
theorem awW2 : writeR ⟨true, 1, ⟨2, 0, 0, 0, 0⟩, [⟨3, 0, -1, 0, 0, 0, 0⟩]⟩ = ((1, 200, [0, 0, 0, 1, 0, 0, 0, 2, 0, 0, 0, 0, 0, 0, 0, 0, 0, 0, 0, 0, 0, 0, 0, 0, 0, 0, 0, 3, 0, 255, 255, 255, 0, 0, 0, 0, 0, 0, 0, 0, 0, 0, 0, 0, 0, 0, 0, 0], ()), 0) := by decide
theorem awR2 : readR (1, 200, [0, 0, 0, 1, 0, 0, 0, 2, 0, 0, 0, 0, 0, 0, 0, 0, 0, 0, 0, 0, 0, 0, 0, 0, 0, 0, 0, 3, 0, 255, 255, 255, 0, 0, 0, 0, 0, 0, 0, 0, 0, 0, 0, 0, 0, 0, 0, 0], ()) = (⟨true, 1, ⟨2, 0, 0, 0, 0⟩, [⟨3, 0, -1, 0, 0, 0, 0⟩]⟩, 0) := by decide
theorem awR3 : readR (0, 9, [], ()) = (⟨false, 0, ⟨0, 0, 0, 0, 0⟩, []⟩, 5) := by decide
theorem awRt : rightR ⟨true, 1, ⟨2, 0, 0, 0, 0⟩, [⟨3, 0, -1, 0, 0, 0, 0⟩]⟩ = true := by decide
set_option maxHeartbeats 8000000 in
theorem awake08 (w : World) :
    Calls Try.prog 15 #[] w fun e w' => e = .returned (.bool true) ∧ More w w' := by
  go_enter Try.func15, Try.ntmps15
  go_wp2_with first | (go_at_call 16; ((with_reducible refine (Write08_any ⟨false, 5, ⟨0, 0, 0, 0, 0⟩, []⟩ (SlP.nil _ _ _) awR5_ok).mono ?_); rintro e w1 ⟨v1, rfl, s1, m1⟩; rw [awW1]; rw [awW1] at s1; have S1 : Hid (SlI .u8 w1 v1 [0, 0, 0, 5]) := Lib.hid s1; obtain ⟨o1, k1, rfl, _⟩ := s1; have S1 : Hid (SlI .u8 w1 (.slice o1 4 k1) [0, 0, 0, 5]) := S1)) | (go_at_call 19; ((with_reducible refine (Read08_any (0, 201, [0, 0, 0, 5], ()) (S1.out.keep (More.alloc w1 (.cells #[.int .u8 0, .int .u8 201, .slice o1 4 k1] 30))) awC_ok8 (by decide)).mono ?_); rintro e w2 ⟨⟨v2, rfl, s2⟩, m2⟩; rw [awR1]; rw [awR1] at s2; have S2 : Hid (SlP 7 RBlk w2 v2 []) := Lib.hid s2; obtain ⟨o2, k2, rfl, _⟩ := s2; have S2 : Hid (SlP 7 RBlk w2 (.slice o2 0 k2) []) := S2; have M2 := Lib.hid (((m1.al (.cells #[.int .u8 0, .int .u8 201, .slice o1 4 k1] 30)).trans m2)); have BC := Lib.hid (blk_more m2 (blk_new w1 (.cells #[.int .u8 0, .int .u8 201, .slice o1 4 k1] 30))); have N2 := Lib.hid (More.trans (More.alloc w1 (.cells #[.int .u8 0, .int .u8 201, .slice o1 4 k1] 30)) m2))) | (go_at_call 16; ((with_reducible refine (Write08_any ⟨true, 1, ⟨2, 0, 0, 0, 0⟩, [⟨3, 0, -1, 0, 0, 0, 0⟩]⟩ (w := ((w2.alloc (.cells #[.bool false, .int .u32 5, .int .u32 0, .int .u32 0, .int .u32 0, .int .u32 0, .int .u32 0, .slice o2 0 k2] 27)).alloc (.cells #[.int .u32 3, .int .u8 0, .int .i32 (-1), .int .u32 0, .int .u32 0, .int .u32 0, .int .u32 0] 134)).alloc (.cells #[.bool true, .int .u32 1, .int .u32 2, .int .u32 0, .int .u32 0, .int .u32 0, .int .u32 0, .slice (some ⟨w2.heap.size + 1, 0, none⟩) 1 1] 27)) ((awLit (B := w2.heap.size + 1) (w := w2.alloc (.cells #[.bool false, .int .u32 5, .int .u32 0, .int .u32 0, .int .u32 0, .int .u32 0, .int .u32 0, .slice o2 0 k2] 27)) (by simp)).keep keepsBlk (More.alloc _ _)) awS_ok).mono ?_); rintro e w3 ⟨v3, rfl, s3, m3⟩; rw [awW2]; rw [awW2] at s3; have S3 : Hid (SlI .u8 w3 v3 [0, 0, 0, 1, 0, 0, 0, 2, 0, 0, 0, 0, 0, 0, 0, 0, 0, 0, 0, 0, 0, 0, 0, 0, 0, 0, 0, 3, 0, 255, 255, 255, 0, 0, 0, 0, 0, 0, 0, 0, 0, 0, 0, 0, 0, 0, 0, 0]) := Lib.hid s3; obtain ⟨o3, k3, rfl, _⟩ := s3; have S3 : Hid (SlI .u8 w3 (.slice o3 48 k3) [0, 0, 0, 1, 0, 0, 0, 2, 0, 0, 0, 0, 0, 0, 0, 0, 0, 0, 0, 0, 0, 0, 0, 0, 0, 0, 0, 3, 0, 255, 255, 255, 0, 0, 0, 0, 0, 0, 0, 0, 0, 0, 0, 0, 0, 0, 0, 0]) := S3; have M3 := Lib.hid (((((M2.out.al (.cells #[.bool false, .int .u32 5, .int .u32 0, .int .u32 0, .int .u32 0, .int .u32 0, .int .u32 0, .slice o2 0 k2] 27)).al (.cells #[.int .u32 3, .int .u8 0, .int .i32 (-1), .int .u32 0, .int .u32 0, .int .u32 0, .int .u32 0] 134)).al (.cells #[.bool true, .int .u32 1, .int .u32 2, .int .u32 0, .int .u32 0, .int .u32 0, .int .u32 0, .slice (some ⟨w2.heap.size + 1, 0, none⟩) 1 1] 27)).trans m3)); have N3 := Lib.hid (show More w2 w3 from ((((More.refl w2).al (.cells #[.bool false, .int .u32 5, .int .u32 0, .int .u32 0, .int .u32 0, .int .u32 0, .int .u32 0, .slice o2 0 k2] 27)).al (.cells #[.int .u32 3, .int .u8 0, .int .i32 (-1), .int .u32 0, .int .u32 0, .int .u32 0, .int .u32 0] 134)).al (.cells #[.bool true, .int .u32 1, .int .u32 2, .int .u32 0, .int .u32 0, .int .u32 0, .int .u32 0, .slice (some ⟨w2.heap.size + 1, 0, none⟩) 1 1] 27)).trans m3); have BR := Lib.hid (blk_more m3 (blk_alloc (blk_alloc (blk_new w2 (.cells #[.bool false, .int .u32 5, .int .u32 0, .int .u32 0, .int .u32 0, .int .u32 0, .int .u32 0, .slice o2 0 k2] 27)) (.cells #[.int .u32 3, .int .u8 0, .int .i32 (-1), .int .u32 0, .int .u32 0, .int .u32 0, .int .u32 0] 134)) (.cells #[.bool true, .int .u32 1, .int .u32 2, .int .u32 0, .int .u32 0, .int .u32 0, .int .u32 0, .slice (some ⟨w2.heap.size + 1, 0, none⟩) 1 1] 27))); have BS := Lib.hid (blk_more m3 (blk_new2 (n := w2.heap.size + 2) (w := (w2.alloc (.cells #[.bool false, .int .u32 5, .int .u32 0, .int .u32 0, .int .u32 0, .int .u32 0, .int .u32 0, .slice o2 0 k2] 27)).alloc (.cells #[.int .u32 3, .int .u8 0, .int .i32 (-1), .int .u32 0, .int .u32 0, .int .u32 0, .int .u32 0] 134)) (o := (.cells #[.bool true, .int .u32 1, .int .u32 2, .int .u32 0, .int .u32 0, .int .u32 0, .int .u32 0, .slice (some ⟨w2.heap.size + 1, 0, none⟩) 1 1] 27)) (by simp))); have LS := Lib.hid (((awLit (B := w2.heap.size + 1) (w := w2.alloc (.cells #[.bool false, .int .u32 5, .int .u32 0, .int .u32 0, .int .u32 0, .int .u32 0, .int .u32 0, .slice o2 0 k2] 27)) (by simp)).keep keepsBlk (More.alloc _ (.cells #[.bool true, .int .u32 1, .int .u32 2, .int .u32 0, .int .u32 0, .int .u32 0, .int .u32 0, .slice (some ⟨w2.heap.size + 1, 0, none⟩) 1 1] 27))).keep keepsBlk m3))) | (go_at_call 19; ((with_reducible refine (Read08_any (1, 200, [0, 0, 0, 1, 0, 0, 0, 2, 0, 0, 0, 0, 0, 0, 0, 0, 0, 0, 0, 0, 0, 0, 0, 0, 0, 0, 0, 3, 0, 255, 255, 255, 0, 0, 0, 0, 0, 0, 0, 0, 0, 0, 0, 0, 0, 0, 0, 0], ()) (S3.out.keep (More.alloc w3 (.cells #[.int .u8 1, .int .u8 200, .slice o3 48 k3] 30))) awD_ok8 (by decide)).mono ?_); rintro e w4 ⟨⟨v4, rfl, s4⟩, m4⟩; rw [awR2]; rw [awR2] at s4; have S4 : Hid (SlP 7 RBlk w4 v4 [⟨3, 0, -1, 0, 0, 0, 0⟩]) := Lib.hid s4; obtain ⟨o4, k4, rfl, _⟩ := s4; have S4 : Hid (SlP 7 RBlk w4 (.slice o4 1 k4) [⟨3, 0, -1, 0, 0, 0, 0⟩]) := S4; have M4 := Lib.hid (((M3.out.al (.cells #[.int .u8 1, .int .u8 200, .slice o3 48 k3] 30)).trans m4)); have N4 := Lib.hid (show More w3 w4 from (More.alloc w3 (.cells #[.int .u8 1, .int .u8 200, .slice o3 48 k3] 30)).trans m4); have BD := Lib.hid (blk_more m4 (blk_new w3 (.cells #[.int .u8 1, .int .u8 200, .slice o3 48 k3] 30))))) | (go_at_call 19; ((with_reducible refine (Read08_any (0, 9, [], ()) (SlI.nil .u8 (w4.alloc (.cells #[.bool true, .int .u32 1, .int .u32 2, .int .u32 0, .int .u32 0, .int .u32 0, .int .u32 0, .slice o4 1 k4] 27))) aw9_ok8 (by decide)).mono ?_); rintro e w5 ⟨⟨v5, rfl, s5⟩, m5⟩; rw [awR3]; rw [awR3] at s5; have S5 : Hid (SlP 7 RBlk w5 v5 []) := Lib.hid s5; obtain ⟨o5, k5, rfl, _⟩ := s5; have M5 := Lib.hid (((M4.out.al (.cells #[.bool true, .int .u32 1, .int .u32 2, .int .u32 0, .int .u32 0, .int .u32 0, .int .u32 0, .slice o4 1 k4] 27)).trans m5)); have N5 := Lib.hid (show More w4 w5 from (More.alloc w4 (.cells #[.bool true, .int .u32 1, .int .u32 2, .int .u32 0, .int .u32 0, .int .u32 0, .int .u32 0, .slice o4 1 k4] 27)).trans m5); have BT := Lib.hid (blk_more m5 (blk_new w4 (.cells #[.bool true, .int .u32 1, .int .u32 2, .int .u32 0, .int .u32 0, .int .u32 0, .int .u32 0, .slice o4 1 k4] 27)))))
  have m6 := More.alloc w5 (.cells #[.bool false, .int .u32 0, .int .u32 0, .int .u32 0, .int .u32 0, .int .u32 0, .int .u32 0, .slice o5 0 k5] 27)
  have BC' := Lib.hid (blk_more m6 (blk_more N5.out (blk_more N4.out (blk_more N3.out BC.out))))
  have BR' := Lib.hid (blk_more m6 (blk_more N5.out (blk_more N4.out BR.out)))
  have BS' := Lib.hid (blk_more m6 (blk_more N5.out (blk_more N4.out BS.out)))
  have BD' := Lib.hid (blk_more m6 (blk_more N5.out BD.out))
  have BT' := Lib.hid (blk_more m6 BT.out)
  have V1 := Lib.hid (((((S1.out.keep N2.out).keep N3.out).keep N4.out).keep N5.out).keep m6)
  have V2 := Lib.hid ((((S2.out.keep keepsBlk N3.out).keep keepsBlk N4.out).keep keepsBlk N5.out).keep keepsBlk m6)
  have VS := Lib.hid (((LS.out.keep keepsBlk N4.out).keep keepsBlk N5.out).keep keepsBlk m6)
  have V4 := Lib.hid ((S4.out.keep keepsBlk N5.out).keep keepsBlk m6)
  have M6 := Lib.hid (M5.out.trans m6)
  clear BC BR BS BD BT S1 S2 LS S4 M2 M3 M4 M5 N2 N3 N4 N5 S3 S5 m6
  generalize w5.alloc (.cells #[.bool false, .int .u32 0, .int .u32 0, .int .u32 0, .int .u32 0, .int .u32 0, .int .u32 0, .slice o5 0 k5] 27) = w6 at *
  have BC'0 : ∀ x : Later w6, x.w'.cell? ⟨w1.heap.size, 0, none⟩ = some (.int .u8 0) := fun x => blk_cell (blk_more x.h BC'.out) 0 rfl
  have BC'1 : ∀ x : Later w6, x.w'.cell? ⟨w1.heap.size, 1, none⟩ = some (.int .u8 201) := fun x => blk_cell (blk_more x.h BC'.out) 1 rfl
  have BC'2 : ∀ x : Later w6, x.w'.cell? ⟨w1.heap.size, 2, none⟩ = some (.slice o1 4 k1) := fun x => blk_cell (blk_more x.h BC'.out) 2 rfl
  have BR'0 : ∀ x : Later w6, x.w'.cell? ⟨w2.heap.size, 0, none⟩ = some (.bool false) := fun x => blk_cell (blk_more x.h BR'.out) 0 rfl
  have BR'1 : ∀ x : Later w6, x.w'.cell? ⟨w2.heap.size, 1, none⟩ = some (.int .u32 5) := fun x => blk_cell (blk_more x.h BR'.out) 1 rfl
  have BR'2 : ∀ x : Later w6, x.w'.cell? ⟨w2.heap.size, 2, none⟩ = some (.int .u32 0) := fun x => blk_cell (blk_more x.h BR'.out) 2 rfl
  have BR'3 : ∀ x : Later w6, x.w'.cell? ⟨w2.heap.size, 3, none⟩ = some (.int .u32 0) := fun x => blk_cell (blk_more x.h BR'.out) 3 rfl
  have BR'4 : ∀ x : Later w6, x.w'.cell? ⟨w2.heap.size, 4, none⟩ = some (.int .u32 0) := fun x => blk_cell (blk_more x.h BR'.out) 4 rfl
  have BR'5 : ∀ x : Later w6, x.w'.cell? ⟨w2.heap.size, 5, none⟩ = some (.int .u32 0) := fun x => blk_cell (blk_more x.h BR'.out) 5 rfl
  have BR'6 : ∀ x : Later w6, x.w'.cell? ⟨w2.heap.size, 6, none⟩ = some (.int .u32 0) := fun x => blk_cell (blk_more x.h BR'.out) 6 rfl
  have BR'7 : ∀ x : Later w6, x.w'.cell? ⟨w2.heap.size, 7, none⟩ = some (.slice o2 0 k2) := fun x => blk_cell (blk_more x.h BR'.out) 7 rfl
  have BS'0 : ∀ x : Later w6, x.w'.cell? ⟨w2.heap.size + 2, 0, none⟩ = some (.bool true) := fun x => blk_cell (blk_more x.h BS'.out) 0 rfl
  have BS'1 : ∀ x : Later w6, x.w'.cell? ⟨w2.heap.size + 2, 1, none⟩ = some (.int .u32 1) := fun x => blk_cell (blk_more x.h BS'.out) 1 rfl
  have BS'2 : ∀ x : Later w6, x.w'.cell? ⟨w2.heap.size + 2, 2, none⟩ = some (.int .u32 2) := fun x => blk_cell (blk_more x.h BS'.out) 2 rfl
  have BS'3 : ∀ x : Later w6, x.w'.cell? ⟨w2.heap.size + 2, 3, none⟩ = some (.int .u32 0) := fun x => blk_cell (blk_more x.h BS'.out) 3 rfl
  have BS'4 : ∀ x : Later w6, x.w'.cell? ⟨w2.heap.size + 2, 4, none⟩ = some (.int .u32 0) := fun x => blk_cell (blk_more x.h BS'.out) 4 rfl
  have BS'5 : ∀ x : Later w6, x.w'.cell? ⟨w2.heap.size + 2, 5, none⟩ = some (.int .u32 0) := fun x => blk_cell (blk_more x.h BS'.out) 5 rfl
  have BS'6 : ∀ x : Later w6, x.w'.cell? ⟨w2.heap.size + 2, 6, none⟩ = some (.int .u32 0) := fun x => blk_cell (blk_more x.h BS'.out) 6 rfl
  have BS'7 : ∀ x : Later w6, x.w'.cell? ⟨w2.heap.size + 2, 7, none⟩ = some (.slice (some ⟨w2.heap.size + 1, 0, none⟩) 1 1) := fun x => blk_cell (blk_more x.h BS'.out) 7 rfl
  have BD'0 : ∀ x : Later w6, x.w'.cell? ⟨w3.heap.size, 0, none⟩ = some (.int .u8 1) := fun x => blk_cell (blk_more x.h BD'.out) 0 rfl
  have BD'1 : ∀ x : Later w6, x.w'.cell? ⟨w3.heap.size, 1, none⟩ = some (.int .u8 200) := fun x => blk_cell (blk_more x.h BD'.out) 1 rfl
  have BD'2 : ∀ x : Later w6, x.w'.cell? ⟨w3.heap.size, 2, none⟩ = some (.slice o3 48 k3) := fun x => blk_cell (blk_more x.h BD'.out) 2 rfl
  have BT'0 : ∀ x : Later w6, x.w'.cell? ⟨w4.heap.size, 0, none⟩ = some (.bool true) := fun x => blk_cell (blk_more x.h BT'.out) 0 rfl
  have BT'1 : ∀ x : Later w6, x.w'.cell? ⟨w4.heap.size, 1, none⟩ = some (.int .u32 1) := fun x => blk_cell (blk_more x.h BT'.out) 1 rfl
  have BT'2 : ∀ x : Later w6, x.w'.cell? ⟨w4.heap.size, 2, none⟩ = some (.int .u32 2) := fun x => blk_cell (blk_more x.h BT'.out) 2 rfl
  have BT'3 : ∀ x : Later w6, x.w'.cell? ⟨w4.heap.size, 3, none⟩ = some (.int .u32 0) := fun x => blk_cell (blk_more x.h BT'.out) 3 rfl
  have BT'4 : ∀ x : Later w6, x.w'.cell? ⟨w4.heap.size, 4, none⟩ = some (.int .u32 0) := fun x => blk_cell (blk_more x.h BT'.out) 4 rfl
  have BT'5 : ∀ x : Later w6, x.w'.cell? ⟨w4.heap.size, 5, none⟩ = some (.int .u32 0) := fun x => blk_cell (blk_more x.h BT'.out) 5 rfl
  have BT'6 : ∀ x : Later w6, x.w'.cell? ⟨w4.heap.size, 6, none⟩ = some (.int .u32 0) := fun x => blk_cell (blk_more x.h BT'.out) 6 rfl
  have BT'7 : ∀ x : Later w6, x.w'.cell? ⟨w4.heap.size, 7, none⟩ = some (.slice o4 1 k4) := fun x => blk_cell (blk_more x.h BT'.out) 7 rfl
  refine wp_region_trL w6 60 (.op 0 false (.br [1, 2] fun k => if k = 1 then .op 2 true (.op 3 false (.op 4 true (.op 5 true (.op 6 false (.op 7 false (.op 8 false (.op 9 false (.op 10 false (.op 11 false (.op 12 false (.op 13 false (.op 14 false (.op 15 false (.op 17 false (.op 16 true (.op 18 true (.op 19 false (.op 20 false (.op 21 false (.op 22 false (.op 23 false (.op 24 false (.op 25 false (.op 26 false (.op 27 false (.op 28 false (.op 29 false (.op 31 false (.op 30 true (.op 32 true (.op 33 true (.op 34 false (.op 35 false (.op 36 false (.op 37 false (.op 38 false (.op 39 false (.op 40 false (.op 41 false (.op 42 false (.op 43 false (.op 44 false (.op 45 false (.op 46 false (.op 47 false (.op 48 false (.op 49 false (.op 50 false (.op 51 false (.op 52 false (.op 53 false (.op 54 false (.op 55 false (.op 56 false (.op 57 true (.op 58 false (.op 59 false (.done)))))))))))))))))))))))))))))))))))))))))))))))))))))))))) else .op 3 false (.br [1, 4] fun k => if k = 1 then .op 4 true (.op 5 true (.op 6 false (.op 7 false (.op 8 false (.op 9 false (.op 10 false (.op 11 false (.op 12 false (.op 13 false (.op 14 false (.op 15 false (.op 17 false (.op 16 true (.op 18 true (.op 19 false (.op 20 false (.op 21 false (.op 22 false (.op 23 false (.op 24 false (.op 25 false (.op 26 false (.op 27 false (.op 28 false (.op 29 false (.op 31 false (.op 30 true (.op 32 true (.op 33 true (.op 34 false (.op 35 false (.op 36 false (.op 37 false (.op 38 false (.op 39 false (.op 40 false (.op 41 false (.op 42 false (.op 43 false (.op 44 false (.op 45 false (.op 46 false (.op 47 false (.op 48 false (.op 49 false (.op 50 false (.op 51 false (.op 52 false (.op 53 false (.op 54 false (.op 55 false (.op 56 false (.op 57 true (.op 58 false (.op 59 false (.done)))))))))))))))))))))))))))))))))))))))))))))))))))))))) else .op 1 true (.op 5 true (.op 6 false (.op 7 false (.op 8 false (.op 9 false (.op 10 false (.op 11 false (.op 12 false (.op 13 false (.op 14 false (.op 15 false (.op 17 false (.op 16 true (.op 18 true (.op 19 false (.op 20 false (.op 21 false (.op 22 false (.op 23 false (.op 24 false (.op 25 false (.op 26 false (.op 27 false (.op 28 false (.op 29 false (.op 31 false (.op 30 true (.op 32 true (.op 33 true (.op 34 false (.op 35 false (.op 36 false (.op 37 false (.op 38 false (.op 39 false (.op 40 false (.op 41 false (.op 42 false (.op 43 false (.op 44 false (.op 45 false (.op 46 false (.op 47 false (.op 48 false (.op 49 false (.op 50 false (.op 51 false (.op 52 false (.op 53 false (.op 54 false (.op 55 false (.op 56 false (.op 57 true (.op 58 false (.op 59 false (.done))))))))))))))))))))))))))))))))))))))))))))))))))))))))))) (by kernel_rfl) (by kernel_rfl) ?_
  repeat (first | (refine tr_skip rfl rfl (later_mk (by repeat (first | exact More.refl _ | assumption | refine More.dr ?_ _ | refine More.al ?_ _ | refine More.st ?_ (by simp) _))) ?_) | (refine tr_quiet rfl rfl (later_mk (by repeat (first | exact More.refl _ | assumption | refine More.dr ?_ _ | refine More.al ?_ _ | refine More.st ?_ (by simp) _))) ?_; intro K hK; go_big_quiet_op; go_big_quiet_on))
  refine tr_two (by decide) ?_ ?_
  · (refine tr_next rfl rfl ?_; intro K hK; unfold loud; go_simp)
    refine ⟨later_mk (by repeat (first | exact More.refl _ | assumption | refine More.dr ?_ _ | refine More.al ?_ _ | refine More.st ?_ (by simp) _)), hK _ _ ?_⟩
    clear hK K
    repeat (first | (refine tr_skip rfl rfl (later_mk (by repeat (first | exact More.refl _ | assumption | refine More.dr ?_ _ | refine More.al ?_ _ | refine More.st ?_ (by simp) _))) ?_) | (refine tr_quiet rfl rfl (later_mk (by repeat (first | exact More.refl _ | assumption | refine More.dr ?_ _ | refine More.al ?_ _ | refine More.st ?_ (by simp) _))) ?_; intro K hK; go_big_quiet_op; go_big_quiet_on))
    (refine tr_next rfl rfl ?_; intro K hK; unfold loud; go_simp)
    refine ⟨later_mk (by repeat (first | exact More.refl _ | assumption | refine More.dr ?_ _ | refine More.al ?_ _ | refine More.st ?_ (by simp) _)), hK _ _ ?_⟩
    clear hK K
    repeat (first | (refine tr_skip rfl rfl (later_mk (by repeat (first | exact More.refl _ | assumption | refine More.dr ?_ _ | refine More.al ?_ _ | refine More.st ?_ (by simp) _))) ?_) | (refine tr_quiet rfl rfl (later_mk (by repeat (first | exact More.refl _ | assumption | refine More.dr ?_ _ | refine More.al ?_ _ | refine More.st ?_ (by simp) _))) ?_; intro K hK; go_big_quiet_op; go_big_quiet_on))
    (refine tr_next rfl rfl ?_; intro K hK; unfold loud; go_simp)
    refine ⟨later_mk (by repeat (first | exact More.refl _ | assumption | refine More.dr ?_ _ | refine More.al ?_ _ | refine More.st ?_ (by simp) _)), hK _ _ ?_⟩
    clear hK K
    repeat (first | (refine tr_skip rfl rfl (later_mk (by repeat (first | exact More.refl _ | assumption | refine More.dr ?_ _ | refine More.al ?_ _ | refine More.st ?_ (by simp) _))) ?_) | (refine tr_quiet rfl rfl (later_mk (by repeat (first | exact More.refl _ | assumption | refine More.dr ?_ _ | refine More.al ?_ _ | refine More.st ?_ (by simp) _))) ?_; intro K hK; go_big_quiet_op; go_big_quiet_on))
    (refine tr_next rfl rfl ?_; intro K hK; unfold loud; go_simp)
    refine (Same07_any [(0, 201, [0, 0, 0, 5], ())] [(0, 201, [0, 0, 0, 5], ())] _ _ _ ((awLitA (V1.out.keep (show More w6 (w6.drewN 1) from (by repeat (first | exact More.refl _ | assumption | refine More.dr ?_ _ | refine More.al ?_ _ | refine More.st ?_ (by simp) _)))) (by simp)).keep keepsChunk (show More ((w6.drewN 1).alloc (.cells #[.int .u8 0, .int .u8 201, .slice o1 4 k1] 35)) ((((w6.drewN 1).alloc (.cells #[.int .u8 0, .int .u8 201, .slice o1 4 k1] 35)).alloc (.cells #[.int .u8 0, .int .u8 0, .int .u8 0, .int .u8 5] 5)).alloc (.cells #[.int .u8 0, .int .u8 201, .slice (some ⟨w6.heap.size + 1, 0, none⟩) 4 4] 35)) from (by repeat (first | exact More.refl _ | assumption | refine More.dr ?_ _ | refine More.al ?_ _ | refine More.st ?_ (by simp) _)))) ((awLitA (SlI.keep (SlI.lit .u8 ((w6.drewN 1).alloc (.cells #[.int .u8 0, .int .u8 201, .slice o1 4 k1] 35)) [0, 0, 0, 5] 5 _ 4 _ (by simp) rfl (by first | rfl | simp) (by simp)) (show More (((w6.drewN 1).alloc (.cells #[.int .u8 0, .int .u8 201, .slice o1 4 k1] 35)).alloc (.cells #[.int .u8 0, .int .u8 0, .int .u8 0, .int .u8 5] 5)) (((w6.drewN 1).alloc (.cells #[.int .u8 0, .int .u8 201, .slice o1 4 k1] 35)).alloc (.cells #[.int .u8 0, .int .u8 0, .int .u8 0, .int .u8 5] 5)) from (by repeat (first | exact More.refl _ | assumption | refine More.dr ?_ _ | refine More.al ?_ _ | refine More.st ?_ (by simp) _)))) (by simp)).keep keepsChunk (show More ((((w6.drewN 1).alloc (.cells #[.int .u8 0, .int .u8 201, .slice o1 4 k1] 35)).alloc (.cells #[.int .u8 0, .int .u8 0, .int .u8 0, .int .u8 5] 5)).alloc (.cells #[.int .u8 0, .int .u8 201, .slice (some ⟨w6.heap.size + 1, 0, none⟩) 4 4] 35)) ((((w6.drewN 1).alloc (.cells #[.int .u8 0, .int .u8 201, .slice o1 4 k1] 35)).alloc (.cells #[.int .u8 0, .int .u8 0, .int .u8 0, .int .u8 5] 5)).alloc (.cells #[.int .u8 0, .int .u8 201, .slice (some ⟨w6.heap.size + 1, 0, none⟩) 4 4] 35)) from (by repeat (first | exact More.refl _ | assumption | refine More.dr ?_ _ | refine More.al ?_ _ | refine More.st ?_ (by simp) _))))).mono ?_
    rintro e w19 ⟨rfl, m19⟩
    rw [decide_eq_true rfl]
    have h19 : More w6 w19 := (show More w6 ((((w6.drewN 1).alloc (.cells #[.int .u8 0, .int .u8 201, .slice o1 4 k1] 35)).alloc (.cells #[.int .u8 0, .int .u8 0, .int .u8 0, .int .u8 5] 5)).alloc (.cells #[.int .u8 0, .int .u8 201, .slice (some ⟨w6.heap.size + 1, 0, none⟩) 4 4] 35)) from (by repeat (first | exact More.refl _ | assumption | refine More.dr ?_ _ | refine More.al ?_ _ | refine More.st ?_ (by simp) _))).trans m19
    clear m19
    refine ⟨_, rfl, later_mk h19, hK _ _ ?_⟩
    clear hK K
    repeat (first | (refine tr_skip rfl rfl (later_mk (by repeat (first | exact More.refl _ | assumption | refine More.dr ?_ _ | refine More.al ?_ _ | refine More.st ?_ (by simp) _))) ?_) | (refine tr_quiet rfl rfl (later_mk (by repeat (first | exact More.refl _ | assumption | refine More.dr ?_ _ | refine More.al ?_ _ | refine More.st ?_ (by simp) _))) ?_; intro K hK; go_big_quiet_op; go_big_quiet_on))
    (refine tr_next rfl rfl ?_; intro K hK; unfold loud; go_simp)
    refine (own08 ⟨false, 5, ⟨0, 0, 0, 0, 0⟩, []⟩ (V2.out.keep keepsBlk (show More w6 _ from (by repeat (first | exact More.refl _ | assumption | refine More.dr ?_ _ | refine More.al ?_ _ | refine More.st ?_ (by simp) _)))) (by decide)).mono ?_
    rintro e w20 ⟨⟨v20, rfl, s20⟩, m20⟩
    have h20 : More w6 w20 := (show More w6 _ from (by repeat (first | exact More.refl _ | assumption | refine More.dr ?_ _ | refine More.al ?_ _ | refine More.st ?_ (by simp) _))).trans m20
    have S20 := Lib.hid s20
    clear s20 m20
    refine ⟨_, rfl, later_mk h20, hK _ _ ?_⟩
    clear hK K
    repeat (first | (refine tr_skip rfl rfl (later_mk (by repeat (first | exact More.refl _ | assumption | refine More.dr ?_ _ | refine More.al ?_ _ | refine More.st ?_ (by simp) _))) ?_) | (refine tr_quiet rfl rfl (later_mk (by repeat (first | exact More.refl _ | assumption | refine More.dr ?_ _ | refine More.al ?_ _ | refine More.st ?_ (by simp) _))) ?_; intro K hK; go_big_quiet_op; go_big_quiet_on))
    (refine tr_next rfl rfl ?_; intro K hK; unfold loud; go_simp)
    refine (Same08_any ⟨false, 5, ⟨0, 0, 0, 0, 0⟩, []⟩ ⟨false, 5, ⟨0, 0, 0, 0, 0⟩, []⟩ S20.out (SlP.nil _ _ _)).mono ?_
    rintro e w21 ⟨rfl, m21⟩
    rw [decide_eq_true rfl]
    have h21 : More w6 w21 := h20.trans m21
    clear m21 S20
    refine ⟨_, rfl, later_mk h21, hK _ _ ?_⟩
    clear hK K
    repeat (first | (refine tr_skip rfl rfl (later_mk (by repeat (first | exact More.refl _ | assumption | refine More.dr ?_ _ | refine More.al ?_ _ | refine More.st ?_ (by simp) _))) ?_) | (refine tr_quiet rfl rfl (later_mk (by repeat (first | exact More.refl _ | assumption | refine More.dr ?_ _ | refine More.al ?_ _ | refine More.st ?_ (by simp) _))) ?_; intro K hK; go_big_quiet_op; go_big_quiet_on))
    (refine tr_next rfl rfl ?_; intro K hK; unfold loud; go_simp)
    refine (own08 ⟨true, 1, ⟨2, 0, 0, 0, 0⟩, [⟨3, 0, -1, 0, 0, 0, 0⟩]⟩ (VS.out.keep keepsBlk (show More w6 _ from (by repeat (first | exact More.refl _ | assumption | refine More.dr ?_ _ | refine More.al ?_ _ | refine More.st ?_ (by simp) _)))) (by decide)).mono ?_
    rintro e w22 ⟨⟨v22, rfl, s22⟩, m22⟩
    have h22 : More w6 w22 := h21.trans m22
    have S22 := Lib.hid s22
    clear s22 m22
    refine ⟨_, rfl, later_mk h22, hK _ _ ?_⟩
    clear hK K
    repeat (first | (refine tr_skip rfl rfl (later_mk (by repeat (first | exact More.refl _ | assumption | refine More.dr ?_ _ | refine More.al ?_ _ | refine More.st ?_ (by simp) _))) ?_) | (refine tr_quiet rfl rfl (later_mk (by repeat (first | exact More.refl _ | assumption | refine More.dr ?_ _ | refine More.al ?_ _ | refine More.st ?_ (by simp) _))) ?_; intro K hK; go_big_quiet_op; go_big_quiet_on))
    (refine tr_next rfl rfl ?_; intro K hK; unfold loud; go_simp)
    refine (own08 ⟨true, 1, ⟨2, 0, 0, 0, 0⟩, [⟨3, 0, -1, 0, 0, 0, 0⟩]⟩ (V4.out.keep keepsBlk (show More w6 _ from (by repeat (first | exact More.refl _ | assumption | refine More.dr ?_ _ | refine More.al ?_ _ | refine More.st ?_ (by simp) _)))) (by decide)).mono ?_
    rintro e w23 ⟨⟨v23, rfl, s23⟩, m23⟩
    have h23 : More w6 w23 := h22.trans m23
    have S23 := Lib.hid s23
    have S22' := Lib.hid (S22.out.keep keepsBlk m23)
    clear s23 m23
    refine ⟨_, rfl, later_mk h23, hK _ _ ?_⟩
    clear hK K
    repeat (first | (refine tr_skip rfl rfl (later_mk (by repeat (first | exact More.refl _ | assumption | refine More.dr ?_ _ | refine More.al ?_ _ | refine More.st ?_ (by simp) _))) ?_) | (refine tr_quiet rfl rfl (later_mk (by repeat (first | exact More.refl _ | assumption | refine More.dr ?_ _ | refine More.al ?_ _ | refine More.st ?_ (by simp) _))) ?_; intro K hK; go_big_quiet_op; go_big_quiet_on))
    (refine tr_next rfl rfl ?_; intro K hK; unfold loud; go_simp)
    refine (Same08_any ⟨true, 1, ⟨2, 0, 0, 0, 0⟩, [⟨3, 0, -1, 0, 0, 0, 0⟩]⟩ ⟨true, 1, ⟨2, 0, 0, 0, 0⟩, [⟨3, 0, -1, 0, 0, 0, 0⟩]⟩ S22'.out S23.out).mono ?_
    rintro e w24 ⟨rfl, m24⟩
    rw [decide_eq_true rfl]
    have h24 : More w6 w24 := h23.trans m24
    clear m24 S22 S22' S23
    refine ⟨_, rfl, later_mk h24, hK _ _ ?_⟩
    clear hK K
    repeat (first | (refine tr_skip rfl rfl (later_mk (by repeat (first | exact More.refl _ | assumption | refine More.dr ?_ _ | refine More.al ?_ _ | refine More.st ?_ (by simp) _))) ?_) | (refine tr_quiet rfl rfl (later_mk (by repeat (first | exact More.refl _ | assumption | refine More.dr ?_ _ | refine More.al ?_ _ | refine More.st ?_ (by simp) _))) ?_; intro K hK; go_big_quiet_op; go_big_quiet_on))
    (refine tr_next rfl rfl ?_; intro K hK; unfold loud; go_simp)
    refine (Right08_any ⟨true, 1, ⟨2, 0, 0, 0, 0⟩, [⟨3, 0, -1, 0, 0, 0, 0⟩]⟩ (VS.out.keep keepsBlk (show More w6 _ from (by repeat (first | exact More.refl _ | assumption | refine More.dr ?_ _ | refine More.al ?_ _ | refine More.st ?_ (by simp) _))))).mono ?_
    rintro e w25 ⟨rfl, m25⟩
    rw [awRt]
    have h25 : More w6 w25 := h24.trans m25
    clear m25
    refine ⟨_, rfl, later_mk h25, hK _ _ ?_⟩
    clear hK K
    repeat (first | (refine tr_skip rfl rfl (later_mk (by repeat (first | exact More.refl _ | assumption | refine More.dr ?_ _ | refine More.al ?_ _ | refine More.st ?_ (by simp) _))) ?_) | (refine tr_quiet rfl rfl (later_mk (by repeat (first | exact More.refl _ | assumption | refine More.dr ?_ _ | refine More.al ?_ _ | refine More.st ?_ (by simp) _))) ?_; intro K hK; go_big_quiet_op; go_big_quiet_on))
    refine tr_done ?_
    go_wp2
    go_ret
    exact ⟨rfl, M6.out.trans h25⟩
  · (refine tr_next rfl rfl ?_; intro K hK; unfold loud; go_simp)
    refine ⟨later_mk (by repeat (first | exact More.refl _ | assumption | refine More.dr ?_ _ | refine More.al ?_ _ | refine More.st ?_ (by simp) _)), hK _ _ ?_⟩
    clear hK K
    repeat (first | (refine tr_skip rfl rfl (later_mk (by repeat (first | exact More.refl _ | assumption | refine More.dr ?_ _ | refine More.al ?_ _ | refine More.st ?_ (by simp) _))) ?_) | (refine tr_quiet rfl rfl (later_mk (by repeat (first | exact More.refl _ | assumption | refine More.dr ?_ _ | refine More.al ?_ _ | refine More.st ?_ (by simp) _))) ?_; intro K hK; go_big_quiet_op; go_big_quiet_on))
    refine tr_two (by decide) ?_ ?_
    · (refine tr_next rfl rfl ?_; intro K hK; unfold loud; go_simp)
      refine ⟨later_mk (by repeat (first | exact More.refl _ | assumption | refine More.dr ?_ _ | refine More.al ?_ _ | refine More.st ?_ (by simp) _)), hK _ _ ?_⟩
      clear hK K
      repeat (first | (refine tr_skip rfl rfl (later_mk (by repeat (first | exact More.refl _ | assumption | refine More.dr ?_ _ | refine More.al ?_ _ | refine More.st ?_ (by simp) _))) ?_) | (refine tr_quiet rfl rfl (later_mk (by repeat (first | exact More.refl _ | assumption | refine More.dr ?_ _ | refine More.al ?_ _ | refine More.st ?_ (by simp) _))) ?_; intro K hK; go_big_quiet_op; go_big_quiet_on))
      (refine tr_next rfl rfl ?_; intro K hK; unfold loud; go_simp)
      refine ⟨later_mk (by repeat (first | exact More.refl _ | assumption | refine More.dr ?_ _ | refine More.al ?_ _ | refine More.st ?_ (by simp) _)), hK _ _ ?_⟩
      clear hK K
      repeat (first | (refine tr_skip rfl rfl (later_mk (by repeat (first | exact More.refl _ | assumption | refine More.dr ?_ _ | refine More.al ?_ _ | refine More.st ?_ (by simp) _))) ?_) | (refine tr_quiet rfl rfl (later_mk (by repeat (first | exact More.refl _ | assumption | refine More.dr ?_ _ | refine More.al ?_ _ | refine More.st ?_ (by simp) _))) ?_; intro K hK; go_big_quiet_op; go_big_quiet_on))
      (refine tr_next rfl rfl ?_; intro K hK; unfold loud; go_simp)
      refine (Same07_any [(0, 201, [0, 0, 0, 5], ())] [(0, 201, [0, 0, 0, 5], ())] _ _ _ ((awLitA (V1.out.keep (show More w6 ((w6.drewN 1).alloc (.cells #[.int .u8 0, .int .u8 0, .int .u8 0, .int .u8 5] 5)) from (by repeat (first | exact More.refl _ | assumption | refine More.dr ?_ _ | refine More.al ?_ _ | refine More.st ?_ (by simp) _)))) (by simp)).keep keepsChunk (show More (((w6.drewN 1).alloc (.cells #[.int .u8 0, .int .u8 0, .int .u8 0, .int .u8 5] 5)).alloc (.cells #[.int .u8 0, .int .u8 201, .slice o1 4 k1] 35)) ((((w6.drewN 1).alloc (.cells #[.int .u8 0, .int .u8 0, .int .u8 0, .int .u8 5] 5)).alloc (.cells #[.int .u8 0, .int .u8 201, .slice o1 4 k1] 35)).alloc (.cells #[.int .u8 0, .int .u8 201, .slice (some ⟨w6.heap.size, 0, none⟩) 4 4] 35)) from (by repeat (first | exact More.refl _ | assumption | refine More.dr ?_ _ | refine More.al ?_ _ | refine More.st ?_ (by simp) _)))) ((awLitA (SlI.keep (SlI.lit .u8 (w6.drewN 1) [0, 0, 0, 5] 5 _ 4 _ (by simp) rfl (by first | rfl | simp) (by simp)) (show More ((w6.drewN 1).alloc (.cells #[.int .u8 0, .int .u8 0, .int .u8 0, .int .u8 5] 5)) (((w6.drewN 1).alloc (.cells #[.int .u8 0, .int .u8 0, .int .u8 0, .int .u8 5] 5)).alloc (.cells #[.int .u8 0, .int .u8 201, .slice o1 4 k1] 35)) from (by repeat (first | exact More.refl _ | assumption | refine More.dr ?_ _ | refine More.al ?_ _ | refine More.st ?_ (by simp) _)))) (by simp)).keep keepsChunk (show More ((((w6.drewN 1).alloc (.cells #[.int .u8 0, .int .u8 0, .int .u8 0, .int .u8 5] 5)).alloc (.cells #[.int .u8 0, .int .u8 201, .slice o1 4 k1] 35)).alloc (.cells #[.int .u8 0, .int .u8 201, .slice (some ⟨w6.heap.size, 0, none⟩) 4 4] 35)) ((((w6.drewN 1).alloc (.cells #[.int .u8 0, .int .u8 0, .int .u8 0, .int .u8 5] 5)).alloc (.cells #[.int .u8 0, .int .u8 201, .slice o1 4 k1] 35)).alloc (.cells #[.int .u8 0, .int .u8 201, .slice (some ⟨w6.heap.size, 0, none⟩) 4 4] 35)) from (by repeat (first | exact More.refl _ | assumption | refine More.dr ?_ _ | refine More.al ?_ _ | refine More.st ?_ (by simp) _))))).mono ?_
      rintro e w19 ⟨rfl, m19⟩
      rw [decide_eq_true rfl]
      have h19 : More w6 w19 := (show More w6 ((((w6.drewN 1).alloc (.cells #[.int .u8 0, .int .u8 0, .int .u8 0, .int .u8 5] 5)).alloc (.cells #[.int .u8 0, .int .u8 201, .slice o1 4 k1] 35)).alloc (.cells #[.int .u8 0, .int .u8 201, .slice (some ⟨w6.heap.size, 0, none⟩) 4 4] 35)) from (by repeat (first | exact More.refl _ | assumption | refine More.dr ?_ _ | refine More.al ?_ _ | refine More.st ?_ (by simp) _))).trans m19
      clear m19
      refine ⟨_, rfl, later_mk h19, hK _ _ ?_⟩
      clear hK K
      repeat (first | (refine tr_skip rfl rfl (later_mk (by repeat (first | exact More.refl _ | assumption | refine More.dr ?_ _ | refine More.al ?_ _ | refine More.st ?_ (by simp) _))) ?_) | (refine tr_quiet rfl rfl (later_mk (by repeat (first | exact More.refl _ | assumption | refine More.dr ?_ _ | refine More.al ?_ _ | refine More.st ?_ (by simp) _))) ?_; intro K hK; go_big_quiet_op; go_big_quiet_on))
      (refine tr_next rfl rfl ?_; intro K hK; unfold loud; go_simp)
      refine (own08 ⟨false, 5, ⟨0, 0, 0, 0, 0⟩, []⟩ (V2.out.keep keepsBlk (show More w6 _ from (by repeat (first | exact More.refl _ | assumption | refine More.dr ?_ _ | refine More.al ?_ _ | refine More.st ?_ (by simp) _)))) (by decide)).mono ?_
      rintro e w20 ⟨⟨v20, rfl, s20⟩, m20⟩
      have h20 : More w6 w20 := (show More w6 _ from (by repeat (first | exact More.refl _ | assumption | refine More.dr ?_ _ | refine More.al ?_ _ | refine More.st ?_ (by simp) _))).trans m20
      have S20 := Lib.hid s20
      clear s20 m20
      refine ⟨_, rfl, later_mk h20, hK _ _ ?_⟩
      clear hK K
      repeat (first | (refine tr_skip rfl rfl (later_mk (by repeat (first | exact More.refl _ | assumption | refine More.dr ?_ _ | refine More.al ?_ _ | refine More.st ?_ (by simp) _))) ?_) | (refine tr_quiet rfl rfl (later_mk (by repeat (first | exact More.refl _ | assumption | refine More.dr ?_ _ | refine More.al ?_ _ | refine More.st ?_ (by simp) _))) ?_; intro K hK; go_big_quiet_op; go_big_quiet_on))
      (refine tr_next rfl rfl ?_; intro K hK; unfold loud; go_simp)
      refine (Same08_any ⟨false, 5, ⟨0, 0, 0, 0, 0⟩, []⟩ ⟨false, 5, ⟨0, 0, 0, 0, 0⟩, []⟩ S20.out (SlP.nil _ _ _)).mono ?_
      rintro e w21 ⟨rfl, m21⟩
      rw [decide_eq_true rfl]
      have h21 : More w6 w21 := h20.trans m21
      clear m21 S20
      refine ⟨_, rfl, later_mk h21, hK _ _ ?_⟩
      clear hK K
      repeat (first | (refine tr_skip rfl rfl (later_mk (by repeat (first | exact More.refl _ | assumption | refine More.dr ?_ _ | refine More.al ?_ _ | refine More.st ?_ (by simp) _))) ?_) | (refine tr_quiet rfl rfl (later_mk (by repeat (first | exact More.refl _ | assumption | refine More.dr ?_ _ | refine More.al ?_ _ | refine More.st ?_ (by simp) _))) ?_; intro K hK; go_big_quiet_op; go_big_quiet_on))
      (refine tr_next rfl rfl ?_; intro K hK; unfold loud; go_simp)
      refine (own08 ⟨true, 1, ⟨2, 0, 0, 0, 0⟩, [⟨3, 0, -1, 0, 0, 0, 0⟩]⟩ (VS.out.keep keepsBlk (show More w6 _ from (by repeat (first | exact More.refl _ | assumption | refine More.dr ?_ _ | refine More.al ?_ _ | refine More.st ?_ (by simp) _)))) (by decide)).mono ?_
      rintro e w22 ⟨⟨v22, rfl, s22⟩, m22⟩
      have h22 : More w6 w22 := h21.trans m22
      have S22 := Lib.hid s22
      clear s22 m22
      refine ⟨_, rfl, later_mk h22, hK _ _ ?_⟩
      clear hK K
      repeat (first | (refine tr_skip rfl rfl (later_mk (by repeat (first | exact More.refl _ | assumption | refine More.dr ?_ _ | refine More.al ?_ _ | refine More.st ?_ (by simp) _))) ?_) | (refine tr_quiet rfl rfl (later_mk (by repeat (first | exact More.refl _ | assumption | refine More.dr ?_ _ | refine More.al ?_ _ | refine More.st ?_ (by simp) _))) ?_; intro K hK; go_big_quiet_op; go_big_quiet_on))
      (refine tr_next rfl rfl ?_; intro K hK; unfold loud; go_simp)
      refine (own08 ⟨true, 1, ⟨2, 0, 0, 0, 0⟩, [⟨3, 0, -1, 0, 0, 0, 0⟩]⟩ (V4.out.keep keepsBlk (show More w6 _ from (by repeat (first | exact More.refl _ | assumption | refine More.dr ?_ _ | refine More.al ?_ _ | refine More.st ?_ (by simp) _)))) (by decide)).mono ?_
      rintro e w23 ⟨⟨v23, rfl, s23⟩, m23⟩
      have h23 : More w6 w23 := h22.trans m23
      have S23 := Lib.hid s23
      have S22' := Lib.hid (S22.out.keep keepsBlk m23)
      clear s23 m23
      refine ⟨_, rfl, later_mk h23, hK _ _ ?_⟩
      clear hK K
      repeat (first | (refine tr_skip rfl rfl (later_mk (by repeat (first | exact More.refl _ | assumption | refine More.dr ?_ _ | refine More.al ?_ _ | refine More.st ?_ (by simp) _))) ?_) | (refine tr_quiet rfl rfl (later_mk (by repeat (first | exact More.refl _ | assumption | refine More.dr ?_ _ | refine More.al ?_ _ | refine More.st ?_ (by simp) _))) ?_; intro K hK; go_big_quiet_op; go_big_quiet_on))
      (refine tr_next rfl rfl ?_; intro K hK; unfold loud; go_simp)
      refine (Same08_any ⟨true, 1, ⟨2, 0, 0, 0, 0⟩, [⟨3, 0, -1, 0, 0, 0, 0⟩]⟩ ⟨true, 1, ⟨2, 0, 0, 0, 0⟩, [⟨3, 0, -1, 0, 0, 0, 0⟩]⟩ S22'.out S23.out).mono ?_
      rintro e w24 ⟨rfl, m24⟩
      rw [decide_eq_true rfl]
      have h24 : More w6 w24 := h23.trans m24
      clear m24 S22 S22' S23
      refine ⟨_, rfl, later_mk h24, hK _ _ ?_⟩
      clear hK K
      repeat (first | (refine tr_skip rfl rfl (later_mk (by repeat (first | exact More.refl _ | assumption | refine More.dr ?_ _ | refine More.al ?_ _ | refine More.st ?_ (by simp) _))) ?_) | (refine tr_quiet rfl rfl (later_mk (by repeat (first | exact More.refl _ | assumption | refine More.dr ?_ _ | refine More.al ?_ _ | refine More.st ?_ (by simp) _))) ?_; intro K hK; go_big_quiet_op; go_big_quiet_on))
      (refine tr_next rfl rfl ?_; intro K hK; unfold loud; go_simp)
      refine (Right08_any ⟨true, 1, ⟨2, 0, 0, 0, 0⟩, [⟨3, 0, -1, 0, 0, 0, 0⟩]⟩ (VS.out.keep keepsBlk (show More w6 _ from (by repeat (first | exact More.refl _ | assumption | refine More.dr ?_ _ | refine More.al ?_ _ | refine More.st ?_ (by simp) _))))).mono ?_
      rintro e w25 ⟨rfl, m25⟩
      rw [awRt]
      have h25 : More w6 w25 := h24.trans m25
      clear m25
      refine ⟨_, rfl, later_mk h25, hK _ _ ?_⟩
      clear hK K
      repeat (first | (refine tr_skip rfl rfl (later_mk (by repeat (first | exact More.refl _ | assumption | refine More.dr ?_ _ | refine More.al ?_ _ | refine More.st ?_ (by simp) _))) ?_) | (refine tr_quiet rfl rfl (later_mk (by repeat (first | exact More.refl _ | assumption | refine More.dr ?_ _ | refine More.al ?_ _ | refine More.st ?_ (by simp) _))) ?_; intro K hK; go_big_quiet_op; go_big_quiet_on))
      refine tr_done ?_
      go_wp2
      go_ret
      exact ⟨rfl, M6.out.trans h25⟩
    · (refine tr_next rfl rfl ?_; intro K hK; unfold loud; go_simp)
      refine ⟨later_mk (by repeat (first | exact More.refl _ | assumption | refine More.dr ?_ _ | refine More.al ?_ _ | refine More.st ?_ (by simp) _)), hK _ _ ?_⟩
      clear hK K
      repeat (first | (refine tr_skip rfl rfl (later_mk (by repeat (first | exact More.refl _ | assumption | refine More.dr ?_ _ | refine More.al ?_ _ | refine More.st ?_ (by simp) _))) ?_) | (refine tr_quiet rfl rfl (later_mk (by repeat (first | exact More.refl _ | assumption | refine More.dr ?_ _ | refine More.al ?_ _ | refine More.st ?_ (by simp) _))) ?_; intro K hK; go_big_quiet_op; go_big_quiet_on))
      (refine tr_next rfl rfl ?_; intro K hK; unfold loud; go_simp)
      refine ⟨later_mk (by repeat (first | exact More.refl _ | assumption | refine More.dr ?_ _ | refine More.al ?_ _ | refine More.st ?_ (by simp) _)), hK _ _ ?_⟩
      clear hK K
      repeat (first | (refine tr_skip rfl rfl (later_mk (by repeat (first | exact More.refl _ | assumption | refine More.dr ?_ _ | refine More.al ?_ _ | refine More.st ?_ (by simp) _))) ?_) | (refine tr_quiet rfl rfl (later_mk (by repeat (first | exact More.refl _ | assumption | refine More.dr ?_ _ | refine More.al ?_ _ | refine More.st ?_ (by simp) _))) ?_; intro K hK; go_big_quiet_op; go_big_quiet_on))
      (refine tr_next rfl rfl ?_; intro K hK; unfold loud; go_simp)
      refine (Same07_any [(0, 201, [0, 0, 0, 5], ())] [(0, 201, [0, 0, 0, 5], ())] _ _ _ ((awLitA (V1.out.keep (show More w6 (((w6.drewN 1).alloc (.cells #[.int .u8 0, .int .u8 0, .int .u8 0, .int .u8 5] 5)).alloc (.cells #[.int .u8 0, .int .u8 201, .slice (some ⟨w6.heap.size, 0, none⟩) 4 4] 35)) from (by repeat (first | exact More.refl _ | assumption | refine More.dr ?_ _ | refine More.al ?_ _ | refine More.st ?_ (by simp) _)))) (by simp)).keep keepsChunk (show More ((((w6.drewN 1).alloc (.cells #[.int .u8 0, .int .u8 0, .int .u8 0, .int .u8 5] 5)).alloc (.cells #[.int .u8 0, .int .u8 201, .slice (some ⟨w6.heap.size, 0, none⟩) 4 4] 35)).alloc (.cells #[.int .u8 0, .int .u8 201, .slice o1 4 k1] 35)) ((((w6.drewN 1).alloc (.cells #[.int .u8 0, .int .u8 0, .int .u8 0, .int .u8 5] 5)).alloc (.cells #[.int .u8 0, .int .u8 201, .slice (some ⟨w6.heap.size, 0, none⟩) 4 4] 35)).alloc (.cells #[.int .u8 0, .int .u8 201, .slice o1 4 k1] 35)) from (by repeat (first | exact More.refl _ | assumption | refine More.dr ?_ _ | refine More.al ?_ _ | refine More.st ?_ (by simp) _)))) ((awLitA (SlI.keep (SlI.lit .u8 (w6.drewN 1) [0, 0, 0, 5] 5 _ 4 _ (by simp) rfl (by first | rfl | simp) (by simp)) (show More ((w6.drewN 1).alloc (.cells #[.int .u8 0, .int .u8 0, .int .u8 0, .int .u8 5] 5)) ((w6.drewN 1).alloc (.cells #[.int .u8 0, .int .u8 0, .int .u8 0, .int .u8 5] 5)) from (by repeat (first | exact More.refl _ | assumption | refine More.dr ?_ _ | refine More.al ?_ _ | refine More.st ?_ (by simp) _)))) (by simp)).keep keepsChunk (show More (((w6.drewN 1).alloc (.cells #[.int .u8 0, .int .u8 0, .int .u8 0, .int .u8 5] 5)).alloc (.cells #[.int .u8 0, .int .u8 201, .slice (some ⟨w6.heap.size, 0, none⟩) 4 4] 35)) ((((w6.drewN 1).alloc (.cells #[.int .u8 0, .int .u8 0, .int .u8 0, .int .u8 5] 5)).alloc (.cells #[.int .u8 0, .int .u8 201, .slice (some ⟨w6.heap.size, 0, none⟩) 4 4] 35)).alloc (.cells #[.int .u8 0, .int .u8 201, .slice o1 4 k1] 35)) from (by repeat (first | exact More.refl _ | assumption | refine More.dr ?_ _ | refine More.al ?_ _ | refine More.st ?_ (by simp) _))))).mono ?_
      rintro e w19 ⟨rfl, m19⟩
      rw [decide_eq_true rfl]
      have h19 : More w6 w19 := (show More w6 ((((w6.drewN 1).alloc (.cells #[.int .u8 0, .int .u8 0, .int .u8 0, .int .u8 5] 5)).alloc (.cells #[.int .u8 0, .int .u8 201, .slice (some ⟨w6.heap.size, 0, none⟩) 4 4] 35)).alloc (.cells #[.int .u8 0, .int .u8 201, .slice o1 4 k1] 35)) from (by repeat (first | exact More.refl _ | assumption | refine More.dr ?_ _ | refine More.al ?_ _ | refine More.st ?_ (by simp) _))).trans m19
      clear m19
      refine ⟨_, rfl, later_mk h19, hK _ _ ?_⟩
      clear hK K
      repeat (first | (refine tr_skip rfl rfl (later_mk (by repeat (first | exact More.refl _ | assumption | refine More.dr ?_ _ | refine More.al ?_ _ | refine More.st ?_ (by simp) _))) ?_) | (refine tr_quiet rfl rfl (later_mk (by repeat (first | exact More.refl _ | assumption | refine More.dr ?_ _ | refine More.al ?_ _ | refine More.st ?_ (by simp) _))) ?_; intro K hK; go_big_quiet_op; go_big_quiet_on))
      (refine tr_next rfl rfl ?_; intro K hK; unfold loud; go_simp)
      refine (own08 ⟨false, 5, ⟨0, 0, 0, 0, 0⟩, []⟩ (V2.out.keep keepsBlk (show More w6 _ from (by repeat (first | exact More.refl _ | assumption | refine More.dr ?_ _ | refine More.al ?_ _ | refine More.st ?_ (by simp) _)))) (by decide)).mono ?_
      rintro e w20 ⟨⟨v20, rfl, s20⟩, m20⟩
      have h20 : More w6 w20 := (show More w6 _ from (by repeat (first | exact More.refl _ | assumption | refine More.dr ?_ _ | refine More.al ?_ _ | refine More.st ?_ (by simp) _))).trans m20
      have S20 := Lib.hid s20
      clear s20 m20
      refine ⟨_, rfl, later_mk h20, hK _ _ ?_⟩
      clear hK K
      repeat (first | (refine tr_skip rfl rfl (later_mk (by repeat (first | exact More.refl _ | assumption | refine More.dr ?_ _ | refine More.al ?_ _ | refine More.st ?_ (by simp) _))) ?_) | (refine tr_quiet rfl rfl (later_mk (by repeat (first | exact More.refl _ | assumption | refine More.dr ?_ _ | refine More.al ?_ _ | refine More.st ?_ (by simp) _))) ?_; intro K hK; go_big_quiet_op; go_big_quiet_on))
      (refine tr_next rfl rfl ?_; intro K hK; unfold loud; go_simp)
      refine (Same08_any ⟨false, 5, ⟨0, 0, 0, 0, 0⟩, []⟩ ⟨false, 5, ⟨0, 0, 0, 0, 0⟩, []⟩ S20.out (SlP.nil _ _ _)).mono ?_
      rintro e w21 ⟨rfl, m21⟩
      rw [decide_eq_true rfl]
      have h21 : More w6 w21 := h20.trans m21
      clear m21 S20
      refine ⟨_, rfl, later_mk h21, hK _ _ ?_⟩
      clear hK K
      repeat (first | (refine tr_skip rfl rfl (later_mk (by repeat (first | exact More.refl _ | assumption | refine More.dr ?_ _ | refine More.al ?_ _ | refine More.st ?_ (by simp) _))) ?_) | (refine tr_quiet rfl rfl (later_mk (by repeat (first | exact More.refl _ | assumption | refine More.dr ?_ _ | refine More.al ?_ _ | refine More.st ?_ (by simp) _))) ?_; intro K hK; go_big_quiet_op; go_big_quiet_on))
      (refine tr_next rfl rfl ?_; intro K hK; unfold loud; go_simp)
      refine (own08 ⟨true, 1, ⟨2, 0, 0, 0, 0⟩, [⟨3, 0, -1, 0, 0, 0, 0⟩]⟩ (VS.out.keep keepsBlk (show More w6 _ from (by repeat (first | exact More.refl _ | assumption | refine More.dr ?_ _ | refine More.al ?_ _ | refine More.st ?_ (by simp) _)))) (by decide)).mono ?_
      rintro e w22 ⟨⟨v22, rfl, s22⟩, m22⟩
      have h22 : More w6 w22 := h21.trans m22
      have S22 := Lib.hid s22
      clear s22 m22
      refine ⟨_, rfl, later_mk h22, hK _ _ ?_⟩
      clear hK K
      repeat (first | (refine tr_skip rfl rfl (later_mk (by repeat (first | exact More.refl _ | assumption | refine More.dr ?_ _ | refine More.al ?_ _ | refine More.st ?_ (by simp) _))) ?_) | (refine tr_quiet rfl rfl (later_mk (by repeat (first | exact More.refl _ | assumption | refine More.dr ?_ _ | refine More.al ?_ _ | refine More.st ?_ (by simp) _))) ?_; intro K hK; go_big_quiet_op; go_big_quiet_on))
      (refine tr_next rfl rfl ?_; intro K hK; unfold loud; go_simp)
      refine (own08 ⟨true, 1, ⟨2, 0, 0, 0, 0⟩, [⟨3, 0, -1, 0, 0, 0, 0⟩]⟩ (V4.out.keep keepsBlk (show More w6 _ from (by repeat (first | exact More.refl _ | assumption | refine More.dr ?_ _ | refine More.al ?_ _ | refine More.st ?_ (by simp) _)))) (by decide)).mono ?_
      rintro e w23 ⟨⟨v23, rfl, s23⟩, m23⟩
      have h23 : More w6 w23 := h22.trans m23
      have S23 := Lib.hid s23
      have S22' := Lib.hid (S22.out.keep keepsBlk m23)
      clear s23 m23
      refine ⟨_, rfl, later_mk h23, hK _ _ ?_⟩
      clear hK K
      repeat (first | (refine tr_skip rfl rfl (later_mk (by repeat (first | exact More.refl _ | assumption | refine More.dr ?_ _ | refine More.al ?_ _ | refine More.st ?_ (by simp) _))) ?_) | (refine tr_quiet rfl rfl (later_mk (by repeat (first | exact More.refl _ | assumption | refine More.dr ?_ _ | refine More.al ?_ _ | refine More.st ?_ (by simp) _))) ?_; intro K hK; go_big_quiet_op; go_big_quiet_on))
      (refine tr_next rfl rfl ?_; intro K hK; unfold loud; go_simp)
      refine (Same08_any ⟨true, 1, ⟨2, 0, 0, 0, 0⟩, [⟨3, 0, -1, 0, 0, 0, 0⟩]⟩ ⟨true, 1, ⟨2, 0, 0, 0, 0⟩, [⟨3, 0, -1, 0, 0, 0, 0⟩]⟩ S22'.out S23.out).mono ?_
      rintro e w24 ⟨rfl, m24⟩
      rw [decide_eq_true rfl]
      have h24 : More w6 w24 := h23.trans m24
      clear m24 S22 S22' S23
      refine ⟨_, rfl, later_mk h24, hK _ _ ?_⟩
      clear hK K
      repeat (first | (refine tr_skip rfl rfl (later_mk (by repeat (first | exact More.refl _ | assumption | refine More.dr ?_ _ | refine More.al ?_ _ | refine More.st ?_ (by simp) _))) ?_) | (refine tr_quiet rfl rfl (later_mk (by repeat (first | exact More.refl _ | assumption | refine More.dr ?_ _ | refine More.al ?_ _ | refine More.st ?_ (by simp) _))) ?_; intro K hK; go_big_quiet_op; go_big_quiet_on))
      (refine tr_next rfl rfl ?_; intro K hK; unfold loud; go_simp)
      refine (Right08_any ⟨true, 1, ⟨2, 0, 0, 0, 0⟩, [⟨3, 0, -1, 0, 0, 0, 0⟩]⟩ (VS.out.keep keepsBlk (show More w6 _ from (by repeat (first | exact More.refl _ | assumption | refine More.dr ?_ _ | refine More.al ?_ _ | refine More.st ?_ (by simp) _))))).mono ?_
      rintro e w25 ⟨rfl, m25⟩
      rw [awRt]
      have h25 : More w6 w25 := h24.trans m25
      clear m25
      refine ⟨_, rfl, later_mk h25, hK _ _ ?_⟩
      clear hK K
      repeat (first | (refine tr_skip rfl rfl (later_mk (by repeat (first | exact More.refl _ | assumption | refine More.dr ?_ _ | refine More.al ?_ _ | refine More.st ?_ (by simp) _))) ?_) | (refine tr_quiet rfl rfl (later_mk (by repeat (first | exact More.refl _ | assumption | refine More.dr ?_ _ | refine More.al ?_ _ | refine More.st ?_ (by simp) _))) ?_; intro K hK; go_big_quiet_op; go_big_quiet_on))
      refine tr_done ?_
      go_wp2
      go_ret
      exact ⟨rfl, M6.out.trans h25⟩
end Go.Proofs.Ytlnikmcimmnbmaa
