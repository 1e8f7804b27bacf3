/- Feedback messages: asks, and lost numbers, read. -/
import Derived.Test.YtlnikmcimmnbmaaFeedF
import Derived.Test.YtlnikmcimmnbmaaChunkE
namespace Go.Proofs.Ytlnikmcimmnbmaa
set_option linter.unusedSimpArgs false
set_option linter.unusedVariables false
open Go.RowKit
set_option maxRecDepth 100000

/-- A reader, and a row of asks that grows. -/
structure AkJ (w0 w : World) (R : Nat) (C : Nat → Prop) (v : Value) (acc : List (Int × Int)) (s : RdS) : Prop where
  rd : ReaderAt w R s.1 s.2 C
  row : RowP 2 RAsk (fun b => b = R) w w0.heap.size 177 v acc
  away : Away (fun b => b = R) w0 w
  hC : ∀ g, C g → g < w0.heap.size
  hR : R < w0.heap.size
section
variable {w0 w w' : World} {R : Nat} {C : Nat → Prop} {v v' : Value} {acc acc' : List (Int × Int)} {s s' : RdS}
theorem AkJ.read (h : AkJ w0 w R C v acc s) (r : ReaderAt w' R s'.1 s'.2 C) (a : Away (fun b => b = R) w w') : AkJ w0 w' R C v acc s' := ⟨r, h.row.step a, h.away.trans a, h.hC, h.hR⟩
theorem AkJ.on (h : AkJ w0 w R C v acc s) (m : More w w') : AkJ w0 w' R C v acc s := ⟨h.rd.more m, h.row.on m, h.away.more m, h.hC, h.hR⟩
theorem AkJ.put (h : AkJ w0 w R C v acc s) (ho : RowP 2 RAsk (fun b => b = R) w' w0.heap.size 177 v' acc') (hg : w.grownBy w' v.ownBlock) : AkJ w0 w' R C v' acc' s := by
  have hv : ∀ g, v.ownBlock = some g → w0.heap.size ≤ g := fun g e => h.row.ge e
  have hs := h.away.size
  have a : Away (fun b => v.ownBlock = some b) w w' := ⟨hg.os, hg.tape, hg.output, hg.size, fun k hk hs => hg.block k hk (fun e => hs e.symm)⟩
  refine ⟨h.rd.off a (fun e => by have := hv R e; have := h.hR; omega) (fun g hc e => by have := hv g e; have := h.hC g hc; omega), ho, ?_, h.hC, h.hR⟩
  exact ⟨a.os.trans h.away.os, a.tape.trans h.away.tape, a.output.trans h.away.output, Nat.le_trans hs a.size, fun k hk hn => by
    rw [a.block k (Nat.lt_of_lt_of_le hk hs) (fun e => by have := hv k e; omega)]
    exact h.away.block k hk hn⟩
end
theorem readAsksF_step {n : Nat} {acc : List (Int × Int)} {s : RdS} (h : ¬ s.1 = []) : readAsksF (n + 1) acc s = readAsksF n (acc ++ [(askS s).1]) (askS s).2 := by
  show (if s.1 = [] then _ else _) = _
  rw [if_neg h]
theorem askS_len {s : RdS} (h : ¬ s.1 = []) : (askS s).2.1.length + 1 ≤ s.1.length := by
  have h1 := List.length_pos_iff.2 h
  have e : (askS s).2.1 = ((s.1.drop 4).drop 1).drop 3 := rfl
  rw [e, List.length_drop, List.length_drop, List.length_drop]; omega
theorem left_pos {s : RdS} (h : ¬ s.1 = []) : (0 : Int) < (s.1.length : Int) := by
  have := List.length_pos_iff.2 h; omega
set_option maxHeartbeats 4000000 in
theorem ReadAsks_any {w : World} {R : Nat} {s0 : RdS} {C0 : Nat → Prop} (h : ReaderAt w R s0.1 s0.2 C0) (hR : R < w.heap.size) :
    Calls Try.prog 107 #[.pointer (some ⟨R, 0, none⟩)] w fun e w' => ∃ v', e = .returned v' ∧ AkJ w w' R (fun g => C0 g ∧ g < w.heap.size) v' (readAsksF s0.1.length [] s0).1 (readAsksF s0.1.length [] s0).2 := by
  obtain ⟨i0, hi, hz0, hz1, hz2⟩ := info_parts (P := Try.prog) (e := 177) (z := .agg #[.int .u32 0, .int .u8 0]) (size := 2) (bytes := 8) (by kernel_rfl)
  obtain ⟨C, hC⟩ : ∃ C : Nat → Prop, C = fun g => C0 g ∧ g < w.heap.size := ⟨_, rfl⟩
  have H0 : Hid (AkJ w w R C (.slice none 0 0) [] s0) := Lib.hid (by rw [hC]; exact ⟨h.old, RowP.nil _ _ _ _ _ _, Away.refl _ _, fun g h => h.2, hR⟩)
  rw [← hC]
  have hsm := h.small
  clear hC h
  go_enter Try.func107, Try.ntmps107
  go_wp2
  go_loopw [3] (fun v wr => ∃ acc s n, AkJ w wr R C v acc s ∧ s.1.length ≤ n ∧ readAsksF n acc s = readAsksF s0.1.length [] s0 ∧ acc.length + s.1.length ≤ s0.1.length) (fun v _ => s0.1.length - lenOf v)
  case atStart => exact ⟨[], s0, s0.1.length, H0.out, Nat.le_refl _, rfl, by simp⟩
  case round =>
    obtain ⟨acc, s, n, hJ, hn, hf, hl⟩ := hrel
    have HJ := Lib.hid hJ
    have HF := Lib.hid hf
    obtain ⟨ov, nv, cv, rfl, hz8, hz9⟩ := hJ.row.shape
    have HN := Lib.hid hz8
    clear hJ hf hz8 hz9
    by_cases hs : s.1 = []
    · have hf := HF.out
      obtain ⟨l, e⟩ := s
      simp only at hs
      subst hs
      rw [readAsksF_nil] at hf
      have HE := Lib.hid hf
      clear hf
      go_wp2_with (go_at_call 92; ((with_reducible refine (RdLeft_any HJ.out.rd).mono ?_); rintro e w9 ⟨rfl, rfl⟩))
      go_ret
      exact ⟨_, rfl, by rw [← HE.out]; exact HJ.out⟩
    · have hp := left_pos hs
      have hal := askS_len hs
      have hb := HJ.out.rd.byt
      have hok := Lib.hid (askS_ok hb)
      obtain ⟨n, rfl⟩ : ∃ k, n = k + 1 := ⟨n - 1, by have := List.length_pos_iff.2 hs; omega⟩
      have HF2 : Hid (readAsksF n (acc ++ [(askS s).1]) (askS s).2 = readAsksF s0.1.length [] s0) := Lib.hid (by rw [← readAsksF_step hs]; exact HF.out)
      have HAL := Lib.hid hal
      obtain ⟨X1, hX1⟩ : ∃ X, num (tkB s.1 4) = X := ⟨_, rfl⟩
      obtain ⟨X2, hX2⟩ : ∃ X, num (tkB (tkS s 4).1 1) = X := ⟨_, rfl⟩
      have HX1 := Lib.hid hX1
      have HX2 := Lib.hid hX2
      have HAS : Hid ((askS s).1 = (X1, X2)) := Lib.hid (by rw [← hX1, ← hX2]; rfl)
      clear hb hs hal hX1 hX2
      go_wp2_with (first | (go_at_call 92; ((with_reducible refine (RdLeft_any HJ.out.rd).mono ?_); rintro e w9 ⟨rfl, rfl⟩)) | (go_at_call 78; ((with_reducible refine (RdNum_any HJ.out.rd).mono ?_); rintro e w2 ⟨rfl, r2, a2⟩; rw [HX1.out]; have J2 := Lib.hid (HJ.out.read (s' := tkS s 4) r2 a2); clear r2 a2)) | (go_at_call 88; ((with_reducible refine (RdByte_any J2.out.rd).mono ?_); rintro e w3 ⟨rfl, r3, a3⟩; rw [HX2.out]; have HS3 := Lib.hid ((J2.out.read (s' := tkS (tkS s 4) 1) r3 a3).away.size); have J3 := Lib.hid ((J2.out.read (s' := tkS (tkS s 4) 1) r3 a3).on (More.alloc w3 (.cells #[.int .u32 X1, .int .u8 X2] 177))); have B3 := Lib.hid (blk_new w3 (.cells #[.int .u32 X1, .int .u8 X2] 177)); clear r3 a3)) | (go_at_call 137; ((with_reducible refine (RdThree_any J3.out.rd).mono ?_); rintro e w4 ⟨rfl, r4, a4⟩; have J4 := Lib.hid (J3.out.read (s' := (askS s).2) r4 a4); have B4 := Lib.hid (a4.blk B3.out (fun e => by have := J3.out.hR; have := HS3.out; omega)); clear r4 a4; have b0 := blk_cell B4.out 0 (v := .int .u32 X1) rfl; have b1 := blk_cell B4.out 1 (v := .int .u8 X2) rfl; have J5 := Lib.hid (J4.out.on (More.alloc w4 (.cells #[.int .u32 X1, .int .u8 X2] 177))))) | (at_builtin; refine wpList_append_row _ rfl (.tmp 15) (.tmp 17) 82 rfl w.heap.size 177 i0 (.agg #[.int .u32 0, .int .u8 0]) 2 8 Try.underlying82 hi hz0 hz1 hz2 rfl (by decide) _ acc rfl J5.out.row w4.heap.size [.int .u32 X1, .int .u8 X2] (X1, X2) rfl rfl (new_cells rfl) (by simp [Value.oneCell']) (fun _ _ => ⟨rfl, by have := hok.out.1; rw [HAS.out] at this; exact this, by have := hok.out.2.1; rw [HAS.out] at this; exact this⟩) (fun b hb => by have := J5.out.hR; have := J5.out.away.size; omega) (by decide) (by omega) J5.out.away.size ?_; intro v6 w6 ho6 hg6 _; have J6 := Lib.hid (J5.out.put ho6 hg6); obtain ⟨o6, n6, c6, rfl, hz6, hz7⟩ := ho6.shape; have HN6 := Lib.hid hz6; clear ho6 hg6 hz6 hz7 b0 b1))
      go_roundw
      case rel => exact ⟨acc ++ [(X1, X2)], (askS s).2, n, J6.out, by have := HAL.out; omega, by have := HF2.out; rw [HAS.out] at this; exact this, by have := HAL.out; simp only [List.length_append, List.length_cons, List.length_nil]; omega⟩
      case measure => have := HN6.out; have := HN.out; simp [lenOf] at *; omega
end Go.Proofs.Ytlnikmcimmnbmaa
