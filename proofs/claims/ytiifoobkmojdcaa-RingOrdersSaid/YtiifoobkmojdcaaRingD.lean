/- Contracts of package ring, of int: awake. -/
import Derived.Test.YtiifoobkmojdcaaRingC
namespace Go.Proofs.Ytiifoobkmojdcaa
open Go.RowKit
set_option maxRecDepth 100000

instance (s : RS) : Decidable s.small := by unfold RS.small; infer_instance
set_option maxHeartbeats 1000000 in
theorem awake13 (w : World) :
    Calls Try.prog 37 #[] w fun e w' => e = .returned (.bool true) ∧ More w w' := by
  have s0 : (⟨[], false, 0, 0, 0, 0⟩ : RS).small := by decide
  have s1 : (⟨[1], false, 1, 0, 0, 0⟩ : RS).small := by decide
  have s2 : (⟨[1, 2], false, 2, 0, 0, 0⟩ : RS).small := by decide
  have s3 : (⟨[2, 3], false, 3, 0, 1, 0⟩ : RS).small := by decide
  go_enter Try.func37, Try.ntmps37
  go_wp2_with first | (go_at_call 38; ((with_reducible refine (RNew_good 2 2 (by decide) (by decide) (by decide) _).mono ?_); rintro e w1 ⟨R, A, rfl, hR, hA, h1, m1⟩)) | (go_at_call 42; ((with_reducible refine (RPush_room h1 s0 (by decide) (by decide) 1).mono ?_); rintro e w2 ⟨rfl, h2, a2⟩; have h2 : RingAt w2 R A 2 0 ⟨[1], false, 1, 0, 0, 0⟩ _ := h2)) | (go_at_call 42; ((with_reducible refine (RPush_room h2 s1 (by decide) (by decide) 2).mono ?_); rintro e w3 ⟨rfl, h3, a3⟩; have h3 : RingAt w3 R A 2 0 ⟨[1, 2], false, 2, 0, 0, 0⟩ _ := h3)) | (go_at_call 42; ((with_reducible refine (RPush_full h3 s2 (by decide) (by decide) 3).mono ?_); rintro e w4 ⟨rfl, ⟨cs4, h4⟩, a4⟩; have h4 : RingAt w4 R A 2 1 ⟨[2, 3], false, 3, 0, 1, 0⟩ _ := h4)) | (go_at_call 43; ((with_reducible refine (RPop_some h4 s3 (by decide)).mono ?_); rintro e w5 ⟨rfl, h5, a5⟩; have h5 : RingAt w5 R A 2 0 ⟨[3], false, 3, 1, 1, 0⟩ _ := h5)) | (go_at_call 45; ((with_reducible refine (RClose_any h5).mono ?_); rintro e w6 ⟨rfl, h6, a6⟩; have h6 : RingAt w6 R A 2 0 ⟨[3], true, 3, 1, 1, 0⟩ _ := h6)) | (go_at_call 42; ((with_reducible refine (RPush_closed h6 (by decide) 4).mono ?_); rintro e w7 ⟨rfl, rfl⟩)) | (go_at_call 45; ((with_reducible refine (RClose_any h6).mono ?_); rintro e w8 ⟨rfl, h8, a8⟩; have h8 : RingAt w8 R A 2 0 ⟨[3], true, 3, 1, 1, 0⟩ _ := h8)) | (go_at_call 41; ((with_reducible refine (RClosed_any h8).mono ?_); rintro e w9 ⟨rfl, rfl⟩)) | (go_at_call 40; ((with_reducible refine (RLen_any h8).mono ?_); rintro e w10 ⟨rfl, rfl⟩)) | (go_at_call 65; ((with_reducible refine (RFull_any h8).mono ?_); rintro e w11 ⟨rfl, k11, rfl⟩)) | (go_at_call 39; ((with_reducible refine (RCounts_any (h8.drewN _)).mono ?_); rintro e w12 ⟨rfl, m12⟩))
  go_ret
  refine ⟨rfl, ?_⟩
  have hs : ∀ k, Two2 R A k → w.heap.size ≤ k := by rintro k (rfl | rfl) <;> assumption
  have aa := (((((a2.trans a3).trans a4).trans a5).trans a6).trans a8).drewN k11
  exact (Away.to_more m1 aa hs).trans m12
end Go.Proofs.Ytiifoobkmojdcaa
