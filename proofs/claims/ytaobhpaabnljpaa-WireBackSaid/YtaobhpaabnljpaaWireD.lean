/- Package wire in the laws of layer 3: awake, large, what comes in. -/
import Derived.Test.YtaobhpaabnljpaaWireC
import Derived.Test.YtaobhpaabnljpaaRead
namespace Go.Proofs.Ytaobhpaabnljpaa
open Go.RowKit
set_option maxRecDepth 100000

theorem owns_ge {w : World} {base e size n b : Nat} {v : Value} {xs : List Value} (h : w.ownsRow base e size v n xs) (hb : v.ownBlock = some b) : base ≤ b := by
  rcases h.2 with ⟨rfl, _⟩ | ⟨b', cap, cur, rfl, hb', _⟩
  · cases hb
  · obtain rfl : b' = b := by injection hb
    exact hb'
theorem Wrote.to_more {w0 w w' : World} {W : Nat} {v : Value} {l l0 : List Int} (hw : Wrote w w' W v l) (h : WriterAt w W v l0) (m : More w0 w) (hW : w0.heap.size ≤ W) : More w0 w' :=
  Away.to_more m hw.2 (by
    rintro k (rfl | hk)
    · exact hW
    · have := owns_ge h.row hk; omega)
theorem rd_more {w0 w w' : World} {R : Nat} (a : Away (fun b => b = R) w w') (m : More w0 w) (hR : w0.heap.size ≤ R) : More w0 w' :=
  Away.to_more m a (by rintro k rfl; exact hR)
/-- A new writer. -/
theorem writer_new (w : World) : WriterAt (w.alloc (.cells #[.slice none 0 0] 60)) w.heap.size (.slice none 0 0) [] := ⟨blk_new _ _, ⟨rfl, Or.inl ⟨rfl, rfl⟩⟩⟩
set_option maxHeartbeats 1000000 in
theorem awake03 (w : World) :
    Calls Try.prog 24 #[] w fun e w' => e = .returned (.bool true) ∧ More w w' := by
  have h0 := writer_new w
  have m0 := More.alloc w (.cells #[.slice none 0 0] 60)
  have b3 : bysA 258 3 = [0, 1, 2] := by decide
  have n3 : num (tkB [0, 1, 2, 7] 3) = 258 := by decide
  have n0 : num (tkB [] 2) = 0 := by decide
  have byt4 : Byt [0, 1, 2, 7] := Byt.of_all (by decide)
  go_enter Try.func24, Try.ntmps24
  go_wp2_with first | (go_at_call 71; ((with_reducible refine (WThree_any h0 258 (by decide) (by simp)).mono ?_); rintro e w1 ⟨rfl, hw1⟩; have m1 := hw1.to_more h0 m0 (Nat.le_refl _); obtain ⟨⟨v1, h1, _⟩, _⟩ := hw1; rw [b3] at h1; have h1' := h1.more (More.alloc w1 (.cells #[.int .u8 7] 5)); have m1' := m1.al (.cells #[.int .u8 7] 5))) | (go_at_call 72; refine (wrote_raw h1' _ [7] (SlI.lit .u8 w1 [7] 5 _ 1 _ (by simp) rfl rfl (by simp)) (by decide)).mono ?_; rintro e w2 ⟨rfl, hw2⟩; have m2 := hw2.to_more h1' m1' (Nat.le_refl _); obtain ⟨⟨v2, h2, _⟩, _⟩ := hw2) | (go_at_call 38; refine (WBytes_any h2 (by decide)).mono ?_; rintro e w3 ⟨v3, rfl, ho3, m3⟩; have s3 : SlI .u8 w3 v3 [0, 1, 2, 7] := SlI.of_owns ho3 (by decide); clear ho3) | (go_at_call 26; refine (RdNew_any v3 _ w3 s3 byt4 (by decide)).mono ?_; rintro e w4 ⟨R, rfl, hR, r4, m4⟩; have mm4 := (m2.trans m3).trans m4; have hRw := Nat.le_trans (m2.trans m3).size hR; have s4 := s3.keep m4) | (go_at_call 30; ((with_reducible refine (RdThree_any r4).mono ?_); rintro e w5 ⟨rfl, r5, a5⟩; have r5 : ReaderAt w5 R [7] 0 := r5; have mm5 := rd_more a5 mm4 hRw; have s5 := s4.away a5 (by rintro b rfl; exact reader_cell r4))) | (go_at_call 33; ((with_reducible refine (RdLeft_any r5).mono ?_); rintro e w6 ⟨rfl, rfl⟩)) | (go_at_call 32; ((with_reducible refine (RdRaw_any 1 r5).mono ?_); rintro e w7 ⟨v7, rfl, ho7, r7, a7⟩; have r7 : ReaderAt w7 R [] 0 := r7; have mm7 := rd_more a7 mm5 hRw; have s7 := s5.away a7 (by rintro b rfl; exact reader_cell r5); have z7 : SlI .u8 w7 v7 [7] := SlI.of_owns ho7 (by decide); clear ho7)) | (go_at_call 34; ((with_reducible refine (RdEnd_any r7).mono ?_); rintro e w8 ⟨rfl, rfl⟩)) | (go_at_call 29; ((with_reducible refine (RdShort_any r7).mono ?_); rintro e w9 ⟨rfl, r9, a9⟩; have r9 : ReaderAt w9 R [] 3 := r9; have mm9 := rd_more a9 mm7 hRw; have s9 := s7.away a9 (by rintro b rfl; exact reader_cell r7); have z9 := z7.away a9 (by rintro b rfl; exact reader_cell r7))) | (go_at_call 37; ((with_reducible refine (Same_any [0, 1, 2, 7] [0, 1, 2, 7] v3 _ _ (s9.keep (by repeat (first | exact More.refl _ | assumption | refine More.dr ?_ _ | refine More.al ?_ _ | refine More.st ?_ (by simp) _))) (SlI.lit .u8 w9 [0, 1, 2, 7] 5 _ 4 _ (by simp) rfl rfl (by simp))).mono ?_); rintro e w10 ⟨rfl, k10, rfl⟩)) | (go_at_call 37; ((with_reducible refine (Same_any [7] [7] v7 _ _ (z9.keep (by repeat (first | exact More.refl _ | assumption | refine More.dr ?_ _ | refine More.al ?_ _ | refine More.st ?_ (by simp) _))) (SlI.lit .u8 _ [7] 5 _ 1 _ (by simp) rfl (by simp) (by simp))).mono ?_); rintro e w11 ⟨rfl, k11, rfl⟩)) | (go_at_call 34; ((with_reducible refine (RdEnd_any (r9.more (by repeat (first | exact More.refl _ | assumption | refine More.dr ?_ _ | refine More.al ?_ _ | refine More.st ?_ (by simp) _)))).mono ?_); rintro e w12 ⟨rfl, rfl⟩))
  go_ret
  refine ⟨rfl, ?_⟩
  exact (by repeat (first | exact More.refl _ | assumption | refine More.dr ?_ _ | refine More.al ?_ _ | refine More.st ?_ (by simp) _))
end Go.Proofs.Ytaobhpaabnljpaa
