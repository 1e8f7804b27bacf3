/- The law WireStays, walked. -/
import Derived.Test.YtaobhpaabnljpaaWireE
namespace Go.Proofs.Ytaobhpaabnljpaa
open Go.RowKit
set_option maxRecDepth 100000

theorem tkB_nil (n : Int) : tkB [] n = [] := by unfold tkB; split <;> simp
theorem tkL_nil (n : Int) : tkL [] n = [] := by unfold tkL; simp
theorem tkE_shut {l : List Int} {n e : Int} (he : ¬ e = 0) : tkE l n e = e := by unfold tkE; rw [if_neg (fun x => he x.2)]
theorem RdByte_shut {w : World} {R : Nat} {e : Int} (h : ReaderAt w R [] e) (he : ¬ e = 0) :
    Calls Try.prog 28 #[.pointer (some ⟨R, 0, none⟩)] w fun e' w' => e' = .returned (.int .u8 0) ∧ ReaderAt w' R [] e ∧ Away (fun b => b = R) w w' := by
  refine (RdByte_any h).mono ?_
  rw [tkB_nil, tkL_nil, tkE_shut he]
  exact fun _ _ h => h
theorem RdShort_shut {w : World} {R : Nat} {e : Int} (h : ReaderAt w R [] e) (he : ¬ e = 0) :
    Calls Try.prog 29 #[.pointer (some ⟨R, 0, none⟩)] w fun e' w' => e' = .returned (.int .u16 0) ∧ ReaderAt w' R [] e ∧ Away (fun b => b = R) w w' := by
  refine (RdShort_any h).mono ?_
  rw [tkB_nil, tkL_nil, tkE_shut he]
  exact fun _ _ h => h
theorem RdThree_shut {w : World} {R : Nat} {e : Int} (h : ReaderAt w R [] e) (he : ¬ e = 0) :
    Calls Try.prog 30 #[.pointer (some ⟨R, 0, none⟩)] w fun e' w' => e' = .returned (.int .u32 0) ∧ ReaderAt w' R [] e ∧ Away (fun b => b = R) w w' := by
  refine (RdThree_any h).mono ?_
  rw [tkB_nil, tkL_nil, tkE_shut he]
  exact fun _ _ h => h
theorem RdNum_shut {w : World} {R : Nat} {e : Int} (h : ReaderAt w R [] e) (he : ¬ e = 0) :
    Calls Try.prog 31 #[.pointer (some ⟨R, 0, none⟩)] w fun e' w' => e' = .returned (.int .u32 0) ∧ ReaderAt w' R [] e ∧ Away (fun b => b = R) w w' := by
  refine (RdNum_any h).mono ?_
  rw [tkB_nil, tkL_nil, tkE_shut he]
  exact fun _ _ h => h
theorem RdRaw_shut {w : World} {R : Nat} {e : Int} (n : Int) (h : ReaderAt w R [] e) (he : ¬ e = 0) :
    Calls Try.prog 32 #[.pointer (some ⟨R, 0, none⟩), .int .i64 n] w fun e' w' => (∃ oa cap, e' = .returned (.slice oa 0 cap)) ∧ ReaderAt w' R [] e ∧ Away (fun b => b = R) w w' := by
  refine (RdRaw_any n h).mono ?_
  rw [tkB_nil, tkL_nil, tkE_shut he]
  rintro e' w' ⟨v', rfl, ho, h2, a2⟩
  obtain ⟨oa, cap, e1, _⟩ := SlI.of_owns ho (by decide)
  exact ⟨⟨oa, cap, by rw [e1]; rfl⟩, h2, a2⟩
theorem RdWrong_stay {w : World} {R : Nat} {l : List Int} {e : Int} (h : ReaderAt w R l e) (he : ¬ e = 0) (x : Int) :
    Calls Try.prog 27 #[.pointer (some ⟨R, 0, none⟩), .int .i64 x] w fun e' w' => e' = .returned (.tuple #[]) ∧ w' = w :=
  RdWrong_no h x (by by_cases hx : x = 0 <;> simp [hx, he])
theorem RdEnd_shut {w : World} {R : Nat} {l : List Int} {e : Int} (h : ReaderAt w R l e) (he : ¬ e = 0) :
    Calls Try.prog 34 #[.pointer (some ⟨R, 0, none⟩)] w fun e' w' => e' = .returned (.int .i64 e) ∧ w' = w := by
  refine (RdEnd_any h).mono ?_
  rintro e' w' ⟨rfl, rfl⟩
  exact ⟨by rw [if_pos he], rfl⟩
set_option maxHeartbeats 2000000 in
theorem WireStays_law (v : Value) (b : List Int) (e : Int) (vl : Value) (l : List Thing) (w : World) (sb : SlI .u8 w v b) (hbyt : Byt b) (_he : -9223372036854775808 ≤ e ∧ e ≤ 9223372036854775807) (sl : SlP 4 RThing w vl l) :
    Calls Try.prog 5 #[v, .int .i64 e, vl] w fun e w' => e = .returned (.bool true) ∧ More w w' := by
  have SB := Lib.hid sb
  have SL := Lib.hid sl
  obtain ⟨obb, capbb, rfl, _⟩ := sb
  by_cases hgo : (b.length : Int) ≤ 1000 ∧ lrg l = false ∧ ¬ e = 0
  · obtain ⟨hb1000, hl, he0⟩ := hgo
    obtain ⟨hl60, hl40⟩ := lrg_no hl
    obtain ⟨oa, cap, rfl, hl63, hel⟩ := things sl
    have heb : (e == 0) = false := by simpa using he0
    have hb9 : ¬ (1000 : Int) < (b.length : Int) := by omega
    clear sl
    go_enter Try.func5, Try.ntmps5
    go_wp2_with first       | (go_at_call 24; refine (awake03 _).mono ?_; rintro e w1 ⟨rfl, hm1⟩)       | (go_at_call 25; refine (large03 _ l _ (SL.out.keep keepsThing hm1)).mono ?_; rintro e w2 ⟨rfl, hm2⟩; have hM2 := hm1.trans hm2)       | (go_at_call 26; refine (RdNew_any _ b _ (SB.out.keep hM2) hbyt (by omega)).mono ?_; rintro e w3 ⟨R, rfl, hR, hr3, hm3⟩; have hM3 := hM2.trans hm3; have hRw := Nat.le_trans hM2.size hR)       | (go_at_call 27; refine (RdWrong_yes hr3 e he0).mono ?_; rintro e w4 ⟨rfl, hr4, a4⟩; have hM4 := rd_more a4 hM3 hRw)
    go_loopw [30] (fun i wr => ∃ j : Nat, j ≤ l.length ∧ i = .int .i64 j ∧ ReaderAt wr R [] e ∧ More w wr) (fun i _ => l.length - (intOf i).toNat)
    case atStart => exact ⟨0, by omega, rfl, hr4, hM4⟩
    case round =>
      obtain ⟨j, hj, rfl, hr, hmr⟩ := hrel
      by_cases hlt : j < l.length
      · obtain ⟨b', off, vb, rfl, hb, ht⟩ := hel j hlt
        obtain ⟨c0, c1, c2, c3, ⟨ob, capb, rfl, _⟩, _, _⟩ := ht.more hmr hb
        have hjl : (j : Int) < (l.length : Int) := by omega
        have hbw : b' < wr.heap.size := Nat.lt_of_lt_of_le hb hmr.size
        have hRr := hr.blk
        have hne : ¬ wr.heap.size = R := by obtain ⟨v, h1, _⟩ := hRr; have := blk_lt h1; omega
        have heb : (e != e) = false := by simp
        clear hel ht hRr
        generalize (l.getD j thing0).2.2.1.length = n at c2
        generalize (l.getD j thing0).1 = kind at c0
        generalize (l.getD j thing0).2.1 = num at c1
        generalize (l.getD j thing0).2.2.2.1 = en at c3
        by_cases h6 : kind = 6
        · subst h6
          go_wp2_with first | (go_at_call 27; refine (RdWrong_stay (hr.more (More.alloc wr _)) he0 _).mono ?_; rintro e w6 ⟨rfl, rfl⟩) | (go_at_call 28; refine (RdByte_shut (hr.more (More.alloc wr _)) he0).mono ?_; rintro e w7 ⟨rfl, h7, a7⟩; have m7 := rd_more a7 (hmr.al _) hRw; have q7 := blk_cell (a7.blk (blk_new wr _) hne) 2 (v := .slice ob n capb) rfl) | (go_at_call 29; refine (RdShort_shut h7 he0).mono ?_; rintro e w8 ⟨rfl, h8, a8⟩; have m8 := rd_more a8 m7 hRw; have q8 := q7; rw [← a8.cells _ 2 (Nat.lt_of_lt_of_le (by simp) a7.size) hne] at q8) | (go_at_call 30; refine (RdThree_shut h8 he0).mono ?_; rintro e w9 ⟨rfl, h9, a9⟩; have m9 := rd_more a9 m8 hRw; have q9 := q8; rw [← a9.cells _ 2 (Nat.lt_of_lt_of_le (Nat.lt_of_lt_of_le (by simp) a7.size) a8.size) hne] at q9) | (go_at_call 31; refine (RdNum_shut h9 he0).mono ?_; rintro e w10 ⟨rfl, h10, a10⟩; have m10 := rd_more a10 m9 hRw; have q10 := q9; rw [← a10.cells _ 2 (Nat.lt_of_lt_of_le (Nat.lt_of_lt_of_le (Nat.lt_of_lt_of_le (by simp) a7.size) a8.size) a9.size) hne] at q10) | (go_at_call 32; refine (RdRaw_shut _ h10 he0).mono ?_; rintro e w11 ⟨⟨o11, c11, rfl⟩, h11, a11⟩; have m11 := rd_more a11 m10 hRw) | (go_at_call 33; refine (RdLeft_any h11).mono ?_; rintro e w12 ⟨rfl, rfl⟩) | (go_at_call 34; refine (RdEnd_shut h11 he0).mono ?_; rintro e w13 ⟨rfl, rfl⟩)
          go_roundw
          case rel => exact ⟨j + 1, by omega, by go_num, h11, m11⟩
          case measure => simp [intOf]; omega
        · skip
          go_wp2_with first | (go_at_call 27; refine (RdWrong_stay (hr.more (More.alloc wr _)) he0 _).mono ?_; rintro e w6 ⟨rfl, rfl⟩) | (go_at_call 28; refine (RdByte_shut (hr.more (More.alloc wr _)) he0).mono ?_; rintro e w7 ⟨rfl, h7, a7⟩; have m7 := rd_more a7 (hmr.al _) hRw; have q7 := blk_cell (a7.blk (blk_new wr _) hne) 2 (v := .slice ob n capb) rfl) | (go_at_call 29; refine (RdShort_shut h7 he0).mono ?_; rintro e w8 ⟨rfl, h8, a8⟩; have m8 := rd_more a8 m7 hRw; have q8 := q7; rw [← a8.cells _ 2 (Nat.lt_of_lt_of_le (by simp) a7.size) hne] at q8) | (go_at_call 30; refine (RdThree_shut h8 he0).mono ?_; rintro e w9 ⟨rfl, h9, a9⟩; have m9 := rd_more a9 m8 hRw; have q9 := q8; rw [← a9.cells _ 2 (Nat.lt_of_lt_of_le (Nat.lt_of_lt_of_le (by simp) a7.size) a8.size) hne] at q9) | (go_at_call 31; refine (RdNum_shut h9 he0).mono ?_; rintro e w10 ⟨rfl, h10, a10⟩; have m10 := rd_more a10 m9 hRw; have q10 := q9; rw [← a10.cells _ 2 (Nat.lt_of_lt_of_le (Nat.lt_of_lt_of_le (Nat.lt_of_lt_of_le (by simp) a7.size) a8.size) a9.size) hne] at q10) | (go_at_call 32; refine (RdRaw_shut _ h10 he0).mono ?_; rintro e w11 ⟨⟨o11, c11, rfl⟩, h11, a11⟩; have m11 := rd_more a11 m10 hRw) | (go_at_call 33; refine (RdLeft_any h11).mono ?_; rintro e w12 ⟨rfl, rfl⟩) | (go_at_call 34; refine (RdEnd_shut h11 he0).mono ?_; rintro e w13 ⟨rfl, rfl⟩)
          go_roundw
          case rel => exact ⟨j + 1, by omega, by go_num, h11, m11⟩
          case measure => simp [intOf]; omega
      · obtain rfl : j = l.length := by omega
        clear hel
        go_wp2_with first           | (go_at_call 34; refine (RdEnd_shut hr he0).mono ?_; rintro e w13 ⟨rfl, rfl⟩)           | (go_at_call 33; refine (RdLeft_any hr).mono ?_; rintro e w12 ⟨rfl, rfl⟩)
        go_ret
        exact ⟨rfl, hmr⟩
  · have hways : ¬ (b.length : Int) ≤ 1000 ∨ ((b.length : Int) ≤ 1000 ∧ lrg l = true) ∨ ((b.length : Int) ≤ 1000 ∧ lrg l = false ∧ e = 0) := by
      by_cases h1 : (b.length : Int) ≤ 1000 <;> cases h2 : lrg l <;> by_cases h3 : e = 0 <;> simp [h1, h2, h3] at hgo ⊢
    rcases hways with h1 | ⟨h1, h2⟩ | ⟨h1, h2, rfl⟩
    all_goals try have hb9 : ¬ (1000 : Int) < (b.length : Int) := by omega
    all_goals try have hb9 : (1000 : Int) < (b.length : Int) := by omega
    all_goals
      go_enter Try.func5, Try.ntmps5
      go_wp2_with first         | (go_at_call 24; refine (awake03 _).mono ?_; rintro e w1 ⟨rfl, hm1⟩)         | (go_at_call 25; refine (large03 _ l _ (SL.out.keep keepsThing hm1)).mono ?_; rintro e w2 ⟨rfl, hm2⟩; have hM2 := hm1.trans hm2)
      go_ret
      first | exact ⟨rfl, hM2⟩ | exact ⟨rfl, hm1⟩
end Go.Proofs.Ytaobhpaabnljpaa
