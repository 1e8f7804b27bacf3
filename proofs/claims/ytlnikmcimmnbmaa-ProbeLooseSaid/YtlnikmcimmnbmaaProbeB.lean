/- Descriptions: contracts of flags, last. -/
import Derived.Test.YtlnikmcimmnbmaaProbeQ
import Derived.Test.YtlnikmcimmnbmaaByteF
namespace Go.Proofs.Ytlnikmcimmnbmaa
set_option linter.unusedSimpArgs false
set_option linter.unusedVariables false
open Go.RowKit
set_option maxRecDepth 100000

/-- What is told by the first so many numbers. -/
def toldK (d : Ds) : Nat → Int
  | 0 => 0
  | 1 => b1 (decide (d.pic ≠ -1)) 128
  | 2 => b1 (decide (d.pic ≠ -1)) 128 + b1 (decide (d.bs ≠ -1)) 64
  | 3 => b1 (decide (d.pic ≠ -1)) 128 + b1 (decide (d.bs ≠ -1)) 64 + b1 (decide (d.tr ≠ -1)) 32
  | _ => toldD d
theorem b1_cases (b : Bool) (n : Int) : b1 b n = 0 ∨ b1 b n = n := by cases b <;> simp [b1]
set_option maxHeartbeats 2000000 in
theorem Flags_any (d : Ds) (w : World) :
    Calls Try.prog 98 #[.agg #[.bool d.lo, .bool d.st, .int .u8 d.pt, .int .i64 d.pic, .bool d.wd, .int .i64 d.bs, .int .i64 d.tr, .bool d.sy, .int .i64 d.ky]] w fun e w' => e = .returned (.int .u8 (toldD d)) ∧ More w w' := by
  have hk : ∀ k, k < 4 → 0 ≤ toldK d k ∧ toldK d k ≤ 255 := fun k hk => by
    have h1 := b1_cases (decide (d.pic ≠ -1)) 128
    have h2 := b1_cases (decide (d.bs ≠ -1)) 64
    have h3 := b1_cases (decide (d.tr ≠ -1)) 32
    have : k = 0 ∨ k = 1 ∨ k = 2 ∨ k = 3 := by omega
    rcases this with rfl | rfl | rfl | rfl <;> simp only [toldK] <;> omega
  have h1 := b1_cases (decide (d.pic ≠ -1)) 128
  have h2 := b1_cases (decide (d.bs ≠ -1)) 64
  have h3 := b1_cases (decide (d.tr ≠ -1)) 32
  have o0 : bits .or .u8 (toldK d 0) 128 = toldK d 0 + 128 := (orB' (hk 0 (by decide))).1 (by simp [toldK])
  have o1 : bits .or .u8 (toldK d 1) 64 = toldK d 1 + 64 := (orB' (hk 1 (by decide))).2.1 (by simp only [toldK]; omega)
  have o2 : bits .or .u8 (toldK d 2) 32 = toldK d 2 + 32 := (orB' (hk 2 (by decide))).2.2.1 (by simp only [toldK]; omega)
  have o3 : bits .or .u8 (toldK d 3) 16 = toldK d 3 + 16 := (orB' (hk 3 (by decide))).2.2.2 (by simp only [toldK]; omega)
  have y0 : d.pic ≠ -1 → toldK d 0 + 128 = toldK d 1 := fun h => by simp [toldK, b1, h]
  have y1 : d.bs ≠ -1 → toldK d 1 + 64 = toldK d 2 := fun h => by simp [toldK, b1, h]
  have y2 : d.tr ≠ -1 → toldK d 2 + 32 = toldK d 3 := fun h => by simp [toldK, b1, h]
  have y3 : d.ky ≠ -1 → toldK d 3 + 16 = toldK d 4 := fun h => by simp [toldK, toldD, b1, h]
  have n0 : d.pic = -1 → toldK d 0 = toldK d 1 := fun h => by simp [toldK, b1, h]
  have n1 : d.bs = -1 → toldK d 1 = toldK d 2 := fun h => by simp [toldK, b1, h]
  have n2 : d.tr = -1 → toldK d 2 = toldK d 3 := fun h => by simp [toldK, b1, h]
  have n3 : d.ky = -1 → toldK d 3 = toldK d 4 := fun h => by simp [toldK, toldD, b1, h]
  have e4 : toldD d = toldK d 4 := rfl
  rw [e4]
  have z0 : toldK d 0 = 0 := rfl
  have O0 := Lib.hid o0
  have O1 := Lib.hid o1
  have O2 := Lib.hid o2
  have O3 := Lib.hid o3
  have Y0 := Lib.hid y0
  have Y1 := Lib.hid y1
  have Y2 := Lib.hid y2
  have Y3 := Lib.hid y3
  have N0 := Lib.hid n0
  have N1 := Lib.hid n1
  have N2 := Lib.hid n2
  have N3 := Lib.hid n3
  have Z0 := Lib.hid z0
  clear hk h1 h2 h3 o0 o1 o2 o3 y0 y1 y2 y3 n0 n1 n2 n3 e4 z0
  generalize toldK d 0 = T0 at *
  generalize toldK d 1 = T1 at *
  generalize toldK d 2 = T2 at *
  generalize toldK d 3 = T3 at *
  generalize toldK d 4 = T4 at *
  obtain ⟨lo, st, pt, pic, wd, bs, tr, sy, ky⟩ := d
  simp only at Y0 Y1 Y2 Y3 N0 N1 N2 N3 ⊢
  go_enter Try.func98, Try.ntmps98
  go_wp2_with fail
  go_loopw [3, 20] (fun s3 i wr => ∃ k : Nat, k ≤ 4 ∧ i = .int .i64 k ∧ s3 = .int .u8 ([T0, T1, T2, T3, T4].getD k 0) ∧ wr.heap[w.heap.size + 1]? = some (.cells #[.int .i64 pic, .int .u8 128, .int .i64 bs, .int .u8 64, .int .i64 tr, .int .u8 32, .int .i64 ky, .int .u8 16] 222 (0, 0)) ∧ More w wr) (fun _ i _ => 4 - (intOf i).toNat)
  case atStart => exact ⟨0, by omega, rfl, by rw [← Z0.out]; rfl, blk_new2 (by simp), (More.alloc _ _).al _⟩
  case round =>
    obtain ⟨k, hk, rfl, rfl, hb, hm⟩ := hrel
    have HB := Lib.hid hb
    have HM := Lib.hid hm
    have f0 := blk_cell hb 0 (v := .int .i64 pic) rfl
    have f1 := blk_cell hb 1 (v := .int .u8 128) rfl
    have f2 := blk_cell hb 2 (v := .int .i64 bs) rfl
    have f3 := blk_cell hb 3 (v := .int .u8 64) rfl
    have f4 := blk_cell hb 4 (v := .int .i64 tr) rfl
    have f5 := blk_cell hb 5 (v := .int .u8 32) rfl
    have f6 := blk_cell hb 6 (v := .int .i64 ky) rfl
    have f7 := blk_cell hb 7 (v := .int .u8 16) rfl
    clear hb hm
    have hways : k = 0 ∨ k = 1 ∨ k = 2 ∨ k = 3 ∨ k = 4 := by omega
    rcases hways with rfl | rfl | rfl | rfl | rfl
    · by_cases hn : pic = -1
      · skip
        have hq : (pic != -1) = false := by simpa using hn
        have HX := Lib.hid (N0.out hn)
        have hor := O0.out
        clear hn
        go_wp2
        go_roundw
        case rel => exact ⟨1, by omega, rfl, by rw [HX.out]; rfl, blk_alloc HB.out _, HM.out.al _⟩
        case measure => simp [intOf]
      · skip
        have hq : (pic != -1) = true := by simpa using hn
        have HX := Lib.hid (Y0.out hn)
        have hor := O0.out
        clear hn
        go_wp2
        go_roundw
        case rel => exact ⟨1, by omega, rfl, by rw [HX.out]; rfl, blk_alloc HB.out _, HM.out.al _⟩
        case measure => simp [intOf]
    · by_cases hn : bs = -1
      · skip
        have hq : (bs != -1) = false := by simpa using hn
        have HX := Lib.hid (N1.out hn)
        have hor := O1.out
        clear hn
        go_wp2
        go_roundw
        case rel => exact ⟨2, by omega, rfl, by rw [HX.out]; rfl, blk_alloc HB.out _, HM.out.al _⟩
        case measure => simp [intOf]
      · skip
        have hq : (bs != -1) = true := by simpa using hn
        have HX := Lib.hid (Y1.out hn)
        have hor := O1.out
        clear hn
        go_wp2
        go_roundw
        case rel => exact ⟨2, by omega, rfl, by rw [HX.out]; rfl, blk_alloc HB.out _, HM.out.al _⟩
        case measure => simp [intOf]
    · by_cases hn : tr = -1
      · skip
        have hq : (tr != -1) = false := by simpa using hn
        have HX := Lib.hid (N2.out hn)
        have hor := O2.out
        clear hn
        go_wp2
        go_roundw
        case rel => exact ⟨3, by omega, rfl, by rw [HX.out]; rfl, blk_alloc HB.out _, HM.out.al _⟩
        case measure => simp [intOf]
      · skip
        have hq : (tr != -1) = true := by simpa using hn
        have HX := Lib.hid (Y2.out hn)
        have hor := O2.out
        clear hn
        go_wp2
        go_roundw
        case rel => exact ⟨3, by omega, rfl, by rw [HX.out]; rfl, blk_alloc HB.out _, HM.out.al _⟩
        case measure => simp [intOf]
    · by_cases hn : ky = -1
      · skip
        have hq : (ky != -1) = false := by simpa using hn
        have HX := Lib.hid (N3.out hn)
        have hor := O3.out
        clear hn
        go_wp2
        go_roundw
        case rel => exact ⟨4, by omega, rfl, by rw [HX.out]; rfl, blk_alloc HB.out _, HM.out.al _⟩
        case measure => simp [intOf]
      · skip
        have hq : (ky != -1) = true := by simpa using hn
        have HX := Lib.hid (Y3.out hn)
        have hor := O3.out
        clear hn
        go_wp2
        go_roundw
        case rel => exact ⟨4, by omega, rfl, by rw [HX.out]; rfl, blk_alloc HB.out _, HM.out.al _⟩
        case measure => simp [intOf]
    · go_wp2
      go_ret
      exact ⟨rfl, HM.out⟩
set_option maxHeartbeats 1000000 in
theorem Last_any (d : Ds) (w : World) (ht : -1 ≤ d.tr ∧ d.tr ≤ 3) (hk : -1 ≤ d.ky ∧ d.ky ≤ 31) :
    Calls Try.prog 99 #[.agg #[.bool d.lo, .bool d.st, .int .u8 d.pt, .int .i64 d.pic, .bool d.wd, .int .i64 d.bs, .int .i64 d.tr, .bool d.sy, .int .i64 d.ky]] w fun e w' => e = .returned (.int .u8 (lastD d)) ∧ More w w' := by
  have h0 : 0 ≤ max 0 d.tr ∧ max 0 d.tr ≤ 3 := by omega
  have h1 : 0 ≤ max 0 d.ky ∧ max 0 d.ky ≤ 31 := by omega
  have hd : lastD d = 64 * max 0 d.tr + max 0 d.ky + b1 d.sy 32 := rfl
  rw [hd]
  obtain ⟨lo, st, pt, pic, wd, bs, tr, sy, ky⟩ := d
  simp only at *
  obtain ⟨ht1, ht2⟩ := ht
  obtain ⟨hk1, hk2⟩ := hk
  clear hd h0 h1
  cases sy with
  | false =>
    go_enter Try.func99, Try.ntmps99
    go_wp2
    all_goals
      go_ret
      exact ⟨ret_int (by simp only [b1, if_true, Bool.false_eq_true, if_false]; omega), More.alloc _ _⟩
  | true =>
    go_enter Try.func99, Try.ntmps99
    go_wp2
    all_goals
      go_ret
      exact ⟨ret_int (by simp only [b1, if_true, Bool.false_eq_true, if_false]; omega), More.alloc _ _⟩
end Go.Proofs.Ytlnikmcimmnbmaa
