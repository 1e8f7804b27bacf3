/- The reference's bits, for every argument. -/
import Derived.Test.YtiifoobkmojdcaaBitsC
import Derived.Test.YtiifoobkmojdcaaPlainB
namespace Go.Proofs.Ytiifoobkmojdcaa
open Go.RowKit
set_option maxRecDepth 100000

theorem RField_any (n a s : Int) (hn : U64 n) (ha : I64 a) (hs : I64 s) (w : World) :
    Calls Try.prog 26 #[.int .u64 n, .int .i64 a, .int .i64 s] w fun e w' => e = .returned (.int .u64 (fld n a s)) ∧ ∃ k, w' = w.drewN k := by
  by_cases h : May a s
  · rw [fld_sum n a s hn h]; exact (RField_yes n a s hn h w).mono fun e w' ⟨h1, h2⟩ => ⟨h1, 0, h2⟩
  · have hm := May_no a s ha hs h
    have HF := Lib.hid (show 0 = fld n a s by unfold fld; rw [if_neg h])
    clear h
    go_enter Try.func26, Try.ntmps26
    go_wp2_with (go_at_call 36; refine (hm _).mono ?_; rintro e w1 ⟨rfl, rfl⟩)
    go_ret
    exact ⟨ret_int HF.out, 0, rfl⟩

theorem RLay_any (n v a s : Int) (hn : U64 n) (hv : U64 v) (ha : I64 a) (hs : I64 s) (w : World) :
    Calls Try.prog 28 #[.int .u64 n, .int .i64 a, .int .i64 s, .int .u64 v] w fun e w' => e = .returned (.int .u64 (lay n a s v)) ∧ w' = w := by
  by_cases h : May a s
  · exact RLay_yes n v a s hn hv h w
  · have hm := May_no a s ha hs h
    have HF := Lib.hid (show n = lay n a s v by unfold lay; rw [if_neg h])
    clear h
    go_enter Try.func28, Try.ntmps28
    go_wp2_with (go_at_call 36; refine (hm _).mono ?_; rintro e w1 ⟨rfl, rfl⟩)
    go_ret
    exact ⟨ret_int HF.out, rfl⟩

theorem RSigned_any (n s : Int) (hn : U64 n) (hs : I64 s) (w : World) :
    Calls Try.prog 30 #[.int .u64 n, .int .i64 s] w fun e w' => e = .returned (.int .i64 (sgd n s)) ∧ ∃ k, w' = w.drewN k := by
  obtain ⟨s1, s2⟩ := hs
  by_cases h1 : 1 ≤ s
  · by_cases h2 : s ≤ 64
    · exact RSigned_yes n s hn h1 h2 w
    · have HF := Lib.hid (show 0 = sgd n s by unfold sgd; rw [if_pos (by omega)])
      go_enter Try.func30, Try.ntmps30
      go_wp2
      go_ret
      exact ⟨ret_int HF.out, 0, rfl⟩
  · have HF := Lib.hid (show 0 = sgd n s by unfold sgd; rw [if_pos (by omega)])
    go_enter Try.func30, Try.ntmps30
    go_wp2
    go_ret
    exact ⟨ret_int HF.out, 0, rfl⟩

/-- The bytes of a number, of whatever size. -/
def bysA (n s : Int) : List Int := if 0 ≤ s ∧ s ≤ 8 then bys n s.toNat else []
theorem bysA_pos (n s : Int) (h : 0 ≤ s ∧ s ≤ 8) : bysA n s = bys n s.toNat := by unfold bysA; rw [if_pos h]

theorem Bytes_all (n s : Int) (hn : U64 n) (hs : I64 s) (w : World) :
    Calls Try.prog 34 #[.int .u64 n, .int .i64 s] w fun e w' => ∃ v, e = .returned v ∧ SlI .u8 w' v (bysA n s) ∧ More w w' := by
  obtain ⟨s1, s2⟩ := hs
  by_cases h : 0 ≤ s ∧ s ≤ 8
  · obtain ⟨S, rfl⟩ := Int.eq_ofNat_of_zero_le h.1
    rw [bysA_pos _ _ h, Int.toNat_natCast]
    exact Bytes_yes n S hn (by omega) w
  · have HF := Lib.hid (show bysA n s = [] by unfold bysA; rw [if_neg h])
    by_cases h1 : 0 ≤ s
    · have h2 : 8 < s := by omega
      clear h
      go_enter Try.func34, Try.ntmps34
      go_wp2
      go_ret
      exact ⟨_, rfl, by rw [HF.out]; exact SlI.nil _ _, More.refl _⟩
    · clear h
      go_enter Try.func34, Try.ntmps34
      go_wp2
      go_ret
      exact ⟨_, rfl, by rw [HF.out]; exact SlI.nil _ _, More.refl _⟩

theorem RBytes_all (n s : Int) (hn : U64 n) (hs : I64 s) (w : World) :
    Calls Try.prog 35 #[.int .u64 n, .int .i64 s] w fun e w' => ∃ v, e = .returned v ∧ SlI .u8 w' v (bysA n s) ∧ More w w' := by
  obtain ⟨s1, s2⟩ := hs
  by_cases h : 0 ≤ s ∧ s ≤ 8
  · obtain ⟨S, rfl⟩ := Int.eq_ofNat_of_zero_le h.1
    rw [bysA_pos _ _ h, Int.toNat_natCast]
    exact RBytes_yes n S hn (by omega) w
  · have HF := Lib.hid (show bysA n s = [] by unfold bysA; rw [if_neg h])
    by_cases h1 : 0 ≤ s
    · have h2 : 8 < s := by omega
      clear h
      go_enter Try.func35, Try.ntmps35
      go_wp2
      go_ret
      exact ⟨_, rfl, by rw [HF.out]; exact SlI.nil _ _, More.refl _⟩
    · clear h
      go_enter Try.func35, Try.ntmps35
      go_wp2
      go_ret
      exact ⟨_, rfl, by rw [HF.out]; exact SlI.nil _ _, More.refl _⟩

end Go.Proofs.Ytiifoobkmojdcaa
