/- The reference's bits, for every argument. -/
import Derived.Test.YtlnikmcimmnbmaaBitsC
import Derived.Test.YtlnikmcimmnbmaaPlainB
namespace Go.Proofs.Ytlnikmcimmnbmaa
set_option linter.unusedSimpArgs false
set_option linter.unusedVariables false
open Go.RowKit
set_option maxRecDepth 100000

/-- The bytes of a number, of whatever size. -/
def bysA (n s : Int) : List Int := if 0 ≤ s ∧ s ≤ 8 then bys n s.toNat else []
theorem bysA_pos (n s : Int) (h : 0 ≤ s ∧ s ≤ 8) : bysA n s = bys n s.toNat := by unfold bysA; rw [if_pos h]

theorem Bytes_all (n s : Int) (hn : U64 n) (hs : I64 s) (w : World) :
    Calls Try.prog 154 #[.int .u64 n, .int .i64 s] w fun e w' => ∃ v, e = .returned v ∧ SlI .u8 w' v (bysA n s) ∧ More w w' := by
  obtain ⟨s1, s2⟩ := hs
  by_cases h : 0 ≤ s ∧ s ≤ 8
  · obtain ⟨S, rfl⟩ := Int.eq_ofNat_of_zero_le h.1
    rw [bysA_pos _ _ h, Int.toNat_natCast]
    exact Bytes_yes n S hn (by omega) w
  · have HF := Lib.hid (show bysA n s = [] by unfold bysA; rw [if_neg h])
    by_cases h1 : 0 ≤ s
    · have h2 : 8 < s := by omega
      clear h
      go_enter Try.func154, Try.ntmps154
      go_wp2
      go_ret
      exact ⟨_, rfl, by rw [HF.out]; exact SlI.nil _ _, More.refl _⟩
    · clear h
      go_enter Try.func154, Try.ntmps154
      go_wp2
      go_ret
      exact ⟨_, rfl, by rw [HF.out]; exact SlI.nil _ _, More.refl _⟩

theorem RBytes_all (n s : Int) (hn : U64 n) (hs : I64 s) (w : World) :
    Calls Try.prog 76 #[.int .u64 n, .int .i64 s] w fun e w' => ∃ v, e = .returned v ∧ SlI .u8 w' v (bysA n s) ∧ More w w' := by
  obtain ⟨s1, s2⟩ := hs
  by_cases h : 0 ≤ s ∧ s ≤ 8
  · obtain ⟨S, rfl⟩ := Int.eq_ofNat_of_zero_le h.1
    rw [bysA_pos _ _ h, Int.toNat_natCast]
    exact RBytes_yes n S hn (by omega) w
  · have HF := Lib.hid (show bysA n s = [] by unfold bysA; rw [if_neg h])
    by_cases h1 : 0 ≤ s
    · have h2 : 8 < s := by omega
      clear h
      go_enter Try.func76, Try.ntmps76
      go_wp2
      go_ret
      exact ⟨_, rfl, by rw [HF.out]; exact SlI.nil _ _, More.refl _⟩
    · clear h
      go_enter Try.func76, Try.ntmps76
      go_wp2
      go_ret
      exact ⟨_, rfl, by rw [HF.out]; exact SlI.nil _ _, More.refl _⟩

end Go.Proofs.Ytlnikmcimmnbmaa
