/- Contracts of package bits and of the reference manifoldref01. -/
import Derived.Test.YtlnikmcimmnbmaaRows
import Derived.Test.YtlnikmcimmnbmaaSliceA
import Derived.WalkKit
import Derived.Deep.QuietTactic
import Derived.BigQuiet
namespace Go.Proofs.Ytlnikmcimmnbmaa
set_option linter.unusedSimpArgs false
set_option linter.unusedVariables false
open Go.RowKit

theorem mayBe_yes (a s : Int) (h : May a s) (w : World) :
    Calls Try.prog 142 #[.int .i64 a, .int .i64 s] w fun e w' => e = .returned (.bool true) ∧ w' = w := by
  obtain ⟨h1, h2, h3, h4⟩ := h
  go_enter Try.func142, Try.ntmps142
  go_wp2
  go_ret
  exact ⟨rfl, rfl⟩


theorem mayBe_no (a s : Int) (ha : I64 a) (hs : I64 s) (h : ¬ May a s) (w : World) :
    Calls Try.prog 142 #[.int .i64 a, .int .i64 s] w fun e w' => e = .returned (.bool false) ∧ w' = w := by
  obtain ⟨ha1, ha2⟩ := ha
  obtain ⟨hs1, hs2⟩ := hs
  have H := Lib.hid h
  clear h
  go_enter Try.func142, Try.ntmps142
  go_wp2
  all_goals
    go_ret
    have h := H.out
    unfold May at h
    exact ⟨ret_bool (by first | rfl | (simp; omega)), rfl⟩

theorem ones_any (s : Int) (h1 : 0 ≤ s) (h2 : s ≤ 64) (w : World) :
    Calls Try.prog 143 #[.int .i64 s] w fun e w' => e = .returned (.int .u64 (two s - 1)) ∧ w' = w := by
  go_enter Try.func143, Try.ntmps143
  go_wp2
  go_ret
  exact ⟨ret_int (ones_eq s h1 h2), rfl⟩

theorem Field_yes (n : Int) (a s : Int) (hn : U64 n) (h : May a s) (w : World) :
    Calls Try.prog 104 #[.int .u64 n, .int .i64 a, .int .i64 s] w fun e w' => e = .returned (.int .u64 (fld n a s)) ∧ ∃ k, w' = w.drewN k := by
  have hm := mayBe_yes a s h
  have hf := fld_and n a s hn h
  obtain ⟨h1, h2, h3, h4⟩ := h
  obtain ⟨n1, n2⟩ := hn
  have HF := Lib.hid hf
  clear hf
  go_enter Try.func104, Try.ntmps104
  go_wp2_with (go_at_call 142; refine (hm _).mono ?_; rintro e w' ⟨rfl, rfl⟩)
  go_quiet ((go_at_call 143; exact Calls.quiet_of_same (ones_any s (by omega) (by omega) _)))
  go_wp2
  go_ret
  exact ⟨ret_int HF.out, _, rfl⟩

theorem Field_no (n : Int) (a s : Int) (ha : I64 a) (hs : I64 s) (h : ¬ May a s) (w : World) :
    Calls Try.prog 104 #[.int .u64 n, .int .i64 a, .int .i64 s] w fun e w' => e = .returned (.int .u64 (fld n a s)) ∧ ∃ k, w' = w.drewN k := by
  have hm := mayBe_no a s ha hs h
  have HF := Lib.hid (show 0 = fld n a s by unfold fld; rw [if_neg h])
  clear h
  go_enter Try.func104, Try.ntmps104
  go_wp2_with (go_at_call 142; refine (hm _).mono ?_; rintro e w' ⟨rfl, rfl⟩)
  go_ret
  exact ⟨ret_int HF.out, 0, rfl⟩

theorem Field_any (n : Int) (a s : Int) (hn : U64 n) (ha : I64 a) (hs : I64 s) (w : World) :
    Calls Try.prog 104 #[.int .u64 n, .int .i64 a, .int .i64 s] w fun e w' => e = .returned (.int .u64 (fld n a s)) ∧ ∃ k, w' = w.drewN k := by
  by_cases h : May a s
  · exact Field_yes n a s hn h w
  · exact Field_no n a s ha hs h w

theorem Lay_yes (n v : Int) (a s : Int) (hn : U64 n) (hv : U64 v) (h : May a s) (w : World) :
    Calls Try.prog 157 #[.int .u64 n, .int .i64 a, .int .i64 s, .int .u64 v] w fun e w' => e = .returned (.int .u64 (lay n a s v)) ∧ ∃ k, w' = w.drewN k := by
  have hm := mayBe_yes a s h
  have hf := lay_bits n a s v hn hv h
  obtain ⟨h1, h2, h3, h4⟩ := h
  obtain ⟨n1, n2⟩ := hn
  have HF := Lib.hid hf
  clear hf
  go_enter Try.func157, Try.ntmps157
  go_wp2_with (first | (go_at_call 142; refine (hm _).mono ?_; rintro e w' ⟨rfl, rfl⟩) | (go_at_call 143; refine (ones_any _ (by omega) (by omega) _).mono ?_; rintro e w' ⟨rfl, rfl⟩))
  go_ret
  exact ⟨ret_int HF.out, 0, rfl⟩

theorem Lay_no (n v : Int) (a s : Int) (ha : I64 a) (hs : I64 s) (h : ¬ May a s) (w : World) :
    Calls Try.prog 157 #[.int .u64 n, .int .i64 a, .int .i64 s, .int .u64 v] w fun e w' => e = .returned (.int .u64 (lay n a s v)) ∧ ∃ k, w' = w.drewN k := by
  have hm := mayBe_no a s ha hs h
  have HF := Lib.hid (show n = lay n a s v by unfold lay; rw [if_neg h])
  clear h
  go_enter Try.func157, Try.ntmps157
  go_wp2_with (go_at_call 142; refine (hm _).mono ?_; rintro e w' ⟨rfl, rfl⟩)
  go_ret
  exact ⟨ret_int HF.out, 0, rfl⟩

theorem Lay_any (n v : Int) (a s : Int) (hn : U64 n) (hv : U64 v) (ha : I64 a) (hs : I64 s) (w : World) :
    Calls Try.prog 157 #[.int .u64 n, .int .i64 a, .int .i64 s, .int .u64 v] w fun e w' => e = .returned (.int .u64 (lay n a s v)) ∧ ∃ k, w' = w.drewN k := by
  by_cases h : May a s
  · exact Lay_yes n v a s hn hv h w
  · exact Lay_no n v a s ha hs h w

theorem Signed_any (n s : Int) (hn : U64 n) (hs : I64 s) (w : World) :
    Calls Try.prog 136 #[.int .u64 n, .int .i64 s] w fun e w' => e = .returned (.int .i64 (sgd n s)) ∧ w' = w := by
  obtain ⟨n1, n2⟩ := hn
  obtain ⟨s1, s2⟩ := hs
  by_cases h1 : 1 ≤ s
  · by_cases h2 : s ≤ 64
    · have HF := Lib.hid (sgd_bits n s h1 h2)
      go_enter Try.func136, Try.ntmps136
      go_wp2
      go_ret
      exact ⟨ret_int HF.out, rfl⟩
    · have HF := Lib.hid (show 0 = sgd n s by unfold sgd; rw [if_pos (by omega)])
      go_enter Try.func136, Try.ntmps136
      go_wp2
      go_ret
      exact ⟨ret_int HF.out, rfl⟩
  · have HF := Lib.hid (show 0 = sgd n s by unfold sgd; rw [if_pos (by omega)])
    go_enter Try.func136, Try.ntmps136
    go_wp2
    go_ret
    exact ⟨ret_int HF.out, rfl⟩
end Go.Proofs.Ytlnikmcimmnbmaa
