/- Equality of windows. -/
import Derived.Test.YtlnikmcimmnbmaaRows
import Derived.WalkKit
import Derived.KernelRfl
namespace Go.Proofs.Ytlnikmcimmnbmaa
set_option linter.unusedSimpArgs false
set_option linter.unusedVariables false
open Go.RowKit

theorem win_eq (a b c d : Int) (w : World) :
    (binOp .eql 189 (.agg #[.int .i64 a, .int .u64 b]) (.agg #[.int .i64 c, .int .u64 d])).run Try.prog w = .ok (.bool (a == c && b == d)) w := by
  have h1 : Try.prog.stoodInHeld 189 = false := by kernel_rfl
  rw [run_eql_struct, run_equalIn_agg w 9999 189 _ _ (by kernel_rfl) h1]
  simp [go_sem]
  by_cases h2 : a = c <;> by_cases h3 : b = d <;> simp [h2, h3]
theorem win_guard : Try.prog.eqGuardType Try.prog.depth 189 = false := by kernel_rfl
end Go.Proofs.Ytlnikmcimmnbmaa
