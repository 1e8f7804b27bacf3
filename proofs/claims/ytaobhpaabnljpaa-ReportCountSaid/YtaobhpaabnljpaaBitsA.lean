/- Contracts of package bits and of the reference manifoldref01. -/
import Derived.Test.YtaobhpaabnljpaaRows
import Derived.Test.YtaobhpaabnljpaaSliceA
import Derived.WalkKit
import Derived.Deep.QuietTactic
import Derived.BigQuiet
namespace Go.Proofs.Ytaobhpaabnljpaa
open Go.RowKit

theorem Signed_any (n s : Int) (hn : U64 n) (hs : I64 s) (w : World) :
    Calls Try.prog 96 #[.int .u64 n, .int .i64 s] w fun e w' => e = .returned (.int .i64 (sgd n s)) ∧ w' = w := by
  obtain ⟨n1, n2⟩ := hn
  obtain ⟨s1, s2⟩ := hs
  by_cases h1 : 1 ≤ s
  · by_cases h2 : s ≤ 64
    · have HF := Lib.hid (sgd_bits n s h1 h2)
      go_enter Try.func96, Try.ntmps96
      go_wp2
      go_ret
      exact ⟨ret_int HF.out, rfl⟩
    · have HF := Lib.hid (show 0 = sgd n s by unfold sgd; rw [if_pos (by omega)])
      go_enter Try.func96, Try.ntmps96
      go_wp2
      go_ret
      exact ⟨ret_int HF.out, rfl⟩
  · have HF := Lib.hid (show 0 = sgd n s by unfold sgd; rw [if_pos (by omega)])
    go_enter Try.func96, Try.ntmps96
    go_wp2
    go_ret
    exact ⟨ret_int HF.out, rfl⟩
end Go.Proofs.Ytaobhpaabnljpaa
