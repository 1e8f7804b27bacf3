/- Bytes: bits that are asked, and laid. -/
import Derived.Test.YtlnikmcimmnbmaaProbeP
import Derived.Test.YtlnikmcimmnbmaaTree
namespace Go.Proofs.Ytlnikmcimmnbmaa
set_option linter.unusedSimpArgs false
set_option linter.unusedVariables false
open Go.RowKit
set_option maxRecDepth 100000

theorem orB : ∀ m : Fin 256, ((m.val : Int) / 128 % 2 = 0 → bits .or .u8 (m.val : Int) 128 = (m.val : Int) + 128) ∧ ((m.val : Int) / 64 % 2 = 0 → bits .or .u8 (m.val : Int) 64 = (m.val : Int) + 64) ∧ ((m.val : Int) / 32 % 2 = 0 → bits .or .u8 (m.val : Int) 32 = (m.val : Int) + 32) ∧ ((m.val : Int) / 16 % 2 = 0 → bits .or .u8 (m.val : Int) 16 = (m.val : Int) + 16) := of_decide_eq_true (by kernel_rfl)
theorem orB' {x : Int} (h : 0 ≤ x ∧ x ≤ 255) : (x / 128 % 2 = 0 → bits .or .u8 x 128 = x + 128) ∧ (x / 64 % 2 = 0 → bits .or .u8 x 64 = x + 64) ∧ (x / 32 % 2 = 0 → bits .or .u8 x 32 = x + 32) ∧ (x / 16 % 2 = 0 → bits .or .u8 x 16 = x + 16) := by
  obtain ⟨m, rfl⟩ := Int.eq_ofNat_of_zero_le h.1
  exact orB ⟨m, by omega⟩
theorem andB : ∀ m : Fin 256, (bits .and .u8 (m.val : Int) 128 = if bit (m.val : Int) 128 then 128 else 0) ∧ (bits .and .u8 (m.val : Int) 64 = if bit (m.val : Int) 64 then 64 else 0) ∧ (bits .and .u8 (m.val : Int) 32 = if bit (m.val : Int) 32 then 32 else 0) ∧ (bits .and .u8 (m.val : Int) 16 = if bit (m.val : Int) 16 then 16 else 0) ∧ bits .and .u8 (m.val : Int) 7 = (m.val : Int) % 8 ∧ ((bits .and .u8 (m.val : Int) 48 != 0) = (bit (m.val : Int) 32 || bit (m.val : Int) 16)) := of_decide_eq_true (by kernel_rfl)
theorem andB' {x : Int} (h : 0 ≤ x ∧ x ≤ 255) : (bits .and .u8 x 128 = if bit x 128 then 128 else 0) ∧ (bits .and .u8 x 64 = if bit x 64 then 64 else 0) ∧ (bits .and .u8 x 32 = if bit x 32 then 32 else 0) ∧ (bits .and .u8 x 16 = if bit x 16 then 16 else 0) ∧ bits .and .u8 x 7 = x % 8 ∧ ((bits .and .u8 x 48 != 0) = (bit x 32 || bit x 16)) := by
  obtain ⟨m, rfl⟩ := Int.eq_ofNat_of_zero_le h.1
  exact andB ⟨m, by omega⟩
theorem andB2 : ∀ m : Fin 256, ((bits .and .u8 (m.val : Int) 128 != 0) = bit (m.val : Int) 128) ∧ ((bits .and .u8 (m.val : Int) 64 != 0) = bit (m.val : Int) 64) ∧ ((bits .and .u8 (m.val : Int) 32 != 0) = bit (m.val : Int) 32) ∧ ((bits .and .u8 (m.val : Int) 16 != 0) = bit (m.val : Int) 16) := of_decide_eq_true (by kernel_rfl)
theorem andB2' {x : Int} (h : 0 ≤ x ∧ x ≤ 255) : ((bits .and .u8 x 128 != 0) = bit x 128) ∧ ((bits .and .u8 x 64 != 0) = bit x 64) ∧ ((bits .and .u8 x 32 != 0) = bit x 32) ∧ ((bits .and .u8 x 16 != 0) = bit x 16) := by
  obtain ⟨m, rfl⟩ := Int.eq_ofNat_of_zero_le h.1
  exact andB2 ⟨m, by omega⟩
end Go.Proofs.Ytlnikmcimmnbmaa
