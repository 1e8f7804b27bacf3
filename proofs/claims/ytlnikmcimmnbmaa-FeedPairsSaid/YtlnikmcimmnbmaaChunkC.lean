/- Chunks: one is read. -/
import Derived.Test.YtlnikmcimmnbmaaChunkB
namespace Go.Proofs.Ytlnikmcimmnbmaa
set_option linter.unusedSimpArgs false
set_option linter.unusedVariables false
open Go.RowKit
set_option maxRecDepth 100000

/-- Bytes without those behind them. -/
def unpadC (b : List Int) : List Int × Bool :=
  if b = [] then ([], false) else
    let n := b.getD (b.length - 1) 0
    if n = 0 ∨ ¬ n % 4 = 0 ∨ (b.length : Int) < n then ([], false) else (b.take (b.length - n.toNat), true)
theorem Unpad_any {w : World} {v : Value} {b : List Int} (hs : SlI .u8 w v b) (hb : Byt b) :
    Calls Try.prog 159 #[v] w fun e w' => (∃ v', e = .returned (.tuple #[v', .bool (unpadC b).2]) ∧ SlI .u8 w v' (unpadC b).1 ∧ ∀ g, v'.ownBlock = some g → v.ownBlock = some g) ∧ w' = w := by
  have HS := Lib.hid hs
  obtain ⟨oa, cap, rfl, h1, h2, h3, h4, h5⟩ := hs
  by_cases hn : b = []
  · subst hn
    have hu : unpadC [] = ([], false) := rfl
    have HU := Lib.hid hu
    clear hu HS h5
    go_enter Try.func159, Try.ntmps159
    go_wp2
    refine bodyPost_ret (v := .tuple #[.slice none 0 0, .bool false]) (by simp [results, Try.results159, go_sem]) rfl ?_
    exact ⟨⟨_, rfl, SlI.nil _ _, fun g h => by cases h⟩, rfl⟩
  · have hl0 : 0 < b.length := List.length_pos_iff.2 hn
    obtain ⟨bk, off, rfl, hlt, hc⟩ := h2 (b.length - 1) (by omega)
    have hbd := hb (b.length - 1)
    have hidx : ((b.length : Int) - 1) = ((b.length - 1 : Nat) : Int) := by omega
    have hii : (0 : Int) ≤ (b.length : Int) - 1 := by omega
    have hil : (b.length : Int) - 1 < (b.length : Int) := by omega
    have hz : ¬ (b.length : Int) = 0 := by omega
    have hcap : (b.length : Int) ≤ (cap : Int) := by omega
    have htn : ((b.length : Int) - 1).toNat = b.length - 1 := by omega
    have hU : ∀ n, b.getD (b.length - 1) 0 = n → unpadC b = if n = 0 ∨ ¬ n % 4 = 0 ∨ (b.length : Int) < n then ([], false) else (b.take (b.length - n.toNat), true) := fun n e => by
      unfold unpadC; rw [if_neg hn]; simp only [e]
    have HU := Lib.hid (hU _ rfl)
    have HN := Lib.hid hn
    clear hU h2 hb h5 hn
    generalize b.getD (b.length - 1) 0 = n at *
    obtain ⟨hn0, hn1⟩ := hbd
    have htm : n.tmod 4 = n % 4 := Int.tmod_eq_emod_of_nonneg hn0
    have hways : n = 0 ∨ (¬ n = 0 ∧ ¬ n % 4 = 0) ∨ (¬ n = 0 ∧ n % 4 = 0 ∧ (b.length : Int) < n) ∨ (¬ n = 0 ∧ n % 4 = 0 ∧ ¬ (b.length : Int) < n) := by omega
    rcases hways with h | ⟨h, h'⟩ | ⟨h, h', h''⟩ | ⟨h, h', h''⟩
    · have hu : unpadC b = ([], false) := by rw [HU.out, if_pos (Or.inl h)]
      clear HU
      have HU := Lib.hid hu
      clear hu
      subst h
      go_enter Try.func159, Try.ntmps159
      go_wp2
      refine bodyPost_ret (v := .tuple #[.slice none 0 0, .bool false]) (by simp [results, Try.results159, go_sem]) rfl ?_
      exact ⟨⟨.slice none 0 0, by rw [HU.out], by rw [HU.out]; exact SlI.nil _ _, fun g h => by cases h⟩, rfl⟩
    · have hu : unpadC b = ([], false) := by rw [HU.out, if_pos (Or.inr (Or.inl h'))]
      clear HU
      have HU := Lib.hid hu
      clear hu
      go_enter Try.func159, Try.ntmps159
      go_wp2
      refine bodyPost_ret (v := .tuple #[.slice none 0 0, .bool false]) (by simp [results, Try.results159, go_sem]) rfl ?_
      exact ⟨⟨.slice none 0 0, by rw [HU.out], by rw [HU.out]; exact SlI.nil _ _, fun g h => by cases h⟩, rfl⟩
    · have hu : unpadC b = ([], false) := by rw [HU.out, if_pos (Or.inr (Or.inr h''))]
      clear HU
      have HU := Lib.hid hu
      clear hu
      go_enter Try.func159, Try.ntmps159
      go_wp2
      refine bodyPost_ret (v := .tuple #[.slice none 0 0, .bool false]) (by simp [results, Try.results159, go_sem]) rfl ?_
      exact ⟨⟨.slice none 0 0, by rw [HU.out], by rw [HU.out]; exact SlI.nil _ _, fun g h => by cases h⟩, rfl⟩
    · have hu : unpadC b = (b.take (b.length - n.toNat), true) := by rw [HU.out, if_neg (by omega)]
      clear HU
      have HU := Lib.hid hu
      clear hu
      obtain ⟨m, rfl⟩ : ∃ m : Nat, n = m := ⟨n.toNat, by omega⟩
      have hs1 : (0 : Int) ≤ (b.length : Int) - (m : Int) := by omega
      have hs2 : (b.length : Int) - (m : Int) ≤ (cap : Int) := by omega
      have hs3 : ((b.length : Int) - (m : Int)).toNat = b.length - m := by omega
      go_enter Try.func159, Try.ntmps159
      go_wp2
      refine bodyPost_ret (v := .tuple #[.slice (some ⟨bk, off, none⟩) (b.length - m) cap, .bool true]) (by simp [results, Try.results159, go_sem]) rfl ?_
      exact ⟨⟨.slice (some ⟨bk, off, none⟩) (b.length - m) cap, by rw [HU.out], by rw [HU.out]; exact HS.out.take _ (by omega), fun g h => h⟩, rfl⟩
end Go.Proofs.Ytlnikmcimmnbmaa
