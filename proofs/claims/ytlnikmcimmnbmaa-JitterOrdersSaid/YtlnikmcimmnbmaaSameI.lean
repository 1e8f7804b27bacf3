/- Two slices of int, compared (manifoldref12). -/
import Derived.Test.YtlnikmcimmnbmaaSliceB
import Derived.Test.YtlnikmcimmnbmaaBitsB
namespace Go.Proofs.Ytlnikmcimmnbmaa
set_option linter.unusedSimpArgs false
set_option linter.unusedVariables false
open Go.RowKit

theorem SameI_any (la lb : List Int) (va vb : Value) (w : World) (ha : SlI .i64 w va la) (hb : SlI .i64 w vb lb) :
    Calls Try.prog 114 #[va, vb] w fun e w' => e = .returned (.bool (decide (la = lb))) ∧ ∃ k, w' = w.drewN k := by
  obtain ⟨oa, capa, rfl, hla, hca, _, _, _⟩ := ha
  obtain ⟨ob, capb, rfl, hlb, hcb, _, _, _⟩ := hb
  by_cases hne : la.length = lb.length
  · have e1 : ((la.length : Int) != (lb.length : Int)) = false := by simp [hne]
    have HA := Lib.hid hca
    have HB := Lib.hid hcb
    have HE := Lib.hid hne
    clear hca hcb
    have hle : lb.length ≤ la.length := by omega
    have hge : la.length ≤ lb.length := by omega
    clear hne
    go_enter Try.func114, Try.ntmps114
    go_wp2
    go_loopw [5] (fun i wr => ∃ j k : Nat, j ≤ la.length ∧ i = .int .i64 j ∧ la.take j = lb.take j ∧ wr = w.drewN k) (fun i _ => la.length - (intOf i).toNat)
    case atStart => exact ⟨0, 0, by omega, rfl, rfl, rfl⟩
    case round =>
      obtain ⟨j, k, hj, rfl, htk, rfl⟩ := hrel
      have HT := Lib.hid htk
      clear htk
      by_cases hlt : j < la.length
      · obtain ⟨b, off, rfl, _, hcj⟩ := HA.out j hlt
        obtain ⟨b2, off2, rfl, _, hcj2⟩ := HB.out j (by omega)
        have hlt2 : j < lb.length := by omega
        go_wp2
        go_quiet (fail)
        go_wp2
        · go_ret
          have hd : ¬ la = lb := by
            intro e
            subst e
            have : (la[j] != la[j]) = true := by assumption
            simp at this
          exact ⟨ret_bool (by simp [hd]), _, World.drewN_drewN _ _ _⟩
        · have hd : (la[j] != lb[j]) = false := by assumption
          go_roundw
          case rel => exact ⟨j + 1, _, by omega, by go_num, take_same la lb j hlt hlt2 HT.out hd, rfl⟩
          case measure => simp [intOf]; omega
      · go_wp2
        go_ret
        exact ⟨ret_bool (by simp; have := HT.out; rw [List.take_of_length_le (by omega), List.take_of_length_le (by omega)] at this; exact this), _, rfl⟩
  · have e1 : ((la.length : Int) != (lb.length : Int)) = true := by simp; omega
    have e2 : Hid (¬ la = lb) := fun h => hne (by rw [h])
    clear hca hcb hne
    go_enter Try.func114, Try.ntmps114
    go_wp2
    go_ret
    exact ⟨ret_bool (by simp [e2.out]), 0, rfl⟩

end Go.Proofs.Ytlnikmcimmnbmaa
