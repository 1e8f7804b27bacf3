/- Contracts of the reference manifoldref01: bits. -/
import Derived.Test.YtiifoobkmojdcaaBitsA
namespace Go.Proofs.Ytiifoobkmojdcaa
open Go.RowKit

theorem May_yes (a s : Int) (h : May a s) (w : World) :
    Calls Try.prog 36 #[.int .i64 a, .int .i64 s] w fun e w' => e = .returned (.bool true) ∧ w' = w := by
  obtain ⟨h1, h2, h3, h4⟩ := h
  go_enter Try.func36, Try.ntmps36
  go_wp2
  go_ret
  exact ⟨rfl, rfl⟩

theorem May_no (a s : Int) (ha : I64 a) (hs : I64 s) (h : ¬ May a s) (w : World) :
    Calls Try.prog 36 #[.int .i64 a, .int .i64 s] w fun e w' => e = .returned (.bool false) ∧ w' = w := by
  obtain ⟨ha1, ha2⟩ := ha
  obtain ⟨hs1, hs2⟩ := hs
  have H := Lib.hid h
  clear h
  go_enter Try.func36, Try.ntmps36
  go_wp2
  all_goals
    go_ret
    have h := H.out
    unfold May at h
    exact ⟨ret_bool (by first | rfl | (simp; omega)), rfl⟩

theorem Two_any (k : Int) (h1 : 0 ≤ k) (h2 : k ≤ 63) (w : World) :
    Calls Try.prog 61 #[.int .i64 k] w fun e w' => e = .returned (.int .u64 (two k)) ∧ w' = w := by
  go_enter Try.func61, Try.ntmps61
  go_wp2
  go_loop [3, 4] (fun n i => ∃ j : Int, 0 ≤ j ∧ j ≤ k ∧ i = .int .i64 j ∧ n = .int .u64 (two j)) (fun _ i => (k - intOf i).toNat)
  case atStart => exact ⟨0, by omega, by omega, rfl, rfl⟩
  case round =>
    obtain ⟨j, hj0, hj1, rfl, rfl⟩ := hrel
    by_cases hlt : j < k
    · have b1 := two_pos j
      have b2 : 2 * two j ≤ 9223372036854775808 := by rw [← two_succ hj0, ← two_63]; exact two_le (by omega)
      go_wp2
      go_round
      case rel => exact ⟨j + 1, by omega, by omega, rfl, by rw [two_succ hj0]⟩
      case measure => simp [intOf]; omega
    · go_wp2
      go_ret
      exact ⟨ret_int (by rw [show j = k from by omega]), rfl⟩

theorem Bit_any (n a : Int) (hn : U64 n) (h1 : 0 ≤ a) (h2 : a ≤ 63) (w : World) :
    Calls Try.prog 62 #[.int .u64 n, .int .i64 a] w fun e w' => e = .returned (.int .u64 (n / two a % 2)) ∧ w' = w := by
  obtain ⟨n1, n2⟩ := hn
  have b1 := two_pos a
  have b2 : two a ≤ 9223372036854775808 := by rw [← two_63]; exact two_le (by omega)
  have b3 : 0 ≤ n / two a := Int.ediv_nonneg n1 (by omega)
  have b4 : n / two a ≤ n := Int.ediv_le_self _ n1
  have b5 : (two a == 0) = false := by simp; omega
  go_enter Try.func62, Try.ntmps62
  go_wp2_with (go_at_call 61; refine (Two_any _ h1 h2 _).mono ?_; rintro e w' ⟨rfl, rfl⟩)
  go_ret
  exact ⟨rfl, rfl⟩

theorem Bit_bt (n a : Int) (hn : U64 n) (h1 : 0 ≤ a) (h2 : a ≤ 63) (w : World) :
    Calls Try.prog 62 #[.int .u64 n, .int .i64 a] w fun e w' => e = .returned (.int .u64 (bt n a)) ∧ w' = w := by
  have := Bit_any n a hn h1 h2 w
  rwa [bt_eq n a hn] at this
theorem RField_yes (n a s : Int) (hn : U64 n) (h : May a s) (w : World) :
    Calls Try.prog 26 #[.int .u64 n, .int .i64 a, .int .i64 s] w fun e w' => e = .returned (.int .u64 (sumBits (fun i => n.toNat.testBit (a.toNat + i)) s)) ∧ w' = w := by
  have hm := May_yes a s h
  obtain ⟨h1, h2, h3, h4⟩ := h
  have hnn := hn
  obtain ⟨n1, n2⟩ := hn
  go_enter Try.func26, Try.ntmps26
  go_wp2_with (go_at_call 36; refine (hm _).mono ?_; rintro e w' ⟨rfl, rfl⟩)
  go_loop [7, 8] (fun o i => ∃ j : Int, 0 ≤ j ∧ j ≤ s ∧ i = .int .i64 j ∧ o = .int .u64 (sumBits (fun i => n.toNat.testBit (a.toNat + i)) j)) (fun _ i => (s - intOf i).toNat)
  case atStart => exact ⟨0, by omega, by omega, rfl, rfl⟩
  case round =>
    obtain ⟨j, hj0, hj1, rfl, rfl⟩ := hrel
    by_cases hlt : j < s
    · have b0 := bt_01 n (a + j)
      have b1 := two_pos j
      have b2 : two j ≤ 9223372036854775808 := by rw [← two_63]; exact two_le (by omega)
      have b3 := sumBits_bd (fun i => n.toNat.testBit (a.toNat + i)) j
      have b4 := sumBits_bd (fun i => n.toNat.testBit (a.toNat + i)) (j + 1)
      have b5 : two (j + 1) ≤ 18446744073709551616 := by rw [← two_64]; exact two_le (by omega)
      have b6 : 0 ≤ bt n (a + j) * two j ∧ bt n (a + j) * two j ≤ two j := by
        unfold bt; split <;> constructor <;> omega
      have hs := sumBits_succ (fun i => n.toNat.testBit (a.toNat + i)) j hj0
      have e : (if n.toNat.testBit (a.toNat + j.toNat) then (1 : Int) else 0) = bt n (a + j) := by
        unfold bt; rw [show (a + j).toNat = a.toNat + j.toNat from by omega]
      rw [e] at hs
      have b7 : sumBits (fun i => n.toNat.testBit (a.toNat + i)) j + bt n (a + j) * two j ≤ 18446744073709551615 := by omega
      have HS := Lib.hid hs
      clear hs e b4
      go_wp2_with (first | (go_at_call 62; refine (Bit_bt _ _ hnn (by omega) (by omega) _).mono ?_; rintro e w' ⟨rfl, rfl⟩) | (go_at_call 61; refine (Two_any _ hj0 (by omega) _).mono ?_; rintro e w' ⟨rfl, rfl⟩))
      go_round
      case rel => exact ⟨j + 1, by omega, by omega, rfl, by rw [HS.out]⟩
      case measure => simp [intOf]; omega
    · go_wp2
      go_ret
      exact ⟨ret_int (by rw [show j = s from by omega]), rfl⟩

theorem RNumber_any (l : List Int) (v : Value) (w : World) (hv : SlI .u8 w v l) (hb : Byt l) :
    Calls Try.prog 32 #[v] w fun e w' => e = .returned (.int .u64 (num l)) ∧ w' = w := by
  obtain ⟨oa, cap, rfl, hl, hc, _, _, _⟩ := hv
  have HC := Lib.hid hc
  have HB := Lib.hid hb
  clear hc hb
  go_enter Try.func32, Try.ntmps32
  go_wp2
  go_loop [3, 4] (fun n i => ∃ j : Nat, j ≤ l.length ∧ i = .int .i64 j ∧ n = .int .u64 (num (l.take j))) (fun _ i => l.length - (intOf i).toNat)
  case atStart => exact ⟨0, by omega, rfl, by simp [num]⟩
  case round =>
    obtain ⟨j, hj, rfl, rfl⟩ := hrel
    by_cases hlt : j < l.length
    · obtain ⟨b, off, rfl, _, hcj⟩ := HC.out j hlt
      have hbj := HB.out j
      have HS := Lib.hid (num_step l j hlt hbj)
      go_wp2
      go_round
      case rel => exact ⟨j + 1, by omega, by go_num, by rw [HS.out]⟩
      case measure => simp [intOf]; omega
    · go_wp2
      go_ret
      exact ⟨ret_int (by rw [List.take_of_length_le (by omega)]), rfl⟩

theorem take_same (la lb : List Int) (j : Nat) (h1 : j < la.length) (h2 : j < lb.length) (h : la.take j = lb.take j) (hd : (la[j] != lb[j]) = false) : la.take (j + 1) = lb.take (j + 1) := by
  rw [List.take_succ_eq_append_getElem h1, List.take_succ_eq_append_getElem h2, h]
  simp at hd
  rw [hd]

theorem Same_any (la lb : List Int) (va vb : Value) (w : World) (ha : SlI .u8 w va la) (hb : SlI .u8 w vb lb) :
    Calls Try.prog 33 #[va, vb] w fun e w' => e = .returned (.bool (decide (la = lb))) ∧ ∃ k, w' = w.drewN k := by
  obtain ⟨oa, capa, rfl, hla, hca, _, _, _⟩ := ha
  obtain ⟨ob, capb, rfl, hlb, hcb, _, _, _⟩ := hb
  by_cases hne : la.length = lb.length
  · have e1 : ((la.length : Int) != (lb.length : Int)) = false := by simp [hne]
    have HA := Lib.hid hca
    have HB := Lib.hid hcb
    have HE := Lib.hid hne
    clear hca hcb
    have hle : lb.length ≤ la.length := by omega
    have hge : la.length ≤ lb.length := by omega
    clear hne
    go_enter Try.func33, Try.ntmps33
    go_wp2
    go_loopw [5] (fun i wr => ∃ j k : Nat, j ≤ la.length ∧ i = .int .i64 j ∧ la.take j = lb.take j ∧ wr = w.drewN k) (fun i _ => la.length - (intOf i).toNat)
    case atStart => exact ⟨0, 0, by omega, rfl, rfl, rfl⟩
    case round =>
      obtain ⟨j, k, hj, rfl, htk, rfl⟩ := hrel
      have HT := Lib.hid htk
      clear htk
      by_cases hlt : j < la.length
      · obtain ⟨b, off, rfl, _, hcj⟩ := HA.out j hlt
        obtain ⟨b2, off2, rfl, _, hcj2⟩ := HB.out j (by omega)
        have hlt2 : j < lb.length := by omega
        go_wp2
        go_quiet (fail)
        go_wp2
        · go_ret
          have hd : ¬ la = lb := by
            intro e
            subst e
            have : (la[j] != la[j]) = true := by assumption
            simp at this
          exact ⟨ret_bool (by simp [hd]), _, World.drewN_drewN _ _ _⟩
        · have hd : (la[j] != lb[j]) = false := by assumption
          go_roundw
          case rel => exact ⟨j + 1, _, by omega, by go_num, take_same la lb j hlt hlt2 HT.out hd, rfl⟩
          case measure => simp [intOf]; omega
      · go_wp2
        go_ret
        exact ⟨ret_bool (by simp; have := HT.out; rw [List.take_of_length_le (by omega), List.take_of_length_le (by omega)] at this; exact this), _, rfl⟩
  · have e1 : ((la.length : Int) != (lb.length : Int)) = true := by simp; omega
    have e2 : Hid (¬ la = lb) := fun h => hne (by rw [h])
    clear hca hcb hne
    go_enter Try.func33, Try.ntmps33
    go_wp2
    go_ret
    exact ⟨ret_bool (by simp [e2.out]), 0, rfl⟩

set_option maxHeartbeats 400000 in
theorem RLay_yes (n v a s : Int) (hn : U64 n) (hv : U64 v) (h : May a s) (w : World) :
    Calls Try.prog 28 #[.int .u64 n, .int .i64 a, .int .i64 s, .int .u64 v] w fun e w' => e = .returned (.int .u64 (lay n a s v)) ∧ w' = w := by
  have hm := May_yes a s h
  have hf : sumBits (fun i => if a.toNat ≤ i ∧ i < a.toNat + s.toNat then v.toNat.testBit (i - a.toNat) else n.toNat.testBit i) 64 = lay n a s v := by unfold lay; rw [if_pos h]; rfl
  obtain ⟨h1, h2, h3, h4⟩ := h
  have hnn := hn
  have hvv := hv
  obtain ⟨n1, n2⟩ := hn
  obtain ⟨v1, v2⟩ := hv
  have HF := Lib.hid hf
  clear hf
  obtain ⟨g, hg1, hg2, hg3⟩ : ∃ g : Nat → Bool, sumBits g 64 = lay n a s v ∧ (∀ j : Int, 0 ≤ j → a ≤ j ∧ j < a + s → g j.toNat = v.toNat.testBit (j - a).toNat) ∧ (∀ j : Int, 0 ≤ j → ¬ (a ≤ j ∧ j < a + s) → g j.toNat = n.toNat.testBit j.toNat) := by
    refine ⟨_, HF.out, fun j hj hin => ?_, fun j hj hin => ?_⟩
    · show (if a.toNat ≤ j.toNat ∧ j.toNat < a.toNat + s.toNat then v.toNat.testBit (j.toNat - a.toNat) else n.toNat.testBit j.toNat) = _
      rw [if_pos (by omega), show (j - a).toNat = j.toNat - a.toNat from by omega]
    · show (if a.toNat ≤ j.toNat ∧ j.toNat < a.toNat + s.toNat then v.toNat.testBit (j.toNat - a.toNat) else n.toNat.testBit j.toNat) = _
      rw [if_neg (by omega)]
  clear HF
  have HF := Lib.hid hg1
  have HI := Lib.hid hg2
  have HO := Lib.hid hg3
  clear hg1 hg2 hg3
  go_enter Try.func28, Try.ntmps28
  go_wp2_with (go_at_call 36; refine (hm _).mono ?_; rintro e w' ⟨rfl, rfl⟩)
  go_loop [9, 10] (fun o i => ∃ j : Int, 0 ≤ j ∧ j ≤ 64 ∧ i = .int .i64 j ∧ o = .int .u64 (sumBits g j)) (fun _ i => (64 - intOf i).toNat)
  case atStart => exact ⟨0, by omega, by omega, rfl, rfl⟩
  case round =>
    obtain ⟨j, hj0, hj1, rfl, rfl⟩ := hrel
    by_cases hlt : j < 64
    · have b1 := two_pos j
      have b2 : two j ≤ 9223372036854775808 := by rw [← two_63]; exact two_le (by omega)
      have b3 := sumBits_bd g j
      have b5 : 2 * two j ≤ 18446744073709551616 := by rw [← two_succ hj0, ← two_64]; exact two_le (by omega)
      have hs := sumBits_succ g j hj0
      by_cases hin : a ≤ j ∧ j < a + s
      · have e : (if g j.toNat then (1 : Int) else 0) = bt v (j - a) := by
          unfold bt; rw [HI.out j hj0 hin]
        rw [e] at hs
        have b0 := bt_01 v (j - a)
        have b6 : 0 ≤ bt v (j - a) * two j ∧ bt v (j - a) * two j ≤ two j := by
          unfold bt; split <;> constructor <;> omega
        have HS := Lib.hid hs
        obtain ⟨hi1, hi2⟩ := hin
        clear hs e
        go_wp2_with (first | (go_at_call 62; refine (Bit_bt _ _ (by first | with_reducible exact hnn | with_reducible exact hvv) (by omega) (by omega) _).mono ?_; rintro e w' ⟨rfl, rfl⟩) | (go_at_call 61; refine (Two_any _ hj0 (by omega) _).mono ?_; rintro e w' ⟨rfl, rfl⟩))
        go_round
        case rel => exact ⟨j + 1, by omega, by omega, rfl, by rw [HS.out]⟩
        case measure => simp [intOf]; omega
      · have e : (if g j.toNat then (1 : Int) else 0) = bt n j := by
          unfold bt; rw [HO.out j hj0 hin]
        rw [e] at hs
        have b0 := bt_01 n j
        have b6 : 0 ≤ bt n j * two j ∧ bt n j * two j ≤ two j := by
          unfold bt; split <;> constructor <;> omega
        have HS := Lib.hid hs
        clear hs e
        by_cases hi1 : a ≤ j
        · have hi2 : a + s ≤ j := by omega
          clear hin
          go_wp2_with (first | (go_at_call 62; refine (Bit_bt n j hnn (by omega) (by omega) _).mono ?_; rintro e w' ⟨rfl, rfl⟩) | (go_at_call 61; refine (Two_any _ hj0 (by omega) _).mono ?_; rintro e w' ⟨rfl, rfl⟩))
          go_round
          case rel => exact ⟨j + 1, by omega, by omega, rfl, by rw [HS.out]⟩
          case measure => simp [intOf]; omega
        · clear hin
          go_wp2_with (first | (go_at_call 62; refine (Bit_bt n j hnn (by omega) (by omega) _).mono ?_; rintro e w' ⟨rfl, rfl⟩) | (go_at_call 61; refine (Two_any _ hj0 (by omega) _).mono ?_; rintro e w' ⟨rfl, rfl⟩))
          go_round
          case rel => exact ⟨j + 1, by omega, by omega, rfl, by rw [HS.out]⟩
          case measure => simp [intOf]; omega
    · go_wp2
      go_ret
      exact ⟨ret_int (by rw [show j = 64 from by omega]; exact HF.out), rfl⟩

theorem RSigned_yes (n s : Int) (hn : U64 n) (h1 : 1 ≤ s) (h2 : s ≤ 64) (w : World) :
    Calls Try.prog 30 #[.int .u64 n, .int .i64 s] w fun e w' => e = .returned (.int .i64 (sgd n s)) ∧ ∃ k, w' = w.drewN k := by
  have hnn := hn
  obtain ⟨n1, n2⟩ := hn
  go_enter Try.func30, Try.ntmps30
  go_wp2
  go_loop [5, 6] (fun o i => ∃ j : Int, 0 ≤ j ∧ j ≤ s - 1 ∧ i = .int .i64 j ∧ o = .int .i64 (sumBits n.toNat.testBit j)) (fun _ i => (s - 1 - intOf i).toNat)
  case atStart => exact ⟨0, by omega, by omega, rfl, rfl⟩
  case round =>
    obtain ⟨j, hj0, hj1, rfl, rfl⟩ := hrel
    have b2 : two j ≤ 9223372036854775808 := by rw [← two_63]; exact two_le (by omega)
    have b3 := sumBits_bd n.toNat.testBit j
    by_cases hlt : j < s - 1
    · have b1 := two_pos j
      have b5 : 2 * two j ≤ 9223372036854775808 := by rw [← two_succ hj0, ← two_63]; exact two_le (by omega)
      have hs := sumBits_succ n.toNat.testBit j hj0
      have e : (if n.toNat.testBit j.toNat then (1 : Int) else 0) = bt n j := rfl
      rw [e] at hs
      have b0 := bt_01 n j
      have b6 : 0 ≤ bt n j * two j ∧ bt n j * two j ≤ two j := by
        unfold bt; split <;> constructor <;> omega
      have HS := Lib.hid hs
      clear hs e
      go_wp2_with (first | (go_at_call 62; refine (Bit_bt n j hnn (by omega) (by omega) _).mono ?_; rintro e w' ⟨rfl, rfl⟩) | (go_at_call 61; refine (Two_any _ hj0 (by omega) _).mono ?_; rintro e w' ⟨rfl, rfl⟩))
      go_round
      case rel => exact ⟨j + 1, by omega, by omega, rfl, by rw [HS.out]⟩
      case measure => simp [intOf]; omega
    · obtain rfl : j = s - 1 := by omega
      have b1 := two_pos (s - 1)
      by_cases hb : bt n (s - 1) = 1
      · have hb' : (bt n (s - 1) == 1) = true := by simp [hb]
        have HF : Hid (sumBits n.toNat.testBit (s - 1) - (two (s - 1) - 1) - 1 = sgd n s) := Lib.hid (sgd_one n s hnn h1 h2 hb)
        clear hb
        go_wp2_with (first | (go_at_call 62; refine (Bit_bt n (s - 1) hnn (by omega) (by omega) _).mono ?_; rintro e w' ⟨rfl, rfl⟩) | (go_at_call 61; refine (Two_any _ hj0 (by omega) _).mono ?_; rintro e w' ⟨rfl, rfl⟩))
        go_ret
        exact ⟨ret_int HF.out, 0, rfl⟩
      · have hb' : (bt n (s - 1) == 1) = false := by simp [hb]
        have HF := Lib.hid (sgd_zero n s hnn h1 h2 hb)
        clear hb
        go_wp2_with (first | (go_at_call 62; refine (Bit_bt n (s - 1) hnn (by omega) (by omega) _).mono ?_; rintro e w' ⟨rfl, rfl⟩) | (go_at_call 61; refine (Two_any _ hj0 (by omega) _).mono ?_; rintro e w' ⟨rfl, rfl⟩))
        go_ret
        exact ⟨ret_int HF.out, 0, rfl⟩
end Go.Proofs.Ytiifoobkmojdcaa
