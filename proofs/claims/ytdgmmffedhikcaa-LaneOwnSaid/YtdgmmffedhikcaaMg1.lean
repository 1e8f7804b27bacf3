/- Merged from my texts BitsB, BitsC, PlainB, BitsD. -/
import Derived.Test.YtdgmmffedhikcaaMg0
/- Contracts of the reference manifoldref01: bits. -/
namespace Go.Proofs.Ytdgmmffedhikcaa
set_option linter.unusedSimpArgs false
set_option linter.unusedVariables false
open Go.RowKit

theorem take_same (la lb : List Int) (j : Nat) (h1 : j < la.length) (h2 : j < lb.length) (h : la.take j = lb.take j) (hd : (la[j] != lb[j]) = false) : la.take (j + 1) = lb.take (j + 1) := by
  rw [List.take_succ_eq_append_getElem h1, List.take_succ_eq_append_getElem h2, h]
  simp at hd
  rw [hd]

theorem Same_any (la lb : List Int) (va vb : Value) (w : World) (ha : SlI .u8 w va la) (hb : SlI .u8 w vb lb) :
    Calls Try.prog 28 #[va, vb] w fun e w' => e = .returned (.bool (decide (la = lb))) ∧ ∃ k, w' = w.drewN k := by
  obtain ⟨oa, capa, rfl, hla, hca, _, _, _⟩ := ha
  obtain ⟨ob, capb, rfl, hlb, hcb, _, _, _⟩ := hb
  by_cases hne : la.length = lb.length
  · have e1 : ((la.length : Int) != (lb.length : Int)) = false := by simp [hne]
    have HA := Lib.hid hca
    have HB := Lib.hid hcb
    have HE := Lib.hid hne
    clear hca hcb
    have hle : lb.length ≤ la.length := by omega
    have hge : la.length ≤ lb.length := by omega
    clear hne
    go_enter Try.func28, Try.ntmps28
    go_wp2
    go_loopw [5] (fun i wr => ∃ j k : Nat, j ≤ la.length ∧ i = .int .i64 j ∧ la.take j = lb.take j ∧ wr = w.drewN k) (fun i _ => la.length - (intOf i).toNat)
    case atStart => exact ⟨0, 0, by omega, rfl, rfl, rfl⟩
    case round =>
      obtain ⟨j, k, hj, rfl, htk, rfl⟩ := hrel
      have HT := Lib.hid htk
      clear htk
      by_cases hlt : j < la.length
      · obtain ⟨b, off, rfl, _, hcj⟩ := HA.out j hlt
        obtain ⟨b2, off2, rfl, _, hcj2⟩ := HB.out j (by omega)
        have hlt2 : j < lb.length := by omega
        go_wp2
        go_quiet (fail)
        go_wp2
        · go_ret
          have hd : ¬ la = lb := by
            intro e
            subst e
            have : (la[j] != la[j]) = true := by assumption
            simp at this
          exact ⟨ret_bool (by simp [hd]), _, World.drewN_drewN _ _ _⟩
        · have hd : (la[j] != lb[j]) = false := by assumption
          go_roundw
          case rel => exact ⟨j + 1, _, by omega, by go_num, take_same la lb j hlt hlt2 HT.out hd, rfl⟩
          case measure => simp [intOf]; omega
      · go_wp2
        go_ret
        exact ⟨ret_bool (by simp; have := HT.out; rw [List.take_of_length_le (by omega), List.take_of_length_le (by omega)] at this; exact this), _, rfl⟩
  · have e1 : ((la.length : Int) != (lb.length : Int)) = true := by simp; omega
    have e2 : Hid (¬ la = lb) := fun h => hne (by rw [h])
    clear hca hcb hne
    go_enter Try.func28, Try.ntmps28
    go_wp2
    go_ret
    exact ⟨ret_bool (by simp [e2.out]), 0, rfl⟩

end Go.Proofs.Ytdgmmffedhikcaa
/- Contracts of bits.Number, bits.Bytes and the reference's Bytes. -/
namespace Go.Proofs.Ytdgmmffedhikcaa
set_option linter.unusedSimpArgs false
set_option linter.unusedVariables false
open Go.RowKit
set_option maxRecDepth 100000

theorem Number_long (l : List Int) (v : Value) (w : World) (h8 : 8 < l.length) (hv : SlI .u8 w v l) (hb : Byt l) :
    Calls Try.prog 96 #[v] w fun e w' => e = .returned (.int .u64 (num l)) ∧ w' = w := by
  obtain ⟨oa, cap, rfl, hl, hc, hcap, _, _⟩ := hv
  obtain ⟨b, off, rfl, _, _⟩ := hc 0 (by omega)
  have HC := Lib.hid hc
  have HB := Lib.hid hb
  have HL := Lib.hid (num_last l)
  clear hc hb
  go_enter Try.func96, Try.ntmps96
  go_wp2
  obtain ⟨d, hd⟩ : ∃ d, d = l.length - 8 := ⟨_, rfl⟩
  have HM := Lib.hid (show (l.drop d).length = 8 by simp; omega)
  have hdl : d + 8 ≤ l.length := by omega
  have hdg : l.length ≤ d + 8 := by omega
  rw [← hd] at HL ⊢
  clear hd
  go_loop [4, 14] (fun n i => ∃ j : Nat, j ≤ 8 ∧ i = .int .i64 j ∧ n = .int .u64 (num ((l.drop d).take j))) (fun _ i => 8 - (intOf i).toNat)
  case atStart => exact ⟨0, by omega, rfl, by simp [num]⟩
  case round =>
    obtain ⟨j, hj, rfl, rfl⟩ := hrel
    by_cases hlt : j < 8
    · obtain ⟨b', off', e1, _, hcj⟩ := HC.out (d + j) (by omega)
      simp only [Option.some.injEq, Addr.mk.injEq, and_true] at e1
      obtain ⟨rfl, rfl⟩ := e1
      have hbj := HB.out (d + j)
      have hlt2 : d + j < l.length := by omega
      have hcj' : w.cell? ⟨b, off + d + j, none⟩ = some (.int .u8 (l.getD (d + j) 0)) := by rw [Nat.add_assoc]; exact hcj
      clear hcj
      have hst := num_stepO (l.drop d) j (by rw [HM.out]; exact hlt) (fun i => by
        have := HB.out (d + i)
        rwa [List.getD_eq_getElem?_getD, List.getElem?_drop, ← List.getD_eq_getElem?_getD])
      rw [List.getElem_drop] at hst
      have HS := Lib.hid hst
      clear hst
      go_wp2
      go_round
      case rel => exact ⟨j + 1, by omega, by go_num, by rw [← HS.out]⟩
      case measure => simp [intOf]; omega
    · go_wp2
      go_ret
      exact ⟨ret_int (by rw [List.take_of_length_le (by rw [HM.out]; omega)]; exact HL.out), rfl⟩

theorem Number_short (l : List Int) (v : Value) (w : World) (h8 : l.length ≤ 8) (hv : SlI .u8 w v l) (hb : Byt l) :
    Calls Try.prog 96 #[v] w fun e w' => e = .returned (.int .u64 (num l)) ∧ w' = w := by
  obtain ⟨oa, cap, rfl, hl, hc, hcap, _, _⟩ := hv
  have HC := Lib.hid hc
  have HB := Lib.hid hb
  clear hc hb
  go_enter Try.func96, Try.ntmps96
  go_wp2
  go_loop [4, 14] (fun n i => ∃ j : Nat, j ≤ l.length ∧ i = .int .i64 j ∧ n = .int .u64 (num (l.take j))) (fun _ i => l.length - (intOf i).toNat)
  case atStart => exact ⟨0, by omega, rfl, by simp [num]⟩
  case round =>
    obtain ⟨j, hj, rfl, rfl⟩ := hrel
    by_cases hlt : j < l.length
    · obtain ⟨b, off, rfl, _, hcj⟩ := HC.out j hlt
      have hbj := HB.out j
      have HS := Lib.hid (num_stepO l j hlt HB.out)
      go_wp2
      go_round
      case rel => exact ⟨j + 1, by omega, by go_num, by rw [← HS.out]⟩
      case measure => simp [intOf]; omega
    · go_wp2
      go_ret
      exact ⟨ret_int (by rw [List.take_of_length_le (by omega)]), rfl⟩

theorem Number_any (l : List Int) (v : Value) (w : World) (hv : SlI .u8 w v l) (hb : Byt l) :
    Calls Try.prog 96 #[v] w fun e w' => e = .returned (.int .u64 (num l)) ∧ w' = w := by
  by_cases h : 8 < l.length
  · exact Number_long l v w h hv hb
  · exact Number_short l v w (by omega) hv hb
theorem Try.info_u8 : (Try.prog.info? 5).map (fun i => (i.zero, i.size, i.bytes)) = some (some (.int .u8 0), 1, 1) := by kernel_rfl

set_option maxHeartbeats 400000 in
theorem Bytes_yes (n : Int) (s : Nat) (hn : U64 n) (h2 : s ≤ 8) (w : World) :
    Calls Try.prog 97 #[.int .u64 n, .int .i64 s] w fun e w' => ∃ v, e = .returned v ∧ SlI .u8 w' v (bys n s) ∧ More w w' := by
  obtain ⟨n1, n2⟩ := hn
  obtain ⟨i0, hi, hz0, hz1, hz2⟩ := info_parts Try.info_u8
  go_enter Try.func97, Try.ntmps97
  go_wp2_with (at_make; refine wpList_make_full _ rfl _ _ 37 rfl w.heap.size 5 i0 (.int .u8 0) 1 Try.underlying37 hi hz0 hz1 _ _ _ _ s rfl rfl (by omega) (by omega) ?c1 ?c2 ?c3 ?_)
  case c1 => rw [hz2]; omega
  case c2 => unfold maxLen; omega
  case c3 => omega
  intro w1 hown hgrow
  have hbel : Below w.heap.size w w1 := (Below.refl _ _).grown hgrow (by omega) (by simp)
  have hown0 : w1.ownsRow w.heap.size 5 1 (.slice (some ⟨w.heap.size, 0, none⟩) s s) s ((bysTo n s 0).map (Value.int .u8)) := by
    rw [bysTo_zero]; simpa [toList_madeCells_one] using hown
  clear hown hgrow
  go_wp2
  go_loopw [16] (fun i wr => ∃ k : Nat, k ≤ s ∧ i = .int .i64 k ∧ wr.ownsRow w.heap.size 5 1 (.slice (some ⟨w.heap.size, 0, none⟩) s s) s ((bysTo n s k).map (Value.int .u8)) ∧ Below w.heap.size w wr) (fun i _ => s - (intOf i).toNat)
  case atStart => exact ⟨0, by omega, rfl, hown0, hbel⟩
  case round =>
    obtain ⟨k, hk, rfl, hown, hbel⟩ := hrel
    clear hown0
    by_cases hlt : k < s
    · have hcell := hown.cellAt (s - 1 - k) (by omega)
      have hfr := hown.frozenAt (s - 1 - k)
      have hst := hown.stored (s - 1 - k) (.int .u8 (by8 n k))
      rw [List.getElem?_map, List.getElem?_eq_getElem (by rw [bysTo_length]; omega), Option.map_some] at hcell
      go_wp2
      go_roundw
      case rel => exact ⟨k + 1, by omega, by go_num, by rw [← bysTo_set n s k hlt, List.map_set]; exact hst.1, hbel.setCell (Nat.le_refl _) _⟩
      case measure => simp [intOf]; omega
    · obtain rfl : k = s := by omega
      clear hlt hk
      go_wp2
      refine bodyPost_ret (v := .slice (some ⟨w.heap.size, 0, none⟩) k k) (by simp [results, Try.results97, go_sem]) rfl ?_
      rw [bysTo_full] at hown
      have := bys_length n k
      exact ⟨_, rfl, SlI.of_owns (by rw [this]; exact hown) (by rw [this]; omega), hbel⟩

/-- The same, the slice written out. -/
theorem Bytes_sl (n : Int) (s : Nat) (hn : U64 n) (h2 : s ≤ 8) (w : World) :
    Calls Try.prog 97 #[.int .u64 n, .int .i64 s] w fun e w' => ∃ oa cap, e = .returned (.slice oa s cap) ∧ SlI .u8 w' (.slice oa s cap) (bys n s) ∧ More w w' := by
  refine (Bytes_yes n s hn h2 w).mono ?_
  rintro e w' ⟨v, rfl, hs, hm⟩
  have hs' := hs
  obtain ⟨oa, cap, rfl, -⟩ := hs'
  rw [bys_length] at *
  exact ⟨oa, cap, rfl, hs, hm⟩
end Go.Proofs.Ytdgmmffedhikcaa
/- Plain laws of bits: what the statements of layer 1 ask. -/
namespace Go.Proofs.Ytdgmmffedhikcaa
set_option linter.unusedSimpArgs false
set_option linter.unusedVariables false

theorem two_dvd {s : Int} (hs : s ≤ 64) (hs0 : 0 ≤ s) : two s ∣ 18446744073709551616 :=
  ⟨two (64 - s), by rw [← two_add hs0 (by omega), ← two_64]; congr 1; omega⟩

theorem sgd_mod (n s : Int) (h1 : 1 ≤ s) (h2 : s ≤ 64) : sgd n s % two s = n % two s := by
  unfold sgd
  rw [if_neg (by omega)]
  split
  · exact Int.emod_emod_of_dvd _ (Int.dvd_refl _)
  · rw [Int.sub_emod_right]; exact Int.emod_emod_of_dvd _ (Int.dvd_refl _)
theorem sgd_of_mod {n m : Int} (s : Int) (h : n % two s = m % two s) : sgd n s = sgd m s := by unfold sgd; rw [h]
theorem sgd_bd (n s : Int) (h1 : 1 ≤ s) (h2 : s ≤ 64) : -two (s - 1) ≤ sgd n s ∧ sgd n s < two (s - 1) := by
  have b := two_pos (s - 1)
  have q := two_succ (k := s - 1) (by omega)
  rw [show s - 1 + 1 = s from by omega] at q
  have c := Int.emod_nonneg n (b := two s) (by omega)
  have d := Int.emod_lt_of_pos n (b := two s) (by omega)
  unfold sgd
  rw [if_neg (by omega)]
  split <;> omega
theorem wrap_mod (x s : Int) (hs0 : 0 ≤ s) (hs : s ≤ 64) : x % 18446744073709551616 % two s = x % two s := Int.emod_emod_of_dvd _ (two_dvd hs hs0)
theorem sgd_again (n s : Int) (h1 : 1 ≤ s) (h2 : s ≤ 64) : sgd (sgd n s % 18446744073709551616) s = sgd n s := by
  rw [sgd_of_mod s (show sgd n s % 18446744073709551616 % two s = n % two s by rw [wrap_mod _ _ (by omega) h2, sgd_mod n s h1 h2])]
theorem sgd_64 (x : Int) (h : -9223372036854775808 ≤ x ∧ x < 9223372036854775808) : sgd (x % 18446744073709551616) 64 = x := by
  unfold sgd
  rw [if_neg (by omega), two_64, show (64 : Int) - 1 = 63 from rfl, two_63]
  split <;> omega
theorem sgd_range (n s : Int) : -9223372036854775808 ≤ sgd n s ∧ sgd n s < 9223372036854775808 := by
  by_cases h : s < 1 ∨ s > 64
  · unfold sgd; rw [if_pos h]; omega
  · have b := sgd_bd n s (by omega) (by omega)
    have c := two_le (show s - 1 ≤ 63 by omega)
    rw [two_63] at c
    omega
theorem fld_low (n s : Int) (hs0 : 0 ≤ s) (hs : s ≤ 64) : fld n 0 s = n % two s := by
  unfold fld; rw [if_pos ⟨by omega, by omega, hs0, by omega⟩, two_0, Int.ediv_one]
theorem fld_sgd (n s : Int) (h1 : 1 ≤ s) (h2 : s ≤ 64) : fld (sgd n s % 18446744073709551616) 0 s = fld n 0 s := by
  rw [fld_low _ s (by omega) h2, fld_low _ s (by omega) h2, wrap_mod _ _ (by omega) h2, sgd_mod n s h1 h2]

theorem sumBits_congr {f g : Nat → Bool} {s : Int} (h : ∀ i : Nat, (i : Int) < s → f i = g i) : sumBits f s = sumBits g s := by
  unfold sumBits
  have : ofBits f s.toNat = ofBits g s.toNat := by
    apply Nat.eq_of_testBit_eq
    intro i
    rw [ofBits_testBit, ofBits_testBit]
    by_cases hi : i < s.toNat
    · rw [h i (by omega)]
    · simp [hi]
  rw [this]
theorem fld_sum (n a s : Int) (hn : U64 n) (h : May a s) : fld n a s = sumBits (fun i => n.toNat.testBit (a.toNat + i)) s := by
  unfold fld; rw [if_pos h, ← sum_mod _ s (div_U64 n a hn)]
  apply sumBits_congr
  intro i _
  obtain ⟨n1, _⟩ := hn
  obtain ⟨N, rfl⟩ := Int.eq_ofNat_of_zero_le n1
  have : ((N : Int) / two a).toNat = N / 2 ^ a.toNat := by
    unfold two
    rw [show (N : Int) / ((2 ^ a.toNat : Nat) : Int) = ((N / 2 ^ a.toNat : Nat) : Int) from by omega, Int.toNat_natCast]
  rw [this, Int.toNat_natCast, Nat.testBit_div_two_pow, Nat.add_comm]
theorem lay_U64 (n a s v : Int) (hn : U64 n) : U64 (lay n a s v) := by
  unfold lay
  split
  · have := layN_lt n.toNat a.toNat s.toNat v.toNat
    unfold U64; omega
  · exact hn
theorem lay_toNat (n a s v : Int) (h : May a s) : (lay n a s v).toNat = layN n.toNat a.toNat s.toNat v.toNat := by
  unfold lay; rw [if_pos h]; simp
theorem lay_there (n a s v : Int) (hn : U64 n) (hv : U64 v) (h : May a s) : fld (lay n a s v) a s = fld v 0 s := by
  rw [fld_sum _ _ _ (lay_U64 n a s v hn) h, lay_toNat n a s v h]
  obtain ⟨h1, h2, h3, h4⟩ := h
  rw [fld_sum _ _ _ hv ⟨by omega, by omega, h3, by omega⟩]
  apply sumBits_congr
  intro i hi
  try simp only []
  rw [layN_testBit, if_pos (by omega)]
  simp
  omega
theorem nat_bits {N M : Nat} (hN : N < 18446744073709551616) (hM : M < 18446744073709551616) (h : ∀ i, i < 64 → N.testBit i = M.testBit i) : N = M := by
  apply Nat.eq_of_testBit_eq
  intro i
  by_cases hi : i < 64
  · exact h i hi
  · rw [Nat.testBit_lt_two_pow (Nat.lt_of_lt_of_le (m := 2 ^ 64) hN (Nat.pow_le_pow_right (by omega) (by omega))), Nat.testBit_lt_two_pow (Nat.lt_of_lt_of_le (m := 2 ^ 64) hM (Nat.pow_le_pow_right (by omega) (by omega)))]
theorem lay_back (n a s v : Int) (hn : U64 n) (h : May a s) : lay (lay n a s v) a s (n / two a) = n := by
  have e := lay_toNat n a s v h
  have hn' := hn
  obtain ⟨n1, n2⟩ := hn
  obtain ⟨N, rfl⟩ := Int.eq_ofNat_of_zero_le n1
  have e2 : ((N : Int) / two a).toNat = N / 2 ^ a.toNat := by
    unfold two
    rw [show (N : Int) / ((2 ^ a.toNat : Nat) : Int) = ((N / 2 ^ a.toNat : Nat) : Int) from by omega, Int.toNat_natCast]
  have : layN (lay N a s v).toNat a.toNat s.toNat ((N : Int) / two a).toNat = N := by
    apply nat_bits (layN_lt _ _ _ _) (by omega)
    intro i hi
    rw [layN_testBit, e, e2, Nat.testBit_div_two_pow, layN_testBit]
    simp only [hi, decide_true, Bool.true_and, Int.toNat_natCast]
    split
    · congr 1; omega
    · rfl
  unfold lay at *
  rw [if_pos h] at *
  rw [if_pos h] at *
  rw [this]
theorem lay_other (n a s v o : Int) (hn : U64 n) (h : May a s) (ho : 0 ≤ o ∧ o ≤ 63) (hout : ¬ (a ≤ o ∧ o - a < s)) : fld (lay n a s v) o 1 = fld n o 1 := by
  have hm : May o 1 := ⟨ho.1, ho.2, by omega, by omega⟩
  rw [fld_sum _ _ _ (lay_U64 n a s v hn) hm, fld_sum _ _ _ hn hm, lay_toNat n a s v h]
  obtain ⟨h1, h2, h3, h4⟩ := h
  apply sumBits_congr
  intro i hi
  try simp only []
  rw [layN_testBit, if_neg (by omega)]
  have : o.toNat + i < 64 := by omega
  simp [this]
theorem fld_U64 (n a s : Int) (hn : U64 n) : U64 (fld n a s) := by
  unfold fld
  split
  · have d := div_U64 n a hn
    have p := two_pos s
    have h1 := Int.emod_nonneg (n / two a) (b := two s) (by omega)
    have h2 : n / two a % two s ≤ n / two a := by
      have := Int.emod_add_mul_ediv (n / two a) (two s)
      have := Int.mul_nonneg (show 0 ≤ two s by omega) (Int.ediv_nonneg d.1 (show 0 ≤ two s by omega))
      omega
    exact ⟨h1, Int.le_trans h2 d.2⟩
  · exact ⟨by decide, by decide⟩
theorem numE_bys (n : Int) (k : Nat) : numE (bys n k) = n % 2 ^ (8 * k) := by
  induction k with
  | zero => simp [bys, numE, Int.emod_one]
  | succ k ih =>
    rw [bys_succ, show by8 n k :: bys n k = [by8 n k] ++ bys n k from rfl, numE_append, ih, bys_length]
    unfold by8
    rw [show (8 * (k + 1)) = 8 * k + 8 from by omega, Int.pow_add, show ((256 : Int) ^ k) = 2 ^ (8 * k) from by rw [Int.pow_mul]; rfl]
    have e : numE [n / 2 ^ (8 * k) % 256] = n / 2 ^ (8 * k) % 256 := by simp [numE]
    rw [e]
    have hp : (0 : Int) < 2 ^ (8 * k) := Int.pow_pos (by decide)
    have h1 := Int.emod_add_mul_ediv n (2 ^ (8 * k))
    have h2 := Int.emod_add_mul_ediv (n / 2 ^ (8 * k)) 256
    have h3 := Int.emod_nonneg n (b := 2 ^ (8 * k)) (by omega)
    have h4 := Int.emod_lt_of_pos n hp
    have h5 := Int.emod_nonneg (n / 2 ^ (8 * k)) (b := 256) (by omega)
    have h6 := Int.emod_lt_of_pos (n / 2 ^ (8 * k)) (b := 256) (by omega)
    generalize (2 : Int) ^ (8 * k) = P at *
    generalize n % P = R at *
    generalize hq : n / P = Q at *
    generalize Q % 256 = r at *
    generalize Q / 256 = q at *
    have hPr : r * P ≤ 255 * P := Int.mul_le_mul_of_nonneg_right (by omega) (by omega)
    have hP0 : 0 ≤ r * P := Int.mul_nonneg (by omega) (by omega)
    have hn : n = (r * P + R) + (P * 256) * q := by
      rw [← h1, ← h2, Int.mul_add, Int.mul_comm P r, ← Int.mul_assoc]; omega
    rw [show (2 : Int) ^ 8 = 256 from by decide]
    rw [hn, Int.add_mul_emod_self_left]
    exact (Int.emod_eq_of_lt (by omega) (by omega)).symm
theorem num_bys (n : Int) (k : Nat) (hn : U64 n) (hk : k ≤ 8) : num (bys n k) = fld n 0 (8 * k) := by
  rw [num_numE, numE_bys, fld_low _ _ (by omega) (by omega)]
  have e : (2 : Int) ^ (8 * k) = two (8 * k) := by unfold two; rw [show (8 * (k : Int)).toNat = 8 * k from by omega]; simp
  rw [e]
  have h1 := two_pos (8 * k)
  have h2 := Int.emod_nonneg n (b := two (8 * k)) (by omega)
  have h3 := Int.emod_lt_of_pos n (b := two (8 * k)) (by omega)
  have h4 := two_le (show (8 * (k : Int)) ≤ 64 by omega)
  rw [two_64] at h4
  exact Int.emod_eq_of_lt h2 (by omega)

theorem Byt.snoc {l : List Int} {x : Int} (h : Byt (l ++ [x])) : Byt l ∧ 0 ≤ x ∧ x ≤ 255 := by
  constructor
  · intro i
    by_cases hi : i < l.length
    · have := h i
      rwa [List.getD_eq_getElem?_getD, List.getElem?_append_left hi, ← List.getD_eq_getElem?_getD] at this
    · rw [List.getD_eq_getElem?_getD, List.getElem?_eq_none (by omega)]; simp
  · have := h l.length
    rw [List.getD_eq_getElem?_getD, List.getElem?_append_right (Nat.le_refl _)] at this
    simpa using this
theorem numE_inj (l : List Int) : ∀ m : List Int, l.length = m.length → Byt l → Byt m → numE l = numE m → l = m := by
  refine snoc_ind (P := fun l => ∀ m : List Int, l.length = m.length → Byt l → Byt m → numE l = numE m → l = m) ?_ ?_ l
  · intro m h _ _ _
    exact (List.eq_nil_of_length_eq_zero (by simpa using h.symm)).symm
  · intro l x ih m hm hl hb he
    rcases List.eq_nil_or_concat m with rfl | ⟨m', y, rfl⟩
    · simp at hm
    · rw [List.concat_eq_append] at *
      rw [numE_snoc, numE_snoc] at he
      obtain ⟨hl1, hx⟩ := hl.snoc
      obtain ⟨hb1, hy⟩ := hb.snoc
      have exy : x = y := by omega
      have := ih m' (by simpa using hm) hl1 hb1 (by omega)
      rw [this, exy]
theorem Byt_bys (n : Int) (k : Nat) : Byt (bys n k) := by
  intro i
  rw [List.getD_eq_getElem?_getD]
  by_cases hi : i < (bys n k).length
  · rw [List.getElem?_eq_getElem hi, Option.getD_some]
    simp only [bys, List.getElem_map]
    exact by8_bd _ _
  · rw [List.getElem?_eq_none (by omega)]; simp
theorem numE_bd (l : List Int) (h : Byt l) : 0 ≤ numE l ∧ numE l < 2 ^ (8 * l.length) := by
  revert h
  refine snoc_ind (P := fun l => Byt l → 0 ≤ numE l ∧ numE l < 2 ^ (8 * l.length)) ?_ ?_ l
  · intro _; simp [numE]
  · intro l x ih h
    obtain ⟨h1, h2⟩ := h.snoc
    have := ih h1
    rw [numE_snoc, List.length_append, List.length_singleton, show 8 * (l.length + 1) = 8 * l.length + 8 from by omega, Int.pow_add, show (2 : Int) ^ 8 = 256 from by decide]
    omega
theorem num_eq_numE (l : List Int) (h : Byt l) (h8 : l.length ≤ 8) : num l = numE l := by
  have hb := numE_bd l h
  have hp : (2 : Int) ^ (8 * l.length) ≤ 2 ^ 64 := by
    have := Nat.pow_le_pow_right (n := 2) (by omega) (show 8 * l.length ≤ 64 by omega)
    exact_mod_cast this
  rw [num_numE]
  exact Int.emod_eq_of_lt hb.1 (Int.lt_of_lt_of_le hb.2 hp)
theorem bys_num (l : List Int) (h : Byt l) (h8 : l.length ≤ 8) : bys (num l) l.length = l := by
  apply numE_inj _ _ (bys_length _ _) (Byt_bys _ _) h
  have hb := numE_bd l h
  rw [numE_bys, num_eq_numE l h h8]
  exact Int.emod_eq_of_lt hb.1 hb.2

end Go.Proofs.Ytdgmmffedhikcaa
/- The reference's bits, for every argument. -/
namespace Go.Proofs.Ytdgmmffedhikcaa
set_option linter.unusedSimpArgs false
set_option linter.unusedVariables false
open Go.RowKit
set_option maxRecDepth 100000

/-- The bytes of a number, of whatever size. -/
def bysA (n s : Int) : List Int := if 0 ≤ s ∧ s ≤ 8 then bys n s.toNat else []
theorem bysA_pos (n s : Int) (h : 0 ≤ s ∧ s ≤ 8) : bysA n s = bys n s.toNat := by unfold bysA; rw [if_pos h]

theorem Bytes_all (n s : Int) (hn : U64 n) (hs : I64 s) (w : World) :
    Calls Try.prog 97 #[.int .u64 n, .int .i64 s] w fun e w' => ∃ v, e = .returned v ∧ SlI .u8 w' v (bysA n s) ∧ More w w' := by
  obtain ⟨s1, s2⟩ := hs
  by_cases h : 0 ≤ s ∧ s ≤ 8
  · obtain ⟨S, rfl⟩ := Int.eq_ofNat_of_zero_le h.1
    rw [bysA_pos _ _ h, Int.toNat_natCast]
    exact Bytes_yes n S hn (by omega) w
  · have HF := Lib.hid (show bysA n s = [] by unfold bysA; rw [if_neg h])
    by_cases h1 : 0 ≤ s
    · have h2 : 8 < s := by omega
      clear h
      go_enter Try.func97, Try.ntmps97
      go_wp2
      go_ret
      exact ⟨_, rfl, by rw [HF.out]; exact SlI.nil _ _, More.refl _⟩
    · clear h
      go_enter Try.func97, Try.ntmps97
      go_wp2
      go_ret
      exact ⟨_, rfl, by rw [HF.out]; exact SlI.nil _ _, More.refl _⟩

end Go.Proofs.Ytdgmmffedhikcaa
