/- Plain laws of bits: what the statements of layer 1 ask. -/
import Derived.Test.YtlnikmcimmnbmaaPlainA
namespace Go.Proofs.Ytlnikmcimmnbmaa
set_option linter.unusedSimpArgs false
set_option linter.unusedVariables false

theorem two_dvd {s : Int} (hs : s ≤ 64) (hs0 : 0 ≤ s) : two s ∣ 18446744073709551616 :=
  ⟨two (64 - s), by rw [← two_add hs0 (by omega), ← two_64]; congr 1; omega⟩

theorem sgd_mod (n s : Int) (h1 : 1 ≤ s) (h2 : s ≤ 64) : sgd n s % two s = n % two s := by
  unfold sgd
  rw [if_neg (by omega)]
  split
  · exact Int.emod_emod_of_dvd _ (Int.dvd_refl _)
  · rw [Int.sub_emod_right]; exact Int.emod_emod_of_dvd _ (Int.dvd_refl _)
theorem sgd_of_mod {n m : Int} (s : Int) (h : n % two s = m % two s) : sgd n s = sgd m s := by unfold sgd; rw [h]
theorem sgd_bd (n s : Int) (h1 : 1 ≤ s) (h2 : s ≤ 64) : -two (s - 1) ≤ sgd n s ∧ sgd n s < two (s - 1) := by
  have b := two_pos (s - 1)
  have q := two_succ (k := s - 1) (by omega)
  rw [show s - 1 + 1 = s from by omega] at q
  have c := Int.emod_nonneg n (b := two s) (by omega)
  have d := Int.emod_lt_of_pos n (b := two s) (by omega)
  unfold sgd
  rw [if_neg (by omega)]
  split <;> omega
theorem wrap_mod (x s : Int) (hs0 : 0 ≤ s) (hs : s ≤ 64) : x % 18446744073709551616 % two s = x % two s := Int.emod_emod_of_dvd _ (two_dvd hs hs0)
theorem sgd_again (n s : Int) (h1 : 1 ≤ s) (h2 : s ≤ 64) : sgd (sgd n s % 18446744073709551616) s = sgd n s := by
  rw [sgd_of_mod s (show sgd n s % 18446744073709551616 % two s = n % two s by rw [wrap_mod _ _ (by omega) h2, sgd_mod n s h1 h2])]
theorem sgd_64 (x : Int) (h : -9223372036854775808 ≤ x ∧ x < 9223372036854775808) : sgd (x % 18446744073709551616) 64 = x := by
  unfold sgd
  rw [if_neg (by omega), two_64, show (64 : Int) - 1 = 63 from rfl, two_63]
  split <;> omega
theorem sgd_range (n s : Int) : -9223372036854775808 ≤ sgd n s ∧ sgd n s < 9223372036854775808 := by
  by_cases h : s < 1 ∨ s > 64
  · unfold sgd; rw [if_pos h]; omega
  · have b := sgd_bd n s (by omega) (by omega)
    have c := two_le (show s - 1 ≤ 63 by omega)
    rw [two_63] at c
    omega
theorem fld_low (n s : Int) (hs0 : 0 ≤ s) (hs : s ≤ 64) : fld n 0 s = n % two s := by
  unfold fld; rw [if_pos ⟨by omega, by omega, hs0, by omega⟩, two_0, Int.ediv_one]
theorem fld_sgd (n s : Int) (h1 : 1 ≤ s) (h2 : s ≤ 64) : fld (sgd n s % 18446744073709551616) 0 s = fld n 0 s := by
  rw [fld_low _ s (by omega) h2, fld_low _ s (by omega) h2, wrap_mod _ _ (by omega) h2, sgd_mod n s h1 h2]

theorem sumBits_congr {f g : Nat → Bool} {s : Int} (h : ∀ i : Nat, (i : Int) < s → f i = g i) : sumBits f s = sumBits g s := by
  unfold sumBits
  have : ofBits f s.toNat = ofBits g s.toNat := by
    apply Nat.eq_of_testBit_eq
    intro i
    rw [ofBits_testBit, ofBits_testBit]
    by_cases hi : i < s.toNat
    · rw [h i (by omega)]
    · simp [hi]
  rw [this]
theorem fld_sum (n a s : Int) (hn : U64 n) (h : May a s) : fld n a s = sumBits (fun i => n.toNat.testBit (a.toNat + i)) s := by
  unfold fld; rw [if_pos h, ← sum_mod _ s (div_U64 n a hn)]
  apply sumBits_congr
  intro i _
  obtain ⟨n1, _⟩ := hn
  obtain ⟨N, rfl⟩ := Int.eq_ofNat_of_zero_le n1
  have : ((N : Int) / two a).toNat = N / 2 ^ a.toNat := by
    unfold two
    rw [show (N : Int) / ((2 ^ a.toNat : Nat) : Int) = ((N / 2 ^ a.toNat : Nat) : Int) from by omega, Int.toNat_natCast]
  rw [this, Int.toNat_natCast, Nat.testBit_div_two_pow, Nat.add_comm]
theorem lay_U64 (n a s v : Int) (hn : U64 n) : U64 (lay n a s v) := by
  unfold lay
  split
  · have := layN_lt n.toNat a.toNat s.toNat v.toNat
    unfold U64; omega
  · exact hn
theorem lay_toNat (n a s v : Int) (h : May a s) : (lay n a s v).toNat = layN n.toNat a.toNat s.toNat v.toNat := by
  unfold lay; rw [if_pos h]; simp
theorem lay_there (n a s v : Int) (hn : U64 n) (hv : U64 v) (h : May a s) : fld (lay n a s v) a s = fld v 0 s := by
  rw [fld_sum _ _ _ (lay_U64 n a s v hn) h, lay_toNat n a s v h]
  obtain ⟨h1, h2, h3, h4⟩ := h
  rw [fld_sum _ _ _ hv ⟨by omega, by omega, h3, by omega⟩]
  apply sumBits_congr
  intro i hi
  try simp only []
  rw [layN_testBit, if_pos (by omega)]
  simp
  omega
theorem nat_bits {N M : Nat} (hN : N < 18446744073709551616) (hM : M < 18446744073709551616) (h : ∀ i, i < 64 → N.testBit i = M.testBit i) : N = M := by
  apply Nat.eq_of_testBit_eq
  intro i
  by_cases hi : i < 64
  · exact h i hi
  · rw [Nat.testBit_lt_two_pow (Nat.lt_of_lt_of_le (m := 2 ^ 64) hN (Nat.pow_le_pow_right (by omega) (by omega))), Nat.testBit_lt_two_pow (Nat.lt_of_lt_of_le (m := 2 ^ 64) hM (Nat.pow_le_pow_right (by omega) (by omega)))]
theorem lay_back (n a s v : Int) (hn : U64 n) (h : May a s) : lay (lay n a s v) a s (n / two a) = n := by
  have e := lay_toNat n a s v h
  have hn' := hn
  obtain ⟨n1, n2⟩ := hn
  obtain ⟨N, rfl⟩ := Int.eq_ofNat_of_zero_le n1
  have e2 : ((N : Int) / two a).toNat = N / 2 ^ a.toNat := by
    unfold two
    rw [show (N : Int) / ((2 ^ a.toNat : Nat) : Int) = ((N / 2 ^ a.toNat : Nat) : Int) from by omega, Int.toNat_natCast]
  have : layN (lay N a s v).toNat a.toNat s.toNat ((N : Int) / two a).toNat = N := by
    apply nat_bits (layN_lt _ _ _ _) (by omega)
    intro i hi
    rw [layN_testBit, e, e2, Nat.testBit_div_two_pow, layN_testBit]
    simp only [hi, decide_true, Bool.true_and, Int.toNat_natCast]
    split
    · congr 1; omega
    · rfl
  unfold lay at *
  rw [if_pos h] at *
  rw [if_pos h] at *
  rw [this]
theorem lay_other (n a s v o : Int) (hn : U64 n) (h : May a s) (ho : 0 ≤ o ∧ o ≤ 63) (hout : ¬ (a ≤ o ∧ o - a < s)) : fld (lay n a s v) o 1 = fld n o 1 := by
  have hm : May o 1 := ⟨ho.1, ho.2, by omega, by omega⟩
  rw [fld_sum _ _ _ (lay_U64 n a s v hn) hm, fld_sum _ _ _ hn hm, lay_toNat n a s v h]
  obtain ⟨h1, h2, h3, h4⟩ := h
  apply sumBits_congr
  intro i hi
  try simp only []
  rw [layN_testBit, if_neg (by omega)]
  have : o.toNat + i < 64 := by omega
  simp [this]
theorem fld_U64 (n a s : Int) (hn : U64 n) : U64 (fld n a s) := by
  unfold fld
  split
  · have d := div_U64 n a hn
    have p := two_pos s
    have h1 := Int.emod_nonneg (n / two a) (b := two s) (by omega)
    have h2 : n / two a % two s ≤ n / two a := by
      have := Int.emod_add_mul_ediv (n / two a) (two s)
      have := Int.mul_nonneg (show 0 ≤ two s by omega) (Int.ediv_nonneg d.1 (show 0 ≤ two s by omega))
      omega
    exact ⟨h1, Int.le_trans h2 d.2⟩
  · exact ⟨by decide, by decide⟩
theorem numE_bys (n : Int) (k : Nat) : numE (bys n k) = n % 2 ^ (8 * k) := by
  induction k with
  | zero => simp [bys, numE, Int.emod_one]
  | succ k ih =>
    rw [bys_succ, show by8 n k :: bys n k = [by8 n k] ++ bys n k from rfl, numE_append, ih, bys_length]
    unfold by8
    rw [show (8 * (k + 1)) = 8 * k + 8 from by omega, Int.pow_add, show ((256 : Int) ^ k) = 2 ^ (8 * k) from by rw [Int.pow_mul]; rfl]
    have e : numE [n / 2 ^ (8 * k) % 256] = n / 2 ^ (8 * k) % 256 := by simp [numE]
    rw [e]
    have hp : (0 : Int) < 2 ^ (8 * k) := Int.pow_pos (by decide)
    have h1 := Int.emod_add_mul_ediv n (2 ^ (8 * k))
    have h2 := Int.emod_add_mul_ediv (n / 2 ^ (8 * k)) 256
    have h3 := Int.emod_nonneg n (b := 2 ^ (8 * k)) (by omega)
    have h4 := Int.emod_lt_of_pos n hp
    have h5 := Int.emod_nonneg (n / 2 ^ (8 * k)) (b := 256) (by omega)
    have h6 := Int.emod_lt_of_pos (n / 2 ^ (8 * k)) (b := 256) (by omega)
    generalize (2 : Int) ^ (8 * k) = P at *
    generalize n % P = R at *
    generalize hq : n / P = Q at *
    generalize Q % 256 = r at *
    generalize Q / 256 = q at *
    have hPr : r * P ≤ 255 * P := Int.mul_le_mul_of_nonneg_right (by omega) (by omega)
    have hP0 : 0 ≤ r * P := Int.mul_nonneg (by omega) (by omega)
    have hn : n = (r * P + R) + (P * 256) * q := by
      rw [← h1, ← h2, Int.mul_add, Int.mul_comm P r, ← Int.mul_assoc]; omega
    rw [show (2 : Int) ^ 8 = 256 from by decide]
    rw [hn, Int.add_mul_emod_self_left]
    exact (Int.emod_eq_of_lt (by omega) (by omega)).symm
theorem num_bys (n : Int) (k : Nat) (hn : U64 n) (hk : k ≤ 8) : num (bys n k) = fld n 0 (8 * k) := by
  rw [num_numE, numE_bys, fld_low _ _ (by omega) (by omega)]
  have e : (2 : Int) ^ (8 * k) = two (8 * k) := by unfold two; rw [show (8 * (k : Int)).toNat = 8 * k from by omega]; simp
  rw [e]
  have h1 := two_pos (8 * k)
  have h2 := Int.emod_nonneg n (b := two (8 * k)) (by omega)
  have h3 := Int.emod_lt_of_pos n (b := two (8 * k)) (by omega)
  have h4 := two_le (show (8 * (k : Int)) ≤ 64 by omega)
  rw [two_64] at h4
  exact Int.emod_eq_of_lt h2 (by omega)

theorem Byt.snoc {l : List Int} {x : Int} (h : Byt (l ++ [x])) : Byt l ∧ 0 ≤ x ∧ x ≤ 255 := by
  constructor
  · intro i
    by_cases hi : i < l.length
    · have := h i
      rwa [List.getD_eq_getElem?_getD, List.getElem?_append_left hi, ← List.getD_eq_getElem?_getD] at this
    · rw [List.getD_eq_getElem?_getD, List.getElem?_eq_none (by omega)]; simp
  · have := h l.length
    rw [List.getD_eq_getElem?_getD, List.getElem?_append_right (Nat.le_refl _)] at this
    simpa using this
theorem numE_inj (l : List Int) : ∀ m : List Int, l.length = m.length → Byt l → Byt m → numE l = numE m → l = m := by
  refine snoc_ind (P := fun l => ∀ m : List Int, l.length = m.length → Byt l → Byt m → numE l = numE m → l = m) ?_ ?_ l
  · intro m h _ _ _
    exact (List.eq_nil_of_length_eq_zero (by simpa using h.symm)).symm
  · intro l x ih m hm hl hb he
    rcases List.eq_nil_or_concat m with rfl | ⟨m', y, rfl⟩
    · simp at hm
    · rw [List.concat_eq_append] at *
      rw [numE_snoc, numE_snoc] at he
      obtain ⟨hl1, hx⟩ := hl.snoc
      obtain ⟨hb1, hy⟩ := hb.snoc
      have exy : x = y := by omega
      have := ih m' (by simpa using hm) hl1 hb1 (by omega)
      rw [this, exy]
theorem Byt_bys (n : Int) (k : Nat) : Byt (bys n k) := by
  intro i
  rw [List.getD_eq_getElem?_getD]
  by_cases hi : i < (bys n k).length
  · rw [List.getElem?_eq_getElem hi, Option.getD_some]
    simp only [bys, List.getElem_map]
    exact by8_bd _ _
  · rw [List.getElem?_eq_none (by omega)]; simp
theorem numE_bd (l : List Int) (h : Byt l) : 0 ≤ numE l ∧ numE l < 2 ^ (8 * l.length) := by
  revert h
  refine snoc_ind (P := fun l => Byt l → 0 ≤ numE l ∧ numE l < 2 ^ (8 * l.length)) ?_ ?_ l
  · intro _; simp [numE]
  · intro l x ih h
    obtain ⟨h1, h2⟩ := h.snoc
    have := ih h1
    rw [numE_snoc, List.length_append, List.length_singleton, show 8 * (l.length + 1) = 8 * l.length + 8 from by omega, Int.pow_add, show (2 : Int) ^ 8 = 256 from by decide]
    omega
theorem num_eq_numE (l : List Int) (h : Byt l) (h8 : l.length ≤ 8) : num l = numE l := by
  have hb := numE_bd l h
  have hp : (2 : Int) ^ (8 * l.length) ≤ 2 ^ 64 := by
    have := Nat.pow_le_pow_right (n := 2) (by omega) (show 8 * l.length ≤ 64 by omega)
    exact_mod_cast this
  rw [num_numE]
  exact Int.emod_eq_of_lt hb.1 (Int.lt_of_lt_of_le hb.2 hp)
theorem bys_num (l : List Int) (h : Byt l) (h8 : l.length ≤ 8) : bys (num l) l.length = l := by
  apply numE_inj _ _ (bys_length _ _) (Byt_bys _ _) h
  have hb := numE_bd l h
  rw [numE_bys, num_eq_numE l h h8]
  exact Int.emod_eq_of_lt hb.1 hb.2

end Go.Proofs.Ytlnikmcimmnbmaa
